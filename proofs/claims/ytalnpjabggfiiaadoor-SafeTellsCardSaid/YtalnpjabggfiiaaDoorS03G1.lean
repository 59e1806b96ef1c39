/-
  Seat 03: functional forms of the functions that call none.
-/
import Derived.Test.YtalnpjabggfiiaaDoorS03A
open Go Go.En Go.S3
namespace Go.S3
noncomputable def C1 : Ctx := ctxOf C0 []
def h12 : Hn := ⟨fun | 3 => [0, 1] | _ => [], fun _ => [], fun _ => false⟩
def h16 : Hn := ⟨fun | 1 => [0, 1] | _ => [], fun _ => [], fun _ => false⟩

abbrev f9h : Hn := hn0
noncomputable abbrev f9f : Func := fn 9
noncomputable def f9T  (a : Int) (b : Int) : Option Lf :=
 bif decide (a < 0) == decide (b < 0) && !decide (IntKind.i64.wrap (a + b) < 0) == decide (a < 0) then
  some (Lf.mk [(Pt.one (L.d (Pv.fz true) (Sh.i IntKind.i64) (0 : Int))), (Pt.one (L.d (Pv.fz true) Sh.e (Er.no 10 : Er)))] [] [])
 else
  some (Lf.mk [(Pt.one (L.d (Pv.fz true) (Sh.i IntKind.i64) (IntKind.i64.wrap (a + b) : Int))), (Pt.one (L.d (Pv.fz true) Sh.e (Er.nil : Er)))] [] [])
noncomputable def f9M (_ : Nat) (a : Int) (b : Int) : Option Lf := f9T  a b
theorem f9T_ev (n : Nat) (a : Int) (b : Int) : evF C1 f9h n f9f [(D.p (Pt.one (L.d (Pv.fz true) (Sh.i IntKind.i64) a))), (D.p (Pt.one (L.d (Pv.fz true) (Sh.i IntKind.i64) b)))] [] = f9T  a b := by kernel_rfl
theorem f9_ev (n : Nat) (a : Int) (b : Int) : evF C1 f9h n f9f [(D.p (Pt.one (L.d (Pv.fz true) (Sh.i IntKind.i64) a))), (D.p (Pt.one (L.d (Pv.fz true) (Sh.i IntKind.i64) b)))] [] = f9M n a b := by
  rw [f9T_ev]
  rfl

abbrev f10h : Hn := hn0
noncomputable abbrev f10f : Func := fn 10
noncomputable def f10T  (a : Int) (b : Int) : Option Lf :=
 bif !decide (a < 0) == decide (b < 0) && !decide (IntKind.i64.wrap (a - b) < 0) == decide (a < 0) then
  some (Lf.mk [(Pt.one (L.d (Pv.fz true) (Sh.i IntKind.i64) (0 : Int))), (Pt.one (L.d (Pv.fz true) Sh.e (Er.no 10 : Er)))] [] [])
 else
  some (Lf.mk [(Pt.one (L.d (Pv.fz true) (Sh.i IntKind.i64) (IntKind.i64.wrap (a - b) : Int))), (Pt.one (L.d (Pv.fz true) Sh.e (Er.nil : Er)))] [] [])
noncomputable def f10M (_ : Nat) (a : Int) (b : Int) : Option Lf := f10T  a b
theorem f10T_ev (n : Nat) (a : Int) (b : Int) : evF C1 f10h n f10f [(D.p (Pt.one (L.d (Pv.fz true) (Sh.i IntKind.i64) a))), (D.p (Pt.one (L.d (Pv.fz true) (Sh.i IntKind.i64) b)))] [] = f10T  a b := by kernel_rfl
theorem f10_ev (n : Nat) (a : Int) (b : Int) : evF C1 f10h n f10f [(D.p (Pt.one (L.d (Pv.fz true) (Sh.i IntKind.i64) a))), (D.p (Pt.one (L.d (Pv.fz true) (Sh.i IntKind.i64) b)))] [] = f10M n a b := by
  rw [f10T_ev]
  rfl

abbrev f11h : Hn := hn0
noncomputable abbrev f11f : Func := fn 11
noncomputable def f11T  (a : Int) (b : Int) : Option Lf :=
 bif a == 0 || b == 0 then
  some (Lf.mk [(Pt.one (L.d (Pv.fz true) (Sh.i IntKind.i64) (0 : Int))), (Pt.one (L.d (Pv.fz true) Sh.e (Er.nil : Er)))] [] [])
 else
  bif bif a == -1 then b == -9223372036854775808 || bif b == -1 then a == -9223372036854775808 || decide (b ≠ 0) && true else decide (b ≠ 0) && true else bif b == -1 then a == -9223372036854775808 || decide (b ≠ 0) && true else decide (b ≠ 0) && true then
   bif bif a == -1 then b == -9223372036854775808 || bif b == -1 then a == -9223372036854775808 || IntKind.i64.wrap ((IntKind.i64.wrap (a * b)).tdiv b) != a else IntKind.i64.wrap ((IntKind.i64.wrap (a * b)).tdiv b) != a else bif b == -1 then a == -9223372036854775808 || IntKind.i64.wrap ((IntKind.i64.wrap (a * b)).tdiv b) != a else IntKind.i64.wrap ((IntKind.i64.wrap (a * b)).tdiv b) != a then
    some (Lf.mk [(Pt.one (L.d (Pv.fz true) (Sh.i IntKind.i64) (0 : Int))), (Pt.one (L.d (Pv.fz true) Sh.e (Er.no 10 : Er)))] [] [])
   else
    some (Lf.mk [(Pt.one (L.d (Pv.fz true) (Sh.i IntKind.i64) (IntKind.i64.wrap (a * b) : Int))), (Pt.one (L.d (Pv.fz true) Sh.e (Er.nil : Er)))] [] [])
  else
   none
noncomputable def f11M (_ : Nat) (a : Int) (b : Int) : Option Lf := f11T  a b
theorem f11T_ev (n : Nat) (a : Int) (b : Int) : evF C1 f11h n f11f [(D.p (Pt.one (L.d (Pv.fz true) (Sh.i IntKind.i64) a))), (D.p (Pt.one (L.d (Pv.fz true) (Sh.i IntKind.i64) b)))] [] = f11T  a b := by kernel_rfl
theorem f11_ev (n : Nat) (a : Int) (b : Int) : evF C1 f11h n f11f [(D.p (Pt.one (L.d (Pv.fz true) (Sh.i IntKind.i64) a))), (D.p (Pt.one (L.d (Pv.fz true) (Sh.i IntKind.i64) b)))] [] = f11M n a b := by
  rw [f11T_ev]
  rfl

abbrev f12h : Hn := h12
noncomputable abbrev f12f : Func := fn 12
abbrev f12G0 := Int → Int → Option Lf
noncomputable def f12H0 (x0_0 : Int) (x0_1 : Int) : St := (St.mk [(D.p (Pt.one (L.d (Pv.fz true) (Sh.i IntKind.i64) x0_0))), (D.p (Pt.one (L.d (Pv.fz true) (Sh.i IntKind.i64) x0_1))), dead, dead, dead, dead, dead, dead, dead, dead, dead, dead, dead, dead, dead, dead, dead, dead, dead, dead] [[], []])
noncomputable def f12S0  (g0 : f12G0) (x0_0 : Int) (x0_1 : Int) : Option Lf :=
 bif x0_1 != 0 then
  bif decide (x0_1 ≠ 0) then
   g0 (x0_1 : Int) (x0_0.tmod x0_1 : Int)
  else
   none
 else
  some (Lf.mk [(Pt.one (L.d (Pv.fz true) (Sh.i IntKind.i64) (x0_0 : Int))), (Pt.one (L.d (Pv.fz true) Sh.e (Er.nil : Er)))] [] [])
noncomputable def f12L0 (n : Nat)  : Nat → f12G0
  | 0 => fun _ _ => none
  | m + 1 => fun x0_0 x0_1 => f12S0   (f12L0 n  m) x0_0 x0_1
noncomputable def f12W0 (G : St → Option Lf) : f12G0 := fun x0_0 x0_1 => G (f12H0 x0_0 x0_1)
theorem f12S0_ev (n : Nat)  (G : St → Option Lf) (x0_0 : Int) (x0_1 : Int) : rnd C1 f12h n Lf (codeOf f12f) [1, 1, 0, 0] [] (endK C1 f12h f12f) G (f12H0 x0_0 x0_1) = f12S0   (f12W0 G) x0_0 x0_1 := by kernel_rfl
theorem f12W0_ev (n : Nat)  : ∀ m, (f12W0 (lp C1 f12h n Lf (codeOf f12f) [1, 1, 0, 0] [] (endK C1 f12h f12f) m)) = f12L0 n  m := by
  intro m
  induction m with
  | zero => funext x0_0 x0_1; exact lp_zero _
  | succ m ih =>
    funext x0_0 x0_1
    show lp C1 f12h n Lf (codeOf f12f) [1, 1, 0, 0] [] (endK C1 f12h f12f) (m + 1) (f12H0 x0_0 x0_1) = f12S0   (f12L0 n  m) x0_0 x0_1
    rw [lp_succ, f12S0_ev, ih]
noncomputable def f12T (l0 : f12G0) (a : Int) (b : Int) : Option Lf :=
 bif decide (a < 0) || decide (b < 0) then
  some (Lf.mk [(Pt.one (L.d (Pv.fz true) (Sh.i IntKind.i64) (0 : Int))), (Pt.one (L.d (Pv.fz true) Sh.e (Er.no 1 : Er)))] [] [])
 else
  l0 (a : Int) (b : Int)
noncomputable def f12M (n : Nat) (a : Int) (b : Int) : Option Lf := f12T (f12L0 n n) a b
theorem f12T_ev (n : Nat) (a : Int) (b : Int) : evF C1 f12h n f12f [(D.p (Pt.one (L.d (Pv.fz true) (Sh.i IntKind.i64) a))), (D.p (Pt.one (L.d (Pv.fz true) (Sh.i IntKind.i64) b)))] [] = f12T (f12W0 (lp C1 f12h n Lf (codeOf f12f) [1, 1, 0, 0] [] (endK C1 f12h f12f) n)) a b := by kernel_rfl
theorem f12_ev (n : Nat) (a : Int) (b : Int) : evF C1 f12h n f12f [(D.p (Pt.one (L.d (Pv.fz true) (Sh.i IntKind.i64) a))), (D.p (Pt.one (L.d (Pv.fz true) (Sh.i IntKind.i64) b)))] [] = f12M n a b := by
  rw [f12T_ev, f12W0_ev]
  rfl

abbrev f16h : Hn := h16
noncomputable abbrev f16f : Func := fn 16
abbrev f16G0 := Int → Int → Option Lf
noncomputable def f16H0 (x0_0 : Int) (x0_1 : Int) : St := (St.mk [(D.p (Pt.one (L.d (Pv.fz true) (Sh.i IntKind.i64) x0_0))), (D.p (Pt.one (L.d (Pv.fz true) (Sh.i IntKind.i64) x0_1))), dead, dead, dead, dead, dead, dead, dead, dead, dead, dead, dead, dead, dead, dead, dead, dead, dead, dead, dead, dead, dead] [[], []])
noncomputable def f16S0  (g0 : f16G0) (x0_0 : Int) (x0_1 : Int) : Option Lf :=
 bif x0_0 != 0 && x0_1 != 0 then
  bif decide (x0_0 ≥ x0_1) then
   bif decide (x0_1 ≠ 0) then
    g0 (x0_0.tmod x0_1 : Int) (x0_1 : Int)
   else
    none
  else
   bif decide (x0_0 ≠ 0) then
    g0 (x0_0 : Int) (x0_1.tmod x0_0 : Int)
   else
    none
 else
  some (Lf.mk [(Pt.one (L.d (Pv.fz true) (Sh.i IntKind.i64) (IntKind.i64.wrap (x0_0 + x0_1) : Int)))] [] [])
noncomputable def f16L0 (n : Nat)  : Nat → f16G0
  | 0 => fun _ _ => none
  | m + 1 => fun x0_0 x0_1 => f16S0   (f16L0 n  m) x0_0 x0_1
noncomputable def f16W0 (G : St → Option Lf) : f16G0 := fun x0_0 x0_1 => G (f16H0 x0_0 x0_1)
theorem f16S0_ev (n : Nat)  (G : St → Option Lf) (x0_0 : Int) (x0_1 : Int) : rnd C1 f16h n Lf (codeOf f16f) [1, 0, 0] [] (endK C1 f16h f16f) G (f16H0 x0_0 x0_1) = f16S0   (f16W0 G) x0_0 x0_1 := by kernel_rfl
theorem f16W0_ev (n : Nat)  : ∀ m, (f16W0 (lp C1 f16h n Lf (codeOf f16f) [1, 0, 0] [] (endK C1 f16h f16f) m)) = f16L0 n  m := by
  intro m
  induction m with
  | zero => funext x0_0 x0_1; exact lp_zero _
  | succ m ih =>
    funext x0_0 x0_1
    show lp C1 f16h n Lf (codeOf f16f) [1, 0, 0] [] (endK C1 f16h f16f) (m + 1) (f16H0 x0_0 x0_1) = f16S0   (f16L0 n  m) x0_0 x0_1
    rw [lp_succ, f16S0_ev, ih]
noncomputable def f16T (l0 : f16G0) (a : Int) (b : Int) : Option Lf :=
 l0 (a : Int) (b : Int)
noncomputable def f16M (n : Nat) (a : Int) (b : Int) : Option Lf := f16T (f16L0 n n) a b
theorem f16T_ev (n : Nat) (a : Int) (b : Int) : evF C1 f16h n f16f [(D.p (Pt.one (L.d (Pv.fz true) (Sh.i IntKind.i64) a))), (D.p (Pt.one (L.d (Pv.fz true) (Sh.i IntKind.i64) b)))] [] = f16T (f16W0 (lp C1 f16h n Lf (codeOf f16f) [1, 0, 0] [] (endK C1 f16h f16f) n)) a b := by kernel_rfl
theorem f16_ev (n : Nat) (a : Int) (b : Int) : evF C1 f16h n f16f [(D.p (Pt.one (L.d (Pv.fz true) (Sh.i IntKind.i64) a))), (D.p (Pt.one (L.d (Pv.fz true) (Sh.i IntKind.i64) b)))] [] = f16M n a b := by
  rw [f16T_ev, f16W0_ev]
  rfl

abbrev f23h : Hn := hn0
noncomputable abbrev f23f : Func := fn 23
noncomputable def f23T  (a : Int) : Option Lf :=
 bif decide (a < 0) then
  some (Lf.mk [(Pt.one (L.d (Pv.fz true) (Sh.i IntKind.u64) (IntKind.u64.wrap (IntKind.u64.wrap (IntKind.i64.wrap (0 - IntKind.i64.wrap (a + 1))) + 1) : Int)))] [] [])
 else
  some (Lf.mk [(Pt.one (L.d (Pv.fz true) (Sh.i IntKind.u64) (IntKind.u64.wrap a : Int)))] [] [])
noncomputable def f23M (_ : Nat) (a : Int) : Option Lf := f23T  a
theorem f23T_ev (n : Nat) (a : Int) : evF C1 f23h n f23f [(D.p (Pt.one (L.d (Pv.fz true) (Sh.i IntKind.i64) a)))] [] = f23T  a := by kernel_rfl
theorem f23_ev (n : Nat) (a : Int) : evF C1 f23h n f23f [(D.p (Pt.one (L.d (Pv.fz true) (Sh.i IntKind.i64) a)))] [] = f23M n a := by
  rw [f23T_ev]
  rfl

abbrev f25h : Hn := hn0
noncomputable abbrev f25f : Func := fn 25
noncomputable def f25T  (a : Int) (b : Int) : Option Lf :=
 some (Lf.mk [(Pt.one (L.d (Pv.fz true) (Sh.i IntKind.u64) (IntKind.u64.wrap (IntKind.u64.wrap (IntKind.u64.wrap (shrF IntKind.u64 a 32 * shrF IntKind.u64 b 32) + shrF IntKind.u64 (IntKind.u64.wrap (IntKind.u64.wrap (shrF IntKind.u64 a 32 * bitsF BinOp.and IntKind.u64 b 4294967295) + shrF IntKind.u64 (IntKind.u64.wrap (bitsF BinOp.and IntKind.u64 a 4294967295 * bitsF BinOp.and IntKind.u64 b 4294967295)) 32)) 32) + shrF IntKind.u64 (IntKind.u64.wrap (bitsF BinOp.and IntKind.u64 (IntKind.u64.wrap (IntKind.u64.wrap (shrF IntKind.u64 a 32 * bitsF BinOp.and IntKind.u64 b 4294967295) + shrF IntKind.u64 (IntKind.u64.wrap (bitsF BinOp.and IntKind.u64 a 4294967295 * bitsF BinOp.and IntKind.u64 b 4294967295)) 32)) 4294967295 + IntKind.u64.wrap (bitsF BinOp.and IntKind.u64 a 4294967295 * shrF IntKind.u64 b 32))) 32) : Int))), (Pt.one (L.d (Pv.fz true) (Sh.i IntKind.u64) (IntKind.u64.wrap (a * b) : Int)))] [] [])
noncomputable def f25M (_ : Nat) (a : Int) (b : Int) : Option Lf := f25T  a b
theorem f25T_ev (n : Nat) (a : Int) (b : Int) : evF C1 f25h n f25f [(D.p (Pt.one (L.d (Pv.fz true) (Sh.i IntKind.u64) a))), (D.p (Pt.one (L.d (Pv.fz true) (Sh.i IntKind.u64) b)))] [] = f25T  a b := by kernel_rfl
theorem f25_ev (n : Nat) (a : Int) (b : Int) : evF C1 f25h n f25f [(D.p (Pt.one (L.d (Pv.fz true) (Sh.i IntKind.u64) a))), (D.p (Pt.one (L.d (Pv.fz true) (Sh.i IntKind.u64) b)))] [] = f25M n a b := by
  rw [f25T_ev]
  rfl

abbrev f24h : Hn := hn0
noncomputable abbrev f24f : Func := fn 24
noncomputable def f24T  (a : Int) (b : Int) (c : Bool) : Option Lf :=
 bif decide (a > 0) then
  some (Lf.mk [(Pt.one (L.d (Pv.fz true) (Sh.i IntKind.i64) (0 : Int))), (Pt.one (L.d (Pv.fz true) Sh.b (false : Bool)))] [] [])
 else
  bif c then
   bif decide (b > 9223372036854775808) then
    some (Lf.mk [(Pt.one (L.d (Pv.fz true) (Sh.i IntKind.i64) (0 : Int))), (Pt.one (L.d (Pv.fz true) Sh.b (false : Bool)))] [] [])
   else
    bif b == 9223372036854775808 then
     some (Lf.mk [(Pt.one (L.d (Pv.fz true) (Sh.i IntKind.i64) (-9223372036854775808 : Int))), (Pt.one (L.d (Pv.fz true) Sh.b (true : Bool)))] [] [])
    else
     some (Lf.mk [(Pt.one (L.d (Pv.fz true) (Sh.i IntKind.i64) (IntKind.i64.wrap (0 - IntKind.i64.wrap b) : Int))), (Pt.one (L.d (Pv.fz true) Sh.b (true : Bool)))] [] [])
  else
   bif decide (b ≥ 9223372036854775808) then
    some (Lf.mk [(Pt.one (L.d (Pv.fz true) (Sh.i IntKind.i64) (0 : Int))), (Pt.one (L.d (Pv.fz true) Sh.b (false : Bool)))] [] [])
   else
    some (Lf.mk [(Pt.one (L.d (Pv.fz true) (Sh.i IntKind.i64) (IntKind.i64.wrap b : Int))), (Pt.one (L.d (Pv.fz true) Sh.b (true : Bool)))] [] [])
noncomputable def f24M (_ : Nat) (a : Int) (b : Int) (c : Bool) : Option Lf := f24T  a b c
theorem f24T_ev (n : Nat) (a : Int) (b : Int) (c : Bool) : evF C1 f24h n f24f [(D.p (Pt.agg [(L.d (Pv.fz true) (Sh.i IntKind.u64) a), (L.d (Pv.fz true) (Sh.i IntKind.u64) b), (L.d (Pv.fz true) Sh.b c)]))] [] = f24T  a b c := by kernel_rfl
theorem f24_ev (n : Nat) (a : Int) (b : Int) (c : Bool) : evF C1 f24h n f24f [(D.p (Pt.agg [(L.d (Pv.fz true) (Sh.i IntKind.u64) a), (L.d (Pv.fz true) (Sh.i IntKind.u64) b), (L.d (Pv.fz true) Sh.b c)]))] [] = f24M n a b c := by
  rw [f24T_ev]
  rfl
end Go.S3
