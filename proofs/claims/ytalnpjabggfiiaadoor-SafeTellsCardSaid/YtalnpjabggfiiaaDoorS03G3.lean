/-
  Seat 03: functional forms of the laws.
-/
import Derived.Test.YtalnpjabggfiiaaDoorS03C
open Go Go.En Go.S3
namespace Go.S3
noncomputable def l3 : List (Nat × En.Spec) := (8, aliveS) :: (13, spI neg) :: (14, sumS) :: (17, spIB radd) :: (18, isS) :: (20, spIB rmul) :: l2
noncomputable def C3 : Ctx := ctxOf C0 l3
def vL (l : List Int) : D := one (.d (.fz false) (.l (.i .i64)) l)
def h6 : Hn := ⟨fun | 14 => [2, 9, 10, 11, 12, 13] | _ => [], fun _ => [], fun _ => false⟩

abbrev f19h : Hn := hn0
noncomputable abbrev f19f : Func := fn 19
noncomputable def f19T  (a : Int) (b : Int) : Option Lf :=
 bif b == -9223372036854775808 then
  bif decide (a ≥ 0) then
   some (Lf.mk [(Pt.one (L.d (Pv.fz true) (Sh.i IntKind.i64) (0 : Int))), (Pt.one (L.d (Pv.fz true) Sh.b (false : Bool)))] [] [])
  else
   some (Lf.mk [(Pt.one (L.d (Pv.fz true) (Sh.i IntKind.i64) ((fits 0 (IntKind.u64.wrap (9223372036854775808 - size a)) false).fst : Int))), (Pt.one (L.d (Pv.fz true) Sh.b ((fits 0 (IntKind.u64.wrap (9223372036854775808 - size a)) false).snd : Bool)))] [] [])
 else
  some (Lf.mk [(Pt.one (L.d (Pv.fz true) (Sh.i IntKind.i64) ((radd a (IntKind.i64.wrap (0 - b))).fst : Int))), (Pt.one (L.d (Pv.fz true) Sh.b ((radd a (IntKind.i64.wrap (0 - b))).snd : Bool)))] [] [])
noncomputable def f19M (_ : Nat) (a : Int) (b : Int) : Option Lf := f19T  a b
theorem f19T_ev (n : Nat) (a : Int) (b : Int) : evF C3 f19h n f19f [(D.p (Pt.one (L.d (Pv.fz true) (Sh.i IntKind.i64) a))), (D.p (Pt.one (L.d (Pv.fz true) (Sh.i IntKind.i64) b)))] [] = f19T  a b := by kernel_rfl
theorem f19_ev (n : Nat) (a : Int) (b : Int) : evF C3 f19h n f19f [(D.p (Pt.one (L.d (Pv.fz true) (Sh.i IntKind.i64) a))), (D.p (Pt.one (L.d (Pv.fz true) (Sh.i IntKind.i64) b)))] [] = f19M n a b := by
  rw [f19T_ev]
  rfl

abbrev f3h : Hn := hn0
noncomputable abbrev f3f : Func := fn 3
noncomputable def f3T  (a : Int) (b : Int) : Option Lf :=
 bif (add a b).snd.isNil then
  bif !(sub (add a b).fst b).snd.isNil || (sub (add a b).fst b).fst != a then
   some (Lf.mk [(Pt.one (L.d (Pv.fz true) Sh.b (false : Bool)))] [] [])
  else
   bif bif (mul a b).snd.isNil then bif b != 0 then decide (b ≠ 0) && ((mul a b).fst.tmod b != 0 || bif b != -1 then decide (b ≠ 0) && true else true) else true else true then
    bif (mul a b).snd.isNil && (b != 0 && ((mul a b).fst.tmod b != 0 || b != -1 && IntKind.i64.wrap ((mul a b).fst.tdiv b) != a)) then
     some (Lf.mk [(Pt.one (L.d (Pv.fz true) Sh.b (false : Bool)))] [] [])
    else
     bif !(gcd a b).snd.isNil || bif (gcd a b).fst == 0 then bif a == 0 then b == 0 || bif decide ((gcd a b).fst > 0) then decide ((gcd a b).fst ≠ 0) && bif a.tmod (gcd a b).fst == 0 then decide ((gcd a b).fst ≠ 0) && true else true else true else bif decide ((gcd a b).fst > 0) then decide ((gcd a b).fst ≠ 0) && bif a.tmod (gcd a b).fst == 0 then decide ((gcd a b).fst ≠ 0) && true else true else true else bif decide ((gcd a b).fst > 0) then decide ((gcd a b).fst ≠ 0) && bif a.tmod (gcd a b).fst == 0 then decide ((gcd a b).fst ≠ 0) && true else true else true then
      some (Lf.mk [(Pt.one (L.d (Pv.fz true) Sh.b (!(gcd a b).snd.isNil || bif (gcd a b).fst == 0 then bif a == 0 then b == 0 || decide ((gcd a b).fst > 0) && (a.tmod (gcd a b).fst == 0 && b.tmod (gcd a b).fst == 0) else decide ((gcd a b).fst > 0) && (a.tmod (gcd a b).fst == 0 && b.tmod (gcd a b).fst == 0) else decide ((gcd a b).fst > 0) && (a.tmod (gcd a b).fst == 0 && b.tmod (gcd a b).fst == 0) : Bool)))] [] [])
     else
      none
   else
    none
 else
  bif bif (mul a b).snd.isNil then bif b != 0 then decide (b ≠ 0) && ((mul a b).fst.tmod b != 0 || bif b != -1 then decide (b ≠ 0) && true else true) else true else true then
   bif (mul a b).snd.isNil && (b != 0 && ((mul a b).fst.tmod b != 0 || b != -1 && IntKind.i64.wrap ((mul a b).fst.tdiv b) != a)) then
    some (Lf.mk [(Pt.one (L.d (Pv.fz true) Sh.b (false : Bool)))] [] [])
   else
    bif !(gcd a b).snd.isNil || bif (gcd a b).fst == 0 then bif a == 0 then b == 0 || bif decide ((gcd a b).fst > 0) then decide ((gcd a b).fst ≠ 0) && bif a.tmod (gcd a b).fst == 0 then decide ((gcd a b).fst ≠ 0) && true else true else true else bif decide ((gcd a b).fst > 0) then decide ((gcd a b).fst ≠ 0) && bif a.tmod (gcd a b).fst == 0 then decide ((gcd a b).fst ≠ 0) && true else true else true else bif decide ((gcd a b).fst > 0) then decide ((gcd a b).fst ≠ 0) && bif a.tmod (gcd a b).fst == 0 then decide ((gcd a b).fst ≠ 0) && true else true else true then
     some (Lf.mk [(Pt.one (L.d (Pv.fz true) Sh.b (!(gcd a b).snd.isNil || bif (gcd a b).fst == 0 then bif a == 0 then b == 0 || decide ((gcd a b).fst > 0) && (a.tmod (gcd a b).fst == 0 && b.tmod (gcd a b).fst == 0) else decide ((gcd a b).fst > 0) && (a.tmod (gcd a b).fst == 0 && b.tmod (gcd a b).fst == 0) else decide ((gcd a b).fst > 0) && (a.tmod (gcd a b).fst == 0 && b.tmod (gcd a b).fst == 0) : Bool)))] [] [])
    else
     none
  else
   none
noncomputable def f3M (_ : Nat) (a : Int) (b : Int) : Option Lf := f3T  a b
theorem f3T_ev (n : Nat) (a : Int) (b : Int) : evF C3 f3h n f3f [(D.p (Pt.one (L.d (Pv.fz true) (Sh.i IntKind.i64) a))), (D.p (Pt.one (L.d (Pv.fz true) (Sh.i IntKind.i64) b)))] [] = f3T  a b := by kernel_rfl
theorem f3_ev (n : Nat) (a : Int) (b : Int) : evF C3 f3h n f3f [(D.p (Pt.one (L.d (Pv.fz true) (Sh.i IntKind.i64) a))), (D.p (Pt.one (L.d (Pv.fz true) (Sh.i IntKind.i64) b)))] [] = f3M n a b := by
  rw [f3T_ev]
  rfl

abbrev f4h : Hn := hn0
noncomputable abbrev f4f : Func := fn 4
noncomputable def f4T  (a : Int) (b : Int) (c : Int) : Option Lf :=
 bif (add a b).fst != (add b a).fst || ((mul a b).fst != (mul b a).fst || (!(add a b).snd.isNil == (add b a).snd.isNil || !(mul a b).snd.isNil == (mul b a).snd.isNil)) then
  some (Lf.mk [(Pt.one (L.d (Pv.fz true) Sh.b (false : Bool)))] [] [])
 else
  bif (neg a).fst != (sub 0 a).fst || !(neg a).snd.isNil == (sub 0 a).snd.isNil then
   some (Lf.mk [(Pt.one (L.d (Pv.fz true) Sh.b (false : Bool)))] [] [])
  else
   bif !(add a b).snd.isNil then
    some (Lf.mk [(Pt.one (L.d (Pv.fz true) Sh.b (true : Bool)))] [] [])
   else
    bif !(mul (add a b).fst c).snd.isNil || (!(mul a c).snd.isNil || !(mul b c).snd.isNil) then
     some (Lf.mk [(Pt.one (L.d (Pv.fz true) Sh.b (true : Bool)))] [] [])
    else
     some (Lf.mk [(Pt.one (L.d (Pv.fz true) Sh.b ((add (mul a c).fst (mul b c).fst).snd.isNil && (add (mul a c).fst (mul b c).fst).fst == (mul (add a b).fst c).fst : Bool)))] [] [])
noncomputable def f4M (_ : Nat) (a : Int) (b : Int) (c : Int) : Option Lf := f4T  a b c
theorem f4T_ev (n : Nat) (a : Int) (b : Int) (c : Int) : evF C3 f4h n f4f [(D.p (Pt.one (L.d (Pv.fz true) (Sh.i IntKind.i64) a))), (D.p (Pt.one (L.d (Pv.fz true) (Sh.i IntKind.i64) b))), (D.p (Pt.one (L.d (Pv.fz true) (Sh.i IntKind.i64) c)))] [] = f4T  a b c := by kernel_rfl
theorem f4_ev (n : Nat) (a : Int) (b : Int) (c : Int) : evF C3 f4h n f4f [(D.p (Pt.one (L.d (Pv.fz true) (Sh.i IntKind.i64) a))), (D.p (Pt.one (L.d (Pv.fz true) (Sh.i IntKind.i64) b))), (D.p (Pt.one (L.d (Pv.fz true) (Sh.i IntKind.i64) c)))] [] = f4M n a b c := by
  rw [f4T_ev]
  rfl

abbrev f5h : Hn := hn0
noncomputable abbrev f5f : Func := fn 5
noncomputable def f5T  (l : List Int) (b : Int) : Option Lf :=
 bif decide (zn l.length > 1000) then
  some (Lf.mk [(Pt.one (L.d (Pv.fz true) Sh.b (true : Bool)))] [] [])
 else
  bif decide (IntKind.i64.wrap (zn l.length + 1) ≠ 0) then
   bif l.length.ble 9223372036854775806 then
    bif inb2 0 ((IntKind.i64.wrap b).tmod (IntKind.i64.wrap (zn l.length + 1))) l.length then
     bif (List.drop (Int.toNat 0) (List.take ((IntKind.i64.wrap b).tmod (IntKind.i64.wrap (zn l.length + 1))).toNat l)).length.ble 9223372036854775806 then
      bif inb2 ((IntKind.i64.wrap b).tmod (IntKind.i64.wrap (zn l.length + 1))) (zn l.length) l.length then
       bif (List.drop ((IntKind.i64.wrap b).tmod (IntKind.i64.wrap (zn l.length + 1))).toNat (List.take (zn l.length).toNat l)).length.ble 9223372036854775806 then
        bif !(sum (List.drop (Int.toNat 0) (List.take ((IntKind.i64.wrap b).tmod (IntKind.i64.wrap (zn l.length + 1))).toNat l))).snd.isNil then
         some (Lf.mk [(Pt.one (L.d (Pv.fz true) Sh.b (!(sum l).snd.isNil : Bool)))] [] [])
        else
         bif !(sum l).snd.isNil || !(sum (List.drop ((IntKind.i64.wrap b).tmod (IntKind.i64.wrap (zn l.length + 1))).toNat (List.take (zn l.length).toNat l))).snd.isNil then
          some (Lf.mk [(Pt.one (L.d (Pv.fz true) Sh.b (true : Bool)))] [] [])
         else
          some (Lf.mk [(Pt.one (L.d (Pv.fz true) Sh.b ((add (sum (List.drop (Int.toNat 0) (List.take ((IntKind.i64.wrap b).tmod (IntKind.i64.wrap (zn l.length + 1))).toNat l))).fst (sum (List.drop ((IntKind.i64.wrap b).tmod (IntKind.i64.wrap (zn l.length + 1))).toNat (List.take (zn l.length).toNat l))).fst).snd.isNil && (sum l).fst == (add (sum (List.drop (Int.toNat 0) (List.take ((IntKind.i64.wrap b).tmod (IntKind.i64.wrap (zn l.length + 1))).toNat l))).fst (sum (List.drop ((IntKind.i64.wrap b).tmod (IntKind.i64.wrap (zn l.length + 1))).toNat (List.take (zn l.length).toNat l))).fst).fst : Bool)))] [] [])
       else
        none
      else
       none
     else
      none
    else
     none
   else
    none
  else
   none
noncomputable def f5M (_ : Nat) (l : List Int) (b : Int) : Option Lf := f5T  l b
theorem f5T_ev (n : Nat) (l : List Int) (b : Int) : evF C3 f5h n f5f [(D.p (Pt.one (L.d (Pv.fz false) (Sh.l (Sh.i IntKind.i64)) l))), (D.p (Pt.one (L.d (Pv.fz true) (Sh.i IntKind.u8) b)))] [] = f5T  l b := by kernel_rfl
theorem f5_ev (n : Nat) (l : List Int) (b : Int) : evF C3 f5h n f5f [(D.p (Pt.one (L.d (Pv.fz false) (Sh.l (Sh.i IntKind.i64)) l))), (D.p (Pt.one (L.d (Pv.fz true) (Sh.i IntKind.u8) b)))] [] = f5M n l b := by
  rw [f5T_ev]
  rfl

abbrev f6h : Hn := h6
noncomputable abbrev f6f : Func := fn 6
abbrev f6G0 := (List Int) → Int → Er → Int → Bool → Int → Option Lf
noncomputable def f6H0 (x0_0 : List Int) (x0_1 : Int) (x0_2 : Er) (x0_3 : Int) (x0_4 : Bool) (x0_5 : Int) : St := (St.mk [dead, dead, (D.p (Pt.one (L.d (Pv.fz false) (Sh.l (Sh.i IntKind.i64)) x0_0))), dead, dead, dead, dead, dead, dead, (D.p (Pt.one (L.d (Pv.fz true) (Sh.i IntKind.i64) x0_1))), (D.p (Pt.one (L.d (Pv.fz true) Sh.e x0_2))), (D.p (Pt.one (L.d (Pv.fz true) (Sh.i IntKind.i64) x0_3))), (D.p (Pt.one (L.d (Pv.fz true) Sh.b x0_4))), (D.p (Pt.one (L.d (Pv.fz true) (Sh.i IntKind.i64) x0_5))), dead, dead, dead, dead, dead, dead, dead, dead, dead, dead, dead, dead, dead, dead, dead, dead, dead, dead, dead, dead, dead, dead, dead, dead, dead, dead, dead, dead, dead, dead, dead, dead, dead, dead, dead, dead, dead, dead, dead, dead, dead, dead, dead, dead, dead, dead, dead, dead, dead, dead, dead, dead, dead, dead, dead, dead, dead, dead, dead, dead, dead] [[], []])
noncomputable def f6S0  (g0 : f6G0) (x0_0 : List Int) (x0_1 : Int) (x0_2 : Er) (x0_3 : Int) (x0_4 : Bool) (x0_5 : Int) : Option Lf :=
 bif decide (x0_5 < zn x0_0.length) && x0_4 then
  bif inb x0_5 x0_0.length then
   g0 (x0_0 : List Int) (x0_1 : Int) (x0_2 : Er) ((radd x0_3 (x0_0.getD x0_5.toNat 0)).fst : Int) ((radd x0_3 (x0_0.getD x0_5.toNat 0)).snd : Bool) (IntKind.i64.wrap (x0_5 + 1) : Int)
  else
   none
 else
  bif plain x0_2 then
   some (Lf.mk [(Pt.one (L.d (Pv.fz true) Sh.b (isF x0_1 x0_2 x0_3 x0_4 : Bool)))] [] [])
  else
   none
noncomputable def f6L0 (n : Nat)  : Nat → f6G0
  | 0 => fun _ _ _ _ _ _ => none
  | m + 1 => fun x0_0 x0_1 x0_2 x0_3 x0_4 x0_5 => f6S0   (f6L0 n  m) x0_0 x0_1 x0_2 x0_3 x0_4 x0_5
noncomputable def f6W0 (G : St → Option Lf) : f6G0 := fun x0_0 x0_1 x0_2 x0_3 x0_4 x0_5 => G (f6H0 x0_0 x0_1 x0_2 x0_3 x0_4 x0_5)
theorem f6S0_ev (n : Nat)  (G : St → Option Lf) (x0_0 : List Int) (x0_1 : Int) (x0_2 : Er) (x0_3 : Int) (x0_4 : Bool) (x0_5 : Int) : rnd C3 f6h n Lf (codeOf f6f) [1, 1, 1, 1, 1, 1, 1, 0, 1, 0] [] (endK C3 f6h f6f) G (f6H0 x0_0 x0_1 x0_2 x0_3 x0_4 x0_5) = f6S0   (f6W0 G) x0_0 x0_1 x0_2 x0_3 x0_4 x0_5 := by kernel_rfl
theorem f6W0_ev (n : Nat)  : ∀ m, (f6W0 (lp C3 f6h n Lf (codeOf f6f) [1, 1, 1, 1, 1, 1, 1, 0, 1, 0] [] (endK C3 f6h f6f) m)) = f6L0 n  m := by
  intro m
  induction m with
  | zero => funext x0_0 x0_1 x0_2 x0_3 x0_4 x0_5; exact lp_zero _
  | succ m ih =>
    funext x0_0 x0_1 x0_2 x0_3 x0_4 x0_5
    show lp C3 f6h n Lf (codeOf f6f) [1, 1, 1, 1, 1, 1, 1, 0, 1, 0] [] (endK C3 f6h f6f) (m + 1) (f6H0 x0_0 x0_1 x0_2 x0_3 x0_4 x0_5) = f6S0   (f6L0 n  m) x0_0 x0_1 x0_2 x0_3 x0_4 x0_5
    rw [lp_succ, f6S0_ev, ih]
noncomputable def f6T (l0 : f6G0) (a : Int) (b : Int) (l : List Int) : Option Lf :=
 bif decide (zn l.length > 1000) then
  some (Lf.mk [(Pt.one (L.d (Pv.fz true) Sh.b (true : Bool)))] [] [])
 else
  bif decide (a < 0) || decide (b < 0) then
   bif (gcd a b).fst != 0 || plain (gcd a b).snd && true then
    bif (gcd a b).fst != 0 || numOf (gcd a b).snd != 1 then
     some (Lf.mk [(Pt.one (L.d (Pv.fz true) Sh.b (false : Bool)))] [] [])
    else
     bif l.length.ble 9223372036854775806 then
      l0 (l : List Int) ((sum l).fst : Int) ((sum l).snd : Er) (0 : Int) (true : Bool) (0 : Int)
     else
      none
   else
    none
  else
   bif !(gcd a b).snd.isNil || decide (0 ≤ a) && decide (0 ≤ b) && true then
    bif !(gcd a b).snd.isNil || (gcd a b).fst != rgcd a b then
     some (Lf.mk [(Pt.one (L.d (Pv.fz true) Sh.b (false : Bool)))] [] [])
    else
     bif l.length.ble 9223372036854775806 then
      l0 (l : List Int) ((sum l).fst : Int) ((sum l).snd : Er) (0 : Int) (true : Bool) (0 : Int)
     else
      none
   else
    none
noncomputable def f6M (n : Nat) (a : Int) (b : Int) (l : List Int) : Option Lf := f6T (f6L0 n n) a b l
theorem f6T_ev (n : Nat) (a : Int) (b : Int) (l : List Int) : evF C3 f6h n f6f [(D.p (Pt.one (L.d (Pv.fz true) (Sh.i IntKind.i64) a))), (D.p (Pt.one (L.d (Pv.fz true) (Sh.i IntKind.i64) b))), (D.p (Pt.one (L.d (Pv.fz false) (Sh.l (Sh.i IntKind.i64)) l)))] [] = f6T (f6W0 (lp C3 f6h n Lf (codeOf f6f) [1, 1, 1, 1, 1, 1, 1, 0, 1, 0] [] (endK C3 f6h f6f) n)) a b l := by kernel_rfl
theorem f6_ev (n : Nat) (a : Int) (b : Int) (l : List Int) : evF C3 f6h n f6f [(D.p (Pt.one (L.d (Pv.fz true) (Sh.i IntKind.i64) a))), (D.p (Pt.one (L.d (Pv.fz true) (Sh.i IntKind.i64) b))), (D.p (Pt.one (L.d (Pv.fz false) (Sh.l (Sh.i IntKind.i64)) l)))] [] = f6M n a b l := by
  rw [f6T_ev, f6W0_ev]
  rfl
end Go.S3
