/-
  Seat 01: functional forms of OnesCount64 and of slices.Equal.
-/
import Derived.Test.YtjmpbpggbkkhpaaDoorS01F
import Derived.Test.YtjmpbpggbkkhpaaDoorS01K
import Derived.Test.YtjmpbpggbkkhpaaDoorS01M
open Go Go.En Go.S1
namespace Go.S1
def h20 : Hn := ⟨fun | 5 => [3, 11, 12, 13] | _ => [], fun _ => [], fun _ => false⟩
def h36 : Hn := ⟨fun | 4 => [0, 1, 12, 13] | _ => [], fun _ => [], fun _ => false⟩
def dW (v : List Int) : D := one (.d (.fz false) (.l (.i .u64)) v)

abbrev f37h : Hn := hn0
noncomputable abbrev f37f : Func := fn 37
noncomputable def f37T  (x : Int) : Option Lf :=
 some (Lf.mk [(Pt.one (L.d (Pv.fz true) (Sh.i IntKind.i64) (bitsF BinOp.and IntKind.i64 (IntKind.i64.wrap (IntKind.u64.wrap (IntKind.u64.wrap (IntKind.u64.wrap (bitsF BinOp.and IntKind.u64 (IntKind.u64.wrap (shrF IntKind.u64 (IntKind.u64.wrap (bitsF BinOp.and IntKind.u64 (shrF IntKind.u64 (IntKind.u64.wrap (bitsF BinOp.and IntKind.u64 (shrF IntKind.u64 x 1) 6148914691236517205 + bitsF BinOp.and IntKind.u64 x 6148914691236517205)) 2) 3689348814741910323 + bitsF BinOp.and IntKind.u64 (IntKind.u64.wrap (bitsF BinOp.and IntKind.u64 (shrF IntKind.u64 x 1) 6148914691236517205 + bitsF BinOp.and IntKind.u64 x 6148914691236517205)) 3689348814741910323)) 4 + IntKind.u64.wrap (bitsF BinOp.and IntKind.u64 (shrF IntKind.u64 (IntKind.u64.wrap (bitsF BinOp.and IntKind.u64 (shrF IntKind.u64 x 1) 6148914691236517205 + bitsF BinOp.and IntKind.u64 x 6148914691236517205)) 2) 3689348814741910323 + bitsF BinOp.and IntKind.u64 (IntKind.u64.wrap (bitsF BinOp.and IntKind.u64 (shrF IntKind.u64 x 1) 6148914691236517205 + bitsF BinOp.and IntKind.u64 x 6148914691236517205)) 3689348814741910323))) 1085102592571150095 + shrF IntKind.u64 (bitsF BinOp.and IntKind.u64 (IntKind.u64.wrap (shrF IntKind.u64 (IntKind.u64.wrap (bitsF BinOp.and IntKind.u64 (shrF IntKind.u64 (IntKind.u64.wrap (bitsF BinOp.and IntKind.u64 (shrF IntKind.u64 x 1) 6148914691236517205 + bitsF BinOp.and IntKind.u64 x 6148914691236517205)) 2) 3689348814741910323 + bitsF BinOp.and IntKind.u64 (IntKind.u64.wrap (bitsF BinOp.and IntKind.u64 (shrF IntKind.u64 x 1) 6148914691236517205 + bitsF BinOp.and IntKind.u64 x 6148914691236517205)) 3689348814741910323)) 4 + IntKind.u64.wrap (bitsF BinOp.and IntKind.u64 (shrF IntKind.u64 (IntKind.u64.wrap (bitsF BinOp.and IntKind.u64 (shrF IntKind.u64 x 1) 6148914691236517205 + bitsF BinOp.and IntKind.u64 x 6148914691236517205)) 2) 3689348814741910323 + bitsF BinOp.and IntKind.u64 (IntKind.u64.wrap (bitsF BinOp.and IntKind.u64 (shrF IntKind.u64 x 1) 6148914691236517205 + bitsF BinOp.and IntKind.u64 x 6148914691236517205)) 3689348814741910323))) 1085102592571150095) 8) + shrF IntKind.u64 (IntKind.u64.wrap (bitsF BinOp.and IntKind.u64 (IntKind.u64.wrap (shrF IntKind.u64 (IntKind.u64.wrap (bitsF BinOp.and IntKind.u64 (shrF IntKind.u64 (IntKind.u64.wrap (bitsF BinOp.and IntKind.u64 (shrF IntKind.u64 x 1) 6148914691236517205 + bitsF BinOp.and IntKind.u64 x 6148914691236517205)) 2) 3689348814741910323 + bitsF BinOp.and IntKind.u64 (IntKind.u64.wrap (bitsF BinOp.and IntKind.u64 (shrF IntKind.u64 x 1) 6148914691236517205 + bitsF BinOp.and IntKind.u64 x 6148914691236517205)) 3689348814741910323)) 4 + IntKind.u64.wrap (bitsF BinOp.and IntKind.u64 (shrF IntKind.u64 (IntKind.u64.wrap (bitsF BinOp.and IntKind.u64 (shrF IntKind.u64 x 1) 6148914691236517205 + bitsF BinOp.and IntKind.u64 x 6148914691236517205)) 2) 3689348814741910323 + bitsF BinOp.and IntKind.u64 (IntKind.u64.wrap (bitsF BinOp.and IntKind.u64 (shrF IntKind.u64 x 1) 6148914691236517205 + bitsF BinOp.and IntKind.u64 x 6148914691236517205)) 3689348814741910323))) 1085102592571150095 + shrF IntKind.u64 (bitsF BinOp.and IntKind.u64 (IntKind.u64.wrap (shrF IntKind.u64 (IntKind.u64.wrap (bitsF BinOp.and IntKind.u64 (shrF IntKind.u64 (IntKind.u64.wrap (bitsF BinOp.and IntKind.u64 (shrF IntKind.u64 x 1) 6148914691236517205 + bitsF BinOp.and IntKind.u64 x 6148914691236517205)) 2) 3689348814741910323 + bitsF BinOp.and IntKind.u64 (IntKind.u64.wrap (bitsF BinOp.and IntKind.u64 (shrF IntKind.u64 x 1) 6148914691236517205 + bitsF BinOp.and IntKind.u64 x 6148914691236517205)) 3689348814741910323)) 4 + IntKind.u64.wrap (bitsF BinOp.and IntKind.u64 (shrF IntKind.u64 (IntKind.u64.wrap (bitsF BinOp.and IntKind.u64 (shrF IntKind.u64 x 1) 6148914691236517205 + bitsF BinOp.and IntKind.u64 x 6148914691236517205)) 2) 3689348814741910323 + bitsF BinOp.and IntKind.u64 (IntKind.u64.wrap (bitsF BinOp.and IntKind.u64 (shrF IntKind.u64 x 1) 6148914691236517205 + bitsF BinOp.and IntKind.u64 x 6148914691236517205)) 3689348814741910323))) 1085102592571150095) 8)) 16) + shrF IntKind.u64 (IntKind.u64.wrap (IntKind.u64.wrap (bitsF BinOp.and IntKind.u64 (IntKind.u64.wrap (shrF IntKind.u64 (IntKind.u64.wrap (bitsF BinOp.and IntKind.u64 (shrF IntKind.u64 (IntKind.u64.wrap (bitsF BinOp.and IntKind.u64 (shrF IntKind.u64 x 1) 6148914691236517205 + bitsF BinOp.and IntKind.u64 x 6148914691236517205)) 2) 3689348814741910323 + bitsF BinOp.and IntKind.u64 (IntKind.u64.wrap (bitsF BinOp.and IntKind.u64 (shrF IntKind.u64 x 1) 6148914691236517205 + bitsF BinOp.and IntKind.u64 x 6148914691236517205)) 3689348814741910323)) 4 + IntKind.u64.wrap (bitsF BinOp.and IntKind.u64 (shrF IntKind.u64 (IntKind.u64.wrap (bitsF BinOp.and IntKind.u64 (shrF IntKind.u64 x 1) 6148914691236517205 + bitsF BinOp.and IntKind.u64 x 6148914691236517205)) 2) 3689348814741910323 + bitsF BinOp.and IntKind.u64 (IntKind.u64.wrap (bitsF BinOp.and IntKind.u64 (shrF IntKind.u64 x 1) 6148914691236517205 + bitsF BinOp.and IntKind.u64 x 6148914691236517205)) 3689348814741910323))) 1085102592571150095 + shrF IntKind.u64 (bitsF BinOp.and IntKind.u64 (IntKind.u64.wrap (shrF IntKind.u64 (IntKind.u64.wrap (bitsF BinOp.and IntKind.u64 (shrF IntKind.u64 (IntKind.u64.wrap (bitsF BinOp.and IntKind.u64 (shrF IntKind.u64 x 1) 6148914691236517205 + bitsF BinOp.and IntKind.u64 x 6148914691236517205)) 2) 3689348814741910323 + bitsF BinOp.and IntKind.u64 (IntKind.u64.wrap (bitsF BinOp.and IntKind.u64 (shrF IntKind.u64 x 1) 6148914691236517205 + bitsF BinOp.and IntKind.u64 x 6148914691236517205)) 3689348814741910323)) 4 + IntKind.u64.wrap (bitsF BinOp.and IntKind.u64 (shrF IntKind.u64 (IntKind.u64.wrap (bitsF BinOp.and IntKind.u64 (shrF IntKind.u64 x 1) 6148914691236517205 + bitsF BinOp.and IntKind.u64 x 6148914691236517205)) 2) 3689348814741910323 + bitsF BinOp.and IntKind.u64 (IntKind.u64.wrap (bitsF BinOp.and IntKind.u64 (shrF IntKind.u64 x 1) 6148914691236517205 + bitsF BinOp.and IntKind.u64 x 6148914691236517205)) 3689348814741910323))) 1085102592571150095) 8) + shrF IntKind.u64 (IntKind.u64.wrap (bitsF BinOp.and IntKind.u64 (IntKind.u64.wrap (shrF IntKind.u64 (IntKind.u64.wrap (bitsF BinOp.and IntKind.u64 (shrF IntKind.u64 (IntKind.u64.wrap (bitsF BinOp.and IntKind.u64 (shrF IntKind.u64 x 1) 6148914691236517205 + bitsF BinOp.and IntKind.u64 x 6148914691236517205)) 2) 3689348814741910323 + bitsF BinOp.and IntKind.u64 (IntKind.u64.wrap (bitsF BinOp.and IntKind.u64 (shrF IntKind.u64 x 1) 6148914691236517205 + bitsF BinOp.and IntKind.u64 x 6148914691236517205)) 3689348814741910323)) 4 + IntKind.u64.wrap (bitsF BinOp.and IntKind.u64 (shrF IntKind.u64 (IntKind.u64.wrap (bitsF BinOp.and IntKind.u64 (shrF IntKind.u64 x 1) 6148914691236517205 + bitsF BinOp.and IntKind.u64 x 6148914691236517205)) 2) 3689348814741910323 + bitsF BinOp.and IntKind.u64 (IntKind.u64.wrap (bitsF BinOp.and IntKind.u64 (shrF IntKind.u64 x 1) 6148914691236517205 + bitsF BinOp.and IntKind.u64 x 6148914691236517205)) 3689348814741910323))) 1085102592571150095 + shrF IntKind.u64 (bitsF BinOp.and IntKind.u64 (IntKind.u64.wrap (shrF IntKind.u64 (IntKind.u64.wrap (bitsF BinOp.and IntKind.u64 (shrF IntKind.u64 (IntKind.u64.wrap (bitsF BinOp.and IntKind.u64 (shrF IntKind.u64 x 1) 6148914691236517205 + bitsF BinOp.and IntKind.u64 x 6148914691236517205)) 2) 3689348814741910323 + bitsF BinOp.and IntKind.u64 (IntKind.u64.wrap (bitsF BinOp.and IntKind.u64 (shrF IntKind.u64 x 1) 6148914691236517205 + bitsF BinOp.and IntKind.u64 x 6148914691236517205)) 3689348814741910323)) 4 + IntKind.u64.wrap (bitsF BinOp.and IntKind.u64 (shrF IntKind.u64 (IntKind.u64.wrap (bitsF BinOp.and IntKind.u64 (shrF IntKind.u64 x 1) 6148914691236517205 + bitsF BinOp.and IntKind.u64 x 6148914691236517205)) 2) 3689348814741910323 + bitsF BinOp.and IntKind.u64 (IntKind.u64.wrap (bitsF BinOp.and IntKind.u64 (shrF IntKind.u64 x 1) 6148914691236517205 + bitsF BinOp.and IntKind.u64 x 6148914691236517205)) 3689348814741910323))) 1085102592571150095) 8)) 16)) 32))) 127 : Int)))] [] [])
noncomputable def f37M (_ : Nat) (x : Int) : Option Lf := f37T  x
theorem f37T_ev (n : Nat) (x : Int) : evF C1 f37h n f37f [(D.p (Pt.one (L.d (Pv.fz true) (Sh.i IntKind.u64) x)))] [] = f37T  x := by kernel_rfl
theorem f37_ev (n : Nat) (x : Int) : evF C1 f37h n f37f [(D.p (Pt.one (L.d (Pv.fz true) (Sh.i IntKind.u64) x)))] [] = f37M n x := by
  rw [f37T_ev]
  rfl

abbrev f36h : Hn := h36
noncomputable abbrev f36f : Func := fn 36
abbrev f36G0 := (List Int) → (List Int) → Int → Int → Option Lf
noncomputable def f36H0 (x0_0 : List Int) (x0_1 : List Int) (x0_2 : Int) (x0_3 : Int) : St := (St.mk [(D.p (Pt.one (L.d (Pv.fz false) (Sh.l (Sh.i IntKind.u64)) x0_0))), (D.p (Pt.one (L.d (Pv.fz false) (Sh.l (Sh.i IntKind.u64)) x0_1))), dead, dead, dead, dead, dead, dead, dead, dead, dead, dead, (D.p (Pt.one (L.d (Pv.fz true) (Sh.i IntKind.i64) x0_2))), (D.p (Pt.one (L.d (Pv.fz true) (Sh.i IntKind.i64) x0_3))), dead, dead, dead, dead, dead, dead, dead, dead, dead, dead, dead, dead] [[], []])
noncomputable def f36W0 (G : St → Option Lf) : f36G0 := fun x0_0 x0_1 x0_2 x0_3 => G (f36H0 x0_0 x0_1 x0_2 x0_3)
noncomputable def f36S0  (g0 : f36G0) (x0_0 : List Int) (x0_1 : List Int) (x0_2 : Int) (x0_3 : Int) : Option Lf :=
 bif decide (x0_3 < x0_2) then
  bif inb x0_3 x0_0.length then
   bif inb x0_3 x0_1.length then
    bif x0_0.getD x0_3.toNat 0 != x0_1.getD x0_3.toNat 0 then
     some (Lf.mk [(Pt.one (L.d (Pv.fz true) Sh.b (false : Bool)))] [] [])
    else
     g0 (x0_0 : List Int) (x0_1 : List Int) (x0_2 : Int) (IntKind.i64.wrap (x0_3 + 1) : Int)
   else
    none
  else
   none
 else
  some (Lf.mk [(Pt.one (L.d (Pv.fz true) Sh.b (true : Bool)))] [] [])
noncomputable def f36L0 (n : Nat)  : Nat → f36G0
  | 0 => fun _ _ _ _ => none
  | m + 1 => fun x0_0 x0_1 x0_2 x0_3 => f36S0   (f36L0 n  m) x0_0 x0_1 x0_2 x0_3
theorem f36S0_ev (n : Nat)  (G : St → Option Lf) (x0_0 : List Int) (x0_1 : List Int) (x0_2 : Int) (x0_3 : Int) : rnd C1 f36h n Lf (codeOf f36f) [1, 1, 0, 1, 0] [] (endK C1 f36h f36f) G (f36H0 x0_0 x0_1 x0_2 x0_3) = f36S0   (f36W0 G) x0_0 x0_1 x0_2 x0_3 := by kernel_rfl
theorem f36W0_ev (n : Nat)  : ∀ m, (f36W0 (lp C1 f36h n Lf (codeOf f36f) [1, 1, 0, 1, 0] [] (endK C1 f36h f36f) m)) = f36L0 n  m := by
  intro m
  induction m with
  | zero => funext x0_0 x0_1 x0_2 x0_3; exact lp_zero _
  | succ m ih =>
    funext x0_0 x0_1 x0_2 x0_3
    show lp C1 f36h n Lf (codeOf f36f) [1, 1, 0, 1, 0] [] (endK C1 f36h f36f) (m + 1) (f36H0 x0_0 x0_1 x0_2 x0_3) = f36S0   (f36L0 n  m) x0_0 x0_1 x0_2 x0_3
    rw [lp_succ, f36S0_ev, ih]
noncomputable def f36T (l0 : f36G0) (a : List Int) (b : List Int) : Option Lf :=
 bif zn a.length != zn b.length then
  some (Lf.mk [(Pt.one (L.d (Pv.fz true) Sh.b (false : Bool)))] [] [])
 else
  l0 (a : List Int) (b : List Int) (zn a.length : Int) (0 : Int)
noncomputable def f36M (n : Nat) (a : List Int) (b : List Int) : Option Lf := f36T (f36L0 n n) a b
theorem f36T_ev (n : Nat) (a : List Int) (b : List Int) : evF C1 f36h n f36f [(D.p (Pt.one (L.d (Pv.fz false) (Sh.l (Sh.i IntKind.u64)) a))), (D.p (Pt.one (L.d (Pv.fz false) (Sh.l (Sh.i IntKind.u64)) b)))] [] = f36T (f36W0 (lp C1 f36h n Lf (codeOf f36f) [1, 1, 0, 1, 0] [] (endK C1 f36h f36f) n)) a b := by kernel_rfl
theorem f36_ev (n : Nat) (a : List Int) (b : List Int) : evF C1 f36h n f36f [(D.p (Pt.one (L.d (Pv.fz false) (Sh.l (Sh.i IntKind.u64)) a))), (D.p (Pt.one (L.d (Pv.fz false) (Sh.l (Sh.i IntKind.u64)) b)))] [] = f36M n a b := by
  rw [f36T_ev, f36W0_ev]
  rfl
end Go.S1
