/-
  Seat 23: what alive computes.
-/
import Derived.Test.YtkbablmhgnpmmaaDoorS23J
open Go Go.En Go.S23
namespace Go.S23
noncomputable def C30 : Ctx := ctxOf C0 [(11, makeS), (12, ofMS), (15, numS), (25, oneS)]

abbrev f8h : Hn := hn0
noncomputable abbrev f8f : Func := fn 8
noncomputable def f8T   : Option Lf :=
 bif ofMG [[({ data := #[] }, [(0, 1, ())], ())]] [{ data := #[{ toBitVec := 97#8 }] }] [[0]] then
  bif makeG [[({ data := #[] }, [(0, 1, ())], ())]] [{ data := #[{ toBitVec := 97#8 }] }] [[0]] [0] [[0]] [] then
   bif makeG [] [] [] [] [[0]] [] then
    some (Lf.mk [(Pt.one (L.d (Pv.fz true) Sh.b (Er.nil.isNil && true : Bool)))] [] [])
   else
    none
  else
   none
 else
  none
noncomputable def f8M (_ : Nat)  : Option Lf := f8T  
theorem f8T_ev (n : Nat)  : evF C30 f8h n f8f [] [] = f8T   := by kernel_rfl
theorem f8_ev (n : Nat)  : evF C30 f8h n f8f [] [] = f8M n  := by
  rw [f8T_ev]
  rfl
end Go.S23
