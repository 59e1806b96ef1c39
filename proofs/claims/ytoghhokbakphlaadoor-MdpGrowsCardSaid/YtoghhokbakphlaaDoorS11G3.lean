/-
  Seat 11: functional forms: alive
-/
import Derived.Test.YtoghhokbakphlaaDoorS11J
open Go Go.En Go.S11
namespace Go.S11


abbrev f106h : Hn := hn0
noncomputable abbrev f106f : Func := fn 6
noncomputable def f106T  (_z : Int) : Option Lf :=
 bif ofMG oneCh oneNm [[0]] then
  bif ofMG [[({ data := #[] }, [(0, 1, ())], ())]] [{ data := #[{ toBitVec := 97#8 }] }] [[0]] && m6 1 then
   some (Lf.mk [(Pt.one (L.d (Pv.fz true) Sh.b ((er1 (mdOk 0 [[({ data := #[] }, [(0, 1, ())], ())]] [{ data := #[{ toBitVec := 97#8 }] }] [[0]])).isNil && (Er.nil.isNil && true) : Bool)))] [] [])
  else
   none
 else
  none
noncomputable def f106M (_ : Nat) (_z : Int) : Option Lf := f106T  _z
theorem f106T_ev (n : Nat) (_z : Int) : evF C12 f106h n f106f [] [] = f106T  _z := by kernel_rfl
theorem f106_ev (n : Nat) (_z : Int) : evF C12 f106h n f106f [] [] = f106M n _z := by
  rw [f106T_ev]
  rfl
end Go.S11
