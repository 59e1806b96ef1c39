/-
  Seat 01: functional form of BitsNil.
-/
import Derived.Test.YtjmpbpggbkkhpaaDoorS01F
open Go Go.En Go.S1
namespace Go.S1
noncomputable def l6 : List (Nat × En.Spec) := (8, aliveS) :: (13, np2 [pB false]) :: (25, np2 [pB false]) :: (26, np2 [pB false]) :: l5
noncomputable def C6 : Ctx := ctxOf C0 l6

abbrev f7h : Hn := hn0
noncomputable abbrev f7f : Func := fn 7
noncomputable def f7T  (i : Int) : Option Lf :=
 some (Lf.mk [(Pt.one (L.d (Pv.fz true) Sh.b (true : Bool)))] [] [])
noncomputable def f7M (_ : Nat) (i : Int) : Option Lf := f7T  i
theorem f7T_ev (n : Nat) (i : Int) : evF C6 f7h n f7f [(D.p (Pt.one (L.d (Pv.fz true) (Sh.i IntKind.i64) i)))] [] = f7T  i := by kernel_rfl
theorem f7_ev (n : Nat) (i : Int) : evF C6 f7h n f7f [(D.p (Pt.one (L.d (Pv.fz true) (Sh.i IntKind.i64) i)))] [] = f7M n i := by
  rw [f7T_ev]
  rfl
end Go.S1
