/-
  Seat 03: functional form of SafeTells.
-/
import Derived.Test.YtalnpjabggfiiaaDoorS03F
open Go Go.En Go.S3
namespace Go.S3
noncomputable def l4 : List (Nat × En.Spec) := (19, spIB rsub) :: l3
noncomputable def C4 : Ctx := ctxOf C0 l4

abbrev f7h : Hn := hn0
noncomputable abbrev f7f : Func := fn 7
noncomputable def f7T  (a : Int) (b : Int) : Option Lf :=
 bif plain (add a b).snd && bif isF (add a b).fst (add a b).snd (radd a b).fst (radd a b).snd then plain (sub a b).snd && bif isF (sub a b).fst (sub a b).snd (rsub a b).fst (rsub a b).snd then plain (mul a b).snd && bif isF (mul a b).fst (mul a b).snd (rmul a b).fst (rmul a b).snd then plain (neg a).snd && true else true else true else true then
  some (Lf.mk [(Pt.one (L.d (Pv.fz true) Sh.b (isF (add a b).fst (add a b).snd (radd a b).fst (radd a b).snd && (isF (sub a b).fst (sub a b).snd (rsub a b).fst (rsub a b).snd && (isF (mul a b).fst (mul a b).snd (rmul a b).fst (rmul a b).snd && isF (neg a).fst (neg a).snd (rsub 0 a).fst (rsub 0 a).snd)) : Bool)))] [] [])
 else
  none
noncomputable def f7M (_ : Nat) (a : Int) (b : Int) : Option Lf := f7T  a b
theorem f7T_ev (n : Nat) (a : Int) (b : Int) : evF C4 f7h n f7f [(D.p (Pt.one (L.d (Pv.fz true) (Sh.i IntKind.i64) a))), (D.p (Pt.one (L.d (Pv.fz true) (Sh.i IntKind.i64) b)))] [] = f7T  a b := by kernel_rfl
theorem f7_ev (n : Nat) (a : Int) (b : Int) : evF C4 f7h n f7f [(D.p (Pt.one (L.d (Pv.fz true) (Sh.i IntKind.i64) a))), (D.p (Pt.one (L.d (Pv.fz true) (Sh.i IntKind.i64) b)))] [] = f7M n a b := by
  rw [f7T_ev]
  rfl
end Go.S3
