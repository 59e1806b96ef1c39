/-
  Seat 23: contexts of the laws of runs.
-/
import Derived.Test.YtkbablmhgnpmmaaDoorS23W
open Go Go.En
namespace Go.S23
noncomputable def l41 : List (Nat × En.Spec) := (8, aliveS) :: (9, farMS) :: (10, farS) :: (11, makeS) :: (12, ofMS) :: (13, ofS) :: (15, numS) :: (19, rightAS) :: (23, checkMS) :: (24, reachS) :: []
noncomputable def C41 : Ctx := ctxOf C0 l41
def h6 : Hn := ⟨fun | 10 => [1, 3, 4, 6, 9, 11, 12] | _ => [], fun _ => [], fun _ => false⟩
end Go.S23
