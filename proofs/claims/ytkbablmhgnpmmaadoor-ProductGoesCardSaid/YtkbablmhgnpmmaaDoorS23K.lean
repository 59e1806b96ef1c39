/-
  Seat 23: the contract of alive.
-/
import Derived.Test.YtkbablmhgnpmmaaDoorS23G6
open Go Go.En
namespace Go.S23
theorem ctx30 : CtxOk C30 := fun _ _ h => tbl_ok (l := [(11, makeS), (12, ofMS), (15, numS), (25, oneS)]) ⟨make_ok, ofM_ok, num_ok, one_ok, trivial⟩ h
def aliveS : En.Spec := ⟨[], fun ds os => match ds, os with
  | [], [] => .leaf [pB true] [] []
  | _, _ => .fail⟩
theorem alive_T : f8T = some ⟨[pB true], [], []⟩ := by kernel_rfl
theorem alive_ok : FnOk P C0 8 aliveS := by
  refine fn_okC ctx30 (show P.funcs[8]? = some f8f by kernel_rfl) (of_decide_eq_true (by kernel_rfl)) (aliveS) f8h (fun ds os lf hp => ?_)
  unfold aliveS at hp
  simp only at hp
  split at hp
  · skip
    simp only [Out.pick, Option.some.injEq] at hp
    subst hp
    exact ⟨0, (f8_ev 0).trans alive_T⟩
  · cases hp
end Go.S23
