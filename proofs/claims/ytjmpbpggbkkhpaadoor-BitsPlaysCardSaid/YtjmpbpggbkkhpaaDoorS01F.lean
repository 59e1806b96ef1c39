/-
  Seat 01: alive, and what no set answers.
-/
import Derived.Test.YtjmpbpggbkkhpaaDoorS01G5
open Go Go.En
namespace Go.S1
theorem ctx5 : CtxOk C5 := fun _ _ h => tbl_ok (l := l5) ⟨of_ok, ints_ok, num_ok, turn0_ok, add_ok, del_ok, items_ok, has_ok, next_ok, in_ok, size_ok, new_ok, count0_ok, copy0_ok, same0_ok, tz_ok, trivial⟩ h
theorem alive_T : f8T = some ⟨[pB true], [], []⟩ := by kernel_rfl
theorem alive_ok : FnOk P C0 8 aliveS := by
  refine fn_okC ctx5 (show P.funcs[8]? = some f8f by kernel_rfl) (of_decide_eq_true (by kernel_rfl)) aliveS f8h (fun ds os lf hp => ?_)
  unfold aliveS at hp
  simp only at hp
  split at hp
  · simp only [Out.pick, Option.some.injEq] at hp
    subst hp
    exact ⟨0, (f8_ev 0).trans alive_T⟩
  · cases hp
theorem join0_ok : FnOk P C0 13 (np2 [pB false]) := by
  refine fn_okC ctx5 (show P.funcs[13]? = some f13nf by kernel_rfl) (of_decide_eq_true (by kernel_rfl)) (np2 [pB false]) f13nh (fun ds os lf hp => ?_)
  unfold np2 at hp
  simp only at hp
  split at hp
  · simp only [Out.pick, Option.some.injEq] at hp
    subst hp
    exact ⟨0, f13n_ev 0⟩
  · cases hp
theorem minus0_ok : FnOk P C0 25 (np2 [pB false]) := by
  refine fn_okC ctx5 (show P.funcs[25]? = some f25nf by kernel_rfl) (of_decide_eq_true (by kernel_rfl)) (np2 [pB false]) f25nh (fun ds os lf hp => ?_)
  unfold np2 at hp
  simp only at hp
  split at hp
  · simp only [Out.pick, Option.some.injEq] at hp
    subst hp
    exact ⟨0, f25n_ev 0⟩
  · cases hp
theorem meet0_ok : FnOk P C0 26 (np2 [pB false]) := by
  refine fn_okC ctx5 (show P.funcs[26]? = some f26nf by kernel_rfl) (of_decide_eq_true (by kernel_rfl)) (np2 [pB false]) f26nh (fun ds os lf hp => ?_)
  unfold np2 at hp
  simp only at hp
  split at hp
  · simp only [Out.pick, Option.some.injEq] at hp
    subst hp
    exact ⟨0, f26n_ev 0⟩
  · cases hp
end Go.S1
