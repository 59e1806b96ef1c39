/-
  Seat 01: the law BitsNil.
-/
import Derived.Test.YtjmpbpggbkkhpaaDoorS01G6
open Go Go.En
namespace Go.S1
theorem ctx6 : CtxOk C6 := fun _ _ h => tbl_ok (l := l6) ⟨alive_ok, join0_ok, minus0_ok, meet0_ok, of_ok, ints_ok, num_ok, turn0_ok, add_ok, del_ok, items_ok, has_ok, next_ok, in_ok, size_ok, new_ok, count0_ok, copy0_ok, same0_ok, tz_ok, trivial⟩ h
theorem nil_T (i : Int) : f7T i = some ⟨[pB true], [], []⟩ := by kernel_rfl
def nilS : En.Spec := ⟨[], fun ds os => match ds, os with
  | [.p (.one (.d (.fz true) (.i .i64) _i))], [] => .leaf [pB true] [] []
  | _, _ => .fail⟩
theorem nil_ok : FnOk P C0 7 nilS := by
  refine fn_okC ctx6 (show P.funcs[7]? = some f7f by kernel_rfl) (of_decide_eq_true (by kernel_rfl)) nilS f7h (fun ds os lf hp => ?_)
  unfold nilS at hp
  simp only at hp
  split at hp
  · rename_i i
    simp only [Out.pick, Option.some.injEq] at hp
    subst hp
    exact ⟨0, (f7_ev 0 i).trans (nil_T i)⟩
  · cases hp
end Go.S1
