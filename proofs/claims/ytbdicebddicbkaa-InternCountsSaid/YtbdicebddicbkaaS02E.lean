/-
  Seat 02 (intern): the laws' contracts.
-/
import Derived.Test.YtbdicebddicbkaaS02D
open Go Go.En
namespace Go.S2
def bigs (l : List (List Int)) : Bool := l.all big
theorem bigs_all {l : List (List Int)} (h : bigs l = true) : ∀ x ∈ l, big x = true := List.all_eq_true.1 h
def ownS : En.Spec := ⟨[], fun ds os => match ds, os with
  | [.p (.one (.d (.fz false) (.l (.i .i32)) v)), .p (.one (.d (.fz false) (.l (.l (.i .i32))) l))], [] => .br (big v && bigs l) (.leaf [pB true] [] []) .fail
  | _, _ => .fail⟩
def findsS : En.Spec := ⟨[], fun ds os => match ds, os with
  | [.p (.one (.d (.fz false) (.l (.l (.i .i32))) l)), .p (.one (.d (.fz false) (.l (.i .i32)) v))], [] => .br (big v && bigs l) (.leaf [pB true] [] []) .fail
  | _, _ => .fail⟩
def countsS : En.Spec := ⟨[], fun ds os => match ds, os with
  | [.p (.one (.d (.fz false) (.l (.l (.i .i32))) l))], [] => .br (bigs l) (.leaf [pB true] [] []) .fail
  | _, _ => .fail⟩
theorem own_ok : FnOk P C0 3 ownS := by
  refine fn_okC ctx5 (show P.funcs[3]? = some f3f by kernel_rfl) (of_decide_eq_true (by kernel_rfl)) ownS f3h (fun ds os lf hp => ?_)
  unfold ownS at hp
  simp only at hp
  split at hp
  · rename_i v l
    simp only [Out.pick] at hp
    cases hc : (big v && bigs l) with
    | false => rw [hc] at hp; cases hp
    | true =>
      rw [hc] at hp
      simp only [cond_true, Option.some.injEq] at hp
      subst hp
      rw [Bool.and_eq_true] at hc
      obtain ⟨n, hn⟩ := own_law (v := v) (bigs_all hc.2)
      exact ⟨n, (f3_ev n v l).trans hn⟩
  · cases hp
theorem finds_ok : FnOk P C0 5 findsS := by
  refine fn_okC ctx5 (show P.funcs[5]? = some f5f by kernel_rfl) (of_decide_eq_true (by kernel_rfl)) findsS f5h (fun ds os lf hp => ?_)
  unfold findsS at hp
  simp only at hp
  split at hp
  · rename_i l v
    simp only [Out.pick] at hp
    cases hc : (big v && bigs l) with
    | false => rw [hc] at hp; cases hp
    | true =>
      rw [hc] at hp
      simp only [cond_true, Option.some.injEq] at hp
      subst hp
      rw [Bool.and_eq_true] at hc
      obtain ⟨n, hn⟩ := finds_law (bigs_all hc.2) hc.1
      exact ⟨n, (f5_ev n l v).trans hn⟩
  · cases hp
theorem counts_ok : FnOk P C0 4 countsS := by
  refine fn_okC ctx5 (show P.funcs[4]? = some f4f by kernel_rfl) (of_decide_eq_true (by kernel_rfl)) countsS f4h (fun ds os lf hp => ?_)
  unfold countsS at hp
  simp only at hp
  split at hp
  · rename_i l
    simp only [Out.pick] at hp
    cases hc : (bigs l) with
    | false => rw [hc] at hp; cases hp
    | true =>
      rw [hc] at hp
      simp only [cond_true, Option.some.injEq] at hp
      subst hp
      obtain ⟨n, hn⟩ := counts_law (bigs_all hc)
      exact ⟨n, (f4_ev n l).trans hn⟩
  · cases hp
end Go.S2
