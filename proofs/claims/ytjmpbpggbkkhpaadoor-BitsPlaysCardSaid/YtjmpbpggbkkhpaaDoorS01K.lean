/-
  Seat 01: the contracts of turn with two sets.
-/
import Derived.Test.YtjmpbpggbkkhpaaDoorS01J
open Go Go.En
namespace Go.S1
theorem bop_or : FnOk P C0 35 (bopS .or) := by
  refine fn_okC ctx1 (show P.funcs[35]? = some f35f by kernel_rfl) (of_decide_eq_true (by kernel_rfl)) (bopS .or) f35h (fun ds os lf hp => ?_)
  unfold bopS at hp
  simp only at hp
  split at hp
  · rename_i a b
    simp only [Out.pick, Option.some.injEq] at hp
    subst hp
    exact ⟨0, f35_ev 0 a b⟩
  · cases hp
theorem bop_minus : FnOk P C0 39 (bopS .andNot) := by
  refine fn_okC ctx1 (show P.funcs[39]? = some f39f by kernel_rfl) (of_decide_eq_true (by kernel_rfl)) (bopS .andNot) f39h (fun ds os lf hp => ?_)
  unfold bopS at hp
  simp only at hp
  split at hp
  · rename_i a b
    simp only [Out.pick, Option.some.injEq] at hp
    subst hp
    exact ⟨0, f39_ev 0 a b⟩
  · cases hp
theorem bop_and : FnOk P C0 40 (bopS .and) := by
  refine fn_okC ctx1 (show P.funcs[40]? = some f40f by kernel_rfl) (of_decide_eq_true (by kernel_rfl)) (bopS .and) f40h (fun ds os lf hp => ?_)
  unfold bopS at hp
  simp only at hp
  split at hp
  · rename_i a b
    simp only [Out.pick, Option.some.injEq] at hp
    subst hp
    exact ⟨0, f40_ev 0 a b⟩
  · cases hp
theorem ctx7 : CtxOk C7 := fun _ _ h => tbl_ok (l := l7) ⟨bop_or, bop_minus, bop_and, trivial⟩ h
def gS2 (e e' : Nat) (o : Out) : Out := bif e.beq 60 && e'.beq 60 then o else .fail
theorem gS2_pick {e e' : Nat} {o : Out} {lf : Lf} (h : (gS2 e e' o).pick = some lf) : e = 60 ∧ e' = 60 ∧ o.pick = some lf := by
  unfold gS2 at h
  cases hc : (e.beq 60 && e'.beq 60) with
  | false => rw [hc] at h; cases h
  | true =>
    rw [hc] at h
    rw [Bool.and_eq_true] at hc
    exact ⟨Nat.eq_of_beq_eq_true hc.1, Nat.eq_of_beq_eq_true hc.2, h⟩
/-- Join by turn: with a set, with none -/
def turnS : En.Spec := ⟨[], fun ds os => match ds, os with
  | [.p (.one .np), .p (.one .np), .p (.one (.fn _ []))], [] => .leaf [pB false] [] []
  | [.p (.one (.pv ⟨0, 0⟩ 0)), .p (.one (.pv ⟨0, 1⟩ 0)), .p (.one (.fn g []))], [.va [.d (.fz true) (.i .i64) n, .rw ⟨0, 2⟩], .va [.d (.fz true) (.i .i64) m, .rw ⟨0, 3⟩], .ro true 0 e (.i .u64) .z ws none, .ro true 0 e' (.i .u64) .z vs none] =>
    gS2 e e' <| bif g.beq 35 then .br (okS n ws) (.leaf [pB (turnB .or n ws vs)] [vaS ⟨0, 2⟩ n, vaS ⟨0, 3⟩ m, roW (turnW .or n ws vs), roW vs] []) .fail else .fail
  | _, _ => .fail⟩
theorem turn_ok : FnOk P C0 34 turnS := by
  refine fn_okC ctx7 (show P.funcs[34]? = some f34jf by kernel_rfl) (of_decide_eq_true (by kernel_rfl)) turnS f34jh (fun ds os lf hp => ?_)
  unfold turnS at hp
  simp only at hp
  split at hp
  · rename_i g
    simp only [Out.pick, Option.some.injEq] at hp
    subst hp
    exact ⟨0, by kernel_rfl⟩
  · rename_i g n m e ws e' vs
    obtain ⟨rfl, rfl, hq⟩ := gS2_pick hp
    replace hp := hq
    cases hg : g.beq 35 with
    | false => rw [hg] at hp; cases hp
    | true =>
      rw [hg] at hp
      have hg' := Nat.eq_of_beq_eq_true hg
      subst hg'
      simp only [cond_true, Out.pick] at hp
      cases hc : okS n ws with
      | false => rw [hc] at hp; cases hp
      | true =>
        rw [hc] at hp
        simp only [cond_true, Option.some.injEq] at hp
        subst hp
        have hok := okS_iff.1 hc
        exact ⟨65, (f34j_ev 65 n m ws vs).trans (turn_T hok.lo (by have := hok.len; have := hok.hi; omega))⟩
  · cases hp
end Go.S1
