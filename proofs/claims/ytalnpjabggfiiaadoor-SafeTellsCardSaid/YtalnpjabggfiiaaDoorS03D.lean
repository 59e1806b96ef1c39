/-
  Seat 03 (safe): SafeBack and SafeOrder, SafeSums: their contracts.
-/
import Derived.Test.YtalnpjabggfiiaaDoorS03G3
import Derived.Test.YtalnpjabggfiiaaDoorS03N
open Go Go.En
namespace Go.S3
theorem ctx3 : CtxOk C3 := fun _ _ h => tbl_ok (l := l3) ⟨alive_ok, neg_ok, sum_ok, radd_ok, is_ok, rmul_ok, add_ok, sub_ok, mul_ok, gcd_ok, num_ok, rgcd_ok, add64_ok, size_ok, fits_ok, mul64_ok, trivial⟩ h

theorem add_cases {a b : Int} (ha : In a) (hb : In b) : (In (a + b) ∧ add a b = (a + b, .nil)) ∨ (¬ In (a + b) ∧ add a b = (0, .no 10)) := by
  by_cases h : In (a + b)
  · exact .inl ⟨h, add_in ha hb h⟩
  · exact .inr ⟨h, add_out ha hb h⟩
theorem sub_cases {a b : Int} (ha : In a) (hb : In b) : (In (a - b) ∧ sub a b = (a - b, .nil)) ∨ (¬ In (a - b) ∧ sub a b = (0, .no 10)) := by
  by_cases h : In (a - b)
  · exact .inl ⟨h, sub_in ha hb h⟩
  · exact .inr ⟨h, sub_out ha hb h⟩
theorem mul_cases {a b : Int} (ha : In a) (hb : In b) : (In (a * b) ∧ mul a b = (a * b, .nil)) ∨ (¬ In (a * b) ∧ mul a b = (0, .no 10)) := by
  by_cases h : In (a * b)
  · exact .inl ⟨h, mul_in ha hb h⟩
  · exact .inr ⟨h, mul_out ha hb h⟩

/-! ### SafeBack -/
theorem back_law {a b : Int} (ha : In a) (hb : In b) : f3T a b = some ⟨[pB true], [], []⟩ := by
  have hadd : (add a b).2.isNil = true → (!(sub (add a b).1 b).2.isNil || (sub (add a b).1 b).1 != a) = false := by
    intro h
    rcases add_cases ha hb with ⟨h1, h2⟩ | ⟨_, h2⟩
    · rw [h2, sub_in h1 hb (by rw [Int.add_sub_cancel]; exact ha), Int.add_sub_cancel]
      simp [Er.isNil]
    · rw [h2] at h; cases h
  have hg1 : (bif (mul a b).snd.isNil then bif b != 0 then decide (b ≠ 0) && ((mul a b).fst.tmod b != 0 || bif b != -1 then decide (b ≠ 0) && true else true) else true else true) = true := by
    cases (mul a b).snd.isNil with
    | false => rfl
    | true =>
      by_cases h0 : b = 0
      · subst h0; rfl
      · have e1 : (b != 0) = true := by simpa using h0
        have e2 : decide (b ≠ 0) = true := by simpa using h0
        rw [e1, e2]
        cases (b != -1) <;> cases ((mul a b).fst.tmod b != 0) <;> rfl
  have hg2 : ((mul a b).snd.isNil && (b != 0 && ((mul a b).fst.tmod b != 0 || b != -1 && IntKind.i64.wrap ((mul a b).fst.tdiv b) != a))) = false := by
    rcases mul_cases ha hb with ⟨h1, h2⟩ | ⟨_, h2⟩
    · rw [h2]
      by_cases h0 : b = 0
      · subst h0; rfl
      · simp only []
        rw [Int.mul_tdiv_cancel _ h0, show IntKind.i64.wrap a = a from wr_in ha]
        simp
    · rw [h2]; rfl
  have hg : (gcd a b).2.isNil = true → 0 ≤ a ∧ 0 ≤ b ∧ (gcd a b).1 = (Int.gcd a b : Nat) := by
    intro h
    unfold gcd at h ⊢
    by_cases h1 : a < 0
    · simp [h1, Er.isNil] at h
    · by_cases h2 : b < 0
      · simp [h1, h2, Er.isNil] at h
      · simp only [h1, h2, decide_false, Bool.or_false, cond_false]
        exact ⟨by omega, by omega, trivial⟩
  have hz : (gcd a b).2.isNil = true → ((gcd a b).1 = 0 ∧ a = 0 ∧ b = 0) ∨ ((gcd a b).1 > 0 ∧ a.tmod (gcd a b).1 = 0 ∧ b.tmod (gcd a b).1 = 0) := by
    intro h
    obtain ⟨h1, h2, h3⟩ := hg h
    rw [h3]
    by_cases h0 : Int.gcd a b = 0
    · left
      rw [Int.gcd_eq_zero_iff] at h0
      exact ⟨by rw [Int.natCast_eq_zero, Int.gcd_eq_zero_iff]; exact h0, h0.1, h0.2⟩
    · right
      refine ⟨by omega, ?_, ?_⟩
      · exact Int.tmod_eq_zero_of_dvd (Int.gcd_dvd_left ..)
      · exact Int.tmod_eq_zero_of_dvd (Int.gcd_dvd_right ..)
  have fin : ∀ g : Int × Er, (g.2.isNil = true → (g.1 = 0 ∧ a = 0 ∧ b = 0) ∨ (g.1 > 0 ∧ a.tmod g.1 = 0 ∧ b.tmod g.1 = 0)) →
      (!g.snd.isNil || bif g.fst == 0 then bif a == 0 then b == 0 || bif decide (g.fst > 0) then decide (g.fst ≠ 0) && bif a.tmod g.fst == 0 then decide (g.fst ≠ 0) && true else true else true else bif decide (g.fst > 0) then decide (g.fst ≠ 0) && bif a.tmod g.fst == 0 then decide (g.fst ≠ 0) && true else true else true else bif decide (g.fst > 0) then decide (g.fst ≠ 0) && bif a.tmod g.fst == 0 then decide (g.fst ≠ 0) && true else true else true) = true
      ∧ (!g.snd.isNil || bif g.fst == 0 then bif a == 0 then b == 0 || decide (g.fst > 0) && (a.tmod g.fst == 0 && b.tmod g.fst == 0) else decide (g.fst > 0) && (a.tmod g.fst == 0 && b.tmod g.fst == 0) else decide (g.fst > 0) && (a.tmod g.fst == 0 && b.tmod g.fst == 0)) = true := by
    rintro ⟨n, e⟩ h
    simp only at h ⊢
    cases he : e.isNil with
    | false => exact ⟨rfl, rfl⟩
    | true =>
      rcases h he with ⟨h1, h2, h3⟩ | ⟨h1, h2, h3⟩
      · subst h1; rw [h2, h3]; exact ⟨rfl, rfl⟩
      · have e1 : (n == 0) = false := by simp only [beq_eq_false_iff_ne]; omega
        have e2 : decide (n > 0) = true := by simpa using h1
        have e3 : decide (n ≠ 0) = true := by simp only [decide_eq_true_eq]; omega
        rw [e1, e2, e3, h2, h3]
        exact ⟨rfl, rfl⟩
  have hf := fin (gcd a b) hz
  unfold f3T
  rw [hg1, hg2, hf.1, hf.2]
  cases hc : (add a b).2.isNil with
  | false => rfl
  | true => rw [hadd hc]; rfl
def backS : En.Spec := ⟨[], fun ds os => match ds, os with
  | [.p (.one (.d (.fz true) (.i .i64) a)), .p (.one (.d (.fz true) (.i .i64) b))], [] => .br (inI a && inI b) (.leaf [pB true] [] []) .fail
  | _, _ => .fail⟩
theorem back_ok : FnOk P C0 3 backS := by
  refine fn_okC ctx3 (show P.funcs[3]? = some f3f by kernel_rfl) (of_decide_eq_true (by kernel_rfl)) backS f3h (fun ds os lf hp => ?_)
  unfold backS at hp
  simp only at hp
  split at hp
  · rename_i a b
    simp only [Out.pick] at hp
    cases hc : (inI a && inI b) with
    | false => rw [hc] at hp; cases hp
    | true =>
      rw [hc] at hp
      simp only [cond_true, Option.some.injEq] at hp
      subst hp
      rw [Bool.and_eq_true, inI_iff, inI_iff] at hc
      exact ⟨0, (f3_ev 0 a b).trans (back_law hc.1 hc.2)⟩
  · cases hp
end Go.S3
