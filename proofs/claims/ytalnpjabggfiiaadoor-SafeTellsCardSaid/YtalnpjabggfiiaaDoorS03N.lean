/-
  Seat 03 (safe): plain laws of sums, differences, products and divisors.
-/
import Derived.Test.YtalnpjabggfiiaaDoorS03A
import Derived.Test.YtalnpjabggfiiaaDoorEd
open Go Go.En
namespace Go.S3
/-- a number of 64 bits -/
def In (a : Int) : Prop := -9223372036854775808 ≤ a ∧ a ≤ 9223372036854775807
def inI (a : Int) : Bool := decide (-9223372036854775808 ≤ a) && decide (a ≤ 9223372036854775807)
theorem inI_iff {a : Int} : inI a = true ↔ In a := by simp [inI, In]
theorem wr_in {a : Int} (h : In a) : wr a = a := i64_wrap_in h.1 h.2
theorem wr_range (a : Int) : In (wr a) := i64_wrap_range a
theorem add_in {a b : Int} (ha : In a) (hb : In b) (h : In (a + b)) : add a b = (a + b, .nil) := by
  have hw := wr_in h
  have : addOv a b = false := by
    unfold addOv
    rw [hw]
    unfold In at *
    by_cases h1 : a < 0 <;> by_cases h2 : b < 0 <;> by_cases h3 : a + b < 0 <;> simp [h1, h2, h3] <;> omega
  unfold add
  rw [this, hw]; rfl
theorem add_out {a b : Int} (ha : In a) (hb : In b) (h : ¬ In (a + b)) : add a b = (0, .no 10) := by
  have : addOv a b = true := by
    unfold addOv wr
    rw [i64_wrap]
    unfold In at *
    by_cases h1 : a < 0 <;> by_cases h2 : b < 0 <;> simp [h1, h2] <;> (try split) <;> omega
  unfold add
  rw [this]; rfl
theorem sub_in {a b : Int} (ha : In a) (hb : In b) (h : In (a - b)) : sub a b = (a - b, .nil) := by
  have hw := wr_in h
  have : subOv a b = false := by
    unfold subOv
    rw [hw]
    unfold In at *
    by_cases h1 : a < 0 <;> by_cases h2 : b < 0 <;> by_cases h3 : a - b < 0 <;> simp [h1, h2, h3] <;> omega
  unfold sub
  rw [this, hw]; rfl
theorem sub_out {a b : Int} (ha : In a) (hb : In b) (h : ¬ In (a - b)) : sub a b = (0, .no 10) := by
  have : subOv a b = true := by
    unfold subOv wr
    rw [i64_wrap]
    unfold In at *
    by_cases h1 : a < 0 <;> by_cases h2 : b < 0 <;> simp [h1, h2] <;> (try split) <;> omega
  unfold sub
  rw [this]; rfl
theorem mul_in {a b : Int} (ha : In a) (hb : In b) (h : In (a * b)) : mul a b = (a * b, .nil) := by
  have hw := wr_in h
  unfold mul
  cases hz : mulZ a b with
  | true =>
    have : a * b = 0 := by
      unfold mulZ at hz
      simp only [Bool.or_eq_true, beq_iff_eq] at hz
      rcases hz with rfl | rfl <;> simp
    rw [this]; rfl
  | false =>
    have hz' : a ≠ 0 ∧ b ≠ 0 := by
      unfold mulZ at hz
      simpa using hz
    have : mulOv a b = false := by
      unfold mulOv
      rw [hw, Int.mul_tdiv_cancel _ hz'.2, wr_in ha]
      simp only [bne_self_eq_false, Bool.or_false]
      unfold In at *
      rw [Bool.or_eq_false_iff]
      constructor
      · rw [Bool.and_eq_false_iff]
        by_cases h1 : a = -1
        · right
          subst h1
          simp only [beq_eq_false_iff_ne]
          omega
        · left; simpa using h1
      · rw [Bool.and_eq_false_iff]
        by_cases h1 : b = -1
        · right
          subst h1
          simp only [beq_eq_false_iff_ne]
          omega
        · left; simpa using h1
    rw [this, hw]; rfl
theorem mul_out {a b : Int} (ha : In a) (hb : In b) (h : ¬ In (a * b)) : mul a b = (0, .no 10) := by
  unfold mul
  have hz' : a ≠ 0 ∧ b ≠ 0 := by
    constructor <;> (rintro rfl; apply h; simp [In])
  have hz : mulZ a b = false := by unfold mulZ; simpa using hz'
  have : mulOv a b = true := by
    cases hov : mulOv a b with
    | true => rfl
    | false =>
      exfalso
      unfold mulOv at hov
      simp only [Bool.or_eq_false_iff, Bool.and_eq_false_iff, bne_eq_false_iff_eq, beq_eq_false_iff_ne] at hov
      obtain ⟨⟨h1, h2⟩, h3⟩ := hov
      have hcr := wr_range (a * b)
      have hc : ∃ k : Int, wr (a * b) = a * b + 18446744073709551616 * k := by
        unfold wr
        rw [i64_wrap]
        split
        · exact ⟨-(a * b / 18446744073709551616) - 1, by omega⟩
        · exact ⟨-(a * b / 18446744073709551616), by omega⟩
      obtain ⟨k, hk⟩ := hc
      generalize wr (a * b) = c at *
      have hq : In (c.tdiv b) ∨ (c = -9223372036854775808 ∧ b = -1) := by
        by_cases hb1 : b = -1
        · subst hb1
          by_cases hc1 : c = -9223372036854775808
          · exact .inr ⟨hc1, rfl⟩
          · left
            have : c.tdiv (-1) = -c := by simp
            rw [this]
            unfold In at *
            omega
        · left
          have e := Int.natAbs_tdiv_le_natAbs c b
          have hn : c.natAbs ≤ 9223372036854775808 := by unfold In at hcr; omega
          by_cases hb2 : b = 1
          · subst hb2; simpa using hcr
          · have h4 : (c.tdiv b).natAbs = c.natAbs / b.natAbs := Int.natAbs_tdiv c b
            have h5 : 2 ≤ b.natAbs := by omega
            have h6 : c.natAbs / b.natAbs ≤ c.natAbs / 2 := Nat.div_le_div_left h5 (by omega)
            unfold In
            omega
      rcases hq with hq | ⟨hc1, hb1⟩
      · have hqa : c.tdiv b = a := by
          have := h3
          rw [wr_in hq] at this
          exact this
        have hr := Int.tmod_add_mul_tdiv c b
        rw [hqa] at hr
        have hlt : (c.tmod b).natAbs < b.natAbs := by
          rw [Int.natAbs_tmod]; exact Nat.mod_lt _ (by omega)
        have hcomm : b * a = a * b := Int.mul_comm b a
        have hbn : b.natAbs ≤ 9223372036854775808 := by unfold In at hb; omega
        have : k = 0 := by omega
        subst this
        apply h
        have : c = a * b := by omega
        rw [← this]; exact hcr
      · subst hb1
        subst hc1
        have h4 : wr ((-9223372036854775808 : Int).tdiv (-1)) = -9223372036854775808 := by decide
        rw [h4] at h3
        rcases h2 with h2 | h2
        · exact h2 rfl
        · exact h2 h3.symm
  rw [hz, this]; rfl
end Go.S3
