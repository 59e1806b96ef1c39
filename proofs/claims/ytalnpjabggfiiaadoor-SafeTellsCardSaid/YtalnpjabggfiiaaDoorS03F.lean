/-
  Seat 03 (safe): the document's sums, differences and products.
-/
import Derived.Test.YtalnpjabggfiiaaDoorS03E
open Go Go.En
namespace Go.S3
def rsub (a b : Int) : Int × Bool :=
  bif b == -9223372036854775808 then (bif decide (a ≥ 0) then (0, false) else fits 0 (wu (9223372036854775808 - size a)) false) else radd a (wr (0 - b))
theorem rsub_ok : FnOk P C0 19 (spIB rsub) := by
  refine fn_okC ctx3 (show P.funcs[19]? = some f19f by kernel_rfl) (of_decide_eq_true (by kernel_rfl)) (spIB rsub) f19h (fun ds os lf hp => ?_)
  unfold spIB at hp
  simp only at hp
  split at hp
  · rename_i a b
    simp only [Out.pick, Option.some.injEq] at hp
    subst hp
    refine ⟨0, (f19_ev 0 a b).trans ?_⟩
    show f19T a b = _
    unfold f19T rsub
    cases (b == -9223372036854775808) <;> cases decide (a ≥ 0) <;> rfl
  · cases hp

/-! ### what they are -/
theorem size_eq {a : Int} (ha : In a) : size a = a.natAbs := by
  unfold size wu wr
  unfold In at ha
  by_cases h : a < 0
  · simp only [h, decide_true, cond_true]
    rw [i64_wrap_in (n := a + 1) (by omega) (by omega), i64_wrap_in (n := 0 - (a + 1)) (by omega) (by omega), u64_wrap_in (n := 0 - (a + 1)) (by omega) (by omega), u64_wrap_in (by omega) (by omega)]
    omega
  · simp only [h, decide_false, cond_false]
    rw [u64_wrap_in (by omega) (by omega)]
    omega
theorem fits_pos {hi lo : Int} (h0 : 0 ≤ hi) (h1 : 0 ≤ lo) (h2 : lo < 18446744073709551616) : fits hi lo false = if hi * 18446744073709551616 + lo ≤ 9223372036854775807 then (hi * 18446744073709551616 + lo, true) else (0, false) := by
  unfold fits
  by_cases h : hi > 0
  · simp only [h, decide_true, cond_true]
    rw [if_neg (by omega)]
  · simp only [h, decide_false, cond_false]
    have : hi = 0 := by omega
    subst this
    by_cases h3 : lo ≥ 9223372036854775808
    · simp only [h3, decide_true, cond_true]
      rw [if_neg (by omega)]
    · simp only [h3, decide_false, cond_false]
      rw [if_pos (by omega), wr_in ⟨by omega, by omega⟩]
      simp
theorem fits_neg {hi lo : Int} (h0 : 0 ≤ hi) (h1 : 0 ≤ lo) (h2 : lo < 18446744073709551616) : fits hi lo true = if hi * 18446744073709551616 + lo ≤ 9223372036854775808 then (-(hi * 18446744073709551616 + lo), true) else (0, false) := by
  unfold fits
  by_cases h : hi > 0
  · simp only [h, decide_true, cond_true]
    rw [if_neg (by omega)]
  · simp only [h, decide_false, cond_false]
    have : hi = 0 := by omega
    subst this
    by_cases h3 : lo > 9223372036854775808
    · simp only [h3, decide_true, cond_true]
      rw [if_neg (by omega)]
    · simp only [h3, decide_false, cond_false, cond_true]
      rw [if_pos (by omega)]
      by_cases h4 : lo = 9223372036854775808
      · subst h4; rfl
      · have : (lo == 9223372036854775808) = false := by simpa using h4
        rw [this]
        simp only [cond_false]
        rw [wr_in (a := lo) ⟨by omega, by omega⟩, wr_in (a := 0 - lo) ⟨by omega, by omega⟩]
        congr 1
        omega
/-- what is told, and what it is -/
def Agree (r : Int × Er) (q : Int × Bool) : Prop := (r.2 = .nil ∧ q.2 = true ∧ r.1 = q.1) ∨ (r = (0, .no 10) ∧ q.2 = false)
theorem agree_of {v : Int} {r : Int × Er} {q : Int × Bool} (hr1 : In v → r = (v, .nil)) (hr2 : ¬ In v → r = (0, .no 10)) (hq : q = if -9223372036854775808 ≤ v ∧ v ≤ 9223372036854775807 then (v, true) else (0, false)) : Agree r q := by
  by_cases h : In v
  · rw [if_pos (show -9223372036854775808 ≤ v ∧ v ≤ 9223372036854775807 from h)] at hq
    left; rw [hr1 h, hq]; exact ⟨rfl, rfl, rfl⟩
  · rw [if_neg (show ¬ (-9223372036854775808 ≤ v ∧ v ≤ 9223372036854775807) from h)] at hq
    right; rw [hr2 h, hq]; exact ⟨rfl, rfl⟩
theorem Agree.is {r : Int × Er} {q : Int × Bool} (h : Agree r q) : isF r.1 r.2 q.1 q.2 = true := by
  obtain ⟨n, e⟩ := r
  obtain ⟨m, b⟩ := q
  rcases h with ⟨h1, h2, h3⟩ | ⟨h1, h2⟩
  · simp only at h1 h2 h3
    subst h1 h2 h3
    simp [isF, Er.isNil]
  · simp only [Prod.mk.injEq] at h1 h2
    obtain ⟨rfl, rfl⟩ := h1
    subst h2
    rfl
theorem Agree.plain {r : Int × Er} {q : Int × Bool} (h : Agree r q) : S3.plain r.2 = true := by
  rcases h with ⟨h1, _, _⟩ | ⟨h1, _⟩
  · rw [h1]; rfl
  · rw [h1]; rfl
theorem radd_eq {a b : Int} (ha : In a) (hb : In b) : radd a b = if -9223372036854775808 ≤ (a + b) ∧ (a + b) ≤ 9223372036854775807 then (a + b, true) else (0, false) := by
  unfold radd
  rw [size_eq ha, size_eq hb]
  unfold In at *
  by_cases h1 : a < 0
  · by_cases h2 : b < 0
    · simp only [h1, h2, decide_true, beq_self_eq_true, cond_true]
      rw [fits_neg (by omega) (by omega) (by omega)]
      have e : (↑a.natAbs + ↑b.natAbs + 0 : Int) / 18446744073709551616 * 18446744073709551616 + (↑a.natAbs + ↑b.natAbs + 0 : Int) % 18446744073709551616 = -(a + b) := by omega
      rw [e]
      by_cases h : -9223372036854775808 ≤ a + b
      · rw [if_pos (by omega), if_pos ⟨h, by omega⟩]; congr 1; omega
      · rw [if_neg (by omega), if_neg (fun x => h x.1)]
    · have hc : (decide (a < 0) == decide (b < 0)) = false := by simp [h1, h2]
      rw [hc, if_pos ⟨by omega, by omega⟩]
      simp only [cond_false]
      by_cases h3 : ((a.natAbs : Int) ≥ b.natAbs)
      · simp only [h3, decide_true, cond_true, h1]
        unfold wu
        rw [u64_wrap_in (by omega) (by omega), fits_neg (by omega) (by omega) (by omega), if_pos (by omega)]
        congr 1; omega
      · simp only [h3, decide_false, cond_false, h2]
        unfold wu
        rw [u64_wrap_in (by omega) (by omega), fits_pos (by omega) (by omega) (by omega), if_pos (by omega)]
        congr 1; omega
  · by_cases h2 : b < 0
    · have hc : (decide (a < 0) == decide (b < 0)) = false := by simp [h1, h2]
      rw [hc, if_pos ⟨by omega, by omega⟩]
      simp only [cond_false]
      by_cases h3 : ((a.natAbs : Int) ≥ b.natAbs)
      · simp only [h3, decide_true, cond_true, h1, decide_false]
        unfold wu
        rw [u64_wrap_in (by omega) (by omega), fits_pos (by omega) (by omega) (by omega), if_pos (by omega)]
        congr 1; omega
      · simp only [h3, decide_false, cond_false, h2, decide_true]
        unfold wu
        rw [u64_wrap_in (by omega) (by omega), fits_neg (by omega) (by omega) (by omega), if_pos (by omega)]
        congr 1; omega
    · simp only [h1, h2, decide_false, beq_self_eq_true, cond_true]
      rw [fits_pos (by omega) (by omega) (by omega)]
      have e : (↑a.natAbs + ↑b.natAbs + 0 : Int) / 18446744073709551616 * 18446744073709551616 + (↑a.natAbs + ↑b.natAbs + 0 : Int) % 18446744073709551616 = a + b := by omega
      rw [e]
      by_cases h : a + b ≤ 9223372036854775807
      · rw [if_pos h, if_pos ⟨by omega, h⟩]
      · rw [if_neg h, if_neg (fun x => h x.2)]
theorem rsub_eq {a b : Int} (ha : In a) (hb : In b) : rsub a b = if -9223372036854775808 ≤ (a - b) ∧ (a - b) ≤ 9223372036854775807 then (a - b, true) else (0, false) := by
  unfold rsub
  by_cases h : b = -9223372036854775808
  · subst h
    simp only [beq_self_eq_true, cond_true]
    unfold In at *
    by_cases h1 : a ≥ 0
    · simp only [h1, decide_true, cond_true]
      rw [if_neg (by omega)]
    · simp only [h1, decide_false, cond_false]
      rw [if_pos (by omega), size_eq ha]
      unfold wu
      rw [u64_wrap_in (by omega) (by omega), fits_pos (by omega) (by omega) (by omega), if_pos (by omega)]
      congr 1; omega
  · have : (b == -9223372036854775808) = false := by simpa using h
    rw [this]
    simp only [cond_false]
    have hb' : In (0 - b) := by unfold In at *; omega
    rw [wr_in hb', radd_eq ha hb']
    have : a + (0 - b) = a - b := by omega
    rw [this]
theorem and_32 {a : Int} (h0 : 0 ≤ a) (h1 : a < 18446744073709551616) : bitsF .and .u64 a 4294967295 = a % 4294967296 := by
  obtain ⟨A, rfl⟩ := Int.eq_ofNat_of_zero_le h0
  unfold bitsF
  simp only
  have e : (BitVec.ofInt IntKind.u64.bits (A : Int) &&& BitVec.ofInt IntKind.u64.bits 4294967295).toNat = A % 4294967296 := by
    rw [BitVec.toNat_and]
    have e1 : (BitVec.ofInt IntKind.u64.bits (A : Int)).toNat = A := by
      show (BitVec.ofInt 64 (A : Int)).toNat = A
      rw [BitVec.toNat_ofInt]
      have : ((A : Int) % ((2 ^ 64 : Nat) : Int)) = (A : Int) := Int.emod_eq_of_lt (by omega) (by show (A : Int) < 18446744073709551616; omega)
      rw [this]; rfl
    have e2 : (BitVec.ofInt IntKind.u64.bits 4294967295).toNat = 2 ^ 32 - 1 := rfl
    rw [e1, e2, Nat.and_two_pow_sub_one_eq_mod]
  rw [e, u64_wrap_in (by omega) (by omega)]
  omega
theorem shr_32 {a : Int} (h0 : 0 ≤ a) : shrF .u64 a 32 = a / 4294967296 := by
  unfold shrF
  show a.fdiv ((2 : Int) ^ (min 32 64 : Nat)) = _
  rw [Int.fdiv_eq_ediv_of_nonneg _ (by decide)]
  rfl
theorem mulHi_eq {a b : Int} (ha : 0 ≤ a ∧ a < 18446744073709551616) (hb : 0 ≤ b ∧ b < 18446744073709551616) : mulHi a b = a * b / 18446744073709551616 := by
  unfold mulHi wu
  dsimp only
  rw [shr_32 ha.1, shr_32 hb.1, and_32 ha.1 ha.2, and_32 hb.1 hb.2]
  have ea : a = a / 4294967296 * 4294967296 + a % 4294967296 := by omega
  have eb : b = b / 4294967296 * 4294967296 + b % 4294967296 := by omega
  have ha1 : 0 ≤ a / 4294967296 ∧ a / 4294967296 ≤ 4294967295 := by omega
  have hb1 : 0 ≤ b / 4294967296 ∧ b / 4294967296 ≤ 4294967295 := by omega
  have ha0 : 0 ≤ a % 4294967296 ∧ a % 4294967296 ≤ 4294967295 := by omega
  have hb0 : 0 ≤ b % 4294967296 ∧ b % 4294967296 ≤ 4294967295 := by omega
  generalize a / 4294967296 = x at *
  generalize b / 4294967296 = y at *
  generalize a % 4294967296 = z at *
  generalize b % 4294967296 = t at *
  have bound : ∀ p q : Int, 0 ≤ p ∧ p ≤ 4294967295 → 0 ≤ q ∧ q ≤ 4294967295 → 0 ≤ p * q ∧ p * q ≤ 18446744065119617025 := by
    intro p q hp hq
    refine ⟨Int.mul_nonneg hp.1 hq.1, ?_⟩
    calc p * q ≤ 4294967295 * 4294967295 := Int.mul_le_mul hp.2 hq.2 hq.1 (by omega)
      _ = _ := by rfl
  have hxt := bound x t ha1 hb0
  have hzt := bound z t ha0 hb0
  have hxy := bound x y ha1 hb1
  have hzy := bound z y ha0 hb1
  have e : a * b = x * y * 18446744073709551616 + (x * t + z * y) * 4294967296 + z * t := by
    rw [ea, eb]
    rw [Int.add_mul, Int.mul_add, Int.mul_add]
    have e1 : x * 4294967296 * (y * 4294967296) = x * y * 18446744073709551616 := by
      rw [Int.mul_assoc x, Int.mul_left_comm 4294967296 y, ← Int.mul_assoc]; rfl
    have e2 : x * 4294967296 * t = x * t * 4294967296 := by rw [Int.mul_assoc, Int.mul_comm 4294967296 t, ← Int.mul_assoc]
    have e3 : z * (y * 4294967296) = z * y * 4294967296 := by rw [Int.mul_assoc]
    rw [e1, e2, e3, Int.add_mul]; omega
  rw [e]
  rw [u64_wrap_in (n := z * t) (by omega) (by omega), u64_wrap_in (n := x * t) (by omega) (by omega), u64_wrap_in (n := x * y) (by omega) (by omega), u64_wrap_in (n := z * y) (by omega) (by omega)]
  rw [shr_32 hzt.1]
  generalize x * t = p at *
  generalize z * t = q at *
  generalize x * y = r at *
  generalize z * y = s at *
  have hT : 0 ≤ p + q / 4294967296 ∧ p + q / 4294967296 < 18446744073709551616 := by omega
  rw [u64_wrap_in (n := p + q / 4294967296) hT.1 (by omega), and_32 hT.1 hT.2, shr_32 hT.1]
  generalize hTe : p + q / 4294967296 = T at *
  have h2 : 0 ≤ T % 4294967296 + s ∧ T % 4294967296 + s < 18446744073709551616 := by omega
  rw [u64_wrap_in (n := T % 4294967296 + s) h2.1 (by omega), shr_32 h2.1, u64_wrap_in (n := r + T / 4294967296) (by omega) (by omega), u64_wrap_in (by omega) (by omega)]
  omega
theorem rmul_eq {a b : Int} (ha : In a) (hb : In b) : rmul a b = if -9223372036854775808 ≤ (a * b) ∧ (a * b) ≤ 9223372036854775807 then (a * b, true) else (0, false) := by
  unfold rmul
  rw [size_eq ha, size_eq hb]
  have hA : 0 ≤ (a.natAbs : Int) ∧ (a.natAbs : Int) < 18446744073709551616 := by unfold In at ha; omega
  have hB : 0 ≤ (b.natAbs : Int) ∧ (b.natAbs : Int) < 18446744073709551616 := by unfold In at hb; omega
  rw [mulHi_eq hA hB]
  unfold wu
  rw [u64_wrap]
  have hM : ((a.natAbs : Int) * (b.natAbs : Int)) = ((a * b).natAbs : Int) := by rw [Int.natAbs_mul]; rfl
  rw [hM]
  have e : ((a * b).natAbs : Int) / 18446744073709551616 * 18446744073709551616 + ((a * b).natAbs : Int) % 18446744073709551616 = ((a * b).natAbs : Int) := by omega
  have hs : (a < 0 ↔ b < 0) → 0 ≤ a * b := by
    intro h
    by_cases h1 : a < 0
    · exact Int.mul_nonneg_of_nonpos_of_nonpos (by omega) (by have := h.1 h1; omega)
    · have h2 : ¬ b < 0 := fun x => h1 (h.2 x)
      exact Int.mul_nonneg (by omega) (by omega)
  have hs' : ¬ (a < 0 ↔ b < 0) → a * b ≤ 0 := by
    intro h
    by_cases h1 : a < 0
    · have h2 : ¬ b < 0 := fun x => h ⟨fun _ => x, fun _ => h1⟩
      exact Int.mul_nonpos_of_nonpos_of_nonneg (by omega) (by omega)
    · have h2 : b < 0 := by
        apply Classical.byContradiction
        intro h2
        exact h ⟨fun x => absurd x h1, fun x => absurd x h2⟩
      exact Int.mul_nonpos_of_nonneg_of_nonpos (by omega) (by omega)
  by_cases h : (a < 0 ↔ b < 0)
  · have hc : (!(decide (a < 0) == decide (b < 0))) = false := by
      by_cases h1 : a < 0
      · have h2 := h.1 h1; simp [h1, h2]
      · have h2 : ¬ b < 0 := fun x => h1 (h.2 x)
        simp [h1, h2]
    rw [hc, fits_pos (by omega) (by omega) (by omega), e]
    have := hs h
    generalize a * b = m at *
    by_cases h3 : m ≤ 9223372036854775807
    · rw [if_pos (by omega), if_pos ⟨by omega, h3⟩]; congr 1; omega
    · rw [if_neg (by omega), if_neg (fun x => h3 x.2)]
  · have hc : (!(decide (a < 0) == decide (b < 0))) = true := by
      by_cases h1 : a < 0 <;> by_cases h2 : b < 0
      · exact absurd ⟨fun _ => h2, fun _ => h1⟩ h
      · simp [h1, h2]
      · simp [h1, h2]
      · exact absurd ⟨fun x => absurd x h1, fun x => absurd x h2⟩ h
    rw [hc, fits_neg (by omega) (by omega) (by omega), e]
    have := hs' h
    generalize a * b = m at *
    by_cases h3 : -9223372036854775808 ≤ m
    · rw [if_pos (by omega), if_pos ⟨h3, by omega⟩]; congr 1; omega
    · rw [if_neg (by omega), if_neg (fun x => h3 x.1)]
theorem add_agree {a b : Int} (ha : In a) (hb : In b) : Agree (add a b) (radd a b) := agree_of (add_in ha hb) (add_out ha hb) (radd_eq ha hb)
theorem sub_agree {a b : Int} (ha : In a) (hb : In b) : Agree (sub a b) (rsub a b) := agree_of (sub_in ha hb) (sub_out ha hb) (rsub_eq ha hb)
theorem mul_agree {a b : Int} (ha : In a) (hb : In b) : Agree (mul a b) (rmul a b) := agree_of (mul_in ha hb) (mul_out ha hb) (rmul_eq ha hb)
end Go.S3
