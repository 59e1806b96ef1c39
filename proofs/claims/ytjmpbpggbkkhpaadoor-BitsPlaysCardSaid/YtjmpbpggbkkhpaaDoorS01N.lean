/-
  Seat 01: plain laws of bits.
-/
import Derived.Test.YtjmpbpggbkkhpaaDoorS01C
open Go Go.En
namespace Go.S1
/-- is bit s of a number set? -/
def B (x s : Nat) : Prop := x / 2 ^ s % 2 = 1
instance (x s : Nat) : Decidable (B x s) := inferInstanceAs (Decidable (_ = _))
theorem B_zero (s : Nat) : ¬ B 0 s := by unfold B; simp
theorem B_test {x s : Nat} : x.testBit s = true ↔ B x s := by
  unfold B; rw [Nat.testBit_eq_decide_div_mod_eq, decide_eq_true_eq]
/-- bit p of words -/
def BW (ws : List Int) (p : Nat) : Prop := B (ws.getD (p / 64) 0).toNat (p % 64)
instance (ws : List Int) (p : Nat) : Decidable (BW ws p) := inferInstanceAs (Decidable (B _ _))
theorem and_one {a : Int} (h0 : 0 ≤ a) (h1 : a < 18446744073709551616) : bitsF .and .u64 a 1 = ((a.toNat % 2 : Nat) : Int) := by
  obtain ⟨A, rfl⟩ := Int.eq_ofNat_of_zero_le h0
  unfold bitsF
  simp only
  have e : (BitVec.ofInt IntKind.u64.bits (A : Int) &&& BitVec.ofInt IntKind.u64.bits 1).toNat = A % 2 := by
    rw [BitVec.toNat_and]
    have e1 : (BitVec.ofInt IntKind.u64.bits (A : Int)).toNat = A := by
      show (BitVec.ofInt 64 (A : Int)).toNat = A
      rw [BitVec.toNat_ofInt]
      have : ((A : Int) % ((2 ^ 64 : Nat) : Int)) = (A : Int) := Int.emod_eq_of_lt (by omega) (by show (A : Int) < 18446744073709551616; omega)
      rw [this]; rfl
    have e2 : (BitVec.ofInt IntKind.u64.bits 1).toNat = 2 ^ 1 - 1 := rfl
    rw [e1, e2, Nat.and_two_pow_sub_one_eq_mod]
  rw [e, u64_wrap_in (by omega) (by omega), Int.toNat_natCast]
theorem shr_eq {a : Int} {s : Nat} (h0 : 0 ≤ a) (hs : s < 64) : shrF .u64 a (s : Int) = ((a.toNat / 2 ^ s : Nat) : Int) := by
  obtain ⟨A, rfl⟩ := Int.eq_ofNat_of_zero_le h0
  unfold shrF
  have e : min (s : Int).toNat IntKind.u64.bits = s := by
    rw [Int.toNat_natCast]; show min s 64 = s; omega
  rw [e, Int.fdiv_eq_ediv_of_nonneg _ (Int.pow_nonneg (by decide)), Int.toNat_natCast]
  rw [Int.natCast_ediv, Int.natCast_pow]; rfl
/-- a word with its bits below t taken off -/
theorem B_clear {W t s : Nat} : B (W / 2 ^ t * 2 ^ t) s ↔ t ≤ s ∧ B W s := by
  unfold B
  by_cases h : t ≤ s
  · have e : 2 ^ s = 2 ^ t * 2 ^ (s - t) := by rw [← Nat.pow_add]; congr 1; omega
    have e1 : W / 2 ^ t * 2 ^ t / 2 ^ s = W / 2 ^ s := by
      rw [e, ← Nat.div_div_eq_div_mul, Nat.mul_div_cancel _ (Nat.two_pow_pos t), Nat.div_div_eq_div_mul]
    rw [e1]
    exact ⟨fun x => ⟨h, x⟩, fun x => x.2⟩
  · have e : 2 ^ t = 2 ^ (t - s) * 2 ^ s := by rw [← Nat.pow_add]; congr 1; omega
    have e1 : W / 2 ^ t * 2 ^ t / 2 ^ s = W / 2 ^ t * 2 ^ (t - s) := by
      conv => lhs; rw [show W / 2 ^ t * 2 ^ t = W / 2 ^ t * 2 ^ (t - s) * 2 ^ s from by rw [Nat.mul_assoc, ← e]]
      rw [Nat.mul_div_cancel _ (Nat.two_pow_pos s)]
    have e2 : 2 ^ (t - s) = 2 * 2 ^ (t - s - 1) := by rw [← Nat.pow_succ']; congr 1; omega
    rw [e1, e2]
    constructor
    · intro x
      rw [show W / 2 ^ t * (2 * 2 ^ (t - s - 1)) = 2 * (W / 2 ^ t * 2 ^ (t - s - 1)) from by rw [Nat.mul_left_comm]] at x
      omega
    · rintro ⟨x, _⟩; exact absurd x h
theorem shl_shr {a : Int} {t : Nat} (h0 : 0 ≤ a) (h1 : a < 18446744073709551616) (ht : t < 64) : shlF .u64 (shrF .u64 a (t : Int)) (t : Int) = ((a.toNat / 2 ^ t * 2 ^ t : Nat) : Int) := by
  rw [shr_eq h0 ht]
  unfold shlF
  have e : min (t : Int).toNat IntKind.u64.bits = t := by
    rw [Int.toNat_natCast]; show min t 64 = t; omega
  rw [e]
  have e2 : ((a.toNat / 2 ^ t : Nat) : Int) * 2 ^ t = ((a.toNat / 2 ^ t * 2 ^ t : Nat) : Int) := by
    rw [Int.natCast_mul, Int.natCast_pow]; rfl
  rw [e2]
  have := Nat.div_mul_le_self a.toNat (2 ^ t)
  exact u64_wrap_in (by omega) (by omega)
theorem ctz_bit {W : Nat} (h0 : W ≠ 0) (h : W < 18446744073709551616) : Lib.ctz 64 W < 64 ∧ B W (Lib.ctz 64 W) ∧ ∀ s, s < Lib.ctz 64 W → ¬ B W s := by
  have e : Lib.ctz 64 W = Lib.ctzFrom 64 W := by unfold Lib.ctz; rw [if_neg h0]
  obtain ⟨m, h1, h2⟩ := Lib.ctzFrom_spec 64 W (by omega) h
  rw [e]
  generalize Lib.ctzFrom 64 W = c at *
  refine ⟨h2, ?_, fun s hs => ?_⟩
  · unfold B
    rw [h1, Nat.mul_div_cancel_left _ (Nat.two_pow_pos c)]; omega
  · unfold B
    have e2 : 2 ^ c = 2 ^ s * (2 * 2 ^ (c - s - 1)) := by rw [← Nat.pow_succ', ← Nat.pow_add]; congr 1; omega
    rw [h1, e2, Nat.mul_assoc, Nat.mul_div_cancel_left _ (Nat.two_pow_pos s), Nat.mul_assoc]
    omega
/-- bit p of words that begin with word k -/
def BL (k : Nat) (L : List Int) (p : Nat) : Prop := B (L.getD (p / 64 - k) 0).toNat (p % 64)
theorem BL_cons {k p : Nat} {w : Int} {L : List Int} (h : (k + 1) * 64 ≤ p) : BL k (w :: L) p ↔ BL (k + 1) L p := by
  unfold BL
  have e : p / 64 - k = (p / 64 - (k + 1)) + 1 := by omega
  rw [e]; simp
theorem BL_head {k p : Nat} {w : Int} {L : List Int} (h : k * 64 ≤ p) (h2 : p < (k + 1) * 64) : BL k (w :: L) p ↔ B w.toNat (p - k * 64) := by
  unfold BL
  have e : p / 64 - k = 0 := by omega
  have e2 : p % 64 = p - k * 64 := by omega
  rw [e, e2]; simp
theorem scan_spec : ∀ {rest : List Int} {k : Nat} {w : Int}, 0 ≤ w → w < 18446744073709551616 → (∀ x ∈ rest, 0 ≤ x ∧ x < 18446744073709551616) →
    (∃ p : Nat, scanF k w rest = ((p : Int), true) ∧ k * 64 ≤ p ∧ BL k (w :: rest) p ∧ ∀ q, k * 64 ≤ q → q < p → ¬ BL k (w :: rest) q) ∨
    (scanF k w rest = (0, false) ∧ ∀ q, k * 64 ≤ q → ¬ BL k (w :: rest) q) := by
  intro rest
  induction rest with
  | nil =>
    intro k w h0 h1 _
    by_cases hw : w = 0
    · subst hw
      right
      refine ⟨rfl, fun q hq => ?_⟩
      unfold BL
      by_cases h : q / 64 - k = 0
      · rw [h]; exact B_zero _
      · rw [show q / 64 - k = (q / 64 - k - 1) + 1 from by omega]
        exact B_zero _
    · left
      obtain ⟨c1, c2, c3⟩ := ctz_bit (W := w.toNat) (by omega) (by omega)
      refine ⟨k * 64 + Lib.ctz 64 w.toNat, ?_, by omega, ?_, fun q h2 h3 => ?_⟩
      · unfold scanF
        rw [show (w != 0) = true from by simpa using hw]; rfl
      · rw [BL_head (by omega) (by omega), show k * 64 + Lib.ctz 64 w.toNat - k * 64 = Lib.ctz 64 w.toNat from by omega]; exact c2
      · rw [BL_head h2 (by omega)]; exact c3 _ (by omega)
  | cons x rest ih =>
    intro k w h0 h1 hr
    by_cases hw : w = 0
    · subst hw
      have hs : scanF k 0 (x :: rest) = scanF (k + 1) x rest := rfl
      have hx := hr x (List.mem_cons_self ..)
      have low : ∀ q, k * 64 ≤ q → q < (k + 1) * 64 → ¬ BL k (0 :: x :: rest) q := fun q h2 h3 => by
        rw [BL_head h2 h3]; exact B_zero _
      rw [hs]
      rcases ih (k := k + 1) hx.1 hx.2 (fun y hy => hr y (List.mem_cons_of_mem _ hy)) with ⟨p, g1, g2, g3, g4⟩ | ⟨g1, g2⟩
      · left
        refine ⟨p, g1, by omega, (BL_cons g2).2 g3, fun q h2 h3 => ?_⟩
        by_cases hq : q < (k + 1) * 64
        · exact low q h2 hq
        · rw [BL_cons (by omega)]; exact g4 q (by omega) h3
      · right
        refine ⟨g1, fun q h2 => ?_⟩
        by_cases hq : q < (k + 1) * 64
        · exact low q h2 hq
        · rw [BL_cons (by omega)]; exact g2 q (by omega)
    · left
      obtain ⟨c1, c2, c3⟩ := ctz_bit (W := w.toNat) (by omega) (by omega)
      refine ⟨k * 64 + Lib.ctz 64 w.toNat, ?_, by omega, ?_, fun q h2 h3 => ?_⟩
      · unfold scanF
        rw [show (w != 0) = true from by simpa using hw]; rfl
      · rw [BL_head (by omega) (by omega), show k * 64 + Lib.ctz 64 w.toNat - k * 64 = Lib.ctz 64 w.toNat from by omega]; exact c2
      · rw [BL_head h2 (by omega)]; exact c3 _ (by omega)
theorem wd_range {z : Int} {ws : List Int} (h : Ok z ws) (k : Nat) : 0 ≤ ws.getD k 0 ∧ ws.getD k 0 < 18446744073709551616 := by
  by_cases hk : k < ws.length
  · exact h.w _ (getD_mem hk)
  · rw [List.getD_eq_getElem?_getD, List.getElem?_eq_none (by omega)]; simp
theorem has_iff {z i : Int} {ws : List Int} (h : Ok z ws) : hasF z ws i = true ↔ (0 ≤ i ∧ i < z) ∧ BW ws i.toNat := by
  unfold hasF
  rw [Bool.and_eq_true, inF_iff]
  constructor
  · rintro ⟨h1, h2⟩
    refine ⟨h1, ?_⟩
    unfold wd at h2
    rw [tdiv_nat h1.1, tmod_nat h1.1, shr_eq (wd_range h _).1 (Nat.mod_lt _ (by omega))] at h2
    have hr := wd_range h (i.toNat / 64)
    have hle := Nat.div_le_self (ws.getD (i.toNat / 64) 0).toNat (2 ^ (i.toNat % 64))
    rw [and_one (Int.natCast_nonneg _) (by omega), Int.toNat_natCast, beq_iff_eq] at h2
    unfold BW B; omega
  · rintro ⟨h1, h2⟩
    refine ⟨h1, ?_⟩
    unfold wd
    rw [tdiv_nat h1.1, tmod_nat h1.1, shr_eq (wd_range h _).1 (Nat.mod_lt _ (by omega))]
    have hr := wd_range h (i.toNat / 64)
    have hle := Nat.div_le_self (ws.getD (i.toNat / 64) 0).toNat (2 ^ (i.toNat % 64))
    rw [and_one (Int.natCast_nonneg _) (by omega), Int.toNat_natCast, beq_iff_eq]
    unfold BW B at h2; omega
theorem B_lt {x m s : Nat} (hx : x < 2 ^ m) (hs : m ≤ s) : ¬ B x s := by
  unfold B
  have : x / 2 ^ s = 0 := Nat.div_eq_of_lt (Nat.lt_of_lt_of_le hx (Nat.pow_le_pow_right (by omega) hs))
  rw [this]; simp
theorem BW_lt {z : Int} {ws : List Int} (h : Ok z ws) {p : Nat} (hp : BW ws p) : (p : Int) < z := by
  apply Classical.byContradiction
  intro hn
  have hlo := h.lo; have hlen := h.len; have ht := h.t
  unfold BW at hp
  by_cases hk : p / 64 < ws.length
  · have hk' : p / 64 = z.toNat / 64 ∧ z.toNat % 64 ≠ 0 ∧ z.toNat % 64 ≤ p % 64 := by omega
    unfold top at ht
    rw [Bool.or_eq_true, Nat.beq_eq, decide_eq_true_eq] at ht
    rcases ht with ht | ht
    · exact hk'.2.1 ht
    · rw [hk'.1] at hp
      have hr := wd_range h (z.toNat / 64)
      have ht' : (ws.getD (z.toNat / 64) 0).toNat < 2 ^ (z.toNat % 64) := by
        have : ((ws.getD (z.toNat / 64) 0).toNat : Int) < ((2 ^ (z.toNat % 64) : Nat) : Int) := by
          rw [Int.natCast_pow, Int.toNat_of_nonneg hr.1]; exact ht
        exact Int.ofNat_lt.1 this
      exact B_lt ht' hk'.2.2 hp
  · rw [List.getD_eq_getElem?_getD, List.getElem?_eq_none (by omega)] at hp
    exact B_zero _ hp
theorem next_spec {z i : Int} {ws : List Int} (h : Ok z ws) :
    (∃ p : Nat, nextF z ws i = ((p : Int), true) ∧ i ≤ p ∧ (p : Int) < z ∧ BW ws p ∧ ∀ q : Nat, i ≤ q → q < p → ¬ BW ws q) ∨
    (nextF z ws i = (0, false) ∧ ∀ q : Nat, i ≤ q → ¬ BW ws q) := by
  have hfr : 0 ≤ fr i ∧ i ≤ fr i ∧ (∀ q : Nat, i ≤ q → fr i ≤ q) := by
    unfold fr
    split
    · exact ⟨by omega, by omega, fun q _ => by omega⟩
    · exact ⟨by omega, by omega, fun q hq => hq⟩
  unfold nextF
  generalize fr i = j at *
  obtain ⟨J, rfl⟩ := Int.eq_ofNat_of_zero_le hfr.1
  cases hi : inF z (J : Int) with
  | false =>
    right
    refine ⟨rfl, fun q hq hb => ?_⟩
    have h1 := BW_lt h hb
    have h2 := hfr.2.2 q hq
    have : inF z (J : Int) = true := inF_iff.2 ⟨by omega, by omega⟩
    rw [hi] at this; cases this
  | true =>
    simp only [cond_true, Int.toNat_natCast]
    have hr := wd_range h (J / 64)
    have ew : wd ws (J : Int) = ws.getD (J / 64) 0 := by unfold wd; rw [tdiv_nat (by omega), Int.toNat_natCast]
    have em : (J : Int).tmod 64 = ((J % 64 : Nat) : Int) := by rw [tmod_nat (by omega), Int.toNat_natCast]
    rw [ew, em, shl_shr hr.1 hr.2 (Nat.mod_lt _ (by omega))]
    have hle := Nat.div_mul_le_self (ws.getD (J / 64) 0).toNat (2 ^ (J % 64))
    have key : ∀ q, J / 64 * 64 ≤ q → (BL (J / 64) ((((ws.getD (J / 64) 0).toNat / 2 ^ (J % 64) * 2 ^ (J % 64) : Nat) : Int) :: ws.drop (J / 64 + 1)) q ↔ J ≤ q ∧ BW ws q) := by
      intro q hq
      by_cases hq2 : q < (J / 64 + 1) * 64
      · rw [BL_head hq hq2, Int.toNat_natCast, B_clear]
        unfold BW
        have e1 : q / 64 = J / 64 := by omega
        have e2 : q % 64 = q - J / 64 * 64 := by omega
        rw [e1, e2]
        constructor
        · rintro ⟨a, b⟩; exact ⟨by omega, b⟩
        · rintro ⟨a, b⟩; exact ⟨by omega, b⟩
      · rw [BL_cons (by omega)]
        unfold BL BW
        have e : (ws.drop (J / 64 + 1)).getD (q / 64 - (J / 64 + 1)) 0 = ws.getD (q / 64) 0 := by
          simp only [List.getD_eq_getElem?_getD, List.getElem?_drop]
          rw [show J / 64 + 1 + (q / 64 - (J / 64 + 1)) = q / 64 from by omega]
        rw [e]
        exact ⟨fun x => ⟨by omega, x⟩, fun x => x.2⟩
    rcases scan_spec (k := J / 64) (w := (((ws.getD (J / 64) 0).toNat / 2 ^ (J % 64) * 2 ^ (J % 64) : Nat) : Int)) (rest := ws.drop (J / 64 + 1)) (by omega) (by omega) (fun x hx => h.w x (List.mem_of_mem_drop hx)) with ⟨p, g1, g2, g3, g4⟩ | ⟨g1, g2⟩
    · left
      obtain ⟨k1, k2⟩ := (key p g2).1 g3
      refine ⟨p, g1, by omega, BW_lt h k2, k2, fun q h2 h3 hb => ?_⟩
      have := hfr.2.2 q h2
      exact g4 q (by omega) h3 ((key q (by omega)).2 ⟨by omega, hb⟩)
    · right
      refine ⟨g1, fun q h2 hb => ?_⟩
      have := hfr.2.2 q h2
      exact g2 q (by omega) ((key q (by omega)).2 ⟨by omega, hb⟩)
end Go.S1
