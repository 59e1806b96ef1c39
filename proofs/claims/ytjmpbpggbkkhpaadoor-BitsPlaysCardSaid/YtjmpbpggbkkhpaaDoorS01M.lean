/-
  Seat 01: plain laws of joined sets and of items.
-/
import Derived.Test.YtjmpbpggbkkhpaaDoorS01L
open Go Go.En
namespace Go.S1
theorem ofInt_nat {x : Nat} (hx : x < 18446744073709551616) : (BitVec.ofInt IntKind.u64.bits (x : Int)).toNat = x := by
  show (BitVec.ofInt 64 (x : Int)).toNat = x
  rw [BitVec.toNat_ofInt]
  have : ((x : Int) % ((2 ^ 64 : Nat) : Int)) = (x : Int) := Int.emod_eq_of_lt (by omega) (by show (x : Int) < 18446744073709551616; omega)
  rw [this]; rfl
theorem or_gen {a b : Int} (ha : 0 ≤ a ∧ a < 18446744073709551616) (hb : 0 ≤ b ∧ b < 18446744073709551616) : bitsF .or .u64 a b = ((a.toNat ||| b.toNat : Nat) : Int) := by
  obtain ⟨A, rfl⟩ := Int.eq_ofNat_of_zero_le ha.1
  obtain ⟨C, rfl⟩ := Int.eq_ofNat_of_zero_le hb.1
  have hA : A < 18446744073709551616 := by omega
  have hC : C < 18446744073709551616 := by omega
  unfold bitsF
  simp only
  rw [BitVec.toNat_or, ofInt_nat hA, ofInt_nat hC, Int.toNat_natCast, Int.toNat_natCast]
  have h3 : (2 : Nat) ^ 64 = 18446744073709551616 := by decide
  have hlt : A ||| C < 2 ^ 64 := Nat.or_lt_two_pow (by omega) (by omega)
  exact u64_wrap_in (by omega) (by omega)
theorem and_mask {b : Int} {t : Nat} (hb : 0 ≤ b ∧ b < 18446744073709551616) (ht : t < 64) : bitsF .and .u64 b (IntKind.u64.wrap (shlF .u64 1 (t : Int) - 1)) = ((b.toNat % 2 ^ t : Nat) : Int) := by
  obtain ⟨C, rfl⟩ := Int.eq_ofNat_of_zero_le hb.1
  have hC : C < 18446744073709551616 := by omega
  have h1 : 2 ^ t ≤ 2 ^ 63 := Nat.pow_le_pow_right (by omega) (by omega)
  have h2 : (2 : Nat) ^ 63 = 9223372036854775808 := by decide
  have hp := Nat.two_pow_pos t
  have e : IntKind.u64.wrap (shlF .u64 1 (t : Int) - 1) = ((2 ^ t - 1 : Nat) : Int) := by
    rw [shl_one ht]
    generalize 2 ^ t = x at *
    rw [u64_wrap_in (by omega) (by omega)]; omega
  rw [e]
  unfold bitsF
  simp only
  rw [BitVec.toNat_and, ofInt_nat hC, ofInt_nat (by omega), Nat.and_two_pow_sub_one_eq_mod, Int.toNat_natCast]
  have := Nat.mod_le C (2 ^ t)
  exact u64_wrap_in (by omega) (by omega)
theorem B_or {x y s : Nat} : B (x ||| y) s ↔ B x s ∨ B y s := by
  rw [← B_test, ← B_test, ← B_test, Nat.testBit_or, Bool.or_eq_true]
theorem B_mod {x t s : Nat} : B (x % 2 ^ t) s ↔ s < t ∧ B x s := by
  rw [← B_test, ← B_test, Nat.testBit_mod_two_pow, Bool.and_eq_true, decide_eq_true_eq]
/-- what is taken of another set's word, as a number -/
def mN (z : Int) (len k b : Nat) : Nat := if k + 1 = len ∧ z.toNat % 64 ≠ 0 then b % 2 ^ (z.toNat % 64) else b
theorem mkW_eq {z b : Int} {len k : Nat} (hz : 0 ≤ z) (hk : k < len) (hb : 0 ≤ b ∧ b < 18446744073709551616) : mkW z len k b = ((mN z len k b.toNat : Nat) : Int) := by
  unfold mkW mN
  rw [tmod_nat hz]
  by_cases h : k + 1 = len ∧ z.toNat % 64 ≠ 0
  · have e : (((k : Int) == (len : Int) - 1) && ((z.toNat % 64 : Nat) : Int) != 0) = true := by
      rw [Bool.and_eq_true, beq_iff_eq, bne_iff_ne]; omega
    rw [e, if_pos h]
    exact and_mask hb (Nat.mod_lt _ (by omega))
  · have e : (((k : Int) == (len : Int) - 1) && ((z.toNat % 64 : Nat) : Int) != 0) = false := by
      rw [Bool.and_eq_false_iff, beq_eq_false_iff_ne, bne_eq_false_iff_eq]; omega
    rw [e, if_neg h, cond_false, Int.toNat_of_nonneg hb.1]
theorem mN_le (z : Int) (len k b : Nat) : mN z len k b ≤ b := by
  unfold mN; split
  · exact Nat.mod_le _ _
  · exact Nat.le_refl _
theorem tw_or {z y : Int} {ws vs : List Int} (h : Ok z ws) (hv : Ok y vs) {k : Nat} (hk : k < ws.length) : tw .or z ws vs k = (((ws.getD k 0).toNat ||| mN z ws.length k (vs.getD k 0).toNat : Nat) : Int) := by
  unfold tw
  have h1 := wd_range h k
  have h2 := wd_range hv k
  rw [mkW_eq h.lo hk h2, or_gen h1 ⟨by omega, by have := mN_le z ws.length k (vs.getD k 0).toNat; omega⟩, Int.toNat_natCast]
theorem turn_get {op : BinOp} {z : Int} {ws vs : List Int} {k : Nat} (hk : k < ws.length) : (turnW op z ws vs).getD k 0 = tw op z ws vs k := by
  unfold turnW
  simp [List.getD_eq_getElem?_getD, hk]
theorem turn_Ok {z y : Int} {ws vs : List Int} (h : Ok z ws) (hv : Ok y vs) : Ok z (turnW .or z ws vs) := by
  have h3 : (2 : Nat) ^ 64 = 18446744073709551616 := by decide
  refine ⟨h.lo, h.hi, by rw [turnW_len]; exact h.len, fun x hx => ?_, ?_⟩
  · unfold turnW at hx
    obtain ⟨k, hk, rfl⟩ := List.mem_map.1 hx
    have hk' : k < ws.length := by simpa using hk
    rw [tw_or h hv hk']
    have h1 := wd_range h k
    have h2 := wd_range hv k
    have h4 := mN_le z ws.length k (vs.getD k 0).toNat
    have : (ws.getD k 0).toNat ||| mN z ws.length k (vs.getD k 0).toNat < 2 ^ 64 := Nat.or_lt_two_pow (by omega) (by omega)
    omega
  · have ht := h.t
    unfold top at ht ⊢
    rw [Bool.or_eq_true, Nat.beq_eq, decide_eq_true_eq] at ht ⊢
    by_cases h0 : z.toNat % 64 = 0
    · exact .inl h0
    · right
      rcases ht with ht | ht
      · exact absurd ht h0
      · have hk : z.toNat / 64 < ws.length := by have := h.len; omega
        have hlast : z.toNat / 64 + 1 = ws.length := by have := h.len; omega
        rw [turn_get hk, tw_or h hv hk]
        have hr := wd_range h (z.toNat / 64)
        have hA : (ws.getD (z.toNat / 64) 0).toNat < 2 ^ (z.toNat % 64) := by
          have : ((ws.getD (z.toNat / 64) 0).toNat : Int) < ((2 ^ (z.toNat % 64) : Nat) : Int) := by
            rw [Int.natCast_pow, Int.toNat_of_nonneg hr.1]; exact ht
          exact Int.ofNat_lt.1 this
        have hm : mN z ws.length (z.toNat / 64) (vs.getD (z.toNat / 64) 0).toNat < 2 ^ (z.toNat % 64) := by
          unfold mN
          rw [if_pos ⟨hlast, h0⟩]
          exact Nat.mod_lt _ (Nat.two_pow_pos _)
        have h5 := Int.ofNat_lt.2 (Nat.or_lt_two_pow hA hm)
        rw [Int.natCast_pow] at h5
        exact h5
theorem turn_BW {z y : Int} {ws vs : List Int} (h : Ok z ws) (hv : Ok y vs) {p : Nat} (hp : (p : Int) < z) : BW (turnW .or z ws vs) p ↔ BW ws p ∨ BW vs p := by
  have hk : p / 64 < ws.length := by have := h.len; omega
  unfold BW
  rw [turn_get hk, tw_or h hv hk, Int.toNat_natCast, B_or]
  have e : B (mN z ws.length (p / 64) (vs.getD (p / 64) 0).toNat) (p % 64) ↔ B (vs.getD (p / 64) 0).toNat (p % 64) := by
    unfold mN
    split
    · rename_i hc
      rw [B_mod]
      have : p % 64 < z.toNat % 64 := by have := h.len; omega
      exact ⟨fun x => x.2, fun x => ⟨this, x⟩⟩
    · exact Iff.rfl
  rw [e]
theorem hasL_iff : ∀ {l : List Int} {i : Int}, hasL l i = true ↔ i ∈ l
  | [], i => by simp [hasL]
  | x :: l, i => by
    unfold hasL
    rw [Bool.or_eq_true, beq_iff_eq, hasL_iff, List.mem_cons]
    exact ⟨fun h => h.elim (fun e => .inl e.symm) .inr, fun h => h.elim (fun e => .inl e.symm) .inr⟩
theorem mem_items {z : Int} {ws : List Int} {i : Int} : i ∈ items z ws ↔ (∃ p : Nat, (p : Int) = i ∧ p < z.toNat ∧ hasF z ws (p : Int) = true) := by
  unfold items itemsB
  simp only [List.mem_map, List.mem_filter, List.mem_range]
  constructor
  · rintro ⟨p, ⟨h1, h2⟩, h3⟩; exact ⟨p, h3, h1, h2⟩
  · rintro ⟨p, h3, h1, h2⟩; exact ⟨p, ⟨h1, h2⟩, h3⟩
theorem hasL_items {z : Int} {ws : List Int} (h : Ok z ws) (i : Nat) : hasL (items z ws) (i : Int) = hasF z ws (i : Int) := by
  cases hf : hasF z ws (i : Int) with
  | true =>
    rw [hasL_iff, mem_items]
    have := ((has_iff h).1 hf).1
    exact ⟨i, rfl, by omega, hf⟩
  | false =>
    cases hl : hasL (items z ws) (i : Int) with
    | false => rfl
    | true =>
      rw [hasL_iff, mem_items] at hl
      obtain ⟨p, h1, _, h3⟩ := hl
      have : p = i := by omega
      subst this
      rw [hf] at h3; cases h3
theorem itemsB_pre (z : Int) (ws : List Int) (a : Nat) : ∀ d, ∃ r, itemsB z ws (a + d) = itemsB z ws a ++ r
  | 0 => ⟨[], by simp⟩
  | d + 1 => by
    obtain ⟨r, hr⟩ := itemsB_pre z ws a d
    refine ⟨r ++ (bif hasF z ws ((a + d : Nat) : Int) then [((a + d : Nat) : Int)] else []), ?_⟩
    rw [← Nat.add_assoc, itemsB_succ, hr, List.append_assoc]
end Go.S1
