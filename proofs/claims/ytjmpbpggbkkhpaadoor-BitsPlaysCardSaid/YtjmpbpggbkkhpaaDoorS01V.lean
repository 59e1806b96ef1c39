/-
  Seat 01: plain laws of sets as words: what they have, when they are equal, how many they have.
-/
import Derived.Test.YtjmpbpggbkkhpaaDoorS01GC
open Go Go.En
namespace Go.S1
/-! ### operations on words -/
def bo : BinOp → Bool → Bool → Bool
  | .or, a, b => a || b
  | .andNot, a, b => a && !b
  | _, a, b => a && b
def isOp (op : BinOp) : Prop := op = .or ∨ op = .andNot ∨ op = .and
theorem bits_gen {op : BinOp} (ho : isOp op) {a b : Int} (ha : 0 ≤ a ∧ a < 18446744073709551616) (hb : 0 ≤ b ∧ b < 18446744073709551616) :
    ∃ r : Nat, bitsF op .u64 a b = (r : Int) ∧ r < 18446744073709551616 ∧ ∀ s, s < 64 → r.testBit s = bo op (a.toNat.testBit s) (b.toNat.testBit s) := by
  obtain ⟨A, rfl⟩ := Int.eq_ofNat_of_zero_le ha.1
  obtain ⟨C, rfl⟩ := Int.eq_ofNat_of_zero_le hb.1
  have hA : A < 18446744073709551616 := Int.ofNat_lt.1 ha.2
  have hC : C < 18446744073709551616 := Int.ofNat_lt.1 hb.2
  have key : ∀ x : BitVec 64, IntKind.u64.wrap (x.toNat : Int) = (x.toNat : Int) := fun x => by
    have := x.isLt
    exact u64_wrap_in (by omega) (by omega)
  have hlt : ∀ x : BitVec 64, x.toNat < 18446744073709551616 := fun x => x.isLt
  have tA : ∀ s, (BitVec.ofInt 64 (A : Int)).getLsbD s = A.testBit s := fun s => by
    rw [← BitVec.testBit_toNat]; exact congrArg (fun x => Nat.testBit x s) (ofInt_nat hA)
  have tC : ∀ s, (BitVec.ofInt 64 (C : Int)).getLsbD s = C.testBit s := fun s => by
    rw [← BitVec.testBit_toNat]; exact congrArg (fun x => Nat.testBit x s) (ofInt_nat hC)
  simp only [Int.toNat_natCast]
  rcases ho with rfl | rfl | rfl
  · refine ⟨(BitVec.ofInt 64 (A : Int) ||| BitVec.ofInt 64 (C : Int)).toNat, key _, hlt _, fun s hs => ?_⟩
    rw [BitVec.testBit_toNat, BitVec.getLsbD_or, tA, tC]; rfl
  · refine ⟨(BitVec.ofInt 64 (A : Int) &&& ~~~ BitVec.ofInt 64 (C : Int)).toNat, key _, hlt _, fun s hs => ?_⟩
    rw [BitVec.testBit_toNat, BitVec.getLsbD_and, BitVec.getLsbD_not, tA, tC, decide_eq_true hs]; rfl
  · refine ⟨(BitVec.ofInt 64 (A : Int) &&& BitVec.ofInt 64 (C : Int)).toNat, key _, hlt _, fun s hs => ?_⟩
    rw [BitVec.testBit_toNat, BitVec.getLsbD_and, tA, tC]; rfl
theorem bo_false {op : BinOp} (ho : isOp op) : bo op false false = false := by
  rcases ho with rfl | rfl | rfl <;> rfl
theorem mN_bit {z : Int} {len k b s : Nat} (hz : k * 64 + s < z.toNat) (hl : len = (z.toNat + 63) / 64) (hs : s < 64) : (mN z len k b).testBit s = b.testBit s := by
  unfold mN
  split
  · rw [Nat.testBit_mod_two_pow, decide_eq_true (show s < z.toNat % 64 by omega), Bool.true_and]
  · rfl
theorem mN_top {z : Int} {len k b s : Nat} (hk : k + 1 = len) (hz : z.toNat % 64 ≠ 0) (hs : z.toNat % 64 ≤ s) : (mN z len k b).testBit s = false := by
  unfold mN
  rw [if_pos ⟨hk, hz⟩, Nat.testBit_mod_two_pow, decide_eq_false (by omega), Bool.false_and]
theorem tw_gen {op : BinOp} (ho : isOp op) {z y : Int} {ws vs : List Int} (h : Ok z ws) (hv : Ok y vs) {k : Nat} (hk : k < ws.length) :
    ∃ r : Nat, tw op z ws vs k = (r : Int) ∧ r < 18446744073709551616 ∧ ∀ s, s < 64 → r.testBit s = bo op ((ws.getD k 0).toNat.testBit s) ((mN z ws.length k (vs.getD k 0).toNat).testBit s) := by
  unfold tw
  have h1 := wd_range h k
  have h2 := wd_range hv k
  have h3 := mN_le z ws.length k (vs.getD k 0).toNat
  rw [mkW_eq h.lo hk h2]
  obtain ⟨r, g1, g2, g3⟩ := bits_gen ho h1 (b := ((mN z ws.length k (vs.getD k 0).toNat : Nat) : Int)) ⟨by omega, by omega⟩
  exact ⟨r, g1, g2, fun s hs => by rw [g3 s hs, Int.toNat_natCast]⟩
theorem big_bit {x s : Nat} (hx : x < 18446744073709551616) (hs : 64 ≤ s) : x.testBit s = false :=
  Nat.testBit_lt_two_pow (Nat.lt_of_lt_of_le hx (Nat.le_trans (by decide : 18446744073709551616 ≤ 2 ^ 64) (Nat.pow_le_pow_right (by omega) hs)))
theorem top_bit {z : Int} {ws : List Int} (h : Ok z ws) {s : Nat} (h0 : z.toNat % 64 ≠ 0) (hs : z.toNat % 64 ≤ s) : (ws.getD (z.toNat / 64) 0).toNat.testBit s = false := by
  have ht := h.t
  unfold top at ht
  rw [Bool.or_eq_true, Nat.beq_eq, decide_eq_true_eq] at ht
  rcases ht with ht | ht
  · exact absurd ht h0
  · have hr := wd_range h (z.toNat / 64)
    have hA : (ws.getD (z.toNat / 64) 0).toNat < 2 ^ (z.toNat % 64) := by
      have : ((ws.getD (z.toNat / 64) 0).toNat : Int) < ((2 ^ (z.toNat % 64) : Nat) : Int) := by
        rw [Int.natCast_pow, Int.toNat_of_nonneg hr.1]; exact ht
      exact Int.ofNat_lt.1 this
    exact Nat.testBit_lt_two_pow (Nat.lt_of_lt_of_le hA (Nat.pow_le_pow_right (by omega) hs))
theorem turn_ok_g {op : BinOp} (ho : isOp op) {z y : Int} {ws vs : List Int} (h : Ok z ws) (hv : Ok y vs) : Ok z (turnW op z ws vs) := by
  refine ⟨h.lo, h.hi, by rw [turnW_len]; exact h.len, fun x hx => ?_, ?_⟩
  · unfold turnW at hx
    obtain ⟨k, hk, rfl⟩ := List.mem_map.1 hx
    obtain ⟨r, g1, g2, _⟩ := tw_gen ho h hv (show k < ws.length by simpa using hk)
    rw [g1]; omega
  · unfold top
    rw [Bool.or_eq_true, Nat.beq_eq, decide_eq_true_eq]
    by_cases h0 : z.toNat % 64 = 0
    · exact .inl h0
    · right
      have hk : z.toNat / 64 < ws.length := by have := h.len; omega
      have hlast : z.toNat / 64 + 1 = ws.length := by have := h.len; omega
      obtain ⟨r, g1, g2, g3⟩ := tw_gen ho h hv hk
      rw [turn_get hk, g1]
      have hr : r < 2 ^ (z.toNat % 64) := by
        apply Nat.lt_pow_two_of_testBit
        intro s hs
        by_cases h64 : s < 64
        · rw [g3 s h64, top_bit h h0 hs, mN_top hlast h0 hs, bo_false ho]
        · exact big_bit g2 (by omega)
      have h5 := Int.ofNat_lt.2 hr
      rw [Int.natCast_pow] at h5
      exact h5
/-- has it the bit p? -/
def bb (ws : List Int) (p : Nat) : Bool := (ws.getD (p / 64) 0).toNat.testBit (p % 64)
theorem bb_iff {ws : List Int} {p : Nat} : bb ws p = true ↔ BW ws p := B_test
theorem bb_turn {op : BinOp} (ho : isOp op) {z y : Int} {ws vs : List Int} (h : Ok z ws) (hv : Ok y vs) {p : Nat} (hp : (p : Int) < z) : bb (turnW op z ws vs) p = bo op (bb ws p) (bb vs p) := by
  have hlen := h.len; have hlo := h.lo
  have hk : p / 64 < ws.length := by omega
  unfold bb
  obtain ⟨r, g1, g2, g3⟩ := tw_gen ho h hv hk
  rw [turn_get hk, g1, Int.toNat_natCast, g3 _ (Nat.mod_lt _ (by omega)), mN_bit (by omega) hlen (Nat.mod_lt _ (by omega))]
theorem bb_out {z : Int} {ws : List Int} (h : Ok z ws) {p : Nat} (hp : ¬ (p : Int) < z) : bb ws p = false := by
  cases hb : bb ws p with
  | false => rfl
  | true => exact absurd (BW_lt h (bb_iff.1 hb)) hp
theorem set_ext {z : Int} {ws vs : List Int} (h : Ok z ws) (hv : Ok z vs) (he : ∀ p : Nat, (p : Int) < z → bb ws p = bb vs p) : ws = vs := by
  apply List.ext_getElem (h.len.trans hv.len.symm)
  intro k h1 h2
  have w1 := h.w _ (List.getElem_mem h1)
  have w2 := hv.w _ (List.getElem_mem h2)
  have e : (ws[k]).toNat = (vs[k]).toNat := by
    apply Nat.eq_of_testBit_eq
    intro s
    by_cases hs : s < 64
    · have all : bb ws (k * 64 + s) = bb vs (k * 64 + s) := by
        by_cases hp : ((k * 64 + s : Nat) : Int) < z
        · exact he _ hp
        · rw [bb_out h hp, bb_out hv hp]
      unfold bb at all
      rw [show (k * 64 + s) / 64 = k from by omega, show (k * 64 + s) % 64 = s from by omega] at all
      simpa [List.getD_eq_getElem?_getD, h1, h2] using all
    · rw [big_bit (by omega) (by omega), big_bit (by omega) (by omega)]
  omega
theorem turnB_eq {op : BinOp} {z : Int} {ws vs : List Int} : turnB op z ws vs = false ↔ turnW op z ws vs = ws := by
  unfold turnB
  rw [List.any_eq_false]
  constructor
  · intro h
    apply List.ext_getElem (turnW_len ..)
    intro k h1 h2
    have := h k (by simpa using h2)
    simp only [bne_iff_ne, ne_eq, Decidable.not_not] at this
    have h3 := turn_get (op := op) (z := z) (vs := vs) h2
    rw [this] at h3
    simpa [List.getD_eq_getElem?_getD, h1, h2] using h3
  · intro h k hk
    have hk' : k < ws.length := by simpa using hk
    have := turn_get (op := op) (z := z) (vs := vs) hk'
    rw [h] at this
    simp only [bne_iff_ne, ne_eq, Decidable.not_not]
    exact this.symm
/-! ### how many -/
def cN (f : Nat → Bool) : Nat → Nat
  | 0 => 0
  | n + 1 => cN f n + (f n).toNat
theorem cN_congr {f g : Nat → Bool} : ∀ {n : Nat}, (∀ p, p < n → f p = g p) → cN f n = cN g n
  | 0, _ => rfl
  | n + 1, h => by simp only [cN]; rw [cN_congr (fun p hp => h p (by omega)), h n (by omega)]
theorem cN_add (f : Nat → Bool) (a : Nat) : ∀ n, cN f (a + n) = cN f a + cN (fun i => f (a + i)) n
  | 0 => rfl
  | n + 1 => by rw [← Nat.add_assoc]; simp only [cN]; rw [cN_add f a n]; omega
theorem cN_zero {f : Nat → Bool} : ∀ {n : Nat}, (∀ p, p < n → f p = false) → cN f n = 0
  | 0, _ => rfl
  | n + 1, h => by simp only [cN]; rw [cN_zero (fun p hp => h p (by omega)), h n (by omega)]; rfl
theorem cN_le (f : Nat → Bool) : ∀ n, cN f n ≤ n
  | 0 => Nat.le_refl _
  | n + 1 => by simp only [cN]; have := cN_le f n; have := Bool.toNat_le (f n); omega
theorem cN_two (f g : Nat → Bool) : ∀ n, cN (fun p => f p || g p) n + cN (fun p => f p && g p) n = cN f n + cN g n
  | 0 => rfl
  | n + 1 => by
    simp only [cN]
    have := cN_two f g n
    have : (f n || g n).toNat + (f n && g n).toNat = (f n).toNat + (g n).toNat := by cases f n <;> cases g n <;> rfl
    omega
theorem cN_one (x : Int) : ∀ n : Nat, cN (fun p => decide ((p : Int) = x)) n ≤ 1 ∧ ((n : Int) ≤ x → cN (fun p => decide ((p : Int) = x)) n = 0)
  | 0 => ⟨by simp [cN], fun _ => rfl⟩
  | n + 1 => by
    obtain ⟨h1, h2⟩ := cN_one x n
    simp only [cN]
    by_cases he : (n : Int) = x
    · rw [h2 (by omega), decide_eq_true he]
      exact ⟨by decide, fun h => by omega⟩
    · rw [decide_eq_false he]
      exact ⟨h1, fun h => h2 (by omega)⟩
theorem cN_mem (n : Nat) : ∀ l : List Int, cN (fun p => decide ((p : Int) ∈ l)) n ≤ l.length
  | [] => by rw [cN_zero (fun p _ => by simp)]; exact Nat.zero_le _
  | x :: l => by
    have h1 := cN_mem n l
    have h2 := (cN_one x n).1
    have h3 := cN_two (fun p => decide ((p : Int) = x)) (fun p => decide ((p : Int) ∈ l)) n
    have h4 : cN (fun p => decide ((p : Int) ∈ x :: l)) n = cN (fun p => decide ((p : Int) = x) || decide ((p : Int) ∈ l)) n := by
      apply cN_congr
      intro p _
      rw [Bool.eq_iff_iff, decide_eq_true_eq, Bool.or_eq_true, decide_eq_true_eq, decide_eq_true_eq, List.mem_cons]
    rw [h4, List.length_cons]; omega
theorem bit_toNat (x s : Nat) : (x.testBit s).toNat = x / 2 ^ s % 2 := by rw [Nat.toNat_testBit]
theorem pc8_mod (y : Nat) : pc8 (y % 256) = y % 2 + y / 2 % 2 + y / 4 % 2 + y / 8 % 2 + y / 16 % 2 + y / 32 % 2 + y / 64 % 2 + y / 128 % 2 := by
  unfold pc8; omega
theorem pc_cN (x : Nat) : pc x = cN (fun s => x.testBit s) 64 := by
  unfold pc bytes By.map
  simp only [pc8_mod, Nat.div_div_eq_div_mul, Nat.reduceMul, cN, bit_toNat, Nat.reducePow, Nat.zero_add, Nat.div_one, Nat.add_assoc]
theorem cnt_cN : ∀ ws : List Int, cnt ws = cN (bb ws) (64 * ws.length)
  | [] => rfl
  | w :: ws => by
    rw [List.length_cons, show 64 * (ws.length + 1) = 64 + 64 * ws.length from by omega, cN_add]
    have e1 : cN (bb (w :: ws)) 64 = pc w.toNat := by
      rw [pc_cN]
      apply cN_congr
      intro p hp
      unfold bb
      rw [show p / 64 = 0 from by omega, show p % 64 = p from by omega]; rfl
    have e2 : cN (fun i => bb (w :: ws) (64 + i)) (64 * ws.length) = cN (bb ws) (64 * ws.length) := by
      apply cN_congr
      intro p hp
      unfold bb
      rw [show (64 + p) / 64 = p / 64 + 1 from by omega, show (64 + p) % 64 = p % 64 from by omega]; rfl
    rw [e1, e2, ← cnt_cN ws]; rfl
theorem cnt_z {z : Int} {ws : List Int} (h : Ok z ws) : cnt ws = cN (bb ws) z.toNat := by
  have hlen := h.len; have hlo := h.lo
  rw [cnt_cN, show 64 * ws.length = z.toNat + (64 * ws.length - z.toNat) from by omega, cN_add, cN_zero (f := fun i => bb ws (z.toNat + i)) (fun p _ => bb_out h (by omega))]
  rfl
/-! ### single numbers -/
theorem bb_add {z : Int} {ws : List Int} {i : Nat} (h : Ok z ws) (hi : (i : Int) < z) (p : Nat) : bb (addW z ws (i : Int)) p = (bb ws p || decide (p = i)) := by
  have hin : inF z (i : Int) = true := inF_iff.2 ⟨by omega, hi⟩
  cases hb : addB z ws (i : Int) with
  | false =>
    have e : addW z ws (i : Int) = ws := by unfold addW; rw [hb]; rfl
    have hf : hasF z ws (i : Int) = true := by
      cases hf : hasF z ws (i : Int) with
      | true => rfl
      | false => rw [addB_iff.2 ⟨hin, hf⟩] at hb; cases hb
    rw [e]
    by_cases hp : p = i
    · subst hp
      rw [bb_iff.2 ((has_BW h p).1 hf)]; rfl
    · rw [decide_eq_false hp, Bool.or_false]
  | true =>
    rw [addW_eq h hb]
    have hlen := h.len
    have hk : i / 64 < ws.length := by omega
    simp only [Int.toNat_natCast]
    unfold bb
    rw [getD_set' hk]
    by_cases hq : p / 64 = i / 64
    · rw [if_pos hq, Int.toNat_natCast, Nat.testBit_or, hq, Nat.testBit_two_pow]
      congr 1
      rw [Bool.eq_iff_iff, decide_eq_true_eq, decide_eq_true_eq]; omega
    · rw [if_neg hq, decide_eq_false (show p ≠ i from fun e => hq (by rw [e])), Bool.or_false]
theorem of_ok_fold {z : Int} : ∀ {l : List Int} {ws : List Int}, Ok z ws → Ok z (l.foldl (addW z) ws)
  | [], _, h => h
  | x :: l, ws, h => of_ok_fold (l := l) (ws := addW z ws x) (addW_ok h)
theorem bb_fold {z : Int} : ∀ {l : List Int} {ws : List Int}, Ok z ws → ofB z l = true → ∀ p : Nat, bb (l.foldl (addW z) ws) p = (bb ws p || decide ((p : Int) ∈ l))
  | [], ws, h, _, p => by simp
  | x :: l, ws, h, hb, p => by
    unfold ofB at hb
    rw [List.all_cons, Bool.and_eq_true] at hb
    have hx := inF_iff.1 hb.1
    obtain ⟨i, rfl⟩ := Int.eq_ofNat_of_zero_le hx.1
    rw [List.foldl_cons, bb_fold (addW_ok h) hb.2 p, bb_add h hx.2, Bool.or_assoc]
    congr 1
    rw [Bool.eq_iff_iff, Bool.or_eq_true, decide_eq_true_eq, decide_eq_true_eq, decide_eq_true_eq, List.mem_cons]
    exact ⟨fun h => h.elim (fun e => .inl (by rw [e])) .inr, fun h => h.elim (fun e => .inl (by omega)) .inr⟩
theorem of_Ok {z : Int} (h0 : 0 ≤ z) (h1 : z ≤ 4096) (l : List Int) : Ok z (ofW z l) := of_ok_fold (new_Ok h0 h1)
theorem bb_zero (m p : Nat) : bb (List.replicate m 0) p = false := by
  unfold bb
  have : (List.replicate m (0 : Int)).getD (p / 64) 0 = 0 := by
    simp only [List.getD_eq_getElem?_getD, List.getElem?_replicate]; split <;> rfl
  rw [this]; exact Nat.zero_testBit _
theorem bb_of {z : Int} {l : List Int} (h0 : 0 ≤ z) (h1 : z ≤ 4096) (hb : ofB z l = true) (p : Nat) : bb (ofW z l) p = decide ((p : Int) ∈ l) := by
  unfold ofW
  rw [bb_fold (new_Ok h0 h1) hb, bb_zero, Bool.false_or]
end Go.S1
