/-
  Seat 11: the document's Letters: its contract.
-/
import Derived.Test.YtoghhokbakphlaaDoorS11H
open Go Go.En
namespace Go.S11
section
variable (i : Int) (ch : List (List ChV)) (nm : List ByteArray) (ho : List (List Int))
def bad1 : Option Lf := some ⟨[.one (.rw ⟨1, 0⟩), pI 1], [], [roI []]⟩
def bad30 : Option Lf := some ⟨[.one (.rw ⟨1, 0⟩), pI 30], [], [roI []]⟩
theorem rl_L1 {lb : List ByteArray} (g : f113G0) {k : Nat} (h0 : k < lb.length) (hl : lb.length ≤ 6) : ∀ (m n j : Nat), j ≤ k → k - j < m →
    f113L1 n g m lb (k : Int) (j : Int) i ch nm ho = bif ((lb.take k).drop j).any (fun y => (lb.getD k ByteArray.empty).toList == y.toList) then bad1 else g lb (IntKind.i64.wrap ((k : Int) + 1)) i ch nm ho
  | 0, _, _, _, h => absurd h (Nat.not_lt_zero _)
  | m + 1, n, j, hj, hm => by
    show f113S1 g (f113L1 n g m) lb (k : Int) (j : Int) i ch nm ho = _
    unfold f113S1
    have hkl := take_len (Nat.le_of_lt h0)
    by_cases h1 : j < k
    · have h2 : j < (lb.take k).length := by omega
      have e1 : decide ((j : Int) < (k : Int)) = true := by rw [decide_eq_true_eq]; omega
      rw [e1, inb_k h0, inb_k (show j < lb.length by omega), wr_k (k := j) (by omega), Int.toNat_natCast, Int.toNat_natCast, rl_L1 g h0 hl m n (j + 1) h1 (by omega), drop_get h2 ByteArray.empty, List.any_cons, take_get h1]
      show (bif true then bif true then bif true then bif (lb.getD k ByteArray.empty).toList == (lb.getD j ByteArray.empty).toList then _ else _ else _ else _ else _) = _
      cases ((lb.getD k ByteArray.empty).toList == (lb.getD j ByteArray.empty).toList) <;> rfl
    · have e1 : decide ((j : Int) < (k : Int)) = false := by rw [decide_eq_false_iff_not]; omega
      rw [e1, List.drop_eq_nil_of_le (by omega)]; rfl
/-- how often a number stands in a list -/
def cnt (l : List Int) (x : Int) : Nat := l.countP fun y => y == x
theorem rl_L5 {lb : List ByteArray} {h : List Int} {s : Nat} (hs : s < ho.length) (hh : ho.getD s [] = h) (hb : h.length ≤ 1000000) (pow k2 : Int) (hp : 0 ≤ pow ∧ pow ≤ 64) (at_ : Int) (g2 : f113G2) (g4 : f113G4) :
    ∀ (m n k : Nat) (out : List Int), k ≤ h.length → h.length - k < m → s < out.length → 0 ≤ out.getD s 0 → out.getD s 0 ≤ 1000000000 + 64 * k →
    f113L5 n g2 g4 m lb pow k2 at_ (s : Int) (k : Int) i ch nm ho out = g4 lb pow k2 at_ (IntKind.i64.wrap ((s : Int) + 1)) i ch nm ho (out.set s (out.getD s 0 + pow * (cnt (h.drop k) at_ : Nat)))
  | 0, _, _, _, _, h, _, _, _ => absurd h (Nat.not_lt_zero _)
  | m + 1, n, k, out, hk, hm, hs2, hge, hle => by
    show f113S5 g2 g4 (f113L5 n g2 g4 m) lb pow k2 at_ (s : Int) (k : Int) i ch nm ho out = _
    unfold f113S5
    rw [Int.toNat_natCast, Int.toNat_natCast, hh, inb_k hs]
    by_cases h0 : k < h.length
    · rw [lt_k h0, inb_k h0, wr_k (by omega), drop_get h0 0]
      simp only [cond_true]
      have ec : cnt (h.getD k 0 :: h.drop (k + 1)) at_ = cnt (h.drop (k + 1)) at_ + if h.getD k 0 == at_ then 1 else 0 := List.countP_cons
      rw [ec]
      cases he : (h.getD k 0 == at_) with
      | true =>
        have ew : IntKind.i64.wrap (out.getD s 0 + pow) = out.getD s 0 + pow := i64_wrap_in (by omega) (by omega)
        rw [inb_k hs2, ew]
        simp only [cond_true, if_true]
        rw [rl_L5 hs hh hb pow k2 hp at_ g2 g4 m n (k + 1) _ h0 (by omega) (by rw [List.length_set]; exact hs2) (by rw [getD_set _ _ _ _ _ hs2, if_pos rfl]; omega) (by rw [getD_set _ _ _ _ _ hs2, if_pos rfl]; omega), List.set_set, getD_set _ _ _ _ _ hs2, if_pos rfl]
        congr 2
        rw [show ((cnt (h.drop (k + 1)) at_ + 1 : Nat) : Int) = (cnt (h.drop (k + 1)) at_ : Int) + 1 from rfl, Int.mul_add, Int.mul_one]; omega
      | false =>
        simp only [cond_false]
        exact rl_L5 hs hh hb pow k2 hp at_ g2 g4 m n (k + 1) out h0 (by omega) hs2 hge (by omega)
    · have e : out.set s (out.getD s 0) = out := by
        rw [List.getD_eq_getElem?_getD, List.getElem?_eq_getElem hs2]
        exact List.set_getElem_self hs2
      have ec : cnt (h.drop k) at_ = 0 := by rw [List.drop_eq_nil_of_le (by omega)]; rfl
      rw [nlt_k h0, ec, show pow * ((0 : Nat) : Int) = 0 by omega, Int.add_zero, e]; rfl
/-- all states' letters with one name more -/
def addP (pow at_ : Int) (b : List Int) : List Int := (List.range b.length).map fun s => b.getD s 0 + pow * (cnt (ho.getD s []) at_ : Nat)
theorem addP_len (pow at_ : Int) (b : List Int) : (addP ho pow at_ b).length = b.length := by simp [addP]
theorem addP_get {pow at_ : Int} {b : List Int} {s : Nat} (h : s < b.length) : (addP ho pow at_ b).getD s 0 = b.getD s 0 + pow * (cnt (ho.getD s []) at_ : Nat) := by
  unfold addP
  rw [List.getD_eq_getElem?_getD, List.getElem?_map, List.getElem?_range h]; rfl
theorem rl_L4 {lb : List ByteArray} (hl : ho.length ≤ 1000000) (h6 : ∀ s, s < ho.length → (ho.getD s []).length ≤ 1000000) (pow k2 : Int) (hp : 0 ≤ pow ∧ pow ≤ 64) (at_ : Int) {b : List Int} (hb : b.length = ho.length) (hbv : ∀ s, s < b.length → 0 ≤ b.getD s 0 ∧ b.getD s 0 ≤ 1000000000) (g2 : f113G2) {n : Nat} (hn : 1000000 < n) :
    ∀ (m k : Nat), k ≤ b.length → b.length - k < m →
    f113L4 n g2 m lb pow k2 at_ (k : Int) i ch nm ho ((addP ho pow at_ b).take k ++ b.drop k) = g2 lb (IntKind.i64.wrap (2 * pow)) (IntKind.i64.wrap (k2 + 1)) i ch nm ho (addP ho pow at_ b)
  | 0, _, _, h => absurd h (Nat.not_lt_zero _)
  | m + 1, k, hk, hm => by
    show f113S4 (f113L5 n g2 (f113L4 n g2 m) n) g2 (f113L4 n g2 m) lb pow k2 at_ (k : Int) i ch nm ho _ = _
    unfold f113S4
    have hM := addP_len ho pow at_ b
    have hcl := cut_len hM hk
    rw [hcl]
    by_cases h0 : k < b.length
    · have hcg : ((addP ho pow at_ b).take k ++ b.drop k).getD k 0 = b.getD k 0 := cut_get hM h0
      rw [lt_k h0, cond_true]
      refine Eq.trans (rl_L5 i ch nm ho (by omega) rfl (h6 k (by omega)) pow k2 hp at_ g2 (f113L4 n g2 m) n n 0 _ (Nat.zero_le _) (by have := h6 k (by omega); omega) (by rw [hcl]; exact h0) (by rw [hcg]; exact (hbv k h0).1) (by rw [hcg]; have := (hbv k h0).2; omega)) ?_
      rw [List.drop_zero, hcg, wr_k (by omega), cut_set hM h0 (addP_get ho h0)]
      exact rl_L4 hl h6 pow k2 hp at_ hb hbv g2 hn m (k + 1) h0 (by omega)
    · have e : k = b.length := by omega
      subst e
      rw [nlt_k h0, cut_all hM]; rfl
/-- the place, if it is among the first j -/
def fnd (s : ByteArray) (j : Nat) : Int := if idxS s nm < (j : Int) then idxS s nm else -1
theorem rl_L3 {lb : List ByteArray} (hnm : nm.Pairwise fun a b => a.toList ≠ b.toList) (hn6 : nm.length ≤ 1000000) (pow : Int) {k2 : Nat} (hk2 : k2 < lb.length) (out : List Int) (g2 : f113G2) :
    ∀ (m n k : Nat), k ≤ nm.length → nm.length - k < m →
    f113L3 n g2 m lb pow (k2 : Int) (fnd nm (lb.getD k2 ⟨#[]⟩) k) (k : Int) i ch nm ho out = bif decide (idxS (lb.getD k2 ⟨#[]⟩) nm < 0) then bad30 else f113L4 n g2 n lb pow (k2 : Int) (idxS (lb.getD k2 ⟨#[]⟩) nm) 0 i ch nm ho out
  | 0, _, _, _, h => absurd h (Nat.not_lt_zero _)
  | m + 1, n, k, hk, hm => by
    show f113S3 (f113L4 n g2 n) g2 (f113L3 n g2 m) lb pow (k2 : Int) _ (k : Int) i ch nm ho out = _
    unfold f113S3
    by_cases h0 : k < nm.length
    · rw [lt_k h0, inb_k h0, inb_k hk2, wr_k (by omega), Int.toNat_natCast, Int.toNat_natCast]
      simp only [cond_true]
      have ih := rl_L3 hnm hn6 pow hk2 out g2 m n (k + 1) h0 (by omega)
      generalize lb.getD k2 ⟨#[]⟩ = s at ih ⊢
      have key : ((nm.getD k ⟨#[]⟩).toList == s.toList) = decide (idxS s nm = (k : Int)) := by
        rw [Bool.eq_iff_iff, beq_iff_eq, decide_eq_true_eq]
        rw [List.getD_eq_getElem?_getD, List.getElem?_eq_getElem h0]
        show nm[k].toList = s.toList ↔ _
        constructor
        · intro e
          have hx : ¬ idxS s nm < 0 := fun hx => by
            have hx' : idxG (fun x : ByteArray => s.toList == x.toList) 0 nm < 0 := hx
            have := idxG_neg hx' nm[k] (List.getElem_mem h0)
            rw [e] at this; simp at this
          obtain ⟨j, j1, j2, j3⟩ := idxG_pos hx
          have j2 : idxS s nm = ((0 + j : Nat) : Int) := j2
          have j3 : s.toList = nm[j].toList := eq_of_beq j3
          rw [j2]
          have : j = k := by
            rcases Nat.lt_trichotomy j k with h | h | h
            · exact absurd (j3.symm.trans e.symm) (List.pairwise_iff_getElem.1 hnm j k j1 h0 h)
            · exact h
            · exact absurd (e.trans j3) (List.pairwise_iff_getElem.1 hnm k j h0 j1 h)
          omega
        · intro e
          have hx : ¬ idxS s nm < 0 := by omega
          obtain ⟨j, j1, j2, j3⟩ := idxG_pos hx
          have j2 : idxS s nm = ((0 + j : Nat) : Int) := j2
          have j3 : s.toList = nm[j].toList := eq_of_beq j3
          have : j = k := by omega
          subst this
          exact j3.symm
      rw [key]
      by_cases hc : idxS s nm = (k : Int)
      · rw [decide_eq_true hc, cond_true]
        have e : fnd nm s (k + 1) = (k : Int) := by unfold fnd; rw [if_pos (by omega), hc]
        rw [e] at ih; exact ih
      · rw [decide_eq_false hc, cond_false]
        have e : fnd nm s (k + 1) = fnd nm s k := by
          unfold fnd
          by_cases h2 : idxS s nm < (k : Int)
          · rw [if_pos h2, if_pos (by omega)]
          · rw [if_neg h2, if_neg (by omega)]
        rw [e] at ih; exact ih
    · have e : k = nm.length := by omega
      subst e
      rw [nlt_k h0]
      have e2 : fnd nm (lb.getD k2 ⟨#[]⟩) nm.length = idxS (lb.getD k2 ⟨#[]⟩) nm := by
        unfold fnd
        by_cases hx : idxS (lb.getD k2 ⟨#[]⟩) nm < 0
        · rw [if_pos (by omega)]
        · obtain ⟨j, j1, j2, _⟩ := idxG_pos hx
          have j2 : idxS (lb.getD k2 ⟨#[]⟩) nm = ((0 + j : Nat) : Int) := j2
          rw [if_pos (by omega)]
      rw [e2]; rfl
end
/-- the letters, with the names from k on to be told -/
def sumL (ho : List (List Int)) (k : Nat) (A : List Int) (b : List Int) : List Int := (List.range b.length).map fun s => b.getD s 0 + ((letS k A (ho.getD s []) : Nat) : Int)
theorem sumL_nil (ho : List (List Int)) (k : Nat) (b : List Int) : sumL ho k [] b = b := by
  unfold sumL letS
  refine List.ext_getElem (by simp) fun j h1 h2 => ?_
  simp only [List.getElem_map, List.getElem_range, List.getD_eq_getElem?_getD, List.getElem?_eq_getElem h2, Option.getD_some]
  omega
theorem cnt_one {h : List Int} (hn : h.Nodup) (x : Int) : cnt h x = if has h x then 1 else 0 := by
  unfold cnt has
  induction h with
  | nil => rfl
  | cons y h ih =>
    obtain ⟨h1, h2⟩ := List.nodup_cons.1 hn
    rw [List.countP_cons, ih h2, List.any_cons]
    by_cases e : y = x
    · subst e
      have : (h.any fun z => y == z) = false := by
        rw [List.any_eq_false]; intro z hz hb
        exact h1 (by rw [eq_of_beq hb]; exact hz)
      rw [this]; simp
    · rw [show (y == x) = false by simpa using e, show (x == y) = false by simpa using fun h : x = y => e h.symm]; simp
theorem sumL_cons {ho : List (List Int)} (hn : ∀ s, s < ho.length → (ho.getD s []).Nodup) {k : Nat} {a : Int} {A b : List Int} (hb : b.length = ho.length) : sumL ho k (a :: A) b = sumL ho (k + 1) A (addP ho ((2 ^ k : Nat) : Int) a b) := by
  unfold sumL
  rw [addP_len]
  refine List.map_congr_left fun s hs => ?_
  rw [List.mem_range] at hs
  rw [addP_get ho hs, cnt_one (hn s (by omega))]
  show _ + (((bif has (ho.getD s []) a then 2 ^ k else 0) + letS (k + 1) A (ho.getD s []) : Nat) : Int) = _
  cases has (ho.getD s []) a <;> simp <;> omega
theorem pow_in {k : Nat} (h : k ≤ 6) : (0 : Int) ≤ ((2 ^ k : Nat) : Int) ∧ ((2 ^ k : Nat) : Int) ≤ 64 := by
  have : ∀ k : Fin 7, (0 : Int) ≤ ((2 ^ k.val : Nat) : Int) ∧ ((2 ^ k.val : Nat) : Int) ≤ 64 := by decide
  exact this ⟨k, by omega⟩
theorem pow_wr {k : Nat} (h : k ≤ 6) : IntKind.i64.wrap (2 * ((2 ^ k : Nat) : Int)) = ((2 ^ (k + 1) : Nat) : Int) := by
  have : ∀ k : Fin 7, IntKind.i64.wrap (2 * ((2 ^ k.val : Nat) : Int)) = ((2 ^ (k.val + 1) : Nat) : Int) := by decide
  exact this ⟨k, by omega⟩
theorem rl_L2 {nm lb : List ByteArray} {ho : List (List Int)} (hnm : nm.Pairwise fun a b => a.toList ≠ b.toList) (hn6 : nm.length ≤ 1000000) (h6 : lb.length ≤ 6) (hl : ho.length ≤ 1000000) (hl6 : ∀ s, s < ho.length → (ho.getD s []).length ≤ 1000000) (hnd : ∀ s, s < ho.length → (ho.getD s []).Nodup) (i : Int) (ch : List (List ChV)) {n : Nat} (hn : 1000000 < n) :
    ∀ (m k : Nat) (b : List Int), k ≤ lb.length → lb.length - k < m → b.length = ho.length → (∀ s, s < b.length → 0 ≤ b.getD s 0 ∧ b.getD s 0 ≤ 64 * k) →
    f113L2 n m lb ((2 ^ k : Nat) : Int) (k : Int) i ch nm ho b = match placesL nm (lb.drop k) with
      | some A => some (Lf.mk [.one (.rw ⟨1, 0⟩), pI 0] [] [roI (sumL ho k A b)])
      | none => bad30
  | 0, _, _, _, h, _, _ => absurd h (Nat.not_lt_zero _)
  | m + 1, k, b, hk, hm, hb, hbv => by
    show f113S2 (f113L3 n (f113L2 n m) n) (f113L2 n m) lb ((2 ^ k : Nat) : Int) (k : Int) i ch nm ho b = _
    unfold f113S2
    by_cases h0 : k < lb.length
    · have hpow := pow_in (k := k) (by omega)
      have e3 := rl_L3 i ch nm ho hnm hn6 ((2 ^ k : Nat) : Int) h0 b (f113L2 n m) n n 0 (Nat.zero_le _) (by omega)
      have ef : fnd nm (lb.getD k ⟨#[]⟩) 0 = -1 := by
        unfold fnd
        by_cases hx : idxS (lb.getD k ⟨#[]⟩) nm < ((0 : Nat) : Int)
        · rw [if_pos hx]
          have : ∀ (l : List ByteArray) (k : Nat) (p : ByteArray → Bool), idxG p k l < 0 → idxG p k l = -1 := by
            intro l
            induction l with
            | nil => intro _ _ _; rfl
            | cons x l ih =>
              intro k p
              show (bif p x then (k : Int) else idxG p (k + 1) l) < 0 → (bif p x then (k : Int) else idxG p (k + 1) l) = -1
              cases p x with
              | true => intro h; rw [cond_true] at h; omega
              | false => exact ih (k + 1) p
          exact this _ _ _ hx
        · rw [if_neg hx]
      rw [ef] at e3
      rw [lt_k h0, cond_true]
      refine Eq.trans e3 ?_
      rw [drop_get h0 ⟨#[]⟩]
      show _ = match (bif decide (idxS (lb.getD k ⟨#[]⟩) nm < 0) then none else (placesL nm (lb.drop (k + 1))).map fun A => idxS (lb.getD k ⟨#[]⟩) nm :: A) with
        | some A => some (Lf.mk [.one (.rw ⟨1, 0⟩), pI 0] [] [roI (sumL ho k A b)])
        | none => bad30
      by_cases hx : idxS (lb.getD k ⟨#[]⟩) nm < 0
      · rw [decide_eq_true hx]; rfl
      · rw [decide_eq_false hx]
        simp only [cond_false]
        have e4 := rl_L4 i ch nm ho (lb := lb) hl hl6 ((2 ^ k : Nat) : Int) (k : Int) hpow (idxS (lb.getD k ⟨#[]⟩) nm) hb (fun s hs => by have := hbv s hs; omega) (f113L2 n m) hn n 0 (Nat.zero_le _) (by omega)
        rw [List.take_zero, List.drop_zero, List.nil_append] at e4
        refine Eq.trans e4 ?_
        have ew := pow_wr (k := k) (by omega)
        rw [ew, wr_k (by omega), rl_L2 hnm hn6 h6 hl hl6 hnd i ch hn m (k + 1) _ h0 (by omega) (by rw [addP_len]; exact hb) (fun s hs => by
          rw [addP_len] at hs
          rw [addP_get ho hs, cnt_one (hnd s (by omega))]
          have := hbv s hs
          generalize ((2 ^ k : Nat) : Int) = P at hpow ⊢
          split <;> omega)]
        cases placesL nm (lb.drop (k + 1)) with
        | none => rfl
        | some A =>
          show _ = some (Lf.mk _ _ [roI (sumL ho k (idxS (lb.getD k ⟨#[]⟩) nm :: A) b)])
          rw [sumL_cons hnd hb]
    · rw [nlt_k h0, List.drop_eq_nil_of_le (by omega)]
      show _ = some (Lf.mk _ _ [roI (sumL ho k [] b)])
      rw [sumL_nil]; rfl
theorem rl_L0 {nm lb : List ByteArray} {ho : List (List Int)} (h6 : lb.length ≤ 6) (i : Int) (ch : List (List ChV)) (hc : ch.length ≤ 1000000) {n : Nat} (hn : 1000000 < n) : ∀ (m k : Nat), k ≤ lb.length → lb.length - k < m →
    f113L0 n m lb (k : Int) i ch nm ho = bif freshD (lb.take k) (lb.drop k) then f113L2 n n lb 1 0 i ch nm ho (List.replicate ch.length 0) else bad1
  | 0, _, _, h => absurd h (Nat.not_lt_zero _)
  | m + 1, k, hk, hm => by
    show f113S0 (f113L1 n (f113L0 n m) n) (f113L2 n n) (f113L0 n m) lb (k : Int) i ch nm ho = _
    unfold f113S0
    by_cases h0 : k < lb.length
    · have r1 := rl_L1 i ch nm ho (lb := lb) (f113L0 n m) h0 h6 n n 0 (Nat.zero_le _) (by omega)
      rw [wr_k (by omega), rl_L0 h6 i ch hc hn m (k + 1) h0 (by omega), List.drop_zero] at r1
      rw [lt_k h0, drop_get h0 ByteArray.empty]
      refine Eq.trans (b := f113L1 n (f113L0 n m) n lb (k : Int) ((0 : Nat) : Int) i ch nm ho) rfl (r1.trans ?_)
      rw [take_succ_get h0 ByteArray.empty]
      show _ = bif !((lb.take k).any fun y => (lb.getD k ByteArray.empty).toList == y.toList) && freshD (lb.take k ++ [lb.getD k ByteArray.empty]) (lb.drop (k + 1)) then _ else _
      cases (lb.take k).any fun y => (lb.getD k ByteArray.empty).toList == y.toList <;> rfl
    · have e0 : (zn ch.length).toNat = ch.length := Int.toNat_natCast _
      have d1 : (decide (0 ≤ zn ch.length) && (decide (zn ch.length ≤ zn ch.length) && decide (8 * (zn ch.length).toNat ≤ 140737488355328))) = true := by
        rw [e0, decide_eq_true (show 0 ≤ zn ch.length by unfold zn; omega), decide_eq_true (Int.le_refl _), decide_eq_true (by omega)]; rfl
      rw [nlt_k h0, List.drop_eq_nil_of_le (by omega), d1, e0]; rfl
theorem rletters_T {i : Int} {ch : List (List ChV)} {nm : List ByteArray} {ho : List (List Int)} {lb : List ByteArray} (h : (ofMG ch nm ho && m6 lb.length) = true) :
    f113M 1000001 i ch nm ho lb = some ⟨[.one (.rw ⟨1, 0⟩), pI (numOf (lettersV i ch nm ho lb).e)], [], [roI (lettersV i ch nm ho lb).l]⟩ := by
  rw [Bool.and_eq_true] at h
  unfold f113M f113T lettersV
  rw [mdG_of h.1]
  cases hd : mdOk i ch nm ho with
  | false => rfl
  | true =>
    obtain ⟨hnm, hho⟩ := md_holds hd
    obtain ⟨_, _, hol, _⟩ := md_parts hd
    obtain ⟨q1, q2, q3, q4, q5⟩ := ofMG_parts h.1
    by_cases h6 : lb.length ≤ 6
    · have d0 : decide (zn lb.length > 6) = false := decide_eq_false (by unfold zn; omega)
      have d0' : decide (zn lb.length ≤ 6) = true := decide_eq_true (by unfold zn; omega)
      rw [d0, d0']
      have k0 := rl_L0 (nm := nm) (ho := ho) h6 i ch q1 (n := 1000001) (by omega) 1000001 0 (Nat.zero_le _) (by omega)
      rw [List.take_zero, List.drop_zero] at k0
      rw [show ((0 : Nat) : Int) = 0 from rfl] at k0
      simp only [Bool.not_true, Bool.or_self, cond_false, Bool.and_true]
      refine k0.trans ?_
      cases hf : freshD [] lb with
      | false => rfl
      | true =>
        have z : ∀ s, (List.replicate ch.length (0 : Int)).getD s 0 = 0 := fun s => by
          rw [List.getD_eq_getElem?_getD, List.getElem?_replicate]; split <;> rfl
        have k2 := rl_L2 hnm q3 h6 q4 q5 (fun s hs => (hho s hs).2) i ch (n := 1000001) (by omega) 1000001 0 (List.replicate ch.length 0) (Nat.zero_le _) (by omega) (by rw [List.length_replicate]; exact hol.symm) (fun s _ => by rw [z]; omega)
        rw [List.drop_zero, show ((2 ^ 0 : Nat) : Int) = 1 from rfl, show ((0 : Nat) : Int) = 0 from rfl] at k2
        rw [cond_true]
        refine k2.trans ?_
        cases hp : placesL nm lb with
        | none => rfl
        | some A =>
          have e : sumL ho 0 A (List.replicate ch.length 0) = ho.map fun h => ((letS 0 A h : Nat) : Int) := by
            unfold sumL
            refine List.ext_getElem (by simp [hol]) fun j j1 j2 => ?_
            have hj : j < ho.length := by simpa using j2
            simp only [List.getElem_map, List.getElem_range, z, Int.zero_add]
            rw [List.getD_eq_getElem?_getD, List.getElem?_eq_getElem hj]; rfl
          show some (Lf.mk _ _ [roI (sumL ho 0 A (List.replicate ch.length 0))]) = _
          rw [e]; rfl
    · have d0 : decide (zn lb.length > 6) = true := decide_eq_true (by unfold zn; omega)
      have d0' : decide (zn lb.length ≤ 6) = false := decide_eq_false (by unfold zn; omega)
      rw [d0, d0']; rfl
theorem rletters_ok : FnOk P C0 13 rlettersS := by
  refine fn_okC ctx11 (show P.funcs[13]? = some f113f by kernel_rfl) (of_decide_eq_true (by kernel_rfl)) (rlettersS) f113h (fun ds os lf hp => ?_)
  unfold rlettersS at hp
  simp only at hp
  split at hp
  · rename_i i ch nm ho lb
    simp only [Out.pick] at hp
    cases hc0 : (ofMG ch nm ho && m6 lb.length) with
    | false => rw [hc0] at hp; cases hp
    | true =>
      rw [hc0] at hp
      simp only [cond_true] at hp
      simp only [Option.some.injEq] at hp
      subst hp
      exact ⟨1000001, (f113_ev _ i ch nm ho lb).trans (rletters_T hc0)⟩
  · cases hp
end Go.S11
