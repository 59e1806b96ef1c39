/-
  Seat 02 (intern): plain laws of chains.
-/
import Derived.Test.YtbdicebddicbkaaDoorS42B
open Go Go.En
namespace Go.S2
theorem lastH_append {f : List Int → Int} {h : Int} : ∀ {l : List (List Int)} {i : Nat} {a : Int} {v : List Int}, lastH f h i (l ++ [v]) a = bif f v == h then ((i + l.length + 1 : Nat) : Int) else lastH f h i l a
  | [], i, a, v => by simp [lastH]
  | x :: l, i, a, v => by
    show lastH f h (i + 1) (l ++ [v]) _ = bif f v == h then _ else lastH f h (i + 1) l _
    rw [lastH_append]
    have : i + 1 + l.length + 1 = i + (x :: l).length + 1 := by simp; omega
    rw [this]
/-- the head of a chain, of the first k -/
def ch (l : List (List Int)) (h : Int) (k : Nat) : Int := lastH hash h 0 (l.take k) 0
theorem ch_zero (l : List (List Int)) (h : Int) : ch l h 0 = 0 := rfl
theorem ch_succ {l : List (List Int)} {h : Int} {k : Nat} (hk : k < l.length) : ch l h (k + 1) = bif hash (l.getD k []) == h then ((k + 1 : Nat) : Int) else ch l h k := by
  unfold ch
  have : l.take (k + 1) = l.take k ++ [l.getD k []] := by
    rw [List.take_succ_eq_append_getElem hk]; simp [List.getD_eq_getElem?_getD, hk]
  rw [this, lastH_append]
  have : (l.take k).length = k := by rw [List.length_take]; omega
  rw [this, Nat.zero_add]
theorem ch_len (l : List (List Int)) (h : Int) : ch l h l.length = lastH hash h 0 l 0 := by unfold ch; rw [List.take_length]
/-- the search from behind -/
def srch (l : List (List Int)) (v : List Int) : Nat → Int × Bool
  | 0 => (0, false)
  | k + 1 => bif same (l.getD k []) v then ((k : Int), true) else srch l v k
theorem srch_get {l : List (List Int)} {v : List Int} : ∀ {k : Nat}, k ≤ l.length → (srch l v k).2 = true → ∃ j, j < k ∧ srch l v k = ((j : Int), true) ∧ l.getD j [] = v
  | 0, _, h => by cases h
  | k + 1, hk, h => by
    unfold srch at h ⊢
    cases hs : same (l.getD k []) v with
    | true => exact ⟨k, by omega, rfl, same_iff.1 hs⟩
    | false =>
      rw [hs] at h
      obtain ⟨j, h1, h2, h3⟩ := srch_get (k := k) (by omega) h
      exact ⟨j, by omega, h2, h3⟩
theorem srch_no {l : List (List Int)} {v : List Int} : ∀ {k : Nat}, (srch l v k).2 = false → srch l v k = (0, false) ∧ ∀ j, j < k → l.getD j [] ≠ v
  | 0, _ => ⟨rfl, fun j h => absurd h (Nat.not_lt_zero _)⟩
  | k + 1, h => by
    unfold srch at h ⊢
    cases hs : same (l.getD k []) v with
    | true => rw [hs] at h; cases h
    | false =>
      rw [hs] at h
      obtain ⟨h1, h2⟩ := srch_no (k := k) h
      refine ⟨h1, fun j hj e => ?_⟩
      by_cases hjk : j = k
      · subst hjk; rw [same_iff.2 e] at hs; cases hs
      · exact h2 j (by omega) e
theorem fnd_get {v : List Int} : ∀ {l : List (List Int)} {i : Nat}, (fndF v i l).2 = true → ∃ j, j < l.length ∧ fndF v i l = (((i + j : Nat) : Int), true) ∧ l.getD j [] = v
  | [], _, h => by cases h
  | x :: l, i, h => by
    unfold fndF at h ⊢
    cases hs : same x v with
    | true => exact ⟨0, by simp, rfl, same_iff.1 hs⟩
    | false =>
      rw [hs] at h
      obtain ⟨j, h1, h2, h3⟩ := fnd_get (l := l) (i := i + 1) h
      refine ⟨j + 1, by simp; omega, ?_, by simpa using h3⟩
      show fndF v (i + 1) l = _
      rw [h2]
      have : i + 1 + j = i + (j + 1) := by omega
      rw [this]
theorem fnd_no {v : List Int} : ∀ {l : List (List Int)} {i : Nat}, (fndF v i l).2 = false → fndF v i l = (0, false) ∧ v ∉ l
  | [], _, _ => ⟨rfl, by simp⟩
  | x :: l, i, h => by
    unfold fndF at h ⊢
    cases hs : same x v with
    | true => rw [hs] at h; cases h
    | false =>
      rw [hs] at h
      obtain ⟨h1, h2⟩ := fnd_no (l := l) (i := i + 1) h
      refine ⟨h1, fun hm => ?_⟩
      rcases List.mem_cons.1 hm with e | hm
      · rw [same_iff.2 e.symm] at hs; cases hs
      · exact h2 hm
theorem fnd_mem {v : List Int} {l : List (List Int)} {i : Nat} : (fndF v i l).2 = true ↔ v ∈ l := by
  cases h : (fndF v i l).2 with
  | true =>
    obtain ⟨j, h1, _, h3⟩ := fnd_get h
    refine ⟨fun _ => ?_, fun _ => rfl⟩
    rw [← h3]; simp [List.getD_eq_getElem?_getD, h1]
  | false => exact ⟨fun h => (by cases h), fun hm => absurd hm (fnd_no h).2⟩
theorem nod_iff : ∀ {l : List (List Int)}, nod l = true ↔ l.Nodup
  | [] => by simp [nod]
  | x :: l => by
    unfold nod
    rw [Bool.and_eq_true, nod_iff (l := l), List.nodup_cons]
    cases h : (fndF x 0 l).2 with
    | true => simp [fnd_mem.1 h]
    | false => simp [(fnd_no h).2]
theorem srch_fnd {l : List (List Int)} (hn : nod l = true) (v : List Int) : srch l v l.length = fnd l v := by
  cases h : (srch l v l.length).2 with
  | true =>
    obtain ⟨j, h1, h2, h3⟩ := srch_get (Nat.le_refl _) h
    have hm : (fndF v 0 l).2 = true := fnd_mem.2 (by rw [← h3]; simp [List.getD_eq_getElem?_getD, h1])
    obtain ⟨k, g1, g2, g3⟩ := fnd_get hm
    have hjk : j = k := by
      have h3' : l[j] = v := by rw [← h3]; simp [List.getD_eq_getElem?_getD, h1]
      have g3' : l[k] = v := by rw [← g3]; simp [List.getD_eq_getElem?_getD, g1]
      have hp := List.pairwise_iff_getElem.1 (nod_iff.1 hn)
      rcases Nat.lt_trichotomy j k with h4 | h4 | h4
      · exact absurd (h3'.trans g3'.symm) (hp j k h1 g1 h4)
      · exact h4
      · exact absurd (g3'.trans h3'.symm) (hp k j g1 h1 h4)
    rw [h2]
    show _ = fndF v 0 l
    rw [g2, hjk, Nat.zero_add]
  | false =>
    obtain ⟨h1, h2⟩ := srch_no h
    rw [h1]
    show _ = fndF v 0 l
    cases hm : (fndF v 0 l).2 with
    | true =>
      obtain ⟨k, g1, _, g3⟩ := fnd_get hm
      exact absurd g3 (h2 k g1)
    | false => exact (fnd_no hm).1.symm
theorem hash_range (v : List Int) : 0 ≤ hash v ∧ hash v < 257 := by
  unfold hash
  have h0 : ∀ (l : List Int) (a : Int), 0 ≤ a → 0 ≤ hashL a l := by
    intro l
    induction l with
    | nil => intro a h; exact h
    | cons x l ih => intro a _; exact ih _ (by unfold hstep; rw [u32_wrap]; omega)
  have h1 := h0 v 2166136261 (by omega)
  have h2 : (hashL 2166136261 v).tmod 257 = (hashL 2166136261 v) % 257 := Int.tmod_eq_emod_of_nonneg h1
  rw [h2, i64_wrap_nat (by omega) (by omega)]
  omega
theorem firstOf_get (l : List (List Int)) {h : Int} (h0 : 0 ≤ h) (h1 : h < 257) : (firstOf l).getD h.toNat 0 = ch l h l.length := by
  rw [ch_len]
  unfold firstOf
  have : h.toNat < 257 := by omega
  simp [List.getD_eq_getElem?_getD, this, Int.toNat_of_nonneg h0]
theorem nextOf_get (l : List (List Int)) {k : Nat} (hk : k < l.length) : (nextOf l).getD k 0 = ch l (hash (l.getD k [])) k := by
  unfold nextOf ch
  simp [List.getD_eq_getElem?_getD, hk]
theorem nextOf_len (l : List (List Int)) : (nextOf l).length = l.length := by simp [nextOf]
theorem firstOf_append (l : List (List Int)) (v : List Int) : firstOf (l ++ [v]) = (firstOf l).set (hash v).toNat ((l.length + 1 : Nat) : Int) := by
  have hr := hash_range v
  apply List.ext_getElem
  · simp [firstOf]
  · intro i h1 h2
    have hi : i < 257 := by simpa [firstOf] using h1
    rw [List.getElem_set]
    simp only [firstOf, List.getElem_map, List.getElem_range]
    rw [lastH_append, Nat.zero_add]
    by_cases e : (hash v).toNat = i
    · have : (hash v == (i : Int)) = true := by simp only [beq_iff_eq]; omega
      rw [this, if_pos e]; rfl
    · have : (hash v == (i : Int)) = false := by simp only [beq_eq_false_iff_ne]; omega
      rw [this, if_neg e]; rfl
theorem nextOf_append (l : List (List Int)) (v : List Int) : nextOf (l ++ [v]) = nextOf l ++ [ch l (hash v) l.length] := by
  unfold nextOf
  rw [List.length_append, List.length_singleton, List.range_succ, List.map_append, List.map_singleton]
  congr 1
  · apply List.map_congr_left
    intro i hi
    have hi' : i < l.length := by simpa using hi
    have e1 : (l ++ [v]).getD i [] = l.getD i [] := by simp [List.getD_eq_getElem?_getD, List.getElem?_append_left hi']
    have e2 : (l ++ [v]).take i = l.take i := by rw [List.take_append_of_le_length (by omega)]
    rw [e1, e2]
  · have e1 : (l ++ [v]).getD l.length [] = v := by simp [List.getD_eq_getElem?_getD]
    have e2 : (l ++ [v]).take l.length = l := by simp
    rw [e1, e2, ch_len]
end Go.S2
