/-
  Seat 18: Trim's table of numbers and its order.
-/
import Derived.Test.YtfkmnklnnccopaaDoorS18G8
open Go Go.En
namespace Go.S18
theorem nodup_lenN : ∀ (n : Nat) (l : List Nat), l.Nodup → (∀ x ∈ l, x < n) → l.length ≤ n
  | 0, l, _, h => by
    cases l with
    | nil => exact Nat.le_refl _
    | cons x l => exact absurd (h x (List.mem_cons_self ..)) (Nat.not_lt_zero _)
  | n + 1, l, hn, h => by
    have := nodup_lenN n (l.erase n) (hn.erase n) (fun x hx => by
      have h1 := h x (List.mem_of_mem_erase hx)
      have h2 : x ≠ n := fun e => by subst e; exact (List.Nodup.not_mem_erase hn) hx
      omega)
    rw [List.length_erase] at this
    split at this <;> omega
theorem nodup_lenI {n : Nat} {l : List Int} (hn : l.Nodup) (h : ∀ x ∈ l, inF (zn n) x = true) : l.length ≤ n := by
  have hb : ∀ x ∈ l, 0 ≤ x ∧ x < (n : Int) := fun x hx => by
    have := h x hx
    unfold inF zn at this
    rw [Bool.and_eq_true, decide_eq_true_eq, decide_eq_true_eq] at this
    exact ⟨this.1, this.2⟩
  have := nodup_lenN n (l.map Int.toNat) (by
    rw [List.nodup_iff_pairwise_ne, List.pairwise_map]
    refine List.Pairwise.imp_of_mem ?_ (List.nodup_iff_pairwise_ne.1 hn)
    intro a b ha hb' hab e
    have := hb a ha; have := hb b hb'
    exact hab (by omega)) (fun x hx => by
      obtain ⟨y, hy, rfl⟩ := List.mem_map.1 hx
      have := hb y hy; omega)
  rwa [List.length_map] at this
theorem idxO_app (x q : Int) : ∀ (k : Nat) (o : List Int), idxO x k (o ++ [q]) = bif decide (idxO x k o < 0) then (bif q == x then ((k + o.length : Nat) : Int) else -1) else idxO x k o
  | k, [] => rfl
  | k, y :: o => by
    show (bif y == x then (k : Int) else idxO x (k + 1) (o ++ [q])) = bif decide ((bif y == x then (k : Int) else idxO x (k + 1) o) < 0) then (bif q == x then ((k + (o.length + 1) : Nat) : Int) else -1) else (bif y == x then (k : Int) else idxO x (k + 1) o)
    cases hc : (y == x) with
    | true =>
      simp only [cond_true]
      rw [decide_eq_false (show ¬ (k : Int) < 0 by omega)]; rfl
    | false =>
      simp only [cond_false]
      rw [idxO_app x q (k + 1) o, show k + 1 + o.length = k + (o.length + 1) by omega]
structure NumOk (N : Nat) (num o : List Int) : Prop where
  len : num.length = N
  nd : o.Nodup
  rng : ∀ q ∈ o, inF (zn N) q = true
  val : ∀ q, inF (zn N) q = true → num.getD q.toNat 0 = idxO q 0 o + 1
theorem in_natT {n : Nat} {q : Int} (h : inF (zn n) q = true) : 0 ≤ q ∧ q.toNat < n ∧ q = (q.toNat : Int) := by
  unfold inF zn at h
  rw [Bool.and_eq_true, decide_eq_true_eq, decide_eq_true_eq] at h
  omega
theorem idxO_ge (q : Int) (o : List Int) : -1 ≤ idxO q 0 o ∧ idxO q 0 o < o.length ∨ idxO q 0 o = -1 := by
  by_cases h : idxO q 0 o < 0
  · right
    have : ∀ (k : Nat) (o : List Int), idxO q k o < 0 → idxO q k o = -1 := by
      intro k o
      induction o generalizing k with
      | nil => intro _; rfl
      | cons x o ih =>
        show (bif x == q then (k : Int) else idxO q (k + 1) o) < 0 → (bif x == q then (k : Int) else idxO q (k + 1) o) = -1
        cases (x == q) with
        | true => intro h; rw [cond_true] at h; omega
        | false => exact ih (k + 1)
    exact this 0 o h
  · obtain ⟨j, h1, h2, _⟩ := idxO_pos q 0 o h
    left; omega
theorem NumOk.le {N : Nat} {num o : List Int} (h : NumOk N num o) : o.length ≤ N := nodup_lenI h.nd h.rng
theorem NumOk.put {N : Nat} {num o : List Int} (h : NumOk N num o) {q : Int} (hq : inF (zn N) q = true) (hn : idxO q 0 o < 0) : NumOk N (num.set q.toNat (zn (o ++ [q]).length)) (o ++ [q]) := by
  have hm : ¬ q ∈ o := (idxO_neg q 0 o).1 hn
  refine ⟨by rw [List.length_set]; exact h.len, ?_, ?_, ?_⟩
  · rw [List.nodup_append]
    refine ⟨h.nd, by simp, fun a ha b hb e => ?_⟩
    rw [List.mem_singleton] at hb
    subst hb; subst e; exact hm ha
  · intro x hx
    rcases List.mem_append.1 hx with hx | hx
    · exact h.rng x hx
    · rw [List.mem_singleton.1 hx]; exact hq
  · intro x hx
    obtain ⟨a1, a2, a3⟩ := in_natT hq
    obtain ⟨b1, b2, b3⟩ := in_natT hx
    rw [idxO_app]
    by_cases e : q = x
    · subst e
      rw [decide_eq_true hn, show (q == q) = true by simp]
      simp only [cond_true]
      rw [List.getD_eq_getElem?_getD, List.getElem?_set_self (by rw [h.len]; exact a2), List.length_append, List.length_singleton]
      show ((o.length + 1 : Nat) : Int) = _
      omega
    · have hne : q.toNat ≠ x.toNat := fun e2 => e (by omega)
      rw [List.getD_eq_getElem?_getD, List.getElem?_set_ne hne, ← List.getD_eq_getElem?_getD, h.val x hx, show (q == x) = false by simpa using e]
      by_cases h0 : idxO x 0 o < 0
      · rw [decide_eq_true h0]
        simp only [cond_true, cond_false]
        rcases idxO_ge x o with h1 | h1 <;> omega
      · rw [decide_eq_false h0]; rfl
end Go.S18
