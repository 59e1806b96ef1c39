/-
  Plain facts of sorted lists of numbers.
-/
import Derived.Test.YtoghhokbakphlaaDoorNR
namespace Go.En
theorem sortI_perm (l : List Int) : (sortI l).Perm l := List.mergeSort_perm _ _
theorem sortI_sorted (l : List Int) : (sortI l).Pairwise (fun a b => a ≤ b) := by
  have h := List.pairwise_mergeSort (le := fun x y : Int => decide (x ≤ y)) (fun a b c h1 h2 => by
    simp only [decide_eq_true_eq] at h1 h2 ⊢; omega) (fun a b => by
    simp only [Bool.or_eq_true, decide_eq_true_eq]; omega) l
  exact h.imp fun h => by simpa using h
/-- a list without twins, sorted, is the sorted list of just its members -/
theorem sortI_eq {l m : List Int} (hl : l.Nodup) (hm : m.Pairwise (fun a b => a < b)) (h : ∀ x, x ∈ l ↔ x ∈ m) : sortI l = m := by
  refine List.Perm.eq_of_pairwise (le := fun a b => a ≤ b) (fun a b _ _ h1 h2 => Int.le_antisymm h1 h2) (sortI_sorted l) (hm.imp fun h => Int.le_of_lt h) ?_
  refine (sortI_perm l).trans ?_
  have hmn : m.Nodup := hm.imp fun h e => by omega
  exact (List.perm_ext_iff_of_nodup hl hmn).2 h
end Go.En
