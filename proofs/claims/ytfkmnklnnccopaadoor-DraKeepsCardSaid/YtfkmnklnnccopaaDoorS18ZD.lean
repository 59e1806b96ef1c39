/-
  Seat 18: the answer's Trim: its walk over a row.
-/
import Derived.Test.YtfkmnklnnccopaaDoorS18ZC
open Go Go.En
namespace Go.S18
structure OrdOk (N : Nat) (o : List Int) : Prop where
  nd : o.Nodup
  rng : ∀ q ∈ o, inF (zn N) q = true
theorem OrdOk.le {N : Nat} {o : List Int} (h : OrdOk N o) : o.length ≤ N := nodup_lenI h.nd h.rng
theorem OrdOk.add {N : Nat} {o : List Int} (h : OrdOk N o) {q : Int} (hq : inF (zn N) q = true) (hn : idxO q 0 o < 0) : OrdOk N (o ++ [q]) := by
  have hm : ¬ q ∈ o := (idxO_neg q 0 o).1 hn
  refine ⟨?_, fun x hx => ?_⟩
  · rw [List.nodup_append]
    refine ⟨h.nd, by simp, fun a ha b hb e => ?_⟩
    rw [List.mem_singleton] at hb
    subst hb; subst e; exact hm ha
  · rcases List.mem_append.1 hx with hx | hx
    · exact h.rng x hx
    · rw [List.mem_singleton.1 hx]; exact hq
/-- what a search has found, ahead of a place -/
def fnd (q : Int) (o : List Int) (j : Nat) : Int := if idxO q 0 o < (j : Int) then idxO q 0 o else -1
theorem rt_L2 {nx : List (List Int)} {o : List Int} {i c : Nat} {q : Int} (hN : nx.length ≤ 1000000) (ho : OrdOk nx.length o) (hi : i < o.length) (hs : inb (o.getD i 0) nx.length = true) (hc : c < (nx.getD (o.getD i 0).toNat []).length) (hcl : c < 1000000) (hq : (nx.getD (o.getD i 0).toNat []).getD c 0 = q) (g0 : f25G0) (g1 : f25G1) (p i0 : Int) (ps : List PairV) (a b p' z : Int) (cur : List Int) (hcur : cur.length ≤ 1000000) (out : List (List Int)) (pr : List PairV) (n : Nat) : ∀ (m j : Nat), j ≤ o.length → o.length - j < m →
    f25L2 n g0 g1 m (i : Int) (c : Int) (fnd q o j) (j : Int) p i0 nx ps a b o p' z cur out pr = bif decide (idxO q 0 o < 0) then g1 (i : Int) ((c + 1 : Nat) : Int) p i0 nx ps a b (o ++ [q]) p' z (cur ++ [(o.length : Int)]) out pr else g1 (i : Int) ((c + 1 : Nat) : Int) p i0 nx ps a b o p' z (cur ++ [idxO q 0 o]) out pr
  | 0, _, _, h => absurd h (Nat.not_lt_zero _)
  | m + 1, j, hj, hm => by
    have e : f25L2 n g0 g1 (m + 1) (i : Int) (c : Int) (fnd q o j) (j : Int) p i0 nx ps a b o p' z cur out pr = f25S2 g0 g1 (f25L2 n g0 g1 m) (i : Int) (c : Int) (fnd q o j) (j : Int) p i0 nx ps a b o p' z cur out pr := rfl
    rw [e]
    unfold f25S2
    have hle := ho.le
    rw [inb_k hi, Int.toNat_natCast i, hs, inb_k hc, Int.toNat_natCast c, hq]
    by_cases h0 : j < o.length
    · rw [lt_k h0, inb_k h0, wr_k (show j ≤ 9223372036854775806 by omega), Int.toNat_natCast]
      simp only [cond_true]
      by_cases h1 : o.getD j 0 = q
      · have hx := idxO_get ho.nd h0 h1
        have hf : fnd q o (j + 1) = (j : Int) := by unfold fnd; rw [hx, if_pos (by omega)]
        rw [show (o.getD j 0 == q) = true by simpa using h1]
        simp only [cond_true]
        rw [← hf]
        exact rt_L2 hN ho hi hs hc hcl hq g0 g1 p i0 ps a b p' z cur hcur out pr n m (j + 1) h0 (by omega)
      · have hf : fnd q o (j + 1) = fnd q o j := by
          unfold fnd
          by_cases h2 : idxO q 0 o < 0
          · rw [if_pos (by omega), if_pos (by omega)]
          · obtain ⟨t, t1, t2, t3⟩ := idxO_pos q 0 o h2
            have : t ≠ j := fun e => h1 (by rw [← e]; exact t3)
            by_cases h3 : idxO q 0 o < (j : Int)
            · rw [if_pos h3, if_pos (by omega)]
            · rw [if_neg h3, if_neg (by omega)]
        rw [show (o.getD j 0 == q) = false by simpa using h1]
        simp only [cond_false]
        rw [← hf]
        exact rt_L2 hN ho hi hs hc hcl hq g0 g1 p i0 ps a b p' z cur hcur out pr n m (j + 1) h0 (by omega)
    · have hf : fnd q o j = idxO q 0 o := by
        unfold fnd
        rcases idxO_ge q o with h | h
        · rw [if_pos (by omega)]
        · rw [h, if_pos (by omega)]
      rw [nlt_k h0, hf, wr_k (show c ≤ 9223372036854775806 by omega)]
      rw [decide_eq_true (show (o.length + [q].length) * 8 ≤ 140737488355328 by rw [List.length_singleton]; omega), decide_eq_true (show (cur.length + [zn o.length].length) * 8 ≤ 140737488355328 by rw [List.length_singleton]; omega), decide_eq_true (show (cur.length + [idxO q 0 o].length) * 8 ≤ 140737488355328 by rw [List.length_singleton]; omega)]
      rfl
end Go.S18
