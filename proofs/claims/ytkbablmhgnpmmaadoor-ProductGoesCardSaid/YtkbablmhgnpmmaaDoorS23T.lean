/-
  Seat 23: sizes; a product of few states is made.
-/
import Derived.Test.YtkbablmhgnpmmaaDoorS23P
open Go Go.En
namespace Go.S23
theorem far_no {nx : List (List Int)} {ps : List PairV} (h : farF nx ps = false) : nx.length ≤ 40 ∧ ps.length ≤ 20 ∧ ∀ l ∈ nx, l.length ≤ 64 := by
  unfold farF at h
  simp only [Bool.or_eq_false_iff, decide_eq_false_iff_not, zn, List.any_eq_false, decide_eq_true_eq] at h
  refine ⟨by omega, by omega, fun l hl => ?_⟩
  have := h.2 l hl
  omega
theorem ofG_no {nx : List (List Int)} {ps : List PairV} (h : farF nx ps = false) (hp : ps.all pairW = true) : ofG nx ps = true ∧ drG nx ps = true := by
  obtain ⟨h1, h2, h3⟩ := far_no h
  have hp := List.all_eq_true.1 hp
  unfold ofG drG m6
  simp only [Bool.and_eq_true, List.all_eq_true]
  refine ⟨⟨ble_of (by omega), fun l hl => ble_of (by have := h3 l hl; omega), ble_of (by omega), fun q hq => ?_⟩, ble_of (by omega), fun l hl => ble_of (by have := h3 l hl; omega), ble_of (by omega), fun q hq => ?_⟩
  · have := hp q hq
    unfold pairW at this
    rw [Bool.and_eq_true] at this
    exact this
  · have := hp q hq
    unfold pairW at this
    rw [Bool.and_eq_true] at this
    exact ⟨ble_of (by have := of_ble this.1; omega), ble_of (by have := of_ble this.2; omega)⟩
theorem big_of {n : Nat} (h : n ≤ 1000000) : big n = true := ble_of (by omega)
theorem makeG_no {ch : List (List ChV)} {nm : List ByteArray} {ho : List (List Int)} {le : List Int} {nx : List (List Int)} {ps : List PairV} (h : farM ch nm ho = false) (h2 : farF nx ps = false) (hp : ps.all pairW = true) (hle : le.length ≤ 60) : makeG ch nm ho le nx ps = true := by
  unfold makeG
  rw [ofMG_no h, (ofG_no h2 hp).2, big_of (by omega)]; rfl
theorem nodup_len : ∀ (n : Nat) (l : List Nat), l.Nodup → (∀ x ∈ l, x < n) → l.length ≤ n
  | 0, [], _, _ => Nat.le_refl _
  | 0, x :: l, _, h => absurd (h x (List.mem_cons_self ..)) (Nat.not_lt_zero _)
  | n + 1, l, hn, h => by
    have h1 := nodup_len n (l.erase n) (hn.erase n) (fun x hx => by
      have a := h x (List.mem_of_mem_erase hx)
      have b : x ≠ n := fun e => by
        rw [e] at hx
        exact (hn.mem_erase_iff.1 hx).1 rfl
      omega)
    by_cases hm : n ∈ l
    · have := List.length_erase_of_mem hm; omega
    · rw [List.erase_of_not_mem hm] at h1; omega
theorem pairs_len {n N : Nat} {k : SQ} (hg : Gd k) (hs : ∀ x ∈ k.1, 0 ≤ x ∧ x < (n : Int)) (hq : ∀ x ∈ k.2, 0 ≤ x ∧ x < (N : Int)) : k.1.length ≤ n * N := by
  have hl := hg.len
  have h1 := nodup_len (n * N) ((List.range k.1.length).map fun i => (k.1.getD i 0).toNat * N + (k.2.getD i 0).toNat) ?_ ?_
  · simpa using h1
  · rw [List.Nodup, List.pairwise_map]
    refine List.pairwise_lt_range.imp_of_mem ?_
    intro a b ha hb hab e
    have ha := List.mem_range.1 ha
    have hb := List.mem_range.1 hb
    have a1 := hs _ (get_mem ha 0)
    have a2 := hq _ (get_mem (show a < k.2.length by omega) 0)
    have b1 := hs _ (get_mem hb 0)
    have b2 := hq _ (get_mem (show b < k.2.length by omega) 0)
    have d := hg.dist a b hab hb
    have hN : 0 < N := by omega
    have e1 : (k.1.getD a 0).toNat = (k.1.getD b 0).toNat := by
      have x1 : ((k.1.getD a 0).toNat * N + (k.2.getD a 0).toNat) / N = (k.1.getD a 0).toNat := by
        rw [Nat.mul_comm, Nat.mul_add_div hN, Nat.div_eq_of_lt (by omega), Nat.add_zero]
      have x2 : ((k.1.getD b 0).toNat * N + (k.2.getD b 0).toNat) / N = (k.1.getD b 0).toNat := by
        rw [Nat.mul_comm, Nat.mul_add_div hN, Nat.div_eq_of_lt (by omega), Nat.add_zero]
      rw [← x1, e, x2]
    rw [e1] at e
    exact d ⟨by omega, by omega⟩
  · intro x hx
    obtain ⟨i, hi, rfl⟩ := List.mem_map.1 hx
    have hi := List.mem_range.1 hi
    have a1 := hs _ (get_mem hi 0)
    have a2 := hq _ (get_mem (show i < k.2.length by omega) 0)
    have b1 : (k.1.getD i 0).toNat + 1 ≤ n := by omega
    have b2 := Nat.mul_le_mul_right N b1
    rw [Nat.add_mul] at b2
    omega
theorem numR_some {n N L : Nat} (hL : n * N ≤ L) {s q : Int} {k : SQ} (hi : InvR n N L k) (hg : Gd k) (hs : 0 ≤ s ∧ s < (n : Int)) (hq : 0 ≤ q ∧ q < (N : Int)) : ∃ t, numR (L : Int) s q k = some t := by
  unfold numR
  by_cases ha : atF s q 0 k.1 k.2 < 0
  · rw [decide_eq_true ha, cond_true]
    have hn := at_neg s q 0 k.1 k.2 ha
    have hl := hg.len
    have h2 : Gd (k.1 ++ [s], k.2 ++ [q]) := by
      refine ⟨by simp [hl], fun i j hij hj => ?_⟩
      have hj : j < (k.1 ++ [s]).length := hj
      rw [List.length_append, List.length_singleton] at hj
      show ¬ ((k.1 ++ [s]).getD i 0 = (k.1 ++ [s]).getD j 0 ∧ (k.2 ++ [q]).getD i 0 = (k.2 ++ [q]).getD j 0)
      rw [getD_app_lt (show i < k.1.length by omega), getD_app_lt (show i < k.2.length by omega)]
      by_cases e : j = k.1.length
      · rw [e, getD_app, hl, getD_app]; exact hn i (by omega) (by omega)
      · rw [getD_app_lt (show j < k.1.length by omega), getD_app_lt (show j < k.2.length by omega)]; exact hg.dist i j hij (by omega)
    have h3 := pairs_len (n := n) (N := N) h2 (fun x hx => by
      rcases List.mem_append.1 hx with hx | hx
      · exact hi.s x hx
      · rw [List.mem_singleton.1 hx]; exact hs) (fun x hx => by
      rcases List.mem_append.1 hx with hx | hx
      · exact hi.q x hx
      · rw [List.mem_singleton.1 hx]; exact hq)
    have h3 : (k.1 ++ [s]).length ≤ n * N := h3
    rw [decide_eq_false (show ¬ zn (k.1 ++ [s]).length > (L : Int) by simp only [zn]; omega)]
    exact ⟨_, rfl⟩
  · rw [decide_eq_false ha]; exact ⟨_, rfl⟩
theorem mvR_some {n N L : Nat} (hL : n * N ≤ L) {r : Int} (hr : 0 ≤ r ∧ r < (N : Int)) : ∀ (l : List MvV) {k : SQ} (acc : List MvV), InvR n N L k → Gd k → (∀ v ∈ l, 0 ≤ v.1 ∧ v.1 < (n : Int)) → ∃ t, mvR (L : Int) r k l acc = some t
  | [], k, acc, _, _, _ => ⟨_, rfl⟩
  | v :: l, k, acc, hi, hg, hl => by
    have hv := hl v (List.mem_cons_self ..)
    obtain ⟨u, hu⟩ := numR_some hL hi hg hv hr
    obtain ⟨t, ht⟩ := mvR_some hL hr l (acc ++ [(u.1, v.2.1, ())]) (numR_inv hi hv hr hu).1 (numR_ok hg hu).1 (fun x hx => hl x (List.mem_cons_of_mem _ hx))
    exact ⟨t, by
      show ((numR (L : Int) v.1 r k).elim none fun u => mvR (L : Int) r u.2 l (acc ++ [(u.1, v.2.1, ())])) = _
      rw [hu]; exact ht⟩
theorem chR_some {n N L : Nat} (hL : n * N ≤ L) {r : Int} (hr : 0 ≤ r ∧ r < (N : Int)) : ∀ (l : List ChV) {k : SQ} (acc : List ChV), InvR n N L k → Gd k → (∀ c ∈ l, ∀ v ∈ c.2.1, 0 ≤ v.1 ∧ v.1 < (n : Int)) → ∃ t, chR (L : Int) r k l acc = some t
  | [], k, acc, _, _, _ => ⟨_, rfl⟩
  | c :: l, k, acc, hi, hg, hl => by
    have hv := hl c (List.mem_cons_self ..)
    obtain ⟨u, hu⟩ := mvR_some hL hr c.2.1 [] hi hg hv
    obtain ⟨t, ht⟩ := chR_some hL hr l (acc ++ [(c.1, u.2, ())]) (mvR_inv hr c.2.1 [] hi hv hu).1 (mvR_ok c.2.1 [] hg hu).1 (fun x hx => hl x (List.mem_cons_of_mem _ hx))
    exact ⟨t, by
      show ((mvR (L : Int) r k c.2.1 []).elim none fun u => chR (L : Int) r u.1 l (acc ++ [(c.1, u.2, ())])) = _
      rw [hu]; exact ht⟩
theorem runR_some {i : Int} {ch : List (List ChV)} {le : List Int} {i2 : Int} {nx : List (List Int)} (hf : Facts i ch le i2 nx) {L : Nat} (hL : ch.length * nx.length ≤ L) : ∀ (f x : Nat) {k : SQ} (CH : List (List ChV)), InvR ch.length nx.length L k → Gd k → ∃ t, runR le ch nx (L : Int) f x k CH = some t
  | 0, _, _, _, _, _ => ⟨_, rfl⟩
  | f + 1, x, k, CH, hi, hg => by
    show ∃ t, (bif decide ((x : Int) < zn k.1.length) then
      (chR (L : Int) (rOf le nx k.1 k.2 x) k (ch.getD (k.1.getD x 0).toNat []) []).elim none fun u => runR le ch nx (L : Int) f (x + 1) u.1 (CH ++ [u.2])
      else some (k, CH)) = some t
    by_cases hx : x < k.1.length
    · rw [lt_k hx, cond_true]
      have h1 := hi.s _ (get_mem hx 0)
      have h2 := hi.q _ (get_mem (show x < k.2.length by rw [← hi.len]; exact hx) 0)
      have hr := rOf_in hf h1 h2
      have hmv := hf.hmv _ (get_mem (show (k.1.getD x 0).toNat < ch.length by omega) [])
      obtain ⟨u, hu⟩ := chR_some hL hr _ [] hi hg hmv
      obtain ⟨t, ht⟩ := runR_some hf hL f (x + 1) (CH ++ [u.2]) (chR_inv hr _ [] hi hmv hu).1 (chR_ok _ [] hg hu).1
      exact ⟨t, by rw [hu]; exact ht⟩
    · rw [nlt_k hx]; exact ⟨_, rfl⟩
/-- where there are few pairs, the product is made -/
theorem made_some {i : Int} {ch : List (List ChV)} {nm : List ByteArray} {ho : List (List Int)} {le : List Int} {p i2 : Int} {nx : List (List Int)} {ps : List PairV} {L : Nat}
    (h : allOk i ch nm ho le p i2 nx ps = true) (hL : 1 ≤ L ∧ L ≤ 4096) (hp : ch.length * nx.length ≤ L) :
    (makeV i ch nm ho le p i2 nx ps (L : Int)).2.2.2 = .nil ∧ MadeOk i ch le i2 nx L (makeV i ch nm ho le p i2 nx ps (L : Int)) := by
  rcases made_ok (nm := nm) (ho := ho) (p := p) (ps := ps) h hL with e | e
  · exfalso
    have hf := facts h
    have hlim : limOk (L : Int) = true := by unfold limOk; rw [decide_eq_true (by omega), decide_eq_true (by omega)]; rfl
    have e2 : refV i ch nm ho le p i2 nx ps (L : Int) = endR (runR le ch nx (L : Int) 4097 0 ([i], [i2]) []) := by unfold refV; rw [h, hlim]; rfl
    have hs := (make_same i ch nm ho le p i2 nx ps (L : Int)).2
    obtain ⟨t, ht⟩ := runR_some (le := le) hf hp 4097 0 (k := ([i], [i2])) [] ⟨rfl, by show 1 ≤ L; omega, fun x hx => by rw [List.mem_singleton.1 hx]; exact hf.hi, fun x hx => by rw [List.mem_singleton.1 hx]; exact hf.hi2⟩ ⟨rfl, fun a b h1 h2 => by have h2 : b < 1 := h2; omega⟩
    rw [e2, ht, e] at hs
    have h4 : (0 : Int) = 41 := congrArg (fun x : RkV => x.2.2.2) hs
    cases h4
  · exact e
end Go.S23
