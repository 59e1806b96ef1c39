/-
  Seat 23: a product of few states is made, and the law of what it keeps.
-/
import Derived.Test.YtkbablmhgnpmmaaDoorS23Q
open Go Go.En
namespace Go.S23
/-! ### few pairs -/
theorem nodup_len : ∀ (n : Nat) (l : List Nat), l.Nodup → (∀ x ∈ l, x < n) → l.length ≤ n
  | 0, [], _, _ => Nat.le_refl _
  | 0, x :: l, _, h => absurd (h x (List.mem_cons_self ..)) (Nat.not_lt_zero _)
  | n + 1, l, hn, h => by
    have h1 := nodup_len n (l.erase n) (hn.erase n) (fun x hx => by
      have a := h x (List.mem_of_mem_erase hx)
      have b : x ≠ n := fun e => by
        rw [e] at hx
        exact (hn.mem_erase_iff.1 hx).1 rfl
      omega)
    by_cases hm : n ∈ l
    · have := List.length_erase_of_mem hm; omega
    · rw [List.erase_of_not_mem hm] at h1; omega
theorem pairs_len {n N : Nat} {k : SQ} (hg : Gd k) (hs : ∀ x ∈ k.1, 0 ≤ x ∧ x < (n : Int)) (hq : ∀ x ∈ k.2, 0 ≤ x ∧ x < (N : Int)) : k.1.length ≤ n * N := by
  have hl := hg.len
  have h1 := nodup_len (n * N) ((List.range k.1.length).map fun i => (k.1.getD i 0).toNat * N + (k.2.getD i 0).toNat) ?_ ?_
  · simpa using h1
  · rw [List.Nodup, List.pairwise_map]
    refine List.pairwise_lt_range.imp_of_mem ?_
    intro a b ha hb hab e
    have ha := List.mem_range.1 ha
    have hb := List.mem_range.1 hb
    have a1 := hs _ (get_mem ha 0)
    have a2 := hq _ (get_mem (show a < k.2.length by omega) 0)
    have b1 := hs _ (get_mem hb 0)
    have b2 := hq _ (get_mem (show b < k.2.length by omega) 0)
    have d := hg.dist a b hab hb
    have hN : 0 < N := by omega
    have e1 : (k.1.getD a 0).toNat = (k.1.getD b 0).toNat := by
      have x1 : ((k.1.getD a 0).toNat * N + (k.2.getD a 0).toNat) / N = (k.1.getD a 0).toNat := by
        rw [Nat.mul_comm, Nat.mul_add_div hN, Nat.div_eq_of_lt (by omega), Nat.add_zero]
      have x2 : ((k.1.getD b 0).toNat * N + (k.2.getD b 0).toNat) / N = (k.1.getD b 0).toNat := by
        rw [Nat.mul_comm, Nat.mul_add_div hN, Nat.div_eq_of_lt (by omega), Nat.add_zero]
      rw [← x1, e, x2]
    rw [e1] at e
    exact d ⟨by omega, by omega⟩
  · intro x hx
    obtain ⟨i, hi, rfl⟩ := List.mem_map.1 hx
    have hi := List.mem_range.1 hi
    have a1 := hs _ (get_mem hi 0)
    have a2 := hq _ (get_mem (show i < k.2.length by omega) 0)
    have b1 : (k.1.getD i 0).toNat + 1 ≤ n := by omega
    have b2 := Nat.mul_le_mul_right N b1
    rw [Nat.add_mul] at b2
    omega
theorem numR_some {n N L : Nat} (hL : n * N ≤ L) {s q : Int} {k : SQ} (hi : InvR n N L k) (hg : Gd k) (hs : 0 ≤ s ∧ s < (n : Int)) (hq : 0 ≤ q ∧ q < (N : Int)) : ∃ t, numR (L : Int) s q k = some t := by
  unfold numR
  by_cases ha : atF s q 0 k.1 k.2 < 0
  · rw [decide_eq_true ha, cond_true]
    have hn := at_neg s q 0 k.1 k.2 ha
    have hl := hg.len
    have h2 : Gd (k.1 ++ [s], k.2 ++ [q]) := by
      refine ⟨by simp [hl], fun i j hij hj => ?_⟩
      have hj : j < (k.1 ++ [s]).length := hj
      rw [List.length_append, List.length_singleton] at hj
      show ¬ ((k.1 ++ [s]).getD i 0 = (k.1 ++ [s]).getD j 0 ∧ (k.2 ++ [q]).getD i 0 = (k.2 ++ [q]).getD j 0)
      rw [getD_app_lt (show i < k.1.length by omega), getD_app_lt (show i < k.2.length by omega)]
      by_cases e : j = k.1.length
      · rw [e, getD_app, hl, getD_app]; exact hn i (by omega) (by omega)
      · rw [getD_app_lt (show j < k.1.length by omega), getD_app_lt (show j < k.2.length by omega)]; exact hg.dist i j hij (by omega)
    have h3 := pairs_len (n := n) (N := N) h2 (fun x hx => by
      rcases List.mem_append.1 hx with hx | hx
      · exact hi.s x hx
      · rw [List.mem_singleton.1 hx]; exact hs) (fun x hx => by
      rcases List.mem_append.1 hx with hx | hx
      · exact hi.q x hx
      · rw [List.mem_singleton.1 hx]; exact hq)
    have h3 : (k.1 ++ [s]).length ≤ n * N := h3
    rw [decide_eq_false (show ¬ zn (k.1 ++ [s]).length > (L : Int) by simp only [zn]; omega)]
    exact ⟨_, rfl⟩
  · rw [decide_eq_false ha]; exact ⟨_, rfl⟩
theorem mvR_some {n N L : Nat} (hL : n * N ≤ L) {r : Int} (hr : 0 ≤ r ∧ r < (N : Int)) : ∀ (l : List MvV) {k : SQ} (acc : List MvV), InvR n N L k → Gd k → (∀ v ∈ l, 0 ≤ v.1 ∧ v.1 < (n : Int)) → ∃ t, mvR (L : Int) r k l acc = some t
  | [], k, acc, _, _, _ => ⟨_, rfl⟩
  | v :: l, k, acc, hi, hg, hl => by
    have hv := hl v (List.mem_cons_self ..)
    obtain ⟨u, hu⟩ := numR_some hL hi hg hv hr
    obtain ⟨t, ht⟩ := mvR_some hL hr l (acc ++ [(u.1, v.2.1, ())]) (numR_inv hi hv hr hu).1 (numR_ok hg hu).1 (fun x hx => hl x (List.mem_cons_of_mem _ hx))
    exact ⟨t, by
      show ((numR (L : Int) v.1 r k).elim none fun u => mvR (L : Int) r u.2 l (acc ++ [(u.1, v.2.1, ())])) = _
      rw [hu]; exact ht⟩
theorem chR_some {n N L : Nat} (hL : n * N ≤ L) {r : Int} (hr : 0 ≤ r ∧ r < (N : Int)) : ∀ (l : List ChV) {k : SQ} (acc : List ChV), InvR n N L k → Gd k → (∀ c ∈ l, ∀ v ∈ c.2.1, 0 ≤ v.1 ∧ v.1 < (n : Int)) → ∃ t, chR (L : Int) r k l acc = some t
  | [], k, acc, _, _, _ => ⟨_, rfl⟩
  | c :: l, k, acc, hi, hg, hl => by
    have hv := hl c (List.mem_cons_self ..)
    obtain ⟨u, hu⟩ := mvR_some hL hr c.2.1 [] hi hg hv
    obtain ⟨t, ht⟩ := chR_some hL hr l (acc ++ [(c.1, u.2, ())]) (mvR_inv hr c.2.1 [] hi hv hu).1 (mvR_ok c.2.1 [] hg hu).1 (fun x hx => hl x (List.mem_cons_of_mem _ hx))
    exact ⟨t, by
      show ((mvR (L : Int) r k c.2.1 []).elim none fun u => chR (L : Int) r u.1 l (acc ++ [(c.1, u.2, ())])) = _
      rw [hu]; exact ht⟩
theorem runR_some {i : Int} {ch : List (List ChV)} {le : List Int} {i2 : Int} {nx : List (List Int)} (hf : Facts i ch le i2 nx) {L : Nat} (hL : ch.length * nx.length ≤ L) : ∀ (f x : Nat) {k : SQ} (CH : List (List ChV)), InvR ch.length nx.length L k → Gd k → ∃ t, runR le ch nx (L : Int) f x k CH = some t
  | 0, _, _, _, _, _ => ⟨_, rfl⟩
  | f + 1, x, k, CH, hi, hg => by
    show ∃ t, (bif decide ((x : Int) < zn k.1.length) then
      (chR (L : Int) (rOf le nx k.1 k.2 x) k (ch.getD (k.1.getD x 0).toNat []) []).elim none fun u => runR le ch nx (L : Int) f (x + 1) u.1 (CH ++ [u.2])
      else some (k, CH)) = some t
    by_cases hx : x < k.1.length
    · rw [lt_k hx, cond_true]
      have h1 := hi.s _ (get_mem hx 0)
      have h2 := hi.q _ (get_mem (show x < k.2.length by rw [← hi.len]; exact hx) 0)
      have hr := rOf_in hf h1 h2
      have hmv := hf.hmv _ (get_mem (show (k.1.getD x 0).toNat < ch.length by omega) [])
      obtain ⟨u, hu⟩ := chR_some hL hr _ [] hi hg hmv
      obtain ⟨t, ht⟩ := runR_some hf hL f (x + 1) (CH ++ [u.2]) (chR_inv hr _ [] hi hmv hu).1 (chR_ok _ [] hg hu).1
      exact ⟨t, by rw [hu]; exact ht⟩
    · rw [nlt_k hx]; exact ⟨_, rfl⟩
/-- where there are few pairs, the product is made -/
theorem made_some {i : Int} {ch : List (List ChV)} {nm : List ByteArray} {ho : List (List Int)} {le : List Int} {p i2 : Int} {nx : List (List Int)} {ps : List PairV} {L : Nat}
    (h : allOk i ch nm ho le p i2 nx ps = true) (hL : 1 ≤ L ∧ L ≤ 4096) (hp : ch.length * nx.length ≤ L) :
    (makeV i ch nm ho le p i2 nx ps (L : Int)).2.2.2 = .nil ∧ MadeOk i ch le i2 nx L (makeV i ch nm ho le p i2 nx ps (L : Int)) := by
  rcases made_ok (nm := nm) (ho := ho) (p := p) (ps := ps) h hL with e | e
  · exfalso
    have hf := facts h
    have hlim : limOk (L : Int) = true := by unfold limOk; rw [decide_eq_true (by omega), decide_eq_true (by omega)]; rfl
    have e2 : refV i ch nm ho le p i2 nx ps (L : Int) = endR (runR le ch nx (L : Int) 4097 0 ([i], [i2]) []) := by unfold refV; rw [h, hlim]; rfl
    have hs := (make_same i ch nm ho le p i2 nx ps (L : Int)).2
    obtain ⟨t, ht⟩ := runR_some (le := le) hf hp 4097 0 (k := ([i], [i2])) [] ⟨rfl, by show 1 ≤ L; omega, fun x hx => by rw [List.mem_singleton.1 hx]; exact hf.hi, fun x hx => by rw [List.mem_singleton.1 hx]; exact hf.hi2⟩ ⟨rfl, fun a b h1 h2 => by have h2 : b < 1 := h2; omega⟩
    rw [e2, ht, e] at hs
    have h4 : (0 : Int) = 41 := congrArg (fun x : RkV => x.2.2.2) hs
    cases h4
  · exact e
/-! ### the loops -/
section
variable (le : List Int) (i : Int) (ch : List (List ChV)) (nm : List ByteArray) (ho : List (List Int)) (p i2 : Int) (nx : List (List Int)) (ps : List PairV) (z : Int) (zn_ : List ByteArray) (HO : List (List Int))
theorem kp_loop3 {L : Nat} {v : MkV} (hf : Facts i ch le i2 nx) (hm : MadeOk i ch le i2 nx L v) (n : Nat) (g0 : f4G0) (g2 : f4G2) {x c : Nat} (hx : x < v.1.length) {l : List ChV} (hl : ch.getD (v.2.1.getD x 0).toNat [] = l) (hc : c < l.length) (hc2 : c ≤ 10) (hl2 : (cz l c).2.1.length ≤ 20) : ∀ (m j : Nat), j ≤ (cz l c).2.1.length → (cz l c).2.1.length - j < m →
    f4L3 n g0 g2 m le (x : Int) l (c : Int) (j : Int) i ch nm ho p i2 nx ps z zn_ v.1 HO v.2.1 v.2.2.1 = g2 le (x : Int) l ((c + 1 : Nat) : Int) i ch nm ho p i2 nx ps z zn_ v.1 HO v.2.1 v.2.2.1
  | 0, _, _, h => absurd h (Nat.not_lt_zero _)
  | m + 1, j, hj, hmm => by
    have hrow := hm.ok.row x hx
    have hrow : okH v.2.1 v.2.2.1 (rOf le nx v.2.1 v.2.2.1 x) (ch.getD (v.2.1.getD x 0).toNat []) (v.1.getD x []) := hrow
    rw [hl] at hrow
    have hc3 := hrow.1
    obtain ⟨_, hM⟩ := hrow.2 c hc
    show f4S3 g0 g2 (f4L3 n g0 g2 m) le (x : Int) l (c : Int) (j : Int) i ch nm ho p i2 nx ps z zn_ v.1 HO v.2.1 v.2.2.1 = _
    unfold f4S3
    by_cases h0 : j < (cz l c).2.1.length
    · obtain ⟨t, h1, h2, h3, h4, h5⟩ := hM.2 j h0
      have hlen := hm.len
      have hqs : v.2.1.length = v.2.2.1.length := hm.ok.gd.len
      have hxs : x < v.2.1.length := by omega
      have b1 := hm.sr _ (get_mem hxs 0)
      have b2 := hm.qr _ (get_mem (show x < v.2.2.1.length by omega) 0)
      have hb1 : inb (v.2.1.getD x 0) le.length = true := by rw [hf.hle]; simp only [inb, Bool.and_eq_true, decide_eq_true_eq]; exact b1
      have hb2 : inb (v.2.2.1.getD x 0) nx.length = true := by simp only [inb, Bool.and_eq_true, decide_eq_true_eq]; exact b2
      have hb3 : inb (le.getD (v.2.1.getD x 0).toNat 0) (nx.getD (v.2.2.1.getD x 0).toNat []).length = true := by
        have := hf.hat _ (get_mem (show (v.2.1.getD x 0).toNat < le.length by rw [hf.hle]; omega) 0) _ (get_mem (show (v.2.2.1.getD x 0).toNat < nx.length by omega) [])
        simp only [inb, Bool.and_eq_true, decide_eq_true_eq]; exact this
      unfold rOf at h4
      simp only [Int.toNat_natCast]
      rw [inb_k hc, lt_k h0, inb_k hx, inb_k (show c < (v.1.getD x []).length by rw [hc3]; exact hc), inb_k (show j < (cz (v.1.getD x []) c).2.1.length by rw [hM.1]; exact h0), inb_k h0, h1, inb_k h2, inb_k (show t < v.2.2.1.length by omega), inb_k hxs, inb_k (show x < v.2.2.1.length by omega), hb1, hb2, hb3, Int.toNat_natCast, h3, h4, h5, bne_self_eq_false, bne_self_eq_false, bne_self_eq_false, wr_k (by omega)]
      exact kp_loop3 hf hm n g0 g2 hx hl hc hc2 hl2 m (j + 1) h0 (by omega)
    · simp only [Int.toNat_natCast]
      rw [inb_k hc, nlt_k h0, wr_k (k := c) (by omega)]; rfl
theorem kp_loop2 {L : Nat} {v : MkV} (hf : Facts i ch le i2 nx) (hm : MadeOk i ch le i2 nx L v) (g0 : f4G0) {x : Nat} (hx : x < v.1.length) (hx2 : x ≤ 4096) {l : List ChV} (hl : ch.getD (v.2.1.getD x 0).toNat [] = l) (hl2 : l.length ≤ 10) (hl3 : ∀ c ∈ l, c.2.1.length ≤ 20) : ∀ (m c : Nat), c ≤ l.length → l.length - c < m →
    f4L2 4097 g0 m le (x : Int) l (c : Int) i ch nm ho p i2 nx ps z zn_ v.1 HO v.2.1 v.2.2.1 = g0 le ((x + 1 : Nat) : Int) i ch nm ho p i2 nx ps z zn_ v.1 HO v.2.1 v.2.2.1
  | 0, _, _, h => absurd h (Nat.not_lt_zero _)
  | m + 1, c, hj, hmm => by
    have hrow := hm.ok.row x hx
    have hrow : okH v.2.1 v.2.2.1 (rOf le nx v.2.1 v.2.2.1 x) (ch.getD (v.2.1.getD x 0).toNat []) (v.1.getD x []) := hrow
    rw [hl] at hrow
    have hc3 := hrow.1
    show f4S2 (f4L3 4097 g0 (f4L2 4097 g0 m) 4097) g0 (f4L2 4097 g0 m) le (x : Int) l (c : Int) i ch nm ho p i2 nx ps z zn_ v.1 HO v.2.1 v.2.2.1 = _
    unfold f4S2
    by_cases h0 : c < l.length
    · obtain ⟨hA, hM⟩ := hrow.2 c h0
      have hA : ((v.1.getD x []).getD c ({ data := #[] }, [], ())).1 = (l.getD c ({ data := #[] }, [], ())).1 := hA
      have hM1 : ((v.1.getD x []).getD c ({ data := #[] }, [], ())).2.1.length = (l.getD c ({ data := #[] }, [], ())).2.1.length := hM.1
      have hl4 := hl3 _ (get_mem h0 ({ data := #[] }, [], ()))
      simp only [Int.toNat_natCast]
      rw [lt_k h0, inb_k hx, inb_k (show c < (v.1.getD x []).length by rw [hc3]; exact h0), inb_k h0, hA, hM1, beq_self_eq_true, bne_self_eq_false]
      have h3 := kp_loop3 le i ch nm ho p i2 nx ps z zn_ HO hf hm 4097 g0 (f4L2 4097 g0 m) hx hl h0 (by omega) hl4 4097 0 (Nat.zero_le _) (by have : (cz l c).2.1.length ≤ 20 := hl4; omega)
      refine Eq.trans ?_ (h3.trans (kp_loop2 hf hm g0 hx hx2 hl hl2 hl3 m (c + 1) h0 (by omega)))
      rfl
    · rw [nlt_k h0, wr_k (by omega)]; rfl
theorem kp_loop1 {L : Nat} {v : MkV} (hf : Facts i ch le i2 nx) (hm : MadeOk i ch le i2 nx L v) (g0 : f4G0) {x : Nat} (hx : x < v.1.length) (hx2 : x ≤ 4096) (hfar : ∀ l ∈ ch, l.length ≤ 10 ∧ ∀ c ∈ l, c.2.1.length ≤ 20) : ∀ (m k : Nat), k ≤ x → x - k < m →
    f4L1 4097 g0 m le (x : Int) (k : Int) i ch nm ho p i2 nx ps z zn_ v.1 HO v.2.1 v.2.2.1 = g0 le ((x + 1 : Nat) : Int) i ch nm ho p i2 nx ps z zn_ v.1 HO v.2.1 v.2.2.1
  | 0, _, _, h => absurd h (Nat.not_lt_zero _)
  | m + 1, k, hk, hmm => by
    have hlen := hm.len
    have hqs : v.2.1.length = v.2.2.1.length := hm.ok.gd.len
    have hxs : x < v.2.1.length := by omega
    show f4S1 (f4L2 4097 g0 4097) g0 (f4L1 4097 g0 m) le (x : Int) (k : Int) i ch nm ho p i2 nx ps z zn_ v.1 HO v.2.1 v.2.2.1 = _
    unfold f4S1
    by_cases h0 : k < x
    · have hd : ¬ (v.2.1.getD k 0 = v.2.1.getD x 0 ∧ v.2.2.1.getD k 0 = v.2.2.1.getD x 0) := hm.ok.gd.dist k x h0 hxs
      rw [decide_eq_true (show (k : Int) < (x : Int) by omega), inb_k hxs, inb_k (show k < v.2.1.length by omega), inb_k (show x < v.2.2.1.length by omega), inb_k (show k < v.2.2.1.length by omega), Int.toNat_natCast, Int.toNat_natCast]
      have hd2 : (v.2.1.getD k 0 == v.2.1.getD x 0 && v.2.2.1.getD k 0 == v.2.2.1.getD x 0) = false := by
        cases hb : (v.2.1.getD k 0 == v.2.1.getD x 0 && v.2.2.1.getD k 0 == v.2.2.1.getD x 0) with
        | false => rfl
        | true => rw [Bool.and_eq_true, beq_iff_eq, beq_iff_eq] at hb; exact absurd hb hd
      rw [hd2, wr_k (by omega)]
      have ih := kp_loop1 hf hm g0 hx hx2 hfar m (k + 1) h0 (by omega)
      cases (v.2.1.getD k 0 == v.2.1.getD x 0) <;> exact ih
    · have b1 := hm.sr _ (get_mem hxs 0)
      have hb1 : inb (v.2.1.getD x 0) ch.length = true := by simp only [inb, Bool.and_eq_true, decide_eq_true_eq]; exact b1
      have hrow := hm.ok.row x hx
      have hrow : okH v.2.1 v.2.2.1 (rOf le nx v.2.1 v.2.2.1 x) (ch.getD (v.2.1.getD x 0).toNat []) (v.1.getD x []) := hrow
      have hfr := hfar _ (get_mem (show (v.2.1.getD x 0).toNat < ch.length by omega) [])
      simp only [Int.toNat_natCast]
      rw [decide_eq_false (show ¬ (k : Int) < (x : Int) by omega), inb_k hxs, hb1, inb_k hx, hrow.1, bne_self_eq_false]
      exact kp_loop2 le i ch nm ho p i2 nx ps z zn_ HO hf hm g0 hx hx2 rfl hfr.1 hfr.2 4097 0 (Nat.zero_le _) (by omega)
theorem kp_loop0 {L : Nat} {v : MkV} (hf : Facts i ch le i2 nx) (hm : MadeOk i ch le i2 nx L v) (hL : L ≤ 4096) (hfar : ∀ l ∈ ch, l.length ≤ 10 ∧ ∀ c ∈ l, c.2.1.length ≤ 20) : ∀ (m x : Nat), x ≤ v.2.1.length → v.2.1.length - x < m →
    f4L0 4097 m le (x : Int) i ch nm ho p i2 nx ps z zn_ v.1 HO v.2.1 v.2.2.1 = some ⟨[pB true], [], []⟩
  | 0, _, _, h => absurd h (Nat.not_lt_zero _)
  | m + 1, x, hx, hmm => by
    have hlen := hm.len
    have hle := hm.le
    show f4S0 (f4L1 4097 (f4L0 4097 m) 4097) (f4L0 4097 m) le (x : Int) i ch nm ho p i2 nx ps z zn_ v.1 HO v.2.1 v.2.2.1 = _
    unfold f4S0
    by_cases h0 : x < v.2.1.length
    · rw [lt_k h0, cond_true]
      exact (kp_loop1 le i ch nm ho p i2 nx ps z zn_ HO hf hm (f4L0 4097 m) (show x < v.1.length by omega) (by omega) hfar 4097 0 (Nat.zero_le _) (by omega)).trans (kp_loop0 hf hm hL hfar m (x + 1) h0 (by omega))
    · rw [nlt_k h0]; rfl
end
theorem keeps_T (i : Int) (ch : List (List ChV)) (nm : List ByteArray) (ho : List (List Int)) (le : List Int) (p i2 : Int) (nx : List (List Int)) (ps : List PairV) (hp : ps.all pairW = true) : f4M 4097 i ch nm ho le p i2 nx ps = some ⟨[pB true], [], []⟩ := by
  unfold f4M f4T
  cases hfar : (farM ch nm ho || (farF nx ps || (decide (zn le.length > 60) || (decide (zn ch.length > 12) || (decide (zn nx.length > 12) || !allOk i ch nm ho le p i2 nx ps))))) with
  | true =>
    have g : (farM ch nm ho || (farF nx ps || (decide (zn le.length > 60) || Nat.beq 1 1 && (decide (zn ch.length > 12) || Nat.beq 1 1 && (decide (zn nx.length > 12) || allG ch nm ho le nx ps && true))))) = true := by
      cases h1 : farM ch nm ho with
      | true => rfl
      | false =>
        cases h2 : farF nx ps with
        | true => rfl
        | false =>
          by_cases h3 : zn le.length > 60
          · rw [decide_eq_true h3]; rfl
          · have hg := makeG_no h1 h2 hp (by simp only [zn] at h3; omega) (le := le)
            have hg2 : allG ch nm ho le nx ps = true := by
              unfold makeG at hg
              unfold allG
              rw [Bool.and_eq_true] at hg
              rw [mdG_of hg.1, hg.2]; rfl
            rw [hg2]
            cases decide (zn le.length > 60) <;> cases decide (zn ch.length > 12) <;> cases decide (zn nx.length > 12) <;> rfl
    rw [g]; rfl
  | false =>
    simp only [Bool.or_eq_false_iff, decide_eq_false_iff_not, zn, Bool.not_eq_false'] at hfar
    obtain ⟨h1, h2, h3, h4, h5, h6⟩ := hfar
    have hg := makeG_no h1 h2 hp (by omega) (le := le)
    have hg2 : allG ch nm ho le nx ps = true := by
      unfold makeG at hg
      unfold allG
      rw [Bool.and_eq_true] at hg
      rw [mdG_of hg.1, hg.2]; rfl
    have hmul : ch.length * nx.length ≤ 4096 := Nat.le_trans (Nat.mul_le_mul (show ch.length ≤ 12 by omega) (show nx.length ≤ 12 by omega)) (by omega)
    obtain ⟨e0, hm⟩ := made_some (L := 4096) (nm := nm) (ho := ho) (p := p) (ps := ps) h6 (by omega) hmul
    have e0 : (makeV i ch nm ho le p i2 nx ps 4096).2.2.2 = .nil := e0
    have hm : MadeOk i ch le i2 nx 4096 (makeV i ch nm ho le p i2 nx ps 4096) := hm
    have hlen := hm.len
    have hqs : (makeV i ch nm ho le p i2 nx ps 4096).2.1.length = (makeV i ch nm ho le p i2 nx ps 4096).2.2.1.length := hm.ok.gd.len
    rw [h1, h2, hg2, ofMG_no h1, (ofG_no h2 hp).1, hg, e0, hlen, hqs, bne_self_eq_false, decide_eq_false (show ¬ zn le.length > 60 by simp only [zn]; omega), decide_eq_false (show ¬ zn ch.length > 12 by simp only [zn]; omega), decide_eq_false (show ¬ zn nx.length > 12 by simp only [zn]; omega)]
    refine Eq.trans ?_ (kp_loop0 le i ch nm ho p i2 nx ps 0 [] ((makeV i ch nm ho le p i2 nx ps 4096).1.map fun _ => []) (facts h6) hm (Nat.le_refl _) (farM_no h1).2.2.2.1 4097 0 (Nat.zero_le _) (by have := hm.le; omega))
    rfl
def keepsLS : En.Spec := ⟨[], fun ds os => match ds, os with
  | [.p (.agg [.d (.fz true) (.i .i64) _i, .d (.fz false) (.l (.l (.p .s (.p (.l (.p (.i .i64) (.p (.i .i64) .u))) .u)))) _ch, .d (.fz false) (.l .s) _nm, .d (.fz false) (.l (.l (.i .i64))) _ho]), .p (.one (.d (.fz false) (.l (.i .i64)) _le)),
     .p (.agg [.d (.fz true) (.i .i64) _p, .d (.fz true) (.i .i64) _i2, .d (.fz false) (.l (.l (.i .i64))) _nx, .d (.fz false) (.l (.p (.l (.i .i64)) (.p (.l (.i .i64)) .u))) ps])], [] =>
    .br (ps.all pairW) (.leaf [pB true] [] []) .fail
  | _, _ => .fail⟩
theorem keepsL_ok : FnOk P C0 4 keepsLS := by
  refine fn_okC ctx31 (show P.funcs[4]? = some f4f by kernel_rfl) (of_decide_eq_true (by kernel_rfl)) (keepsLS) f4h (fun ds os lf hp => ?_)
  unfold keepsLS at hp
  simp only at hp
  split at hp
  · rename_i i ch nm ho le p i2 nx ps
    simp only [Out.pick] at hp
    cases hc0 : ps.all pairW with
    | false => rw [hc0] at hp; cases hp
    | true =>
      rw [hc0] at hp
      simp only [cond_true] at hp
      simp only [Option.some.injEq] at hp
      subst hp
      exact ⟨4097, (f4_ev _ i ch nm ho le p i2 nx ps).trans (keeps_T i ch nm ho le p i2 nx ps hc0)⟩
  · cases hp
end Go.S23
