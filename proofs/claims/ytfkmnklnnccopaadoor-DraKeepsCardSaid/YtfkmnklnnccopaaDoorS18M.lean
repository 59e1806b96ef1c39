/-
  Seat 18: what a trimmed automaton is: plain facts (DraTrims, DraKeeps).
-/
import Derived.Test.YtfkmnklnnccopaaDoorS18ZF
open Go Go.En
namespace Go.S18

/-! ### orders -/
/-- rows told anew by an order, the first i of them -/
def rowsO (nx : List (List Int)) (o : List Int) (i : Nat) : List (List Int) := (o.take i).map fun s => (nx.getD s.toNat []).map fun q => idxO q 0 o
theorem idxO_pre {o t : List Int} (hn : (o ++ t).Nodup) {q : Int} (h : q ∈ o) : idxO q 0 (o ++ t) = idxO q 0 o := by
  obtain ⟨j, h1, h2, h3⟩ := idxO_pos q 0 o (fun h0 => (idxO_neg q 0 o).1 h0 h)
  rw [h2, Nat.zero_add]
  refine idxO_get hn (by rw [List.length_append]; omega) ?_
  rw [List.getD_eq_getElem?_getD, List.getElem?_append_left h1, ← List.getD_eq_getElem?_getD, h3]
theorem all_idx {n : Nat} {j : Int} (h : inF (zn n) j = true) : idxO j 0 (allF n) = j := by
  obtain ⟨h1, h2, h3⟩ := in_natT h
  rw [h3]
  refine idxO_get (o := allF n) ?_ (by rw [allF_len]; omega) ?_
  · unfold allF
    rw [List.nodup_iff_pairwise_ne, List.pairwise_map]
    exact (List.nodup_iff_pairwise_ne.1 List.nodup_range).imp fun h e => h (by omega)
  · unfold allF
    rw [List.getD_eq_getElem?_getD, List.getElem?_map, List.getElem?_range (by omega)]
    rfl
theorem all_new (n : Nat) : idxO (n : Int) 0 (allF n) < 0 := by
  rw [idxO_neg]
  intro h
  obtain ⟨x, h1, h2⟩ := List.mem_map.1 h
  rw [List.mem_range] at h1
  have h2 : ((x : Nat) : Int) = (n : Int) := h2
  omega
theorem getD_ix {α : Type} {l : List α} {k : Nat} (h : k < l.length) (d : α) : l.getD k d = l[k] := by
  rw [List.getD_eq_getElem?_getD, List.getElem?_eq_getElem h]; rfl
theorem row_spec {N : Nat} : ∀ (r o l : List Int), o.Nodup → (∀ q ∈ o, inF (zn N) q = true) → (∀ q ∈ r, inF (zn N) q = true) →
    ∃ t, rowT r o l = (o ++ t, l ++ r.map fun q => idxO q 0 (o ++ t)) ∧ (o ++ t).Nodup ∧ (∀ q ∈ o ++ t, inF (zn N) q = true) ∧ (∀ q ∈ r, q ∈ o ++ t) ∧
      ∀ l2, rowT (r.map fun q => idxO q 0 (o ++ t)) (allF o.length) l2 = (allF (o ++ t).length, l2 ++ r.map fun q => idxO q 0 (o ++ t))
  | [], o, l, hn, ho, _ => ⟨[], by simp [rowT], by simpa using hn, by simpa using ho, fun _ h => (by cases h), fun l2 => by simp [rowT]⟩
  | q :: r, o, l, hn, ho, hr => by
    by_cases h0 : idxO q 0 o < 0
    · have hm : ¬ q ∈ o := (idxO_neg q 0 o).1 h0
      have hq := hr q (List.mem_cons_self ..)
      have hn1 : (o ++ [q]).Nodup := by
        rw [List.nodup_append]
        refine ⟨hn, by simp, fun a ha b hb e => ?_⟩
        rw [List.mem_singleton] at hb
        subst hb; subst e; exact hm ha
      have ho1 : ∀ x ∈ o ++ [q], inF (zn N) x = true := fun x hx => (List.mem_append.1 hx).elim (ho x) (fun h => by rw [List.mem_singleton.1 h]; exact hq)
      obtain ⟨t, e1, e2, e3, e4, e5⟩ := row_spec r (o ++ [q]) (l ++ [(o.length : Int)]) hn1 ho1 (fun x hx => hr x (List.mem_cons_of_mem _ hx))
      have ea : o ++ [q] ++ t = o ++ (q :: t) := by simp
      rw [ea] at e1 e2 e3 e4 e5
      have hi : idxO q 0 (o ++ (q :: t)) = (o.length : Int) := idxO_get e2 (by rw [List.length_append, List.length_cons]; omega) (by
        rw [List.getD_eq_getElem?_getD, List.getElem?_append_right (Nat.le_refl _), Nat.sub_self]; rfl)
      refine ⟨q :: t, ?_, e2, e3, fun x hx => ?_, fun l2 => ?_⟩
      · rw [rowT_yes h0, e1, List.map_cons, hi]; simp
      · rcases List.mem_cons.1 hx with rfl | hx
        · exact List.mem_append_right _ (List.mem_cons_self ..)
        · exact e4 x hx
      · rw [List.map_cons, hi, rowT_yes (all_new _), ← allF_succ, allF_len]
        have := e5 (l2 ++ [(o.length : Int)])
        rw [List.length_append, List.length_singleton] at this
        rw [this]; simp
    · have hm : q ∈ o := Classical.byContradiction fun h => h0 ((idxO_neg q 0 o).2 h)
      obtain ⟨t, e1, e2, e3, e4, e5⟩ := row_spec r o (l ++ [idxO q 0 o]) hn ho (fun x hx => hr x (List.mem_cons_of_mem _ hx))
      refine ⟨t, ?_, e2, e3, fun x hx => ?_, fun l2 => ?_⟩
      · rw [rowT_no h0, e1, List.map_cons, idxO_pre e2 hm]; simp
      · rcases List.mem_cons.1 hx with rfl | hx
        · exact List.mem_append_left _ hm
        · exact e4 x hx
      · have hin : inF (zn o.length) (idxO q 0 o) = true := by
          obtain ⟨j, j1, j2, _⟩ := idxO_pos q 0 o h0
          rw [j2, in_iff]; show 0 ≤ _ ∧ _ < ((o.length : Nat) : Int); omega
        have hi2 : idxO (idxO q 0 o) 0 (allF o.length) = idxO q 0 o := all_idx hin
        rw [List.map_cons, idxO_pre e2 hm, rowT_no (by rw [hi2]; exact h0), hi2, e5]; simp
theorem rows_pre {nx : List (List Int)} {o t : List Int} {i : Nat} (hn : (o ++ t).Nodup) (hi : i ≤ o.length) (hc : ∀ s ∈ o.take i, ∀ q ∈ nx.getD s.toNat [], q ∈ o) : rowsO nx (o ++ t) i = rowsO nx o i := by
  unfold rowsO
  rw [List.take_append_of_le_length hi]
  refine List.map_congr_left fun s hs => List.map_congr_left fun q hq => idxO_pre hn (hc s hs q hq)
theorem rows_succ {nx : List (List Int)} {o : List Int} {i : Nat} (hi : i < o.length) : rowsO nx o (i + 1) = rowsO nx o i ++ [(nx.getD (o.getD i 0).toNat []).map fun q => idxO q 0 o] := by
  unfold rowsO
  rw [List.take_add_one, List.getElem?_eq_getElem hi, List.map_append, getD_ix hi 0]
  rfl
theorem rows_len {nx : List (List Int)} {o : List Int} : (rowsO nx o o.length).length = o.length := by simp [rowsO]
theorem rows_get {nx : List (List Int)} {o : List Int} {k : Nat} (h : k < o.length) : (rowsO nx o o.length).getD k [] = (nx.getD (o.getD k 0).toNat []).map fun q => idxO q 0 o := by
  unfold rowsO
  rw [List.take_length, List.getD_eq_getElem?_getD, List.getElem?_map, List.getElem?_eq_getElem h, getD_ix h 0]
  rfl
theorem trim_spec {nx : List (List Int)} (hrow : ∀ s, s < nx.length → ∀ q ∈ nx.getD s [], inF (zn nx.length) q = true) : ∀ (f i : Nat) (o : List Int), o.Nodup → (∀ q ∈ o, inF (zn nx.length) q = true) → i ≤ o.length →
    (∀ s ∈ o.take i, ∀ q ∈ nx.getD s.toNat [], q ∈ o) → nx.length < f + i →
    ∃ t, trimN nx f i o (rowsO nx o i) = (o ++ t, rowsO nx (o ++ t) (o ++ t).length) ∧ (o ++ t).Nodup ∧ (∀ q ∈ o ++ t, inF (zn nx.length) q = true) ∧ (∀ s ∈ o ++ t, ∀ q ∈ nx.getD s.toNat [], q ∈ o ++ t) ∧
      ∀ f2, (o ++ t).length < f2 + i → trimN (rowsO nx (o ++ t) (o ++ t).length) f2 i (allF o.length) (rowsO nx o i) = (allF (o ++ t).length, rowsO nx (o ++ t) (o ++ t).length)
  | 0, i, o, hn, ho, hi, _, hf => by have := nodup_lenI hn ho; omega
  | f + 1, i, o, hn, ho, hi, hc, hf => by
    by_cases h : i < o.length
    · have hs := ho _ (get_mem h 0)
      obtain ⟨s1, s2, s3⟩ := in_natT hs
      obtain ⟨t1, e1, e2, e3, e4, e5⟩ := row_spec (N := nx.length) (nx.getD (o.getD i 0).toNat []) o [] hn ho (hrow _ s2)
      have g1 : (o ++ t1).getD i 0 = o.getD i 0 := by
        rw [List.getD_eq_getElem?_getD, List.getElem?_append_left h, ← List.getD_eq_getElem?_getD]
      have h1 : i < (o ++ t1).length := by rw [List.length_append]; omega
      have hout : rowsO nx o i ++ [(nx.getD (o.getD i 0).toNat []).map fun q => idxO q 0 (o ++ t1)] = rowsO nx (o ++ t1) (i + 1) := by
        rw [rows_succ h1, g1, rows_pre e2 hi hc]
      obtain ⟨t2, r1, r2, r3, r4, r5⟩ := trim_spec hrow f (i + 1) (o ++ t1) e2 e3 h1 (fun s hs q hq => by
        rw [List.take_append_of_le_length h] at hs
        rw [List.take_add_one, List.getElem?_eq_getElem h] at hs
        rcases List.mem_append.1 hs with hs | hs
        · exact List.mem_append_left _ (hc s hs q hq)
        · have : s = o.getD i 0 := by rw [List.getD_eq_getElem?_getD, List.getElem?_eq_getElem h]; simpa using hs
          rw [this] at hq
          exact e4 q hq) (by omega)
      have ea : o ++ t1 ++ t2 = o ++ (t1 ++ t2) := by simp
      rw [ea] at r1 r2 r3 r4 r5
      refine ⟨t1 ++ t2, ?_, r2, r3, r4, fun f2 hf2 => ?_⟩
      · rw [trimN_yes h, e1]
        simp only [List.nil_append]
        rw [hout, r1]
      · cases f2 with
        | zero => rw [List.length_append] at hf2; omega
        | succ f2 =>
          have hil : i < (allF o.length).length := by rw [allF_len]; exact h
          have hget : ((allF o.length).getD i 0).toNat = i := by
            unfold allF
            rw [List.getD_eq_getElem?_getD, List.getElem?_map, List.getElem?_range h]
            rfl
          have hi3 : i < (o ++ (t1 ++ t2)).length := by rw [List.length_append]; omega
          have g3 : (o ++ (t1 ++ t2)).getD i 0 = o.getD i 0 := by
            rw [List.getD_eq_getElem?_getD, List.getElem?_append_left h, ← List.getD_eq_getElem?_getD]
          have hrw : ((nx.getD (o.getD i 0).toNat []).map fun q => idxO q 0 (o ++ (t1 ++ t2))) = (nx.getD (o.getD i 0).toNat []).map fun q => idxO q 0 (o ++ t1) :=
            List.map_congr_left fun q hq => by rw [← ea] at r2 ⊢; exact idxO_pre r2 (e4 q hq)
          rw [trimN_yes hil, hget, rows_get hi3, g3, hrw, e5]
          simp only [List.nil_append]
          rw [hout]
          exact r5 f2 (by omega)
    · have hi2 : i = o.length := by omega
      subst hi2
      refine ⟨[], ?_, by simpa using hn, by simpa using ho, ?_, fun f2 hf2 => ?_⟩
      · rw [trimN_no h]; simp
      · rw [List.append_nil]
        rw [List.take_length] at hc
        exact hc
      · rw [List.append_nil] at hf2 ⊢
        cases f2 with
        | zero => omega
        | succ f2 => rw [trimN_no (by rw [allF_len]; omega)]
/-- all that is to be known of what Trim finds -/
structure TrimOk (nx : List (List Int)) (i : Int) (o : List Int) : Prop where
  eq : trimO i nx = (o, rowsO nx o o.length)
  nd : o.Nodup
  rng : ∀ q ∈ o, inF (zn nx.length) q = true
  cl : ∀ s ∈ o, ∀ q ∈ nx.getD s.toNat [], q ∈ o
  hd : o.getD 0 0 = i
  pos : 0 < o.length
  again : trimO 0 (rowsO nx o o.length) = (allF o.length, rowsO nx o o.length)
theorem trim_all {nx : List (List Int)} {ps : List PairV} (h : Fit nx ps) {i : Int} (hi : inF (zn nx.length) i = true) : ∃ o, TrimOk nx i o := by
  obtain ⟨t, e1, e2, e3, e4, e5⟩ := trim_spec (fun s hs => (h.row s hs).2) (nx.length + 1) 0 [i] (by simp) (fun q hq => by rw [List.mem_singleton.1 hq]; exact hi) (Nat.zero_le _) (fun s hs => by cases hs) (by omega)
  refine ⟨[i] ++ t, e1, e2, e3, e4, rfl, Nat.zero_lt_succ _, ?_⟩
  have := e5 ((rowsO nx ([i] ++ t) ([i] ++ t).length).length + 1) (by rw [rows_len]; omega)
  exact this
theorem TrimOk.le {nx : List (List Int)} {i : Int} {o : List Int} (h : TrimOk nx i o) : o.length ≤ nx.length := nodup_lenI h.nd h.rng
/-! ### pairs -/
theorem keep_ref {nx : List (List Int)} {ps : List PairV} (h : Fit nx ps) {o : List Int} (ho : o.Nodup) : keepP o ps = keepR o ps := by
  unfold keepP keepR
  congr 1
  refine List.map_congr_left fun q hq => ?_
  obtain ⟨⟨a, _⟩, b, _⟩ := h.ps q hq
  show ((sortI (partO o q.1), sortI (partO o q.2.1), ()) : PairV) = (refP q.1 0 o, refP q.2.1 0 o, ())
  rw [part_ref ho a, part_ref ho b]
theorem refP_in (l o : List Int) : ∀ x ∈ refP l 0 o, inF (zn o.length) x = true := fun x hx => by
  obtain ⟨j, h1, h2, _⟩ := (refP_mem l 0 o x).1 hx
  rw [in_iff]; show 0 ≤ x ∧ x < ((o.length : Nat) : Int); omega
theorem part_all {n : Nat} : ∀ {l : List Int}, (∀ x ∈ l, inF (zn n) x = true) → partO (allF n) l = l
  | [], _ => rfl
  | q :: l, h => by
    have e := all_idx (h q (List.mem_cons_self ..))
    have h0 : ¬ q < 0 := by have := (in_iff.1 (h q (List.mem_cons_self ..))).1; omega
    show (bif decide (idxO q 0 (allF n) < 0) then partO (allF n) l else idxO q 0 (allF n) :: partO (allF n) l) = _
    rw [e, decide_eq_false h0, cond_false, part_all fun x hx => h x (List.mem_cons_of_mem _ hx)]
theorem ref_nodup (l o : List Int) : (refP l 0 o).Nodup := (refP_rises l 0 o).imp fun h e => by omega
theorem keep_again (o : List Int) (ps : List PairV) : keepP (allF o.length) (keepR o ps) = keepR o ps := by
  have e : (keepR o ps).map (pairO (allF o.length)) = keepR o ps := by
    unfold keepR
    conv => rhs; rw [← List.map_id ((ps.map (pairR o)).filter some1)]
    refine List.map_congr_left fun q hq => ?_
    obtain ⟨p, _, rfl⟩ := List.mem_map.1 (List.mem_filter.1 hq).1
    show ((sortI (partO (allF o.length) (refP p.1 0 o)), sortI (partO (allF o.length) (refP p.2.1 0 o)), ()) : PairV) = (refP p.1 0 o, refP p.2.1 0 o, ())
    rw [part_all (refP_in _ _), part_all (refP_in _ _), sortI_eq (ref_nodup _ _) (refP_rises _ _ _) (fun _ => Iff.rfl), sortI_eq (ref_nodup _ _) (refP_rises _ _ _) (fun _ => Iff.rfl)]
  unfold keepP
  rw [e]
  unfold keepR
  rw [List.filter_filter]; simp
/-! ### it is right -/
theorem rise_of {n : Int} : ∀ {l : List Int} {a : Int}, (∀ x ∈ l, a < x ∧ x < n) → l.Pairwise (fun a b => a < b) → riseF n a l = true
  | [], _, _, _ => rfl
  | x :: l, a, h, hp => by
    obtain ⟨h1, h2⟩ := List.pairwise_cons.1 hp
    have hx := h x (List.mem_cons_self ..)
    show (!(decide (x ≤ a) || decide (x ≥ n)) && riseF n x l) = true
    rw [rise_of (fun y hy => ⟨h1 y hy, (h y (List.mem_cons_of_mem _ hy)).2⟩) h2, decide_eq_false (by omega), decide_eq_false (by omega)]; rfl
theorem ref_rise (l o : List Int) : riseF (zn o.length) (-1) (refP l 0 o) = true :=
  rise_of (fun x hx => by
    have := in_iff.1 (refP_in l o x hx)
    omega) (refP_rises l 0 o)
theorem keep_len (o : List Int) (ps : List PairV) : (keepR o ps).length ≤ ps.length := by
  unfold keepR
  exact Nat.le_trans (List.length_filter_le ..) (by simp)
theorem trim_ok2 {p i : Int} {nx : List (List Int)} {ps : List PairV} (h : drOk p i nx ps = true) {o : List Int} (ho : TrimOk nx i o) : drOk p 0 (rowsO nx o o.length) (keepR o ps) = true := by
  obtain ⟨ha, ⟨p0, p6⟩, ⟨n1, n2⟩, hi⟩ := aut_of h
  have hle := ho.le
  have hps : ps.length ≤ 4096 := (fit_of h).1.m
  have hkl := keep_len o ps
  have hz : zn (rowsO nx o o.length).length = zn o.length := by rw [rows_len]
  have hp0 := ho.pos
  unfold drOk
  rw [Bool.and_eq_true, Bool.and_eq_true, Bool.not_eq_true', Bool.not_eq_true', List.any_eq_false, List.any_eq_false]
  refine ⟨?_, fun r hr => ?_, fun q hq => ?_⟩
  · unfold headOk
    rw [hz]
    simp only [Bool.and_eq_true, decide_eq_true_eq]
    refine ⟨⟨p0, p6⟩, ⟨?_, ?_⟩, in_iff.2 ⟨Int.le_refl 0, ?_⟩, ?_⟩
    · show (1 : Int) ≤ ((o.length : Nat) : Int); omega
    · show ((o.length : Nat) : Int) ≤ 4096; omega
    · show (0 : Int) < ((o.length : Nat) : Int); omega
    · show (((keepR o ps).length : Nat) : Int) ≤ 4096; omega
  · unfold rowsO at hr
    rw [List.take_length] at hr
    obtain ⟨s, hs, rfl⟩ := List.mem_map.1 hr
    obtain ⟨s1, s2, s3⟩ := in_natT (ho.rng s hs)
    unfold badL
    rw [List.length_map, ha.len _ s2, Bool.or_eq_true, not_or]
    refine ⟨by simp [zn], ?_⟩
    rw [List.any_eq_true]
    rintro ⟨x, hx, hb⟩
    obtain ⟨q, hq, rfl⟩ := List.mem_map.1 hx
    have hm := ho.cl s hs q hq
    obtain ⟨j, j1, j2, _⟩ := idxO_pos q 0 o (fun h0 => (idxO_neg q 0 o).1 h0 hm)
    have hin : inF (zn (rowsO nx o o.length).length) (idxO q 0 o) = true := by
      rw [hz, j2, in_iff]; show 0 ≤ _ ∧ _ < ((o.length : Nat) : Int); omega
    unfold nin at hb
    rw [hin] at hb
    cases hb
  · unfold keepR at hq
    obtain ⟨q0, _, rfl⟩ := List.mem_map.1 (List.mem_filter.1 hq).1
    unfold badP
    rw [hz]
    show ¬ (!(riseF (zn o.length) (-1) (refP q0.1 0 o)) || !(riseF (zn o.length) (-1) (refP q0.2.1 0 o))) = true
    rw [ref_rise, ref_rise]; simp
end Go.S18
