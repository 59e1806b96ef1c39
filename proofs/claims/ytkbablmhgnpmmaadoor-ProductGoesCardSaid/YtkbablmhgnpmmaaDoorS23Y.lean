/-
  Seat 23: what products come to: plain facts of runs, limits and sizes.
-/
import Derived.Test.YtkbablmhgnpmmaaDoorS23X
open Go Go.En
namespace Go.S23
/-! ### lists without twins -/
theorem nodup_sub {α : Type} [DecidableEq α] : ∀ (l m : List α), l.Nodup → (∀ x ∈ l, x ∈ m) → l.length ≤ m.length
  | [], _, _, _ => Nat.zero_le _
  | x :: l, m, hn, h => by
    have hx := h x (List.mem_cons_self ..)
    have hn2 := List.nodup_cons.1 hn
    have ih := nodup_sub l (m.erase x) hn2.2 (fun y hy => by
      refine (List.mem_erase_of_ne fun e => ?_).2 (h y (List.mem_cons_of_mem _ hy))
      rw [e] at hy; exact hn2.1 hy)
    rw [List.length_erase_of_mem hx] at ih
    have : 0 < m.length := List.length_pos_of_mem hx
    rw [List.length_cons]; omega
theorem nodup_same {α : Type} [DecidableEq α] {l m : List α} (hl : l.Nodup) (hm : m.Nodup) (h : ∀ x, x ∈ l ↔ x ∈ m) : l.length = m.length :=
  Nat.le_antisymm (nodup_sub l m hl fun x hx => (h x).1 hx) (nodup_sub m l hm fun x hx => (h x).2 hx)
theorem nodup_get {l : List Int} (h : ∀ i j, i < j → j < l.length → l.getD i 0 ≠ l.getD j 0) : l.Nodup := by
  rw [List.Nodup, List.pairwise_iff_getElem]
  intro i j hi hj hij e
  refine h i j hij hj ?_
  rw [List.getD_eq_getElem?_getD, List.getD_eq_getElem?_getD, List.getElem?_eq_getElem hi, List.getElem?_eq_getElem hj]
  exact e
/-! ### limits -/
theorem num_len {lim s q : Int} {k : SQ} {t : Int × SQ} (e : numR lim s q k = some t) : k.1.length ≤ t.2.1.length := by
  unfold numR at e
  cases ha : decide (atF s q 0 k.1 k.2 < 0) with
  | false => rw [ha] at e; obtain rfl := Option.some.inj e; exact Nat.le_refl _
  | true =>
    rw [ha, cond_true] at e
    cases hb : decide (zn (k.1 ++ [s]).length > lim) with
    | true => rw [hb] at e; cases e
    | false => rw [hb] at e; obtain rfl := Option.some.inj e; simp
theorem mv_len {lim r : Int} : ∀ (l : List MvV) {k : SQ} (acc : List MvV) {t : SQ × List MvV}, mvR lim r k l acc = some t → k.1.length ≤ t.1.1.length
  | [], k, acc, t, e => by obtain rfl := Option.some.inj e; exact Nat.le_refl _
  | v :: l, k, acc, t, e => by
    have e : ((numR lim v.1 r k).elim none fun u => mvR lim r u.2 l (acc ++ [(u.1, v.2.1, ())])) = some t := e
    cases hn : numR lim v.1 r k with
    | none => rw [hn] at e; cases e
    | some u => rw [hn] at e; exact Nat.le_trans (num_len hn) (mv_len l _ e)
theorem ch_len {lim r : Int} : ∀ (l : List ChV) {k : SQ} (acc : List ChV) {t : SQ × List ChV}, chR lim r k l acc = some t → k.1.length ≤ t.1.1.length
  | [], k, acc, t, e => by obtain rfl := Option.some.inj e; exact Nat.le_refl _
  | v :: l, k, acc, t, e => by
    have e : ((mvR lim r k v.2.1 []).elim none fun u => chR lim r u.1 l (acc ++ [(v.1, u.2, ())])) = some t := e
    cases hn : mvR lim r k v.2.1 [] with
    | none => rw [hn] at e; cases e
    | some u => rw [hn] at e; exact Nat.le_trans (mv_len _ _ hn) (ch_len l _ e)
theorem run_len {le : List Int} {ch : List (List ChV)} {nx : List (List Int)} {lim : Int} : ∀ (f x : Nat) {k : SQ} {CH : List (List ChV)} {t : SQ × List (List ChV)}, runR le ch nx lim f x k CH = some t → k.1.length ≤ t.1.1.length
  | 0, _, _, _, _, e => by obtain rfl := Option.some.inj e; exact Nat.le_refl _
  | f + 1, x, k, CH, t, e => by
    have e : (bif decide ((x : Int) < zn k.1.length) then
      (chR lim (rOf le nx k.1 k.2 x) k (ch.getD (k.1.getD x 0).toNat []) []).elim none fun u => runR le ch nx lim f (x + 1) u.1 (CH ++ [u.2])
      else some (k, CH)) = some t := e
    cases hx : decide ((x : Int) < zn k.1.length) with
    | false => rw [hx] at e; obtain rfl := Option.some.inj e; exact Nat.le_refl _
    | true =>
      rw [hx, cond_true] at e
      cases hn : chR lim (rOf le nx k.1 k.2 x) k (ch.getD (k.1.getD x 0).toNat []) [] with
      | none => rw [hn] at e; cases e
      | some u => rw [hn] at e; exact Nat.le_trans (ch_len _ _ hn) (run_len f (x + 1) e)
theorem num_lim {lim lim' s q : Int} {k : SQ} {t : Int × SQ} (e : numR lim s q k = some t) (h : zn t.2.1.length ≤ lim') : numR lim' s q k = some t := by
  unfold numR at e ⊢
  cases ha : decide (atF s q 0 k.1 k.2 < 0) with
  | false => rw [ha] at e; exact e
  | true =>
    rw [ha, cond_true] at e
    cases hb : decide (zn (k.1 ++ [s]).length > lim) with
    | true => rw [hb] at e; cases e
    | false =>
      rw [hb, cond_false] at e
      obtain rfl := Option.some.inj e
      have h : zn (k.1 ++ [s]).length ≤ lim' := h
      rw [cond_true, decide_eq_false (show ¬ zn (k.1 ++ [s]).length > lim' by omega)]; rfl
theorem mv_lim {lim lim' r : Int} : ∀ (l : List MvV) {k : SQ} (acc : List MvV) {t : SQ × List MvV}, mvR lim r k l acc = some t → zn t.1.1.length ≤ lim' → mvR lim' r k l acc = some t
  | [], k, acc, t, e, _ => e
  | v :: l, k, acc, t, e, h => by
    have e : ((numR lim v.1 r k).elim none fun u => mvR lim r u.2 l (acc ++ [(u.1, v.2.1, ())])) = some t := e
    show ((numR lim' v.1 r k).elim none fun u => mvR lim' r u.2 l (acc ++ [(u.1, v.2.1, ())])) = some t
    cases hn : numR lim v.1 r k with
    | none => rw [hn] at e; cases e
    | some u =>
      rw [hn] at e
      have e : mvR lim r u.2 l (acc ++ [(u.1, v.2.1, ())]) = some t := e
      have hl := mv_len l _ e
      rw [num_lim hn (by simp only [zn] at h ⊢; omega)]
      exact mv_lim l _ e h
theorem ch_lim {lim lim' r : Int} : ∀ (l : List ChV) {k : SQ} (acc : List ChV) {t : SQ × List ChV}, chR lim r k l acc = some t → zn t.1.1.length ≤ lim' → chR lim' r k l acc = some t
  | [], k, acc, t, e, _ => e
  | v :: l, k, acc, t, e, h => by
    have e : ((mvR lim r k v.2.1 []).elim none fun u => chR lim r u.1 l (acc ++ [(v.1, u.2, ())])) = some t := e
    show ((mvR lim' r k v.2.1 []).elim none fun u => chR lim' r u.1 l (acc ++ [(v.1, u.2, ())])) = some t
    cases hn : mvR lim r k v.2.1 [] with
    | none => rw [hn] at e; cases e
    | some u =>
      rw [hn] at e
      have e : chR lim r u.1 l (acc ++ [(v.1, u.2, ())]) = some t := e
      have hl := ch_len l _ e
      rw [mv_lim _ _ hn (by simp only [zn] at h ⊢; omega)]
      exact ch_lim l _ e h
theorem run_lim {le : List Int} {ch : List (List ChV)} {nx : List (List Int)} {lim lim' : Int} : ∀ (f x : Nat) {k : SQ} {CH : List (List ChV)} {t : SQ × List (List ChV)}, runR le ch nx lim f x k CH = some t → zn t.1.1.length ≤ lim' → runR le ch nx lim' f x k CH = some t
  | 0, _, _, _, _, e, _ => e
  | f + 1, x, k, CH, t, e, h => by
    have e : (bif decide ((x : Int) < zn k.1.length) then
      (chR lim (rOf le nx k.1 k.2 x) k (ch.getD (k.1.getD x 0).toNat []) []).elim none fun u => runR le ch nx lim f (x + 1) u.1 (CH ++ [u.2])
      else some (k, CH)) = some t := e
    show (bif decide ((x : Int) < zn k.1.length) then
      (chR lim' (rOf le nx k.1 k.2 x) k (ch.getD (k.1.getD x 0).toNat []) []).elim none fun u => runR le ch nx lim' f (x + 1) u.1 (CH ++ [u.2])
      else some (k, CH)) = some t
    cases hx : decide ((x : Int) < zn k.1.length) with
    | false => rw [hx] at e; exact e
    | true =>
      rw [hx, cond_true] at e
      rw [cond_true]
      cases hn : chR lim (rOf le nx k.1 k.2 x) k (ch.getD (k.1.getD x 0).toNat []) [] with
      | none => rw [hn] at e; cases e
      | some u =>
        rw [hn] at e
        have e : runR le ch nx lim f (x + 1) u.1 (CH ++ [u.2]) = some t := e
        have hl := run_len f (x + 1) e
        rw [ch_lim _ _ hn (by simp only [zn] at h ⊢; omega)]
        exact run_lim f (x + 1) e h
section
variable {i : Int} {ch : List (List ChV)} {nm : List ByteArray} {ho : List (List Int)} {le : List Int} {p i2 : Int} {nx : List (List Int)} {ps : List PairV}
theorem make_run {L : Nat} (h : allOk i ch nm ho le p i2 nx ps = true) (hL : 1 ≤ L ∧ L ≤ 4096) :
    (runR le ch nx (L : Int) 4097 0 ([i], [i2]) [] = none → (makeV i ch nm ho le p i2 nx ps (L : Int)).2.2.2 = .no 41) ∧ ∀ t, runR le ch nx (L : Int) 4097 0 ([i], [i2]) [] = some t → makeV i ch nm ho le p i2 nx ps (L : Int) = (t.2, t.1.1, t.1.2, .nil) := by
  have hlim : limOk (L : Int) = true := by unfold limOk; rw [decide_eq_true (by omega), decide_eq_true (by omega)]; rfl
  have e1 : makeV i ch nm ho le p i2 nx ps (L : Int) = endM (runM le ch nx (L : Int) 4097 0 (beginM i i2 (L : Int)) []) := by unfold makeV; rw [h, hlim]; rfl
  have e2 : refV i ch nm ho le p i2 nx ps (L : Int) = endR (runR le ch nx (L : Int) 4097 0 ([i], [i2]) []) := by unfold refV; rw [h, hlim]; rfl
  have hs := (make_same i ch nm ho le p i2 nx ps (L : Int)).2
  rw [e2] at hs
  constructor
  · intro hn
    rw [hn] at hs
    have h4 : (41 : Int) = numOf (makeV i ch nm ho le p i2 nx ps (L : Int)).2.2.2 := congrArg (fun x : RkV => x.2.2.2) hs
    rw [e1] at h4 ⊢
    unfold endM at h4 ⊢
    cases hov : (runM le ch nx (L : Int) 4097 0 (beginM i i2 (L : Int)) []).1.2.2.1 with
    | true => rfl
    | false => rw [hov] at h4; cases h4
  · intro t hn
    rw [hn] at hs
    have h4 : (0 : Int) = numOf (makeV i ch nm ho le p i2 nx ps (L : Int)).2.2.2 := congrArg (fun x : RkV => x.2.2.2) hs
    have h1 : t.2 = (makeV i ch nm ho le p i2 nx ps (L : Int)).1 := congrArg (fun x : RkV => x.1) hs
    have h2 : t.1.1 = (makeV i ch nm ho le p i2 nx ps (L : Int)).2.1 := congrArg (fun x : RkV => x.2.1) hs
    have h3 : t.1.2 = (makeV i ch nm ho le p i2 nx ps (L : Int)).2.2.1 := congrArg (fun x : RkV => x.2.2.1) hs
    have h5 : (makeV i ch nm ho le p i2 nx ps (L : Int)).2.2.2 = .nil := by
      rw [e1] at h4 ⊢
      unfold endM at h4 ⊢
      cases hov : (runM le ch nx (L : Int) 4097 0 (beginM i i2 (L : Int)) []).1.2.2.1 with
      | true => rw [hov] at h4; cases h4
      | false => rfl
    rw [h1, h2, h3, ← h5]
/-- where the product has n states, a limit of n is enough, of one less isn't -/
theorem make_limits (h : allOk i ch nm ho le p i2 nx ps = true) (hp : ch.length * nx.length ≤ 4096) {n : Nat} (hn : (makeV i ch nm ho le p i2 nx ps 4096).2.1.length = n) (h1 : 1 ≤ n ∧ n ≤ 4096) :
    (makeV i ch nm ho le p i2 nx ps (n : Int)).2.2.2 = .nil ∧ (n = 1 → (makeV i ch nm ho le p i2 nx ps ((n : Int) - 1)).2.2.2 = .no 1) ∧ (1 < n → (makeV i ch nm ho le p i2 nx ps ((n : Int) - 1)).2.2.2 = .no 41) := by
  have hf := facts h
  obtain ⟨t, ht⟩ := runR_some (L := 4096) hf hp 4097 0 (k := ([i], [i2])) [] ⟨rfl, (by show 1 ≤ 4096; omega), fun x hx => (by rw [List.mem_singleton.1 hx]; exact hf.hi), fun x hx => (by rw [List.mem_singleton.1 hx]; exact hf.hi2)⟩ ⟨rfl, fun a b h1 h2 => (by have h2 : b < 1 := h2; omega)⟩
  have hm := (make_run (nm := nm) (ho := ho) (p := p) (ps := ps) (L := 4096) h (by omega)).2 t ht
  have hm : makeV i ch nm ho le p i2 nx ps 4096 = (t.2, t.1.1, t.1.2, .nil) := hm
  have hl : t.1.1.length = n := by rw [← hn, hm]
  refine ⟨?_, fun e => ?_, fun hgt => ?_⟩
  · have := run_lim (lim' := (n : Int)) 4097 0 ht (by simp only [zn]; omega)
    rw [(make_run (nm := nm) (ho := ho) (p := p) (ps := ps) (L := n) h h1).2 t this]
  · subst e
    unfold makeV
    rw [show ((1 : Nat) : Int) - 1 = 0 by omega, h]; rfl
  · have e : (n : Int) - 1 = ((n - 1 : Nat) : Int) := by omega
    rw [e]
    refine (make_run (nm := nm) (ho := ho) (p := p) (ps := ps) (L := n - 1) h (by omega)).1 ?_
    cases hr : runR le ch nx ((n - 1 : Nat) : Int) 4097 0 ([i], [i2]) [] with
    | none => rfl
    | some t' =>
      exfalso
      have r0 : RunOk le ch nx ([i], [i2]) [] := ⟨⟨rfl, fun a b h1 h2 => (by have h2 : b < 1 := h2; omega)⟩, Nat.zero_le _, fun y hy => absurd hy (Nat.not_lt_zero _), fun n h1 h2 => (by have h2 : n < 1 := h2; omega)⟩
      obtain ⟨_, a2, _⟩ := runR_ok (L := n - 1) 4097 r0 (by show 1 ≤ n - 1; omega) (by show n - 1 - 0 < 4097; omega) hr
      have a4 := a2.le (by show 1 ≤ n - 1; omega)
      have := run_lim (lim' := (4096 : Int)) 4097 0 hr (by simp only [zn]; omega)
      have ht : runR le ch nx (4096 : Int) 4097 0 ([i], [i2]) [] = some t := ht
      rw [ht] at this
      obtain rfl := Option.some.inj this
      omega
/-! ### who is in a product -/
theorem made_rc {L : Nat} {v : MkV} (hm : MadeOk i ch le i2 nx L v) : ∀ x ∈ v.2.1, Rc i ch x.toNat := by
  have key : ∀ n : Nat, n < v.2.1.length → Rc i ch (v.2.1.getD n 0).toNat := by
    intro n
    induction n using Nat.strongRecOn with
    | ind n ih =>
      intro hn
      by_cases h0 : n = 0
      · rw [h0]
        obtain ⟨_, e⟩ := pre_get hm.s0 (x := 0) (by show 0 < 1; omega)
        rw [e]; exact .init
      · obtain ⟨y, c, j, h1, h2, h3, h4, h5⟩ := hm.ok.come n (by omega) hn
        have hr := hm.ok.row y h2
        have hc : c < (ch.getD (v.2.1.getD y 0).toNat []).length := by rw [← hr.1]; exact h3
        have hM := (hr.2 c hc).2
        have hj : j < (cz (ch.getD (v.2.1.getD y 0).toNat []) c).2.1.length := by rw [← hM.1]; exact h4
        obtain ⟨m, e1, e2, e3, e4, e5⟩ := hM.2 j hj
        have emn : m = n := by
          have : (mg (cz (v.1.getD y []) c).2.1 j).1 = (m : Int) := e1
          rw [h5] at this; omega
        subst emn
        have e3 : v.2.1.getD m 0 = (mg (cz (ch.getD (v.2.1.getD y 0).toNat []) c).2.1 j).1 := e3
        rw [e3]
        exact .step (ih y h1 (by have := hm.len; omega)) (get_mem hc _) (get_mem hj _)
  intro x hx
  obtain ⟨n, hn, e⟩ := idx_of hx 0
  rw [← e]; exact key n hn
theorem rc_made {L : Nat} {v : MkV} (hf : Facts i ch le i2 nx) (hm : MadeOk i ch le i2 nx L v) : ∀ {j : Nat}, Rc i ch j → (j : Int) ∈ v.2.1 := by
  intro j hj
  induction hj with
  | init =>
    have h1 := hf.hi
    have : i ∈ v.2.1 := hm.s0.subset (List.mem_singleton.2 rfl)
    rwa [Int.toNat_of_nonneg h1.1]
  | step hs hc hv ih =>
    rename_i s c w
    obtain ⟨y, hy, e⟩ := idx_of ih 0
    have hy2 : y < v.1.length := by rw [hm.len]; exact hy
    have hr := hm.ok.row y hy2
    have hr : okH v.2.1 v.2.2.1 (rOf le nx v.2.1 v.2.2.1 y) (ch.getD (v.2.1.getD y 0).toNat []) (v.1.getD y []) := hr
    rw [e, Int.toNat_natCast] at hr
    obtain ⟨k, hk, ek⟩ := idx_of hc ({ data := #[] }, [], ())
    have hM := (hr.2 k hk).2
    have ek : cz (ch.getD s []) k = c := ek
    rw [ek] at hM
    obtain ⟨l, hl, el⟩ := idx_of hv (0, 0, ())
    obtain ⟨m, e1, e2, e3, _⟩ := hM.2 l hl
    have el : mg c.2.1 l = w := el
    rw [el] at e3
    have hw : 0 ≤ w.1 := by
      have hsr := hm.sr _ ih
      exact (hf.hmv _ (get_mem (show s < ch.length by omega) []) c hc w hv).1
    rw [Int.toNat_of_nonneg hw, ← e3]
    exact get_mem e2 0
end
theorem flat_len (l : List Int) (N : Nat) : (l.flatMap fun s => (List.range N).map fun q : Nat => (s, (q : Int))).length = l.length * N := by
  induction l with
  | nil => simp
  | cons x l ih => rw [List.flatMap_cons, List.length_append, ih, List.length_map, List.length_range, List.length_cons, Nat.add_mul, Nat.one_mul, Nat.add_comm]
/-- no more pairs than states here and there -/
theorem pairs_le {k : SQ} {N : Nat} {l : List Int} (hg : Gd k) (hs : ∀ x ∈ k.1, x ∈ l) (hq : ∀ x ∈ k.2, 0 ≤ x ∧ x < (N : Int)) : k.1.length ≤ l.length * N := by
  have hl := hg.len
  rw [← flat_len l N]
  have h1 := nodup_sub ((List.range k.1.length).map fun a => (k.1.getD a 0, k.2.getD a 0)) (l.flatMap fun s => (List.range N).map fun q : Nat => (s, (q : Int))) ?_ ?_
  · simpa using h1
  · rw [List.Nodup, List.pairwise_map]
    refine List.pairwise_lt_range.imp_of_mem ?_
    intro a b ha hb hab e
    have hb := List.mem_range.1 hb
    injection e with e1 e2
    exact hg.dist a b hab hb ⟨e1, e2⟩
  · intro x hx
    obtain ⟨a, ha, rfl⟩ := List.mem_map.1 hx
    have ha := List.mem_range.1 ha
    have h2 := hq _ (get_mem (show a < k.2.length by omega) 0)
    refine List.mem_flatMap.2 ⟨_, hs _ (get_mem ha 0), List.mem_map.2 ⟨(k.2.getD a 0).toNat, List.mem_range.2 (by omega), ?_⟩⟩
    rw [Int.toNat_of_nonneg h2.1]
end Go.S23
