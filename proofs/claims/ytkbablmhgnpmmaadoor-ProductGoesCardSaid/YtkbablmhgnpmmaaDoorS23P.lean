/-
  Seat 23: what holds of a product.
-/
import Derived.Test.YtkbablmhgnpmmaaDoorS23M
open Go Go.En
namespace Go.S23
abbrev mg (l : List MvV) (j : Nat) : MvV := l.getD j (0, 0, ())
abbrev cz (l : List ChV) (c : Nat) : ChV := l.getD c ({ data := #[] }, [], ())
def okV (S Q : List Int) (r : Int) (v w : MvV) : Prop := ∃ n : Nat, w.1 = (n : Int) ∧ n < S.length ∧ S.getD n 0 = v.1 ∧ Q.getD n 0 = r ∧ w.2.1 = v.2.1
def okM (S Q : List Int) (r : Int) (l l' : List MvV) : Prop := l'.length = l.length ∧ ∀ j, j < l.length → okV S Q r (mg l j) (mg l' j)
def okH (S Q : List Int) (r : Int) (l l' : List ChV) : Prop := l'.length = l.length ∧ ∀ c, c < l.length → (cz l' c).1 = (cz l c).1 ∧ okM S Q r (cz l c).2.1 (cz l' c).2.1
structure Gd (k : SQ) : Prop where
  len : k.1.length = k.2.length
  dist : ∀ i j, i < j → j < k.1.length → ¬ (k.1.getD i 0 = k.1.getD j 0 ∧ k.2.getD i 0 = k.2.getD j 0)
/-- one goes on in another -/
structure Le (L : Nat) (k t : SQ) : Prop where
  s : k.1 <+: t.1
  q : k.2 <+: t.2
  le : k.1.length ≤ L → t.1.length ≤ L
theorem Le.rfl {L : Nat} {k : SQ} : Le L k k := ⟨List.prefix_rfl, List.prefix_rfl, id⟩
theorem Le.trans {L : Nat} {k t u : SQ} (a : Le L k t) (b : Le L t u) : Le L k u := ⟨a.s.trans b.s, a.q.trans b.q, fun h => b.le (a.le h)⟩
theorem okV_up {L : Nat} {k t : SQ} (hk : Gd k) (h : Le L k t) {r : Int} {v w : MvV} (o : okV k.1 k.2 r v w) : okV t.1 t.2 r v w := by
  obtain ⟨n, h1, h2, h3, h4, h5⟩ := o
  have hl := hk.len
  obtain ⟨a, b⟩ := pre_get h.s h2
  obtain ⟨_, d⟩ := pre_get h.q (show n < k.2.length by omega)
  exact ⟨n, h1, a, by rw [b, h3], by rw [d, h4], h5⟩
theorem okM_up {L : Nat} {k t : SQ} (hk : Gd k) (h : Le L k t) {r : Int} {l l' : List MvV} (o : okM k.1 k.2 r l l') : okM t.1 t.2 r l l' := ⟨o.1, fun j hj => okV_up hk h (o.2 j hj)⟩
theorem okH_up {L : Nat} {k t : SQ} (hk : Gd k) (h : Le L k t) {r : Int} {l l' : List ChV} (o : okH k.1 k.2 r l l') : okH t.1 t.2 r l l' := ⟨o.1, fun j hj => ⟨(o.2 j hj).1, okM_up hk h (o.2 j hj).2⟩⟩
theorem getD_app {α : Type} (l : List α) (x d : α) : (l ++ [x]).getD l.length d = x := by simp [List.getD_eq_getElem?_getD]
theorem getD_app_lt {α : Type} {l : List α} {x d : α} {j : Nat} (h : j < l.length) : (l ++ [x]).getD j d = l.getD j d := by
  rw [List.getD_eq_getElem?_getD, List.getD_eq_getElem?_getD, List.getElem?_append_left h]
theorem numR_ok {L : Nat} {s q : Int} {k : SQ} (h : Gd k) {t : Int × SQ} (e : numR (L : Int) s q k = some t) :
    Gd t.2 ∧ Le L k t.2 ∧ (∃ n : Nat, t.1 = (n : Int) ∧ n < t.2.1.length ∧ t.2.1.getD n 0 = s ∧ t.2.2.getD n 0 = q) ∧ ∀ n : Nat, k.1.length ≤ n → n < t.2.1.length → t.1 = (n : Int) := by
  unfold numR at e
  have hl := h.len
  by_cases ha : atF s q 0 k.1 k.2 < 0
  · rw [decide_eq_true ha, cond_true] at e
    have hn := at_neg s q 0 k.1 k.2 ha
    by_cases hL : zn (k.1 ++ [s]).length > (L : Int)
    · rw [decide_eq_true hL] at e; cases e
    · rw [decide_eq_false hL, cond_false] at e
      obtain rfl := Option.some.inj e
      simp only [zn, List.length_append, List.length_singleton] at hL
      refine ⟨⟨by simp [h.len], fun i j hij hj => ?_⟩, ⟨List.prefix_append .., List.prefix_append .., fun _ => by simp; omega⟩, ⟨k.1.length, rfl, by simp, getD_app .., ?_⟩, fun n h1 h2 => ?_⟩
      · have hj : j < (k.1 ++ [s]).length := hj
        rw [List.length_append, List.length_singleton] at hj
        show ¬ ((k.1 ++ [s]).getD i 0 = (k.1 ++ [s]).getD j 0 ∧ (k.2 ++ [q]).getD i 0 = (k.2 ++ [q]).getD j 0)
        rw [getD_app_lt (show i < k.1.length by omega), getD_app_lt (show i < k.2.length by omega)]
        by_cases e : j = k.1.length
        · rw [e, getD_app, h.len, getD_app]; exact hn i (by omega) (by omega)
        · rw [getD_app_lt (show j < k.1.length by omega), getD_app_lt (show j < k.2.length by omega)]; exact h.dist i j hij (by omega)
      · show (k.2 ++ [q]).getD k.1.length 0 = q
        rw [h.len, getD_app]
      · have h2 : n < (k.1 ++ [s]).length := h2
        rw [List.length_append, List.length_singleton] at h2
        show zn k.1.length = (n : Int)
        simp only [zn]; omega
  · rw [decide_eq_false ha, cond_false] at e
    obtain rfl := Option.some.inj e
    obtain ⟨j, h1, h2, h3, h4, h5⟩ := at_pos s q 0 k.1 k.2 ha
    exact ⟨h, Le.rfl, ⟨j, by rw [h3, Nat.zero_add], h1, h4, h5⟩, fun n h1 h2 => absurd h2 (Nat.not_lt.2 h1)⟩
theorem mvR_ok {L : Nat} {r : Int} : ∀ (l : List MvV) {k : SQ} (acc : List MvV) {t : SQ × List MvV}, Gd k → mvR (L : Int) r k l acc = some t →
    Gd t.1 ∧ Le L k t.1 ∧ ∃ l', t.2 = acc ++ l' ∧ okM t.1.1 t.1.2 r l l' ∧ ∀ n : Nat, k.1.length ≤ n → n < t.1.1.length → ∃ j, j < l'.length ∧ (mg l' j).1 = (n : Int)
  | [], k, acc, t, h, e => by
    obtain rfl := Option.some.inj e
    exact ⟨h, Le.rfl, [], (List.append_nil _).symm, ⟨rfl, fun j hj => absurd hj (Nat.not_lt_zero _)⟩, fun n h1 h2 => absurd h2 (Nat.not_lt.2 h1)⟩
  | v :: l, k, acc, t, h, e => by
    have e : ((numR (L : Int) v.1 r k).elim none fun u => mvR (L : Int) r u.2 l (acc ++ [(u.1, v.2.1, ())])) = some t := e
    cases hn : numR (L : Int) v.1 r k with
    | none => rw [hn] at e; cases e
    | some u =>
      rw [hn] at e
      have e : mvR (L : Int) r u.2 l (acc ++ [(u.1, v.2.1, ())]) = some t := e
      obtain ⟨a1, a2, ⟨n, a3, a4, a5, a6⟩, a7⟩ := numR_ok h hn
      obtain ⟨b1, b2, l', b3, b4, b5⟩ := mvR_ok l _ a1 e
      refine ⟨b1, a2.trans b2, (u.1, v.2.1, ()) :: l', by rw [b3, List.append_assoc]; rfl, ⟨by rw [List.length_cons, List.length_cons, b4.1], fun j hj => ?_⟩, fun m h1 h2 => ?_⟩
      · cases j with
        | zero => exact okV_up a1 b2 ⟨n, a3, a4, a5, a6, rfl⟩
        | succ j => exact b4.2 j (Nat.lt_of_succ_lt_succ hj)
      · by_cases hm : u.2.1.length ≤ m
        · obtain ⟨j, c1, c2⟩ := b5 m hm h2
          exact ⟨j + 1, Nat.succ_lt_succ c1, c2⟩
        · exact ⟨0, Nat.zero_lt_succ _, a7 m h1 (by omega)⟩
theorem chR_ok {L : Nat} {r : Int} : ∀ (l : List ChV) {k : SQ} (acc : List ChV) {t : SQ × List ChV}, Gd k → chR (L : Int) r k l acc = some t →
    Gd t.1 ∧ Le L k t.1 ∧ ∃ l', t.2 = acc ++ l' ∧ okH t.1.1 t.1.2 r l l' ∧ ∀ n : Nat, k.1.length ≤ n → n < t.1.1.length → ∃ c j, c < l'.length ∧ j < (cz l' c).2.1.length ∧ (mg (cz l' c).2.1 j).1 = (n : Int)
  | [], k, acc, t, h, e => by
    obtain rfl := Option.some.inj e
    exact ⟨h, Le.rfl, [], (List.append_nil _).symm, ⟨rfl, fun j hj => absurd hj (Nat.not_lt_zero _)⟩, fun n h1 h2 => absurd h2 (Nat.not_lt.2 h1)⟩
  | v :: l, k, acc, t, h, e => by
    have e : ((mvR (L : Int) r k v.2.1 []).elim none fun u => chR (L : Int) r u.1 l (acc ++ [(v.1, u.2, ())])) = some t := e
    cases hn : mvR (L : Int) r k v.2.1 [] with
    | none => rw [hn] at e; cases e
    | some u =>
      rw [hn] at e
      have e : chR (L : Int) r u.1 l (acc ++ [(v.1, u.2, ())]) = some t := e
      obtain ⟨a1, a2, lm, a3, a4, a5⟩ := mvR_ok _ _ h hn
      rw [List.nil_append] at a3
      obtain ⟨b1, b2, l', b3, b4, b5⟩ := chR_ok l _ a1 e
      refine ⟨b1, a2.trans b2, (v.1, u.2, ()) :: l', by rw [b3, List.append_assoc]; rfl, ⟨by rw [List.length_cons, List.length_cons, b4.1], fun j hj => ?_⟩, fun m h1 h2 => ?_⟩
      · cases j with
        | zero => exact ⟨rfl, by show okM _ _ _ _ u.2; rw [a3]; exact okM_up a1 b2 a4⟩
        | succ j => exact b4.2 j (Nat.lt_of_succ_lt_succ hj)
      · by_cases hm : u.1.1.length ≤ m
        · obtain ⟨c, j, c1, c2, c3⟩ := b5 m hm h2
          exact ⟨c + 1, j, Nat.succ_lt_succ c1, c2, c3⟩
        · obtain ⟨j, c1, c2⟩ := a5 m h1 (by omega)
          exact ⟨0, j, Nat.zero_lt_succ _, by show j < u.2.length; rw [a3]; exact c1, by show (mg u.2 j).1 = _; rw [a3]; exact c2⟩
/-- a product so far -/
structure RunOk (le : List Int) (ch : List (List ChV)) (nx : List (List Int)) (k : SQ) (CH : List (List ChV)) : Prop where
  gd : Gd k
  chl : CH.length ≤ k.1.length
  row : ∀ y, y < CH.length → okH k.1 k.2 (rOf le nx k.1 k.2 y) (ch.getD (k.1.getD y 0).toNat []) (CH.getD y [])
  come : ∀ n : Nat, 0 < n → n < k.1.length → ∃ y c j, y < n ∧ y < CH.length ∧ c < (CH.getD y []).length ∧ j < (cz (CH.getD y []) c).2.1.length ∧ (mg (cz (CH.getD y []) c).2.1 j).1 = (n : Int)
theorem runR_ok {le : List Int} {ch : List (List ChV)} {nx : List (List Int)} {L : Nat} : ∀ (f : Nat) {k : SQ} {CH : List (List ChV)} {t : SQ × List (List ChV)}, RunOk le ch nx k CH → k.1.length ≤ L → L - CH.length < f → runR le ch nx (L : Int) f CH.length k CH = some t →
    RunOk le ch nx t.1 t.2 ∧ Le L k t.1 ∧ t.2.length = t.1.1.length
  | 0, _, _, _, _, _, hf, _ => absurd hf (Nat.not_lt_zero _)
  | f + 1, k, CH, t, h, hL, hf, e => by
    have e : (bif decide ((CH.length : Int) < zn k.1.length) then
      (chR (L : Int) (rOf le nx k.1 k.2 CH.length) k (ch.getD (k.1.getD CH.length 0).toNat []) []).elim none fun u => runR le ch nx (L : Int) f (CH.length + 1) u.1 (CH ++ [u.2])
      else some (k, CH)) = some t := e
    by_cases hx : CH.length < k.1.length
    · rw [lt_k hx, cond_true] at e
      cases hn : chR (L : Int) (rOf le nx k.1 k.2 CH.length) k (ch.getD (k.1.getD CH.length 0).toNat []) [] with
      | none => rw [hn] at e; cases e
      | some u =>
        rw [hn] at e
        have e : runR le ch nx (L : Int) f (CH.length + 1) u.1 (CH ++ [u.2]) = some t := e
        obtain ⟨a1, a2, l', a3, a4, a5⟩ := chR_ok _ _ h.gd hn
        rw [List.nil_append] at a3
        have hl2 : (CH ++ [u.2]).length = CH.length + 1 := by simp
        have hgl := h.gd.len
        have ro : ∀ y, y < k.1.length → rOf le nx u.1.1 u.1.2 y = rOf le nx k.1 k.2 y ∧ u.1.1.getD y 0 = k.1.getD y 0 := fun y hy => by
          have b1 := (pre_get a2.s hy).2
          have b2 := (pre_get a2.q (show y < k.2.length by omega)).2
          exact ⟨by unfold rOf; rw [b1, b2], b1⟩
        have hr : RunOk le ch nx u.1 (CH ++ [u.2]) := by
          refine ⟨a1, ?_, fun y hy => ?_, fun n h1 h2 => ?_⟩
          · have := (pre_get a2.s hx).1
            rw [hl2]; omega
          · rw [hl2] at hy
            obtain ⟨b1, b2⟩ := ro y (by omega)
            rw [b1, b2]
            by_cases ey : y = CH.length
            · rw [ey, getD_app, a3]; exact a4
            · rw [getD_app_lt (by omega)]
              exact okH_up h.gd a2 (h.row y (by omega))
          · by_cases hn2 : n < k.1.length
            · obtain ⟨y, c, j, c1, c2, c3, c4, c5⟩ := h.come n h1 hn2
              exact ⟨y, c, j, c1, by rw [hl2]; omega, by rw [getD_app_lt c2]; exact c3, by rw [getD_app_lt c2]; exact c4, by rw [getD_app_lt c2]; exact c5⟩
            · obtain ⟨c, j, c1, c2, c3⟩ := a5 n (by omega) h2
              exact ⟨CH.length, c, j, by omega, by rw [hl2]; omega, by rw [getD_app, a3]; exact c1, by rw [getD_app, a3]; exact c2, by rw [getD_app, a3]; exact c3⟩
        rw [← hl2] at e
        obtain ⟨d1, d2, d3⟩ := runR_ok f hr (a2.le hL) (by rw [hl2]; omega) e
        exact ⟨d1, a2.trans d2, d3⟩
    · rw [nlt_k hx, cond_false] at e
      obtain rfl := Option.some.inj e
      have := h.chl
      exact ⟨h, Le.rfl, by show CH.length = k.1.length; omega⟩
theorem rOf_in {i : Int} {ch : List (List ChV)} {le : List Int} {i2 : Int} {nx : List (List Int)} (hf : Facts i ch le i2 nx) {S Q : List Int} {x : Nat} (hs : 0 ≤ S.getD x 0 ∧ S.getD x 0 < (ch.length : Int)) (hq : 0 ≤ Q.getD x 0 ∧ Q.getD x 0 < (nx.length : Int)) :
    0 ≤ rOf le nx S Q x ∧ rOf le nx S Q x < (nx.length : Int) := by
  have h1 := get_mem (show (Q.getD x 0).toNat < nx.length by omega) []
  have h2 := get_mem (show (S.getD x 0).toNat < le.length by rw [hf.hle]; omega) 0
  have h3 := hf.hat _ h2 _ h1
  unfold rOf
  exact hf.hnx _ h1 _ (get_mem (show (le.getD (S.getD x 0).toNat 0).toNat < (nx.getD (Q.getD x 0).toNat []).length by omega) 0)
theorem runR_inv' {i : Int} {ch : List (List ChV)} {le : List Int} {i2 : Int} {nx : List (List Int)} (hf : Facts i ch le i2 nx) {L : Nat} : ∀ (f x : Nat) {k : SQ} {CH : List (List ChV)} {t : SQ × List (List ChV)}, InvR ch.length nx.length L k → runR le ch nx (L : Int) f x k CH = some t → InvR ch.length nx.length L t.1
  | 0, _, _, _, _, h, e => by obtain rfl := Option.some.inj e; exact h
  | f + 1, x, k, CH, t, h, e => by
    have e : (bif decide ((x : Int) < zn k.1.length) then
      (chR (L : Int) (rOf le nx k.1 k.2 x) k (ch.getD (k.1.getD x 0).toNat []) []).elim none fun u => runR le ch nx (L : Int) f (x + 1) u.1 (CH ++ [u.2])
      else some (k, CH)) = some t := e
    by_cases hx : x < k.1.length
    · rw [lt_k hx, cond_true] at e
      have h1 := h.s _ (get_mem hx 0)
      have h2 := h.q _ (get_mem (show x < k.2.length by rw [← h.len]; exact hx) 0)
      cases hn : chR (L : Int) (rOf le nx k.1 k.2 x) k (ch.getD (k.1.getD x 0).toNat []) [] with
      | none => rw [hn] at e; cases e
      | some u =>
        rw [hn] at e
        exact runR_inv' hf f (x + 1) (chR_inv (rOf_in hf h1 h2) _ [] h (hf.hmv _ (get_mem (show (k.1.getD x 0).toNat < ch.length by omega) [])) hn).1 e
    · rw [nlt_k hx, cond_false] at e
      obtain rfl := Option.some.inj e
      exact h
/-- what is made, where it is made -/
structure MadeOk (i : Int) (ch : List (List ChV)) (le : List Int) (i2 : Int) (nx : List (List Int)) (L : Nat) (v : MkV) : Prop where
  ok : RunOk le ch nx (v.2.1, v.2.2.1) v.1
  len : v.1.length = v.2.1.length
  le : v.2.1.length ≤ L
  s0 : [i] <+: v.2.1
  q0 : [i2] <+: v.2.2.1
  sr : ∀ x ∈ v.2.1, 0 ≤ x ∧ x < (ch.length : Int)
  qr : ∀ x ∈ v.2.2.1, 0 ≤ x ∧ x < (nx.length : Int)
theorem made_ok {i : Int} {ch : List (List ChV)} {nm : List ByteArray} {ho : List (List Int)} {le : List Int} {p i2 : Int} {nx : List (List Int)} {ps : List PairV} {L : Nat}
    (h : allOk i ch nm ho le p i2 nx ps = true) (hL : 1 ≤ L ∧ L ≤ 4096) :
    makeV i ch nm ho le p i2 nx ps (L : Int) = ([], [], [], .no 41) ∨ ((makeV i ch nm ho le p i2 nx ps (L : Int)).2.2.2 = .nil ∧ MadeOk i ch le i2 nx L (makeV i ch nm ho le p i2 nx ps (L : Int))) := by
  have hf := facts h
  have hlim : limOk (L : Int) = true := by unfold limOk; rw [decide_eq_true (by omega), decide_eq_true (by omega)]; rfl
  have e1 : makeV i ch nm ho le p i2 nx ps (L : Int) = endM (runM le ch nx (L : Int) 4097 0 (beginM i i2 (L : Int)) []) := by unfold makeV; rw [h, hlim]; rfl
  have e2 : refV i ch nm ho le p i2 nx ps (L : Int) = endR (runR le ch nx (L : Int) 4097 0 ([i], [i2]) []) := by unfold refV; rw [h, hlim]; rfl
  have hs := (make_same i ch nm ho le p i2 nx ps (L : Int)).2
  rw [e2] at hs
  have hpl := (make_same i ch nm ho le p i2 nx ps (L : Int)).1
  cases hn : runR le ch nx (L : Int) 4097 0 ([i], [i2]) [] with
  | none =>
    rw [hn] at hs
    refine Or.inl ?_
    have h4 : (41 : Int) = numOf (makeV i ch nm ho le p i2 nx ps (L : Int)).2.2.2 := congrArg (fun x : RkV => x.2.2.2) hs
    rw [e1] at h4 ⊢
    unfold endM at h4 ⊢
    cases hov : (runM le ch nx (L : Int) 4097 0 (beginM i i2 (L : Int)) []).1.2.2.1 with
    | true => rfl
    | false => rw [hov] at h4; cases h4
  | some t =>
    rw [hn] at hs
    refine Or.inr ?_
    have h4 : (0 : Int) = numOf (makeV i ch nm ho le p i2 nx ps (L : Int)).2.2.2 := congrArg (fun x : RkV => x.2.2.2) hs
    have hCH : t.2 = (makeV i ch nm ho le p i2 nx ps (L : Int)).1 := congrArg (fun x : RkV => x.1) hs
    have hS : t.1.1 = (makeV i ch nm ho le p i2 nx ps (L : Int)).2.1 := congrArg (fun x : RkV => x.2.1) hs
    have hQ : t.1.2 = (makeV i ch nm ho le p i2 nx ps (L : Int)).2.2.1 := congrArg (fun x : RkV => x.2.2.1) hs
    refine ⟨?_, ?_⟩
    · rw [e1] at h4 ⊢
      unfold endM at h4 ⊢
      cases hov : (runM le ch nx (L : Int) 4097 0 (beginM i i2 (L : Int)) []).1.2.2.1 with
      | true => rw [hov] at h4; cases h4
      | false => rfl
    · have r0 : RunOk le ch nx ([i], [i2]) [] := ⟨⟨rfl, fun a b h1 h2 => by have h2 : b < 1 := h2; omega⟩, Nat.zero_le _, fun y hy => absurd hy (Nat.not_lt_zero _), fun n h1 h2 => by have h2 : n < 1 := h2; omega⟩
      obtain ⟨a1, a2, a3⟩ := runR_ok 4097 r0 (by show 1 ≤ L; omega) (by show L - 0 < 4097; omega) hn
      have hv := runR_inv' hf 4097 0 (L := L) ⟨rfl, by show 1 ≤ L; omega, fun x hx => by rw [List.mem_singleton.1 hx]; exact hf.hi, fun x hx => by rw [List.mem_singleton.1 hx]; exact hf.hi2⟩ hn
      have a4 := a2.le (by show 1 ≤ L; omega)
      rw [hS] at a4
      exact ⟨by rw [← hCH, ← hS, ← hQ]; exact a1, by rw [← hCH, ← hS]; exact a3, a4, by rw [← hS]; exact a2.s, by rw [← hQ]; exact a2.q, by rw [← hS]; exact hv.s, by rw [← hQ]; exact hv.q⟩
/-! ### sizes -/
theorem farM_no {ch : List (List ChV)} {nm : List ByteArray} {ho : List (List Int)} (h : farM ch nm ho = false) : ch.length ≤ 40 ∧ ho.length ≤ 40 ∧ nm.length ≤ 12 ∧ (∀ l ∈ ch, l.length ≤ 10 ∧ ∀ c ∈ l, c.2.1.length ≤ 20) ∧ ∀ l ∈ ho, l.length ≤ 20 := by
  unfold farM farCh at h
  simp only [Bool.or_eq_false_iff, decide_eq_false_iff_not, zn, List.any_eq_false, decide_eq_true_eq, Bool.or_eq_true, not_or, Bool.not_eq_true] at h
  obtain ⟨⟨h1, h2, h3⟩, h4, h5⟩ := h
  refine ⟨by omega, by omega, by omega, fun l hl => ?_, fun l hl => by have := h5 l hl; omega⟩
  obtain ⟨a, b⟩ := h4 l hl
  refine ⟨by omega, fun c hc => ?_⟩
  have := b c hc
  omega
theorem ofMG_no {ch : List (List ChV)} {nm : List ByteArray} {ho : List (List Int)} (h : farM ch nm ho = false) : ofMG ch nm ho = true := by
  obtain ⟨h1, h2, h3, h4, h5⟩ := farM_no h
  unfold ofMG m6
  simp only [Bool.and_eq_true, List.all_eq_true]
  exact ⟨⟨ble_of (by omega), fun l hl => ⟨ble_of (by have := (h4 l hl).1; omega), fun c hc => ble_of (by have := (h4 l hl).2 c hc; omega)⟩⟩, ble_of (by omega), ble_of (by omega), fun l hl => ble_of (by have := h5 l hl; omega)⟩
theorem idx_of {α : Type} {l : List α} {x : α} (h : x ∈ l) (d : α) : ∃ k, k < l.length ∧ l.getD k d = x := by
  obtain ⟨k, hk, e⟩ := List.mem_iff_getElem.1 h
  exact ⟨k, hk, by rw [List.getD_eq_getElem?_getD, List.getElem?_eq_getElem hk]; exact e⟩
theorem made_rows {i : Int} {ch : List (List ChV)} {nm : List ByteArray} {ho : List (List Int)} {le : List Int} {i2 : Int} {nx : List (List Int)} {L : Nat} {v : MkV} (hm : MadeOk i ch le i2 nx L v) (h : farM ch nm ho = false) : ∀ l ∈ v.1, l.length ≤ 10 ∧ ∀ c ∈ l, c.2.1.length ≤ 20 := by
  obtain ⟨h1, h2, h3, h4, h5⟩ := farM_no h
  intro l hl
  obtain ⟨y, hy, e⟩ := idx_of hl []
  have hr := hm.ok.row y hy
  rw [e] at hr
  have hs := hm.sr _ (get_mem (show y < v.2.1.length by rw [← hm.len]; exact hy) 0)
  have hrow := h4 _ (get_mem (show (v.2.1.getD y 0).toNat < ch.length by omega) [])
  refine ⟨by rw [hr.1]; exact hrow.1, fun c hc => ?_⟩
  obtain ⟨k, hk, e2⟩ := idx_of hc ({ data := #[] }, [], ())
  have := (hr.2 k (by rw [← hr.1]; exact hk)).2.1
  have e2 : cz l k = c := e2
  rw [e2] at this
  rw [this]
  exact hrow.2 _ (get_mem (by rw [← hr.1]; exact hk) _)
theorem made_sizes {i : Int} {ch : List (List ChV)} {nm : List ByteArray} {ho : List (List Int)} {le : List Int} {p i2 : Int} {nx : List (List Int)} {ps : List PairV} (lim : Int) (h : farM ch nm ho = false) :
    chM6 (makeV i ch nm ho le p i2 nx ps lim).1 = true ∧ (makeV i ch nm ho le p i2 nx ps lim).1.length ≤ 4096 ∧ (makeV i ch nm ho le p i2 nx ps lim).2.1.length ≤ 4096 ∧ (makeV i ch nm ho le p i2 nx ps lim).2.2.1.length ≤ 4096 := by
  cases hc : allOk i ch nm ho le p i2 nx ps && limOk lim with
  | false =>
    have e : makeV i ch nm ho le p i2 nx ps lim = ([], [], [], .no 1) := by unfold makeV; rw [hc]; rfl
    rw [e]
    exact ⟨rfl, Nat.zero_le _, Nat.zero_le _, Nat.zero_le _⟩
  | true =>
    rw [Bool.and_eq_true] at hc
    have hl := hc.2
    unfold limOk at hl
    rw [Bool.and_eq_true, decide_eq_true_eq, decide_eq_true_eq] at hl
    obtain ⟨L, rfl⟩ := Int.eq_ofNat_of_zero_le (show 0 ≤ lim by omega)
    rcases made_ok (p := p) (ps := ps) (nm := nm) (ho := ho) (L := L) hc.1 (by omega) with e | ⟨_, hm⟩
    · rw [e]
      exact ⟨rfl, Nat.zero_le _, Nat.zero_le _, Nat.zero_le _⟩
    · have a := hm.le
      have b := hm.len
      have c := hm.ok.gd.len
      have c : (makeV i ch nm ho le p i2 nx ps (L : Int)).2.1.length = (makeV i ch nm ho le p i2 nx ps (L : Int)).2.2.1.length := c
      refine ⟨?_, by omega, by omega, by omega⟩
      unfold chM6 m6
      simp only [Bool.and_eq_true, List.all_eq_true]
      have hr := made_rows hm h
      exact ⟨ble_of (by omega), fun l hl => ⟨ble_of (by have := (hr l hl).1; omega), fun c hc => ble_of (by have := (hr l hl).2 c hc; omega)⟩⟩
theorem all2_refl {α : Type} {e : α → α → Bool} (h : ∀ x, e x x = true) : ∀ l : List α, all2 e l l = true
  | [] => rfl
  | x :: l => by show (e x x && all2 e l l) = true; rw [h, all2_refl h]; rfl
theorem eqC_refl (c : ChV) : eqC c c = true := by
  unfold eqC eqS
  rw [beq_self_eq_true, all2_refl (fun v : MvV => by show (v.1 == v.1 && (v.2.1 == v.2.1 && true)) = true; simp)]; rfl
theorem sameM_refl (i : Int) (ch : List (List ChV)) (nm : List ByteArray) (ho : List (List Int)) : sameM i ch nm ho i ch nm ho = true := by
  unfold sameM
  rw [all2_refl (fun x : ByteArray => by unfold eqS; simp), all2_refl (all2_refl fun x : Int => by unfold eqI; simp), all2_refl (all2_refl eqC_refl)]
  simp
theorem sameG_of {ch : List (List ChV)} (h : chM6 ch = true) : sameG ch [] (ch.map fun _ => []) = true := by
  unfold sameG
  rw [h]
  unfold chM6 at h
  rw [Bool.and_eq_true] at h
  rw [List.length_map, h.1]
  show (true && (true && (true && (ch.map fun _ => ([] : List Int)).all fun l => m6 l.length))) = true
  rw [List.all_map]
  simp [m6]
end Go.S23
