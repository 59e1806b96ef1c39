/-
  Seat 23: what Make comes to is what the document's Make comes to.
-/
import Derived.Test.YtkbablmhgnpmmaaDoorS23K
open Go Go.En
namespace Go.S23
/-! ### numbers of pairs -/
theorem keyP (a b s q : Int) : keyEq kySh (a, b, ()) (s, q, ()) = (a == s && b == q) := by
  show (a == s && (b == q && true)) = _
  rw [Bool.and_true]
theorem getK_put : ∀ (m : List KyV) (s q n a b : Int), getK (putP m s q n) a b = bif a == s && b == q then some n else getK m a b
  | [], s, q, n, a, b => by
    show (bif keyEq kySh (a, b, ()) (s, q, ()) then some n else none) = _
    rw [keyP]; rfl
  | e :: m, s, q, n, a, b => by
    obtain ⟨⟨x, y, ⟨⟩⟩, v⟩ := e
    have ih := getK_put m s q n a b
    have h1 : putP (((x, y, ()), v) :: m) s q n = bif keyEq kySh (s, q, ()) (x, y, ()) then ((s, q, ()), n) :: m else ((x, y, ()), v) :: putP m s q n := rfl
    have h2 : ∀ m', getK (((x, y, ()), v) :: m') a b = bif keyEq kySh (a, b, ()) (x, y, ()) then some v else getK m' a b := fun _ => rfl
    have h3 : getK (((s, q, ()), n) :: m) a b = bif keyEq kySh (a, b, ()) (s, q, ()) then some n else getK m a b := rfl
    rw [h1, h2]
    cases hc : keyEq kySh (s, q, ()) (x, y, ()) with
    | true =>
      rw [cond_true, h3, keyP, keyP]
      rw [keyP, Bool.and_eq_true, beq_iff_eq, beq_iff_eq] at hc
      obtain ⟨rfl, rfl⟩ := hc
      cases (a == s && b == q) <;> rfl
    | false =>
      rw [cond_false, h2, ih, keyP]
      cases h5 : (a == s && b == q) with
      | false => rfl
      | true =>
        rw [Bool.and_eq_true, beq_iff_eq, beq_iff_eq] at h5
        obtain ⟨rfl, rfl⟩ := h5
        rw [keyP] at hc
        rw [hc]; rfl
theorem at_pos (s q : Int) : ∀ (k : Nat) (S Q : List Int), ¬ atF s q k S Q < 0 → ∃ j, j < S.length ∧ j < Q.length ∧ atF s q k S Q = ((k + j : Nat) : Int) ∧ S.getD j 0 = s ∧ Q.getD j 0 = q
  | k, [], _, h => absurd (show (-1 : Int) < 0 by omega) h
  | k, _ :: _, [], h => absurd (show (-1 : Int) < 0 by omega) h
  | k, x :: S, y :: Q, h => by
    have e : atF s q k (x :: S) (y :: Q) = bif x == s && y == q then (k : Int) else atF s q (k + 1) S Q := rfl
    rw [e] at h ⊢
    cases hc : (x == s && y == q) with
    | true =>
      rw [Bool.and_eq_true, beq_iff_eq, beq_iff_eq] at hc
      exact ⟨0, Nat.zero_lt_succ _, Nat.zero_lt_succ _, rfl, hc.1, hc.2⟩
    | false =>
      rw [hc] at h
      obtain ⟨j, h1, h2, h3, h4, h5⟩ := at_pos s q (k + 1) S Q h
      refine ⟨j + 1, Nat.succ_lt_succ h1, Nat.succ_lt_succ h2, ?_, h4, h5⟩
      rw [cond_false, h3]; congr 1; omega
theorem at_neg (s q : Int) : ∀ (k : Nat) (S Q : List Int), atF s q k S Q < 0 → ∀ j, j < S.length → j < Q.length → ¬ (S.getD j 0 = s ∧ Q.getD j 0 = q)
  | k, x :: S, y :: Q, h, j, h1, h2, h3 => by
    have e : atF s q k (x :: S) (y :: Q) = bif x == s && y == q then (k : Int) else atF s q (k + 1) S Q := rfl
    rw [e] at h
    cases hc : (x == s && y == q) with
    | true => rw [hc, cond_true] at h; omega
    | false =>
      rw [hc] at h
      cases j with
      | zero =>
        obtain ⟨h3, h4⟩ := h3
        have h3 : x = s := h3
        have h4 : y = q := h4
        rw [h3, h4] at hc; simp at hc
      | succ j => exact at_neg s q (k + 1) S Q h j (Nat.lt_of_succ_lt_succ h1) (Nat.lt_of_succ_lt_succ h2) h3
theorem at_snoc (s q a b : Int) : ∀ (k : Nat) (S Q : List Int), S.length = Q.length → atF s q k (S ++ [a]) (Q ++ [b]) = bif decide (atF s q k S Q < 0) then (bif a == s && b == q then ((k + S.length : Nat) : Int) else -1) else atF s q k S Q
  | k, [], [], _ => by
    show (bif a == s && b == q then (k : Int) else -1) = _
    rfl
  | k, x :: S, y :: Q, h => by
    have e : ∀ S Q, atF s q k (x :: S) (y :: Q) = bif x == s && y == q then (k : Int) else atF s q (k + 1) S Q := fun _ _ => rfl
    rw [List.cons_append, List.cons_append, e, e, at_snoc s q a b (k + 1) S Q (by simpa using h)]
    cases hc : (x == s && y == q) with
    | true => rw [cond_true, cond_true, decide_eq_false (by omega)]; rfl
    | false => rw [cond_false, cond_false, List.length_cons, show k + 1 + S.length = k + (S.length + 1) by omega]
  | k, [], _ :: _, h => by simp at h
  | k, _ :: _, [], h => by simp at h
/-! ### the same -/
structure SameK (k : KM) (t : SQ) : Prop where
  s : k.1 = t.1
  q : k.2.1 = t.2
  ov : k.2.2.1 = false
  len : t.1.length = t.2.length
  at_ : ∀ a b, getK k.2.2.2 a b = bif decide (atF a b 0 t.1 t.2 < 0) then none else some (atF a b 0 t.1 t.2)
def SameA {α : Type} : Option (SQ × α) → KM × α → Prop
  | none, r => r.1.2.2.1 = true
  | some t, r => r.2 = t.2 ∧ SameK r.1 t.1
theorem num_over {lim s q : Int} {k : KM} (h : k.2.2.1 = true) : (numM lim s q k).2.2.2.1 = true := by
  unfold numM
  cases hasK s q k.2.2.2 <;> cases decide (zn k.1.length ≥ lim) <;> first | exact h | rfl
theorem mv_over {lim r : Int} : ∀ (l : List MvV) {k : KM} (acc : List MvV), k.2.2.1 = true → (mvM lim r k l acc).1.2.2.1 = true
  | [], _, _, h => h
  | v :: l, k, acc, h => mv_over l _ (num_over h)
theorem ch_over {lim r : Int} : ∀ (l : List ChV) {k : KM} (acc : List ChV), k.2.2.1 = true → (chM lim r k l acc).1.2.2.1 = true
  | [], _, _, h => h
  | v :: l, k, acc, h => ch_over l _ (mv_over _ _ h)
theorem run_over {le : List Int} {ch : List (List ChV)} {nx : List (List Int)} {lim : Int} (f x : Nat) {k : KM} (CH : List (List ChV)) (h : k.2.2.1 = true) : runM le ch nx lim f x k CH = (k, CH) := by
  cases f with
  | zero => rfl
  | succ f =>
    show (bif decide ((x : Int) < zn k.1.length) && !k.2.2.1 then _ else (k, CH)) = _
    rw [h, Bool.not_true, Bool.and_false, cond_false]
theorem num_same {lim s q : Int} {k : KM} {t : SQ} (h : SameK k t) : SameA ((numR lim s q t).map fun u => (u.2, u.1)) ((numM lim s q k).2, (numM lim s q k).1) := by
  have h0 := h.at_ s q
  unfold numM numR
  rw [hasK_eq, getN_eq, h0]
  cases ha : decide (atF s q 0 t.1 t.2 < 0) with
  | false => exact ⟨rfl, h⟩
  | true =>
    rw [h.s]
    have el : zn (t.1 ++ [s]).length = zn t.1.length + 1 := by simp [zn]
    by_cases hl : zn t.1.length ≥ lim
    · rw [cond_true, decide_eq_true (show zn (t.1 ++ [s]).length > lim by rw [el]; omega)]
      show (bif (false : Bool) then _ else bif decide (zn t.1.length ≥ lim) then _ else _ : Int × KM).2.2.2.1 = true
      rw [decide_eq_true hl]; rfl
    · rw [cond_true, decide_eq_false (show ¬ zn (t.1 ++ [s]).length > lim by rw [el]; omega)]
      show SameA (some ((t.1 ++ [s], t.2 ++ [q]), zn t.1.length)) ((bif (false : Bool) then _ else bif decide (zn t.1.length ≥ lim) then _ else _ : Int × KM).2, (bif (false : Bool) then _ else bif decide (zn t.1.length ≥ lim) then _ else _ : Int × KM).1)
      rw [decide_eq_false hl]
      refine ⟨rfl, rfl, by show k.2.1 ++ [q] = _; rw [h.q], h.ov, by simp [h.len], fun a b => ?_⟩
      show getK (putP k.2.2.2 s q (zn t.1.length)) a b = _
      rw [getK_put, at_snoc a b s q 0 t.1 t.2 h.len, h.at_ a b]
      cases hc : (a == s && b == q) with
      | true =>
        have hc' := hc
        rw [Bool.and_eq_true, beq_iff_eq, beq_iff_eq] at hc
        obtain ⟨rfl, rfl⟩ := hc
        rw [ha, Nat.zero_add, hc', cond_true, cond_true, cond_true, decide_eq_false (show ¬ ((t.1.length : Nat) : Int) < 0 by omega)]; rfl
      | false =>
        have hc2 : (s == a && q == b) = false := by rw [Bool.beq_comm (a := s), Bool.beq_comm (a := q)]; exact hc
        rw [hc2]
        cases h7 : decide (atF a b 0 t.1 t.2 < 0) with
        | true => rfl
        | false => rw [cond_false, cond_false, cond_false, h7]; rfl
theorem mv_same {lim r : Int} : ∀ (l : List MvV) {k : KM} {t : SQ} (acc : List MvV), SameK k t → SameA (mvR lim r t l acc) (mvM lim r k l acc)
  | [], k, t, acc, h => ⟨rfl, h⟩
  | v :: l, k, t, acc, h => by
    have h1 := num_same (lim := lim) (s := v.1) (q := r) h
    show SameA ((numR lim v.1 r t).elim none fun u => mvR lim r u.2 l (acc ++ [(u.1, v.2.1, ())])) (mvM lim r (numM lim v.1 r k).2 l (acc ++ [((numM lim v.1 r k).1, v.2.1, ())]))
    cases hn : numR lim v.1 r t with
    | none => rw [hn] at h1; exact mv_over l _ h1
    | some u =>
      rw [hn] at h1
      obtain ⟨h2, h3⟩ := h1
      have h2 : (numM lim v.1 r k).1 = u.1 := h2
      rw [h2]
      exact mv_same l _ h3
theorem ch_same {lim r : Int} : ∀ (l : List ChV) {k : KM} {t : SQ} (acc : List ChV), SameK k t → SameA (chR lim r t l acc) (chM lim r k l acc)
  | [], k, t, acc, h => ⟨rfl, h⟩
  | c :: l, k, t, acc, h => by
    have h1 := mv_same (lim := lim) (r := r) c.2.1 [] h
    show SameA ((mvR lim r t c.2.1 []).elim none fun u => chR lim r u.1 l (acc ++ [(c.1, u.2, ())])) (chM lim r (mvM lim r k c.2.1 []).1 l (acc ++ [(c.1, (mvM lim r k c.2.1 []).2, ())]))
    cases hn : mvR lim r t c.2.1 [] with
    | none => rw [hn] at h1; exact ch_over l _ h1
    | some u =>
      rw [hn] at h1
      obtain ⟨h2, h3⟩ := h1
      rw [h2]
      exact ch_same l _ h3
theorem run_same {le : List Int} {ch : List (List ChV)} {nx : List (List Int)} {lim : Int} : ∀ (f x : Nat) {k : KM} {t : SQ} (CH : List (List ChV)), SameK k t → SameA (runR le ch nx lim f x t CH) (runM le ch nx lim f x k CH)
  | 0, _, _, _, _, h => ⟨rfl, h⟩
  | f + 1, x, k, t, CH, h => by
    show SameA (bif decide ((x : Int) < zn t.1.length) then
      (chR lim (rOf le nx t.1 t.2 x) t (ch.getD (t.1.getD x 0).toNat []) []).elim none fun u => runR le ch nx lim f (x + 1) u.1 (CH ++ [u.2])
    else some (t, CH)) (bif decide ((x : Int) < zn k.1.length) && !k.2.2.1 then
      runM le ch nx lim f (x + 1) (chM lim (rOf le nx k.1 k.2.1 x) k (ch.getD (k.1.getD x 0).toNat []) []).1 (CH ++ [(chM lim (rOf le nx k.1 k.2.1 x) k (ch.getD (k.1.getD x 0).toNat []) []).2])
    else (k, CH))
    rw [h.ov, h.s, h.q, Bool.not_false, Bool.and_true]
    cases hx : decide ((x : Int) < zn t.1.length) with
    | false => exact ⟨rfl, h⟩
    | true =>
      rw [cond_true, cond_true]
      have h1 := ch_same (lim := lim) (r := rOf le nx t.1 t.2 x) (ch.getD (t.1.getD x 0).toNat []) [] h
      cases hn : chR lim (rOf le nx t.1 t.2 x) t (ch.getD (t.1.getD x 0).toNat []) [] with
      | none => rw [hn] at h1; exact (congrArg (fun r : KM × List (List ChV) => r.1.2.2.1) (run_over f (x + 1) _ h1)).trans h1
      | some u =>
        rw [hn] at h1
        obtain ⟨h2, h3⟩ := h1
        rw [h2]
        exact run_same f (x + 1) _ h3
theorem make_same (i : Int) (ch : List (List ChV)) (nm : List ByteArray) (ho : List (List Int)) (le : List Int) (p i2 : Int) (nx : List (List Int)) (ps : List PairV) (lim : Int) :
    plain (makeV i ch nm ho le p i2 nx ps lim).2.2.2 = true ∧ refV i ch nm ho le p i2 nx ps lim = ((makeV i ch nm ho le p i2 nx ps lim).1, (makeV i ch nm ho le p i2 nx ps lim).2.1, (makeV i ch nm ho le p i2 nx ps lim).2.2.1, numOf (makeV i ch nm ho le p i2 nx ps lim).2.2.2) := by
  unfold makeV refV
  cases hc : allOk i ch nm ho le p i2 nx ps && limOk lim with
  | false => exact ⟨rfl, rfl⟩
  | true =>
    rw [cond_true, cond_true]
    rw [Bool.and_eq_true] at hc
    have hl := hc.2
    unfold limOk at hl
    rw [Bool.and_eq_true, decide_eq_true_eq, decide_eq_true_eq] at hl
    have h0 : SameK (beginM i i2 lim) ([i], [i2]) := by
      unfold beginM numM
      show SameK (bif (false : Bool) then _ else bif decide (zn 0 ≥ lim) then _ else _ : Int × KM).2 _
      rw [decide_eq_false (show ¬ zn 0 ≥ lim by simp only [zn]; omega)]
      refine ⟨rfl, rfl, rfl, rfl, fun a b => ?_⟩
      show getK (putP [] i i2 0) a b = bif decide ((bif i == a && i2 == b then (0 : Int) else -1) < 0) then none else some (bif i == a && i2 == b then (0 : Int) else -1)
      rw [getK_put, Bool.beq_comm (a := i), Bool.beq_comm (a := i2)]
      cases (a == i && b == i2) <;> rfl
    have h1 := run_same (le := le) (ch := ch) (nx := nx) (lim := lim) 4097 0 [] h0
    unfold endM endR
    cases hn : runR le ch nx lim 4097 0 ([i], [i2]) [] with
    | none =>
      rw [hn] at h1
      have h1 : (runM le ch nx lim 4097 0 (beginM i i2 lim) []).1.2.2.1 = true := h1
      rw [h1]
      exact ⟨rfl, rfl⟩
    | some t =>
      rw [hn] at h1
      obtain ⟨h2, h3⟩ := h1
      rw [h3.ov, h2, h3.s, h3.q]
      exact ⟨rfl, rfl⟩
end Go.S23
