/-
  Seat 18: what Trim comes to: values.
-/
import Derived.Test.YtfkmnklnnccopaaDoorS18J
import Derived.Test.YtfkmnklnnccopaaDoorNS
open Go Go.En
namespace Go.S18

/-- the place of a state in an order, from k on; -1: it isn't there -/
def idxO (q : Int) : Nat → List Int → Int
  | _, [] => -1
  | k, x :: o => bif x == q then (k : Int) else idxO q (k + 1) o
/-- a row told anew: the order, the row -/
def rowT : List Int → List Int → List Int → List Int × List Int
  | [], o, l => (o, l)
  | q :: r, o, l => bif decide (idxO q 0 o < 0) then rowT r (o ++ [q]) (l ++ [(o.length : Int)]) else rowT r o (l ++ [idxO q 0 o])
def trimN (nx : List (List Int)) : Nat → Nat → List Int → List (List Int) → List Int × List (List Int)
  | 0, _, o, out => (o, out)
  | f + 1, i, o, out => bif Nat.blt i o.length then trimN nx f (i + 1) (rowT (nx.getD (o.getD i 0).toNat []) o []).1 (out ++ [(rowT (nx.getD (o.getD i 0).toNat []) o []).2]) else (o, out)
def partO (o : List Int) : List Int → List Int
  | [] => []
  | q :: l => bif decide (idxO q 0 o < 0) then partO o l else idxO q 0 o :: partO o l
def pairO (o : List Int) (q : PairV) : PairV := (sortI (partO o q.1), sortI (partO o q.2.1), ())
def some1 (q : PairV) : Bool := Nat.blt 0 q.2.1.length
/-- the places of an order that a list holds -/
def refP (l : List Int) : Nat → List Int → List Int
  | _, [] => []
  | k, x :: o => bif has l x then (k : Int) :: refP l (k + 1) o else refP l (k + 1) o
def pairR (o : List Int) (q : PairV) : PairV := (refP q.1 0 o, refP q.2.1 0 o, ())
/-! ### orders -/
theorem idxO_pos (q : Int) : ∀ (k : Nat) (o : List Int), ¬ idxO q k o < 0 → ∃ j, j < o.length ∧ idxO q k o = ((k + j : Nat) : Int) ∧ o.getD j 0 = q
  | k, [], h => absurd (show (-1 : Int) < 0 by omega) h
  | k, x :: o, h => by
    have e : idxO q k (x :: o) = bif x == q then (k : Int) else idxO q (k + 1) o := rfl
    rw [e] at h ⊢
    cases hc : (x == q) with
    | true => exact ⟨0, Nat.zero_lt_succ _, rfl, eq_of_beq hc⟩
    | false =>
      rw [hc] at h
      obtain ⟨j, h1, h2, h3⟩ := idxO_pos q (k + 1) o h
      exact ⟨j + 1, Nat.succ_lt_succ h1, by rw [cond_false, h2]; congr 1; omega, h3⟩
theorem idxO_neg (q : Int) : ∀ (k : Nat) (o : List Int), idxO q k o < 0 ↔ ¬ q ∈ o
  | k, [] => ⟨fun _ h => (by cases h), fun _ => by show (-1 : Int) < 0; omega⟩
  | k, x :: o => by
    have e : idxO q k (x :: o) = bif x == q then (k : Int) else idxO q (k + 1) o := rfl
    rw [e, List.mem_cons]
    cases hc : (x == q) with
    | true => rw [cond_true]; exact ⟨fun h => by omega, fun h => absurd (.inl (eq_of_beq hc).symm) h⟩
    | false =>
      rw [cond_false, idxO_neg q (k + 1) o]
      have : ¬ q = x := fun e => by rw [e] at hc; simp at hc
      exact ⟨fun h h2 => h2.elim this h, fun h h2 => h (.inr h2)⟩
theorem idxO_get {o : List Int} (hn : o.Nodup) {q : Int} {j : Nat} (hj : j < o.length) (h : o.getD j 0 = q) : idxO q 0 o = (j : Int) := by
  have hm : q ∈ o := by rw [← h]; exact get_mem hj 0
  obtain ⟨i, h1, h2, h3⟩ := idxO_pos q 0 o (fun h => (idxO_neg q 0 o).1 h hm)
  rw [h2, Nat.zero_add]
  have : i = j := by
    rw [List.getD_eq_getElem?_getD, List.getElem?_eq_getElem h1] at h3
    rw [List.getD_eq_getElem?_getD, List.getElem?_eq_getElem hj] at h
    have h3 : o[i] = q := h3
    have h : o[j] = q := h
    exact (List.getElem_inj hn).1 (h3.trans h.symm)
  rw [this]
theorem refP_mem (l : List Int) : ∀ (k : Nat) (o : List Int) (x : Int), x ∈ refP l k o ↔ ∃ j, j < o.length ∧ x = ((k + j : Nat) : Int) ∧ has l (o.getD j 0) = true
  | k, [], x => ⟨fun h => (by cases h), fun ⟨j, h, _⟩ => absurd h (Nat.not_lt_zero _)⟩
  | k, y :: o, x => by
    have e : refP l k (y :: o) = bif has l y then (k : Int) :: refP l (k + 1) o else refP l (k + 1) o := rfl
    have ih := refP_mem l (k + 1) o x
    rw [e]
    constructor
    · intro h
      cases hc : has l y with
      | true =>
        rw [hc, cond_true] at h
        rcases List.mem_cons.1 h with h | h
        · exact ⟨0, Nat.zero_lt_succ _, h, hc⟩
        · obtain ⟨j, a, b, c⟩ := ih.1 h
          exact ⟨j + 1, Nat.succ_lt_succ a, by rw [b]; congr 1; omega, c⟩
      | false =>
        rw [hc, cond_false] at h
        obtain ⟨j, a, b, c⟩ := ih.1 h
        exact ⟨j + 1, Nat.succ_lt_succ a, by rw [b]; congr 1; omega, c⟩
    · rintro ⟨j, a, b, c⟩
      cases j with
      | zero =>
        have c : has l y = true := c
        rw [c, cond_true, b]; exact List.mem_cons_self ..
      | succ j =>
        have : x ∈ refP l (k + 1) o := ih.2 ⟨j, Nat.lt_of_succ_lt_succ a, by rw [b]; congr 1; omega, c⟩
        cases has l y with
        | true => exact List.mem_cons_of_mem _ this
        | false => exact this
theorem refP_ge (l : List Int) : ∀ (k : Nat) (o : List Int), ∀ x ∈ refP l k o, (k : Int) ≤ x := fun k o x hx => by
  obtain ⟨j, _, h, _⟩ := (refP_mem l k o x).1 hx
  omega
theorem refP_rises (l : List Int) : ∀ (k : Nat) (o : List Int), (refP l k o).Pairwise (fun a b => a < b)
  | _, [] => .nil
  | k, y :: o => by
    show (bif has l y then (k : Int) :: refP l (k + 1) o else refP l (k + 1) o).Pairwise _
    have ih := refP_rises l (k + 1) o
    cases has l y with
    | true => exact List.pairwise_cons.2 ⟨fun x hx => by have := refP_ge l (k + 1) o x hx; omega, ih⟩
    | false => exact ih
theorem partO_mem (o : List Int) : ∀ (l : List Int) (x : Int), x ∈ partO o l ↔ ∃ q ∈ l, q ∈ o ∧ idxO q 0 o = x
  | [], x => ⟨fun h => (by cases h), fun ⟨q, h, _⟩ => (by cases h)⟩
  | q :: l, x => by
    have ih := partO_mem o l x
    have hq := idxO_neg q 0 o
    show x ∈ (bif decide (idxO q 0 o < 0) then partO o l else idxO q 0 o :: partO o l) ↔ _
    by_cases h0 : idxO q 0 o < 0
    · rw [decide_eq_true h0, cond_true, ih]
      constructor
      · rintro ⟨y, a, b⟩; exact ⟨y, List.mem_cons_of_mem _ a, b⟩
      · rintro ⟨y, a, b, c⟩
        rcases List.mem_cons.1 a with rfl | a
        · exact absurd b (hq.1 h0)
        · exact ⟨y, a, b, c⟩
    · rw [decide_eq_false h0, cond_false, List.mem_cons, ih]
      constructor
      · rintro (h | ⟨y, a, b⟩)
        · exact ⟨q, List.mem_cons_self .., Classical.byContradiction fun h => h0 (hq.2 h), h.symm⟩
        · exact ⟨y, List.mem_cons_of_mem _ a, b⟩
      · rintro ⟨y, a, b, c⟩
        rcases List.mem_cons.1 a with rfl | a
        · exact .inl c.symm
        · exact .inr ⟨y, a, b, c⟩
theorem partO_nodup {o : List Int} : ∀ {l : List Int}, l.Nodup → (partO o l).Nodup
  | [], _ => .nil
  | q :: l, h => by
    obtain ⟨h1, h2⟩ := List.nodup_cons.1 h
    have ih := partO_nodup (o := o) h2
    show (bif decide (idxO q 0 o < 0) then partO o l else idxO q 0 o :: partO o l).Nodup
    by_cases h0 : idxO q 0 o < 0
    · rw [decide_eq_true h0]; exact ih
    · rw [decide_eq_false h0, cond_false]
      refine List.nodup_cons.2 ⟨fun hm => ?_, ih⟩
      obtain ⟨y, a, b, c⟩ := (partO_mem o l _).1 hm
      obtain ⟨i, i1, i2, i3⟩ := idxO_pos q 0 o h0
      obtain ⟨j, j1, j2, j3⟩ := idxO_pos y 0 o (fun h => (idxO_neg y 0 o).1 h b)
      rw [i2, j2] at c
      have e : i = j := by omega
      subst e
      rw [i3] at j3
      rw [← j3] at a
      exact h1 a
theorem has_mem {l : List Int} {x : Int} : has l x = true ↔ x ∈ l := by
  unfold has
  rw [List.any_eq_true]
  constructor
  · rintro ⟨y, h1, h2⟩; rw [eq_of_beq h2]; exact h1
  · intro h; exact ⟨x, h, by simp⟩
/-- a set's states told anew: the same by both ways -/
theorem part_ref {o l : List Int} (ho : o.Nodup) (hl : l.Nodup) : sortI (partO o l) = refP l 0 o := by
  refine sortI_eq (partO_nodup hl) (refP_rises l 0 o) fun x => ?_
  rw [partO_mem, refP_mem]
  constructor
  · rintro ⟨q, a, b, c⟩
    obtain ⟨j, j1, j2, j3⟩ := idxO_pos q 0 o (fun h => (idxO_neg q 0 o).1 h b)
    exact ⟨j, j1, by rw [← c, j2], by rw [j3]; exact has_mem.2 a⟩
  · rintro ⟨j, a, b, c⟩
    refine ⟨o.getD j 0, has_mem.1 c, get_mem a 0, ?_⟩
    rw [idxO_get ho a rfl, b, Nat.zero_add]
theorem rise_nodup {n : Int} : ∀ {l : List Int} {a : Int}, riseF n a l = true → (∀ x ∈ l, a < x ∧ x < n) ∧ l.Nodup
  | [], _, _ => ⟨fun _ h => (by cases h), .nil⟩
  | x :: l, a, h => by
    have h : (!(decide (x ≤ a) || decide (x ≥ n)) && riseF n x l) = true := h
    simp only [Bool.and_eq_true, Bool.not_eq_true', Bool.or_eq_false_iff, decide_eq_false_iff_not] at h
    obtain ⟨h1, h2⟩ := rise_nodup h.2
    refine ⟨fun y hy => ?_, List.nodup_cons.2 ⟨fun hm => by have := (h1 x hm).1; omega, h2⟩⟩
    rcases List.mem_cons.1 hy with rfl | hy
    · omega
    · have := h1 y hy; omega
end Go.S18
