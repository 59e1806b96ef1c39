/-
  Seat 11: plain facts of letters.
-/
import Derived.Test.YtoghhokbakphlaaDoorS11F
open Go Go.En
namespace Go.S11
/-! ### bits -/
theorem ofInt_nat {x : Nat} (h : x < 18446744073709551616) : (BitVec.ofInt 64 (x : Int)).toNat = x := by
  rw [BitVec.toNat_ofInt]
  have : ((x : Int) % ((2 ^ 64 : Nat) : Int)) = (x : Int) := Int.emod_eq_of_lt (by omega) (by show (x : Int) < 18446744073709551616; omega)
  rw [this]; rfl
theorem or_nat {A C : Nat} (hA : A < 4611686018427387904) (hC : C < 4611686018427387904) : bitsF .or .i64 (A : Int) (C : Int) = ((A ||| C : Nat) : Int) := by
  unfold bitsF
  simp only
  show IntKind.i64.wrap ((BitVec.ofInt 64 (A : Int) ||| BitVec.ofInt 64 (C : Int)).toNat : Int) = _
  rw [BitVec.toNat_or, ofInt_nat (by omega), ofInt_nat (by omega)]
  have h3 : (2 : Nat) ^ 62 = 4611686018427387904 := by decide
  have hlt : A ||| C < 2 ^ 62 := Nat.or_lt_two_pow (by omega) (by omega)
  exact i64_wrap_in (by omega) (by omega)
/-- the bit of a place -/
def valA : Nat → List Int → Int → Nat
  | _, [], _ => 0
  | k, a :: A, i => bif a == i then 2 ^ k else valA (k + 1) A i
theorem valA_lt : ∀ {k : Nat} {A : List Int} {i : Int} {K : Nat}, k + A.length ≤ K → valA k A i < 2 ^ K
  | k, [], i, K, _ => Nat.two_pow_pos K
  | k, a :: A, i, K, h => by
    rw [List.length_cons] at h
    show (bif a == i then 2 ^ k else valA (k + 1) A i) < 2 ^ K
    cases (a == i) with
    | true => exact Nat.pow_lt_pow_right (by omega) (by omega)
    | false => exact valA_lt (by omega)
theorem valA_bit : ∀ {k : Nat} {A : List Int}, A.Nodup → ∀ (i : Int) (t : Nat), (valA k A i).testBit t = true ↔ k ≤ t ∧ A[t - k]? = some i
  | k, [], _, i, t => by
    show (0 : Nat).testBit t = true ↔ _
    simp
  | k, a :: A, hn, i, t => by
    obtain ⟨h1, h2⟩ := List.nodup_cons.1 hn
    have ih := valA_bit (k := k + 1) h2 i t
    show (bif a == i then 2 ^ k else valA (k + 1) A i).testBit t = true ↔ _
    by_cases e : a = i
    · subst e
      rw [show (a == a) = true by simp, cond_true, Nat.testBit_two_pow, decide_eq_true_eq]
      constructor
      · rintro rfl; exact ⟨Nat.le_refl _, by rw [Nat.sub_self]; rfl⟩
      · rintro ⟨h3, h4⟩
        rcases Nat.lt_or_ge k t with h5 | h5
        · rw [show t - k = (t - k - 1) + 1 by omega, List.getElem?_cons_succ] at h4
          exact absurd (List.mem_of_getElem? h4) h1
        · omega
    · rw [show (a == i) = false by simpa using e, cond_false, ih]
      constructor
      · rintro ⟨h3, h4⟩
        refine ⟨by omega, ?_⟩
        rw [show t - k = (t - (k + 1)) + 1 by omega, List.getElem?_cons_succ]; exact h4
      · rintro ⟨h3, h4⟩
        rcases Nat.lt_or_ge k t with h5 | h5
        · rw [show t - k = (t - (k + 1)) + 1 by omega, List.getElem?_cons_succ] at h4
          exact ⟨h5, h4⟩
        · rw [show t - k = 0 by omega, List.getElem?_cons_zero, Option.some.injEq] at h4
          exact absurd h4 e
theorem letS_mul : ∀ (k : Nat) (A h : List Int), ∃ q, letS k A h = 2 ^ k * q
  | k, [], h => ⟨0, rfl⟩
  | k, a :: A, h => by
    obtain ⟨q, e⟩ := letS_mul (k + 1) A h
    refine ⟨(bif has h a then 1 else 0) + 2 * q, ?_⟩
    show (bif has h a then 2 ^ k else 0) + letS (k + 1) A h = _
    rw [e, Nat.pow_succ]
    cases has h a <;> simp [Nat.mul_add, Nat.mul_assoc]
theorem letS_bit : ∀ (k : Nat) (A h : List Int) (t : Nat), (letS k A h).testBit t = true ↔ k ≤ t ∧ ∃ a, A[t - k]? = some a ∧ has h a = true
  | k, [], h, t => by
    show (0 : Nat).testBit t = true ↔ _
    simp
  | k, a :: A, h, t => by
    have ih := letS_bit (k + 1) A h t
    obtain ⟨q, e⟩ := letS_mul (k + 1) A h
    have key : (letS k (a :: A) h).testBit t = true ↔ (has h a = true ∧ t = k) ∨ (letS (k + 1) A h).testBit t = true := by
      show ((bif has h a then 2 ^ k else 0) + letS (k + 1) A h).testBit t = true ↔ _
      cases hc : has h a with
      | true =>
        rw [cond_true, e, Nat.add_comm, Nat.two_pow_add_eq_or_of_lt (Nat.pow_lt_pow_right (by omega) (by omega)), Nat.testBit_or, Bool.or_eq_true, Nat.testBit_two_pow, decide_eq_true_eq]
        exact ⟨fun h => h.elim .inr (fun h => .inl ⟨rfl, h.symm⟩), fun h => h.elim (fun h => .inr h.2.symm) .inl⟩
      | false =>
        rw [cond_false, Nat.zero_add]
        exact ⟨.inr, fun h => h.elim (fun h => by cases h.1) id⟩
    rw [key, ih]
    constructor
    · rintro (⟨h1, rfl⟩ | ⟨h1, b, h2, h3⟩)
      · exact ⟨Nat.le_refl _, a, by rw [Nat.sub_self]; rfl, h1⟩
      · exact ⟨by omega, b, by rw [show t - k = (t - (k + 1)) + 1 by omega, List.getElem?_cons_succ]; exact h2, h3⟩
    · rintro ⟨h1, b, h2, h3⟩
      rcases Nat.lt_or_ge k t with h5 | h5
      · rw [show t - k = (t - (k + 1)) + 1 by omega, List.getElem?_cons_succ] at h2
        exact .inr ⟨h5, b, h2, h3⟩
      · rw [show t - k = 0 by omega, List.getElem?_cons_zero, Option.some.injEq] at h2
        subst h2
        exact .inl ⟨h3, by omega⟩
theorem foldl_bit (A : List Int) (t : Nat) : ∀ (h : List Int) (x : Nat), (h.foldl (fun x i => x ||| valA 0 A i) x).testBit t = (x.testBit t || h.any fun i => (valA 0 A i).testBit t)
  | [], x => by simp
  | i :: h, x => by
    rw [List.foldl_cons, foldl_bit A t h, Nat.testBit_or, List.any_cons, Bool.or_assoc]
/-- bits put together are the letter -/
theorem or_letS {A : List Int} (hn : A.Nodup) (h : List Int) : h.foldl (fun x i => x ||| valA 0 A i) 0 = letS 0 A h := by
  refine Nat.eq_of_testBit_eq fun t => ?_
  rw [foldl_bit, Nat.zero_testBit, Bool.false_or, Bool.eq_iff_iff, letS_bit, List.any_eq_true]
  constructor
  · rintro ⟨i, h1, h2⟩
    obtain ⟨_, h4⟩ := (valA_bit hn i t).1 h2
    exact ⟨Nat.zero_le _, i, h4, List.any_eq_true.2 ⟨i, h1, by simp⟩⟩
  · rintro ⟨_, a, h2, h3⟩
    obtain ⟨y, h4, h5⟩ := List.any_eq_true.1 h3
    rw [← eq_of_beq h5] at h4
    exact ⟨a, h4, (valA_bit hn a t).2 ⟨Nat.zero_le _, h2⟩⟩
/-! ### places -/
theorem idxG_pos {α : Type} {p : α → Bool} : ∀ {l : List α} {k : Nat}, ¬ idxG p k l < 0 → ∃ j, ∃ h : j < l.length, idxG p k l = ((k + j : Nat) : Int) ∧ p l[j] = true
  | [], _, h => absurd (show (-1 : Int) < 0 by omega) h
  | x :: l, k, h => by
    have e : idxG p k (x :: l) = bif p x then (k : Int) else idxG p (k + 1) l := rfl
    rw [e] at h ⊢
    cases hc : p x with
    | true => exact ⟨0, Nat.zero_lt_succ _, rfl, hc⟩
    | false =>
      rw [hc] at h
      obtain ⟨j, h1, h2, h3⟩ := idxG_pos h
      exact ⟨j + 1, Nat.succ_lt_succ h1, by rw [cond_false, h2]; congr 1; omega, h3⟩
theorem idxG_neg {α : Type} {p : α → Bool} : ∀ {l : List α} {k : Nat}, idxG p k l < 0 → ∀ x ∈ l, p x = false
  | [], _, _, _, h => by cases h
  | x :: l, k, h, y, hy => by
    have e : idxG p k (x :: l) = bif p x then (k : Int) else idxG p (k + 1) l := rfl
    rw [e] at h
    cases hc : p x with
    | true => rw [hc, cond_true] at h; omega
    | false =>
      rw [hc, cond_false] at h
      rcases List.mem_cons.1 hy with rfl | hy
      · exact hc
      · exact idxG_neg h y hy
theorem places_in {nm : List ByteArray} : ∀ {lb : List ByteArray} {A : List Int}, placesL nm lb = some A → A.length = lb.length ∧ ∀ a ∈ A, 0 ≤ a ∧ a < (nm.length : Int)
  | [], A, h => by cases h; exact ⟨rfl, fun _ h => by cases h⟩
  | s :: l, A, h => by
    have h : (bif decide (idxS s nm < 0) then none else (placesL nm l).map fun A => idxS s nm :: A) = some A := h
    by_cases h0 : idxS s nm < 0
    · rw [decide_eq_true h0] at h; cases h
    · rw [decide_eq_false h0, cond_false, Option.map_eq_some_iff] at h
      obtain ⟨B, hB, rfl⟩ := h
      obtain ⟨h1, h2⟩ := places_in hB
      obtain ⟨j, j1, j2, _⟩ := idxG_pos h0
      refine ⟨by rw [List.length_cons, List.length_cons, h1], fun a ha => ?_⟩
      rcases List.mem_cons.1 ha with rfl | ha
      · show 0 ≤ idxG _ 0 nm ∧ idxG _ 0 nm < _
        rw [j2]; omega
      · exact h2 a ha
theorem fresh_ne : ∀ {l seen : List ByteArray}, freshD seen l = true → (∀ x ∈ l, ∀ y ∈ seen, x.toList ≠ y.toList) ∧ l.Pairwise fun a b => a.toList ≠ b.toList
  | [], _, _ => ⟨fun _ h => (by cases h), .nil⟩
  | x :: l, seen, h => by
    have h : (!(seen.any fun y => x.toList == y.toList) && freshD (seen ++ [x]) l) = true := h
    rw [Bool.and_eq_true, Bool.not_eq_true', List.any_eq_false] at h
    obtain ⟨h1, h2⟩ := fresh_ne h.2
    refine ⟨fun z hz y hy => ?_, List.pairwise_cons.2 ⟨fun z hz e => h1 z hz x (by simp) e.symm, h2⟩⟩
    rcases List.mem_cons.1 hz with rfl | hz
    · have := h.1 y hy
      simpa using this
    · exact h1 z hz y (List.mem_append_left _ hy)
/-- different texts stand at different places -/
theorem places_nodup {nm : List ByteArray} : ∀ {lb : List ByteArray} {A : List Int}, (lb.Pairwise fun a b => a.toList ≠ b.toList) → placesL nm lb = some A → A.Nodup ∧ ∀ a ∈ A, ∃ s ∈ lb, idxS s nm = a
  | [], A, _, h => by cases h; exact ⟨.nil, fun _ h => by cases h⟩
  | s :: l, A, hp, h => by
    obtain ⟨p1, p2⟩ := List.pairwise_cons.1 hp
    have h : (bif decide (idxS s nm < 0) then none else (placesL nm l).map fun A => idxS s nm :: A) = some A := h
    by_cases h0 : idxS s nm < 0
    · rw [decide_eq_true h0] at h; cases h
    · rw [decide_eq_false h0, cond_false, Option.map_eq_some_iff] at h
      obtain ⟨B, hB, rfl⟩ := h
      obtain ⟨h1, h2⟩ := places_nodup p2 hB
      refine ⟨List.nodup_cons.2 ⟨fun hm => ?_, h1⟩, fun a ha => ?_⟩
      · obtain ⟨u, u1, u2⟩ := h2 _ hm
        have h0' : ¬ idxS u nm < 0 := by rw [u2]; exact h0
        obtain ⟨j, j1, j2, j3⟩ := idxG_pos h0
        obtain ⟨j', k1, k2, k3⟩ := idxG_pos h0'
        have e : j = j' := by
          have : idxG (fun x => u.toList == x.toList) 0 nm = idxG (fun x => s.toList == x.toList) 0 nm := u2
          rw [j2, k2] at this; omega
        subst e
        exact p1 u u1 ((eq_of_beq j3).trans (eq_of_beq k3).symm)
      · rcases List.mem_cons.1 ha with rfl | ha
        · exact ⟨s, List.mem_cons_self .., rfl⟩
        · obtain ⟨u, u1, u2⟩ := h2 a ha
          exact ⟨u, List.mem_cons_of_mem _ u1, u2⟩
def setAll : Nat → List Int → List Int → List Int
  | _, [], bit => bit
  | k, a :: A, bit => setAll (k + 1) A (bit.set a.toNat ((2 ^ k : Nat) : Int))
theorem bits_places (nm : List ByteArray) : ∀ (lb : List ByteArray) (k : Nat) (bit : List Int), bitsL nm k lb bit = (placesL nm lb).map fun A => setAll k A bit
  | [], _, _ => rfl
  | s :: l, k, bit => by
    show (bif decide (idxS s nm < 0) then none else bitsL nm (k + 1) l (bit.set (idxS s nm).toNat ((2 ^ k : Nat) : Int))) = Option.map _ (bif decide (idxS s nm < 0) then none else (placesL nm l).map fun A => idxS s nm :: A)
    cases decide (idxS s nm < 0) with
    | true => rfl
    | false =>
      rw [cond_false, cond_false, bits_places nm l, Option.map_map]; rfl
theorem setAll_len : ∀ (A : List Int) (k : Nat) (bit : List Int), (setAll k A bit).length = bit.length
  | [], _, _ => rfl
  | a :: A, k, bit => by
    show (setAll (k + 1) A (bit.set a.toNat _)).length = _
    rw [setAll_len A, List.length_set]
theorem setAll_get : ∀ (A : List Int) (k : Nat) (bit : List Int), A.Nodup → (∀ a ∈ A, 0 ≤ a ∧ a < (bit.length : Int)) → ∀ i : Int, 0 ≤ i →
    (setAll k A bit).getD i.toNat 0 = if i ∈ A then ((valA k A i : Nat) : Int) else bit.getD i.toNat 0
  | [], k, bit, _, _, i, _ => by simp [setAll]
  | a :: A, k, bit, hn, hr, i, hi => by
    obtain ⟨h1, h2⟩ := List.nodup_cons.1 hn
    obtain ⟨a0, a1⟩ := hr a (List.mem_cons_self ..)
    have ih := setAll_get A (k + 1) (bit.set a.toNat ((2 ^ k : Nat) : Int)) h2 (fun b hb => by rw [List.length_set]; exact hr b (List.mem_cons_of_mem _ hb)) i hi
    show (setAll (k + 1) A (bit.set a.toNat ((2 ^ k : Nat) : Int))).getD i.toNat 0 = _
    rw [ih, getD_set _ _ _ _ _ (by omega)]
    show _ = if i ∈ a :: A then (((bif a == i then 2 ^ k else valA (k + 1) A i : Nat) : Nat) : Int) else bit.getD i.toNat 0
    by_cases e : a = i
    · subst e
      rw [if_neg h1, if_pos rfl, if_pos (List.mem_cons_self ..), show (a == a) = true by simp]; rfl
    · rw [show (a == i) = false by simpa using e, cond_false]
      by_cases hm : i ∈ A
      · rw [if_pos hm, if_pos (List.mem_cons_of_mem _ hm)]
      · rw [if_neg hm, if_neg (show ¬ a.toNat = i.toNat by omega), if_neg (fun h => (List.mem_cons.1 h).elim (fun h => e h.symm) hm)]
theorem valA_none : ∀ {A : List Int} {k : Nat} {i : Int}, ¬ i ∈ A → valA k A i = 0
  | [], _, _, _ => rfl
  | a :: A, k, i, h => by
    show (bif a == i then 2 ^ k else valA (k + 1) A i) = 0
    rw [show (a == i) = false by simpa using fun e : a = i => h (by rw [e]; exact List.mem_cons_self ..), cond_false]
    exact valA_none fun hm => h (List.mem_cons_of_mem _ hm)
/-- the walk over what a state holds -/
theorem orF_letS {A : List Int} {n : Nat} (hn : A.Nodup) (hr : ∀ a ∈ A, 0 ≤ a ∧ a < (n : Int)) (h6 : A.length ≤ 6) {h : List Int} (hh : ∀ x ∈ h, 0 ≤ x) :
    orF (setAll 0 A (List.replicate n 0)) 0 h = ((letS 0 A h : Nat) : Int) := by
  have get : ∀ i : Int, 0 ≤ i → (setAll 0 A (List.replicate n 0)).getD i.toNat 0 = ((valA 0 A i : Nat) : Int) := fun i hi => by
    rw [setAll_get A 0 _ hn (fun a ha => by rw [List.length_replicate]; exact hr a ha) i hi]
    by_cases hm : i ∈ A
    · rw [if_pos hm]
    · rw [if_neg hm, valA_none hm, List.getD_eq_getElem?_getD, List.getElem?_replicate]
      split <;> rfl
  have go : ∀ (h : List Int) (x : Nat), (∀ y ∈ h, 0 ≤ y) → x < 2 ^ 6 → orF (setAll 0 A (List.replicate n 0)) (x : Int) h = ((h.foldl (fun x i => x ||| valA 0 A i) x : Nat) : Int) := by
    intro h
    induction h with
    | nil => intro x _ _; rfl
    | cons i h ih =>
      intro x hh hx
      have hv : valA 0 A i < 2 ^ 6 := valA_lt (by omega)
      show orF _ (bitsF .or .i64 (x : Int) ((setAll 0 A (List.replicate n 0)).getD i.toNat 0)) h = _
      rw [get i (hh i (List.mem_cons_self ..)), or_nat (by omega) (by omega), ih _ (fun y hy => hh y (List.mem_cons_of_mem _ hy)) (Nat.or_lt_two_pow hx hv)]
      rfl
  have := go h 0 hh (by omega)
  rw [or_letS hn] at this
  exact this
end Go.S11
