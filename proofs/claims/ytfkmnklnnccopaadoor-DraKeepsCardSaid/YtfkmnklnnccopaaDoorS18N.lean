/-
  Seat 18: plain facts of an automaton along a word: it comes back to where it was.
-/
import Derived.Test.YtfkmnklnnccopaaDoorS18G2
open Go Go.En
namespace Go.S18
theorem pigeon : ∀ (n : Nat) (f : Nat → Nat), (∀ t, t ≤ n → f t < n) → ∃ i j, i < j ∧ j ≤ n ∧ f i = f j
  | 0, f, h => absurd (h 0 (Nat.le_refl _)) (Nat.not_lt_zero _)
  | n + 1, f, h => by
    by_cases hx : ∃ t, t ≤ n ∧ f t = f (n + 1)
    · obtain ⟨t, h1, h2⟩ := hx
      exact ⟨t, n + 1, by omega, Nat.le_refl _, h2⟩
    · have hne : ∀ t, t ≤ n → f t ≠ f (n + 1) := fun t ht e => hx ⟨t, ht, e⟩
      have hlast := h (n + 1) (Nat.le_refl _)
      obtain ⟨i, j, h1, h2, h3⟩ := pigeon n (fun t => if f t = n then f (n + 1) else f t) (fun t ht => by
        show (if f t = n then f (n + 1) else f t) < n
        have a := h t (by omega)
        have b := hne t ht
        by_cases e : f t = n
        · rw [if_pos e]; omega
        · rw [if_neg e]; omega)
      refine ⟨i, j, h1, by omega, ?_⟩
      have h3 : (if f i = n then f (n + 1) else f i) = (if f j = n then f (n + 1) else f j) := h3
      have bi := hne i (by omega)
      have bj := hne j h2
      by_cases ei : f i = n <;> by_cases ej : f j = n
      · rw [ei, ej]
      · rw [if_pos ei, if_neg ej] at h3; exact absurd h3.symm bj
      · rw [if_neg ei, if_pos ej] at h3; exact absurd h3 bi
      · rw [if_neg ei, if_neg ej] at h3; exact h3
theorem least {P : Nat → Prop} : ∀ N, (∃ r, 1 ≤ r ∧ r ≤ N ∧ P r) → ∃ r, 1 ≤ r ∧ r ≤ N ∧ P r ∧ ∀ t, 1 ≤ t → t < r → ¬ P t
  | 0, ⟨r, h1, h2, _⟩ => absurd h1 (by omega)
  | N + 1, ⟨r, h1, h2, h3⟩ => by
    by_cases hx : ∃ r, 1 ≤ r ∧ r ≤ N ∧ P r
    · obtain ⟨r, g1, g2, g3, g4⟩ := least N hx
      exact ⟨r, g1, by omega, g3, g4⟩
    · have : r = N + 1 := by
        rcases Nat.lt_or_ge r (N + 1) with h | h
        · exact absurd ⟨r, h1, by omega, h3⟩ hx
        · omega
      subst this
      exact ⟨N + 1, h1, h2, h3, fun t t1 t2 ht => hx ⟨t, t1, by omega, ht⟩⟩
/-- an automaton whose states and letters are in their bounds -/
structure Aut (C : Nat) (nx : List (List Int)) : Prop where
  len : ∀ q : Nat, q < nx.length → (nx.getD q []).length = C
  to : ∀ q : Nat, q < nx.length → ∀ c : Nat, c < C → inF (zn nx.length) ((nx.getD q []).getD c 0) = true
section
variable {C : Nat} {nx : List (List Int)} {l : List Int}
theorem in_iff {n i : Int} : inF n i = true ↔ 0 ≤ i ∧ i < n := by unfold inF; rw [Bool.and_eq_true, decide_eq_true_eq, decide_eq_true_eq]
theorem in_nat {n : Nat} {i : Int} (h : inF (zn n) i = true) : ∃ k : Nat, i = (k : Int) ∧ k < n := by
  have := in_iff.1 h
  obtain ⟨k, rfl⟩ := Int.eq_ofNat_of_zero_le this.1
  exact ⟨k, rfl, Int.ofNat_lt.1 this.2⟩
theorem step_in (h : Aut C nx) {q c : Int} (hq : inF (zn nx.length) q = true) (hc : inF (zn C) c = true) : inF (zn nx.length) (stepF nx q c) = true := by
  obtain ⟨a, rfl, ha⟩ := in_nat hq
  obtain ⟨b, rfl, hb⟩ := in_nat hc
  exact h.to a ha b hb
theorem run_in (h : Aut C nx) : ∀ {w : List Int} {q : Int}, inF (zn nx.length) q = true → (∀ c ∈ w, inF (zn C) c = true) → inF (zn nx.length) (runF nx q w) = true
  | [], _, hq, _ => hq
  | c :: w, _, hq, hw => run_in h (w := w) (step_in h hq (hw c (List.mem_cons_self ..))) (fun x hx => hw x (List.mem_cons_of_mem _ hx))
theorem getl (hl : ∀ c ∈ l, inF (zn C) c = true) {j : Nat} (hj : j < l.length) : inF (zn C) (l.getD j 0) = true := hl _ (get_mem hj 0)
theorem st_in (h : Aut C nx) (hl : ∀ c ∈ l, inF (zn C) c = true) (h0 : 0 < l.length) {q : Int} (hq : inF (zn nx.length) q = true) : ∀ j, inF (zn nx.length) (stF nx l q j) = true
  | 0 => hq
  | j + 1 => step_in h (st_in h hl h0 hq j) (getl hl (Nat.mod_lt _ h0))
theorem run_st (q : Int) (t : Nat) : ∀ (d j : Nat), j + d = l.length → runF nx (stF nx l q (t * l.length + j)) (l.drop j) = stF nx l q ((t + 1) * l.length)
  | 0, j, h => by
    rw [List.drop_eq_nil_of_le (by omega), show (t + 1) * l.length = t * l.length + j from by rw [Nat.succ_mul]; omega]; rfl
  | d + 1, j, h => by
    have hj : j < l.length := by omega
    have e : (t * l.length + j) % l.length = j := by rw [Nat.mul_comm, Nat.mul_add_mod, Nat.mod_eq_of_lt hj]
    have ih := run_st q t d (j + 1) (by omega)
    rw [drop_get hj 0]
    show runF nx (stepF nx (stF nx l q (t * l.length + j)) (l.getD j 0)) (l.drop (j + 1)) = _
    rw [← ih]
    show _ = runF nx (stepF nx (stF nx l q (t * l.length + j)) (l.getD ((t * l.length + j) % l.length) 0)) (l.drop (j + 1))
    rw [e]
theorem run_all (q : Int) (t : Nat) : runF nx (stF nx l q (t * l.length)) l = stF nx l q ((t + 1) * l.length) := by
  have := run_st (nx := nx) q t l.length 0 (Nat.zero_add _)
  exact this
theorem rounds_st (q : Int) : ∀ m t, rounds nx l m (stF nx l q (t * l.length)) = stF nx l q ((t + m) * l.length)
  | 0, t => rfl
  | m + 1, t => by
    show rounds nx l m (runF nx (stF nx l q (t * l.length)) l) = _
    rw [run_all, rounds_st q m (t + 1), show t + 1 + m = t + (m + 1) from by omega]
/-- from behind whole rounds on it is as from there -/
theorem st_shift (q : Int) (t : Nat) : ∀ j, stF nx l (stF nx l q (t * l.length)) j = stF nx l q (t * l.length + j)
  | 0 => rfl
  | j + 1 => by
    show stepF nx (stF nx l (stF nx l q (t * l.length)) j) (l.getD (j % l.length) 0) = stepF nx (stF nx l q (t * l.length + j)) (l.getD ((t * l.length + j) % l.length) 0)
    rw [st_shift q t j, show (t * l.length + j) % l.length = j % l.length from by rw [Nat.mul_comm, Nat.mul_add_mod]]
theorem begin_eq (i : Int) (s : List Int) : beginF i nx s l = stF nx l (runF nx i s) (nx.length * l.length) := by
  unfold beginF
  have := rounds_st (nx := nx) (l := l) (runF nx i s) nx.length 0
  rw [Nat.zero_mul, Nat.zero_add] at this
  exact this
/-- it comes back -/
theorem back (h : Aut C nx) (hl : ∀ c ∈ l, inF (zn C) c = true) (h0 : 0 < l.length) {q : Int} (hq : inF (zn nx.length) q = true) :
    ∃ r, 1 ≤ r ∧ r ≤ nx.length ∧ stF nx l (stF nx l q (nx.length * l.length)) (r * l.length) = stF nx l q (nx.length * l.length) ∧
      ∀ t, 1 ≤ t → t < r → ¬ stF nx l (stF nx l q (nx.length * l.length)) (t * l.length) = stF nx l q (nx.length * l.length) := by
  apply least
  obtain ⟨i, j, h1, h2, h3⟩ := pigeon nx.length (fun t => (stF nx l q (t * l.length)).toNat) (fun t _ => by
    obtain ⟨k, e, hk⟩ := in_nat (st_in h hl h0 hq (t * l.length))
    show (stF nx l q (t * l.length)).toNat < nx.length
    rw [e]; exact hk)
  have h3 : (stF nx l q (i * l.length)).toNat = (stF nx l q (j * l.length)).toNat := h3
  have e : stF nx l q (i * l.length) = stF nx l q (j * l.length) := by
    obtain ⟨a, ea, _⟩ := in_nat (st_in h hl h0 hq (i * l.length))
    obtain ⟨b, eb, _⟩ := in_nat (st_in h hl h0 hq (j * l.length))
    rw [ea, eb] at h3 ⊢
    rw [Int.toNat_natCast, Int.toNat_natCast] at h3
    rw [h3]
  refine ⟨j - i, by omega, by omega, ?_⟩
  have e1 : stF nx l q (nx.length * l.length) = stF nx l q (i * l.length + (nx.length - i) * l.length) := by
    rw [← Nat.add_mul]; congr 2; omega
  have e2 : stF nx l (stF nx l q (nx.length * l.length)) ((j - i) * l.length) = stF nx l q (j * l.length + (nx.length - i) * l.length) := by
    rw [st_shift, ← Nat.add_mul, ← Nat.add_mul]; congr 2; omega
  rw [e2, e1, ← st_shift, ← st_shift, e]
/-- what is met within so many letters from a place that is come to again -/
def metF (nx : List (List Int)) (l : List Int) (b : Int) (J : Nat) (x : Nat) : Bool := (List.range J).any fun j => stF nx l b j == (x : Int)
theorem met_iff {b : Int} {J x : Nat} : metF nx l b J x = true ↔ ∃ j, j < J ∧ stF nx l b j = (x : Int) := by
  unfold metF
  rw [List.any_eq_true]
  exact ⟨fun ⟨j, h1, h2⟩ => ⟨j, List.mem_range.1 h1, eq_of_beq h2⟩, fun ⟨j, h1, h2⟩ => ⟨j, List.mem_range.2 h1, beq_iff_eq.2 h2⟩⟩
theorem st_per {b : Int} {r : Nat} (hb : stF nx l b (r * l.length) = b) (j : Nat) : stF nx l b (r * l.length + j) = stF nx l b j := by
  rw [← st_shift, hb]
theorem st_mod {b : Int} {r : Nat} (hb : stF nx l b (r * l.length) = b) (hr : 0 < r * l.length) : ∀ j, stF nx l b j = stF nx l b (j % (r * l.length)) := by
  intro j
  induction j using Nat.strongRecOn with
  | ind j ih =>
    by_cases h : j < r * l.length
    · rw [Nat.mod_eq_of_lt h]
    · have h1 := ih (j - r * l.length) (by omega)
      have h2 := st_per hb (j - r * l.length)
      rw [show r * l.length + (j - r * l.length) = j from by omega] at h2
      rw [h2, h1]
      congr 1
      exact (Nat.mod_eq_sub_mod (Nat.le_of_not_lt h)).symm
theorem met_per {b : Int} {r : Nat} (hb : stF nx l b (r * l.length) = b) (hr : 0 < r * l.length) {J : Nat} (hJ : r * l.length ≤ J) (x : Nat) : metF nx l b J x = metF nx l b (r * l.length) x := by
  rw [Bool.eq_iff_iff, met_iff, met_iff]
  constructor
  · rintro ⟨j, _, h2⟩
    exact ⟨j % (r * l.length), Nat.mod_lt _ hr, by rw [← st_mod hb hr]; exact h2⟩
  · rintro ⟨j, h1, h2⟩
    exact ⟨j, by omega, h2⟩
/-- the same as a row of truths -/
def FL (nx : List (List Int)) (l : List Int) (b : Int) (J : Nat) : List Bool := (List.range nx.length).map (metF nx l b J)
theorem FL_len (b : Int) (J : Nat) : (FL nx l b J).length = nx.length := by simp [FL]
theorem FL_get {b : Int} {J x : Nat} (hx : x < nx.length) : (FL nx l b J).getD x false = metF nx l b J x := by
  simp [FL, List.getD_eq_getElem?_getD, hx]
theorem FL_zero (b : Int) : FL nx l b 0 = List.replicate nx.length false := by
  unfold FL
  apply List.ext_getElem (by simp)
  intro k h1 h2
  simp [metF]
theorem FL_succ {b : Int} {J : Nat} (hin : inF (zn nx.length) (stF nx l b J) = true) : (FL nx l b J).set (stF nx l b J).toNat true = FL nx l b (J + 1) := by
  obtain ⟨k, e, hk⟩ := in_nat hin
  rw [e, Int.toNat_natCast]
  apply List.ext_getElem (by simp [FL])
  intro x h1 h2
  have hx : x < nx.length := by rw [FL_len] at h2; exact h2
  rw [List.getElem_set]
  have g1 : (FL nx l b (J + 1))[x] = metF nx l b (J + 1) x := by simp [FL]
  have g0 : (FL nx l b J)[x]'(by rw [FL_len]; exact hx) = metF nx l b J x := by simp [FL]
  have e2 : metF nx l b (J + 1) x = (metF nx l b J x || stF nx l b J == (x : Int)) := by
    unfold metF
    rw [List.range_succ, List.any_append]; simp
  rw [g1, e2, e]
  by_cases hkx : k = x
  · subst hkx; simp
  · rw [if_neg hkx, g0, beq_eq_false_iff_ne.2 (fun h => hkx (Int.ofNat_inj.1 h)), Bool.or_false]
/-- the numbers below m that a row of truths has -/
def idxs (f : List Bool) (m : Nat) : List Int := ((List.range m).filter fun x => f.getD x false).map fun (x : Nat) => ((x : Nat) : Int)
theorem idxs_len (f : List Bool) (m : Nat) : (idxs f m).length ≤ m := by
  unfold idxs
  rw [List.length_map]
  exact Nat.le_trans (List.length_filter_le ..) (by simp)
theorem idxs_succ (f : List Bool) (m : Nat) : idxs f (m + 1) = bif f.getD m false then idxs f m ++ [(m : Int)] else idxs f m := by
  unfold idxs
  rw [List.range_succ, List.filter_append, List.map_append]
  cases h : f.getD m false with
  | true => rw [List.filter_cons_of_pos (by simpa using h)]; rfl
  | false => rw [List.filter_cons_of_neg (by rw [h]; decide)]; simp
/-- both come to the same: within any time that is enough -/
theorem seen_eq (h0 : 0 < l.length) {i : Int} {s : List Int} {r J : Nat} (hr1 : 1 ≤ r) (hrn : r ≤ nx.length)
    (hb : stF nx l (beginF i nx s l) (r * l.length) = beginF i nx s l) (hJ : r * l.length ≤ J) : idxs (FL nx l (beginF i nx s l) J) nx.length = seenF i nx s l := by
  have hp : 0 < r * l.length := Nat.mul_pos hr1 h0
  unfold idxs seenF
  congr 1
  apply List.filter_congr
  intro x hx
  have hx := List.mem_range.1 hx
  rw [FL_get hx, met_per hb hp hJ]
  exact (met_per hb hp (Nat.mul_le_mul_right _ hrn) x).symm
end
end Go.S18
