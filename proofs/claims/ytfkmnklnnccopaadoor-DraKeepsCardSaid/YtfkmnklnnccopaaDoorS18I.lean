/-
  Seat 18: the laws DraMore and DraSees.
-/
import Derived.Test.YtfkmnklnnccopaaDoorS18H
open Go Go.En
namespace Go.S18
section
variable {C : Nat} {nx : List (List Int)} {s l : List Int} {i : Int}
theorem run_app : ∀ (w v : List Int) (q : Int), runF nx q (w ++ v) = runF nx (runF nx q w) v
  | [], _, _ => rfl
  | c :: w, v, q => run_app w v (stepF nx q c)
/-- the loop told twice leads the same way -/
theorem st_two (h0 : 0 < l.length) (q : Int) : ∀ j, stF nx (l ++ l) q j = stF nx l q j
  | 0 => rfl
  | j + 1 => by
    show stepF nx (stF nx (l ++ l) q j) ((l ++ l).getD (j % (l ++ l).length) 0) = stepF nx (stF nx l q j) (l.getD (j % l.length) 0)
    rw [st_two h0 q j, List.length_append]
    congr 1
    have h1 : j % (l.length + l.length) % l.length = j % l.length := Nat.mod_mod_of_dvd j ⟨2, by omega⟩
    have h2 : j % (l.length + l.length) < l.length + l.length := Nat.mod_lt _ (by omega)
    generalize j % (l.length + l.length) = k at h1 h2
    rw [← h1]
    by_cases hk : k < l.length
    · rw [Nat.mod_eq_of_lt hk, List.getD_eq_getElem?_getD, List.getD_eq_getElem?_getD, List.getElem?_append_left hk]
    · have hm : k % l.length = k - l.length := by rw [Nat.mod_eq_sub_mod (by omega), Nat.mod_eq_of_lt (by omega)]
      rw [hm, List.getD_eq_getElem?_getD, List.getD_eq_getElem?_getD, List.getElem?_append_right (by omega)]
/-- what is met from a place further on is the same -/
theorem met_on {b : Int} {r t J K : Nat} (hr1 : 1 ≤ r) (h0 : 0 < l.length) (hb : stF nx l b (r * l.length) = b) (hJ : r * l.length ≤ J) (hK : r * l.length ≤ K) (x : Nat) :
    metF nx l (stF nx l b (t * l.length)) J x = metF nx l b K x := by
  have hp : 0 < r * l.length := Nat.mul_pos hr1 h0
  have hper : ∀ m j, stF nx l b (m * (r * l.length) + j) = stF nx l b j := by
    intro m
    induction m with
    | zero => intro j; rw [Nat.zero_mul, Nat.zero_add]
    | succ m ih => intro j; rw [Nat.succ_mul, Nat.add_assoc, ih, st_per hb]
  rw [Bool.eq_iff_iff, met_iff, met_iff]
  constructor
  · rintro ⟨j, _, h2⟩
    rw [st_shift] at h2
    exact ⟨(t * l.length + j) % (r * l.length), Nat.lt_of_lt_of_le (Nat.mod_lt _ hp) hK, by rw [← st_mod hb hp]; exact h2⟩
  · rintro ⟨j, _, h2⟩
    have hb' : stF nx l (stF nx l b (t * l.length)) (r * l.length) = stF nx l b (t * l.length) := by
      rw [st_shift, Nat.add_comm, st_per hb]
    -- far enough on
    have hle : t * l.length ≤ t * (r * l.length) := Nat.mul_le_mul_left t (Nat.le_mul_of_pos_left _ hr1)
    have e : stF nx l (stF nx l b (t * l.length)) (t * (r * l.length) + j - t * l.length) = (x : Int) := by
      rw [st_shift, show t * l.length + (t * (r * l.length) + j - t * l.length) = t * (r * l.length) + j from by omega, hper]; exact h2
    refine ⟨(t * (r * l.length) + j - t * l.length) % (r * l.length), Nat.lt_of_lt_of_le (Nat.mod_lt _ hp) hJ, ?_⟩
    rw [← st_mod hb' hp]; exact e
theorem seen_as (J : Nat) : idxs (FL nx l (beginF i nx s l) J) nx.length = ((List.range nx.length).filter (metF nx l (beginF i nx s l) J)).map fun (x : Nat) => ((x : Nat) : Int) := by
  unfold idxs
  congr 1
  apply List.filter_congr
  intro x hx
  rw [FL_get (List.mem_range.1 hx)]
theorem seen_met : seenF i nx s l = ((List.range nx.length).filter (metF nx l (beginF i nx s l) (nx.length * l.length))).map fun (x : Nat) => ((x : Nat) : Int) := rfl
/-- a longer stem, of the loop's letters -/
theorem seen_stem (h : Aut C nx) (hl : ∀ c ∈ l, inF (zn C) c = true) (h0 : 0 < l.length) (hi : inF (zn nx.length) i = true) (hs : ∀ c ∈ s, inF (zn C) c = true) : seenF i nx (s ++ l) l = seenF i nx s l := by
  have hq0 := run_in h hi hs
  obtain ⟨r, r1, r2, r3, _⟩ := back h hl h0 hq0
  rw [← begin_eq] at r3
  have e : beginF i nx (s ++ l) l = stF nx l (beginF i nx s l) (1 * l.length) := by
    rw [begin_eq, begin_eq, run_app]
    have := run_all (nx := nx) (l := l) (runF nx i s) 0
    rw [Nat.zero_mul] at this
    have h1 : runF nx (runF nx i s) l = stF nx l (runF nx i s) (1 * l.length) := this
    rw [h1, st_shift, st_shift, Nat.add_comm]
  rw [seen_met, seen_met, e]
  congr 1
  apply List.filter_congr
  intro x _
  exact met_on r1 h0 r3 (Nat.mul_le_mul_right _ r2) (Nat.mul_le_mul_right _ r2) x
/-- the loop told twice, behind it once more -/
theorem seen_long (h : Aut C nx) (hl : ∀ c ∈ l, inF (zn C) c = true) (h0 : 0 < l.length) (hi : inF (zn nx.length) i = true) (hs : ∀ c ∈ s, inF (zn C) c = true) : seenF i nx (s ++ l) (l ++ l) = seenF i nx s l := by
  have hq0 := run_in h hi hs
  obtain ⟨r, r1, r2, r3, _⟩ := back h hl h0 hq0
  rw [← begin_eq] at r3
  have e : beginF i nx (s ++ l) (l ++ l) = stF nx l (beginF i nx s l) ((nx.length + 1) * l.length) := by
    rw [begin_eq, begin_eq, run_app, st_two h0, st_shift]
    have := run_all (nx := nx) (l := l) (runF nx i s) 0
    rw [Nat.zero_mul] at this
    have h1 : runF nx (runF nx i s) l = stF nx l (runF nx i s) (1 * l.length) := this
    rw [h1, st_shift, List.length_append]
    congr 1
    rw [Nat.mul_add, Nat.add_mul]; omega
  have e2 : ∀ b J x, metF nx (l ++ l) b J x = metF nx l b J x := by
    intro b J x
    unfold metF
    congr 1
    funext j
    rw [st_two h0]
  have hle : nx.length * l.length ≤ nx.length * (l ++ l).length := Nat.mul_le_mul_left _ (by rw [List.length_append]; omega)
  rw [seen_met, seen_met, e]
  congr 1
  apply List.filter_congr
  intro x _
  rw [e2]
  exact met_on r1 h0 r3 (Nat.le_trans (Nat.mul_le_mul_right _ r2) hle) (Nat.mul_le_mul_right _ r2) x
theorem seen_mem {x : Int} : x ∈ seenF i nx s l ↔ ∃ k : Nat, x = (k : Int) ∧ k < nx.length ∧ ∃ j, j < nx.length * l.length ∧ stF nx l (beginF i nx s l) j = (k : Int) := by
  rw [seen_met, List.mem_map]
  constructor
  · rintro ⟨k, hk, rfl⟩
    rw [List.mem_filter, List.mem_range, met_iff] at hk
    exact ⟨k, rfl, hk.1, hk.2⟩
  · rintro ⟨k, rfl, h1, h2⟩
    exact ⟨k, List.mem_filter.2 ⟨List.mem_range.2 h1, met_iff.2 h2⟩, rfl⟩
theorem st_mem (h : Aut C nx) (hl : ∀ c ∈ l, inF (zn C) c = true) (h0 : 0 < l.length) (hi : inF (zn nx.length) i = true) (hs : ∀ c ∈ s, inF (zn C) c = true) (j : Nat) : stF nx l (beginF i nx s l) j ∈ seenF i nx s l := by
  have hq0 := run_in h hi hs
  obtain ⟨r, r1, r2, r3, _⟩ := back h hl h0 hq0
  rw [← begin_eq] at r3
  have hp : 0 < r * l.length := Nat.mul_pos r1 h0
  have hb : inF (zn nx.length) (beginF i nx s l) = true := by rw [begin_eq]; exact st_in h hl h0 hq0 _
  obtain ⟨k, e, hk⟩ := in_nat (st_in h hl h0 hb j)
  refine seen_mem.2 ⟨k, e, hk, j % (r * l.length), Nat.lt_of_lt_of_le (Nat.mod_lt _ hp) (Nat.mul_le_mul_right _ r2), ?_⟩
  rw [← st_mod r3 hp]; exact e
end
/-! ### words of any numbers -/
theorem tmod_in {z x : Int} (h0 : 0 ≤ x) : inF (zn (2 ^ z.toNat)) (x.tmod ((2 ^ z.toNat : Nat) : Int)) = true := by
  have hp := Nat.two_pow_pos z.toNat
  rw [Int.tmod_eq_emod_of_nonneg h0, in_iff]
  exact ⟨Int.emod_nonneg _ (by omega), Int.emod_lt_of_pos _ (by omega)⟩
theorem letters_in {z : Int} {v : List Int} (h : u8 v = true) : (lettersF z v).length ≤ 8 ∧ ∀ c ∈ lettersF z v, inF (zn (2 ^ z.toNat)) c = true := by
  unfold lettersF
  refine ⟨by rw [List.length_map, List.length_take]; omega, fun c hc => ?_⟩
  obtain ⟨x, hx, rfl⟩ := List.mem_map.1 hc
  have := List.all_eq_true.1 h x (List.mem_of_mem_take hx)
  rw [Bool.and_eq_true, decide_eq_true_eq, decide_eq_true_eq] at this
  exact tmod_in this.1
theorem loop_in {z : Int} {v : List Int} (h : u8 v = true) : 0 < (loopF z v).length ∧ (loopF z v).length ≤ 8 ∧ ∀ c ∈ loopF z v, inF (zn (2 ^ z.toNat)) c = true := by
  cases v with
  | nil =>
    refine ⟨(show 0 < ([0] : List Int).length by decide), (show ([0] : List Int).length ≤ 8 by decide), fun c hc => ?_⟩
    have : c = 0 := by simpa [loopF] using hc
    subst this
    have hp := Nat.two_pow_pos z.toNat
    rw [in_iff]; simp only [zn]; omega
  | cons x v =>
    obtain ⟨a1, a2⟩ := letters_in (z := z) h
    refine ⟨?_, a1, a2⟩
    show 0 < (lettersF z (x :: v)).length
    unfold lettersF
    rw [List.length_map, List.length_take, List.length_cons]; omega
theorem wd_ok {p : Int} {s l : List Int} (h0 : 0 < l.length) (h64 : s.length + l.length ≤ 64) (hs : ∀ c ∈ s, inF (zn (2 ^ p.toNat)) c = true) (hl : ∀ c ∈ l, inF (zn (2 ^ p.toNat)) c = true) : wdOk p s l = true := by
  unfold wdOk
  have e1 : (zn l.length == 0) = false := by rw [beq_eq_false_iff_ne]; simp only [zn]; omega
  have e2 : (s ++ l).any (nin ((2 ^ p.toNat : Nat) : Int)) = false := by
    rw [List.any_eq_false]
    intro c hc
    unfold nin
    have : inF (zn (2 ^ p.toNat)) c = true := (List.mem_append.1 hc).elim (hs c) (hl c)
    rw [show inF (((2 ^ p.toNat : Nat) : Int)) c = true from this]; decide
  rw [e1, e2, decide_eq_true (show zn (s ++ l).length ≤ 64 by simp only [zn, List.length_append]; omega)]; rfl
theorem good_any (F : List Int) (ps : List PairV) : decide (goodI F ps ≥ 0) = ps.any (goodB F) := idx_any _ _ _
/-! ### DraMore -/
theorem rise_range (n : Nat) : ∀ (d k : Nat), k + d = n → riseF (zn n) ((k : Int) - 1) ((List.range' k d).map fun (x : Nat) => ((x : Nat) : Int)) = true
  | 0, k, _ => rfl
  | d + 1, k, h => by
    rw [List.range'_succ, List.map_cons]
    show (!(decide ((k : Int) ≤ (k : Int) - 1) || decide ((k : Int) ≥ zn n)) && riseF (zn n) (k : Int) _) = true
    have ih := rise_range n d (k + 1) (by omega)
    rw [show (((k + 1 : Nat) : Int) - 1) = (k : Int) from by omega] at ih
    rw [decide_eq_false (show ¬ (k : Int) ≤ (k : Int) - 1 by omega), decide_eq_false (show ¬ (k : Int) ≥ zn n by simp only [zn]; omega), ih]; rfl
def allF (n : Nat) : List Int := (List.range n).map fun (x : Nat) => ((x : Nat) : Int)
theorem allF_succ (n : Nat) : allF (n + 1) = allF n ++ [(n : Int)] := by
  unfold allF; rw [List.range_succ, List.map_append]; rfl
theorem allF_len (n : Nat) : (allF n).length = n := by simp [allF]
theorem dr_add {p i : Int} {nx : List (List Int)} {ps : List PairV} {q : PairV} (h : drOk p i nx ps = true) (hp : ps.length ≤ 20) (hq : badP (zn nx.length) q = false) : drOk p i nx (ps ++ [q]) = true := by
  unfold drOk at h ⊢
  rw [Bool.and_eq_true, Bool.and_eq_true, Bool.not_eq_true', Bool.not_eq_true'] at h
  obtain ⟨h1, h2, h3⟩ := h
  rw [h2, List.any_append, h3, List.any_cons, hq]
  unfold headOk at h1 ⊢
  simp only [Bool.and_eq_true] at h1
  rw [h1.1.1, h1.1.2, h1.2.1.1, h1.2.1.2, h1.2.2.1, decide_eq_true (show zn (ps ++ [q]).length ≤ 4096 by simp only [zn, List.length_append, List.length_singleton]; omega)]; rfl
theorem more_loop {p i : Int} {nx : List (List Int)} {ps : List PairV} {a b s l : List Int} (hn : nx.length ≤ 40) (hn3 : ∀ l ∈ nx, l.length ≤ 64) (hps : ps.length ≤ 20) (hw : ps.all pairW = true) (ha : a.length ≤ 60) (hb : b.length ≤ 60) (hd : drOk p i nx ps = true)
    (hs : s.length ≤ 8) (hl8 : l.length ≤ 8) (h0 : 0 < l.length) (his : ∀ c ∈ s, inF (zn (2 ^ p.toNat)) c = true) (hil : ∀ c ∈ l, inF (zn (2 ^ p.toNat)) c = true) (acc : Bool) (hacc : acc = ps.any (goodB (seenF i nx s l))) :
    ∀ (m n k : Nat), k ≤ nx.length → nx.length - k < m → f4L0 n m acc (k : Int) p i nx ps a b p i nx ps s l (allF k) = some ⟨[pB true], [], []⟩
  | 0, _, _, _, h => absurd h (Nat.not_lt_zero _)
  | m + 1, n, k, hk, hm => by
    show f4S0 (f4L0 n m) acc (k : Int) p i nx ps a b p i nx ps s l (allF k) = _
    unfold f4S0
    by_cases hkn : k < nx.length
    · have ih := more_loop hn hn3 hps hw ha hb hd hs hl8 h0 his hil acc hacc m n (k + 1) hkn (by omega)
      rw [allF_succ] at ih
      rw [lt_k hkn, wr_k (by omega), decide_eq_true (show ((allF k).length + [(k : Int)].length) * 8 ≤ 140737488355328 by rw [allF_len, List.length_singleton]; omega)]
      exact ih
    · have hke : k = nx.length := by omega
      subst hke
      obtain ⟨hA, hp, _, hi⟩ := aut_of hd
      have hwd : wdOk p s l = true := wd_ok h0 (by omega) his hil
      -- the pair of all
      have hq1 : badP (zn nx.length) ([], allF nx.length, ()) = false := by
        have := rise_range nx.length nx.length 0 (Nat.zero_add _)
        unfold badP allF
        rw [List.range_eq_range']
        show (!true || !riseF (zn nx.length) (-1) _) = false
        rw [show ((0 : Nat) : Int) - 1 = -1 from rfl] at this
        rw [this]; rfl
      have hd1 := dr_add hd hps hq1
      have ho1 : seenOk p i nx (ps ++ [([], allF nx.length, ())]) s l = true := by unfold seenOk; rw [hd1, hwd]; rfl
      have hw1 : (ps ++ [(([] : List Int), allF nx.length, ())]).all pairW = true := by
        rw [List.all_append, hw]
        show (true && (pairW ([], allF nx.length, ()) && true)) = true
        unfold pairW
        rw [ble_of (show (allF nx.length).length ≤ 17592186044416 by rw [allF_len]; omega)]; rfl
      have hof1 : ofG nx (ps ++ [([], allF nx.length, ())]) = true := ofG_of hn (by rw [List.length_append, List.length_singleton]; omega) hn3 hw1
      have hdr1 : drG nx (ps ++ [([], allF nx.length, ())]) = true := drG_of hn (by rw [List.length_append, List.length_singleton]; omega) hn3 hw1
      have hw2 : (ps ++ [(a, b, ())]).all pairW = true := by
        rw [List.all_append, hw]
        show (true && (pairW (a, b, ()) && true)) = true
        unfold pairW
        rw [ble_of (show a.length ≤ 17592186044416 by omega), ble_of (show b.length ≤ 17592186044416 by omega)]; rfl
      have hof2 : ofG nx (ps ++ [(a, b, ())]) = true := ofG_of hn (by rw [List.length_append, List.length_singleton]; omega) hn3 hw2
      have hdr2 : drG nx (ps ++ [(a, b, ())]) = true := drG_of hn (by rw [List.length_append, List.length_singleton]; omega) hn3 hw2
      have m1 : m6 s.length = true := ble_of (by omega)
      have m2 : m6 l.length = true := ble_of (by omega)
      have hall : goodB (seenF i nx s l) ([], allF nx.length, ()) = true := by
        unfold goodB
        show (true && (allF nx.length).any (has (seenF i nx s l))) = true
        rw [Bool.true_and, List.any_eq_true]
        have hmem := st_mem hA hil h0 hi his 0
        obtain ⟨k, e, hk, _⟩ := seen_mem.1 hmem
        refine ⟨(k : Int), List.mem_map.2 ⟨k, List.mem_range.2 hk, rfl⟩, has_iff.2 ?_⟩
        rw [← e]; exact hmem
      have hg1 : decide (goodI (seenF i nx s l) (ps ++ [([], allF nx.length, ())]) ≥ 0) = true := by
        rw [good_any, List.any_append, List.any_cons, hall]
        simp
      rw [nlt_k hkn, decide_eq_true (show (0 + ps.length) * 48 ≤ 140737488355328 by omega), decide_eq_true (show (ps.length + [(([] : List Int), allF nx.length, ())].length) * 48 ≤ 140737488355328 by rw [List.length_singleton]; omega),
        hof1, hdr1, m1, m2, decide_eq_true (show (ps.length + [(a, b, ())].length) * 48 ≤ 140737488355328 by rw [List.length_singleton]; omega), ho1, hg1, hof2, hdr2, good_any, List.any_append, ← hacc]
      cases seenOk p i nx (ps ++ [(a, b, ())]) s l <;> cases acc <;> rfl
theorem more_T {p i : Int} {nx : List (List Int)} {ps : List PairV} {a b s l : List Int} (hw : ps.all pairW = true) (us : u8 s = true) (ul : u8 l = true) {N : Nat} (hN : 41 ≤ N) : f4M N p i nx ps a b s l = some ⟨[pB true], [], []⟩ := by
  unfold f4M f4T
  cases hf : farF nx ps with
  | true => rfl
  | false =>
    obtain ⟨n1, n2, n3⟩ := near hf
    have hof := ofG_of n1 (by omega) n3 hw
    have hdr := drG_of n1 (by omega) n3 hw
    rw [hdr]
    cases hd : drOk p i nx ps with
    | false => rfl
    | true =>
      by_cases ha : a.length > 60
      · rw [decide_eq_true (show zn a.length > 60 by simp only [zn]; omega)]; rfl
      · rw [decide_eq_false (show ¬ zn a.length > 60 by simp only [zn]; omega)]
        by_cases hb : b.length > 60
        · rw [decide_eq_true (show zn b.length > 60 by simp only [zn]; omega)]; rfl
        · rw [decide_eq_false (show ¬ zn b.length > 60 by simp only [zn]; omega)]
          obtain ⟨hA, hp, _, hi⟩ := aut_of hd
          obtain ⟨s8, sin⟩ := letters_in (z := p) us
          obtain ⟨l0, l8, lin⟩ := loop_in (z := p) ul
          rw [us, ul, decide_eq_true hp.1, decide_eq_true hp.2, hof]
          generalize lettersF p s = S at s8 sin ⊢
          generalize loopF p l = L at l0 l8 lin ⊢
          have lin2 : ∀ c ∈ L ++ L, inF (zn (2 ^ p.toNat)) c = true := fun c hc => (List.mem_append.1 hc).elim (lin c) (lin c)
          have sin2 : ∀ c ∈ S ++ L, inF (zn (2 ^ p.toNat)) c = true := fun c hc => (List.mem_append.1 hc).elim (sin c) (lin c)
          have ho : seenOk p i nx ps S L = true := by unfold seenOk; rw [hd, wd_ok l0 (by omega) sin lin]; rfl
          have ho2 : seenOk p i nx ps (S ++ L) (L ++ L) = true := by
            unfold seenOk; rw [hd, wd_ok (by rw [List.length_append]; omega) (by rw [List.length_append, List.length_append]; omega) sin2 lin2]; rfl
          have hse := seen_long hA lin l0 hi sin
          have m1 : m6 S.length = true := ble_of (by omega)
          have m2 : m6 L.length = true := ble_of (by omega)
          have m3 : m6 (S ++ L).length = true := ble_of (by rw [List.length_append]; omega)
          have m4 : m6 (L ++ L).length = true := ble_of (by rw [List.length_append]; omega)
          rw [List.nil_append, List.nil_append, decide_eq_true (show (0 + S.length) * 8 ≤ 140737488355328 by omega), decide_eq_true (show (S.length + L.length) * 8 ≤ 140737488355328 by omega), decide_eq_true (show (0 + L.length) * 8 ≤ 140737488355328 by omega), decide_eq_true (show (L.length + L.length) * 8 ≤ 140737488355328 by omega), m1, m2, m3, m4, ho, ho2, hse]
          have lp := more_loop (a := a) (b := b) n1 n3 n2 hw (by omega) (by omega) hd s8 l8 l0 sin lin (ps.any (goodB (seenF i nx S L))) rfl N N 0 (Nat.zero_le _) (by omega)
          rw [← good_any] at lp
          generalize decide (goodI (seenF i nx S L) ps ≥ 0) = d at lp ⊢
          cases d <;> exact lp
def moreS : En.Spec := ⟨[], fun ds os => match ds, os with
  | [.p (.agg [.d (.fz true) (.i .i64) _p, .d (.fz true) (.i .i64) _i, .d (.fz false) (.l (.l (.i .i64))) _nx, .d (.fz false) (.l (.p (.l (.i .i64)) (.p (.l (.i .i64)) .u))) ps]), .p (.agg [.d (.fz false) (.l (.i .i64)) _a, .d (.fz false) (.l (.i .i64)) _b]), .p (.one (.d (.fz false) (.l (.i .u8)) s)), .p (.one (.d (.fz false) (.l (.i .u8)) l))], [] =>
    .br (ps.all pairW && (u8 s && u8 l)) (.leaf [pB true] [] []) .fail
  | _, _ => .fail⟩
theorem more_ok : FnOk P C0 4 moreS := by
  refine fn_okC ctx16 (show P.funcs[4]? = some f4f by kernel_rfl) (of_decide_eq_true (by kernel_rfl)) moreS f4h (fun ds os lf hp => ?_)
  unfold moreS at hp
  simp only at hp
  split at hp
  · rename_i p i nx ps a b s l
    simp only [Out.pick] at hp
    cases hc : (ps.all pairW && (u8 s && u8 l)) with
    | false => rw [hc] at hp; cases hp
    | true =>
      rw [hc] at hp
      simp only [cond_true, Option.some.injEq] at hp
      subst hp
      rw [Bool.and_eq_true, Bool.and_eq_true] at hc
      exact ⟨41, (f4_ev 41 p i nx ps a b s l).trans (more_T hc.1 hc.2.1 hc.2.2 (Nat.le_refl _))⟩
  · cases hp
end Go.S18
