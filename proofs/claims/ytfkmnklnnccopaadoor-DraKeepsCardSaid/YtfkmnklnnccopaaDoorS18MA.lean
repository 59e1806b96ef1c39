/-
  Seat 18: a trimmed automaton accepts the same words (DraKeeps).
-/
import Derived.Test.YtfkmnklnnccopaaDoorS18M
open Go Go.En
namespace Go.S18
section
variable {C : Nat} {nx : List (List Int)} {i : Int} {o s l : List Int}
/-- the state by its number -/
def phi (o : List Int) (q : Int) : Int := o.getD q.toNat 0
theorem phi_in (ho : TrimOk nx i o) {q : Int} (hq : inF (zn o.length) q = true) : inF (zn nx.length) (phi o q) = true := ho.rng _ (get_mem (in_natT hq).2.1 0)
theorem aut_rows (h : Aut C nx) (ho : TrimOk nx i o) : Aut C (rowsO nx o o.length) := by
  refine ⟨fun q hq => ?_, fun q hq c hc => ?_⟩
  · rw [rows_len] at hq
    obtain ⟨s1, s2, s3⟩ := in_natT (ho.rng _ (get_mem hq 0))
    rw [rows_get hq, List.length_map, h.len _ s2]
  · rw [rows_len] at hq
    obtain ⟨s1, s2, s3⟩ := in_natT (ho.rng _ (get_mem hq 0))
    have hl := h.len _ s2
    have hm := ho.cl _ (get_mem hq 0) _ (get_mem (show c < (nx.getD (o.getD q 0).toNat []).length by omega) 0)
    obtain ⟨j, j1, j2, _⟩ := idxO_pos _ 0 o (fun h0 => (idxO_neg _ 0 o).1 h0 hm)
    have e : ((rowsO nx o o.length).getD q []).getD c 0 = idxO ((nx.getD (o.getD q 0).toNat []).getD c 0) 0 o := by
      rw [rows_get hq, List.getD_eq_getElem?_getD, List.getElem?_map, List.getD_eq_getElem?_getD (l := nx.getD (o.getD q 0).toNat []), List.getElem?_eq_getElem (by omega)]; rfl
    rw [e, rows_len, j2, in_iff]; show 0 ≤ _ ∧ _ < ((o.length : Nat) : Int); omega
theorem phi_step (h : Aut C nx) (ho : TrimOk nx i o) {q c : Int} (hq : inF (zn o.length) q = true) (hc : inF (zn C) c = true) : phi o (stepF (rowsO nx o o.length) q c) = stepF nx (phi o q) c := by
  obtain ⟨q1, q2, q3⟩ := in_natT hq
  obtain ⟨c1, c2, c3⟩ := in_natT hc
  obtain ⟨s1, s2, s3⟩ := in_natT (ho.rng _ (get_mem q2 0))
  have hl := h.len _ s2
  have hm := ho.cl _ (get_mem q2 0) _ (get_mem (show c.toNat < (nx.getD (o.getD q.toNat 0).toNat []).length by omega) 0)
  obtain ⟨j, j1, j2, j3⟩ := idxO_pos _ 0 o (fun h0 => (idxO_neg _ 0 o).1 h0 hm)
  have e : stepF (rowsO nx o o.length) q c = idxO ((nx.getD (o.getD q.toNat 0).toNat []).getD c.toNat 0) 0 o := by
    unfold stepF
    rw [rows_get q2, List.getD_eq_getElem?_getD, List.getElem?_map, List.getD_eq_getElem?_getD (l := nx.getD (o.getD q.toNat 0).toNat []), List.getElem?_eq_getElem (by omega)]; rfl
  rw [e, j2]
  show o.getD (((0 + j : Nat) : Int)).toNat 0 = (nx.getD (o.getD q.toNat 0).toNat []).getD c.toNat 0
  rw [Int.toNat_natCast, Nat.zero_add, j3]
theorem rows_in (h : Aut C nx) (ho : TrimOk nx i o) {q c : Int} (hq : inF (zn o.length) q = true) (hc : inF (zn C) c = true) : inF (zn o.length) (stepF (rowsO nx o o.length) q c) = true := by
  have := step_in (aut_rows h ho) (q := q) (c := c) (by rw [rows_len]; exact hq) hc
  rwa [rows_len] at this
theorem phi_run (h : Aut C nx) (ho : TrimOk nx i o) : ∀ (w : List Int) (q : Int), inF (zn o.length) q = true → (∀ c ∈ w, inF (zn C) c = true) → phi o (runF (rowsO nx o o.length) q w) = runF nx (phi o q) w
  | [], _, _, _ => rfl
  | c :: w, q, hq, hw => by
    have hc := hw c (List.mem_cons_self ..)
    show phi o (runF (rowsO nx o o.length) (stepF (rowsO nx o o.length) q c) w) = runF nx (stepF nx (phi o q) c) w
    rw [phi_run h ho w _ (rows_in h ho hq hc) (fun c h => hw c (List.mem_cons_of_mem _ h)), phi_step h ho hq hc]
theorem phi_st (h : Aut C nx) (ho : TrimOk nx i o) (hl : ∀ c ∈ l, inF (zn C) c = true) (h0 : 0 < l.length) {q : Int} (hq : inF (zn o.length) q = true) : ∀ j, inF (zn o.length) (stF (rowsO nx o o.length) l q j) = true ∧ phi o (stF (rowsO nx o o.length) l q j) = stF nx l (phi o q) j
  | 0 => ⟨hq, rfl⟩
  | j + 1 => by
    obtain ⟨a, b⟩ := phi_st h ho hl h0 hq j
    have hc := getl hl (Nat.mod_lt j h0)
    refine ⟨rows_in h ho a hc, ?_⟩
    show phi o (stepF _ (stF (rowsO nx o o.length) l q j) _) = stepF nx (stF nx l (phi o q) j) _
    rw [phi_step h ho a hc, b]
theorem st_many {b : Int} {R : Nat} (hb : stF nx l b (R * l.length) = b) (j : Nat) : ∀ T, stF nx l b (T * R * l.length + j) = stF nx l b j
  | 0 => by rw [Nat.zero_mul, Nat.zero_mul, Nat.zero_add]
  | T + 1 => by
    rw [Nat.succ_mul, Nat.add_mul, Nat.add_comm (T * R * l.length), Nat.add_assoc, st_per hb, st_many hb j T]
/-- what comes again in the trimmed one is what comes again -/
theorem seen_trim (h : Aut C nx) (ho : TrimOk nx i o) (hi : inF (zn nx.length) i = true) (hl : ∀ c ∈ l, inF (zn C) c = true) (h0 : 0 < l.length) (hs : ∀ c ∈ s, inF (zn C) c = true) (x : Int) :
    x ∈ seenF i nx s l ↔ ∃ j, j < o.length ∧ ((j : Nat) : Int) ∈ seenF 0 (rowsO nx o o.length) s l ∧ o.getD j 0 = x := by
  have hr := aut_rows h ho
  have hz : inF (zn o.length) 0 = true := by rw [in_iff]; have := ho.pos; show (0 : Int) ≤ 0 ∧ (0 : Int) < ((o.length : Nat) : Int); omega
  have hz2 : inF (zn (rowsO nx o o.length).length) 0 = true := by rw [rows_len]; exact hz
  have hu : inF (zn o.length) (runF (rowsO nx o o.length) 0 s) = true := by
    have := run_in hr hz2 hs
    rwa [rows_len] at this
  have eu : phi o (runF (rowsO nx o o.length) 0 s) = runF nx i s := by
    rw [phi_run h ho s 0 hz hs]
    show runF nx (o.getD (0 : Int).toNat 0) s = _
    rw [show (0 : Int).toNat = 0 from rfl, ho.hd]
  have hb' : inF (zn o.length) (beginF 0 (rowsO nx o o.length) s l) = true := by
    rw [begin_eq]; exact (phi_st h ho hl h0 hu _).1
  have eb : stF nx l (phi o (beginF 0 (rowsO nx o o.length) s l)) ((nx.length - o.length) * l.length) = beginF i nx s l := by
    rw [begin_eq, begin_eq, (phi_st h ho hl h0 hu _).2, eu, rows_len, st_shift, ← Nat.add_mul]
    congr 2
    have := ho.le; omega
  have go : ∀ J, phi o (stF (rowsO nx o o.length) l (beginF 0 (rowsO nx o o.length) s l) ((nx.length - o.length) * l.length + J)) = stF nx l (beginF i nx s l) J := fun J => by
    rw [(phi_st h ho hl h0 hb' _).2, ← st_shift, eb]
  constructor
  · intro hx
    obtain ⟨k, rfl, hk, j, hj, e⟩ := seen_mem.1 hx
    have hm := st_mem hr hl h0 hz2 hs ((nx.length - o.length) * l.length + j)
    obtain ⟨a, ea, ha⟩ := in_nat (phi_st h ho hl h0 hb' ((nx.length - o.length) * l.length + j)).1
    have e2 := go j
    rw [ea] at hm e2
    refine ⟨a, ha, hm, ?_⟩
    rw [← e, ← e2]
    show _ = o.getD ((a : Nat) : Int).toNat 0
    rw [Int.toNat_natCast]
  · rintro ⟨a, ha, hm, rfl⟩
    obtain ⟨k, ek, hk, j, hj, e⟩ := seen_mem.1 hm
    have hka : k = a := by omega
    subst hka
    have hback := back hr hl h0 (q := runF (rowsO nx o o.length) 0 s) (by rw [rows_len]; exact hu)
    rw [← begin_eq] at hback
    obtain ⟨r, r1, r2, r3, _⟩ := hback
    have e3 := st_many r3 j nx.length
    have hge : (nx.length - o.length) * l.length ≤ nx.length * r * l.length + j := by
      refine Nat.le_trans (Nat.mul_le_mul_right _ ?_) (Nat.le_add_right _ _)
      exact Nat.le_trans (Nat.sub_le _ _) (Nat.le_mul_of_pos_right _ r1)
    have e4 := go (nx.length * r * l.length + j - (nx.length - o.length) * l.length)
    rw [show (nx.length - o.length) * l.length + (nx.length * r * l.length + j - (nx.length - o.length) * l.length) = nx.length * r * l.length + j by omega, e3, e] at e4
    have e5 : phi o ((k : Nat) : Int) = o.getD k 0 := by show o.getD ((k : Nat) : Int).toNat 0 = _; rw [Int.toNat_natCast]
    rw [e5] at e4
    rw [e4]
    exact st_mem h hl h0 hi hs _
theorem meet_trim {F F' : List Int} (hF : ∀ x, x ∈ F ↔ ∃ j, j < o.length ∧ ((j : Nat) : Int) ∈ F' ∧ o.getD j 0 = x) (l : List Int) : (refP l 0 o).any (has F') = l.any (has F) := by
  rw [Bool.eq_iff_iff, List.any_eq_true, List.any_eq_true]
  constructor
  · rintro ⟨x, hx, hm⟩
    obtain ⟨j, j1, j2, j3⟩ := (refP_mem l 0 o x).1 hx
    rw [Nat.zero_add] at j2
    subst j2
    exact ⟨o.getD j 0, has_mem.1 j3, has_mem.2 ((hF _).2 ⟨j, j1, has_mem.1 hm, rfl⟩)⟩
  · rintro ⟨x, hx, hm⟩
    obtain ⟨j, j1, j2, j3⟩ := (hF x).1 (has_mem.1 hm)
    exact ⟨(j : Int), (refP_mem l 0 o _).2 ⟨j, j1, by rw [Nat.zero_add], by rw [j3]; exact has_mem.2 hx⟩, has_mem.2 j2⟩
theorem good_trim {F F' : List Int} (hF : ∀ x, x ∈ F ↔ ∃ j, j < o.length ∧ ((j : Nat) : Int) ∈ F' ∧ o.getD j 0 = x) (ps : List PairV) : (keepR o ps).any (goodB F') = ps.any (goodB F) := by
  have e : ∀ q : PairV, goodB F' (pairR o q) = goodB F q := fun q => by
    show (!((refP q.1 0 o).any (has F')) && (refP q.2.1 0 o).any (has F')) = (!(q.1.any (has F)) && q.2.1.any (has F))
    rw [meet_trim hF, meet_trim hF]
  have e2 : ∀ q : PairV, some1 q = false → goodB F' q = false := fun q hq => by
    unfold some1 at hq
    have : q.2.1 = [] := by
      cases h : q.2.1 with
      | nil => rfl
      | cons a b => rw [h] at hq; cases hq
    show (!(q.1.any (has F')) && q.2.1.any (has F')) = false
    rw [this]; simp
  unfold keepR
  rw [Bool.eq_iff_iff, List.any_eq_true, List.any_eq_true]
  constructor
  · rintro ⟨q, hq, hg⟩
    obtain ⟨p, hp, rfl⟩ := List.mem_map.1 (List.mem_filter.1 hq).1
    exact ⟨p, hp, by rw [← e]; exact hg⟩
  · rintro ⟨p, hp, hg⟩
    refine ⟨pairR o p, List.mem_filter.2 ⟨List.mem_map.2 ⟨p, hp, rfl⟩, ?_⟩, by rw [e]; exact hg⟩
    cases hs : some1 (pairR o p) with
    | true => rfl
    | false => rw [← e, e2 _ hs] at hg; cases hg
theorem accept_trim (h : Aut C nx) (ho : TrimOk nx i o) (hi : inF (zn nx.length) i = true) (hl : ∀ c ∈ l, inF (zn C) c = true) (h0 : 0 < l.length) (hs : ∀ c ∈ s, inF (zn C) c = true) (ps : List PairV) :
    decide (goodI (seenF 0 (rowsO nx o o.length) s l) (keepR o ps) ≥ 0) = decide (goodI (seenF i nx s l) ps ≥ 0) := by
  rw [good_any, good_any]
  exact good_trim (seen_trim h ho hi hl h0 hs) ps
end
end Go.S18
