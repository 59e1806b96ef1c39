/-
  Seat 22: the contracts of the document's functions of picks.
-/
import Derived.Test.YtjkojhpmiijgfaaDoorS22G5
open Go Go.En
namespace Go.S22
theorem i64_in {a : Int} (h1 : 0 ≤ a) (h2 : a ≤ 9223372036854775807) : IntKind.i64.wrap a = a := i64_wrap_in (by omega) h2
theorem sizes {ch : List (List ChV)} {nm : List ByteArray} {ho : List (List Int)} (h : ofMG ch nm ho = true) : ch.length ≤ 1000000 ∧ ∀ s, s < ch.length → (ch.getD s []).length ≤ 1000000 := by
  unfold ofMG m6 at h
  simp only [Bool.and_eq_true, List.all_eq_true] at h
  exact ⟨of_ble h.1.1, fun s hs => of_ble (h.1.2 _ (get_mem hs [])).1⟩
section
variable (i : Int) {ch : List (List ChV)} (nm : List ByteArray) (ho : List (List Int))
theorem picks_loop (hn : ch.length ≤ 1000000) (hr : ∀ s, s < ch.length → (ch.getD s []).length ≤ 1000000) : ∀ (m s : Nat) (n : Int), s ≤ ch.length → ch.length - s < m → 0 ≤ n → n ≤ 100000 →
    r17L0 1000001 m n (s : Int) i ch nm ho = some ⟨[pI (picksF n (ch.drop s))], [], []⟩
  | 0, _, _, _, h, _, _ => absurd h (Nat.not_lt_zero _)
  | m + 1, s, n, hs, hm, h1, h2 => by
    show r17S0 (r17L0 1000001 m) n (s : Int) i ch nm ho = _
    unfold r17S0
    by_cases h0 : s < ch.length
    · have hb := hr s h0
      have e1 : 0 ≤ n * zn (ch.getD s []).length := Int.mul_nonneg h1 (by simp only [zn]; omega)
      have e2 : n * zn (ch.getD s []).length ≤ 100000 * 1000000 := by
        refine Int.le_trans (Int.mul_le_mul_of_nonneg_right h2 (by simp only [zn]; omega)) (Int.mul_le_mul_of_nonneg_left (by simp only [zn]; omega) (by omega))
      rw [lt_k h0, inb_k h0, Int.toNat_natCast, i64_in e1 (by omega), wr_k (by omega), drop_get h0 []]
      show _ = some (Lf.mk [pI (bif decide (n * zn (ch.getD s []).length > 100000) then 100000 else picksF (n * zn (ch.getD s []).length) (ch.drop (s + 1)))] [] [])
      by_cases h3 : n * zn (ch.getD s []).length > 100000
      · rw [decide_eq_true h3]; rfl
      · rw [decide_eq_false h3, picks_loop hn hr m (s + 1) _ h0 (by omega) e1 (by omega)]; rfl
    · rw [nlt_k h0, List.drop_eq_nil_of_le (by omega)]; rfl
theorem pick_loop (hn : ch.length ≤ 1000000) (hr : ∀ s, s < ch.length → (ch.getD s []).length ≤ 1000000) (hf : full ch = true) : ∀ (m s k : Nat) (o : List Int), s ≤ ch.length → ch.length - s < m → k ≤ 1000000 → o.length = s →
    r33L0 1000001 m (k : Int) (s : Int) i ch nm ho o = some ⟨[.one (.rw ⟨1, 0⟩)], [], [roI (o ++ pickF k (ch.drop s))]⟩
  | 0, _, _, _, _, h, _, _ => absurd h (Nat.not_lt_zero _)
  | m + 1, s, k, o, hs, hm, hk, ho2 => by
    show r33S0 (r33L0 1000001 m) (k : Int) (s : Int) i ch nm ho o = _
    unfold r33S0
    by_cases h0 : s < ch.length
    · have hb := hr s h0
      have hp : 0 < (ch.getD s []).length := by
        have := List.all_eq_true.1 hf _ (get_mem h0 [])
        exact Nat.le_of_ble_eq_true this
      have e1 : decide (zn (ch.getD s []).length ≠ 0) = true := by simp only [zn, decide_eq_true_eq]; omega
      have e3 : ∀ x : Int, decide ((o.length + [x].length) * 8 ≤ 140737488355328) = true := fun x => by
        rw [decide_eq_true_eq, List.length_singleton]; omega
      have e4 : (k : Int).tdiv (zn (ch.getD s []).length) = ((k / (ch.getD s []).length : Nat) : Int) := by
        rw [Int.tdiv_eq_ediv_of_nonneg (by omega)]; rfl
      have e5 : (k : Int).tmod (zn (ch.getD s []).length) = ((k % (ch.getD s []).length : Nat) : Int) := by
        rw [Int.tmod_eq_emod_of_nonneg (by omega)]; rfl
      have hle : k / (ch.getD s []).length ≤ k := Nat.div_le_self _ _
      have ew : ∀ q : Nat, q ≤ k → IntKind.i64.wrap (q : Int) = (q : Int) := fun q hq => i64_in (by omega) (by omega)
      have ew := ew _ hle
      simp only [Int.toNat_natCast]
      rw [lt_k h0, inb_k h0, e1, e3, e4, e5, ew, wr_k (by omega), drop_get h0 []]
      have ih := pick_loop hn hr hf m (s + 1) (k / (ch.getD s []).length) (o ++ [((k % (ch.getD s []).length : Nat) : Int)]) h0 (by omega) (Nat.le_trans hle hk) (by simp [ho2])
      rw [List.append_assoc] at ih
      exact ih
    · rw [nlt_k h0, List.drop_eq_nil_of_le (by omega)]
      show _ = some (Lf.mk _ _ [roI (o ++ [])])
      rw [List.append_nil]; rfl
/-! ### Come -/
variable {set : List Bool} {pk : List Int} (z : Int)
theorem may_stop (g0 : r20G0) (g1 : r20G1) (t : Bool) {s : Nat} (hs2 : s ≤ 1000000) (l : List MvV) (j : Nat) {may : List Bool} (hs : s < may.length) (hst : may.getD s false = true) (m : Nat) :
    r20L2 1000002 g0 g1 (m + 1) set pk z t (s : Int) l (j : Int) i ch nm ho may = g1 set pk z t ((s + 1 : Nat) : Int) i ch nm ho may := by
  show r20S2 g0 g1 (r20L2 1000002 g0 g1 m) set pk z t (s : Int) l (j : Int) i ch nm ho may = _
  unfold r20S2
  simp only [Int.toNat_natCast]
  rw [hst, inb_k hs, wr_k (k := s) (by omega)]
  cases decide ((j : Int) < zn l.length) <;> rfl
theorem may_loop2 (g0 : r20G0) (g1 : r20G1) (t : Bool) {s : Nat} (hs2 : s ≤ 1000000) {l : List MvV} {may : List Bool} (hs : s < may.length) (hl : rngV may.length l = true) (hl2 : l.length ≤ 1000000) (hgo : may.getD s false = false) : ∀ (m j : Nat), j ≤ l.length → l.length - j + 1 < m →
    r20L2 1000002 g0 g1 m set pk z t (s : Int) l (j : Int) i ch nm ho may = bif (l.drop j).any (yes may) then g1 set pk z true ((s + 1 : Nat) : Int) i ch nm ho (may.set s true) else g1 set pk z t ((s + 1 : Nat) : Int) i ch nm ho may
  | 0, _, _, h => absurd h (Nat.not_lt_zero _)
  | m + 1, j, hj, hm => by
    show r20S2 g0 g1 (r20L2 1000002 g0 g1 m) set pk z t (s : Int) l (j : Int) i ch nm ho may = _
    unfold r20S2
    by_cases h0 : j < l.length
    · have hr : inb (l.getD j (0, 0, ())).1 may.length = true := by
        unfold rngV at hl
        rw [Bool.and_eq_true] at hl
        exact List.all_eq_true.1 hl.2 _ (get_mem h0 (0, 0, ()))
      simp only [Int.toNat_natCast]
      rw [lt_k h0, inb_k hs, hgo, inb_k h0, hr, wr_k (k := j) (by omega), drop_get h0 (0, 0, ()), List.any_cons]
      have e : yes may (l.getD j (0, 0, ())) = may.getD (l.getD j (0, 0, ())).1.toNat false := rfl
      rw [e]
      have ih := may_loop2 g0 g1 t hs2 hs hl hl2 hgo m (j + 1) h0 (by omega)
      cases hy : may.getD (l.getD j (0, 0, ())).1.toNat false with
      | false => exact ih
      | true =>
        cases m with
        | zero => omega
        | succ m => exact may_stop i nm ho z g0 g1 true hs2 l (j + 1) (may := may.set s true) (by rw [List.length_set]; exact hs) (by rw [getD_set may s s true false hs, if_pos rfl]) m
    · simp only [Int.toNat_natCast]
      rw [nlt_k h0, List.drop_eq_nil_of_le (by omega), wr_k (k := s) (by omega)]; rfl
theorem pkG_may : ∀ {ch : List (List ChV)} {pk : List Int}, pkG ch pk = true → pk.length = ch.length ∧ ∀ s, s < ch.length → 0 ≤ pk.getD s 0 ∧ pk.getD s 0 < ((ch.getD s []).length : Int)
  | [], [], _ => ⟨rfl, fun s h => absurd h (Nat.not_lt_zero _)⟩
  | l :: ls, p :: ps, h => by
    have h : (inF (zn l.length) p && pkG ls ps) = true := h
    rw [Bool.and_eq_true] at h
    obtain ⟨h1, h2⟩ := pkG_may h.2
    refine ⟨by rw [List.length_cons, List.length_cons, h1], fun s hs => ?_⟩
    cases s with
    | zero => exact inF_p h.1
    | succ s => exact h2 s (Nat.lt_of_succ_lt_succ hs)
  | [], _ :: _, h => by cases h
  | _ :: _, [], h => by cases h
theorem may_loop1 (hn : ch.length ≤ 1000000) (hset : set.length = ch.length) (hrow : ∀ s, s < ch.length → rgL ch.length (ch.getD s []) = true ∧ ∀ c ∈ ch.getD s [], c.2.1.length ≤ 1000000) (hpk : pkG ch pk = true) (g0 : r20G0) : ∀ (m s : Nat) (may : List Bool) (t : Bool), s ≤ ch.length → ch.length - s < m → may.length = ch.length →
    r20L1 1000002 g0 m set pk (zn ch.length) t (s : Int) i ch nm ho may = g0 set pk (zn ch.length) (passU true (cMay ch pk) (ch.length - s) s may t).2 i ch nm ho (passU true (cMay ch pk) (ch.length - s) s may t).1
  | 0, _, _, _, _, h, _ => absurd h (Nat.not_lt_zero _)
  | m + 1, s, may, t, hs, hm, hl => by
    show r20S1 (r20L2 1000002 g0 (r20L1 1000002 g0 m) 1000002) g0 (r20L1 1000002 g0 m) set pk (zn ch.length) t (s : Int) i ch nm ho may = _
    unfold r20S1
    by_cases h0 : s < ch.length
    · have ef : ch.length - s = (ch.length - (s + 1)) + 1 := by omega
      obtain ⟨p1, p2⟩ := pkG_may hpk
      have hp := p2 s h0
      have hpi : inb (pk.getD s 0) (ch.getD s []).length = true := by simp only [inb, Bool.and_eq_true, decide_eq_true_eq]; exact hp
      have hmem := get_mem (show (pk.getD s 0).toNat < (ch.getD s []).length by omega) ({ data := #[] }, [], ())
      obtain ⟨r1, r2⟩ := hrow s h0
      have hrg : rngV may.length (cho ch pk s).2.1 = true := by
        unfold rgL at r1
        rw [Bool.and_eq_true] at r1
        rw [hl]
        exact List.all_eq_true.1 r1.2 _ hmem
      have hl2 : (cho ch pk s).2.1.length ≤ 1000000 := r2 _ hmem
      rw [ef, passU, lt_k h0, inb_k h0, inb_k (show s < pk.length by omega)]
      simp only [Int.toNat_natCast]
      rw [hpi]
      have ih := fun x y => may_loop1 hn hset hrow hpk g0 m (s + 1) x y h0 (by omega)
      cases hin : may.getD s false with
      | true => exact (may_stop i nm ho (zn ch.length) g0 (r20L1 1000002 g0 m) t (by omega) (cho ch pk s).2.1 0 (by omega) hin 1000001).trans (ih may t hl)
      | false =>
        refine (may_loop2 i nm ho (zn ch.length) g0 (r20L1 1000002 g0 m) t (by omega) (by omega) hrg hl2 hin 1000002 0 (Nat.zero_le _) (by omega)).trans ?_
        rw [List.drop_zero]
        have e : cMay ch pk may s = (cho ch pk s).2.1.any (yes may) := rfl
        rw [e]
        cases (cho ch pk s).2.1.any (yes may) with
        | true => exact ih (may.set s true) true (by rw [List.length_set]; exact hl)
        | false => exact ih may t hl
    · have e0 : ch.length - s = 0 := by omega
      rw [nlt_k h0, e0]; rfl
theorem sure_stop (may : List Bool) (g0 : r20G3) (g1 : r20G4) (t : Bool) {s : Nat} (hs2 : s ≤ 1000000) (l : List MvV) (j : Nat) {su : List Bool} (hs : s < su.length) (hsl : s < set.length) (hst : (su.getD s false = false ∨ set.getD s false = true)) (m : Nat) :
    r20L5 1000002 g0 g1 (m + 1) set pk z t (s : Int) l (j : Int) i ch nm ho may su = g1 set pk z t ((s + 1 : Nat) : Int) i ch nm ho may su := by
  show r20S5 g0 g1 (r20L5 1000002 g0 g1 m) set pk z t (s : Int) l (j : Int) i ch nm ho may su = _
  unfold r20S5
  simp only [Int.toNat_natCast]
  rw [inb_k hs, inb_k hsl, wr_k (k := s) (by omega)]
  rcases hst with h | h
  · rw [h]; cases decide ((j : Int) < zn l.length) <;> rfl
  · rw [h]; cases decide ((j : Int) < zn l.length) <;> cases su.getD s false <;> rfl
theorem sure_loop2 (may : List Bool) (g0 : r20G3) (g1 : r20G4) (t : Bool) {s : Nat} (hs2 : s ≤ 1000000) {l : List MvV} {su : List Bool} (hs : s < su.length) (hsl : s < set.length) (hset : set.getD s false = false) (hl : rngV su.length l = true) (hl2 : l.length ≤ 1000000) (hgo : su.getD s false = true) : ∀ (m j : Nat), j ≤ l.length → l.length - j + 1 < m →
    r20L5 1000002 g0 g1 m set pk z t (s : Int) l (j : Int) i ch nm ho may su = bif (l.drop j).any (no su) then g1 set pk z true ((s + 1 : Nat) : Int) i ch nm ho may (su.set s false) else g1 set pk z t ((s + 1 : Nat) : Int) i ch nm ho may su
  | 0, _, _, h => absurd h (Nat.not_lt_zero _)
  | m + 1, j, hj, hm => by
    show r20S5 g0 g1 (r20L5 1000002 g0 g1 m) set pk z t (s : Int) l (j : Int) i ch nm ho may su = _
    unfold r20S5
    by_cases h0 : j < l.length
    · have hr : inb (l.getD j (0, 0, ())).1 su.length = true := by
        unfold rngV at hl
        rw [Bool.and_eq_true] at hl
        exact List.all_eq_true.1 hl.2 _ (get_mem h0 (0, 0, ()))
      simp only [Int.toNat_natCast]
      rw [lt_k h0, inb_k hs, inb_k hsl, hset, hgo, inb_k h0, hr, wr_k (k := j) (by omega), drop_get h0 (0, 0, ()), List.any_cons]
      have e : no su (l.getD j (0, 0, ())) = !su.getD (l.getD j (0, 0, ())).1.toNat false := rfl
      rw [e]
      have ih := sure_loop2 may g0 g1 t hs2 hs hsl hset hl hl2 hgo m (j + 1) h0 (by omega)
      cases hy : su.getD (l.getD j (0, 0, ())).1.toNat false with
      | true => exact ih
      | false =>
        cases m with
        | zero => omega
        | succ m => exact sure_stop i nm ho z may g0 g1 true hs2 l (j + 1) (su := su.set s false) (by rw [List.length_set]; exact hs) hsl (.inl (by rw [getD_set su s s false false hs, if_pos rfl])) m
    · simp only [Int.toNat_natCast]
      rw [nlt_k h0, List.drop_eq_nil_of_le (by omega), wr_k (k := s) (by omega)]; rfl
theorem pkG_sure : ∀ {ch : List (List ChV)} {pk : List Int}, pkG ch pk = true → pk.length = ch.length ∧ ∀ s, s < ch.length → 0 ≤ pk.getD s 0 ∧ pk.getD s 0 < ((ch.getD s []).length : Int)
  | [], [], _ => ⟨rfl, fun s h => absurd h (Nat.not_lt_zero _)⟩
  | l :: ls, p :: ps, h => by
    have h : (inF (zn l.length) p && pkG ls ps) = true := h
    rw [Bool.and_eq_true] at h
    obtain ⟨h1, h2⟩ := pkG_sure h.2
    refine ⟨by rw [List.length_cons, List.length_cons, h1], fun s hs => ?_⟩
    cases s with
    | zero => exact inF_p h.1
    | succ s => exact h2 s (Nat.lt_of_succ_lt_succ hs)
  | [], _ :: _, h => by cases h
  | _ :: _, [], h => by cases h
theorem sure_loop1 (may : List Bool) (hn : ch.length ≤ 1000000) (hset : set.length = ch.length) (hrow : ∀ s, s < ch.length → rgL ch.length (ch.getD s []) = true ∧ ∀ c ∈ ch.getD s [], c.2.1.length ≤ 1000000) (hpk : pkG ch pk = true) (g0 : r20G3) : ∀ (m s : Nat) (su : List Bool) (t : Bool), s ≤ ch.length → ch.length - s < m → su.length = ch.length →
    r20L4 1000002 g0 m set pk (zn ch.length) t (s : Int) i ch nm ho may su = g0 set pk (zn ch.length) (passU false (cSure ch pk set) (ch.length - s) s su t).2 i ch nm ho may (passU false (cSure ch pk set) (ch.length - s) s su t).1
  | 0, _, _, _, _, h, _ => absurd h (Nat.not_lt_zero _)
  | m + 1, s, su, t, hs, hm, hl => by
    show r20S4 (r20L5 1000002 g0 (r20L4 1000002 g0 m) 1000002) g0 (r20L4 1000002 g0 m) set pk (zn ch.length) t (s : Int) i ch nm ho may su = _
    unfold r20S4
    by_cases h0 : s < ch.length
    · have ef : ch.length - s = (ch.length - (s + 1)) + 1 := by omega
      obtain ⟨p1, p2⟩ := pkG_sure hpk
      have hp := p2 s h0
      have hpi : inb (pk.getD s 0) (ch.getD s []).length = true := by simp only [inb, Bool.and_eq_true, decide_eq_true_eq]; exact hp
      have hmem := get_mem (show (pk.getD s 0).toNat < (ch.getD s []).length by omega) ({ data := #[] }, [], ())
      obtain ⟨r1, r2⟩ := hrow s h0
      have hrg : rngV su.length (cho ch pk s).2.1 = true := by
        unfold rgL at r1
        rw [Bool.and_eq_true] at r1
        rw [hl]
        exact List.all_eq_true.1 r1.2 _ hmem
      have hl2 : (cho ch pk s).2.1.length ≤ 1000000 := r2 _ hmem
      rw [ef, passU, lt_k h0, inb_k h0, inb_k (show s < pk.length by omega)]
      simp only [Int.toNat_natCast]
      rw [hpi]
      have ih := fun x y => sure_loop1 may hn hset hrow hpk g0 m (s + 1) x y h0 (by omega)
      have e : cSure ch pk set su s = (!set.getD s false && (cho ch pk s).2.1.any (no su)) := rfl
      rw [e]
      cases hin : su.getD s false with
      | false => exact (sure_stop i nm ho (zn ch.length) may g0 (r20L4 1000002 g0 m) t (by omega) (cho ch pk s).2.1 0 (by omega) (by omega) (.inl hin) 1000001).trans (ih su t hl)
      | true =>
        cases hse : set.getD s false with
        | true => exact (sure_stop i nm ho (zn ch.length) may g0 (r20L4 1000002 g0 m) t (by omega) (cho ch pk s).2.1 0 (by omega) (by omega) (.inr hse) 1000001).trans (ih su t hl)
        | false =>
          refine (sure_loop2 i nm ho (zn ch.length) may g0 (r20L4 1000002 g0 m) t (by omega) (by omega) (by omega) hse hrg hl2 hin 1000002 0 (Nat.zero_le _) (by omega)).trans ?_
          rw [List.drop_zero]
          cases (cho ch pk s).2.1.any (no su) with
          | true => exact ih (su.set s false) true (by rw [List.length_set]; exact hl)
          | false => exact ih su t hl
    · have e0 : ch.length - s = 0 := by omega
      rw [nlt_k h0, e0]; rfl
theorem sure_loop0 (may : List Bool) (hn : ch.length ≤ 1000000) (hset : set.length = ch.length) (hrow : ∀ s, s < ch.length → rgL ch.length (ch.getD s []) = true ∧ ∀ c ∈ ch.getD s [], c.2.1.length ≤ 1000000) (hpk : pkG ch pk = true) : ∀ (f m : Nat) (su : List Bool), f < m → su.length = ch.length → nb false su < f →
    r20L3 1000002 m set pk (zn ch.length) true i ch nm ho may su = some ⟨[.one (.rw ⟨1, 0⟩), .one (.rw ⟨1, 1⟩)], [], [roB may, roB (fixU false (cSure ch pk set) ch.length f su)]⟩
  | 0, _, _, _, _, h => absurd h (Nat.not_lt_zero _)
  | _ + 1, 0, _, h, _, _ => absurd h (Nat.not_lt_zero _)
  | f + 1, m + 1, su, hm, hl, hf => by
    show r20S3 (r20L4 1000002 (r20L3 1000002 m) 1000002) (r20L3 1000002 m) set pk (zn ch.length) true i ch nm ho may su = _
    unfold r20S3
    have p := pass_ok false (cSure ch pk set) ch.length 0 su false (by omega)
    have r1 := sure_loop1 i nm ho may hn hset hrow hpk (r20L3 1000002 m) 1000002 0 su false (Nat.zero_le _) (by omega) hl
    have r1' : r20L4 1000002 (r20L3 1000002 m) 1000002 set pk (zn ch.length) false 0 i ch nm ho may su = _ := r1
    rw [r1', fixU, Nat.sub_zero]
    cases hc : (passU false (cSure ch pk set) ch.length 0 su false).2 with
    | true => exact sure_loop0 may hn hset hrow hpk f m _ (by omega) (p.len.trans hl) (by have := (p.lt hc).resolve_left (by simp); omega)
    | false =>
      cases m with
      | zero => omega
      | succ m => rfl
theorem may_loop0 (hn : ch.length ≤ 1000000) (hset : set.length = ch.length) (hrow : ∀ s, s < ch.length → rgL ch.length (ch.getD s []) = true ∧ ∀ c ∈ ch.getD s [], c.2.1.length ≤ 1000000) (hpk : pkG ch pk = true) : ∀ (f m : Nat) (may : List Bool), f < m → may.length = ch.length → nb true may < f →
    r20L0 1000002 m set pk (zn ch.length) true i ch nm ho may = r20L3 1000002 1000002 set pk (zn ch.length) true i ch nm ho (fixU true (cMay ch pk) ch.length f may) (fixU true (cMay ch pk) ch.length f may)
  | 0, _, _, _, _, h => absurd h (Nat.not_lt_zero _)
  | _ + 1, 0, _, h, _, _ => absurd h (Nat.not_lt_zero _)
  | f + 1, m + 1, may, hm, hl, hf => by
    show r20S0 (r20L1 1000002 (r20L0 1000002 m) 1000002) (r20L3 1000002 1000002) (r20L0 1000002 m) set pk (zn ch.length) true i ch nm ho may = _
    unfold r20S0
    have p := pass_ok true (cMay ch pk) ch.length 0 may false (by omega)
    have r1 := may_loop1 i nm ho hn hset hrow hpk (r20L0 1000002 m) 1000002 0 may false (Nat.zero_le _) (by omega) hl
    have r1' : r20L1 1000002 (r20L0 1000002 m) 1000002 set pk (zn ch.length) false 0 i ch nm ho may = _ := r1
    rw [r1', fixU, Nat.sub_zero]
    cases hc : (passU true (cMay ch pk) ch.length 0 may false).2 with
    | true => exact may_loop0 hn hset hrow hpk f m _ (by omega) (p.len.trans hl) (by have := (p.lt hc).resolve_left (by simp); omega)
    | false =>
      cases m with
      | zero => omega
      | succ m =>
        have hpl := p.len
        show r20S0 (r20L1 1000002 (r20L0 1000002 m) 1000002) (r20L3 1000002 1000002) (r20L0 1000002 m) set pk (zn ch.length) false i ch nm ho (passU true (cMay ch pk) ch.length 0 may false).1 = _
        unfold r20S0
        rw [decide_eq_true (show (0 + (passU true (cMay ch pk) ch.length 0 may false).1.length) * 1 ≤ 140737488355328 by omega)]; rfl
theorem come_T (h : comeG ch nm ho set pk = true) : r20M 1000002 i ch nm ho set pk = some ⟨[.one (.rw ⟨1, 0⟩), .one (.rw ⟨1, 1⟩)], [], [roB (mayP ch set pk), roB (sureP ch set pk)]⟩ := by
  unfold comeG at h
  simp only [Bool.and_eq_true] at h
  obtain ⟨hof, hg, hpk⟩ := h
  obtain ⟨g1, g2, g3⟩ := rgS_p hg
  have hrow : ∀ s, s < ch.length → rgL ch.length (ch.getD s []) = true ∧ ∀ c ∈ ch.getD s [], c.2.1.length ≤ 1000000 := fun s hs => by
    refine ⟨g3 s hs, fun c hc => ?_⟩
    unfold ofMG m6 at hof
    simp only [Bool.and_eq_true, List.all_eq_true] at hof
    exact of_ble ((hof.1.2 _ (get_mem hs [])).2 c hc)
  unfold r20M r20T
  rw [decide_eq_true (show (0 + set.length) * 1 ≤ 140737488355328 by omega)]
  have hl : (mayP ch set pk).length = set.length := (fix_ok true (cMay ch pk) _ set rfl (Nat.lt_succ_of_le (nb_le _ _))).len
  have r0 := may_loop0 i nm ho g2 g1 hrow hpk (set.length + 1) 1000002 set (by omega) g1 (Nat.lt_succ_of_le (nb_le _ _))
  have r1 := sure_loop0 i nm ho (mayP ch set pk) g2 g1 hrow hpk (set.length + 1) 1000002 (mayP ch set pk) (by omega) (by omega) (Nat.lt_succ_of_le (by have := nb_le false (mayP ch set pk); omega))
  unfold sureP
  rw [← g1] at r0 r1
  exact r0.trans r1
end
theorem picks_ok : FnOk P C0 17 picksS := by
  refine fn_okC ctx1 (show P.funcs[17]? = some r17f by kernel_rfl) (of_decide_eq_true (by kernel_rfl)) (picksS) r17h (fun ds os lf hp => ?_)
  unfold picksS at hp
  simp only at hp
  split at hp
  · rename_i i ch nm ho
    obtain ⟨hc, hp1⟩ := br_pick hp
    have hl := leaf_pick hp1
    subst hl
    obtain ⟨a, b⟩ := sizes hc
    exact ⟨1000001, (r17_ev _ i ch nm ho).trans (picks_loop i nm ho a b 1000001 0 1 (Nat.zero_le _) (by omega) (by omega) (by omega))⟩
  · cases hp
theorem pick_ok : FnOk P C0 33 pickS := by
  refine fn_okC ctx1 (show P.funcs[33]? = some r33f by kernel_rfl) (of_decide_eq_true (by kernel_rfl)) (pickS) r33h (fun ds os lf hp => ?_)
  unfold pickS at hp
  simp only at hp
  split at hp
  · rename_i i ch nm ho k
    obtain ⟨hc, hp1⟩ := br_pick hp
    have hl := leaf_pick hp1
    subst hl
    simp only [Bool.and_eq_true, decide_eq_true_eq] at hc
    obtain ⟨hc, hf, h1, h2⟩ := hc
    obtain ⟨a, b⟩ := sizes hc
    obtain ⟨k, rfl⟩ := Int.eq_ofNat_of_zero_le h1
    have h2 : (k : Int) ≤ 1000000 := h2
    exact ⟨1000001, (r33_ev _ i ch nm ho k).trans (pick_loop i nm ho a b hf 1000001 0 k [] (Nat.zero_le _) (by omega) (by omega) rfl)⟩
  · cases hp
theorem come_ok : FnOk P C0 20 comeS := by
  refine fn_okC ctx1 (show P.funcs[20]? = some r20f by kernel_rfl) (of_decide_eq_true (by kernel_rfl)) (comeS) r20h (fun ds os lf hp => ?_)
  unfold comeS at hp
  simp only at hp
  split at hp
  · rename_i i ch nm ho set pk
    obtain ⟨hc, hp1⟩ := br_pick hp
    have hl := leaf_pick hp1
    subst hl
    exact ⟨_, (r20_ev _ i ch nm ho set pk).trans (come_T i nm ho hc)⟩
  · cases hp
theorem ctx20 : CtxOk C20 := fun _ _ h => tbl_ok (l := [(17, picksS), (33, pickS), (20, comeS)]) ⟨picks_ok, pick_ok, come_ok, trivial⟩ h
end Go.S22
