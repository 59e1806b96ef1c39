/-
  Seat 22: to more states more come.
-/
import Derived.Test.YtjkojhpmiijgfaaDoorS22Q
open Go Go.En
namespace Go.S22
section
variable {ch : List (List ChV)} {set wide : List Bool} (hg : rgS ch set = true) (hw : rgS ch wide = true) (hsub : ∀ j, j < set.length → isIn set j → isIn wide j)
include hg hw hsub
theorem grow_A : ∀ j, j < set.length → isIn (wideA ch set).1 j → isIn (wideA ch wide).1 j := by
  have hl : wide.length = set.length := by rw [(rgS_p hw).1, (rgS_p hg).1]
  have a := wideA_ok (ch := ch) (set := set)
  refine a.ind _ (fun j hj h => wideA_ok.up j (by omega) (hsub j hj h)) (fun j L hj _ _ hL hX hq _ => ?_)
  obtain ⟨c, hc, hp⟩ := (idx_yes _ _).1 hq
  obtain ⟨v, hv, hi⟩ := (yesC_iff _ _).1 hp
  exact A_step hw (by omega) hc hv (hX _ (move_lt hg hj hc hv) hi).1
theorem grow_S (hf : full ch = true) : ∀ j, j < set.length → isIn (sureF ch set).1 j → isIn (sureF ch wide).1 j := by
  have hl : wide.length = set.length := by rw [(rgS_p hw).1, (rgS_p hg).1]
  obtain ⟨I, h1, h2, h3⟩ := sure_is hw
  rw [h1, h2]
  intro j hj h
  refine h3 (fun j => isIn (sureF ch set).1 j) (fun inn' hin j hj hj2 => ?_) (fun j hj h => ?_) j (by omega) h
  · have w := wideB_ok (ch := ch) (inS := (sureF ch set).1) (set := set)
    rw [← sure_eq hg] at w
    refine w.ind (fun j => isIn (wideB ch inn' wide).1 j) (fun j hj h => wideB_ok.up j (by omega) (hsub j hj h)) (fun j L hj _ _ hL hX hq _ => ?_) j (by omega) hj2
    obtain ⟨c, hc, hp⟩ := (idx_yes _ _).1 hq
    unfold wB at hp
    rw [Bool.and_eq_true] at hp
    obtain ⟨v, hv, hi⟩ := (yesC_iff _ _).1 hp.1
    exact B_step hw (by omega) hc hv (hX _ (move_lt hg hj hc hv) hi).1 ((two_iff _ _).2 fun x hx => hin _ (by have := move_lt hg hj hc hx; omega) ((two_iff _ _).1 hp.2 x hx))
  · exact grow_A hg hw hsub j (by omega) (may_A hg (S_picks hg hf).1 j (by omega) (sure_may hg (by omega) (S_sure hg hf j (by omega) h)))
theorem grow_C : ∀ j, j < set.length → isIn (allF ch set) j → isIn (allF ch wide) j := by
  have hl : wide.length = set.length := by rw [(rgS_p hw).1, (rgS_p hg).1]
  have c := C_ok hg
  have c2 := C_ok hw
  refine c.ind _ (fun j hj h => c2.up j (by omega) (hsub j hj h)) (fun L j hL hj hX hC => ?_)
  by_cases h : isIn (allF ch wide) j
  · exact h
  · exfalso
    have hno := c2.no j (by omega) h
    unfold cAll at hno hC
    rw [Bool.not_eq_false'] at hno
    rw [Bool.not_eq_true', List.any_eq_false] at hC
    obtain ⟨x, hx, hy⟩ := List.any_eq_true.1 hno
    have := hC x hx
    unfold allC at this hy
    rw [Bool.not_eq_true', Bool.not_eq_false] at this
    rw [Bool.not_eq_true'] at hy
    obtain ⟨v, hv, hi⟩ := (yesC_iff _ _).1 this
    rw [(yesC_iff _ _).2 ⟨v, hv, hX _ (by have := move_lt hg (show j < set.length by omega) hx hv; omega) hi⟩] at hy; cases hy
theorem grow_D : ∀ j, j < set.length → isIn (mustSureF ch set) j → isIn (mustSureF ch wide) j := by
  have hl : wide.length = set.length := by rw [(rgS_p hw).1, (rgS_p hg).1]
  intro j hj h
  refine (D_iff hw (by omega)).2 fun ha => (D_iff hg hj).1 h ?_
  refine away_ind hw (fun j => isIn (awayF ch set) j) (fun j hj hn => away_base hg (by omega) fun hc => hn (grow_C hg hw hsub j (by omega) hc)) (fun L j hL hj hX hC => ?_) j (by omega) ha
  unfold cAway at hC
  rw [Bool.and_eq_true] at hC
  obtain ⟨x, hx, hy⟩ := List.any_eq_true.1 hC.2
  obtain ⟨v, hv, hi⟩ := (yesC_iff _ _).1 hy
  refine away_step hg (by omega) (fun hs => ?_) hx hv (hX _ (move_lt hw hj hx hv) hi)
  have := hsub j (by omega) hs
  unfold isIn at this
  rw [this] at hC; exact absurd hC.1 (by simp)
end
theorem A_eq {ch : List (List ChV)} {set : List Bool} (hg : rgS ch set = true) {s : Nat} (hs : s < set.length) : (wideA ch set).1.getD s false = (set.getD s false || (ch.getD s []).any (yesC (wideA ch set).1)) := by
  have w := wideA_ok (ch := ch) (set := set)
  cases h1 : set.getD s false with
  | true => exact w.up s hs h1
  | false =>
    rw [Bool.false_or]
    cases h2 : (ch.getD s []).any (yesC (wideA ch set).1) with
    | true =>
      obtain ⟨c, hc, hy⟩ := List.any_eq_true.1 h2
      obtain ⟨v, hv, hi⟩ := (yesC_iff _ _).1 hy
      exact A_step hg hs hc hv hi
    | false =>
      refine notIn fun h => ?_
      have : isIn set s ∨ (ch.getD s []).any (yesC (wideA ch set).1) = true := by
        refine w.ind (fun j => isIn set j ∨ (ch.getD j []).any (yesC (wideA ch set).1) = true) (fun j _ h => .inl h) (fun j L hj _ _ hL hX hq _ => ?_) s hs h
        obtain ⟨c, hc, hp⟩ := (idx_yes _ _).1 hq
        obtain ⟨v, hv, hi⟩ := (yesC_iff _ _).1 hp
        exact .inr (List.any_eq_true.2 ⟨c, hc, (yesC_iff _ _).2 ⟨v, hv, (hX _ (move_lt hg hj hc hv) hi).2⟩⟩)
      rcases this with h | h
      · unfold isIn at h; rw [h1] at h; cases h
      · rw [h2] at h; cases h
section
variable (i : Int) {ch : List (List ChV)} (nm : List ByteArray) (ho : List (List Int)) {set A S C D A2 S2 C2 D2 : List Bool} {q : List Int}
theorem gr_loop2 (g0 : r6G0) (g1 : r6G1) {s k : Nat} (hs : s < ch.length) (hk : k < (ch.getD s []).length) (hk2 : k ≤ 1000000) (hA : A.length = ch.length) (hr : rngV ch.length ((ch.getD s []).getD k ({ data := #[] }, [], ())).2.1 = true) (hl : ((ch.getD s []).getD k ({ data := #[] }, [], ())).2.1.length ≤ 1000000) : ∀ (m j : Nat) (may : Bool), j ≤ ((ch.getD s []).getD k ({ data := #[] }, [], ())).2.1.length → ((ch.getD s []).getD k ({ data := #[] }, [], ())).2.1.length - j < m →
    r6L2 1000002 g0 g1 m set (s : Int) may (k : Int) (j : Int) i ch nm ho A S q C D A2 S2 C2 D2 = g1 set (s : Int) (may || (((ch.getD s []).getD k ({ data := #[] }, [], ())).2.1.drop j).any (yes A)) ((k + 1 : Nat) : Int) i ch nm ho A S q C D A2 S2 C2 D2
  | 0, _, _, _, h => absurd h (Nat.not_lt_zero _)
  | m + 1, j, may, hj, hm => by
    show r6S2 g0 g1 (r6L2 1000002 g0 g1 m) set (s : Int) may (k : Int) (j : Int) i ch nm ho A S q C D A2 S2 C2 D2 = _
    unfold r6S2
    simp only [Int.toNat_natCast]
    rw [inb_k hs, inb_k hk]
    by_cases h0 : j < ((ch.getD s []).getD k ({ data := #[] }, [], ())).2.1.length
    · have hi : inb (((ch.getD s []).getD k ({ data := #[] }, [], ())).2.1.getD j (0, 0, ())).1 A.length = true := by
        rw [hA]
        unfold rngV at hr
        rw [Bool.and_eq_true] at hr
        exact List.all_eq_true.1 hr.2 _ (get_mem h0 (0, 0, ()))
      rw [lt_k h0, inb_k h0, hi, wr_k (k := j) (by omega), drop_get h0 (0, 0, ()), List.any_cons, ← Bool.or_assoc]
      have ih := gr_loop2 g0 g1 hs hk hk2 hA hr hl m (j + 1) (may || yes A (((ch.getD s []).getD k ({ data := #[] }, [], ())).2.1.getD j (0, 0, ()))) h0 (by omega)
      cases may <;> exact ih
    · rw [nlt_k h0, wr_k (k := k) (by omega), List.drop_eq_nil_of_le (by omega)]
      show g1 set (s : Int) may _ _ _ _ _ _ _ _ _ _ _ _ _ _ = g1 set (s : Int) (may || false) _ _ _ _ _ _ _ _ _ _ _ _ _ _
      rw [Bool.or_false]
theorem gr_loop1 (g0 : r6G0) {s : Nat} (hs : s < ch.length) (hA : A.length = ch.length) (hrow : rgL ch.length (ch.getD s []) = true) (hsz : (ch.getD s []).length ≤ 10 ∧ ∀ c ∈ ch.getD s [], c.2.1.length ≤ 20) : ∀ (m k : Nat) (may : Bool), k ≤ (ch.getD s []).length → (ch.getD s []).length - k < m → A.getD s false = (may || ((ch.getD s []).drop k).any (yesC A)) →
    r6L1 1000002 g0 m set (s : Int) may (k : Int) i ch nm ho A S q C D A2 S2 C2 D2 = r6L3 1000002 g0 1000002 set (s : Int) 0 i ch nm ho A S q C D A2 S2 C2 D2
  | 0, _, _, _, h, _ => absurd h (Nat.not_lt_zero _)
  | m + 1, k, may, hk, hm, he => by
    show r6S1 (r6L2 1000002 g0 (r6L1 1000002 g0 m) 1000002) (r6L3 1000002 g0 1000002) g0 (r6L1 1000002 g0 m) set (s : Int) may (k : Int) i ch nm ho A S q C D A2 S2 C2 D2 = _
    unfold r6S1
    simp only [Int.toNat_natCast]
    rw [inb_k hs]
    by_cases h0 : k < (ch.getD s []).length
    · have hmem := get_mem h0 ({ data := #[] }, [], ())
      have hr : rngV ch.length ((ch.getD s []).getD k ({ data := #[] }, [], ())).2.1 = true := by
        unfold rgL at hrow
        rw [Bool.and_eq_true] at hrow
        exact List.all_eq_true.1 hrow.2 _ hmem
      rw [lt_k h0]
      refine (gr_loop2 i nm ho g0 (r6L1 1000002 g0 m) hs h0 (by have := hsz.1; omega) hA hr (by have := hsz.2 _ hmem; omega) 1000002 0 may (Nat.zero_le _) (by have := hsz.2 _ hmem; omega)).trans ?_
      refine gr_loop1 g0 hs hA hrow hsz m (k + 1) _ h0 (by omega) ?_
      rw [he, drop_get h0 ({ data := #[] }, [], ()), List.any_cons, List.drop_zero, Bool.or_assoc]; rfl
    · have e : A.getD s false = may := by rw [he, List.drop_eq_nil_of_le (by omega)]; exact Bool.or_false _
      rw [nlt_k h0, inb_k (show s < A.length by omega), e]
      cases may <;> rfl
theorem gr_loop3 (g0 : r6G0) {s : Nat} (hs : s < ch.length) (hs2 : s ≤ 1000000) (hset : set.length = ch.length) (hS : S.length = ch.length) (hq : pkG ch q = true) (hr : rngV ch.length (cho ch q s).2.1 = true) (hl : (cho ch q s).2.1.length ≤ 1000000) (ht : isIn S s → ¬ isIn set s → two25 S (cho ch q s).2.1 = true) : ∀ (m j : Nat), j ≤ (cho ch q s).2.1.length → (cho ch q s).2.1.length - j < m →
    r6L3 1000002 g0 m set (s : Int) (j : Int) i ch nm ho A S q C D A2 S2 C2 D2 = g0 set ((s + 1 : Nat) : Int) i ch nm ho A S q C D A2 S2 C2 D2
  | 0, _, _, h => absurd h (Nat.not_lt_zero _)
  | m + 1, j, hj, hm => by
    obtain ⟨q1, q2⟩ := pkG_may hq
    have hqi : inb (q.getD s 0) (ch.getD s []).length = true := by simp only [inb, Bool.and_eq_true, decide_eq_true_eq]; exact q2 s hs
    show r6S3 g0 (r6L3 1000002 g0 m) set (s : Int) (j : Int) i ch nm ho A S q C D A2 S2 C2 D2 = _
    unfold r6S3
    simp only [Int.toNat_natCast]
    have ec : (ch.getD s []).getD (q.getD s 0).toNat ({ data := #[] }, [], ()) = cho ch q s := rfl
    simp only [ec]
    rw [inb_k hs, inb_k (show s < q.length by omega), hqi, inb_k (show s < S.length by omega), inb_k (show s < set.length by omega), wr_k (k := s) (by omega)]
    by_cases h0 : j < (cho ch q s).2.1.length
    · have hi : inb ((cho ch q s).2.1.getD j (0, 0, ())).1 S.length = true := by
        rw [hS]
        unfold rngV at hr
        rw [Bool.and_eq_true] at hr
        exact List.all_eq_true.1 hr.2 _ (get_mem h0 (0, 0, ()))
      rw [lt_k h0, inb_k h0, hi, wr_k (k := j) (by omega)]
      have ih := gr_loop3 g0 hs hs2 hset hS hq hr hl ht m (j + 1) h0 (by omega)
      cases h1 : S.getD s false with
      | false => cases set.getD s false <;> rfl
      | true =>
        cases h2 : set.getD s false with
        | true => rfl
        | false =>
          have h3 := (two_iff _ _).1 (ht h1 (by unfold isIn; rw [h2]; simp)) _ (get_mem h0 (0, 0, ()))
          unfold isIn at h3
          rw [h3]
          exact ih
    · rw [nlt_k h0]; rfl
theorem gr_loop0 (hg : rgS ch set = true) (hf : full ch = true) (hfar : ∀ l ∈ ch, l.length ≤ 10 ∧ ∀ c ∈ l, c.2.1.length ≤ 20) (hS : S.length = ch.length) (hC : C.length = ch.length) (hD : D.length = ch.length) (hA2 : A2.length = ch.length) (hS2 : S2.length = ch.length) (hC2 : C2.length = ch.length) (hD2 : D2.length = ch.length)
    (hA : A = (wideA ch set).1) (hq : pkG ch q = true) (ht : ∀ j, j < set.length → isIn S j → ¬ isIn set j → two25 S (cho ch q j).2.1 = true) (h1 : ∀ j, j < set.length → isIn A j → isIn A2 j) (h2 : ∀ j, j < set.length → isIn S j → isIn S2 j) (h3 : ∀ j, j < set.length → isIn C j → isIn C2 j) (h4 : ∀ j, j < set.length → isIn D j → isIn D2 j) : ∀ (m s : Nat), s ≤ set.length → set.length - s < m →
    r6L0 1000002 m set (s : Int) i ch nm ho A S q C D A2 S2 C2 D2 = some ⟨[pB true], [], []⟩
  | 0, _, _, h => absurd h (Nat.not_lt_zero _)
  | m + 1, s, hs0, hm0 => by
    obtain ⟨g1, g2, g3⟩ := rgS_p hg
    have hAl : A.length = ch.length := by rw [hA, wideA_ok.len]; exact g1
    show r6S0 (r6L1 1000002 (r6L0 1000002 m) 1000002) (r6L0 1000002 m) set (s : Int) i ch nm ho A S q C D A2 S2 C2 D2 = _
    unfold r6S0
    by_cases h0 : s < set.length
    · have ih := gr_loop0 hg hf hfar hS hC hD hA2 hS2 hC2 hD2 hA hq ht h1 h2 h3 h4 m (s + 1) h0 (by omega)
      have hsc : s < ch.length := by omega
      have hz := hfar _ (get_mem hsc [])
      have hcm := cho_mem hq hsc
      have r1 := gr_loop1 i nm ho (set := set) (A := A) (S := S) (C := C) (D := D) (A2 := A2) (S2 := S2) (C2 := C2) (D2 := D2) (q := q) (r6L0 1000002 m) hsc hAl (g3 s hsc) hz 1000002 0 (set.getD s false) (Nat.zero_le _) (by have := hz.1; omega) (by rw [hA, List.drop_zero]; exact A_eq hg h0)
      have r3 := gr_loop3 i nm ho (set := set) (A := A) (S := S) (C := C) (D := D) (A2 := A2) (S2 := S2) (C2 := C2) (D2 := D2) (q := q) (r6L0 1000002 m) hsc (by omega) g1 hS hq (by
        have := g3 s hsc
        unfold rgL at this
        rw [Bool.and_eq_true] at this
        exact List.all_eq_true.1 this.2 _ hcm) (by have := hz.2 _ hcm; omega) (ht s h0) 1000002 0 (Nat.zero_le _) (by have := hz.2 _ hcm; omega)
      have fin := r1.trans (r3.trans ih)
      have a := h1 s h0
      have b := h2 s h0
      have c := h3 s h0
      have d := h4 s h0
      unfold isIn at a b c d
      rw [lt_k h0, inb_k (show s < A.length by omega), inb_k (show s < S.length by omega), inb_k (show s < C.length by omega), inb_k (show s < D.length by omega), inb_k (show s < A2.length by omega), inb_k (show s < S2.length by omega), inb_k (show s < C2.length by omega), inb_k (show s < D2.length by omega), inb_k h0, Int.toNat_natCast]
      have key : ∀ x x2 y y2 z z2 w w2 : Bool, (x = true → x2 = true) → (y = true → y2 = true) → (z = true → z2 = true) → (w = true → w2 = true) → (Nat.beq 1 1 && (true && (Nat.beq 1 1 && bif x then Nat.beq 1 1 && (true && (Nat.beq 1 1 && (!x2 || Nat.beq 1 1 && (true && (Nat.beq 1 1 && bif y then Nat.beq 1 1 && (true && (Nat.beq 1 1 && (!y2 || Nat.beq 1 1 && (true && (Nat.beq 1 1 && bif z then Nat.beq 1 1 && (true && (Nat.beq 1 1 && (!z2 || Nat.beq 1 1 && (true && (Nat.beq 1 1 && bif w then Nat.beq 1 1 && (true && true) else true))))) else Nat.beq 1 1 && (true && (Nat.beq 1 1 && bif w then Nat.beq 1 1 && (true && true) else true))))))) else Nat.beq 1 1 && (true && (Nat.beq 1 1 && bif z then Nat.beq 1 1 && (true && (Nat.beq 1 1 && (!z2 || Nat.beq 1 1 && (true && (Nat.beq 1 1 && bif w then Nat.beq 1 1 && (true && true) else true))))) else Nat.beq 1 1 && (true && (Nat.beq 1 1 && bif w then Nat.beq 1 1 && (true && true) else true))))))))) else Nat.beq 1 1 && (true && (Nat.beq 1 1 && bif y then Nat.beq 1 1 && (true && (Nat.beq 1 1 && (!y2 || Nat.beq 1 1 && (true && (Nat.beq 1 1 && bif z then Nat.beq 1 1 && (true && (Nat.beq 1 1 && (!z2 || Nat.beq 1 1 && (true && (Nat.beq 1 1 && bif w then Nat.beq 1 1 && (true && true) else true))))) else Nat.beq 1 1 && (true && (Nat.beq 1 1 && bif w then Nat.beq 1 1 && (true && true) else true))))))) else Nat.beq 1 1 && (true && (Nat.beq 1 1 && bif z then Nat.beq 1 1 && (true && (Nat.beq 1 1 && (!z2 || Nat.beq 1 1 && (true && (Nat.beq 1 1 && bif w then Nat.beq 1 1 && (true && true) else true))))) else Nat.beq 1 1 && (true && (Nat.beq 1 1 && bif w then Nat.beq 1 1 && (true && true) else true))))))))) = true ∧ (bif x then !x2 || bif y then !y2 || bif z then !z2 || w && !w2 else w && !w2 else bif z then !z2 || w && !w2 else w && !w2 else bif y then !y2 || bif z then !z2 || w && !w2 else w && !w2 else bif z then !z2 || w && !w2 else w && !w2) = false := by decide
      obtain ⟨k1, k2⟩ := key _ _ _ _ _ _ _ _ a b c d
      rw [k1, k2]
      exact fin
    · rw [nlt_k h0]; rfl
end
theorem grows_T (i : Int) (ch : List (List ChV)) (nm : List ByteArray) (ho : List (List Int)) (set : List Bool) (more : Int) (hmore : 0 ≤ more ∧ more ≤ 255) : r6M 1000002 i ch nm ho set more = some ⟨[pB true], [], []⟩ := by
  unfold r6M r6T
  rw [okS_not]
  cases hfar : farM ch nm ho with
  | true => rfl
  | false =>
    have hof := ofMG_no hfar
    rw [mdG_of hof, hof]
    cases hc : okS i ch nm ho set with
    | false => cases mdOk i ch nm ho <;> rfl
    | true =>
      have F := facts hfar hc
      have hmd : mdOk i ch nm ho = true := by unfold okS at hc; rw [Bool.and_eq_true] at hc; exact hc.1
      have hn := F.n
      have hl := F.len
      have hpos : 0 < ch.length := by
        unfold mdOk at hmd
        rw [Bool.and_eq_true] at hmd
        have := headM_p hmd.1
        omega
      rw [hmd, i64_in (a := more) (by omega) (by omega), Int.tmod_eq_emod_of_nonneg hmore.1]
      obtain ⟨k, hk⟩ := Int.eq_ofNat_of_zero_le (Int.emod_nonneg more (show zn set.length ≠ 0 by simp only [zn]; omega))
      have hk2 := Int.emod_lt_of_pos more (show 0 < zn set.length by simp only [zn]; omega)
      rw [hk] at hk2 ⊢
      have hk3 : k < set.length := by simp only [zn] at hk2; omega
      rw [decide_eq_true (show (0 + set.length) * 1 ≤ 140737488355328 by omega), decide_eq_true (show zn set.length ≠ 0 by simp only [zn]; omega), inb_k hk3, Int.toNat_natCast]
      have hc2 : okS i ch nm ho (set.set k true) = true := by
        unfold okS at hc ⊢
        rw [List.length_set]; exact hc
      have F2 := facts hfar hc2
      have hl2 := F2.len
      have v1 : mayV i ch nm ho set = ((wideA ch set).1, (wideA ch set).2, .nil) := by unfold mayV; rw [hc]; rfl
      have v2 : sureV i ch nm ho set = ((sureF ch set).1, (sureF ch set).2, .nil) := by unfold sureV; rw [hc]; rfl
      have v3 : mustMayV i ch nm ho set = (allF ch set, .nil) := by unfold mustMayV; rw [hc]; rfl
      have v4 : mustSureV i ch nm ho set = (mustSureF ch set, .nil) := by unfold mustSureV; rw [hc]; rfl
      have w1 : mayV i ch nm ho (set.set k true) = ((wideA ch (set.set k true)).1, (wideA ch (set.set k true)).2, .nil) := by unfold mayV; rw [hc2]; rfl
      have w2 : sureV i ch nm ho (set.set k true) = ((sureF ch (set.set k true)).1, (sureF ch (set.set k true)).2, .nil) := by unfold sureV; rw [hc2]; rfl
      have w3 : mustMayV i ch nm ho (set.set k true) = (allF ch (set.set k true), .nil) := by unfold mustMayV; rw [hc2]; rfl
      have w4 : mustSureV i ch nm ho (set.set k true) = (mustSureF ch (set.set k true), .nil) := by unfold mustSureV; rw [hc2]; rfl
      rw [v1, v2, v3, v4, w1, w2, w3, w4]
      have hsub : ∀ j, j < set.length → isIn set j → isIn (set.set k true) j := fun j hj h => by
        unfold isIn
        rw [getD_set set k j true false hk3]
        by_cases e : k = j
        · rw [if_pos e]
        · rw [if_neg e]; exact h
      obtain ⟨b1, _, b3⟩ := S_picks F.hg F.hf
      have ml : ∀ {s : List Bool} (F : Fx i ch nm ho s), (mustSureF ch s).length = ch.length := fun {s} F => by unfold mustSureF; rw [List.length_map, away_len F.hg]; exact F.len
      exact gr_loop0 i nm ho F.hg F.hf (farM_no hfar).2.2.2.1 ((sureF_len F.hg).trans hl) ((C_ok F.hg).len.trans hl) (ml F) (wideA_ok.len.trans hl2) ((sureF_len F2.hg).trans hl2) ((C_ok F2.hg).len.trans hl2) (ml F2) rfl b1 b3
        (grow_A F.hg F2.hg hsub) (grow_S F.hg F2.hg hsub F.hf) (grow_C F.hg F2.hg hsub) (grow_D F.hg F2.hg hsub) 1000002 0 (Nat.zero_le _) (by omega)
def growsLS : En.Spec := ⟨[], fun ds os => match ds, os with
  | [.p (.agg [.d (.fz true) (.i .i64) _i, .d (.fz false) (.l (.l (.p .s (.p (.l (.p (.i .i64) (.p (.i .i64) .u))) .u)))) _ch, .d (.fz false) (.l .s) _nm, .d (.fz false) (.l (.l (.i .i64))) _ho]), .p (.one (.d (.fz false) (.l .b) _set)), .p (.one (.d (.fz true) (.i .u8) more))], [] => .br (decide (0 ≤ more) && decide (more ≤ 255)) (.leaf [pB true] [] []) .fail
  | _, _ => .fail⟩
theorem growsL_ok : FnOk P C0 6 growsLS := by
  refine fn_okC ctx22 (show P.funcs[6]? = some r6f by kernel_rfl) (of_decide_eq_true (by kernel_rfl)) (growsLS) r6h (fun ds os lf hp => ?_)
  unfold growsLS at hp
  simp only at hp
  split at hp
  · rename_i i ch nm ho set more
    obtain ⟨hc, hp1⟩ := br_pick hp
    have hl := leaf_pick hp1
    subst hl
    rw [Bool.and_eq_true, decide_eq_true_eq, decide_eq_true_eq] at hc
    exact ⟨_, (r6_ev _ i ch nm ho set more).trans (grows_T i ch nm ho set more hc)⟩
  · cases hp
end Go.S22
