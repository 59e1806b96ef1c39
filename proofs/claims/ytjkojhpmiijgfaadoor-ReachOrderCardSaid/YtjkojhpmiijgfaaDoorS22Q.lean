/-
  Seat 22: alive, and the laws.
-/
import Derived.Test.YtjkojhpmiijgfaaDoorS22T
import Derived.Test.YtjkojhpmiijgfaaDoorS22G6
import Derived.Test.YtjkojhpmiijgfaaDoorS22G7
import Derived.Test.YtjkojhpmiijgfaaDoorS22G8
import Derived.Test.YtjkojhpmiijgfaaDoorS22G9
open Go Go.En
namespace Go.S22
theorem ctx21 : CtxOk C21 := fun _ _ h => tbl_ok (l := l21) ⟨farM_ok, ofM_ok, may_ok, sure_ok, mustMay_ok, mustSure_ok, rightM_ok, num_ok, picks_ok, all4_ok, truths_ok, come_ok, sameII_ok, trivial⟩ h
theorem alive_T : r8T = some ⟨[pB true], [], []⟩ := by kernel_rfl
theorem alive_ok : FnOk P C0 8 aliveS := by
  refine fn_okC ctx21 (show P.funcs[8]? = some r8f by kernel_rfl) (of_decide_eq_true (by kernel_rfl)) (aliveS) r8h (fun ds os lf hp => ?_)
  unfold aliveS at hp
  simp only at hp
  split at hp
  · skip
    have hl := leaf_pick hp
    subst hl
    exact ⟨0, (r8_ev 0).trans alive_T⟩
  · cases hp
theorem ctx22 : CtxOk C22 := fun _ _ h => tbl_ok (l := l22) ⟨alive_ok, farM_ok, ofM_ok, may_ok, sure_ok, mustMay_ok, mustSure_ok, rightM_ok, num_ok, picks_ok, all4_ok, truths_ok, come_ok, sameII_ok, trivial⟩ h
theorem full_rows {z K : Int} : ∀ {ch : List (List ChV)} {ho : List (List Int)}, rowsR z K ch ho = true → full ch = true
  | [], _, _ => rfl
  | l :: ls, ho, h => by
    have h : (rowR z K l (ho.getD 0 []) && rowsR z K ls (ho.drop 1)) = true := h
    rw [Bool.and_eq_true] at h
    have h1 := h.1
    unfold rowR at h1
    rw [Bool.and_eq_true, Bool.not_eq_true', beq_eq_false_iff_ne] at h1
    show (Nat.blt 0 l.length && full ls) = true
    rw [full_rows h.2, show Nat.blt 0 l.length = true from Nat.ble_eq_true_of_le (by have := h1.1; simp only [zn] at this; omega)]; rfl
structure Fx (i : Int) (ch : List (List ChV)) (nm : List ByteArray) (ho : List (List Int)) (set : List Bool) : Prop where
  of : ofMG ch nm ho = true
  ok : okS i ch nm ho set = true
  hg : rgS ch set = true
  hf : full ch = true
  len : set.length = ch.length
  n : ch.length ≤ 40
theorem facts {i : Int} {ch : List (List ChV)} {nm : List ByteArray} {ho : List (List Int)} {set : List Bool} (h : farM ch nm ho = false) (h2 : okS i ch nm ho set = true) : Fx i ch nm ho set := by
  have hof := ofMG_no h
  have hg := rgS_of hof h2
  have h3 := h2
  unfold okS mdOk at h3
  simp only [Bool.and_eq_true] at h3
  exact ⟨hof, h2, hg, full_rows h3.1.2.2, (rgS_p hg).1, (farM_no h).1⟩
theorem okS_not {i : Int} {ch : List (List ChV)} {nm : List ByteArray} {ho : List (List Int)} {set : List Bool} : (!mdOk i ch nm ho || zn set.length != zn ch.length) = !okS i ch nm ho set := by
  unfold okS bne
  cases mdOk i ch nm ho <;> rfl
section
variable (i : Int) (ch : List (List ChV)) (nm : List ByteArray) (ho : List (List Int)) (set : List Bool)
theorem tells_T : r3T i ch nm ho set = some ⟨[pB true], [], []⟩ := by
  unfold r3T
  cases hfar : (farM ch nm ho || decide (zn set.length > 60)) with
  | true => rfl
  | false =>
    simp only [Bool.or_eq_false_iff, decide_eq_false_iff_not] at hfar
    obtain ⟨h1, h2⟩ := hfar
    have hof := ofMG_no h1
    rw [hof, mdG_of hof, okS_not]
    cases hc : okS i ch nm ho set with
    | false =>
      unfold mayV sureV mustMayV mustSureV
      rw [hc]
      cases mdOk i ch nm ho <;> rfl
    | true =>
      have F := facts h1 hc
      have hmd : mdOk i ch nm ho = true := by unfold okS at hc; rw [Bool.and_eq_true] at hc; exact hc.1
      rw [hmd]
      by_cases hp : picksF 1 ch > 1500
      · rw [decide_eq_true hp]; rfl
      · rw [decide_eq_false hp, F.hg, F.hf]
        obtain ⟨e1, e2, e3, e4⟩ := all4_is F.hg F.hf (show picksF 1 ch ≤ 1500 by omega)
        have v1 : mayV i ch nm ho set = ((wideA ch set).1, (wideA ch set).2, .nil) := by unfold mayV; rw [hc]; rfl
        have v2 : sureV i ch nm ho set = ((sureF ch set).1, (sureF ch set).2, .nil) := by unfold sureV; rw [hc]; rfl
        have v3 : mustMayV i ch nm ho set = (allF ch set, .nil) := by unfold mustMayV; rw [hc]; rfl
        have v4 : mustSureV i ch nm ho set = (mustSureF ch set, .nil) := by unfold mustSureV; rw [hc]; rfl
        have hn := F.n
        have hl := F.len
        have l1 : (all4F ch set).1.length ≤ 1000000 := by rw [← e1, wideA_ok.len]; omega
        have l2 : (all4F ch set).2.1.length ≤ 1000000 := by rw [← e2, sureF_len F.hg]; omega
        have l3 : (all4F ch set).2.2.1.length ≤ 1000000 := by rw [← e3, (C_ok F.hg).len]; omega
        have l4 : (all4F ch set).2.2.2.length ≤ 1000000 := by rw [← e4]; unfold mustSureF; rw [List.length_map, away_len F.hg]; omega
        rw [v1, v2, v3, v4, e1, e2, e3, e4, sameB_refl, sameB_refl, sameB_refl, sameB_refl, ble_of l1, ble_of l2, ble_of l3, ble_of l4]; rfl
/-! ### ReachPicks -/
theorem pk_loop1 {A S my su : List Bool} (hn : set.length ≤ 1000000) (hA : A.length = set.length) (hS : S.length = set.length) (hm : my.length = set.length) (hs : su.length = set.length) (h1 : ∀ j, j < set.length → isIn A j → isIn my j) (h2 : ∀ j, j < set.length → isIn S j → isIn su j) : ∀ (m s : Nat), s ≤ set.length → set.length - s < m →
    r4L1 1000002 m set (s : Int) A S my su = some ⟨[pB true], [], []⟩
  | 0, _, _, h => absurd h (Nat.not_lt_zero _)
  | m + 1, s, hs0, hm0 => by
    show r4S1 (r4L1 1000002 m) set (s : Int) A S my su = _
    unfold r4S1
    by_cases h0 : s < set.length
    · have ih := pk_loop1 hn hA hS hm hs h1 h2 m (s + 1) h0 (by omega)
      have a := h1 s h0
      have b := h2 s h0
      unfold isIn at a b
      rw [lt_k h0, inb_k (show s < A.length by omega), inb_k (show s < S.length by omega), inb_k (show s < my.length by omega), inb_k (show s < su.length by omega), Int.toNat_natCast, wr_k (by omega)]
      revert a b
      cases A.getD s false <;> cases S.getD s false <;> cases my.getD s false <;> cases su.getD s false <;> intro a b <;> first | exact ih | (exfalso; revert a b; decide)
    · rw [nlt_k h0]; rfl
theorem pk_loop0 {A S : List Bool} {p q : List Int} (F : Fx i ch nm ho set) (hA : A.length = set.length) (hS : S.length = set.length) (hp : pkG ch p = true) (hq : pkG ch q = true)
    (zp : ∀ j, j < set.length → isIn set j ∨ ¬ isIn A j → p.getD j 0 = 0) (zq : ∀ j, j < set.length → isIn set j ∨ ¬ isIn S j → q.getD j 0 = 0) (h1 : ∀ j, j < set.length → isIn A j → isIn (mayP ch set p) j) (h2 : ∀ j, j < set.length → isIn S j → isIn (sureP ch set q) j) : ∀ (m s : Nat), s ≤ set.length → set.length - s < m →
    r4L0 1000002 m set (s : Int) i ch nm ho A p S q = some ⟨[pB true], [], []⟩
  | 0, _, _, h => absurd h (Nat.not_lt_zero _)
  | m + 1, s, hs0, hm0 => by
    have hn := F.n
    have hl := F.len
    show r4S0 (r4L1 1000002 1000002) (r4L0 1000002 m) set (s : Int) i ch nm ho A p S q = _
    unfold r4S0
    by_cases h0 : s < set.length
    · have ih := pk_loop0 F hA hS hp hq zp zq h1 h2 m (s + 1) h0 (by omega)
      obtain ⟨p1, p2⟩ := pkG_may hp
      obtain ⟨q1, q2⟩ := pkG_may hq
      have px := p2 s (by omega)
      have qx := q2 s (by omega)
      have a := zp s h0
      have b := zq s h0
      unfold isIn at a b
      rw [lt_k h0, inb_k (show s < p.length by omega), inb_k (show s < q.length by omega), inb_k (show s < ch.length by omega), inb_k h0, inb_k (show s < A.length by omega), inb_k (show s < S.length by omega), Int.toNat_natCast, wr_k (by omega),
        decide_eq_false (show ¬ p.getD s 0 < 0 by omega), decide_eq_false (show ¬ p.getD s 0 ≥ zn (ch.getD s []).length by simp only [zn]; omega), decide_eq_false (show ¬ q.getD s 0 < 0 by omega), decide_eq_false (show ¬ q.getD s 0 ≥ zn (ch.getD s []).length by simp only [zn]; omega)]
      generalize p.getD s 0 = x at *
      generalize q.getD s 0 = y at *
      revert a b
      cases set.getD s false <;> cases A.getD s false <;> cases S.getD s false <;> intro a b <;>
        (try simp at a) <;> (try simp at b) <;> (try subst a) <;> (try subst b) <;> simp <;> exact ih
    · have c1 : comeG ch nm ho set p = true := by unfold comeG; rw [F.of, F.hg, hp]; rfl
      have c2 : comeG ch nm ho set q = true := by unfold comeG; rw [F.of, F.hg, hq]; rfl
      rw [nlt_k h0, c1, c2]
      exact pk_loop1 set (by omega) hA hS (mayP_len ..) (sureP_len ..) h1 h2 1000002 0 (Nat.zero_le _) (by omega)
theorem picks_T : r4M 1000002 i ch nm ho set = some ⟨[pB true], [], []⟩ := by
  unfold r4M r4T
  rw [okS_not]
  cases hfar : farM ch nm ho with
  | true => rfl
  | false =>
    have hof := ofMG_no hfar
    rw [mdG_of hof, hof]
    cases hc : okS i ch nm ho set with
    | false => cases mdOk i ch nm ho <;> rfl
    | true =>
      have F := facts hfar hc
      have hmd : mdOk i ch nm ho = true := by unfold okS at hc; rw [Bool.and_eq_true] at hc; exact hc.1
      have v1 : mayV i ch nm ho set = ((wideA ch set).1, (wideA ch set).2, .nil) := by unfold mayV; rw [hc]; rfl
      have v2 : sureV i ch nm ho set = ((sureF ch set).1, (sureF ch set).2, .nil) := by unfold sureV; rw [hc]; rfl
      have wl2 : (sureF ch set).2.length = set.length := by rw [sure_eq F.hg]; exact wideB_ok.len2
      rw [hmd, v1, v2]
      have hn := F.n
      have hl := F.len
      obtain ⟨a1, a2⟩ := A_picks F.hg F.hf
      obtain ⟨b1, b2, _⟩ := S_picks F.hg F.hf
      have e1 : (zn (wideA ch set).2.length != zn set.length) = false := by rw [wideA_ok.len2]; simp
      have e2 : (zn (sureF ch set).2.length != zn set.length) = false := by rw [wl2]; simp
      simp only [e1, e2]
      exact pk_loop0 i ch nm ho set F wideA_ok.len (sureF_len F.hg) a1 b1 a2 b2 (A_may F.hg F.hf) (S_sure F.hg F.hf) 1000002 0 (Nat.zero_le _) (by omega)
/-! ### ReachAny -/
theorem any_loop1 {my su A S C D : List Bool} (hn : set.length ≤ 1000000) (hm : my.length = set.length) (hs : su.length = set.length) (hA : A.length = set.length) (hS : S.length = set.length) (hC : C.length = set.length) (hD : D.length = set.length)
    (h1 : ∀ j, j < set.length → isIn my j → isIn A j) (h2 : ∀ j, j < set.length → isIn su j → isIn S j) (h3 : ∀ j, j < set.length → isIn C j → isIn my j) (h4 : ∀ j, j < set.length → isIn D j → isIn su j) : ∀ (m s : Nat), s ≤ set.length → set.length - s < m →
    r7L1 1000002 m set (s : Int) my su A S C D = some ⟨[pB true], [], []⟩
  | 0, _, _, h => absurd h (Nat.not_lt_zero _)
  | m + 1, s, hs0, hm0 => by
    show r7S1 (r7L1 1000002 m) set (s : Int) my su A S C D = _
    unfold r7S1
    by_cases h0 : s < set.length
    · have ih := any_loop1 hn hm hs hA hS hC hD h1 h2 h3 h4 m (s + 1) h0 (by omega)
      have a := h1 s h0
      have b := h2 s h0
      have c := h3 s h0
      have d := h4 s h0
      unfold isIn at a b c d
      rw [lt_k h0, inb_k (show s < A.length by omega), inb_k (show s < S.length by omega), inb_k (show s < my.length by omega), inb_k (show s < su.length by omega), inb_k (show s < C.length by omega), inb_k (show s < D.length by omega), Int.toNat_natCast, wr_k (by omega)]
      revert a b c d
      cases A.getD s false <;> cases S.getD s false <;> cases my.getD s false <;> cases su.getD s false <;> cases C.getD s false <;> cases D.getD s false <;> intro a b c d <;> first | exact ih | (exfalso; revert a b c d; decide)
    · rw [nlt_k h0]; rfl
theorem any_loop0 {pks : List Int} (hpk : ∀ x ∈ pks, 0 ≤ x ∧ x ≤ 255) (F : Fx i ch nm ho set) : ∀ (m s : Nat) (p : List Int), s ≤ set.length → set.length - s < m → pkG ch p = true →
    r7L0 1000002 m set pks (s : Int) i ch nm ho i p ch nm ho = some ⟨[pB true], [], []⟩
  | 0, _, _, _, h, _ => absurd h (Nat.not_lt_zero _)
  | m + 1, s, p, hs0, hm0, hp => by
    have hn := F.n
    have hl := F.len
    obtain ⟨p1, p2⟩ := pkG_may hp
    show r7S0 (r7L1 1000002 1000002) (r7L0 1000002 m) set pks (s : Int) i ch nm ho i p ch nm ho = _
    unfold r7S0
    have fin : (bif comeG ch nm ho set p then bif ofMG ch nm ho then bif ofMG ch nm ho then bif ofMG ch nm ho then bif ofMG ch nm ho then
       bif !(mayV i ch nm ho set).2.2.isNil || (!(sureV i ch nm ho set).2.2.isNil || (!(mustMayV i ch nm ho set).2.isNil || !(mustSureV i ch nm ho set).2.isNil)) then some (Lf.mk [pB false] [] []) else
        r7L1 1000002 1000002 set 0 (mayP ch set p) (sureP ch set p) (mayV i ch nm ho set).1 (sureV i ch nm ho set).1 (mustMayV i ch nm ho set).1 (mustSureV i ch nm ho set).1 else none else none else none else none else none) = some ⟨[pB true], [], []⟩ := by
      have c1 : comeG ch nm ho set p = true := by unfold comeG; rw [F.of, F.hg, hp]; rfl
      have hc := F.ok
      have v1 : mayV i ch nm ho set = ((wideA ch set).1, (wideA ch set).2, .nil) := by unfold mayV; rw [hc]; rfl
      have v2 : sureV i ch nm ho set = ((sureF ch set).1, (sureF ch set).2, .nil) := by unfold sureV; rw [hc]; rfl
      have v3 : mustMayV i ch nm ho set = (allF ch set, .nil) := by unfold mustMayV; rw [hc]; rfl
      have v4 : mustSureV i ch nm ho set = (mustSureF ch set, .nil) := by unfold mustSureV; rw [hc]; rfl
      rw [c1, F.of, v1, v2, v3, v4]
      exact any_loop1 set (by omega) (mayP_len ..) (sureP_len ..) wideA_ok.len (sureF_len F.hg) (C_ok F.hg).len (by unfold mustSureF; rw [List.length_map]; exact away_len F.hg)
        (may_A F.hg hp) (sure_S F.hg hp) (C_may F.hg hp) (D_sure F.hg hp) 1000002 0 (Nat.zero_le _) (by omega)
    by_cases h0 : s < set.length
    · rw [lt_k (show s < p.length by omega)]
      by_cases h1 : s < pks.length
      · have hx := hpk _ (get_mem h1 0)
        have hfp := full_p F.hf (show s < ch.length by omega)
        rw [lt_k h1, inb_k h1, inb_k (show s < ch.length by omega), inb_k (show s < p.length by omega), decide_eq_true (show zn (ch.getD (s : Int).toNat []).length ≠ 0 by rw [Int.toNat_natCast]; simp only [zn]; omega), Int.toNat_natCast, wr_k (by omega)]
        refine any_loop0 hpk F m (s + 1) _ h0 (by omega) (pkG_of (by rw [List.length_set]; omega) fun j hj => ?_)
        rw [getD_set p s j _ 0 (by omega)]
        by_cases e : s = j
        · subst e
          rw [if_pos rfl, i64_in (by omega) (by omega), Int.tmod_eq_emod_of_nonneg hx.1]
          have e1 := Int.emod_nonneg (pks.getD s 0) (show zn (ch.getD s []).length ≠ 0 by simp only [zn]; omega)
          have e2 := Int.emod_lt_of_pos (pks.getD s 0) (show 0 < zn (ch.getD s []).length by simp only [zn]; omega)
          exact ⟨e1, e2⟩
        · rw [if_neg e]; exact p2 j hj
      · rw [nlt_k h1]; exact fin
    · rw [nlt_k (show ¬ s < p.length by omega)]; exact fin
theorem any_T (pks : List Int) (hpk : ∀ x ∈ pks, 0 ≤ x ∧ x ≤ 255) : r7M 1000002 i ch nm ho set pks = some ⟨[pB true], [], []⟩ := by
  unfold r7M r7T
  rw [okS_not]
  cases hfar : farM ch nm ho with
  | true => rfl
  | false =>
    have hof := ofMG_no hfar
    rw [mdG_of hof, hof]
    cases hc : okS i ch nm ho set with
    | false => cases mdOk i ch nm ho <;> rfl
    | true =>
      have F := facts hfar hc
      have hmd : mdOk i ch nm ho = true := by unfold okS at hc; rw [Bool.and_eq_true] at hc; exact hc.1
      have hn := F.n
      have hl := F.len
      have e1 : (decide (0 ≤ zn set.length) && (decide (zn set.length ≤ zn set.length) && decide (8 * (zn set.length).toNat ≤ 140737488355328))) = true := by
        rw [decide_eq_true (show 0 ≤ zn set.length by simp only [zn]; omega), decide_eq_true (Int.le_refl _), decide_eq_true (show 8 * (zn set.length).toNat ≤ 140737488355328 by simp only [zn]; omega)]; rfl
      rw [hmd, e1]
      refine any_loop0 i ch nm ho set hpk F 1000002 0 (List.replicate set.length 0) (Nat.zero_le _) (by omega) (pkG_of (by rw [List.length_replicate]; exact hl) fun j hj => ?_)
      have := full_p F.hf hj
      rw [List.getD_eq_getElem?_getD, List.getElem?_replicate, if_pos (by omega)]
      exact ⟨Int.le_refl _, by show (0 : Int) < _; omega⟩
end
def tellsLS : En.Spec := ⟨[], fun ds os => match ds, os with
  | [.p (.agg [.d (.fz true) (.i .i64) _i, .d (.fz false) (.l (.l (.p .s (.p (.l (.p (.i .i64) (.p (.i .i64) .u))) .u)))) _ch, .d (.fz false) (.l .s) _nm, .d (.fz false) (.l (.l (.i .i64))) _ho]), .p (.one (.d (.fz false) (.l .b) _set))], [] => .leaf [pB true] [] []
  | _, _ => .fail⟩
def u8 (v : List Int) : Bool := v.all fun x => decide (0 ≤ x) && decide (x ≤ 255)
def anyLS : En.Spec := ⟨[], fun ds os => match ds, os with
  | [.p (.agg [.d (.fz true) (.i .i64) _i, .d (.fz false) (.l (.l (.p .s (.p (.l (.p (.i .i64) (.p (.i .i64) .u))) .u)))) _ch, .d (.fz false) (.l .s) _nm, .d (.fz false) (.l (.l (.i .i64))) _ho]), .p (.one (.d (.fz false) (.l .b) _set)), .p (.one (.d (.fz false) (.l (.i .u8)) pks))], [] => .br (u8 pks) (.leaf [pB true] [] []) .fail
  | _, _ => .fail⟩
theorem tellsL_ok : FnOk P C0 3 tellsLS := by
  refine fn_okC ctx22 (show P.funcs[3]? = some r3f by kernel_rfl) (of_decide_eq_true (by kernel_rfl)) (tellsLS) r3h (fun ds os lf hp => ?_)
  unfold tellsLS at hp
  simp only at hp
  split at hp
  · rename_i i ch nm ho set
    have hl := leaf_pick hp
    subst hl
    exact ⟨0, (r3_ev _ i ch nm ho set).trans (tells_T i ch nm ho set)⟩
  · cases hp
theorem picksL_ok : FnOk P C0 4 tellsLS := by
  refine fn_okC ctx22 (show P.funcs[4]? = some r4f by kernel_rfl) (of_decide_eq_true (by kernel_rfl)) (tellsLS) r4h (fun ds os lf hp => ?_)
  unfold tellsLS at hp
  simp only at hp
  split at hp
  · rename_i i ch nm ho set
    have hl := leaf_pick hp
    subst hl
    exact ⟨_, (r4_ev _ i ch nm ho set).trans (picks_T i ch nm ho set)⟩
  · cases hp
theorem anyL_ok : FnOk P C0 7 anyLS := by
  refine fn_okC ctx22 (show P.funcs[7]? = some r7f by kernel_rfl) (of_decide_eq_true (by kernel_rfl)) (anyLS) r7h (fun ds os lf hp => ?_)
  unfold anyLS at hp
  simp only at hp
  split at hp
  · rename_i i ch nm ho set pks
    obtain ⟨hc, hp1⟩ := br_pick hp
    have hl := leaf_pick hp1
    subst hl
    unfold u8 at hc
    simp only [List.all_eq_true, Bool.and_eq_true, decide_eq_true_eq] at hc
    exact ⟨_, (r7_ev _ i ch nm ho set pks).trans (any_T i ch nm ho set pks hc)⟩
  · cases hp
end Go.S22
