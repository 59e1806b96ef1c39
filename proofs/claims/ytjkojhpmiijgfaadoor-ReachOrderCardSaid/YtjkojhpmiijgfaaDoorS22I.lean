/-
  Seat 22: the contracts of May, Sure, MustMay, MustSure.
-/
import Derived.Test.YtjkojhpmiijgfaaDoorS22G4
open Go Go.En
namespace Go.S22
/-! ### searching and rounds -/
theorem idx_yes {α : Type} (p : α → Bool) (l : List α) : 0 ≤ idxG p 0 l ↔ ∃ c ∈ l, p c = true := by
  have h := idx_any p l 0
  constructor
  · intro h1
    have h1' : idxG p 0 l ≥ 0 := h1
    rw [decide_eq_true h1'] at h
    exact List.any_eq_true.1 h.symm
  · intro h1
    rw [List.any_eq_true.2 h1, decide_eq_true_eq] at h
    exact h
theorem idx_no {α : Type} (p : α → Bool) (l : List α) : idxG p 0 l < 0 ↔ ∀ c ∈ l, p c = false := by
  constructor
  · intro h c hc
    cases hp : p c with
    | false => rfl
    | true => have := (idx_yes p l).2 ⟨c, hc, hp⟩; omega
  · intro h
    by_cases h1 : 0 ≤ idxG p 0 l
    · obtain ⟨c, hc, hp⟩ := (idx_yes p l).1 h1
      rw [h c hc] at hp; cases hp
    · omega
/-- a set as a predicate -/
abbrev isIn (l : List Bool) (j : Nat) : Prop := l.getD j false = true
def sub (l l' : List Bool) : Prop := ∀ j, j < l.length → isIn l j → isIn l' j
theorem yesC_iff (inn : List Bool) (c : ChV) : yesC inn c = true ↔ ∃ v ∈ c.2.1, isIn inn v.1.toNat := by
  unfold yesC yes
  exact List.any_eq_true
theorem two_iff (inS : List Bool) (l : List MvV) : two25 inS l = true ↔ ∀ v ∈ l, isIn inS v.1.toNat := by
  unfold two25 no
  rw [Bool.not_eq_true', List.any_eq_false]
  constructor
  · intro h v hv
    have := h v hv
    cases h1 : inS.getD v.1.toNat false with
    | true => exact h1
    | false => rw [h1] at this; exact absurd rfl this
  · intro h v hv
    rw [h v hv]; exact Bool.false_ne_true
theorem rgL_in {n : Nat} {l : List ChV} (h : rgL n l = true) {c : ChV} (hc : c ∈ l) {v : MvV} (hv : v ∈ c.2.1) : v.1.toNat < n ∧ 0 ≤ v.1 := by
  unfold rgL rgC rngV at h
  simp only [Bool.and_eq_true, List.all_eq_true] at h
  have := inF_p ((h.2 c hc).2 v hv)
  simp only [zn] at this
  omega
theorem wideA_ok {ch : List (List ChV)} {set : List Bool} : WideOk (qA ch) set.length set (List.replicate set.length 0) (wideA ch set) := wfix_ok _ _ _ _ rfl List.length_replicate (Nat.lt_succ_of_le (nb_le _ _))
theorem wideB_ok {ch : List (List ChV)} {inS set : List Bool} : WideOk (qB ch inS) set.length set (List.replicate set.length 0) (wideB ch inS set) := wfix_ok _ _ _ _ rfl List.length_replicate (Nat.lt_succ_of_le (nb_le _ _))
section
variable {ch : List (List ChV)} {set : List Bool} (hg : rgS ch set = true)
include hg
theorem wide_mono {inS inT : List Bool} (h : ∀ j, isIn inS j → isIn inT j) : ∀ j, j < set.length → isIn (wideB ch inS set).1 j → isIn (wideB ch inT set).1 j := by
  obtain ⟨g1, g2, g3⟩ := rgS_p hg
  have a := wideB_ok (ch := ch) (inS := inS) (set := set)
  have b := wideB_ok (ch := ch) (inS := inT) (set := set)
  refine a.ind (fun j => isIn (wideB ch inT set).1 j) (fun j hj hs => b.up j hj hs) (fun j L hj _ _ hL hLX hq _ => ?_)
  by_cases hw : isIn (wideB ch inT set).1 j
  · exact hw
  · exfalso
    have hw : (wideB ch inT set).1.getD j false = false := by cases h1 : (wideB ch inT set).1.getD j false with | false => rfl | true => exact absurd h1 hw
    have hn := b.no j hj hw
    obtain ⟨c, hc, hp⟩ := (idx_yes _ _).1 hq
    have := (idx_no _ _).1 hn c hc
    unfold wB at hp this
    rw [Bool.and_eq_true] at hp
    obtain ⟨v, hv, hi⟩ := (yesC_iff _ _).1 hp.1
    have hr := (rgL_in (g3 j (by omega)) hc hv).1
    have e1 : yesC (wideB ch inT set).1 c = true := (yesC_iff _ _).2 ⟨v, hv, (hLX _ (by omega) hi).1⟩
    have e2 : two25 inT c.2.1 = true := (two_iff _ _).2 fun w hw => h _ ((two_iff _ _).1 hp.2 w hw)
    rw [e1, e2] at this; cases this
theorem wide_AB {inS : List Bool} : ∀ j, j < set.length → isIn (wideB ch inS set).1 j → isIn (wideA ch set).1 j := by
  obtain ⟨g1, g2, g3⟩ := rgS_p hg
  have a := wideB_ok (ch := ch) (inS := inS) (set := set)
  have b := wideA_ok (ch := ch) (set := set)
  refine a.ind (fun j => isIn (wideA ch set).1 j) (fun j hj hs => b.up j hj hs) (fun j L hj _ _ hL hLX hq _ => ?_)
  by_cases hw : isIn (wideA ch set).1 j
  · exact hw
  · exfalso
    have hw : (wideA ch set).1.getD j false = false := by cases h1 : (wideA ch set).1.getD j false with | false => rfl | true => exact absurd h1 hw
    have hn := b.no j hj hw
    obtain ⟨c, hc, hp⟩ := (idx_yes _ _).1 hq
    have := (idx_no _ _).1 hn c hc
    unfold wB at hp
    rw [Bool.and_eq_true] at hp
    obtain ⟨v, hv, hi⟩ := (yesC_iff _ _).1 hp.1
    have hr := (rgL_in (g3 j (by omega)) hc hv).1
    have e1 : yesC (wideA ch set).1 c = true := (yesC_iff _ _).2 ⟨v, hv, (hLX _ (by omega) hi).1⟩
    rw [e1] at this; cases this
end
theorem isIn_len {l : List Bool} {j : Nat} (h : isIn l j) : j < l.length := by
  by_cases hj : j < l.length
  · exact hj
  · unfold isIn at h
    rw [List.getD_eq_getElem?_getD, List.getElem?_eq_none (by omega)] at h; cases h
/-! ### values -/
def okS (i : Int) (ch : List (List ChV)) (nm : List ByteArray) (ho : List (List Int)) (set : List Bool) : Bool := mdOk i ch nm ho && zn set.length == zn ch.length
abbrev BPE := List Bool × List Int × Er
def mayV (i : Int) (ch : List (List ChV)) (nm : List ByteArray) (ho : List (List Int)) (set : List Bool) : BPE := bif okS i ch nm ho set then ((wideA ch set).1, (wideA ch set).2, .nil) else ([], [], .no 1)
def sFix (ch : List (List ChV)) (set : List Bool) : Nat → List Bool → List Bool × List Int
  | 0, inn => (inn, [])
  | f + 1, inn => bif sameB (wideB ch inn set).1 inn then wideB ch inn set else sFix ch set f (wideB ch inn set).1
def sureF (ch : List (List ChV)) (set : List Bool) : List Bool × List Int := sFix ch set (set.length + 1) (wideA ch set).1
def sureV (i : Int) (ch : List (List ChV)) (nm : List ByteArray) (ho : List (List Int)) (set : List Bool) : BPE := bif okS i ch nm ho set then ((sureF ch set).1, (sureF ch set).2, .nil) else ([], [], .no 1)
def mustMayV (i : Int) (ch : List (List ChV)) (nm : List ByteArray) (ho : List (List Int)) (set : List Bool) : List Bool × Er := bif okS i ch nm ho set then (allF ch set, .nil) else ([], .no 1)
def cAway (ch : List (List ChV)) (set l : List Bool) (s : Nat) : Bool := !set.getD s false && (ch.getD s []).any (yesC l)
def awayF (ch : List (List ChV)) (set : List Bool) : List Bool := fixU true (cAway ch set) set.length (set.length + 1) ((allF ch set).map not)
def mustSureF (ch : List (List ChV)) (set : List Bool) : List Bool := (awayF ch set).map not
def mustSureV (i : Int) (ch : List (List ChV)) (nm : List ByteArray) (ho : List (List Int)) (set : List Bool) : List Bool × Er := bif okS i ch nm ho set then (mustSureF ch set, .nil) else ([], .no 1)
theorem rgS_of {i : Int} {ch : List (List ChV)} {nm : List ByteArray} {ho : List (List Int)} {set : List Bool} (h : ofMG ch nm ho = true) (ho : okS i ch nm ho set = true) : rgS ch set = true := by
  unfold okS mdOk at ho
  simp only [Bool.and_eq_true, beq_iff_eq] at ho
  obtain ⟨⟨h1, _, h2⟩, h3⟩ := ho
  unfold ofMG m6 at h
  simp only [Bool.and_eq_true, List.all_eq_true] at h
  obtain ⟨⟨a1, a2⟩, _⟩ := h
  unfold rgS rgM m6 rgL rgC rngV
  simp only [Bool.and_eq_true, List.all_eq_true]
  refine ⟨by simp only [zn] at h3; rw [show set.length = ch.length by omega]; exact Nat.beq_refl _, a1, fun l hl => ⟨ble_of (by have := of_ble (a2 l hl).1; omega), fun c hc => ⟨ble_of (by have := of_ble ((a2 l hl).2 c hc); omega), fun v hv => ?_⟩⟩⟩
  have := rows_mem h2 l hl c hc
  unfold okC at this
  rw [Bool.and_eq_true] at this
  exact in_yes (mvF_range this.2 v hv)
/-! ### contracts -/
def mayS : En.Spec := ⟨[], fun ds os => match ds, os with
  | [.p (.agg [.d (.fz true) (.i .i64) i, .d (.fz false) (.l (.l (.p .s (.p (.l (.p (.i .i64) (.p (.i .i64) .u))) .u)))) ch, .d (.fz false) (.l .s) nm, .d (.fz false) (.l (.l (.i .i64))) ho]), .p (.one (.d (.fz false) (.l .b) set))], [] =>
    .br (ofMG ch nm ho) (.leaf [.one (.rw ⟨1, 0⟩), .one (.rw ⟨1, 1⟩), pE (mayV i ch nm ho set).2.2] [] [roB (mayV i ch nm ho set).1, roI (mayV i ch nm ho set).2.1]) .fail
  | _, _ => .fail⟩
def sureS : En.Spec := ⟨[], fun ds os => match ds, os with
  | [.p (.agg [.d (.fz true) (.i .i64) i, .d (.fz false) (.l (.l (.p .s (.p (.l (.p (.i .i64) (.p (.i .i64) .u))) .u)))) ch, .d (.fz false) (.l .s) nm, .d (.fz false) (.l (.l (.i .i64))) ho]), .p (.one (.d (.fz false) (.l .b) set))], [] =>
    .br (ofMG ch nm ho) (.leaf [.one (.rw ⟨1, 0⟩), .one (.rw ⟨1, 1⟩), pE (sureV i ch nm ho set).2.2] [] [roB (sureV i ch nm ho set).1, roI (sureV i ch nm ho set).2.1]) .fail
  | _, _ => .fail⟩
def mustMayS : En.Spec := ⟨[], fun ds os => match ds, os with
  | [.p (.agg [.d (.fz true) (.i .i64) i, .d (.fz false) (.l (.l (.p .s (.p (.l (.p (.i .i64) (.p (.i .i64) .u))) .u)))) ch, .d (.fz false) (.l .s) nm, .d (.fz false) (.l (.l (.i .i64))) ho]), .p (.one (.d (.fz false) (.l .b) set))], [] =>
    .br (ofMG ch nm ho) (.leaf [.one (.rw ⟨1, 0⟩), pE (mustMayV i ch nm ho set).2] [] [roB (mustMayV i ch nm ho set).1]) .fail
  | _, _ => .fail⟩
def mustSureS : En.Spec := ⟨[], fun ds os => match ds, os with
  | [.p (.agg [.d (.fz true) (.i .i64) i, .d (.fz false) (.l (.l (.p .s (.p (.l (.p (.i .i64) (.p (.i .i64) .u))) .u)))) ch, .d (.fz false) (.l .s) nm, .d (.fz false) (.l (.l (.i .i64))) ho]), .p (.one (.d (.fz false) (.l .b) set))], [] =>
    .br (ofMG ch nm ho) (.leaf [.one (.rw ⟨1, 0⟩), pE (mustSureV i ch nm ho set).2] [] [roB (mustSureV i ch nm ho set).1]) .fail
  | _, _ => .fail⟩
theorem ctx19 : CtxOk C19 := fun _ _ h => tbl_ok (l := l19) ⟨checkR_ok, wide_ok, all_ok, eqB_ok, conC_ok, trivial⟩ h
theorem er1_nil (b : Bool) : (!(er1 b).isNil) = !b := by cases b <;> rfl
section
variable (i : Int) {ch : List (List ChV)} (nm : List ByteArray) (ho : List (List Int)) {set : List Bool}
theorem may_T (h : ofMG ch nm ho = true) : r11T i ch nm ho set = some ⟨[.one (.rw ⟨1, 0⟩), .one (.rw ⟨1, 1⟩), pE (mayV i ch nm ho set).2.2], [], [roB (mayV i ch nm ho set).1, roI (mayV i ch nm ho set).2.1]⟩ := by
  unfold r11T mayV
  have e : (mdOk i ch nm ho && zn set.length == zn ch.length) = okS i ch nm ho set := rfl
  rw [mdG_of h, e, er1_nil]
  cases hc : okS i ch nm ho set with
  | false => rfl
  | true => rw [rgS_of h hc]; rfl
theorem mustMay_T (h : ofMG ch nm ho = true) : r13T i ch nm ho set = some ⟨[.one (.rw ⟨1, 0⟩), pE (mustMayV i ch nm ho set).2], [], [roB (mustMayV i ch nm ho set).1]⟩ := by
  unfold r13T mustMayV
  have e : (mdOk i ch nm ho && zn set.length == zn ch.length) = okS i ch nm ho set := rfl
  rw [mdG_of h, e, er1_nil]
  cases hc : okS i ch nm ho set with
  | false => rfl
  | true => rw [rgS_of h hc]; rfl
theorem sure_loop (hg : rgS ch set = true) : ∀ (f m : Nat) (inn : List Bool), f ≤ m → inn.length = ch.length → (∀ j, j < set.length → isIn (wideB ch inn set).1 j → isIn inn j) → nb false inn < f →
    r12L0 1000002 m set i ch nm ho inn = some ⟨[.one (.rw ⟨1, 0⟩), .one (.rw ⟨1, 1⟩), pE .nil], [], [roB (sFix ch set f inn).1, roI (sFix ch set f inn).2]⟩
  | 0, _, _, _, _, _, h => absurd h (Nat.not_lt_zero _)
  | _ + 1, 0, _, h, _, _, _ => absurd h (Nat.not_succ_le_zero _)
  | f + 1, m + 1, inn, hm, hi, hsub, hf => by
    obtain ⟨g1, g2, g3⟩ := rgS_p hg
    have w := wideB_ok (ch := ch) (inS := inn) (set := set)
    have hwl : (wideB ch inn set).1.length = ch.length := w.len.trans g1
    show r12S0 (r12L0 1000002 m) set i ch nm ho inn = _
    unfold r12S0
    have eb : inn.length.beq ch.length = true := by rw [hi]; exact Nat.beq_refl _
    rw [hg, eb, ble_of (show (wideB ch inn set).1.length ≤ 1000000 by omega), ble_of (show inn.length ≤ 1000000 by omega), sFix]
    cases hs : sameB (wideB ch inn set).1 inn with
    | true => rfl
    | false =>
      have hne : ∃ j, j < inn.length ∧ inn.getD j false ≠ false ∧ (wideB ch inn set).1.getD j false = false := by
        refine Classical.byContradiction fun hno => ?_
        have heq : (wideB ch inn set).1 = inn := by
          apply List.ext_getElem (by omega)
          intro j h1 h2
          have e1 : (wideB ch inn set).1.getD j false = (wideB ch inn set).1[j] := by rw [List.getD_eq_getElem?_getD, List.getElem?_eq_getElem h1]; rfl
          have e2 : inn.getD j false = inn[j] := by rw [List.getD_eq_getElem?_getD, List.getElem?_eq_getElem h2]; rfl
          rw [← e1, ← e2]
          cases ha : (wideB ch inn set).1.getD j false with
          | true => exact (hsub j (by omega) ha).symm
          | false =>
            cases hb : inn.getD j false with
            | false => rfl
            | true => exact absurd ⟨j, h2, by rw [hb]; simp, ha⟩ hno
        rw [heq, sameB_refl] at hs; cases hs
      have hlt : nb false (wideB ch inn set).1 < nb false inn := nb_lt false (by omega) (fun j hj h0 => by
        cases ha : (wideB ch inn set).1.getD j false with
        | false => rfl
        | true => have := hsub j (by omega) ha; unfold isIn at this; rw [h0] at this; cases this) hne
      exact sure_loop hg f m _ (by omega) hwl (fun j hj hj2 => wide_mono hg (fun k hk => hsub k (by have := isIn_len hk; omega) hk) j hj hj2) (by omega)
theorem sure_T (h : ofMG ch nm ho = true) : r12M 1000002 i ch nm ho set = some ⟨[.one (.rw ⟨1, 0⟩), .one (.rw ⟨1, 1⟩), pE (sureV i ch nm ho set).2.2], [], [roB (sureV i ch nm ho set).1, roI (sureV i ch nm ho set).2.1]⟩ := by
  unfold r12M r12T sureV
  have e : (mdOk i ch nm ho && zn set.length == zn ch.length) = okS i ch nm ho set := rfl
  rw [mdG_of h, e, er1_nil]
  cases hc : okS i ch nm ho set with
  | false => rfl
  | true =>
    have hg := rgS_of h hc
    obtain ⟨g1, g2, g3⟩ := rgS_p hg
    have hl := (wideA_ok (ch := ch) (set := set)).len
    rw [hg]
    exact sure_loop i nm ho hg (set.length + 1) 1000002 (wideA ch set).1 (by omega) (by omega) (fun j hj h1 => wide_AB hg j hj h1) (Nat.lt_succ_of_le (by have := nb_le false (wideA ch set).1; omega))
/-! ### MustSure -/
theorem ms_loop0 (hn : ch.length ≤ 1000000) {may : List Bool} (hm : may.length = ch.length) : ∀ (m s : Nat) (aw : List Bool), s ≤ ch.length → ch.length - s < m → aw.length = ch.length → (∀ j, j < s → aw.getD j false = !may.getD j false) →
    r14L0 1000002 m set (zn may.length) (s : Int) i ch nm ho may aw = r14L1 1000002 1000002 set true i ch nm ho (may.map not)
  | 0, _, _, _, h, _, _ => absurd h (Nat.not_lt_zero _)
  | m + 1, s, aw, hs, hmm, ha, hinv => by
    show r14S0 (r14L1 1000002 1000002) (r14L0 1000002 m) set (zn may.length) (s : Int) i ch nm ho may aw = _
    unfold r14S0
    by_cases h0 : s < ch.length
    · rw [lt_k (show s < may.length by omega), inb_k (show s < may.length by omega), inb_k (show s < aw.length by omega), Int.toNat_natCast, wr_k (by omega)]
      refine ms_loop0 hn hm m (s + 1) _ h0 (by omega) (by rw [List.length_set]; exact ha) (fun j hj => ?_)
      rw [getD_set aw s j _ false (by omega)]
      by_cases e : s = j
      · rw [if_pos e, e]
      · rw [if_neg e]; exact hinv j (by omega)
    · have e : aw = may.map not := by
        apply List.ext_getElem (by rw [List.length_map]; omega)
        intro j h1 h2
        have e1 : aw.getD j false = aw[j] := by rw [List.getD_eq_getElem?_getD, List.getElem?_eq_getElem h1]; rfl
        have e2 : may.getD j false = may[j]'(by omega) := by rw [List.getD_eq_getElem?_getD, List.getElem?_eq_getElem (show j < may.length by omega)]; rfl
        rw [← e1, hinv j (by omega), e2, List.getElem_map]
      rw [nlt_k (show ¬ s < may.length by omega), e]; rfl
theorem ms_loop2 (hn : ch.length ≤ 1000000) (hset : set.length = ch.length) (hrow : ∀ s, s < ch.length → rgL ch.length (ch.getD s []) = true) (g1 : r14G1) : ∀ (m s : Nat) (l : List Bool) (t : Bool), s ≤ ch.length → ch.length - s < m → l.length = ch.length →
    r14L2 1000002 g1 m set t ch (zn ch.length) (s : Int) i ch nm ho l = g1 set (passU true (cAway ch set) (ch.length - s) s l t).2 i ch nm ho (passU true (cAway ch set) (ch.length - s) s l t).1
  | 0, _, _, _, _, h, _ => absurd h (Nat.not_lt_zero _)
  | m + 1, s, l, t, hs, hm, hl => by
    show r14S2 g1 (r14L2 1000002 g1 m) set t ch (zn ch.length) (s : Int) i ch nm ho l = _
    unfold r14S2
    by_cases h0 : s < ch.length
    · have ef : ch.length - s = (ch.length - (s + 1)) + 1 := by omega
      have hr := hrow s h0
      rw [ef, passU, lt_k h0, inb_k h0, inb_k (show s < l.length by omega), inb_k (show s < set.length by omega), Int.toNat_natCast, wr_k (by omega), hl, hr]
      have e1 : cAway ch set l s = (!set.getD s false && (ch.getD s []).any (yesC l)) := rfl
      rw [e1]
      cases hin : l.getD s false with
      | true => exact ms_loop2 hn hset hrow g1 m (s + 1) l t h0 (by omega) hl
      | false =>
        cases hse : set.getD s false with
        | true => exact ms_loop2 hn hset hrow g1 m (s + 1) l t h0 (by omega) hl
        | false =>
          cases hq : (ch.getD s []).any (yesC l) with
          | false => exact ms_loop2 hn hset hrow g1 m (s + 1) l t h0 (by omega) hl
          | true => exact ms_loop2 hn hset hrow g1 m (s + 1) (l.set s true) true h0 (by omega) (by rw [List.length_set]; exact hl)
    · have e0 : ch.length - s = 0 := by omega
      rw [nlt_k h0, e0]; rfl
theorem ms_loop3 {aw : List Bool} (hn : aw.length ≤ 1000000) : ∀ (m s : Nat) (x : List Bool), s ≤ aw.length → aw.length - s < m → x.length = aw.length → (∀ j, j < s → x.getD j false = !aw.getD j false) → (∀ j, s ≤ j → x.getD j false = aw.getD j false) →
    r14L3 1000002 m (zn aw.length) (s : Int) x = some ⟨[.one (.rw ⟨1, 0⟩), pE .nil], [], [roB (aw.map not)]⟩
  | 0, _, _, _, h, _, _, _ => absurd h (Nat.not_lt_zero _)
  | m + 1, s, x, hs, hm, hx, h1, h2 => by
    show r14S3 (r14L3 1000002 m) (zn aw.length) (s : Int) x = _
    unfold r14S3
    by_cases h0 : s < aw.length
    · rw [lt_k h0, inb_k (show s < x.length by omega), Int.toNat_natCast, wr_k (by omega)]
      refine ms_loop3 hn m (s + 1) _ h0 (by omega) (by rw [List.length_set]; exact hx) (fun j hj => ?_) (fun j hj => ?_)
      · rw [getD_set x s j _ false (by omega)]
        by_cases e : s = j
        · rw [if_pos e, ← e, h2 s (Nat.le_refl _)]
        · rw [if_neg e]; exact h1 j (by omega)
      · rw [getD_set x s j _ false (by omega), if_neg (by omega)]; exact h2 j (by omega)
    · have e : x = aw.map not := by
        apply List.ext_getElem (by rw [List.length_map]; omega)
        intro j g1 g2
        have e1 : x.getD j false = x[j] := by rw [List.getD_eq_getElem?_getD, List.getElem?_eq_getElem g1]; rfl
        have e2 : aw.getD j false = aw[j]'(by omega) := by rw [List.getD_eq_getElem?_getD, List.getElem?_eq_getElem (show j < aw.length by omega)]; rfl
        rw [← e1, h1 j (by omega), e2, List.getElem_map]
      rw [nlt_k h0, e]; rfl
theorem ms_loop1 (hn : ch.length ≤ 1000000) (hset : set.length = ch.length) (hrow : ∀ s, s < ch.length → rgL ch.length (ch.getD s []) = true) : ∀ (f m : Nat) (l : List Bool), f < m → l.length = ch.length → nb true l < f →
    r14L1 1000002 m set true i ch nm ho l = some ⟨[.one (.rw ⟨1, 0⟩), pE .nil], [], [roB ((fixU true (cAway ch set) ch.length f l).map not)]⟩
  | 0, _, _, _, _, h => absurd h (Nat.not_lt_zero _)
  | _ + 1, 0, _, h, _, _ => absurd h (Nat.not_lt_zero _)
  | f + 1, m + 1, l, hm, hl, hf => by
    show r14S1 (r14L2 1000002 (r14L1 1000002 m) 1000002) (r14L3 1000002 1000002) (r14L1 1000002 m) set true i ch nm ho l = _
    unfold r14S1
    have p := pass_ok true (cAway ch set) ch.length 0 l false (by omega)
    have r1 := ms_loop2 i nm ho hn hset hrow (r14L1 1000002 m) 1000002 0 l false (Nat.zero_le _) (by omega) hl
    have r1' : r14L2 1000002 (r14L1 1000002 m) 1000002 set false ch (zn ch.length) 0 i ch nm ho l = _ := r1
    rw [r1', fixU, Nat.sub_zero]
    cases hc : (passU true (cAway ch set) ch.length 0 l false).2 with
    | true => exact ms_loop1 hn hset hrow f m _ (by omega) (p.len.trans hl) (by have := (p.lt hc).resolve_left (by simp); omega)
    | false =>
      cases m with
      | zero => omega
      | succ m =>
        have hpl := p.len
        exact ms_loop3 (aw := (passU true (cAway ch set) ch.length 0 l false).1) (by omega) 1000002 0 _ (Nat.zero_le _) (by omega) rfl (fun j hj => absurd hj (Nat.not_lt_zero _)) (fun _ _ => rfl)
theorem allF_ok : FixOk true (cAll ch) set (allF ch set) := fix_ok _ _ _ _ rfl (Nat.lt_succ_of_le (nb_le _ _))
theorem mustSure_T (h : ofMG ch nm ho = true) : r14M 1000002 i ch nm ho set = some ⟨[.one (.rw ⟨1, 0⟩), pE (mustSureV i ch nm ho set).2], [], [roB (mustSureV i ch nm ho set).1]⟩ := by
  unfold r14M r14T mustSureV
  have e : (mdOk i ch nm ho && zn set.length == zn ch.length) = okS i ch nm ho set := rfl
  rw [mdG_of h, e, er1_nil]
  cases hc : okS i ch nm ho set with
  | false => rfl
  | true =>
    have hg := rgS_of h hc
    obtain ⟨g1, g2, g3⟩ := rgS_p hg
    have hl := (allF_ok (ch := ch) (set := set)).len
    have e1 : (decide (0 ≤ zn set.length) && (decide (zn set.length ≤ zn set.length) && decide (1 * (zn set.length).toNat ≤ 140737488355328))) = true := by
      rw [decide_eq_true (show 0 ≤ zn set.length by simp only [zn]; omega), decide_eq_true (Int.le_refl _), decide_eq_true (show 1 * (zn set.length).toNat ≤ 140737488355328 by simp only [zn]; omega)]; rfl
    rw [hg, e1]
    have r0 := ms_loop0 i nm ho g2 (set := set) (may := allF ch set) (by omega) 1000002 0 (List.replicate set.length false) (Nat.zero_le _) (by omega) (by rw [List.length_replicate]; exact g1) (fun j hj => absurd hj (Nat.not_lt_zero _))
    have r1 := ms_loop1 i nm ho g2 g1 g3 (set.length + 1) 1000002 ((allF ch set).map not) (by omega) (by rw [List.length_map]; omega) (Nat.lt_succ_of_le (by have := nb_le true ((allF ch set).map not); rw [List.length_map] at this; omega))
    rw [← g1] at r1
    exact r0.trans r1
end
theorem may_ok : FnOk P C0 11 mayS := by
  refine fn_okC ctx19 (show P.funcs[11]? = some r11f by kernel_rfl) (of_decide_eq_true (by kernel_rfl)) (mayS) r11h (fun ds os lf hp => ?_)
  unfold mayS at hp
  simp only at hp
  split at hp
  · rename_i i ch nm ho set
    obtain ⟨hc, hp1⟩ := br_pick hp
    have hl := leaf_pick hp1
    subst hl
    exact ⟨0, (r11_ev _ i ch nm ho set).trans (may_T i nm ho hc)⟩
  · cases hp
theorem sure_ok : FnOk P C0 12 sureS := by
  refine fn_okC ctx19 (show P.funcs[12]? = some r12f by kernel_rfl) (of_decide_eq_true (by kernel_rfl)) (sureS) r12h (fun ds os lf hp => ?_)
  unfold sureS at hp
  simp only at hp
  split at hp
  · rename_i i ch nm ho set
    obtain ⟨hc, hp1⟩ := br_pick hp
    have hl := leaf_pick hp1
    subst hl
    exact ⟨_, (r12_ev _ i ch nm ho set).trans (sure_T i nm ho hc)⟩
  · cases hp
theorem mustMay_ok : FnOk P C0 13 mustMayS := by
  refine fn_okC ctx19 (show P.funcs[13]? = some r13f by kernel_rfl) (of_decide_eq_true (by kernel_rfl)) (mustMayS) r13h (fun ds os lf hp => ?_)
  unfold mustMayS at hp
  simp only at hp
  split at hp
  · rename_i i ch nm ho set
    obtain ⟨hc, hp1⟩ := br_pick hp
    have hl := leaf_pick hp1
    subst hl
    exact ⟨0, (r13_ev _ i ch nm ho set).trans (mustMay_T i nm ho hc)⟩
  · cases hp
theorem mustSure_ok : FnOk P C0 14 mustSureS := by
  refine fn_okC ctx19 (show P.funcs[14]? = some r14f by kernel_rfl) (of_decide_eq_true (by kernel_rfl)) (mustSureS) r14h (fun ds os lf hp => ?_)
  unfold mustSureS at hp
  simp only at hp
  split at hp
  · rename_i i ch nm ho set
    obtain ⟨hc, hp1⟩ := br_pick hp
    have hl := leaf_pick hp1
    subst hl
    exact ⟨_, (r14_ev _ i ch nm ho set).trans (mustSure_T i nm ho hc)⟩
  · cases hp
end Go.S22
