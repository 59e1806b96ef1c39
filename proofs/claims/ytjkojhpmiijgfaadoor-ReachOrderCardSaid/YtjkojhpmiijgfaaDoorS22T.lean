/-
  Seat 22: who may and who must come to a set, under picks: plain facts.
-/
import Derived.Test.YtjkojhpmiijgfaaDoorS22L
open Go Go.En
namespace Go.S22
theorem notIn {l : List Bool} {j : Nat} (h : ¬ isIn l j) : l.getD j false = false := by
  cases h1 : l.getD j false with
  | false => rfl
  | true => exact absurd h1 h
theorem idx_get {α : Type} (p : α → Bool) (d : α) : ∀ (l : List α) (k : Nat), 0 ≤ idxG p k l → ∃ m : Nat, idxG p k l = ((k + m : Nat) : Int) ∧ m < l.length ∧ p (l.getD m d) = true
  | [], k, h => absurd h (by show ¬ (0 : Int) ≤ -1; omega)
  | x :: l, k, h => by
    have e : idxG p k (x :: l) = bif p x then (k : Int) else idxG p (k + 1) l := rfl
    rw [e] at h ⊢
    cases hp : p x with
    | true => exact ⟨0, rfl, Nat.zero_lt_succ _, hp⟩
    | false =>
      rw [hp] at h
      obtain ⟨m, h1, h2, h3⟩ := idx_get p d l (k + 1) h
      exact ⟨m + 1, by rw [cond_false, h1]; congr 1; omega, Nat.succ_lt_succ h2, h3⟩
theorem pkG_of : ∀ {ch : List (List ChV)} {pk : List Int}, pk.length = ch.length → (∀ s, s < ch.length → 0 ≤ pk.getD s 0 ∧ pk.getD s 0 < ((ch.getD s []).length : Int)) → pkG ch pk = true
  | [], [], _, _ => rfl
  | l :: ls, p :: ps, h, hs => by
    show (inF (zn l.length) p && pkG ls ps) = true
    have h0 : 0 ≤ p ∧ p < zn l.length := hs 0 (Nat.zero_lt_succ _)
    rw [in_yes h0, pkG_of (by simpa using h) (fun s h1 => hs (s + 1) (Nat.succ_lt_succ h1))]; rfl
  | [], _ :: _, h, _ => by simp at h
  | _ :: _, [], h, _ => by simp at h
theorem full_p {ch : List (List ChV)} (h : full ch = true) {s : Nat} (hs : s < ch.length) : 0 < (ch.getD s []).length := Nat.le_of_ble_eq_true (List.all_eq_true.1 h _ (get_mem hs []))
theorem cho_mem {ch : List (List ChV)} {pk : List Int} (h : pkG ch pk = true) {s : Nat} (hs : s < ch.length) : cho ch pk s ∈ ch.getD s [] := by
  have := (pkG_may h).2 s hs
  exact get_mem (by omega) _
section
variable {ch : List (List ChV)} {set : List Bool} (hg : rgS ch set = true)
include hg
theorem mayP_ok (pk : List Int) : FixOk true (cMay ch pk) set (mayP ch set pk) := have _ := hg; fix_ok true (cMay ch pk) _ set rfl (Nat.lt_succ_of_le (nb_le _ _))
theorem move_lt {s : Nat} (hs : s < set.length) {c : ChV} (hc : c ∈ ch.getD s []) {v : MvV} (hv : v ∈ c.2.1) : v.1.toNat < set.length := by
  obtain ⟨g1, g2, g3⟩ := rgS_p hg
  have := (rgL_in (g3 s (by omega)) hc hv).1
  omega
/-- a round more for who may -/
theorem may_step {pk : List Int} (hp : pkG ch pk = true) {s : Nat} (hs : s < set.length) {v : MvV} (hv : v ∈ (cho ch pk s).2.1) (hi : isIn (mayP ch set pk) v.1.toNat) : isIn (mayP ch set pk) s := by
  have m := mayP_ok hg pk
  by_cases h : isIn (mayP ch set pk) s
  · exact h
  · have := m.no s hs h
    unfold cMay at this
    rw [List.any_eq_false] at this
    exact absurd hi (this v hv)
theorem A_step {s : Nat} (hs : s < set.length) {c : ChV} (hc : c ∈ ch.getD s []) {v : MvV} (hv : v ∈ c.2.1) (hi : isIn (wideA ch set).1 v.1.toNat) : isIn (wideA ch set).1 s := by
  have _ := hg
  have w := wideA_ok (ch := ch) (set := set)
  by_cases h : isIn (wideA ch set).1 s
  · exact h
  · have := (idx_no _ _).1 (w.no s hs (notIn h)) c hc
    rw [(yesC_iff _ _).2 ⟨v, hv, hi⟩] at this; cases this
/-- T1 -/
theorem may_A {pk : List Int} (hp : pkG ch pk = true) : ∀ j, j < set.length → isIn (mayP ch set pk) j → isIn (wideA ch set).1 j := by
  have m := mayP_ok hg pk
  have w := wideA_ok (ch := ch) (set := set)
  refine m.ind (fun j => isIn (wideA ch set).1 j) (fun j hj h => w.up j hj h) (fun L j hL hj hX hC => ?_)
  obtain ⟨v, hv, hi⟩ := List.any_eq_true.1 hC
  have hc := cho_mem hp (show j < ch.length by have := (rgS_p hg).1; omega)
  exact A_step hg (by omega) hc hv (hX _ (by have := move_lt hg (by omega) hc hv; omega) hi)
/-- what the picks of widening do -/
theorem A_picks (hf : full ch = true) : pkG ch (wideA ch set).2 = true ∧ (∀ j, j < set.length → isIn set j ∨ ¬ isIn (wideA ch set).1 j → (wideA ch set).2.getD j 0 = 0) := by
  obtain ⟨g1, g2, g3⟩ := rgS_p hg
  have w := wideA_ok (ch := ch) (set := set)
  have hk : ∀ j, j < set.length → isIn set j ∨ ¬ isIn (wideA ch set).1 j → (wideA ch set).2.getD j 0 = 0 := fun j hj h => by
    rw [w.keep j hj (h.imp id notIn), List.getD_eq_getElem?_getD, List.getElem?_replicate, if_pos hj]; rfl
  refine ⟨pkG_of (by rw [w.len2]; exact g1) (fun s hs => ?_), hk⟩
  have hp := full_p hf hs
  have z : ∀ j, (wideA ch set).2.getD j 0 = 0 → j < ch.length → 0 ≤ (wideA ch set).2.getD j 0 ∧ (wideA ch set).2.getD j 0 < ((ch.getD j []).length : Int) := fun j h hj => by
    have := full_p hf hj
    rw [h]; omega
  by_cases ha : isIn (wideA ch set).1 s
  · refine w.ind (fun j => 0 ≤ (wideA ch set).2.getD j 0 ∧ (wideA ch set).2.getD j 0 < ((ch.getD j []).length : Int)) (fun j hj h => z j (hk j hj (.inl h)) (by omega)) (fun j L hj _ _ _ _ hq he => ?_) s (by omega) ha
    obtain ⟨m, h1, h2, _⟩ := idx_get (yesC L) ({ data := #[] }, [], ()) _ 0 hq
    rw [he]
    show 0 ≤ idxG (yesC L) 0 (ch.getD j []) ∧ idxG (yesC L) 0 (ch.getD j []) < _
    rw [h1]; omega
  · exact z s (hk s (by omega) (.inr ha)) hs
/-- T2 -/
theorem A_may (hf : full ch = true) : ∀ j, j < set.length → isIn (wideA ch set).1 j → isIn (mayP ch set (wideA ch set).2) j := by
  obtain ⟨g1, g2, g3⟩ := rgS_p hg
  have w := wideA_ok (ch := ch) (set := set)
  have hp := (A_picks hg hf).1
  have m := mayP_ok hg (wideA ch set).2
  refine w.ind _ (fun j hj h => m.up j hj h) (fun j L hj _ _ hL hX hq he => ?_)
  obtain ⟨k, h1, h2, h3⟩ := idx_get (yesC L) ({ data := #[] }, [], ()) _ 0 hq
  obtain ⟨v, hv, hi⟩ := (yesC_iff _ _).1 h3
  have e : cho ch (wideA ch set).2 j = (ch.getD j []).getD k ({ data := #[] }, [], ()) := by
    unfold cho
    rw [he]
    show (ch.getD j []).getD (idxG (yesC L) 0 (ch.getD j [])).toNat _ = _
    rw [h1, Nat.zero_add, Int.toNat_natCast]
  have hc : (ch.getD j []).getD k ({ data := #[] }, [], ()) ∈ ch.getD j [] := get_mem h2 _
  refine may_step hg hp hj (v := v) (by rw [e]; exact hv) (hX _ (move_lt hg hj hc hv) hi).1
/-! ### surely -/
theorem B_step {inS : List Bool} {s : Nat} (hs : s < set.length) {c : ChV} (hc : c ∈ ch.getD s []) {v : MvV} (hv : v ∈ c.2.1) (hi : isIn (wideB ch inS set).1 v.1.toNat) (h2 : two25 inS c.2.1 = true) : isIn (wideB ch inS set).1 s := by
  have _ := hg
  have w := wideB_ok (ch := ch) (inS := inS) (set := set)
  by_cases h : isIn (wideB ch inS set).1 s
  · exact h
  · have := (idx_no _ _).1 (w.no s hs (notIn h)) c hc
    unfold wB at this
    rw [(yesC_iff _ _).2 ⟨v, hv, hi⟩, h2] at this; cases this
theorem sure_fix : ∀ (f : Nat) (inn : List Bool), inn.length = ch.length → (∀ j, j < set.length → isIn (wideB ch inn set).1 j → isIn inn j) → nb false inn < f →
    ∃ I, sFix ch set f inn = wideB ch I set ∧ (wideB ch I set).1 = I ∧ ∀ U : Nat → Prop, (∀ inn' : List Bool, (∀ j, j < set.length → U j → isIn inn' j) → ∀ j, j < set.length → U j → isIn (wideB ch inn' set).1 j) → (∀ j, j < set.length → U j → isIn inn j) → ∀ j, j < set.length → U j → isIn I j
  | 0, _, _, _, h => absurd h (Nat.not_lt_zero _)
  | f + 1, inn, hi, hsub, hf => by
    obtain ⟨g1, g2, g3⟩ := rgS_p hg
    have hwl : (wideB ch inn set).1.length = ch.length := (wideB_ok (ch := ch) (inS := inn) (set := set)).len.trans g1
    rw [sFix]
    cases hs : sameB (wideB ch inn set).1 inn with
    | true => exact ⟨inn, rfl, sameB_eq hs, fun U _ h => h⟩
    | false =>
      have hne : ∃ j, j < inn.length ∧ inn.getD j false ≠ false ∧ (wideB ch inn set).1.getD j false = false := by
        refine Classical.byContradiction fun hno => ?_
        have heq : (wideB ch inn set).1 = inn := ext_get (by omega) fun j hj => by
          cases ha : (wideB ch inn set).1.getD j false with
          | true => exact (hsub j (by omega) ha).symm
          | false =>
            cases hb : inn.getD j false with
            | false => rfl
            | true => exact absurd ⟨j, by omega, by rw [hb]; simp, ha⟩ hno
        rw [heq, sameB_refl] at hs; cases hs
      have hlt : nb false (wideB ch inn set).1 < nb false inn := nb_lt false (by omega) (fun j hj h0 => by
        cases ha : (wideB ch inn set).1.getD j false with
        | false => rfl
        | true => have := hsub j (by omega) ha; unfold isIn at this; rw [h0] at this; cases this) hne
      obtain ⟨I, e1, e2, e3⟩ := sure_fix f (wideB ch inn set).1 hwl (fun j hj hj2 => wide_mono hg (fun k hk => hsub k (by have := isIn_len hk; omega) hk) j hj hj2) (by omega)
      exact ⟨I, e1, e2, fun U hU h => e3 U hU (hU inn h)⟩
theorem sure_is : ∃ I, sureF ch set = wideB ch I set ∧ (wideB ch I set).1 = I ∧ ∀ U : Nat → Prop, (∀ inn' : List Bool, (∀ j, j < set.length → U j → isIn inn' j) → ∀ j, j < set.length → U j → isIn (wideB ch inn' set).1 j) → (∀ j, j < set.length → U j → isIn (wideA ch set).1 j) → ∀ j, j < set.length → U j → isIn I j := by
  obtain ⟨g1, g2, g3⟩ := rgS_p hg
  have hl := (wideA_ok (ch := ch) (set := set)).len
  exact sure_fix hg (set.length + 1) (wideA ch set).1 (by omega) (fun j hj h1 => wide_AB hg j hj h1) (Nat.lt_succ_of_le (by have := nb_le false (wideA ch set).1; omega))
theorem sure_eq : sureF ch set = wideB ch (sureF ch set).1 set := by
  obtain ⟨I, h1, h2, _⟩ := sure_is hg
  rw [h1, h2]
theorem sureF_len : (sureF ch set).1.length = set.length := by
  rw [sure_eq hg]
  exact (wideB_ok).len
/-- who is in sure(pk) but not in the set has all moves in it -/
theorem sureP_all {pk : List Int} {s : Nat} (hs : s < set.length) (h : isIn (sureP ch set pk) s) (hn : ¬ isIn set s) : two25 (sureP ch set pk) (cho ch pk s).2.1 = true := by
  have m := mayP_ok hg pk
  have u := sureP_ok ch set pk
  have := u.no s (by rw [m.len]; exact hs) (by show (sureP ch set pk).getD s false ≠ false; rw [h]; simp)
  unfold cSure at this
  rw [notIn hn, Bool.not_false, Bool.true_and] at this
  unfold two25
  rw [this]; rfl
theorem sure_may {pk : List Int} {s : Nat} (hs : s < set.length) (h : isIn (sureP ch set pk) s) : isIn (mayP ch set pk) s := by
  have m := mayP_ok hg pk
  have u := sureP_ok ch set pk
  by_cases hm : isIn (mayP ch set pk) s
  · exact hm
  · have := u.up s (by rw [m.len]; exact hs) (notIn hm)
    unfold isIn at h
    rw [this] at h; cases h
/-- T3 -/
theorem sure_S {pk : List Int} (hp : pkG ch pk = true) : ∀ j, j < set.length → isIn (sureP ch set pk) j → isIn (sureF ch set).1 j := by
  obtain ⟨g1, g2, g3⟩ := rgS_p hg
  obtain ⟨I, h1, h2, h3⟩ := sure_is hg
  have m := mayP_ok hg pk
  rw [h1, h2]
  refine h3 (fun j => isIn (sureP ch set pk) j) (fun inn' hin j hj hj2 => ?_) (fun j hj hj2 => may_A hg hp j hj (sure_may hg hj hj2))
  refine m.ind (fun j => isIn (sureP ch set pk) j → isIn (wideB ch inn' set).1 j) (fun j hj h _ => (wideB_ok).up j hj h) (fun L j hL hj hX hC hu => ?_) j hj (sure_may hg hj hj2) hj2
  by_cases hset : isIn set j
  · exact (wideB_ok).up j (by omega) hset
  · obtain ⟨v, hv, hi⟩ := List.any_eq_true.1 hC
    have hc := cho_mem hp (show j < ch.length by omega)
    have ht := sureP_all hg (by omega) hu hset
    have hvl := move_lt hg (by omega) hc hv
    exact B_step hg (by omega) hc hv (hX _ (by omega) hi ((two_iff _ _).1 ht v hv)) ((two_iff _ _).2 fun x hx => hin _ (move_lt hg (by omega) hc hx) ((two_iff _ _).1 ht x hx))
theorem S_picks (hf : full ch = true) : pkG ch (sureF ch set).2 = true ∧ (∀ j, j < set.length → isIn set j ∨ ¬ isIn (sureF ch set).1 j → (sureF ch set).2.getD j 0 = 0) ∧
    ∀ j, j < set.length → isIn (sureF ch set).1 j → ¬ isIn set j → two25 (sureF ch set).1 (cho ch (sureF ch set).2 j).2.1 = true := by
  obtain ⟨g1, g2, g3⟩ := rgS_p hg
  have w := wideB_ok (ch := ch) (inS := (sureF ch set).1) (set := set)
  rw [← sure_eq hg] at w
  have hk : ∀ j, j < set.length → isIn set j ∨ ¬ isIn (sureF ch set).1 j → (sureF ch set).2.getD j 0 = 0 := fun j hj h => by
    rw [w.keep j hj (h.imp id notIn), List.getD_eq_getElem?_getD, List.getElem?_replicate, if_pos hj]; rfl
  have z : ∀ j, (sureF ch set).2.getD j 0 = 0 → j < ch.length → 0 ≤ (sureF ch set).2.getD j 0 ∧ (sureF ch set).2.getD j 0 < ((ch.getD j []).length : Int) := fun j h hj => by
    have := full_p hf hj
    rw [h]; omega
  refine ⟨pkG_of (by rw [w.len2]; exact g1) (fun s hs => ?_), hk, fun j hj h hn => ?_⟩
  · by_cases ha : isIn (sureF ch set).1 s
    · refine w.ind (fun j => 0 ≤ (sureF ch set).2.getD j 0 ∧ (sureF ch set).2.getD j 0 < ((ch.getD j []).length : Int)) (fun j hj h => z j (hk j hj (.inl h)) (by omega)) (fun j L hj _ _ _ _ hq he => ?_) s (by omega) ha
      obtain ⟨m, h1, h2, _⟩ := idx_get (wB L (sureF ch set).1) ({ data := #[] }, [], ()) _ 0 hq
      rw [he]
      show 0 ≤ idxG (wB L (sureF ch set).1) 0 (ch.getD j []) ∧ idxG (wB L (sureF ch set).1) 0 (ch.getD j []) < _
      rw [h1]; omega
    · exact z s (hk s (by omega) (.inr ha)) hs
  · refine w.ind (fun j => ¬ isIn set j → two25 (sureF ch set).1 (cho ch (sureF ch set).2 j).2.1 = true) (fun j _ h hn => absurd h hn) (fun j L hj _ _ _ _ hq he _ => ?_) j hj h hn
    obtain ⟨k, h1, h2, h3⟩ := idx_get (wB L (sureF ch set).1) ({ data := #[] }, [], ()) _ 0 hq
    unfold wB at h3
    rw [Bool.and_eq_true] at h3
    have e : cho ch (sureF ch set).2 j = (ch.getD j []).getD k ({ data := #[] }, [], ()) := by
      unfold cho
      rw [he]
      show (ch.getD j []).getD (idxG (wB L (sureF ch set).1) 0 (ch.getD j [])).toNat _ = _
      rw [h1, Nat.zero_add, Int.toNat_natCast]
    rw [e]; exact h3.2
/-- T4 -/
theorem S_sure (hf : full ch = true) : ∀ j, j < set.length → isIn (sureF ch set).1 j → isIn (sureP ch set (sureF ch set).2) j := by
  obtain ⟨g1, g2, g3⟩ := rgS_p hg
  obtain ⟨hp, _, htwo⟩ := S_picks hg hf
  have w := wideB_ok (ch := ch) (inS := (sureF ch set).1) (set := set)
  rw [← sure_eq hg] at w
  have m := mayP_ok hg (sureF ch set).2
  have hmay : ∀ j, j < set.length → isIn (sureF ch set).1 j → isIn (mayP ch set (sureF ch set).2) j := by
    refine w.ind _ (fun j hj h => m.up j hj h) (fun j L hj _ _ hL hX hq he => ?_)
    obtain ⟨k, h1, h2, h3⟩ := idx_get (wB L (sureF ch set).1) ({ data := #[] }, [], ()) _ 0 hq
    unfold wB at h3
    rw [Bool.and_eq_true] at h3
    obtain ⟨v, hv, hi⟩ := (yesC_iff _ _).1 h3.1
    have e : cho ch (sureF ch set).2 j = (ch.getD j []).getD k ({ data := #[] }, [], ()) := by
      unfold cho
      rw [he]
      show (ch.getD j []).getD (idxG (wB L (sureF ch set).1) 0 (ch.getD j [])).toNat _ = _
      rw [h1, Nat.zero_add, Int.toNat_natCast]
    have hc : (ch.getD j []).getD k ({ data := #[] }, [], ()) ∈ ch.getD j [] := get_mem h2 _
    exact may_step hg hp hj (v := v) (by rw [e]; exact hv) (hX _ (move_lt hg hj hc hv) hi).1
  have u := sureP_ok ch set (sureF ch set).2
  have key : ∀ j, j < set.length → (sureP ch set (sureF ch set).2).getD j false = false → ¬ isIn (sureF ch set).1 j := by
    intro j hj
    refine u.ind (fun j => ¬ isIn (sureF ch set).1 j) (fun j hj h hs => ?_) (fun L j hL hj hX hC hs => ?_) j (by rw [m.len]; exact hj)
    · rw [m.len] at hj
      have := hmay j hj hs
      unfold isIn at this
      rw [h] at this; cases this
    · rw [m.len] at hL
      have hjs : j < set.length := by omega
      unfold cSure at hC
      rw [Bool.and_eq_true] at hC
      have hn : ¬ isIn set j := fun h => by unfold isIn at h; rw [h] at hC; exact absurd hC.1 (by simp)
      obtain ⟨v, hv, hi⟩ := List.any_eq_true.1 hC.2
      have hc := cho_mem hp (show j < ch.length by omega)
      have hvl := move_lt hg hjs hc hv
      have hi : L.getD v.1.toNat false = false := by
        unfold no at hi
        rwa [Bool.not_eq_true'] at hi
      exact hX _ (by omega) hi ((two_iff _ _).1 (htwo j hjs hs hn) v hv)
  intro j hj h
  by_cases hs : isIn (sureP ch set (sureF ch set).2) j
  · exact hs
  · exact absurd h (key j hj (notIn hs))
/-! ### must -/
theorem C_ok : FixOk true (cAll ch) set (allF ch set) := have _ := hg; allF_ok
/-- T5 -/
theorem C_may {pk : List Int} (hp : pkG ch pk = true) : ∀ j, j < set.length → isIn (allF ch set) j → isIn (mayP ch set pk) j := by
  obtain ⟨g1, g2, g3⟩ := rgS_p hg
  have c := C_ok hg
  have m := mayP_ok hg pk
  refine c.ind _ (fun j hj h => m.up j hj h) (fun L j hL hj hX hC => ?_)
  have hc := cho_mem hp (show j < ch.length by omega)
  unfold cAll at hC
  rw [Bool.not_eq_true', List.any_eq_false] at hC
  have := hC _ hc
  unfold allC at this
  rw [Bool.not_eq_true', Bool.not_eq_false] at this
  obtain ⟨v, hv, hi⟩ := (yesC_iff _ _).1 this
  exact may_step hg hp (by omega) hv (hX _ (by have := move_lt hg (by omega) hc hv; omega) hi)
/-- picks that stay away where they can -/
def avoid (ch : List (List ChV)) (set : List Bool) : List Int := (List.range set.length).map fun j => bif decide (idxG (allC (allF ch set)) 0 (ch.getD j []) ≥ 0) then idxG (allC (allF ch set)) 0 (ch.getD j []) else 0
theorem avoid_get {j : Nat} (hj : j < set.length) : (avoid ch set).getD j 0 = bif decide (idxG (allC (allF ch set)) 0 (ch.getD j []) ≥ 0) then idxG (allC (allF ch set)) 0 (ch.getD j []) else 0 := by
  have _ := hg
  unfold avoid
  rw [List.getD_eq_getElem?_getD, List.getElem?_map, List.getElem?_range hj]; rfl
theorem avoid_G (hf : full ch = true) : pkG ch (avoid ch set) = true := by
  obtain ⟨g1, g2, g3⟩ := rgS_p hg
  refine pkG_of (by unfold avoid; rw [List.length_map, List.length_range]; exact g1) (fun s hs => ?_)
  have hp := full_p hf hs
  rw [avoid_get hg (by omega)]
  by_cases h : idxG (allC (allF ch set)) 0 (ch.getD s []) ≥ 0
  · obtain ⟨m, h1, h2, _⟩ := idx_get (allC (allF ch set)) ({ data := #[] }, [], ()) _ 0 h
    rw [decide_eq_true h, cond_true, h1]; omega
  · rw [decide_eq_false h, cond_false]; omega
/-- T6, for any pick that avoids where it can -/
theorem may_C {pk : List Int} (hp : pkG ch pk = true) (ha : ∀ j, j < set.length → ¬ isIn (allF ch set) j → pk.getD j 0 = (avoid ch set).getD j 0) : ∀ j, j < set.length → isIn (mayP ch set pk) j → isIn (allF ch set) j := by
  obtain ⟨g1, g2, g3⟩ := rgS_p hg
  have c := C_ok hg
  have m := mayP_ok hg pk
  refine m.ind _ (fun j hj h => c.up j hj h) (fun L j hL hj hX hC => ?_)
  by_cases h : isIn (allF ch set) j
  · exact h
  · exfalso
    have hno := c.no j (by omega) h
    unfold cAll at hno
    rw [Bool.not_eq_false'] at hno
    have hge : idxG (allC (allF ch set)) 0 (ch.getD j []) ≥ 0 := (idx_yes _ _).2 (List.any_eq_true.1 hno)
    obtain ⟨k, h1, h2, h3⟩ := idx_get (allC (allF ch set)) ({ data := #[] }, [], ()) _ 0 hge
    have e : cho ch pk j = (ch.getD j []).getD k ({ data := #[] }, [], ()) := by
      unfold cho
      rw [ha j (by omega) h, avoid_get hg (by omega), decide_eq_true hge, cond_true, h1, Nat.zero_add, Int.toNat_natCast]
    unfold cMay at hC
    rw [e] at hC
    obtain ⟨v, hv, hi⟩ := List.any_eq_true.1 hC
    have hc : (ch.getD j []).getD k ({ data := #[] }, [], ()) ∈ ch.getD j [] := get_mem h2 _
    have hin := hX _ (by have := move_lt hg (show j < set.length by omega) hc hv; omega) hi
    unfold allC at h3
    rw [(yesC_iff _ _).2 ⟨v, hv, hin⟩] at h3; cases h3
theorem away_ok : FixOk true (cAway ch set) ((allF ch set).map not) (awayF ch set) := by
  have c := C_ok hg
  exact fix_ok true _ _ _ (by rw [List.length_map]; exact c.len) (Nat.lt_succ_of_le (by have := nb_le true ((allF ch set).map not); rw [List.length_map, c.len] at this; exact this))
omit hg in
theorem map_not' {l : List Bool} {j : Nat} (hj : j < l.length) : (l.map not).getD j false = !l.getD j false := by
  rw [List.getD_eq_getElem?_getD, List.getElem?_map, List.getD_eq_getElem?_getD, List.getElem?_eq_getElem hj]; rfl
theorem away_len : (awayF ch set).length = set.length := (away_ok hg).len.trans (by rw [List.length_map]; exact (C_ok hg).len)
theorem D_iff {j : Nat} (hj : j < set.length) : isIn (mustSureF ch set) j ↔ ¬ isIn (awayF ch set) j := by
  unfold mustSureF isIn
  rw [map_not' (by rw [away_len hg]; exact hj)]
  cases (awayF ch set).getD j false <;> simp
theorem away_step {s : Nat} (hs : s < set.length) (hn : ¬ isIn set s) {c : ChV} (hc : c ∈ ch.getD s []) {v : MvV} (hv : v ∈ c.2.1) (hi : isIn (awayF ch set) v.1.toNat) : isIn (awayF ch set) s := by
  have a := away_ok hg
  by_cases h : isIn (awayF ch set) s
  · exact h
  · have := a.no s (by rw [List.length_map, (C_ok hg).len]; exact hs) h
    unfold cAway at this
    rw [notIn hn, Bool.not_false, Bool.true_and, List.any_eq_false] at this
    exact absurd ((yesC_iff _ _).2 ⟨v, hv, hi⟩) (this c hc)
theorem away_base {s : Nat} (hs : s < set.length) (hn : ¬ isIn (allF ch set) s) : isIn (awayF ch set) s := by
  have c := C_ok hg
  refine (away_ok hg).up s (by rw [List.length_map, c.len]; exact hs) ?_
  rw [map_not' (by rw [c.len]; exact hs), notIn hn]; rfl
theorem away_ind (X : Nat → Prop) (h1 : ∀ j, j < set.length → ¬ isIn (allF ch set) j → X j) (h2 : ∀ L j, L.length = set.length → j < set.length → (∀ i, i < set.length → isIn L i → X i) → cAway ch set L j = true → X j) : ∀ j, j < set.length → isIn (awayF ch set) j → X j := by
  have c := C_ok hg
  have hl : ((allF ch set).map not).length = set.length := by rw [List.length_map]; exact c.len
  intro j hj h
  refine (away_ok hg).ind X (fun i hi h3 => ?_) (fun L i hL hi hX hC => ?_) j (by rw [hl]; exact hj) h
  · rw [hl] at hi
    rw [map_not' (by rw [c.len]; exact hi)] at h3
    exact h1 i hi (fun h4 => by unfold isIn at h4; rw [h4] at h3; cases h3)
  · rw [hl] at hL
    exact h2 L i hL (by omega) (fun k hk h5 => hX k (by omega) h5) hC
/-- T7 -/
theorem D_sure {pk : List Int} (hp : pkG ch pk = true) : ∀ j, j < set.length → isIn (mustSureF ch set) j → isIn (sureP ch set pk) j := by
  obtain ⟨g1, g2, g3⟩ := rgS_p hg
  have m := mayP_ok hg pk
  have u := sureP_ok ch set pk
  have key : ∀ j, j < set.length → (sureP ch set pk).getD j false = false → isIn (awayF ch set) j := by
    intro j hj
    refine u.ind (fun j => isIn (awayF ch set) j) (fun j hj h => ?_) (fun L j hL hj hX hC => ?_) j (by rw [m.len]; exact hj)
    · rw [m.len] at hj
      refine away_base hg hj fun hc => ?_
      have := C_may hg hp j hj hc
      unfold isIn at this
      rw [h] at this; cases this
    · rw [m.len] at hL
      have hjs : j < set.length := by omega
      unfold cSure at hC
      rw [Bool.and_eq_true] at hC
      have hn : ¬ isIn set j := fun h => by unfold isIn at h; rw [h] at hC; exact absurd hC.1 (by simp)
      obtain ⟨v, hv, hi⟩ := List.any_eq_true.1 hC.2
      have hc := cho_mem hp (show j < ch.length by omega)
      have hvl := move_lt hg hjs hc hv
      have hi : L.getD v.1.toNat false = false := by
        unfold no at hi
        rwa [Bool.not_eq_true'] at hi
      exact away_step hg hjs hn hc hv (hX _ (by omega) hi)
  intro j hj h
  by_cases hs : isIn (sureP ch set pk) j
  · exact hs
  · exact absurd (key j hj (notIn hs)) ((D_iff hg hj).1 h)
/-- picks that come to where they can stay away -/
def qAway (ch : List (List ChV)) (set L : List Bool) (j : Nat) : Int := bif set.getD j false then -1 else idxG (yesC L) 0 (ch.getD j [])
def flee (ch : List (List ChV)) (set : List Bool) : List Bool × List Int := wFix (qAway ch set) set.length (set.length + 1) ((allF ch set).map not) (avoid ch set)
theorem flee_ok : WideOk (qAway ch set) set.length ((allF ch set).map not) (avoid ch set) (flee ch set) := by
  have c := C_ok hg
  have hl : ((allF ch set).map not).length = set.length := by rw [List.length_map]; exact c.len
  exact wfix_ok _ _ _ _ hl (by unfold avoid; rw [List.length_map, List.length_range]) (Nat.lt_succ_of_le (by have := nb_le true ((allF ch set).map not); rw [hl] at this; exact this))
theorem flee_G (hf : full ch = true) : pkG ch (flee ch set).2 = true := by
  obtain ⟨g1, g2, g3⟩ := rgS_p hg
  have w := flee_ok hg
  have hav := (pkG_may (avoid_G hg hf)).2
  refine pkG_of (by rw [w.len2]; exact g1) (fun s hs => ?_)
  have z : ∀ j, j < set.length → ((allF ch set).map not).getD j false = true ∨ (flee ch set).1.getD j false = false → 0 ≤ (flee ch set).2.getD j 0 ∧ (flee ch set).2.getD j 0 < ((ch.getD j []).length : Int) := fun j hj h => by
    rw [w.keep j hj h]; exact hav j (by omega)
  cases hr : (flee ch set).1.getD s false with
  | false => exact z s (by omega) (.inr hr)
  | true =>
    refine w.ind (fun j => 0 ≤ (flee ch set).2.getD j 0 ∧ (flee ch set).2.getD j 0 < ((ch.getD j []).length : Int)) (fun j hj h => z j hj (.inl h)) (fun j L hj _ _ _ _ hq he => ?_) s (by omega) hr
    rw [he]
    unfold qAway at hq ⊢
    cases hs2 : set.getD j false with
    | true => rw [hs2, cond_true] at hq; omega
    | false =>
      rw [hs2, cond_false] at hq
      rw [cond_false]
      obtain ⟨m, h1, h2, _⟩ := idx_get (yesC L) ({ data := #[] }, [], ()) _ 0 hq
      rw [h1]; omega
/-- T8 -/
theorem sure_D (hf : full ch = true) : ∀ j, j < set.length → isIn (sureP ch set (flee ch set).2) j → isIn (mustSureF ch set) j := by
  obtain ⟨g1, g2, g3⟩ := rgS_p hg
  have c := C_ok hg
  have w := flee_ok hg
  have hp := flee_G hg hf
  have hbase : ∀ j, j < set.length → ¬ isIn (allF ch set) j → (sureP ch set (flee ch set).2).getD j false = false := fun j hj hn => by
    refine notIn fun hs => hn (may_C hg hp (fun i hi hni => ?_) j hj (sure_may hg hj hs))
    exact w.keep i hi (.inl (by rw [map_not' (by rw [c.len]; exact hi), notIn hni]; rfl))
  have hR : ∀ j, j < set.length → isIn (awayF ch set) j → (flee ch set).1.getD j false = true := by
    refine away_ind hg _ (fun j hj hn => w.up j hj (by rw [map_not' (by rw [c.len]; exact hj), notIn hn]; rfl)) (fun L j hL hj hX hC => ?_)
    cases hr : (flee ch set).1.getD j false with
    | true => rfl
    | false =>
      exfalso
      have hq := w.no j hj hr
      unfold cAway at hC
      rw [Bool.and_eq_true] at hC
      unfold qAway at hq
      cases hs : set.getD j false with
      | true => rw [hs] at hC; exact absurd hC.1 (by simp)
      | false =>
        rw [hs, cond_false] at hq
        obtain ⟨x, hx, hy⟩ := List.any_eq_true.1 hC.2
        obtain ⟨v, hv, hi⟩ := (yesC_iff _ _).1 hy
        have := (idx_no _ _).1 hq x hx
        rw [(yesC_iff _ _).2 ⟨v, hv, hX _ (move_lt hg hj hx hv) hi⟩] at this; cases this
  have hno : ∀ j, j < set.length → (flee ch set).1.getD j false = true → (sureP ch set (flee ch set).2).getD j false = false := by
    refine w.ind _ (fun j hj h => hbase j hj fun hc => ?_) (fun j L hj _ _ hL hX hq he => ?_)
    · rw [map_not' (by rw [c.len]; exact hj), hc] at h; cases h
    · refine notIn fun hs => ?_
      unfold qAway at hq he
      cases hs2 : set.getD j false with
      | true => rw [hs2, cond_true] at hq; omega
      | false =>
        rw [hs2, cond_false] at hq he
        obtain ⟨k, h1, h2, h3⟩ := idx_get (yesC L) ({ data := #[] }, [], ()) _ 0 hq
        obtain ⟨v, hv, hi⟩ := (yesC_iff _ _).1 h3
        have e : cho ch (flee ch set).2 j = (ch.getD j []).getD k ({ data := #[] }, [], ()) := by
          unfold cho
          rw [he, h1, Nat.zero_add, Int.toNat_natCast]
        have ht := sureP_all hg hj hs (by unfold isIn; rw [hs2]; simp)
        rw [e] at ht
        have hc : (ch.getD j []).getD k ({ data := #[] }, [], ()) ∈ ch.getD j [] := get_mem h2 _
        have a := (two_iff _ _).1 ht v hv
        have b := (hX _ (move_lt hg hj hc hv) hi).1
        unfold isIn at a
        rw [b] at a; cases a
  intro j hj h
  refine (D_iff hg hj).2 fun ha => ?_
  have := hno j hj (hR j hj ha)
  unfold isIn at h
  rw [this] at h; cases h
end
/-! ### each pick has its number -/
def prodL : List (List ChV) → Nat
  | [] => 1
  | l :: ls => l.length * prodL ls
theorem picks_prod : ∀ (ch : List (List ChV)) (n : Int), 1 ≤ n → full ch = true → picksF n ch ≤ 1500 → picksF n ch = n * (prodL ch : Int)
  | [], n, _, _, _ => by show n = n * ((1 : Nat) : Int); omega
  | l :: ls, n, h1, hf, h => by
    have hf : (Nat.blt 0 l.length && full ls) = true := hf
    rw [Bool.and_eq_true] at hf
    have hp : 0 < l.length := Nat.le_of_ble_eq_true hf.1
    rw [picksF] at h ⊢
    by_cases hc : n * zn l.length > 100000
    · rw [decide_eq_true hc, cond_true] at h; omega
    · rw [decide_eq_false hc, cond_false] at h ⊢
      have h2 : 1 ≤ n * zn l.length := by
        have := Int.mul_le_mul h1 (show (1 : Int) ≤ zn l.length by simp only [zn]; omega) (by omega) (by omega)
        omega
      rw [picks_prod ls _ h2 hf.2 h]
      show n * zn l.length * (prodL ls : Int) = n * ((l.length * prodL ls : Nat) : Int)
      rw [Int.natCast_mul, Int.mul_assoc]
theorem pick_all : ∀ {ch : List (List ChV)} {pk : List Int}, pkG ch pk = true → ∃ k, k < prodL ch ∧ pickF k ch = pk
  | [], [], _ => ⟨0, Nat.one_pos, rfl⟩
  | l :: ls, p :: ps, h => by
    have h : (inF (zn l.length) p && pkG ls ps) = true := h
    rw [Bool.and_eq_true] at h
    obtain ⟨h1, h2⟩ := inF_p h.1
    obtain ⟨p, rfl⟩ := Int.eq_ofNat_of_zero_le h1
    simp only [zn] at h2
    obtain ⟨k, hk, e⟩ := pick_all h.2
    have hp : 0 < l.length := by omega
    refine ⟨p + l.length * k, ?_, ?_⟩
    · show p + l.length * k < l.length * prodL ls
      have : l.length * (k + 1) ≤ l.length * prodL ls := Nat.mul_le_mul_left _ hk
      rw [Nat.mul_add] at this
      omega
    · show (((p + l.length * k) % l.length : Nat) : Int) :: pickF ((p + l.length * k) / l.length) ls = _
      rw [Nat.add_mul_mod_self_left, Nat.mod_eq_of_lt (by omega), Nat.add_mul_div_left _ _ hp, Nat.div_eq_of_lt (by omega), Nat.zero_add, e]
  | [], _ :: _, h => by cases h
  | _ :: _, [], h => by cases h
theorem allR_get (ch : List (List ChV)) (set : List Bool) : ∀ (f k : Nat) (q : Q4), q.1.length = set.length → q.2.1.length = set.length → q.2.2.1.length = set.length → q.2.2.2.length = set.length →
    ((allR ch set f k q).1.length = set.length ∧ (allR ch set f k q).2.1.length = set.length ∧ (allR ch set f k q).2.2.1.length = set.length ∧ (allR ch set f k q).2.2.2.length = set.length) ∧
    ∀ j, j < set.length →
      (isIn (allR ch set f k q).1 j ↔ isIn q.1 j ∨ ∃ x, k ≤ x ∧ x < k + f ∧ isIn (mayP ch set (pickF x ch)) j) ∧ (isIn (allR ch set f k q).2.1 j ↔ isIn q.2.1 j ∨ ∃ x, k ≤ x ∧ x < k + f ∧ isIn (sureP ch set (pickF x ch)) j) ∧
      (isIn (allR ch set f k q).2.2.1 j ↔ isIn q.2.2.1 j ∧ ∀ x, k ≤ x → x < k + f → isIn (mayP ch set (pickF x ch)) j) ∧ (isIn (allR ch set f k q).2.2.2 j ↔ isIn q.2.2.2 j ∧ ∀ x, k ≤ x → x < k + f → isIn (sureP ch set (pickF x ch)) j)
  | 0, k, q, h1, h2, h3, h4 => ⟨⟨h1, h2, h3, h4⟩, fun j _ => ⟨⟨.inl, fun h => h.elim id fun ⟨x, a, b, _⟩ => by omega⟩, ⟨.inl, fun h => h.elim id fun ⟨x, a, b, _⟩ => by omega⟩, ⟨fun h => ⟨h, fun x a b => by omega⟩, fun h => h.1⟩, ⟨fun h => ⟨h, fun x a b => by omega⟩, fun h => h.1⟩⟩⟩
  | f + 1, k, q, h1, h2, h3, h4 => by
    have lm := mayP_len ch set (pickF k ch)
    have ls := sureP_len ch set (pickF k ch)
    obtain ⟨hl, hj⟩ := allR_get ch set f (k + 1) (orL q.1 (mayP ch set (pickF k ch)), orL q.2.1 (sureP ch set (pickF k ch)), andL q.2.2.1 (mayP ch set (pickF k ch)), andL q.2.2.2 (sureP ch set (pickF k ch)))
      (by show (orL _ _).length = _; rw [orL, zip_len _ (by rw [h1, lm])]; exact h1) (by show (orL _ _).length = _; rw [orL, zip_len _ (by rw [h2, ls])]; exact h2) (by show (andL _ _).length = _; rw [andL, zip_len _ (by rw [h3, lm])]; exact h3) (by show (andL _ _).length = _; rw [andL, zip_len _ (by rw [h4, ls])]; exact h4)
    refine ⟨hl, fun j hjs => ?_⟩
    obtain ⟨a, b, c, d⟩ := hj j hjs
    have e1 : isIn (orL q.1 (mayP ch set (pickF k ch))) j ↔ isIn q.1 j ∨ isIn (mayP ch set (pickF k ch)) j := by
      unfold isIn orL; rw [zip_get _ (by rw [h1, lm]) j (by omega), Bool.or_eq_true]
    have e2 : isIn (orL q.2.1 (sureP ch set (pickF k ch))) j ↔ isIn q.2.1 j ∨ isIn (sureP ch set (pickF k ch)) j := by
      unfold isIn orL; rw [zip_get _ (by rw [h2, ls]) j (by omega), Bool.or_eq_true]
    have e3 : isIn (andL q.2.2.1 (mayP ch set (pickF k ch))) j ↔ isIn q.2.2.1 j ∧ isIn (mayP ch set (pickF k ch)) j := by
      unfold isIn andL; rw [zip_get _ (by rw [h3, lm]) j (by omega), Bool.and_eq_true]
    have e4 : isIn (andL q.2.2.2 (sureP ch set (pickF k ch))) j ↔ isIn q.2.2.2 j ∧ isIn (sureP ch set (pickF k ch)) j := by
      unfold isIn andL; rw [zip_get _ (by rw [h4, ls]) j (by omega), Bool.and_eq_true]
    have ex : ∀ (p : Nat → Prop), ((∃ x, k ≤ x ∧ x < k + (f + 1) ∧ p x) ↔ p k ∨ ∃ x, k + 1 ≤ x ∧ x < k + 1 + f ∧ p x) := fun p => by
      constructor
      · rintro ⟨x, u, v, w⟩
        by_cases e : x = k
        · rw [e] at w; exact .inl w
        · exact .inr ⟨x, by omega, by omega, w⟩
      · rintro (h | ⟨x, u, v, w⟩)
        · exact ⟨k, by omega, by omega, h⟩
        · exact ⟨x, by omega, by omega, w⟩
    have al : ∀ (p : Nat → Prop), ((∀ x, k ≤ x → x < k + (f + 1) → p x) ↔ p k ∧ ∀ x, k + 1 ≤ x → x < k + 1 + f → p x) := fun p => by
      constructor
      · intro h
        exact ⟨h k (by omega) (by omega), fun x u v => h x (by omega) (by omega)⟩
      · rintro ⟨h, g⟩ x u v
        by_cases e : x = k
        · rw [e]; exact h
        · exact g x (by omega) (by omega)
    refine ⟨?_, ?_, ?_, ?_⟩
    · rw [ex, ← or_assoc, ← e1]; exact a
    · rw [ex, ← or_assoc, ← e2]; exact b
    · rw [al, ← and_assoc, ← e3]; exact c
    · rw [al, ← and_assoc, ← e4]; exact d
/-- asking each pick tells what reach tells -/
theorem all4_is {ch : List (List ChV)} {set : List Bool} (hg : rgS ch set = true) (hf : full ch = true) (hp : picksF 1 ch ≤ 1500) :
    (wideA ch set).1 = (all4F ch set).1 ∧ (sureF ch set).1 = (all4F ch set).2.1 ∧ allF ch set = (all4F ch set).2.2.1 ∧ mustSureF ch set = (all4F ch set).2.2.2 := by
  have hpr := picks_prod ch 1 (by omega) hf hp
  have hP : (picksF 1 ch).toNat = prodL ch := by rw [hpr]; omega
  obtain ⟨⟨l1, l2, l3, l4⟩, h⟩ := allR_get ch set (picksF 1 ch).toNat 0 (List.replicate set.length false, List.replicate set.length false, List.replicate set.length true, List.replicate set.length true) List.length_replicate List.length_replicate List.length_replicate List.length_replicate
  have rf : ∀ j, ¬ isIn (List.replicate set.length false) j := fun j h => by
    unfold isIn at h
    rw [List.getD_eq_getElem?_getD, List.getElem?_replicate] at h
    split at h <;> cases h
  have rt : ∀ j, j < set.length → isIn (List.replicate set.length true) j := fun j hj => by
    unfold isIn
    rw [List.getD_eq_getElem?_getD, List.getElem?_replicate, if_pos hj]; rfl
  have beq : ∀ {a b : List Bool} {j : Nat}, (isIn a j ↔ isIn b j) → a.getD j false = b.getD j false := fun {a b j} h => by
    cases h1 : a.getD j false with
    | true => exact (h.1 h1).symm
    | false => exact (notIn fun h2 => by have := h.2 h2; unfold isIn at this; rw [h1] at this; cases this).symm
  have num : ∀ pk, pkG ch pk = true → ∃ x, 0 ≤ x ∧ x < 0 + (picksF 1 ch).toNat ∧ pickF x ch = pk := fun pk hpk => by
    obtain ⟨k, hk, e⟩ := pick_all hpk
    exact ⟨k, Nat.zero_le _, by omega, e⟩
  refine ⟨ext_get ((wideA_ok).len.trans l1.symm) fun j hj => beq ?_, ext_get ((sureF_len hg).trans l2.symm) fun j hj => beq ?_, ext_get ((C_ok hg).len.trans l3.symm) fun j hj => beq ?_, ext_get (Eq.trans (by unfold mustSureF; rw [List.length_map]; exact away_len hg) l4.symm) fun j hj => beq ?_⟩
  · rw [(wideA_ok).len] at hj
    refine Iff.trans ?_ (h j hj).1.symm
    constructor
    · intro ha
      obtain ⟨x, a, b, e⟩ := num _ (A_picks hg hf).1
      exact .inr ⟨x, a, b, by rw [e]; exact A_may hg hf j hj ha⟩
    · rintro (h1 | ⟨x, _, _, h1⟩)
      · exact absurd h1 (rf j)
      · exact may_A hg (pick_G x hf) j hj h1
  · rw [sureF_len hg] at hj
    refine Iff.trans ?_ (h j hj).2.1.symm
    constructor
    · intro ha
      obtain ⟨x, a, b, e⟩ := num _ (S_picks hg hf).1
      exact .inr ⟨x, a, b, by rw [e]; exact S_sure hg hf j hj ha⟩
    · rintro (h1 | ⟨x, _, _, h1⟩)
      · exact absurd h1 (rf j)
      · exact sure_S hg (pick_G x hf) j hj h1
  · rw [(C_ok hg).len] at hj
    refine Iff.trans ?_ (h j hj).2.2.1.symm
    constructor
    · exact fun ha => ⟨rt j hj, fun x _ _ => C_may hg (pick_G x hf) j hj ha⟩
    · rintro ⟨_, h1⟩
      obtain ⟨x, a, b, e⟩ := num _ (avoid_G hg hf)
      have h2 := h1 x a b
      rw [e] at h2
      exact may_C hg (avoid_G hg hf) (fun _ _ _ => rfl) j hj h2
  · rw [show (mustSureF ch set).length = set.length by unfold mustSureF; rw [List.length_map]; exact away_len hg] at hj
    refine Iff.trans ?_ (h j hj).2.2.2.symm
    constructor
    · exact fun ha => ⟨rt j hj, fun x _ _ => D_sure hg (pick_G x hf) j hj ha⟩
    · rintro ⟨_, h1⟩
      obtain ⟨x, a, b, e⟩ := num _ (flee_G hg hf)
      have h2 := h1 x a b
      rw [e] at h2
      exact sure_D hg hf j hj h2
end Go.S22
