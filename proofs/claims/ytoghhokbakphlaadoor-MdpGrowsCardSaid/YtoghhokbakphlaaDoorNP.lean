/-
  Plain facts of rounds: sets of places that grow until they don't.
-/
import Derived.Test.YtoghhokbakphlaaDoorEd
namespace Go.En
/-- how many places aren't b -/
def nb (b : Bool) (l : List Bool) : Nat := l.countP fun x => x != b
theorem nb_le (b : Bool) (l : List Bool) : nb b l ≤ l.length := List.countP_le_length
theorem nb_mono (b : Bool) : ∀ {l l' : List Bool}, l.length = l'.length → (∀ j, j < l.length → l.getD j false = b → l'.getD j false = b) → nb b l' ≤ nb b l
  | [], [], _, _ => Nat.le_refl _
  | x :: l, y :: l', h, hm => by
    have ih := nb_mono b (l := l) (l' := l') (by simpa using h) (fun j hj => hm (j + 1) (Nat.succ_lt_succ hj))
    have h0 : x = b → y = b := hm 0 (Nat.zero_lt_succ _)
    unfold nb at ih ⊢
    rw [List.countP_cons, List.countP_cons]
    by_cases hx : x = b
    · rw [hx, h0 hx]; omega
    · have e1 : (x != b) = true := by simpa using hx
      rw [e1]
      cases (y != b) <;> simp <;> omega
theorem nb_lt (b : Bool) : ∀ {l l' : List Bool}, l.length = l'.length → (∀ j, j < l.length → l.getD j false = b → l'.getD j false = b) → (∃ j, j < l.length ∧ l.getD j false ≠ b ∧ l'.getD j false = b) → nb b l' < nb b l
  | [], [], _, _, ⟨_, h, _⟩ => absurd h (Nat.not_lt_zero _)
  | x :: l, y :: l', h, hm, ⟨j, h1, h2, h3⟩ => by
    have hl : l.length = l'.length := by simpa using h
    have hm' : ∀ j, j < l.length → l.getD j false = b → l'.getD j false = b := fun j hj => hm (j + 1) (Nat.succ_lt_succ hj)
    have h0 : x = b → y = b := hm 0 (Nat.zero_lt_succ _)
    cases j with
    | zero =>
      have h2 : x ≠ b := h2
      have h3 : y = b := h3
      have ih := nb_mono b hl hm'
      unfold nb at ih ⊢
      rw [List.countP_cons, List.countP_cons]
      have e1 : (x != b) = true := by simpa using h2
      have e2 : (y != b) = false := by simp [h3]
      rw [e1, e2]; simp; omega
    | succ j =>
      have ih := nb_lt b hl hm' ⟨j, Nat.lt_of_succ_lt_succ h1, h2, h3⟩
      unfold nb at ih ⊢
      rw [List.countP_cons, List.countP_cons]
      by_cases hx : x = b
      · rw [hx, h0 hx]; omega
      · have e1 : (x != b) = true := by simpa using hx
        rw [e1]
        cases (y != b) <;> simp <;> omega
theorem getD_set {α : Type} (l : List α) (i j : Nat) (x d : α) (hi : i < l.length) : (l.set i x).getD j d = if i = j then x else l.getD j d := by
  rw [List.getD_eq_getElem?_getD, List.getElem?_set, List.getD_eq_getElem?_getD]
  by_cases h : i = j
  · subst h; rw [if_pos rfl, if_pos rfl, if_pos hi]; rfl
  · rw [if_neg h, if_neg h]
/-! ### passes in place -/
/-- a pass over places from s on: a place that isn't b and that C asks for becomes b -/
def passU (b : Bool) (C : List Bool → Nat → Bool) : Nat → Nat → List Bool → Bool → List Bool × Bool
  | 0, _, l, t => (l, t)
  | f + 1, s, l, t => bif (l.getD s false != b) && C l s then passU b C f (s + 1) (l.set s b) true else passU b C f (s + 1) l t
def fixU (b : Bool) (C : List Bool → Nat → Bool) (n : Nat) : Nat → List Bool → List Bool
  | 0, l => l
  | f + 1, l => bif (passU b C n 0 l false).2 then fixU b C n f (passU b C n 0 l false).1 else (passU b C n 0 l false).1
structure PassOk (b : Bool) (C : List Bool → Nat → Bool) (f s : Nat) (l : List Bool) (t : Bool) (r : List Bool × Bool) : Prop where
  len : r.1.length = l.length
  up : ∀ j, j < l.length → l.getD j false = b → r.1.getD j false = b
  le : nb b r.1 ≤ nb b l
  lt : r.2 = true → t = true ∨ nb b r.1 < nb b l
  tt : t = true → r.2 = true
  no : r.2 = false → r.1 = l ∧ ∀ j, s ≤ j → j < s + f → l.getD j false ≠ b → C l j = false
  ind : ∀ X : Nat → Prop, (∀ j, j < l.length → l.getD j false = b → X j) → (∀ L j, L.length = l.length → j < L.length → (∀ i, i < L.length → L.getD i false = b → X i) → C L j = true → X j) → ∀ j, j < l.length → r.1.getD j false = b → X j
theorem pass_ok (b : Bool) (C : List Bool → Nat → Bool) : ∀ (f s : Nat) (l : List Bool) (t : Bool), s + f ≤ l.length → PassOk b C f s l t (passU b C f s l t)
  | 0, s, l, t, _ => ⟨rfl, fun _ _ h => h, Nat.le_refl _, fun h => .inl h, id, fun _ => ⟨rfl, fun j h1 h2 => by omega⟩, fun _ h _ => h⟩
  | f + 1, s, l, t, hs => by
    rw [passU]
    cases hc : (l.getD s false != b) && C l s with
    | true =>
      rw [Bool.and_eq_true, bne_iff_ne] at hc
      have hsl : s < l.length := by omega
      have hl2 : (l.set s b).length = l.length := List.length_set
      have hup : ∀ j, j < l.length → l.getD j false = b → (l.set s b).getD j false = b := fun j hj h => by
        rw [getD_set l s j b false hsl]
        by_cases e : s = j
        · rw [if_pos e]
        · rw [if_neg e]; exact h
      have hlt : nb b (l.set s b) < nb b l := nb_lt b hl2.symm hup ⟨s, hsl, hc.1, by rw [getD_set l s s b false hsl, if_pos rfl]⟩
      have ih := pass_ok b C f (s + 1) (l.set s b) true (by rw [hl2]; omega)
      show PassOk b C (f + 1) s l t (passU b C f (s + 1) (l.set s b) true)
      refine ⟨ih.len.trans hl2, fun j hj h => ih.up j (by rw [hl2]; exact hj) (hup j hj h), Nat.le_trans ih.le (Nat.le_of_lt hlt), fun _ => .inr (Nat.lt_of_le_of_lt ih.le hlt), fun _ => ih.tt rfl, fun h => (by rw [ih.tt rfl] at h; cases h), fun X h1 h2 j hj h => ?_⟩
      refine ih.ind X (fun i hi h3 => ?_) (fun L i hL => h2 L i (hL.trans hl2)) j (by rw [hl2]; exact hj) h
      rw [hl2] at hi
      rw [getD_set l s i b false hsl] at h3
      by_cases e : s = i
      · subst e; exact h2 l s rfl hsl h1 hc.2
      · rw [if_neg e] at h3; exact h1 i hi h3
    | false =>
      have ih := pass_ok b C f (s + 1) l t (by omega)
      show PassOk b C (f + 1) s l t (passU b C f (s + 1) l t)
      refine ⟨ih.len, ih.up, ih.le, ih.lt, ih.tt, fun h => ⟨(ih.no h).1, fun j h1 h2 h3 => ?_⟩, ih.ind⟩
      by_cases e : j = s
      · subst e
        have : (l.getD j false != b) = true := by rw [bne_iff_ne]; exact h3
        rw [this, Bool.true_and] at hc
        exact hc
      · exact (ih.no h).2 j (by omega) (by omega) h3
structure FixOk (b : Bool) (C : List Bool → Nat → Bool) (l r : List Bool) : Prop where
  len : r.length = l.length
  up : ∀ j, j < l.length → l.getD j false = b → r.getD j false = b
  no : ∀ j, j < l.length → r.getD j false ≠ b → C r j = false
  ind : ∀ X : Nat → Prop, (∀ j, j < l.length → l.getD j false = b → X j) → (∀ L j, L.length = l.length → j < L.length → (∀ i, i < L.length → L.getD i false = b → X i) → C L j = true → X j) → ∀ j, j < l.length → r.getD j false = b → X j
theorem fix_ok (b : Bool) (C : List Bool → Nat → Bool) {n : Nat} : ∀ (f : Nat) (l : List Bool), l.length = n → nb b l < f → FixOk b C l (fixU b C n f l)
  | 0, _, _, h => absurd h (Nat.not_lt_zero _)
  | f + 1, l, hn, hf => by
    have p := pass_ok b C n 0 l false (by omega)
    rw [fixU]
    cases hc : (passU b C n 0 l false).2 with
    | true =>
      rw [cond_true]
      have hlt : nb b (passU b C n 0 l false).1 < nb b l := by
        rcases p.lt hc with h | h
        · cases h
        · exact h
      have ih := fix_ok b C f (passU b C n 0 l false).1 (p.len.trans hn) (by omega)
      have hl := p.len
      refine ⟨ih.len.trans hl, fun j hj h => ih.up j (by rw [hl]; exact hj) (p.up j hj h), fun j hj => ih.no j (by rw [hl]; exact hj), fun X h1 h2 j hj h => ?_⟩
      exact ih.ind X (fun i hi h3 => p.ind X h1 h2 i (by rw [← hl]; exact hi) h3) (fun L i hL => h2 L i (hL.trans hl)) j (by rw [hl]; exact hj) h
    | false =>
      rw [cond_false]
      obtain ⟨h1, h2⟩ := p.no hc
      rw [h1]
      exact ⟨rfl, fun _ _ h => h, fun j hj h => h2 j (Nat.zero_le _) (by omega) h, fun _ h _ => h⟩
/-! ### passes aside, with picks -/
def wPass (inn : List Bool) (q : Nat → Int) : Nat → Nat → List Bool → List Int → Bool → List Bool × List Int × Bool
  | 0, _, nx, pk, t => (nx, pk, t)
  | f + 1, s, nx, pk, t => bif inn.getD s false then wPass inn q f (s + 1) nx pk t else bif decide (q s ≥ 0) then wPass inn q f (s + 1) (nx.set s true) (pk.set s (q s)) true else wPass inn q f (s + 1) nx pk t
def wFix (Q : List Bool → Nat → Int) (n : Nat) : Nat → List Bool → List Int → List Bool × List Int
  | 0, inn, pk => (inn, pk)
  | f + 1, inn, pk => bif (wPass inn (Q inn) n 0 inn pk false).2.2 then wFix Q n f (wPass inn (Q inn) n 0 inn pk false).1 (wPass inn (Q inn) n 0 inn pk false).2.1 else ((wPass inn (Q inn) n 0 inn pk false).1, (wPass inn (Q inn) n 0 inn pk false).2.1)
structure WPassOk (inn : List Bool) (q : Nat → Int) (f s : Nat) (nx : List Bool) (pk : List Int) (t : Bool) (r : List Bool × List Int × Bool) : Prop where
  len : r.1.length = nx.length
  len2 : r.2.1.length = pk.length
  new : ∀ j, s ≤ j → j < s + f → inn.getD j false = false → 0 ≤ q j → r.1.getD j false = true ∧ r.2.1.getD j 0 = q j ∧ r.2.2 = true
  old : ∀ j, ¬ (s ≤ j ∧ j < s + f ∧ inn.getD j false = false ∧ 0 ≤ q j) → r.1.getD j false = nx.getD j false ∧ r.2.1.getD j 0 = pk.getD j 0
  tt : t = true → r.2.2 = true
  tf : r.2.2 = true → t = true ∨ ∃ j, s ≤ j ∧ j < s + f ∧ inn.getD j false = false ∧ 0 ≤ q j
theorem wpass_ok (inn : List Bool) (q : Nat → Int) : ∀ (f s : Nat) (nx : List Bool) (pk : List Int) (t : Bool), s + f ≤ nx.length → s + f ≤ pk.length → WPassOk inn q f s nx pk t (wPass inn q f s nx pk t)
  | 0, s, nx, pk, t, _, _ => ⟨rfl, rfl, fun j h1 h2 => by omega, fun j _ => ⟨rfl, rfl⟩, id, .inl⟩
  | f + 1, s, nx, pk, t, h1, h2 => by
    rw [wPass]
    cases hi : inn.getD s false with
    | true =>
      have ih := wpass_ok inn q f (s + 1) nx pk t (by omega) (by omega)
      refine ⟨ih.len, ih.len2, fun j a b c d => ih.new j ?_ (by omega) c d, fun j h => ih.old j fun ⟨a, b, c, d⟩ => h ⟨by omega, by omega, c, d⟩, ih.tt, fun h => (ih.tf h).imp id fun ⟨j, a, b, c, d⟩ => ⟨j, by omega, by omega, c, d⟩⟩
      have : j ≠ s := fun e => by rw [e, hi] at c; cases c
      omega
    | false =>
      by_cases hq : q s ≥ 0
      · rw [decide_eq_true hq, cond_false, cond_true]
        have ih := wpass_ok inn q f (s + 1) (nx.set s true) (pk.set s (q s)) true (by rw [List.length_set]; omega) (by rw [List.length_set]; omega)
        refine ⟨ih.len.trans List.length_set, ih.len2.trans List.length_set, fun j a b c d => ?_, fun j h => ?_, fun _ => ih.tt rfl, fun _ => .inr ⟨s, Nat.le_refl _, by omega, hi, hq⟩⟩
        · by_cases e : j = s
          · subst e
            obtain ⟨o1, o2⟩ := ih.old j (fun ⟨x, _⟩ => by omega)
            rw [o1, o2, getD_set nx j j true false (by omega), getD_set pk j j (q j) 0 (by omega), if_pos rfl, if_pos rfl]
            exact ⟨rfl, rfl, ih.tt rfl⟩
          · exact ih.new j (by omega) (by omega) c d
        · obtain ⟨o1, o2⟩ := ih.old j (fun ⟨a, b, c, d⟩ => h ⟨by omega, by omega, c, d⟩)
          have e : s ≠ j := fun e => h ⟨by omega, by omega, by rw [← e]; exact hi, by rw [← e]; exact hq⟩
          rw [o1, o2, getD_set nx s j true false (by omega), getD_set pk s j (q s) 0 (by omega), if_neg e, if_neg e]
          exact ⟨rfl, rfl⟩
      · rw [decide_eq_false hq, cond_false, cond_false]
        have ih := wpass_ok inn q f (s + 1) nx pk t (by omega) (by omega)
        refine ⟨ih.len, ih.len2, fun j a b c d => ih.new j ?_ (by omega) c d, fun j h => ih.old j fun ⟨a, b, c, d⟩ => h ⟨by omega, by omega, c, d⟩, ih.tt, fun h => (ih.tf h).imp id fun ⟨j, a, b, c, d⟩ => ⟨j, by omega, by omega, c, d⟩⟩
        have : j ≠ s := fun e => by rw [e] at d; omega
        omega
structure WideOk (Q : List Bool → Nat → Int) (n : Nat) (inn : List Bool) (pk : List Int) (r : List Bool × List Int) : Prop where
  len : r.1.length = n
  len2 : r.2.length = n
  up : ∀ j, j < n → inn.getD j false = true → r.1.getD j false = true
  no : ∀ j, j < n → r.1.getD j false = false → Q r.1 j < 0
  keep : ∀ j, j < n → inn.getD j false = true ∨ r.1.getD j false = false → r.2.getD j 0 = pk.getD j 0
  ind : ∀ X : Nat → Prop, (∀ j, j < n → inn.getD j false = true → X j) →
    (∀ j L, j < n → inn.getD j false = false → r.1.getD j false = true → L.length = n → (∀ i, i < n → L.getD i false = true → X i ∧ r.1.getD i false = true) → 0 ≤ Q L j → r.2.getD j 0 = Q L j → X j) →
    ∀ j, j < n → r.1.getD j false = true → X j
theorem wfix_ok (Q : List Bool → Nat → Int) {n : Nat} : ∀ (f : Nat) (inn : List Bool) (pk : List Int), inn.length = n → pk.length = n → nb true inn < f → WideOk Q n inn pk (wFix Q n f inn pk)
  | 0, _, _, _, _, h => absurd h (Nat.not_lt_zero _)
  | f + 1, inn, pk, h1, h2, hf => by
    have p := wpass_ok inn (Q inn) n 0 inn pk false (by omega) (by omega)
    rw [wFix]
    have up0 : ∀ j, j < n → inn.getD j false = true → (wPass inn (Q inn) n 0 inn pk false).1.getD j false = true := fun j hj h => by
      rw [(p.old j (fun ⟨_, _, c, _⟩ => by rw [h] at c; cases c)).1]; exact h
    cases hc : (wPass inn (Q inn) n 0 inn pk false).2.2 with
    | true =>
      rw [cond_true]
      obtain ⟨j0, _, a2, a3, a4⟩ := (p.tf hc).resolve_left (by simp)
      have hlt : nb true (wPass inn (Q inn) n 0 inn pk false).1 < nb true inn := nb_lt true p.len.symm (fun j hj h => up0 j (by omega) h) ⟨j0, by omega, by rw [a3]; simp, (p.new j0 (Nat.zero_le _) a2 a3 a4).1⟩
      have ih := wfix_ok Q f _ _ (p.len.trans h1) (p.len2.trans h2) (by omega)
      refine ⟨ih.len, ih.len2, fun j hj h => ih.up j hj (up0 j hj h), ih.no, fun j hj h => ?_, fun X x1 x2 j hj h => ?_⟩
      · rcases h with h | h
        · rw [ih.keep j hj (.inl (up0 j hj h)), (p.old j (fun ⟨_, _, c, _⟩ => by rw [h] at c; cases c)).2]
        · rw [ih.keep j hj (.inr h)]
          refine (p.old j fun ⟨_, b, c, d⟩ => ?_).2
          have := ih.up j hj (p.new j (Nat.zero_le _) b c d).1
          rw [h] at this; cases this
      · refine ih.ind X (fun i hi h3 => ?_) (fun i L hi h3 h4 h5 h6 h7 h8 => ?_) j hj h
        · cases hin : inn.getD i false with
          | true => exact x1 i hi hin
          | false =>
            by_cases hq : 0 ≤ Q inn i
            · obtain ⟨b1, b2, _⟩ := p.new i (Nat.zero_le _) (by omega) hin hq
              refine x2 i inn hi hin (ih.up i hi b1) h1 (fun k hk h9 => ⟨x1 k hk h9, ih.up k hk (up0 k hk h9)⟩) hq ?_
              rw [ih.keep i hi (.inl b1), b2]
            · rw [(p.old i fun ⟨_, _, _, d⟩ => hq d).1, hin] at h3; cases h3
        · cases hin : inn.getD i false with
          | true => exact x1 i hi hin
          | false => exact x2 i L hi hin h4 h5 h6 h7 h8
    | false =>
      rw [cond_false]
      have hno : ∀ j, j < n → inn.getD j false = false → Q inn j < 0 := fun j hj h => by
        by_cases hq : 0 ≤ Q inn j
        · have := (p.new j (Nat.zero_le _) (by omega) h hq).2.2
          rw [hc] at this; cases this
        · omega
      have hsame : ∀ j, j < n → (wPass inn (Q inn) n 0 inn pk false).1.getD j false = inn.getD j false ∧ (wPass inn (Q inn) n 0 inn pk false).2.1.getD j 0 = pk.getD j 0 := fun j hj => p.old j fun ⟨_, _, c, d⟩ => by have := hno j hj c; omega
      have heq : (wPass inn (Q inn) n 0 inn pk false).1 = inn := by
        apply List.ext_getElem?
        intro j
        by_cases hj : j < n
        · have := (hsame j hj).1
          have g1 : j < (wPass inn (Q inn) n 0 inn pk false).1.length := by rw [p.len]; omega
          rw [List.getD_eq_getElem?_getD, List.getD_eq_getElem?_getD, List.getElem?_eq_getElem g1, List.getElem?_eq_getElem (show j < inn.length by omega)] at this
          rw [List.getElem?_eq_getElem g1, List.getElem?_eq_getElem (show j < inn.length by omega)]
          exact congrArg some this
        · rw [List.getElem?_eq_none (by rw [p.len]; omega), List.getElem?_eq_none (by omega)]
      refine ⟨p.len.trans h1, p.len2.trans h2, up0, fun j hj h => ?_, fun j hj _ => (hsame j hj).2, fun X x1 _ j hj h => ?_⟩
      · show Q (wPass inn (Q inn) n 0 inn pk false).1 j < 0
        rw [heq]
        rw [(hsame j hj).1] at h
        exact hno j hj h
      · rw [(hsame j hj).1] at h
        exact x1 j hj h
end Go.En
