/-
  Seat 22: who must surely may surely; weights play no part.
-/
import Derived.Test.YtjkojhpmiijgfaaDoorS22U
import Derived.Test.YtjkojhpmiijgfaaDoorS22GA
open Go Go.En
namespace Go.S22
/-! ### weights -/
/-- a choice whose first move has another weight -/
def modC (W : Int) (c : ChV) : ChV := (c.1, c.2.1.set 0 ((c.2.1.getD 0 (0, 0, ())).1, W, ()), ())
def modM (W : Int) (ch : List (List ChV)) : List (List ChV) := ch.map fun l => l.map (modC W)
theorem mapk_set {α : Type} (f : α → α) (d : α) : ∀ (l : List α) (k : Nat), k < l.length → ((l.take k).map f ++ l.drop k).set k (f (l.getD k d)) = (l.take (k + 1)).map f ++ l.drop (k + 1)
  | [], k, h => absurd h (Nat.not_lt_zero _)
  | x :: l, 0, _ => rfl
  | x :: l, k + 1, h => by
    have := mapk_set f d l k (Nat.lt_of_succ_lt_succ h)
    show f x :: ((l.take k).map f ++ l.drop k).set k (f (l.getD k d)) = f x :: ((l.take (k + 1)).map f ++ l.drop (k + 1))
    rw [this]
theorem mapk_get {α : Type} (f : α → α) (d : α) : ∀ (l : List α) (k : Nat), k < l.length → ((l.take k).map f ++ l.drop k).getD k d = l.getD k d
  | [], k, h => absurd h (Nat.not_lt_zero _)
  | x :: l, 0, _ => rfl
  | x :: l, k + 1, h => mapk_get f d l k (Nat.lt_of_succ_lt_succ h)
theorem mapk_len {α : Type} (f : α → α) (l : List α) (k : Nat) : ((l.take k).map f ++ l.drop k).length = l.length := by
  rw [List.length_append, List.length_map, ← List.length_append, List.take_append_drop]
theorem set_get {α : Type} (l : List α) (s : Nat) (d : α) (h : s < l.length) : l.set s (l.getD s d) = l := by
  rw [List.getD_eq_getElem?_getD, List.getElem?_eq_getElem h]
  exact List.set_getElem_self h
theorem any_mod (p : MvV → Bool) (hp : ∀ v w : MvV, v.1 = w.1 → p v = p w) (W : Int) (c : ChV) : (modC W c).2.1.any p = c.2.1.any p := by
  obtain ⟨a, l, u⟩ := c
  cases l with
  | nil => rfl
  | cons v l =>
    show (p (v.1, W, ()) || l.any p) = (p v || l.any p)
    rw [hp (v.1, W, ()) v rfl]
theorem yesC_mod (inn : List Bool) (W : Int) (c : ChV) : yesC inn (modC W c) = yesC inn c := any_mod (yes inn) (fun v w h => by unfold yes; rw [h]) W c
theorem two_mod (inS : List Bool) (W : Int) (c : ChV) : two25 inS (modC W c).2.1 = two25 inS c.2.1 := by
  unfold two25
  rw [any_mod (no inS) (fun v w h => by unfold no; rw [h]) W c]
theorem idx_mod (p : ChV → Bool) (W : Int) (hp : ∀ c, p (modC W c) = p c) : ∀ (l : List ChV) (k : Nat), idxG p k (l.map (modC W)) = idxG p k l
  | [], _ => rfl
  | c :: l, k => by
    show (bif p (modC W c) then (k : Int) else idxG p (k + 1) (l.map (modC W))) = bif p c then (k : Int) else idxG p (k + 1) l
    rw [hp, idx_mod p W hp l (k + 1)]
theorem get_mod (W : Int) (ch : List (List ChV)) (s : Nat) : (modM W ch).getD s [] = (ch.getD s []).map (modC W) := by
  unfold modM
  rw [List.getD_eq_getElem?_getD, List.getD_eq_getElem?_getD, List.getElem?_map]
  cases ch[s]? <;> rfl
theorem wideA_mod (W : Int) (ch : List (List ChV)) (set : List Bool) : wideA (modM W ch) set = wideA ch set := by
  have e : qA (modM W ch) = qA ch := by
    funext inn s
    unfold qA
    rw [get_mod, idx_mod _ W (yesC_mod inn W)]
  unfold wideA
  rw [e]
theorem wideB_mod (W : Int) (ch : List (List ChV)) (inS set : List Bool) : wideB (modM W ch) inS set = wideB ch inS set := by
  have e : qB (modM W ch) inS = qB ch inS := by
    funext inn s
    unfold qB
    rw [get_mod, idx_mod _ W (fun c => by unfold wB; rw [yesC_mod, two_mod])]
  unfold wideB
  rw [e]
theorem sFix_mod (W : Int) (ch : List (List ChV)) (set : List Bool) : ∀ (f : Nat) (inn : List Bool), sFix (modM W ch) set f inn = sFix ch set f inn
  | 0, _ => rfl
  | f + 1, inn => by rw [sFix, sFix, wideB_mod, sFix_mod W ch set f]
theorem sureF_mod (W : Int) (ch : List (List ChV)) (set : List Bool) : sureF (modM W ch) set = sureF ch set := by
  unfold sureF
  rw [wideA_mod, sFix_mod]
theorem any_map_mod (p : ChV → Bool) (W : Int) (hp : ∀ c, p (modC W c) = p c) (l : List ChV) : (l.map (modC W)).any p = l.any p := by
  rw [List.any_map]
  congr 1
  funext c
  exact hp c
theorem allF_mod (W : Int) (ch : List (List ChV)) (set : List Bool) : allF (modM W ch) set = allF ch set := by
  have e : cAll (modM W ch) = cAll ch := by
    funext l s
    unfold cAll
    rw [get_mod, any_map_mod _ W (fun c => by unfold allC; rw [yesC_mod])]
  unfold allF
  rw [e]
theorem mustSureF_mod (W : Int) (ch : List (List ChV)) (set : List Bool) : mustSureF (modM W ch) set = mustSureF ch set := by
  have e : cAway (modM W ch) set = cAway ch set := by
    funext l s
    unfold cAway
    rw [get_mod, any_map_mod _ W (yesC_mod l W)]
  unfold mustSureF awayF
  rw [e, allF_mod]
theorem mvF_mod {z : Int} : ∀ (l s s' : List MvV), (∀ p, (s.any fun y => y.1 == p) = (s'.any fun y => y.1 == p)) → mvF z s l = mvF z s' l
  | [], _, _, _ => rfl
  | v :: l, s, s', h => by
    show (!(decide (v.1 < 0) || (decide (v.1 ≥ z) || decide (v.2.1 < 1))) && (!(s.any fun y => y.1 == v.1) && mvF z (s ++ [v]) l)) = (!(decide (v.1 < 0) || (decide (v.1 ≥ z) || decide (v.2.1 < 1))) && (!(s'.any fun y => y.1 == v.1) && mvF z (s' ++ [v]) l))
    rw [h, mvF_mod l (s ++ [v]) (s' ++ [v]) (fun p => by rw [List.any_append, List.any_append, h])]
theorem okC_mod {z W : Int} (hW : 1 ≤ W) {c : ChV} (h : okC z c = true) : okC z (modC W c) = true := by
  obtain ⟨a, l, u⟩ := c
  cases l with
  | nil => exact h
  | cons v l =>
    unfold okC at h ⊢
    rw [Bool.and_eq_true] at h
    have h2 : (!(decide (v.1 < 0) || (decide (v.1 ≥ z) || decide (v.2.1 < 1))) && (!(([] : List MvV).any fun y => y.1 == v.1) && mvF z ([] ++ [v]) l)) = true := h.2
    show (_ && (!(decide (v.1 < 0) || (decide (v.1 ≥ z) || decide (W < 1))) && (!(([] : List MvV).any fun y => y.1 == v.1) && mvF z ([] ++ [(v.1, W, ())]) l))) = true
    rw [Bool.and_eq_true] at h2
    have e : mvF z ([] ++ [(v.1, W, ())]) l = mvF z ([] ++ [v]) l := mvF_mod l _ _ (fun p => rfl)
    rw [e, h2.2, Bool.and_true, Bool.and_eq_true]
    refine ⟨h.1, ?_⟩
    have h3 := h2.1
    simp only [Bool.not_eq_true', Bool.or_eq_false_iff, decide_eq_false_iff_not] at h3 ⊢
    exact ⟨h3.1, h3.2.1, by omega⟩
theorem rows_mod {z K W : Int} (hW : 1 ≤ W) : ∀ {ch : List (List ChV)} {ho : List (List Int)}, rowsR z K ch ho = true → rowsR z K (modM W ch) ho = true
  | [], _, _ => rfl
  | l :: ls, ho, h => by
    have h : (rowR z K l (ho.getD 0 []) && rowsR z K ls (ho.drop 1)) = true := h
    rw [Bool.and_eq_true] at h
    show (rowR z K (l.map (modC W)) (ho.getD 0 []) && rowsR z K (modM W ls) (ho.drop 1)) = true
    rw [rows_mod hW h.2, Bool.and_true]
    have h1 := h.1
    unfold rowR at h1 ⊢
    simp only [Bool.and_eq_true, List.all_eq_true, List.length_map] at h1 ⊢
    refine ⟨h1.1, h1.2.1, fun c hc => ?_⟩
    obtain ⟨c0, hc0, rfl⟩ := List.mem_map.1 hc
    exact okC_mod hW (h1.2.2 c0 hc0)
theorem of_mod {W : Int} {ch : List (List ChV)} {nm : List ByteArray} {ho : List (List Int)} (h : ofMG ch nm ho = true) : ofMG (modM W ch) nm ho = true := by
  unfold ofMG m6 modM at *
  simp only [Bool.and_eq_true, List.all_eq_true, List.length_map] at h ⊢
  refine ⟨⟨h.1.1, fun l hl => ?_⟩, h.2⟩
  obtain ⟨l0, hl0, rfl⟩ := List.mem_map.1 hl
  rw [List.length_map]
  refine ⟨(h.1.2 l0 hl0).1, fun c hc => ?_⟩
  obtain ⟨c0, hc0, rfl⟩ := List.mem_map.1 hc
  unfold modC
  rw [List.length_set]
  exact (h.1.2 l0 hl0).2 c0 hc0
theorem okS_mod {i W : Int} (hW : 1 ≤ W) {ch : List (List ChV)} {nm : List ByteArray} {ho : List (List Int)} {set : List Bool} (h : okS i ch nm ho set = true) : okS i (modM W ch) nm ho set = true := by
  have hl : (modM W ch).length = ch.length := by unfold modM; rw [List.length_map]
  unfold okS mdOk headM at *
  rw [hl]
  simp only [Bool.and_eq_true] at h ⊢
  exact ⟨⟨h.1.1, h.1.2.1, rows_mod hW h.1.2.2⟩, h.2⟩
/-! ### who must may -/
section
variable {ch : List (List ChV)} {set : List Bool} (hg : rgS ch set = true) (hf : full ch = true)
include hg hf
theorem S_A : ∀ j, j < set.length → isIn (sureF ch set).1 j → isIn (wideA ch set).1 j := fun j hj h => may_A hg (S_picks hg hf).1 j hj (sure_may hg hj (S_sure hg hf j hj h))
theorem C_A : ∀ j, j < set.length → isIn (allF ch set) j → isIn (wideA ch set).1 j := fun j hj h => may_A hg (avoid_G hg hf) j hj (C_may hg (avoid_G hg hf) j hj h)
theorem D_S : ∀ j, j < set.length → isIn (mustSureF ch set) j → isIn (sureF ch set).1 j := fun j hj h => sure_S hg (avoid_G hg hf) j hj (D_sure hg (avoid_G hg hf) j hj h)
theorem D_C : ∀ j, j < set.length → isIn (mustSureF ch set) j → isIn (allF ch set) j := fun j hj h => by
  have _ := hf
  by_cases hc : isIn (allF ch set) j
  · exact hc
  · exact absurd (away_base hg hj hc) ((D_iff hg hj).1 h)
theorem set_D : ∀ j, j < set.length → isIn set j → isIn (mustSureF ch set) j := fun j hj h => by
  have _ := hf
  refine (D_iff hg hj).2 fun ha => ?_
  refine away_ind hg (fun j => ¬ isIn set j) (fun i hi hn hs => hn ((C_ok hg).up i hi hs)) (fun L i hL hi hX hC hs => ?_) j hj ha h
  unfold cAway at hC
  rw [Bool.and_eq_true] at hC
  unfold isIn at hs
  rw [hs] at hC; exact absurd hC.1 (by simp)
end
/-! ### the loops -/
section
variable (i : Int) {ch : List (List ChV)} (nm : List ByteArray) (ho : List (List Int)) {set : List Bool}
theorem or_loop1 {w : Int} (hw : 0 ≤ w ∧ w ≤ 65535) (g0 : r5G0) {s : Nat} {l : List ChV} (hs2 : s ≤ 1000000) (hl : l.length ≤ 1000000) (hne : ∀ c ∈ l, 0 < c.2.1.length) : ∀ (m k : Nat) (CH : List (List ChV)), k ≤ l.length → l.length - k < m → s < CH.length → CH.getD s [] = (l.take k).map (modC (1 + w)) ++ l.drop k →
    r5L1 1000002 g0 m set w (s : Int) (k : Int) i i ch nm ho CH nm ho = g0 set w ((s + 1 : Nat) : Int) i i ch nm ho (CH.set s (l.map (modC (1 + w)))) nm ho
  | 0, _, _, _, h, _, _ => absurd h (Nat.not_lt_zero _)
  | m + 1, k, CH, hk, hm, hs, hc => by
    show r5S1 g0 (r5L1 1000002 g0 m) set w (s : Int) (k : Int) i i ch nm ho CH nm ho = _
    unfold r5S1
    simp only [Int.toNat_natCast]
    have hlen : (CH.getD s []).length = l.length := by rw [hc, mapk_len]
    simp only [hc, mapk_len]
    rw [inb_k hs]
    by_cases h0 : k < l.length
    · have hne0 := hne _ (get_mem h0 ({ data := #[] }, [], ()))
      have e0 : inb 0 (l.getD k ({ data := #[] }, [], ())).2.1.length = true := inb_k (k := 0) hne0
      rw [lt_k h0, inb_k h0, mapk_get _ _ _ _ h0, e0, wr_k (k := k) (by omega), i64_in (a := w) (by omega) (by omega), i64_in (a := 1 + w) (by omega) (by omega)]
      have es := mapk_set (modC (1 + w)) ({ data := #[] }, [], ()) l k h0
      have ih := or_loop1 hw g0 (s := s) (l := l) hs2 hl hne m (k + 1) (CH.set s ((l.take (k + 1)).map (modC (1 + w)) ++ l.drop (k + 1))) h0 (by omega) (by rw [List.length_set]; exact hs) (by rw [getD_set CH s s _ [] hs, if_pos rfl])
      rw [List.set_set, ← es] at ih
      exact ih
    · have ek : k = l.length := by omega
      rw [ek, List.take_length, List.drop_length, List.append_nil] at hc
      have e : CH.set s (l.map (modC (1 + w))) = CH := by rw [← hc]; exact set_get CH s [] hs
      rw [nlt_k h0, wr_k (k := s) (by omega), e]; rfl
theorem or_loop2 {A S C D : List Bool} (hn : set.length ≤ 1000000) (hA : A.length = set.length) (hS : S.length = set.length) (hC : C.length = set.length) (hD : D.length = set.length) (h1 : ∀ j, j < set.length → isIn S j → isIn A j) (h2 : ∀ j, j < set.length → isIn C j → isIn A j) (h3 : ∀ j, j < set.length → isIn D j → isIn S j) (h4 : ∀ j, j < set.length → isIn D j → isIn C j) (h5 : ∀ j, j < set.length → isIn set j → isIn D j) : ∀ (m s : Nat), s ≤ set.length → set.length - s < m →
    r5L2 1000002 m set (s : Int) A S C D = some ⟨[pB true], [], []⟩
  | 0, _, _, h => absurd h (Nat.not_lt_zero _)
  | m + 1, s, hs0, hm0 => by
    show r5S2 (r5L2 1000002 m) set (s : Int) A S C D = _
    unfold r5S2
    by_cases h0 : s < set.length
    · have ih := or_loop2 hn hA hS hC hD h1 h2 h3 h4 h5 m (s + 1) h0 (by omega)
      have a := h1 s h0
      have b := h2 s h0
      have c := h3 s h0
      have d := h4 s h0
      have e := h5 s h0
      unfold isIn at a b c d e
      have key : ∀ x y u w z : Bool, (y = true → x = true) → (u = true → x = true) → (w = true → y = true) → (w = true → u = true) → (z = true → w = true) → (Nat.beq 1 1 && (true && (Nat.beq 1 1 && bif w then Nat.beq 1 1 && (true && (Nat.beq 1 1 && bif y then Nat.beq 1 1 && (true && (Nat.beq 1 1 && (!u || Nat.beq 1 1 && (true && (Nat.beq 1 1 && bif y then Nat.beq 1 1 && (true && (Nat.beq 1 1 && (!x || Nat.beq 1 1 && (true && (Nat.beq 1 1 && bif z then Nat.beq 1 1 && (true && true) else true))))) else Nat.beq 1 1 && (true && (Nat.beq 1 1 && bif u then Nat.beq 1 1 && (true && (Nat.beq 1 1 && (!x || Nat.beq 1 1 && (true && (Nat.beq 1 1 && bif z then Nat.beq 1 1 && (true && true) else true))))) else Nat.beq 1 1 && (true && (Nat.beq 1 1 && bif z then Nat.beq 1 1 && (true && true) else true))))))))) else true)) else Nat.beq 1 1 && (true && (Nat.beq 1 1 && bif y then Nat.beq 1 1 && (true && (Nat.beq 1 1 && (!x || Nat.beq 1 1 && (true && (Nat.beq 1 1 && bif z then Nat.beq 1 1 && (true && true) else true))))) else Nat.beq 1 1 && (true && (Nat.beq 1 1 && bif u then Nat.beq 1 1 && (true && (Nat.beq 1 1 && (!x || Nat.beq 1 1 && (true && (Nat.beq 1 1 && bif z then Nat.beq 1 1 && (true && true) else true))))) else Nat.beq 1 1 && (true && (Nat.beq 1 1 && bif z then Nat.beq 1 1 && (true && true) else true))))))))) = true ∧ (bif w then bif y then !u || bif y then !x || z && !w else bif u then !x || z && !w else z && !w else true else bif y then !x || z && !w else bif u then !x || z && !w else z && !w) = false := by intro x y u w z; cases x <;> cases y <;> cases u <;> cases w <;> cases z <;> decide
      obtain ⟨k1, k2⟩ := key _ _ _ _ _ a b c d e
      rw [lt_k h0, inb_k (show s < A.length by omega), inb_k (show s < S.length by omega), inb_k (show s < C.length by omega), inb_k (show s < D.length by omega), inb_k h0, Int.toNat_natCast, wr_k (by omega), k1, k2]
      exact ih
    · rw [nlt_k h0]; rfl
theorem or_loop0 (F : Fx i ch nm ho set) {w : Int} (hw : 0 ≤ w ∧ w ≤ 65535) : ∀ (m s : Nat), s ≤ ch.length → ch.length - s < m →
    r5L0 1000002 m set w (s : Int) i i ch nm ho ((ch.take s).map (fun l => l.map (modC (1 + w))) ++ ch.drop s) nm ho = some ⟨[pB true], [], []⟩
  | 0, _, _, h => absurd h (Nat.not_lt_zero _)
  | m + 1, s, hs, hm => by
    have hn := F.n
    have hl := F.len
    show r5S0 (r5L1 1000002 (r5L0 1000002 m) 1000002) (r5L2 1000002 1000002) (r5L0 1000002 m) set w (s : Int) i i ch nm ho ((ch.take s).map (fun l => l.map (modC (1 + w))) ++ ch.drop s) nm ho = _
    unfold r5S0
    rw [mapk_len]
    by_cases h0 : s < ch.length
    · have hsz := (sizes F.of).2 s h0
      have hne : ∀ c ∈ ch.getD s [], 0 < c.2.1.length := fun c hc => by
        have hok := F.ok
        unfold okS mdOk at hok
        simp only [Bool.and_eq_true] at hok
        have := rows_mem hok.1.2.2 _ (get_mem h0 []) c hc
        unfold okC at this
        rw [Bool.and_eq_true, Bool.not_eq_true', beq_eq_false_iff_ne] at this
        have := this.1
        simp only [zn] at this
        omega
      rw [lt_k h0]
      refine (or_loop1 i nm ho hw (r5L0 1000002 m) (s := s) (l := ch.getD s []) (by omega) hsz hne 1000002 0 _ (Nat.zero_le _) (by omega) (by rw [mapk_len]; exact h0) (by rw [mapk_get _ _ _ _ h0]; rfl)).trans ?_
      have es : ((ch.take s).map (fun l => l.map (modC (1 + w))) ++ ch.drop s).set s ((ch.getD s []).map (modC (1 + w))) = (ch.take (s + 1)).map (fun l => l.map (modC (1 + w))) ++ ch.drop (s + 1) := mapk_set (fun l : List ChV => l.map (modC (1 + w))) [] ch s h0
      rw [es]
      exact or_loop0 F hw m (s + 1) h0 (by omega)
    · have ek : s = ch.length := by omega
      have e : (ch.take s).map (fun l => l.map (modC (1 + w))) ++ ch.drop s = modM (1 + w) ch := by
        rw [ek, List.take_length, List.drop_length, List.append_nil]; rfl
      have hc := F.ok
      have hc2 := okS_mod (W := 1 + w) (by omega) hc
      have v1 : mayV i ch nm ho set = ((wideA ch set).1, (wideA ch set).2, .nil) := by unfold mayV; rw [hc]; rfl
      have v2 : sureV i ch nm ho set = ((sureF ch set).1, (sureF ch set).2, .nil) := by unfold sureV; rw [hc]; rfl
      have v3 : mustMayV i ch nm ho set = (allF ch set, .nil) := by unfold mustMayV; rw [hc]; rfl
      have v4 : mustSureV i ch nm ho set = (mustSureF ch set, .nil) := by unfold mustSureV; rw [hc]; rfl
      have w1 : mayV i (modM (1 + w) ch) nm ho set = ((wideA ch set).1, (wideA ch set).2, .nil) := by unfold mayV; rw [hc2, wideA_mod]; rfl
      have w2 : sureV i (modM (1 + w) ch) nm ho set = ((sureF ch set).1, (sureF ch set).2, .nil) := by unfold sureV; rw [hc2, sureF_mod]; rfl
      have w4 : mustSureV i (modM (1 + w) ch) nm ho set = (mustSureF ch set, .nil) := by unfold mustSureV; rw [hc2, mustSureF_mod]; rfl
      have l1 : (wideA ch set).1.length = set.length := wideA_ok.len
      have l2 : (sureF ch set).1.length = set.length := sureF_len F.hg
      have l3 : (allF ch set).length = set.length := (C_ok F.hg).len
      have l4 : (mustSureF ch set).length = set.length := by unfold mustSureF; rw [List.length_map]; exact away_len F.hg
      have l5 : (wideA ch set).2.length = set.length := wideA_ok.len2
      have l6 : (sureF ch set).2.length = set.length := by rw [sure_eq F.hg]; exact wideB_ok.len2
      have hii : iiG [(wideA ch set).2, (sureF ch set).2] = true := by
        show (true && (m6 (wideA ch set).2.length && (m6 (sureF ch set).2.length && true))) = true
        unfold m6
        rw [ble_of (by omega), ble_of (by omega)]; rfl
      rw [nlt_k h0, e, F.of, of_mod F.of, v1, v2, v3, v4, w1, w2, w4]
      simp only [sameB_refl, sameII_refl, hii]
      rw [ble_of (show (wideA ch set).1.length ≤ 1000000 by omega), ble_of (show (sureF ch set).1.length ≤ 1000000 by omega), ble_of (show (mustSureF ch set).length ≤ 1000000 by omega)]
      exact or_loop2 (by omega) l1 l2 l3 l4 (S_A F.hg F.hf) (C_A F.hg F.hf) (D_S F.hg F.hf) (D_C F.hg F.hf) (set_D F.hg F.hf) 1000002 0 (Nat.zero_le _) (by omega)
end
theorem order_T (i : Int) (ch : List (List ChV)) (nm : List ByteArray) (ho : List (List Int)) (set : List Bool) (w : Int) (hw : 0 ≤ w ∧ w ≤ 65535) : r5M 1000002 i ch nm ho set w = some ⟨[pB true], [], []⟩ := by
  unfold r5M r5T
  rw [okS_not]
  cases hfar : farM ch nm ho with
  | true => rfl
  | false =>
    have hof := ofMG_no hfar
    rw [mdG_of hof, hof]
    cases hc : okS i ch nm ho set with
    | false => cases mdOk i ch nm ho <;> rfl
    | true =>
      have F := facts hfar hc
      have hmd : mdOk i ch nm ho = true := by unfold okS at hc; rw [Bool.and_eq_true] at hc; exact hc.1
      rw [hmd]
      exact or_loop0 i nm ho F hw 1000002 0 (Nat.zero_le _) (by have := F.n; omega)
def orderLS : En.Spec := ⟨[], fun ds os => match ds, os with
  | [.p (.agg [.d (.fz true) (.i .i64) _i, .d (.fz false) (.l (.l (.p .s (.p (.l (.p (.i .i64) (.p (.i .i64) .u))) .u)))) _ch, .d (.fz false) (.l .s) _nm, .d (.fz false) (.l (.l (.i .i64))) _ho]), .p (.one (.d (.fz false) (.l .b) _set)), .p (.one (.d (.fz true) (.i .u16) w))], [] => .br (decide (0 ≤ w) && decide (w ≤ 65535)) (.leaf [pB true] [] []) .fail
  | _, _ => .fail⟩
theorem orderL_ok : FnOk P C0 5 orderLS := by
  refine fn_okC ctx22 (show P.funcs[5]? = some r5f by kernel_rfl) (of_decide_eq_true (by kernel_rfl)) (orderLS) r5h (fun ds os lf hp => ?_)
  unfold orderLS at hp
  simp only at hp
  split at hp
  · rename_i i ch nm ho set w
    obtain ⟨hc, hp1⟩ := br_pick hp
    have hl := leaf_pick hp1
    subst hl
    rw [Bool.and_eq_true, decide_eq_true_eq, decide_eq_true_eq] at hc
    exact ⟨_, (r5_ev _ i ch nm ho set w).trans (order_T i ch nm ho set w hc)⟩
  · cases hp
end Go.S22
