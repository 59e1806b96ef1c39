/-
  Seat 22: the contracts of searching among choices, widening and all.
-/
import Derived.Test.YtjkojhpmiijgfaaDoorS22G3
open Go Go.En
namespace Go.S22
theorem ctx16 : CtxOk C16 := fun _ _ h => tbl_ok (l := l16) ⟨wid37_ok, all40_ok, must31_ok, trivial⟩ h
theorem idxC_loop_a {l : List ChV} (s : Int) (inn : List Bool) (hl : rgL inn.length l = true) : ∀ (m n k : Nat), k ≤ l.length → l.length - k < m → r36aL0 n m l (zn l.length) (k : Int) s inn = some ⟨[pI (idxG (yesC inn) k (l.drop k))], [vaR ⟨0, 3⟩, vaF 24 [], vaI s, roB inn], []⟩
  | 0, _, _, _, h => absurd h (Nat.not_lt_zero _)
  | m + 1, n, k, hk, hm => by
    have hl' := hl
    unfold rgL at hl
    simp only [Bool.and_eq_true] at hl
    have hb := of_ble hl.1
    show r36aS0 (r36aL0 n m) l (zn l.length) (k : Int) s inn = _
    unfold r36aS0
    by_cases h0 : k < l.length
    · have hr : rngV inn.length (l.getD k ({ data := #[] }, [], ())).2.1 = true := List.all_eq_true.1 hl.2 _ (get_mem h0 ({ data := #[] }, [], ()))
      rw [lt_k h0, inb_k h0, wr_k (by omega), Int.toNat_natCast, idxC_loop_a s inn hl' m n (k + 1) h0 (by omega), drop_get h0 ({ data := #[] }, [], ()), hr]
      show _ = some (Lf.mk [pI (bif (yesC inn) (l.getD k ({ data := #[] }, [], ())) then (k : Int) else idxG (yesC inn) (k + 1) (l.drop (k + 1)))] [vaR ⟨0, 3⟩, vaF 24 [], vaI s, roB inn] [])
      cases h2 : yesC inn (l.getD k ({ data := #[] }, [], ())) <;> (unfold yesC at h2; rw [h2]; rfl)
    · rw [nlt_k h0, List.drop_eq_nil_of_le (by omega)]; rfl
theorem idxC_loop_b {l : List ChV} (s : Int) (inn inS : List Bool) (hl : (rgL inn.length l && rgL inS.length l) = true) : ∀ (m n k : Nat), k ≤ l.length → l.length - k < m → r36bL0 n m l (zn l.length) (k : Int) s inn inS = some ⟨[pI (idxG (wB inn inS) k (l.drop k))], [vaR ⟨0, 3⟩, vaF 25 [.b ⟨0, 4⟩], vaI s, roB inn, vaR ⟨0, 5⟩, roB inS], []⟩
  | 0, _, _, _, h => absurd h (Nat.not_lt_zero _)
  | m + 1, n, k, hk, hm => by
    have hl' := hl
    unfold rgL at hl
    simp only [Bool.and_eq_true] at hl
    have hb := of_ble hl.1.1
    show r36bS0 (r36bL0 n m) l (zn l.length) (k : Int) s inn inS = _
    unfold r36bS0
    by_cases h0 : k < l.length
    · have hr : rngV inn.length (l.getD k ({ data := #[] }, [], ())).2.1 = true := List.all_eq_true.1 hl.1.2 _ (get_mem h0 ({ data := #[] }, [], ()))
      have hr2 : rngV inS.length (l.getD k ({ data := #[] }, [], ())).2.1 = true := List.all_eq_true.1 hl.2.2 _ (get_mem h0 ({ data := #[] }, [], ()))
      rw [lt_k h0, inb_k h0, wr_k (by omega), Int.toNat_natCast, idxC_loop_b s inn inS hl' m n (k + 1) h0 (by omega), drop_get h0 ({ data := #[] }, [], ()), hr, hr2]
      show _ = some (Lf.mk [pI (bif (wB inn inS) (l.getD k ({ data := #[] }, [], ())) then (k : Int) else idxG (wB inn inS) (k + 1) (l.drop (k + 1)))] [vaR ⟨0, 3⟩, vaF 25 [.b ⟨0, 4⟩], vaI s, roB inn, vaR ⟨0, 5⟩, roB inS] [])
      unfold wB yesC
      cases h2 : (l.getD k ({ data := #[] }, [], ())).2.1.any (yes inn) <;> cases h3 : two25 inS (l.getD k ({ data := #[] }, [], ())).2.1 <;> rfl
    · rw [nlt_k h0, List.drop_eq_nil_of_le (by omega)]; rfl
theorem idxC_loop_c {l : List ChV} (inn : List Bool) (hl : rgL inn.length l = true) : ∀ (m n k : Nat), k ≤ l.length → l.length - k < m → r36cL0 n m l (zn l.length) (k : Int) inn = some ⟨[pI (idxG (allC inn) k (l.drop k))], [vaF 29 [], vaR ⟨0, 2⟩, roB inn], []⟩
  | 0, _, _, _, h => absurd h (Nat.not_lt_zero _)
  | m + 1, n, k, hk, hm => by
    have hl' := hl
    unfold rgL at hl
    simp only [Bool.and_eq_true] at hl
    have hb := of_ble hl.1
    show r36cS0 (r36cL0 n m) l (zn l.length) (k : Int) inn = _
    unfold r36cS0
    by_cases h0 : k < l.length
    · have hr : rngV inn.length (l.getD k ({ data := #[] }, [], ())).2.1 = true := List.all_eq_true.1 hl.2 _ (get_mem h0 ({ data := #[] }, [], ()))
      rw [lt_k h0, inb_k h0, wr_k (by omega), Int.toNat_natCast, idxC_loop_c inn hl' m n (k + 1) h0 (by omega), drop_get h0 ({ data := #[] }, [], ()), hr]
      show _ = some (Lf.mk [pI (bif (allC inn) (l.getD k ({ data := #[] }, [], ())) then (k : Int) else idxG (allC inn) (k + 1) (l.drop (k + 1)))] [vaF 29 [], vaR ⟨0, 2⟩, roB inn] [])
      cases h2 : (l.getD k ({ data := #[] }, [], ())).2.1.any (yes inn) <;> (unfold allC yesC; rw [h2]; rfl)
    · rw [nlt_k h0, List.drop_eq_nil_of_le (by omega)]; rfl
theorem idxC_loop_d {l : List ChV} (inn : List Bool) (hl : rgL inn.length l = true) : ∀ (m n k : Nat), k ≤ l.length → l.length - k < m → r36dL0 n m l (zn l.length) (k : Int) inn = some ⟨[pI (idxG (yesC inn) k (l.drop k))], [vaR ⟨0, 1⟩, roB inn], []⟩
  | 0, _, _, _, h => absurd h (Nat.not_lt_zero _)
  | m + 1, n, k, hk, hm => by
    have hl' := hl
    unfold rgL at hl
    simp only [Bool.and_eq_true] at hl
    have hb := of_ble hl.1
    show r36dS0 (r36dL0 n m) l (zn l.length) (k : Int) inn = _
    unfold r36dS0
    by_cases h0 : k < l.length
    · have hr : rngV inn.length (l.getD k ({ data := #[] }, [], ())).2.1 = true := List.all_eq_true.1 hl.2 _ (get_mem h0 ({ data := #[] }, [], ()))
      rw [lt_k h0, inb_k h0, wr_k (by omega), Int.toNat_natCast, idxC_loop_d inn hl' m n (k + 1) h0 (by omega), drop_get h0 ({ data := #[] }, [], ()), hr]
      show _ = some (Lf.mk [pI (bif (yesC inn) (l.getD k ({ data := #[] }, [], ())) then (k : Int) else idxG (yesC inn) (k + 1) (l.drop (k + 1)))] [vaR ⟨0, 1⟩, roB inn] [])
      cases h2 : yesC inn (l.getD k ({ data := #[] }, [], ())) <;> (unfold yesC at h2; rw [h2]; rfl)
    · rw [nlt_k h0, List.drop_eq_nil_of_le (by omega)]; rfl
theorem idxC_ok : FnOk P C0 36 idxCS := by
  refine fn_okC ctx16 (show P.funcs[36]? = some r36af by kernel_rfl) (of_decide_eq_true (by kernel_rfl)) (idxCS) r36ah (fun ds os lf hp => ?_)
  unfold idxCS at hp
  simp only at hp
  split at hp
  · rename_i l g g2 s e inn
    obtain ⟨he1, hp1⟩ := gN_pick hp
    obtain ⟨he2, hp2⟩ := gN_pick hp1
    obtain ⟨he3, hp3⟩ := gE_pick hp2
    obtain ⟨hc, hp4⟩ := br_pick hp3
    have hl := leaf_pick hp4
    subst he1
    subst he2
    subst he3
    subst hl
    exact ⟨l.length + 1, (r36a_ev _ l s inn).trans (idxC_loop_a s inn hc _ _ 0 (Nat.zero_le _) (Nat.lt_succ_self _))⟩
  · rename_i l g g2 s e inn e2 inS
    obtain ⟨he1, hp1⟩ := gN_pick hp
    obtain ⟨he2, hp2⟩ := gN_pick hp1
    obtain ⟨he3, hp3⟩ := gE_pick hp2
    obtain ⟨he4, hp4⟩ := gE_pick hp3
    obtain ⟨hc, hp5⟩ := br_pick hp4
    have hl := leaf_pick hp5
    subst he1
    subst he2
    subst he3
    subst he4
    subst hl
    exact ⟨l.length + 1, (r36b_ev _ l s inn inS).trans (idxC_loop_b s inn inS hc _ _ 0 (Nat.zero_le _) (Nat.lt_succ_self _))⟩
  · rename_i l g g2 e inn
    obtain ⟨he1, hp1⟩ := gN_pick hp
    obtain ⟨he2, hp2⟩ := gN_pick hp1
    obtain ⟨he3, hp3⟩ := gE_pick hp2
    obtain ⟨hc, hp4⟩ := br_pick hp3
    have hl := leaf_pick hp4
    subst he1
    subst he2
    subst he3
    subst hl
    exact ⟨l.length + 1, (r36c_ev _ l inn).trans (idxC_loop_c inn hc _ _ 0 (Nat.zero_le _) (Nat.lt_succ_self _))⟩
  · rename_i l g e inn
    obtain ⟨he1, hp1⟩ := gN_pick hp
    obtain ⟨he2, hp2⟩ := gE_pick hp1
    obtain ⟨hc, hp3⟩ := br_pick hp2
    have hl := leaf_pick hp3
    subst he1
    subst he2
    subst hl
    exact ⟨l.length + 1, (r36d_ev _ l inn).trans (idxC_loop_d inn hc _ _ 0 (Nat.zero_le _) (Nat.lt_succ_self _))⟩
  · cases hp
theorem ctx17 : CtxOk C17 := fun _ _ h => tbl_ok (l := [(36, idxCS)]) ⟨idxC_ok, trivial⟩ h
theorem conC_ok : FnOk P C0 30 conCS := by
  refine fn_okC ctx17 (show P.funcs[30]? = some r30cf by kernel_rfl) (of_decide_eq_true (by kernel_rfl)) (conCS) r30ch (fun ds os lf hp => ?_)
  unfold conCS at hp
  simp only at hp
  split at hp
  · rename_i l g g2 e inn
    obtain ⟨he1, hp1⟩ := gN_pick hp
    obtain ⟨he2, hp2⟩ := gN_pick hp1
    obtain ⟨he3, hp3⟩ := gE_pick hp2
    obtain ⟨hc, hp4⟩ := br_pick hp3
    have hl := leaf_pick hp4
    subst he1
    subst he2
    subst he3
    subst hl
    exact ⟨0, (r30c_ev 0 l inn).trans (by unfold r30cM r30cT; rw [hc, idx_any]; rfl)⟩
  · rename_i l g e inn
    obtain ⟨he1, hp1⟩ := gN_pick hp
    obtain ⟨he2, hp2⟩ := gE_pick hp1
    obtain ⟨hc, hp3⟩ := br_pick hp2
    have hl := leaf_pick hp3
    subst he1
    subst he2
    subst hl
    exact ⟨0, (r30d_ev 0 l inn).trans (by unfold r30dM r30dT; rw [hc, idx_any]; rfl)⟩
  · cases hp
theorem ctx18 : CtxOk C18 := fun _ _ h => tbl_ok (l := l18) ⟨idxC_ok, conC_ok, clone_ok, trivial⟩ h
/-! ### widening -/
def qA (ch : List (List ChV)) (inn : List Bool) (s : Nat) : Int := idxG (yesC inn) 0 (ch.getD s [])
def qB (ch : List (List ChV)) (inS inn : List Bool) (s : Nat) : Int := idxG (wB inn inS) 0 (ch.getD s [])
def wideA (ch : List (List ChV)) (set : List Bool) : List Bool × List Int := wFix (qA ch) set.length (set.length + 1) set (List.replicate set.length 0)
def wideB (ch : List (List ChV)) (inS set : List Bool) : List Bool × List Int := wFix (qB ch inS) set.length (set.length + 1) set (List.replicate set.length 0)
def rgS (ch : List (List ChV)) (set : List Bool) : Bool := Nat.beq set.length ch.length && rgM ch.length ch
theorem rgS_p {ch : List (List ChV)} {set : List Bool} (h : rgS ch set = true) : set.length = ch.length ∧ ch.length ≤ 1000000 ∧ ∀ s, s < ch.length → rgL ch.length (ch.getD s []) = true := by
  unfold rgS rgM m6 at h
  simp only [Bool.and_eq_true, List.all_eq_true] at h
  exact ⟨Nat.eq_of_beq_eq_true h.1, of_ble h.2.1, fun s hs => h.2.2 _ (get_mem hs [])⟩
section
variable (i : Int) {ch : List (List ChV)} (nm : List ByteArray) (ho : List (List Int))
theorem wide_loop1_a  (hn : ch.length ≤ 1000000) (hrow : ∀ s, s < ch.length → rgL ch.length (ch.getD s []) = true) (N : Nat) (g0 : r23aG0) {inn : List Bool} (hi : inn.length = ch.length) : ∀ (m s : Nat) (nx : List Bool) (pk : List Int) (t : Bool), s ≤ ch.length → ch.length - s < m → nx.length = ch.length → pk.length = ch.length →
    r23aL1 N g0 m t ch (zn ch.length) (s : Int) i ch nm ho pk nx inn = g0 (wPass inn (qA ch inn) (ch.length - s) s nx pk t).2.2 i ch nm ho (wPass inn (qA ch inn) (ch.length - s) s nx pk t).2.1 (wPass inn (qA ch inn) (ch.length - s) s nx pk t).1
  | 0, _, _, _, _, _, h, _, _ => absurd h (Nat.not_lt_zero _)
  | m + 1, s, nx, pk, t, hs, hm, hx, hp => by
    show r23aS1 g0 (r23aL1 N g0 m) t ch (zn ch.length) (s : Int) i ch nm ho pk nx inn = _
    unfold r23aS1
    by_cases h0 : s < ch.length
    · have ef : ch.length - s = (ch.length - (s + 1)) + 1 := by omega
      have hr := hrow s h0
      rw [ef, wPass, lt_k h0, inb_k h0, inb_k (show s < inn.length by omega), Int.toNat_natCast, wr_k (by omega), hi]
      cases hin : inn.getD s false with
      | true => exact wide_loop1_a hn hrow N g0 hi m (s + 1) nx pk t h0 (by omega) hx hp
      | false =>
        rw [hr]
        by_cases hq : qA ch inn s ≥ 0
        · have hq' : idxG (yesC inn) 0 (ch.getD s []) ≥ 0 := hq
          rw [decide_eq_true hq, decide_eq_true hq', inb_k (show s < nx.length by omega), inb_k (show s < pk.length by omega)]
          exact wide_loop1_a hn hrow N g0 hi m (s + 1) (nx.set s true) (pk.set s (qA ch inn s)) true h0 (by omega) (by rw [List.length_set]; exact hx) (by rw [List.length_set]; exact hp)
        · have hq' : ¬ idxG (yesC inn) 0 (ch.getD s []) ≥ 0 := hq
          rw [decide_eq_false hq, decide_eq_false hq']
          exact wide_loop1_a hn hrow N g0 hi m (s + 1) nx pk t h0 (by omega) hx hp
    · have e0 : ch.length - s = 0 := by omega
      rw [nlt_k h0, e0]; rfl
theorem wide_loop0_a  (hn : ch.length ≤ 1000000) (hrow : ∀ s, s < ch.length → rgL ch.length (ch.getD s []) = true) : ∀ (f m : Nat) (inn : List Bool) (pk : List Int), f < m → inn.length = ch.length → pk.length = ch.length → nb true inn < f →
    r23aL0 1000002 m true i ch nm ho pk inn = some ⟨[.one (.rw ⟨1, 0⟩), .one (.rw ⟨1, 1⟩)], [], [roB (wFix (qA ch) ch.length f inn pk).1, roI (wFix (qA ch) ch.length f inn pk).2]⟩
  | 0, _, _, _, _, _, _, h => absurd h (Nat.not_lt_zero _)
  | _ + 1, 0, _, _, h, _, _, _ => absurd h (Nat.not_lt_zero _)
  | f + 1, m + 1, inn, pk, hm, hi, hp, hf => by
    show r23aS0 (r23aL1 1000002 (r23aL0 1000002 m) 1000002) (r23aL0 1000002 m) true i ch nm ho pk inn = _
    unfold r23aS0
    have p := wpass_ok inn (qA ch inn) ch.length 0 inn pk false (by omega) (by omega)
    have r1 := wide_loop1_a i nm ho hn hrow 1000002 (r23aL0 1000002 m) hi 1000002 0 inn pk false (Nat.zero_le _) (by omega) hi hp
    have r1' : r23aL1 1000002 (r23aL0 1000002 m) 1000002 false ch (zn ch.length) 0 i ch nm ho pk inn inn = _ := r1
    rw [ble_of (show inn.length ≤ 1000000 by omega), r1', wFix]
    rw [Nat.sub_zero]
    cases hc : (wPass inn (qA ch inn) ch.length 0 inn pk false).2.2 with
    | true =>
      obtain ⟨j0, _, a2, a3, a4⟩ := (p.tf hc).resolve_left (by simp)
      have hlt : nb true (wPass inn (qA ch inn) ch.length 0 inn pk false).1 < nb true inn := nb_lt true p.len.symm (fun j hj h => by rw [(p.old j (fun ⟨_, _, c, _⟩ => by rw [h] at c; cases c)).1]; exact h) ⟨j0, by omega, by rw [a3]; simp, (p.new j0 (Nat.zero_le _) a2 a3 a4).1⟩
      exact wide_loop0_a hn hrow f m _ _ (by omega) (p.len.trans hi) (p.len2.trans hp) (by omega)
    | false =>
      cases m with
      | zero => omega
      | succ m => rfl
theorem wide_loop1_b {inS : List Bool} (hS : inS.length = ch.length) (hn : ch.length ≤ 1000000) (hrow : ∀ s, s < ch.length → rgL ch.length (ch.getD s []) = true) (N : Nat) (g0 : r23bG0) {inn : List Bool} (hi : inn.length = ch.length) : ∀ (m s : Nat) (nx : List Bool) (pk : List Int) (t : Bool), s ≤ ch.length → ch.length - s < m → nx.length = ch.length → pk.length = ch.length →
    r23bL1 N g0 m t ch (zn ch.length) (s : Int) inS i ch nm ho pk nx inn = g0 (wPass inn (qB ch inS inn) (ch.length - s) s nx pk t).2.2 inS i ch nm ho (wPass inn (qB ch inS inn) (ch.length - s) s nx pk t).2.1 (wPass inn (qB ch inS inn) (ch.length - s) s nx pk t).1
  | 0, _, _, _, _, _, h, _, _ => absurd h (Nat.not_lt_zero _)
  | m + 1, s, nx, pk, t, hs, hm, hx, hp => by
    show r23bS1 g0 (r23bL1 N g0 m) t ch (zn ch.length) (s : Int) inS i ch nm ho pk nx inn = _
    unfold r23bS1
    by_cases h0 : s < ch.length
    · have ef : ch.length - s = (ch.length - (s + 1)) + 1 := by omega
      have hr := hrow s h0
      rw [ef, wPass, lt_k h0, inb_k h0, inb_k (show s < inn.length by omega), Int.toNat_natCast, wr_k (by omega), hi]
      cases hin : inn.getD s false with
      | true => exact wide_loop1_b hS hn hrow N g0 hi m (s + 1) nx pk t h0 (by omega) hx hp
      | false =>
        rw [hr, hS, hr]
        by_cases hq : qB ch inS inn s ≥ 0
        · have hq' : idxG (wB inn inS) 0 (ch.getD s []) ≥ 0 := hq
          rw [decide_eq_true hq, decide_eq_true hq', inb_k (show s < nx.length by omega), inb_k (show s < pk.length by omega)]
          exact wide_loop1_b hS hn hrow N g0 hi m (s + 1) (nx.set s true) (pk.set s (qB ch inS inn s)) true h0 (by omega) (by rw [List.length_set]; exact hx) (by rw [List.length_set]; exact hp)
        · have hq' : ¬ idxG (wB inn inS) 0 (ch.getD s []) ≥ 0 := hq
          rw [decide_eq_false hq, decide_eq_false hq']
          exact wide_loop1_b hS hn hrow N g0 hi m (s + 1) nx pk t h0 (by omega) hx hp
    · have e0 : ch.length - s = 0 := by omega
      rw [nlt_k h0, e0]; rfl
theorem wide_loop0_b {inS : List Bool} (hS : inS.length = ch.length) (hn : ch.length ≤ 1000000) (hrow : ∀ s, s < ch.length → rgL ch.length (ch.getD s []) = true) : ∀ (f m : Nat) (inn : List Bool) (pk : List Int), f < m → inn.length = ch.length → pk.length = ch.length → nb true inn < f →
    r23bL0 1000002 m true inS i ch nm ho pk inn = some ⟨[.one (.rw ⟨1, 0⟩), .one (.rw ⟨1, 1⟩)], [vaR ⟨0, 1⟩, roB inS], [roB (wFix (qB ch inS) ch.length f inn pk).1, roI (wFix (qB ch inS) ch.length f inn pk).2]⟩
  | 0, _, _, _, _, _, _, h => absurd h (Nat.not_lt_zero _)
  | _ + 1, 0, _, _, h, _, _, _ => absurd h (Nat.not_lt_zero _)
  | f + 1, m + 1, inn, pk, hm, hi, hp, hf => by
    show r23bS0 (r23bL1 1000002 (r23bL0 1000002 m) 1000002) (r23bL0 1000002 m) true inS i ch nm ho pk inn = _
    unfold r23bS0
    have p := wpass_ok inn (qB ch inS inn) ch.length 0 inn pk false (by omega) (by omega)
    have r1 := wide_loop1_b i nm ho hS hn hrow 1000002 (r23bL0 1000002 m) hi 1000002 0 inn pk false (Nat.zero_le _) (by omega) hi hp
    have r1' : r23bL1 1000002 (r23bL0 1000002 m) 1000002 false ch (zn ch.length) 0 inS i ch nm ho pk inn inn = _ := r1
    rw [ble_of (show inn.length ≤ 1000000 by omega), r1', wFix]
    rw [Nat.sub_zero]
    cases hc : (wPass inn (qB ch inS inn) ch.length 0 inn pk false).2.2 with
    | true =>
      obtain ⟨j0, _, a2, a3, a4⟩ := (p.tf hc).resolve_left (by simp)
      have hlt : nb true (wPass inn (qB ch inS inn) ch.length 0 inn pk false).1 < nb true inn := nb_lt true p.len.symm (fun j hj h => by rw [(p.old j (fun ⟨_, _, c, _⟩ => by rw [h] at c; cases c)).1]; exact h) ⟨j0, by omega, by rw [a3]; simp, (p.new j0 (Nat.zero_le _) a2 a3 a4).1⟩
      exact wide_loop0_b hS hn hrow f m _ _ (by omega) (p.len.trans hi) (p.len2.trans hp) (by omega)
    | false =>
      cases m with
      | zero => omega
      | succ m => rfl
end
theorem wide_T_a (i : Int) (ch : List (List ChV)) (nm : List ByteArray) (ho : List (List Int)) (set : List Bool) (h : rgS ch set = true) : r23aM 1000002 i ch nm ho set = some ⟨[.one (.rw ⟨1, 0⟩), .one (.rw ⟨1, 1⟩)], [], [roB (wideA ch set).1, roI (wideA ch set).2]⟩ := by
  obtain ⟨h1, h2, h3⟩ := rgS_p h
  unfold r23aM r23aT
  have e1 : (decide (0 ≤ zn set.length) && (decide (zn set.length ≤ zn set.length) && decide (8 * (zn set.length).toNat ≤ 140737488355328))) = true := by
    rw [decide_eq_true (show 0 ≤ zn set.length by simp only [zn]; omega), decide_eq_true (Int.le_refl _), decide_eq_true (show 8 * (zn set.length).toNat ≤ 140737488355328 by simp only [zn]; omega)]; rfl
  rw [ble_of (show set.length ≤ 1000000 by omega), e1]
  have r0 := wide_loop0_a i nm ho h2 h3 (set.length + 1) 1000002 set (List.replicate set.length 0) (by omega) h1 (by rw [List.length_replicate]; exact h1) (Nat.lt_succ_of_le (nb_le _ _))
  rw [← h1] at r0
  unfold wideA
  exact r0
theorem wide_T_b (i : Int) (ch : List (List ChV)) (nm : List ByteArray) (ho : List (List Int)) (set : List Bool) (inS : List Bool) (h : (rgS ch set && Nat.beq inS.length ch.length) = true) : r23bM 1000002 i ch nm ho set inS = some ⟨[.one (.rw ⟨1, 0⟩), .one (.rw ⟨1, 1⟩)], [vaR ⟨0, 1⟩, roB inS], [roB (wideB ch inS set).1, roI (wideB ch inS set).2]⟩ := by
  rw [Bool.and_eq_true] at h
  obtain ⟨h1, h2, h3⟩ := rgS_p h.1
  unfold r23bM r23bT
  have e1 : (decide (0 ≤ zn set.length) && (decide (zn set.length ≤ zn set.length) && decide (8 * (zn set.length).toNat ≤ 140737488355328))) = true := by
    rw [decide_eq_true (show 0 ≤ zn set.length by simp only [zn]; omega), decide_eq_true (Int.le_refl _), decide_eq_true (show 8 * (zn set.length).toNat ≤ 140737488355328 by simp only [zn]; omega)]; rfl
  rw [ble_of (show set.length ≤ 1000000 by omega), e1]
  have r0 := wide_loop0_b i nm ho (Nat.eq_of_beq_eq_true h.2) h2 h3 (set.length + 1) 1000002 set (List.replicate set.length 0) (by omega) h1 (by rw [List.length_replicate]; exact h1) (Nat.lt_succ_of_le (nb_le _ _))
  rw [← h1] at r0
  unfold wideB
  exact r0
def wideS : En.Spec := ⟨[], fun ds os => match ds, os with
  | [.p (.agg [.d (.fz true) (.i .i64) _i, .d (.fz false) (.l (.l (.p .s (.p (.l (.p (.i .i64) (.p (.i .i64) .u))) .u)))) ch, .d (.fz false) (.l .s) _nm, .d (.fz false) (.l (.l (.i .i64))) _ho]), .p (.one (.d (.fz false) (.l .b) set)), .p (.one (.fn g []))], [] =>
    gN 24 g <| .br (rgS ch set) (.leaf [.one (.rw ⟨1, 0⟩), .one (.rw ⟨1, 1⟩)] [] [roB (wideA ch set).1, roI (wideA ch set).2]) .fail
  | [.p (.agg [.d (.fz true) (.i .i64) _i, .d (.fz false) (.l (.l (.p .s (.p (.l (.p (.i .i64) (.p (.i .i64) .u))) .u)))) ch, .d (.fz false) (.l .s) _nm, .d (.fz false) (.l (.l (.i .i64))) _ho]), .p (.one (.d (.fz false) (.l .b) set)), .p (.one (.fn g [.b ⟨0, 0⟩]))], [.va [.rw ⟨0, 1⟩], .ro true 0 e .b .z inS none] =>
    gN 25 g <| gE e 4 <| .br (rgS ch set && Nat.beq inS.length ch.length) (.leaf [.one (.rw ⟨1, 0⟩), .one (.rw ⟨1, 1⟩)] [vaR ⟨0, 1⟩, roB inS] [roB (wideB ch inS set).1, roI (wideB ch inS set).2]) .fail
  | _, _ => .fail⟩
theorem wide_ok : FnOk P C0 23 wideS := by
  refine fn_okC ctx18 (show P.funcs[23]? = some r23af by kernel_rfl) (of_decide_eq_true (by kernel_rfl)) (wideS) r23ah (fun ds os lf hp => ?_)
  unfold wideS at hp
  simp only at hp
  split at hp
  · rename_i i ch nm ho set g
    obtain ⟨he1, hp1⟩ := gN_pick hp
    obtain ⟨hc, hp2⟩ := br_pick hp1
    have hl := leaf_pick hp2
    subst he1
    subst hl
    exact ⟨_, (r23a_ev _ i ch nm ho set).trans (wide_T_a i ch nm ho set hc)⟩
  · rename_i i ch nm ho set g e inS
    obtain ⟨he1, hp1⟩ := gN_pick hp
    obtain ⟨he2, hp2⟩ := gE_pick hp1
    obtain ⟨hc, hp3⟩ := br_pick hp2
    have hl := leaf_pick hp3
    subst he1
    subst he2
    subst hl
    exact ⟨_, (r23b_ev _ i ch nm ho set inS).trans (wide_T_b i ch nm ho set inS hc)⟩
  · cases hp
/-! ### all -/
def cAll (ch : List (List ChV)) (l : List Bool) (s : Nat) : Bool := !(ch.getD s []).any (allC l)
def allF (ch : List (List ChV)) (set : List Bool) : List Bool := fixU true (cAll ch) set.length (set.length + 1) set
section
variable (i : Int) {ch : List (List ChV)} (nm : List ByteArray) (ho : List (List Int))
theorem all_loop1 (hn : ch.length ≤ 1000000) (hrow : ∀ s, s < ch.length → rgL ch.length (ch.getD s []) = true) (N : Nat) (g0 : r28G0) : ∀ (m s : Nat) (l : List Bool) (t : Bool), s ≤ ch.length → ch.length - s < m → l.length = ch.length →
    r28L1 N g0 m t ch (zn ch.length) (s : Int) i ch nm ho l = g0 (passU true (cAll ch) (ch.length - s) s l t).2 i ch nm ho (passU true (cAll ch) (ch.length - s) s l t).1
  | 0, _, _, _, _, h, _ => absurd h (Nat.not_lt_zero _)
  | m + 1, s, l, t, hs, hm, hl => by
    show r28S1 g0 (r28L1 N g0 m) t ch (zn ch.length) (s : Int) i ch nm ho l = _
    unfold r28S1
    by_cases h0 : s < ch.length
    · have ef : ch.length - s = (ch.length - (s + 1)) + 1 := by omega
      have hr := hrow s h0
      rw [ef, passU, lt_k h0, inb_k h0, inb_k (show s < l.length by omega), Int.toNat_natCast, wr_k (by omega), hl, hr]
      have e1 : cAll ch l s = !(ch.getD s []).any (allC l) := rfl
      rw [e1]
      cases hin : l.getD s false with
      | true => exact all_loop1 hn hrow N g0 m (s + 1) l t h0 (by omega) hl
      | false =>
        cases hq : (ch.getD s []).any (allC l) with
        | true => exact all_loop1 hn hrow N g0 m (s + 1) l t h0 (by omega) hl
        | false => exact all_loop1 hn hrow N g0 m (s + 1) (l.set s true) true h0 (by omega) (by rw [List.length_set]; exact hl)
    · have e0 : ch.length - s = 0 := by omega
      rw [nlt_k h0, e0]; rfl
theorem all_loop0 (hn : ch.length ≤ 1000000) (hrow : ∀ s, s < ch.length → rgL ch.length (ch.getD s []) = true) : ∀ (f m : Nat) (l : List Bool), f < m → l.length = ch.length → nb true l < f →
    r28L0 1000002 m true i ch nm ho l = some ⟨[.one (.rw ⟨1, 0⟩)], [], [roB (fixU true (cAll ch) ch.length f l)]⟩
  | 0, _, _, _, _, h => absurd h (Nat.not_lt_zero _)
  | _ + 1, 0, _, h, _, _ => absurd h (Nat.not_lt_zero _)
  | f + 1, m + 1, l, hm, hl, hf => by
    show r28S0 (r28L1 1000002 (r28L0 1000002 m) 1000002) (r28L0 1000002 m) true i ch nm ho l = _
    unfold r28S0
    have p := pass_ok true (cAll ch) ch.length 0 l false (by omega)
    have r1 := all_loop1 i nm ho hn hrow 1000002 (r28L0 1000002 m) 1000002 0 l false (Nat.zero_le _) (by omega) hl
    have r1' : r28L1 1000002 (r28L0 1000002 m) 1000002 false ch (zn ch.length) 0 i ch nm ho l = _ := r1
    rw [r1', fixU, Nat.sub_zero]
    cases hc : (passU true (cAll ch) ch.length 0 l false).2 with
    | true =>
      exact all_loop0 hn hrow f m _ (by omega) (p.len.trans hl) (by have := (p.lt hc).resolve_left (by simp); omega)
    | false =>
      cases m with
      | zero => omega
      | succ m => rfl
end
theorem all_T (i : Int) (ch : List (List ChV)) (nm : List ByteArray) (ho : List (List Int)) (set : List Bool) (h : rgS ch set = true) : r28M 1000002 i ch nm ho set = some ⟨[.one (.rw ⟨1, 0⟩)], [], [roB (allF ch set)]⟩ := by
  obtain ⟨h1, h2, h3⟩ := rgS_p h
  unfold r28M r28T
  rw [ble_of (show set.length ≤ 1000000 by omega)]
  have r0 := all_loop0 i nm ho h2 h3 (set.length + 1) 1000002 set (by omega) h1 (Nat.lt_succ_of_le (nb_le _ _))
  rw [← h1] at r0
  exact r0
def allS : En.Spec := ⟨[], fun ds os => match ds, os with
  | [.p (.agg [.d (.fz true) (.i .i64) _i, .d (.fz false) (.l (.l (.p .s (.p (.l (.p (.i .i64) (.p (.i .i64) .u))) .u)))) ch, .d (.fz false) (.l .s) _nm, .d (.fz false) (.l (.l (.i .i64))) _ho]), .p (.one (.d (.fz false) (.l .b) set)), .p (.one (.fn g []))], [] =>
    gN 29 g <| .br (rgS ch set) (.leaf [.one (.rw ⟨1, 0⟩)] [] [roB (allF ch set)]) .fail
  | _, _ => .fail⟩
theorem all_ok : FnOk P C0 28 allS := by
  refine fn_okC ctx18 (show P.funcs[28]? = some r28f by kernel_rfl) (of_decide_eq_true (by kernel_rfl)) (allS) r28h (fun ds os lf hp => ?_)
  unfold allS at hp
  simp only at hp
  split at hp
  · rename_i i ch nm ho set g
    obtain ⟨he1, hp1⟩ := gN_pick hp
    obtain ⟨hc, hp2⟩ := br_pick hp1
    have hl := leaf_pick hp2
    subst he1
    subst hl
    exact ⟨_, (r28_ev _ i ch nm ho set).trans (all_T i ch nm ho set hc)⟩
  · cases hp
end Go.S22
