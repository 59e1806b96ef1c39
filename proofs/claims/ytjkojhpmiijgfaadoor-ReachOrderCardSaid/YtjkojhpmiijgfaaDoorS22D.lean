/-
  Seat 22: the contracts of the small functions of reach.
-/
import Derived.Test.YtjkojhpmiijgfaaDoorS22G2
open Go Go.En
namespace Go.S22
theorem inb_inF (n : Nat) (a : Int) : inb a n = inF (zn n) a := by
  unfold inb inF zn; rfl
theorem mv41_ok : FnOk P C0 41 mv41S := by
  refine fn_okC ctx1 (show P.funcs[41]? = some r41f by kernel_rfl) (of_decide_eq_true (by kernel_rfl)) (mv41S) r41h (fun ds os lf hp => ?_)
  unfold mv41S at hp
  simp only at hp
  split at hp
  · rename_i a b inn
    simp only [Out.pick] at hp
    cases hc0 : inF (zn inn.length) a with
    | false => rw [hc0] at hp; cases hp
    | true =>
      rw [hc0] at hp
      simp only [cond_true] at hp
      simp only [Option.some.injEq] at hp
      subst hp
      exact ⟨0, (r41_ev 0 a b inn).trans (by unfold r41M r41T; rw [inb_inF, hc0]; rfl)⟩
  · cases hp
theorem mv39_ok : FnOk P C0 39 mv39S := by
  refine fn_okC ctx1 (show P.funcs[39]? = some r39f by kernel_rfl) (of_decide_eq_true (by kernel_rfl)) (mv39S) r39h (fun ds os lf hp => ?_)
  unfold mv39S at hp
  simp only at hp
  split at hp
  · rename_i a b inn
    simp only [Out.pick] at hp
    cases hc0 : inF (zn inn.length) a with
    | false => rw [hc0] at hp; cases hp
    | true =>
      rw [hc0] at hp
      simp only [cond_true] at hp
      simp only [Option.some.injEq] at hp
      subst hp
      exact ⟨0, (r39_ev 0 a b inn).trans (by unfold r39M r39T; rw [inb_inF, hc0]; rfl)⟩
  · cases hp
theorem ctx11 : CtxOk C11 := fun _ _ h => tbl_ok (l := [(41, mv41S), (39, mv39S)]) ⟨mv41_ok, mv39_ok, trivial⟩ h
theorem gB_pick {a g : Nat} {o o' : Out} {lf : Lf} (h : (bif g.beq a then o else o').pick = some lf) : (g = a ∧ o.pick = some lf) ∨ o'.pick = some lf := by
  cases hc : g.beq a with
  | false => rw [hc] at h; exact .inr h
  | true =>
    rw [hc] at h
    exact .inl ⟨Nat.eq_of_beq_eq_true hc, h⟩
theorem gE_pick {a g : Nat} {o : Out} {lf : Lf} (h : (gE g a o).pick = some lf) : g = a ∧ o.pick = some lf := by
  unfold gE at h
  cases hc : g.beq a with
  | false => rw [hc] at h; cases h
  | true =>
    rw [hc] at h
    exact ⟨Nat.eq_of_beq_eq_true hc, h⟩
theorem br_pick {c : Bool} {o : Out} {lf : Lf} (h : (Out.br c o .fail).pick = some lf) : c = true ∧ o.pick = some lf := by
  simp only [Out.pick] at h
  cases c with
  | false => cases h
  | true => exact ⟨rfl, h⟩
theorem leaf_pick {a : List Pt} {b c : List Ob} {lf : Lf} (h : (Out.leaf a b c).pick = some lf) : lf = ⟨a, b, c⟩ := by
  simp only [Out.pick, Option.some.injEq] at h
  exact h.symm
theorem idxM_loop_a {l : List MvV} {inn : List Bool} (hl : rngV inn.length l = true) : ∀ (m n k : Nat), k ≤ l.length → l.length - k < m → r50aL0 n m l (zn l.length) (k : Int) inn = some ⟨[pI (idxG (yes inn) k (l.drop k))], [vaB inn], []⟩
  | 0, _, _, _, h => absurd h (Nat.not_lt_zero _)
  | m + 1, n, k, hk, hm => by
    have hl' := hl
    unfold rngV at hl
    rw [Bool.and_eq_true] at hl
    have hb := of_ble hl.1
    show r50aS0 (r50aL0 n m) l (zn l.length) (k : Int) inn = _
    unfold r50aS0
    by_cases h0 : k < l.length
    · have hr := List.all_eq_true.1 hl.2 _ (get_mem h0 (0, 0, ()))
      rw [lt_k h0, inb_k h0, wr_k (by omega), Int.toNat_natCast, idxM_loop_a hl' m n (k + 1) h0 (by omega), drop_get h0 (0, 0, ())]
      have hr : inF (zn inn.length) (l.getD k (0, 0, ())).1 = true := hr
      rw [hr]
      show _ = some (Lf.mk [pI (bif yes inn (l.getD k (0, 0, ())) then (k : Int) else idxG (yes inn) (k + 1) (l.drop (k + 1)))] [vaB inn] [])
      show (bif true then bif true then bif true then bif yes inn (l.getD k (0, 0, ())) then _ else _ else _ else _ else _) = _
      cases yes inn (l.getD k (0, 0, ())) <;> rfl
    · rw [nlt_k h0, List.drop_eq_nil_of_le (by omega)]; rfl
theorem idxM_loop_b {l : List MvV} {inn : List Bool} (hl : rngV inn.length l = true) : ∀ (m n k : Nat), k ≤ l.length → l.length - k < m → r50bL0 n m l (zn l.length) (k : Int) inn = some ⟨[pI (idxG (no inn) k (l.drop k))], [vaB inn], []⟩
  | 0, _, _, _, h => absurd h (Nat.not_lt_zero _)
  | m + 1, n, k, hk, hm => by
    have hl' := hl
    unfold rngV at hl
    rw [Bool.and_eq_true] at hl
    have hb := of_ble hl.1
    show r50bS0 (r50bL0 n m) l (zn l.length) (k : Int) inn = _
    unfold r50bS0
    by_cases h0 : k < l.length
    · have hr := List.all_eq_true.1 hl.2 _ (get_mem h0 (0, 0, ()))
      rw [lt_k h0, inb_k h0, wr_k (by omega), Int.toNat_natCast, idxM_loop_b hl' m n (k + 1) h0 (by omega), drop_get h0 (0, 0, ())]
      have hr : inF (zn inn.length) (l.getD k (0, 0, ())).1 = true := hr
      rw [hr]
      show _ = some (Lf.mk [pI (bif no inn (l.getD k (0, 0, ())) then (k : Int) else idxG (no inn) (k + 1) (l.drop (k + 1)))] [vaB inn] [])
      show (bif true then bif true then bif true then bif no inn (l.getD k (0, 0, ())) then _ else _ else _ else _ else _) = _
      cases no inn (l.getD k (0, 0, ())) <;> rfl
    · rw [nlt_k h0, List.drop_eq_nil_of_le (by omega)]; rfl
theorem idxM_ok : FnOk P C0 50 idxMS := by
  refine fn_okC ctx11 (show P.funcs[50]? = some r50af by kernel_rfl) (of_decide_eq_true (by kernel_rfl)) (idxMS) r50ah (fun ds os lf hp => ?_)
  unfold idxMS at hp
  simp only at hp
  split at hp
  · rename_i l g inn
    rcases gB_pick hp with ⟨rfl, hp⟩ | hp
    · obtain ⟨hc, hp⟩ := br_pick hp
      obtain rfl := leaf_pick hp
      exact ⟨l.length + 1, (r50a_ev _ l inn).trans (idxM_loop_a hc _ _ 0 (Nat.zero_le _) (Nat.lt_succ_self _))⟩
    · obtain ⟨rfl, hp⟩ := gN_pick hp
      obtain ⟨hc, hp⟩ := br_pick hp
      obtain rfl := leaf_pick hp
      exact ⟨l.length + 1, (r50b_ev _ l inn).trans (idxM_loop_b hc _ _ 0 (Nat.zero_le _) (Nat.lt_succ_self _))⟩
  · cases hp
theorem ctx12 : CtxOk C12 := fun _ _ h => tbl_ok (l := [(50, idxMS)]) ⟨idxM_ok, trivial⟩ h
theorem conM_ok : FnOk P C0 38 conMS := by
  refine fn_okC ctx12 (show P.funcs[38]? = some r38af by kernel_rfl) (of_decide_eq_true (by kernel_rfl)) (conMS) r38ah (fun ds os lf hp => ?_)
  unfold conMS at hp
  simp only at hp
  split at hp
  · rename_i l g inn
    rcases gB_pick hp with ⟨rfl, hp⟩ | hp
    · obtain ⟨hc, hp⟩ := br_pick hp
      obtain rfl := leaf_pick hp
      exact ⟨0, (r38a_ev _ l inn).trans (by unfold r38aM r38aT; rw [hc, idx_any]; rfl)⟩
    · obtain ⟨rfl, hp⟩ := gN_pick hp
      obtain ⟨hc, hp⟩ := br_pick hp
      obtain rfl := leaf_pick hp
      exact ⟨0, (r38b_ev _ l inn).trans (by unfold r38bM r38bT; rw [hc, idx_any]; rfl)⟩
  · cases hp
theorem ctx13 : CtxOk C13 := fun _ _ h => tbl_ok (l := [(38, conMS)]) ⟨conM_ok, trivial⟩ h
theorem hits_ok : FnOk P C0 29 hitsS := by
  refine fn_okC ctx13 (show P.funcs[29]? = some r29f by kernel_rfl) (of_decide_eq_true (by kernel_rfl)) (hitsS) r29h (fun ds os lf hp => ?_)
  unfold hitsS at hp
  simp only at hp
  split at hp
  · rename_i a mv inn
    simp only [Out.pick] at hp
    cases hc0 : rngV inn.length mv with
    | false => rw [hc0] at hp; cases hp
    | true =>
      rw [hc0] at hp
      simp only [cond_true] at hp
      simp only [Option.some.injEq] at hp
      subst hp
      exact ⟨0, (r29_ev 0 a mv inn).trans (by unfold r29M r29T; rw [hc0]; rfl)⟩
  · cases hp
theorem stays_ok : FnOk P C0 26 staysS := by
  refine fn_okC ctx13 (show P.funcs[26]? = some r26f by kernel_rfl) (of_decide_eq_true (by kernel_rfl)) (staysS) r26h (fun ds os lf hp => ?_)
  unfold staysS at hp
  simp only at hp
  split at hp
  · rename_i a mv inn
    simp only [Out.pick] at hp
    cases hc0 : rngV inn.length mv with
    | false => rw [hc0] at hp; cases hp
    | true =>
      rw [hc0] at hp
      simp only [cond_true] at hp
      simp only [Option.some.injEq] at hp
      subst hp
      exact ⟨0, (r26_ev 0 a mv inn).trans (by unfold r26M r26T; rw [hc0]; rfl)⟩
  · cases hp
theorem what_ok : FnOk P C0 24 whatS := by
  refine fn_okC ctx1 (show P.funcs[24]? = some r24f by kernel_rfl) (of_decide_eq_true (by kernel_rfl)) (whatS) r24h (fun ds os lf hp => ?_)
  unfold whatS at hp
  simp only at hp
  split at hp
  · rename_i s a mv
    simp only [Out.pick, Option.some.injEq] at hp
    subst hp
    exact ⟨0, (r24_ev 0 s a mv).trans rfl⟩
  · cases hp
theorem ctx14a : CtxOk C14a := fun _ _ h => tbl_ok (l := l14a) ⟨hits_ok, stays_ok, what_ok, trivial⟩ h
theorem sure25_ok : FnOk P C0 25 sure25S := by
  refine fn_okC ctx14a (show P.funcs[25]? = some r25f by kernel_rfl) (of_decide_eq_true (by kernel_rfl)) (sure25S) r25h (fun ds os lf hp => ?_)
  unfold sure25S at hp
  simp only at hp
  split at hp
  · rename_i s a mv e inn
    obtain ⟨he1, hp1⟩ := gE_pick hp
    obtain ⟨hc, hp2⟩ := br_pick hp1
    have hl := leaf_pick hp2
    subst he1
    subst hl
    exact ⟨0, (r25_ev 0 s a mv inn).trans (by unfold r25M r25T; rw [hc]; rfl)⟩
  · cases hp
theorem ctx14 : CtxOk C14 := fun _ _ h => tbl_ok (l := [(29, hitsS), (26, staysS), (24, whatS), (25, sure25S)]) ⟨hits_ok, stays_ok, what_ok, sure25_ok, trivial⟩ h
theorem wid37_ok : FnOk P C0 37 wid37S := by
  refine fn_okC ctx14 (show P.funcs[37]? = some r37af by kernel_rfl) (of_decide_eq_true (by kernel_rfl)) (wid37S) r37ah (fun ds os lf hp => ?_)
  unfold wid37S at hp
  simp only at hp
  split at hp
  · rename_i a mv g s e inn
    obtain ⟨he1, hp1⟩ := gN_pick hp
    obtain ⟨he2, hp2⟩ := gE_pick hp1
    obtain ⟨hc, hp3⟩ := br_pick hp2
    have hl := leaf_pick hp3
    subst he1
    subst he2
    subst hl
    exact ⟨0, (r37a_ev 0 a mv s inn).trans (by unfold r37aM r37aT; rw [hc]; cases mv.any (yes inn) <;> rfl)⟩
  · rename_i a mv g s e inn e2 inS
    obtain ⟨he1, hp1⟩ := gN_pick hp
    obtain ⟨he2, hp2⟩ := gE_pick hp1
    obtain ⟨he3, hp3⟩ := gE_pick hp2
    obtain ⟨hc, hp4⟩ := br_pick hp3
    have hl := leaf_pick hp4
    subst he1
    subst he2
    subst he3
    subst hl
    rw [Bool.and_eq_true] at hc
    exact ⟨0, (r37b_ev 0 a mv s inn inS).trans (by unfold r37bM r37bT two25; rw [hc.1, hc.2]; cases mv.any (yes inn) <;> rfl)⟩
  · cases hp
theorem all40_ok : FnOk P C0 40 all40S := by
  refine fn_okC ctx14 (show P.funcs[40]? = some r40f by kernel_rfl) (of_decide_eq_true (by kernel_rfl)) (all40S) r40h (fun ds os lf hp => ?_)
  unfold all40S at hp
  simp only at hp
  split at hp
  · rename_i a mv g e inn
    obtain ⟨he1, hp1⟩ := gN_pick hp
    obtain ⟨he2, hp2⟩ := gE_pick hp1
    obtain ⟨hc, hp3⟩ := br_pick hp2
    have hl := leaf_pick hp3
    subst he1
    subst he2
    subst hl
    exact ⟨0, (r40_ev 0 a mv inn).trans (by unfold r40M r40T; rw [hc]; rfl)⟩
  · cases hp
theorem must31_ok : FnOk P C0 31 must31S := by
  refine fn_okC ctx14 (show P.funcs[31]? = some r31f by kernel_rfl) (of_decide_eq_true (by kernel_rfl)) (must31S) r31h (fun ds os lf hp => ?_)
  unfold must31S at hp
  simp only at hp
  split at hp
  · rename_i a mv e inn
    obtain ⟨he1, hp1⟩ := gE_pick hp
    obtain ⟨hc, hp2⟩ := br_pick hp1
    have hl := leaf_pick hp2
    subst he1
    subst hl
    exact ⟨0, (r31_ev 0 a mv inn).trans (by unfold r31M r31T; rw [hc]; rfl)⟩
  · cases hp
theorem both_eq {ρ : Type} (x : Option ρ) : both x x = x := by unfold both; rw [if_pos rfl]
theorem clone_T {v : List Bool} (h : v.length ≤ 1000000) : r35T v = some ⟨[.one (.rw ⟨1, 0⟩)], [], [roB v]⟩ := by
  have e1 : decide ((0 + v.length) * 1 ≤ 140737488355328) = true := by simp only [decide_eq_true_eq]; omega
  unfold r35T
  rw [e1]
  cases hz : (zn v.length == 0) with
  | false => rfl
  | true =>
    have : v = [] := by
      have h1 : zn v.length = 0 := eq_of_beq hz
      unfold zn at h1
      exact List.length_eq_zero_iff.1 (by omega)
    subst this
    exact both_eq _
theorem clone_ok : FnOk P C0 35 cloneS := by
  refine fn_okC ctx1 (show P.funcs[35]? = some r35f by kernel_rfl) (of_decide_eq_true (by kernel_rfl)) (cloneS) r35h (fun ds os lf hp => ?_)
  unfold cloneS at hp
  simp only at hp
  split at hp
  · rename_i v
    obtain ⟨hc, hp1⟩ := br_pick hp
    have hl := leaf_pick hp1
    subst hl
    exact ⟨0, (r35_ev 0 v).trans (clone_T (of_ble hc))⟩
  · cases hp
theorem sameB_len : ∀ {a b : List Bool}, sameB a b = true → a.length = b.length
  | [], [], _ => rfl
  | _ :: a, _ :: b, h => by
    have h : (_ && sameB a b) = true := h
    rw [Bool.and_eq_true] at h
    rw [List.length_cons, List.length_cons, sameB_len h.2]
  | [], _ :: _, h => by cases h
  | _ :: _, [], h => by cases h
theorem sameB_eq : ∀ {a b : List Bool}, sameB a b = true → a = b
  | [], [], _ => rfl
  | x :: a, y :: b, h => by
    have h : (x == y && sameB a b) = true := h
    rw [Bool.and_eq_true, beq_iff_eq] at h
    rw [h.1, sameB_eq h.2]
  | [], _ :: _, h => by cases h
  | _ :: _, [], h => by cases h
theorem sameB_refl : ∀ l : List Bool, sameB l l = true
  | [] => rfl
  | x :: l => by show (x == x && sameB l l) = true; rw [sameB_refl l]; simp
theorem r27_loop {a b : List Bool} (hl : a.length ≤ 1000000) (he : a.length = b.length) : ∀ (m n k : Nat), k ≤ a.length → a.length - k < m → r27L0 n m a b (zn a.length) (k : Int) = some ⟨[pB (sameB (a.drop k) (b.drop k))], [], []⟩
  | 0, _, _, _, h => absurd h (Nat.not_lt_zero _)
  | m + 1, n, k, hk, hm => by
    show r27S0 (r27L0 n m) a b (zn a.length) (k : Int) = _
    unfold r27S0
    by_cases h0 : k < a.length
    · have h1 : k < b.length := by omega
      rw [lt_k h0, inb_k h0, inb_k h1, wr_k (by omega), Int.toNat_natCast, r27_loop hl he m n (k + 1) h0 (by omega), drop_get h0 false, drop_get h1 false]
      show _ = some (Lf.mk [pB (a.getD k false == b.getD k false && sameB (a.drop (k + 1)) (b.drop (k + 1)))] [] [])
      cases a.getD k false <;> cases b.getD k false <;> rfl
    · rw [nlt_k h0, List.drop_eq_nil_of_le (by omega), List.drop_eq_nil_of_le (by omega)]; rfl
theorem r27_T (a b : List Bool) (h : Nat.ble a.length 1000000 && Nat.ble b.length 1000000) : r27M (a.length + 1) a b = some ⟨[pB (sameB a b)], [], []⟩ := by
  rw [Bool.and_eq_true] at h
  have h1 := of_ble h.1
  unfold r27M r27T
  by_cases he : a.length = b.length
  · have r0 := r27_loop h1 he (a.length + 1) (a.length + 1) 0 (Nat.zero_le _) (by omega)
    have e0 : (zn a.length != zn b.length) = false := by rw [he]; simp
    rw [e0]
    exact r0
  · have e0 : (zn a.length != zn b.length) = true := by simp only [zn, bne_iff_ne, ne_eq]; omega
    have e1 : sameB a b = false := by
      cases hc : sameB a b with
      | false => rfl
      | true => exact absurd (sameB_len hc) he
    rw [e0, e1]; rfl
theorem r19_loop {a b : List Bool} (hl : a.length ≤ 1000000) (he : a.length = b.length) : ∀ (m n k : Nat), k ≤ a.length → a.length - k < m → r19L0 n m a b (k : Int) = some ⟨[pB (sameB (a.drop k) (b.drop k))], [], []⟩
  | 0, _, _, _, h => absurd h (Nat.not_lt_zero _)
  | m + 1, n, k, hk, hm => by
    show r19S0 (r19L0 n m) a b (k : Int) = _
    unfold r19S0
    by_cases h0 : k < a.length
    · have h1 : k < b.length := by omega
      rw [lt_k h0, inb_k h0, inb_k h1, wr_k (by omega), Int.toNat_natCast, r19_loop hl he m n (k + 1) h0 (by omega), drop_get h0 false, drop_get h1 false]
      show _ = some (Lf.mk [pB (a.getD k false == b.getD k false && sameB (a.drop (k + 1)) (b.drop (k + 1)))] [] [])
      cases a.getD k false <;> cases b.getD k false <;> rfl
    · rw [nlt_k h0, List.drop_eq_nil_of_le (by omega), List.drop_eq_nil_of_le (by omega)]; rfl
theorem r19_T (a b : List Bool) (h : Nat.ble a.length 1000000 && Nat.ble b.length 1000000) : r19M (a.length + 1) a b = some ⟨[pB (sameB a b)], [], []⟩ := by
  rw [Bool.and_eq_true] at h
  have h1 := of_ble h.1
  unfold r19M r19T
  by_cases he : a.length = b.length
  · have r0 := r19_loop h1 he (a.length + 1) (a.length + 1) 0 (Nat.zero_le _) (by omega)
    have e0 : (zn a.length != zn b.length) = false := by rw [he]; simp
    rw [e0]
    exact r0
  · have e0 : (zn a.length != zn b.length) = true := by simp only [zn, bne_iff_ne, ne_eq]; omega
    have e1 : sameB a b = false := by
      cases hc : sameB a b with
      | false => rfl
      | true => exact absurd (sameB_len hc) he
    rw [e0, e1]; rfl
theorem eqB_ok : FnOk P C0 27 eqBS := by
  refine fn_okC ctx1 (show P.funcs[27]? = some r27f by kernel_rfl) (of_decide_eq_true (by kernel_rfl)) (eqBS) r27h (fun ds os lf hp => ?_)
  unfold eqBS at hp
  simp only at hp
  split at hp
  · rename_i a b
    obtain ⟨hc, hp1⟩ := br_pick hp
    have hl := leaf_pick hp1
    subst hl
    exact ⟨_, (r27_ev _ a b).trans (r27_T a b hc)⟩
  · cases hp
theorem truths_ok : FnOk P C0 19 eqBS := by
  refine fn_okC ctx1 (show P.funcs[19]? = some r19f by kernel_rfl) (of_decide_eq_true (by kernel_rfl)) (eqBS) r19h (fun ds os lf hp => ?_)
  unfold eqBS at hp
  simp only at hp
  split at hp
  · rename_i a b
    obtain ⟨hc, hp1⟩ := br_pick hp
    have hl := leaf_pick hp1
    subst hl
    exact ⟨_, (r19_ev _ a b).trans (r19_T a b hc)⟩
  · cases hp
theorem ctx15 : CtxOk C15 := fun _ _ h => tbl_ok (l := [(34, checkMS)]) ⟨checkM_ok, trivial⟩ h
theorem checkR_ok : FnOk P C0 22 checkRS := by
  refine fn_okC ctx15 (show P.funcs[22]? = some r22f by kernel_rfl) (of_decide_eq_true (by kernel_rfl)) (checkRS) r22h (fun ds os lf hp => ?_)
  unfold checkRS at hp
  simp only at hp
  split at hp
  · rename_i i ch nm ho set
    obtain ⟨hc, hp1⟩ := br_pick hp
    have hl := leaf_pick hp1
    subst hl
    exact ⟨0, (r22_ev 0 i ch nm ho set).trans (by unfold r22M r22T; rw [hc]; cases mdOk i ch nm ho <;> cases h1 : (zn set.length == zn ch.length) <;> (try rw [bne, h1]) <;> rfl)⟩
  · cases hp
end Go.S22
