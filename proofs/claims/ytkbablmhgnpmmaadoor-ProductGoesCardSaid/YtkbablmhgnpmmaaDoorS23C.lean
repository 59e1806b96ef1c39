/-
  Seat 23: the contracts of the functions that take closures.
-/
import Derived.Test.YtkbablmhgnpmmaaDoorS23G2
open Go Go.En
namespace Go.S23
theorem gN_pick {a g : Nat} {o : Out} {lf : Lf} (h : (gN a g o).pick = some lf) : g = a ∧ o.pick = some lf := by
  unfold gN at h
  cases hc : g.beq a with
  | false => rw [hc] at h; cases h
  | true =>
    rw [hc] at h
    exact ⟨Nat.eq_of_beq_eq_true hc, h⟩
theorem gB_pick {a g : Nat} {o o' : Out} {lf : Lf} (h : (bif g.beq a then o else o').pick = some lf) : (g = a ∧ o.pick = some lf) ∨ o'.pick = some lf := by
  cases hc : g.beq a with
  | false => rw [hc] at h; exact .inr h
  | true =>
    rw [hc] at h
    exact .inl ⟨Nat.eq_of_beq_eq_true hc, h⟩
theorem idx_any {α : Type} (p : α → Bool) : ∀ (l : List α) (k : Nat), decide (idxG p k l ≥ 0) = l.any p
  | [], k => rfl
  | x :: l, k => by
    have ih := idx_any p l (k + 1)
    rw [List.any_cons]
    unfold idxG
    cases p x with
    | true => rw [cond_true, Bool.true_or, decide_eq_true_eq]; omega
    | false => rw [cond_false, Bool.false_or]; exact ih
theorem t33 (x p i : Int) (nx : List (List Int)) (ps : List PairV) : f33T x p i nx ps = some ⟨[pB (nin (zn nx.length) x)], [vaD p i nx ps], []⟩ := by
  unfold f33T
  rw [not_in]
  cases decide (x < 0) <;> rfl
theorem bad33_ok : FnOk P C0 33 bad33S := by
  refine fn_okC ctx1 (show P.funcs[33]? = some f33f by kernel_rfl) (of_decide_eq_true (by kernel_rfl)) (bad33S) f33h (fun ds os lf hp => ?_)
  unfold bad33S at hp
  simp only at hp
  split at hp
  · rename_i x p i nx ps
    simp only [Out.pick, Option.some.injEq] at hp
    subst hp
    exact ⟨0, (f33_ev 0 x p i nx ps).trans (t33 x p i nx ps)⟩
  · cases hp
theorem ctx2 : CtxOk C2 := fun _ _ h => tbl_ok (l := [(43, bad27S), (26, bad37S), (33, bad33S)]) ⟨bad27_ok, bad37_ok, bad33_ok, trivial⟩ h
theorem idx_loop_a {l : List Int} (z : Int) (hl : l.length ≤ 9223372036854775807)  : ∀ (m n k : Nat), k ≤ l.length → l.length - k < m → f45aL0 n m l (zn l.length) (k : Int) z = some ⟨[pI (idxG (nin z) k (l.drop k))], [vaI z], []⟩
  | 0, _, _, _, h => absurd h (Nat.not_lt_zero _)
  | m + 1, n, k, hk, hm => by
    show f45aS0 (f45aL0 n m) l (zn l.length) (k : Int) z = _
    unfold f45aS0
    by_cases h0 : k < l.length
    · rw [lt_k h0, inb_k h0, wr_k (by omega), Int.toNat_natCast, idx_loop_a z hl m n (k + 1) h0 (by omega), drop_get h0 0]
      show _ = some (Lf.mk [pI (bif nin z (l.getD k 0) then (k : Int) else idxG (nin z) (k + 1) (l.drop (k + 1)))] [vaI z] [])
      cases nin z (l.getD k 0) <;> rfl
    · rw [nlt_k h0, List.drop_eq_nil_of_le (by omega)]; rfl
theorem idx_loop_b {l : List Int} (p i : Int) (nx : List (List Int)) (ps : List PairV) (hl : l.length ≤ 9223372036854775807) (hb : decide (0 ≤ p) = true) : ∀ (m n k : Nat), k ≤ l.length → l.length - k < m → f45bL0 n m l (zn l.length) (k : Int) p i nx ps = some ⟨[pI (idxG (nin (shlF .i64 1 p)) k (l.drop k))], [vaD p i nx ps], []⟩
  | 0, _, _, _, h => absurd h (Nat.not_lt_zero _)
  | m + 1, n, k, hk, hm => by
    show f45bS0 (f45bL0 n m) l (zn l.length) (k : Int) p i nx ps = _
    unfold f45bS0
    by_cases h0 : k < l.length
    · rw [lt_k h0, inb_k h0, wr_k (by omega), Int.toNat_natCast, hb, idx_loop_b p i nx ps hl hb m n (k + 1) h0 (by omega), drop_get h0 0]
      show _ = some (Lf.mk [pI (bif nin (shlF .i64 1 p) (l.getD k 0) then (k : Int) else idxG (nin (shlF .i64 1 p)) (k + 1) (l.drop (k + 1)))] [vaD p i nx ps] [])
      cases nin (shlF .i64 1 p) (l.getD k 0) <;> rfl
    · rw [nlt_k h0, List.drop_eq_nil_of_le (by omega)]; rfl
theorem idx_loop_c {l : List Int} (p i : Int) (nx : List (List Int)) (ps : List PairV) (hl : l.length ≤ 9223372036854775807)  : ∀ (m n k : Nat), k ≤ l.length → l.length - k < m → f45cL0 n m l (zn l.length) (k : Int) p i nx ps = some ⟨[pI (idxG (nin (zn nx.length)) k (l.drop k))], [vaD p i nx ps], []⟩
  | 0, _, _, _, h => absurd h (Nat.not_lt_zero _)
  | m + 1, n, k, hk, hm => by
    show f45cS0 (f45cL0 n m) l (zn l.length) (k : Int) p i nx ps = _
    unfold f45cS0
    by_cases h0 : k < l.length
    · rw [lt_k h0, inb_k h0, wr_k (by omega), Int.toNat_natCast, idx_loop_c p i nx ps hl m n (k + 1) h0 (by omega), drop_get h0 0]
      show _ = some (Lf.mk [pI (bif nin (zn nx.length) (l.getD k 0) then (k : Int) else idxG (nin (zn nx.length)) (k + 1) (l.drop (k + 1)))] [vaD p i nx ps] [])
      cases nin (zn nx.length) (l.getD k 0) <;> rfl
    · rw [nlt_k h0, List.drop_eq_nil_of_le (by omega)]; rfl
theorem idx45_ok : FnOk P C0 45 idx45S := by
  refine fn_okC ctx2 (show P.funcs[45]? = some f45af by kernel_rfl) (of_decide_eq_true (by kernel_rfl)) (idx45S) f45ah (fun ds os lf hp => ?_)
  unfold idx45S at hp
  simp only at hp
  split at hp
  · rename_i l g n
    obtain ⟨rfl, hq⟩ := gN_pick hp; replace hp := hq
    simp only [Out.pick] at hp
    cases hc0 : big l.length with
    | false => rw [hc0] at hp; cases hp
    | true =>
      rw [hc0] at hp
      simp only [cond_true] at hp
      simp only [Option.some.injEq] at hp
      subst hp
      exact ⟨l.length + 1, (f45a_ev _ l n).trans (idx_loop_a n (of_ble hc0) _ _ 0 (Nat.zero_le _) (Nat.lt_succ_self _))⟩
  · rename_i l g p i nx ps
    rcases gB_pick hp with ⟨rfl, hp⟩ | hp
    · change (bif _ then _ else _) = _ at hp
      cases hc0 : (big l.length && decide ((0 : Int) ≤ p)) with
      | false => rw [hc0] at hp; cases hp
      | true =>
        rw [hc0] at hp
        simp only [cond_true] at hp
        obtain rfl := Option.some.inj hp
        rw [Bool.and_eq_true] at hc0
        exact ⟨l.length + 1, (f45b_ev _ l p i nx ps).trans (idx_loop_b p i nx ps (of_ble hc0.1) hc0.2 _ _ 0 (Nat.zero_le _) (Nat.lt_succ_self _))⟩
    · obtain ⟨rfl, hp⟩ := gN_pick hp
      change (bif _ then _ else _) = _ at hp
      cases hc0 : big l.length with
      | false => rw [hc0] at hp; cases hp
      | true =>
        rw [hc0] at hp
        simp only [cond_true] at hp
        obtain rfl := Option.some.inj hp
        exact ⟨l.length + 1, (f45c_ev _ l p i nx ps).trans (idx_loop_c p i nx ps (of_ble hc0) _ _ 0 (Nat.zero_le _) (Nat.lt_succ_self _))⟩
  · cases hp
theorem ctx3 : CtxOk C3 := fun _ _ h => tbl_ok (l := [(45, idx45S)]) ⟨idx45_ok, trivial⟩ h
theorem con_T_a (l : List Int) (z : Int) (h : big l.length = true) : f28aT l z = some ⟨[pB (l.any (nin z))], [vaI z], []⟩ := by
  unfold f28aT
  rw [h, idx_any]; rfl
theorem con_T_b (l : List Int) (p i : Int) (nx : List (List Int)) (ps : List PairV) (h : (big l.length && decide (0 ≤ p)) = true) : f28bT l p i nx ps = some ⟨[pB (l.any (nin (shlF .i64 1 p)))], [vaD p i nx ps], []⟩ := by
  unfold f28bT
  rw [h, idx_any]; rfl
theorem con_T_c (l : List Int) (p i : Int) (nx : List (List Int)) (ps : List PairV) (h : big l.length = true) : f28cT l p i nx ps = some ⟨[pB (l.any (nin (zn nx.length)))], [vaD p i nx ps], []⟩ := by
  unfold f28cT
  rw [h, idx_any]; rfl
theorem con28_ok : FnOk P C0 28 con28S := by
  refine fn_okC ctx3 (show P.funcs[28]? = some f28af by kernel_rfl) (of_decide_eq_true (by kernel_rfl)) (con28S) f28ah (fun ds os lf hp => ?_)
  unfold con28S at hp
  simp only at hp
  split at hp
  · rename_i l g n
    obtain ⟨rfl, hq⟩ := gN_pick hp; replace hp := hq
    simp only [Out.pick] at hp
    cases hc0 : big l.length with
    | false => rw [hc0] at hp; cases hp
    | true =>
      rw [hc0] at hp
      simp only [cond_true] at hp
      simp only [Option.some.injEq] at hp
      subst hp
      exact ⟨0, (f28a_ev 0 l n).trans (con_T_a l n hc0)⟩
  · rename_i l g p i nx ps
    rcases gB_pick hp with ⟨rfl, hp⟩ | hp
    · change (bif _ then _ else _) = _ at hp
      cases hc0 : (big l.length && decide ((0 : Int) ≤ p)) with
      | false => rw [hc0] at hp; cases hp
      | true =>
        rw [hc0] at hp
        simp only [cond_true] at hp
        obtain rfl := Option.some.inj hp
        rw [Bool.and_eq_true] at hc0
        exact ⟨0, (f28b_ev 0 l p i nx ps).trans (con_T_b l p i nx ps (by rw [hc0.1, hc0.2]; rfl))⟩
    · obtain ⟨rfl, hp⟩ := gN_pick hp
      change (bif _ then _ else _) = _ at hp
      cases hc0 : big l.length with
      | false => rw [hc0] at hp; cases hp
      | true =>
        rw [hc0] at hp
        simp only [cond_true] at hp
        obtain rfl := Option.some.inj hp
        exact ⟨0, (f28c_ev 0 l p i nx ps).trans (con_T_c l p i nx ps hc0)⟩
  · cases hp
theorem ctx4 : CtxOk C4 := fun _ _ h => tbl_ok (l := [(41, right41S)]) ⟨right41_ok, trivial⟩ h
theorem right40_T (a : ByteArray) (mv : List MvV) (z : Int) (h : big mv.length = true) : f40T a mv z = some ⟨[pB (!rightV z (a, mv, ()))], [vaI z], []⟩ := by
  unfold f40T
  rw [h]; rfl
theorem right40_ok : FnOk P C0 40 right40S := by
  refine fn_okC ctx4 (show P.funcs[40]? = some f40f by kernel_rfl) (of_decide_eq_true (by kernel_rfl)) (right40S) f40h (fun ds os lf hp => ?_)
  unfold right40S at hp
  simp only at hp
  split at hp
  · rename_i a mv z
    simp only [Out.pick] at hp
    cases hc0 : big mv.length with
    | false => rw [hc0] at hp; cases hp
    | true =>
      rw [hc0] at hp
      simp only [cond_true] at hp
      simp only [Option.some.injEq] at hp
      subst hp
      exact ⟨0, (f40_ev 0 a mv z).trans (right40_T a mv z hc0)⟩
  · cases hp
theorem ctx5 : CtxOk C5 := fun _ _ h => tbl_ok (l := [(40, right40S)]) ⟨right40_ok, trivial⟩ h
theorem idx52_loop {l : List ChV} (z : Int) (hl : l.length ≤ 9223372036854775807) (hg : l.all mvG = true) : ∀ (m n k : Nat), k ≤ l.length → l.length - k < m → f52L0 n m l (zn l.length) (k : Int) z = some ⟨[pI (idxG (fun c => !rightV z c) k (l.drop k))], [vaI z], []⟩
  | 0, _, _, _, h => absurd h (Nat.not_lt_zero _)
  | m + 1, n, k, hk, hm => by
    show f52S0 (f52L0 n m) l (zn l.length) (k : Int) z = _
    unfold f52S0
    by_cases h0 : k < l.length
    · have hb : big (l.getD k (ByteArray.empty, [], ())).2.1.length = true := List.all_eq_true.1 hg _ (get_mem h0 (ByteArray.empty, [], ()))
      rw [lt_k h0, inb_k h0, wr_k (by omega), Int.toNat_natCast, idx52_loop z hl hg m n (k + 1) h0 (by omega), drop_get h0 (ByteArray.empty, [], ())]
      show (bif true then bif true then bif big (l.getD k (ByteArray.empty, [], ())).2.1.length then bif !rightV z (l.getD k (ByteArray.empty, [], ())) then _ else _ else _ else _ else _) = some (Lf.mk [pI (bif !rightV z (l.getD k (ByteArray.empty, [], ())) then (k : Int) else idxG (fun c => !rightV z c) (k + 1) (l.drop (k + 1)))] [vaI z] [])
      rw [hb]
      cases rightV z (l.getD k (ByteArray.empty, [], ())) <;> rfl
    · rw [nlt_k h0, List.drop_eq_nil_of_le (by omega)]; rfl
theorem idx52_ok : FnOk P C0 52 idx52S := by
  refine fn_okC ctx5 (show P.funcs[52]? = some f52f by kernel_rfl) (of_decide_eq_true (by kernel_rfl)) (idx52S) f52h (fun ds os lf hp => ?_)
  unfold idx52S at hp
  simp only at hp
  split at hp
  · rename_i l g z
    obtain ⟨rfl, hq⟩ := gN_pick hp; replace hp := hq
    simp only [Out.pick] at hp
    cases hc0 : (big l.length && l.all mvG) with
    | false => rw [hc0] at hp; cases hp
    | true =>
      rw [hc0] at hp
      simp only [cond_true] at hp
      simp only [Option.some.injEq] at hp
      subst hp
      rw [Bool.and_eq_true] at hc0
      exact ⟨l.length + 1, (f52_ev _ l z).trans (idx52_loop z (of_ble hc0.1) hc0.2 _ _ 0 (Nat.zero_le _) (Nat.lt_succ_self _))⟩
  · cases hp
theorem ctx6 : CtxOk C6 := fun _ _ h => tbl_ok (l := [(52, idx52S)]) ⟨idx52_ok, trivial⟩ h
theorem con39_T (l : List ChV) (z : Int) (h : (big l.length && l.all mvG) = true) : f39T l z = some ⟨[pB (l.any fun c => !rightV z c)], [vaI z], []⟩ := by
  unfold f39T
  rw [h, idx_any]; rfl
theorem con39_ok : FnOk P C0 39 con39S := by
  refine fn_okC ctx6 (show P.funcs[39]? = some f39f by kernel_rfl) (of_decide_eq_true (by kernel_rfl)) (con39S) f39h (fun ds os lf hp => ?_)
  unfold con39S at hp
  simp only at hp
  split at hp
  · rename_i l g z
    obtain ⟨rfl, hq⟩ := gN_pick hp; replace hp := hq
    simp only [Out.pick] at hp
    cases hc0 : (big l.length && l.all mvG) with
    | false => rw [hc0] at hp; cases hp
    | true =>
      rw [hc0] at hp
      simp only [cond_true] at hp
      simp only [Option.some.injEq] at hp
      subst hp
      exact ⟨0, (f39_ev 0 l z).trans (con39_T l z hc0)⟩
  · cases hp
end Go.S23
