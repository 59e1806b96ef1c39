/-
  Seat 18: the contracts of the functions that take closures.
-/
import Derived.Test.YtfkmnklnnccopaaDoorS18G2
import Derived.Test.YtfkmnklnnccopaaDoorS18T
open Go Go.En
namespace Go.S18
theorem gN_pick {a g : Nat} {o : Out} {lf : Lf} (h : (gN a g o).pick = some lf) : g = a ∧ o.pick = some lf := by
  unfold gN at h
  cases hc : g.beq a with
  | false => rw [hc] at h; cases h
  | true =>
    rw [hc] at h
    exact ⟨Nat.eq_of_beq_eq_true hc, h⟩
theorem idx_any {α : Type} (p : α → Bool) : ∀ (l : List α) (k : Nat), decide (idxG p k l ≥ 0) = l.any p
  | [], k => rfl
  | x :: l, k => by
    have ih := idx_any p l (k + 1)
    rw [List.any_cons]
    unfold idxG
    cases p x with
    | true => rw [cond_true, Bool.true_or, decide_eq_true_eq]; omega
    | false => rw [cond_false, Bool.false_or]; exact ih
theorem ctx2 : CtxOk C2 := fun _ _ h => tbl_ok (l := [(52, indexS)]) ⟨index_ok, trivial⟩ h
theorem contains_T (l : List Int) (x : Int) (h : big l.length = true) : f46T l x = some ⟨[pB (has l x)], [], []⟩ := by
  unfold f46T
  rw [h, idx_any]; rfl
theorem contains_ok : FnOk P C0 46 containsS := by
  refine fn_okC ctx2 (show P.funcs[46]? = some f46f by kernel_rfl) (of_decide_eq_true (by kernel_rfl)) (containsS) f46h (fun ds os lf hp => ?_)
  unfold containsS at hp
  simp only at hp
  split at hp
  · rename_i l x
    simp only [Out.pick] at hp
    cases hc0 : big l.length with
    | false => rw [hc0] at hp; cases hp
    | true =>
      rw [hc0] at hp
      simp only [cond_true] at hp
      simp only [Option.some.injEq] at hp
      subst hp
      exact ⟨0, (f46_ev 0 l x).trans (contains_T l x hc0)⟩
  · cases hp
theorem ctx3 : CtxOk C3 := fun _ _ h => tbl_ok (l := [(46, containsS)]) ⟨contains_ok, trivial⟩ h
theorem meet45_T (x : Int) (b : List Int) (h : big b.length = true) : f45T x b = some ⟨[pB (has b x)], [vaL b], []⟩ := by
  unfold f45T
  rw [h]; rfl
theorem meet45_ok : FnOk P C0 45 meet45S := by
  refine fn_okC ctx3 (show P.funcs[45]? = some f45f by kernel_rfl) (of_decide_eq_true (by kernel_rfl)) (meet45S) f45h (fun ds os lf hp => ?_)
  unfold meet45S at hp
  simp only at hp
  split at hp
  · rename_i x b
    simp only [Out.pick] at hp
    cases hc0 : big b.length with
    | false => rw [hc0] at hp; cases hp
    | true =>
      rw [hc0] at hp
      simp only [cond_true] at hp
      simp only [Option.some.injEq] at hp
      subst hp
      exact ⟨0, (f45_ev 0 x b).trans (meet45_T x b hc0)⟩
  · cases hp
theorem ctx4 : CtxOk C4 := fun _ _ h => tbl_ok (l := [(27, bad27S), (37, bad37S), (45, meet45S)]) ⟨bad27_ok, bad37_ok, meet45_ok, trivial⟩ h
theorem idx_loop_a {l : List Int} (z : Int) (hl : l.length ≤ 9223372036854775807)  : ∀ (m n k : Nat), k ≤ l.length → l.length - k < m → f40aL0 n m l (zn l.length) (k : Int) z = some ⟨[pI (idxG (nin z) k (l.drop k))], [vaI z], []⟩
  | 0, _, _, _, h => absurd h (Nat.not_lt_zero _)
  | m + 1, n, k, hk, hm => by
    show f40aS0 (f40aL0 n m) l (zn l.length) (k : Int) z = _
    unfold f40aS0
    by_cases h0 : k < l.length
    · rw [lt_k h0, inb_k h0, wr_k (by omega), Int.toNat_natCast, idx_loop_a z hl m n (k + 1) h0 (by omega), drop_get h0 0]
      show _ = some (Lf.mk [pI (bif nin z (l.getD k 0) then (k : Int) else idxG (nin z) (k + 1) (l.drop (k + 1)))] [vaI z] [])
      cases nin z (l.getD k 0) <;> rfl
    · rw [nlt_k h0, List.drop_eq_nil_of_le (by omega)]; rfl
theorem idx_loop_b {l : List Int} (b : List Int) (hl : l.length ≤ 9223372036854775807) (hb : big b.length = true) : ∀ (m n k : Nat), k ≤ l.length → l.length - k < m → f40bL0 n m l (zn l.length) (k : Int) b = some ⟨[pI (idxG (has b) k (l.drop k))], [vaL b], []⟩
  | 0, _, _, _, h => absurd h (Nat.not_lt_zero _)
  | m + 1, n, k, hk, hm => by
    show f40bS0 (f40bL0 n m) l (zn l.length) (k : Int) b = _
    unfold f40bS0
    by_cases h0 : k < l.length
    · rw [lt_k h0, inb_k h0, wr_k (by omega), Int.toNat_natCast, hb, idx_loop_b b hl hb m n (k + 1) h0 (by omega), drop_get h0 0]
      show _ = some (Lf.mk [pI (bif has b (l.getD k 0) then (k : Int) else idxG (has b) (k + 1) (l.drop (k + 1)))] [vaL b] [])
      cases has b (l.getD k 0) <;> rfl
    · rw [nlt_k h0, List.drop_eq_nil_of_le (by omega)]; rfl
theorem idx_loop_c {l : List Int} (p i : Int) (nx : List (List Int)) (ps : List PairV) (hl : l.length ≤ 9223372036854775807) (hb : decide (0 ≤ p) = true) : ∀ (m n k : Nat), k ≤ l.length → l.length - k < m → f40cL0 n m l (zn l.length) (k : Int) p i nx ps = some ⟨[pI (idxG (nin (shlF .i64 1 p)) k (l.drop k))], [vaD p i nx ps], []⟩
  | 0, _, _, _, h => absurd h (Nat.not_lt_zero _)
  | m + 1, n, k, hk, hm => by
    show f40cS0 (f40cL0 n m) l (zn l.length) (k : Int) p i nx ps = _
    unfold f40cS0
    by_cases h0 : k < l.length
    · rw [lt_k h0, inb_k h0, wr_k (by omega), Int.toNat_natCast, hb, idx_loop_c p i nx ps hl hb m n (k + 1) h0 (by omega), drop_get h0 0]
      show _ = some (Lf.mk [pI (bif nin (shlF .i64 1 p) (l.getD k 0) then (k : Int) else idxG (nin (shlF .i64 1 p)) (k + 1) (l.drop (k + 1)))] [vaD p i nx ps] [])
      cases nin (shlF .i64 1 p) (l.getD k 0) <;> rfl
    · rw [nlt_k h0, List.drop_eq_nil_of_le (by omega)]; rfl
theorem idx40_ok : FnOk P C0 40 idx40S := by
  refine fn_okC ctx4 (show P.funcs[40]? = some f40af by kernel_rfl) (of_decide_eq_true (by kernel_rfl)) (idx40S) f40ah (fun ds os lf hp => ?_)
  unfold idx40S at hp
  simp only at hp
  split at hp
  · rename_i l g n
    obtain ⟨rfl, hq⟩ := gN_pick hp; replace hp := hq
    simp only [Out.pick] at hp
    cases hc0 : big l.length with
    | false => rw [hc0] at hp; cases hp
    | true =>
      rw [hc0] at hp
      simp only [cond_true] at hp
      simp only [Option.some.injEq] at hp
      subst hp
      exact ⟨l.length + 1, (f40a_ev _ l n).trans (idx_loop_a n (of_ble hc0) _ _ 0 (Nat.zero_le _) (Nat.lt_succ_self _))⟩
  · rename_i l g b
    obtain ⟨rfl, hq⟩ := gN_pick hp; replace hp := hq
    simp only [Out.pick] at hp
    cases hc0 : (big l.length && big b.length) with
    | false => rw [hc0] at hp; cases hp
    | true =>
      rw [hc0] at hp
      simp only [cond_true] at hp
      simp only [Option.some.injEq] at hp
      subst hp
      rw [Bool.and_eq_true] at hc0
      exact ⟨l.length + 1, (f40b_ev _ l b).trans (idx_loop_b b (of_ble hc0.1) hc0.2 _ _ 0 (Nat.zero_le _) (Nat.lt_succ_self _))⟩
  · rename_i l g p i nx ps
    obtain ⟨rfl, hq⟩ := gN_pick hp; replace hp := hq
    simp only [Out.pick] at hp
    cases hc0 : (big l.length && decide ((0 : Int) ≤ p)) with
    | false => rw [hc0] at hp; cases hp
    | true =>
      rw [hc0] at hp
      simp only [cond_true] at hp
      simp only [Option.some.injEq] at hp
      subst hp
      rw [Bool.and_eq_true] at hc0
      exact ⟨l.length + 1, (f40c_ev _ l p i nx ps).trans (idx_loop_c p i nx ps (of_ble hc0.1) hc0.2 _ _ 0 (Nat.zero_le _) (Nat.lt_succ_self _))⟩
  · cases hp
theorem ctx5 : CtxOk C5 := fun _ _ h => tbl_ok (l := [(40, idx40S)]) ⟨idx40_ok, trivial⟩ h
theorem con_T_a (l : List Int) (z : Int) (h : big l.length = true) : f26aT l z = some ⟨[pB (l.any (nin z))], [vaI z], []⟩ := by
  unfold f26aT
  rw [h, idx_any]; rfl
theorem con_T_b (l : List Int) (b : List Int) (h : (big l.length && big b.length) = true) : f26bT l b = some ⟨[pB (l.any (has b))], [vaL b], []⟩ := by
  unfold f26bT
  rw [h, idx_any]; rfl
theorem con_T_c (l : List Int) (p i : Int) (nx : List (List Int)) (ps : List PairV) (h : (big l.length && decide (0 ≤ p)) = true) : f26cT l p i nx ps = some ⟨[pB (l.any (nin (shlF .i64 1 p)))], [vaD p i nx ps], []⟩ := by
  unfold f26cT
  rw [h, idx_any]; rfl
theorem con26_ok : FnOk P C0 26 con26S := by
  refine fn_okC ctx5 (show P.funcs[26]? = some f26af by kernel_rfl) (of_decide_eq_true (by kernel_rfl)) (con26S) f26ah (fun ds os lf hp => ?_)
  unfold con26S at hp
  simp only at hp
  split at hp
  · rename_i l g n
    obtain ⟨rfl, hq⟩ := gN_pick hp; replace hp := hq
    simp only [Out.pick] at hp
    cases hc0 : big l.length with
    | false => rw [hc0] at hp; cases hp
    | true =>
      rw [hc0] at hp
      simp only [cond_true] at hp
      simp only [Option.some.injEq] at hp
      subst hp
      exact ⟨0, (f26a_ev 0 l n).trans (con_T_a l n hc0)⟩
  · rename_i l g b
    obtain ⟨rfl, hq⟩ := gN_pick hp; replace hp := hq
    simp only [Out.pick] at hp
    cases hc0 : (big l.length && big b.length) with
    | false => rw [hc0] at hp; cases hp
    | true =>
      rw [hc0] at hp
      simp only [cond_true] at hp
      simp only [Option.some.injEq] at hp
      subst hp
      exact ⟨0, (f26b_ev 0 l b).trans (con_T_b l b hc0)⟩
  · rename_i l g p i nx ps
    obtain ⟨rfl, hq⟩ := gN_pick hp; replace hp := hq
    simp only [Out.pick] at hp
    cases hc0 : (big l.length && decide ((0 : Int) ≤ p)) with
    | false => rw [hc0] at hp; cases hp
    | true =>
      rw [hc0] at hp
      simp only [cond_true] at hp
      simp only [Option.some.injEq] at hp
      subst hp
      exact ⟨0, (f26c_ev 0 l p i nx ps).trans (con_T_c l p i nx ps hc0)⟩
  · cases hp
theorem ctx6 : CtxOk C6 := fun _ _ h => tbl_ok (l := [(26, con26S)]) ⟨con26_ok, trivial⟩ h
theorem meets_T (a b : List Int) (h : (big a.length && big b.length) = true) : f34T a b = some ⟨[pB (a.any (has b))], [], []⟩ := by
  unfold f34T
  rw [h]; rfl
theorem meets_ok : FnOk P C0 34 meetsS := by
  refine fn_okC ctx6 (show P.funcs[34]? = some f34f by kernel_rfl) (of_decide_eq_true (by kernel_rfl)) (meetsS) f34h (fun ds os lf hp => ?_)
  unfold meetsS at hp
  simp only at hp
  split at hp
  · rename_i a b
    simp only [Out.pick] at hp
    cases hc0 : (big a.length && big b.length) with
    | false => rw [hc0] at hp; cases hp
    | true =>
      rw [hc0] at hp
      simp only [cond_true] at hp
      simp only [Option.some.injEq] at hp
      subst hp
      exact ⟨0, (f34_ev 0 a b).trans (meets_T a b hc0)⟩
  · cases hp
theorem ctx7 : CtxOk C7 := fun _ _ h => tbl_ok (l := [(34, meetsS)]) ⟨meets_ok, trivial⟩ h
theorem good33_T (a b l : List Int) (h : (big a.length && (big b.length && big l.length)) = true) : f33T a b l = some ⟨[pB (goodB l (a, b, ()))], [vaL l], []⟩ := by
  rw [Bool.and_eq_true, Bool.and_eq_true] at h
  unfold f33T goodB
  rw [h.1, h.2.1, h.2.2]
  cases a.any (has l) <;> rfl
theorem good33_ok : FnOk P C0 33 good33S := by
  refine fn_okC ctx7 (show P.funcs[33]? = some f33f by kernel_rfl) (of_decide_eq_true (by kernel_rfl)) (good33S) f33h (fun ds os lf hp => ?_)
  unfold good33S at hp
  simp only at hp
  split at hp
  · rename_i a b l
    simp only [Out.pick] at hp
    cases hc0 : (big a.length && (big b.length && big l.length)) with
    | false => rw [hc0] at hp; cases hp
    | true =>
      rw [hc0] at hp
      simp only [cond_true] at hp
      simp only [Option.some.injEq] at hp
      subst hp
      exact ⟨0, (f33_ev 0 a b l).trans (good33_T a b l hc0)⟩
  · cases hp
theorem ctx8 : CtxOk C8 := fun _ _ h => tbl_ok (l := [(33, good33S)]) ⟨good33_ok, trivial⟩ h
theorem idx32_loop {ps : List PairV} {l : List Int} (hp : ps.length ≤ 9223372036854775807) (hps : ps.all pairG = true) (hl : big l.length = true) : ∀ (m n k : Nat), k ≤ ps.length → ps.length - k < m → f32L0 n m ps (zn ps.length) (k : Int) l = some ⟨[pI (idxG (goodB l) k (ps.drop k))], [vaL l], []⟩
  | 0, _, _, _, h => absurd h (Nat.not_lt_zero _)
  | m + 1, n, k, hk, hm => by
    show f32S0 (f32L0 n m) ps (zn ps.length) (k : Int) l = _
    unfold f32S0
    by_cases h0 : k < ps.length
    · have hg := List.all_eq_true.1 hps _ (get_mem h0 ([], [], ()))
      unfold pairG at hg
      rw [Bool.and_eq_true] at hg
      rw [lt_k h0, inb_k h0, wr_k (by omega), Int.toNat_natCast, idx32_loop hp hps hl m n (k + 1) h0 (by omega), drop_get h0 ([], [], ())]
      show (bif true then bif true then bif big (ps.getD k ([], [], ())).1.length && (big (ps.getD k ([], [], ())).2.1.length && big l.length) then bif goodB l (ps.getD k ([], [], ())) then _ else _ else _ else _ else _) = some (Lf.mk [pI (bif goodB l (ps.getD k ([], [], ())) then (k : Int) else idxG (goodB l) (k + 1) (ps.drop (k + 1)))] [vaL l] [])
      rw [hg.1, hg.2, hl]
      cases goodB l (ps.getD k ([], [], ())) <;> rfl
    · rw [nlt_k h0, List.drop_eq_nil_of_le (by omega)]; rfl
theorem idx32_ok : FnOk P C0 32 idx32S := by
  refine fn_okC ctx8 (show P.funcs[32]? = some f32f by kernel_rfl) (of_decide_eq_true (by kernel_rfl)) (idx32S) f32h (fun ds os lf hp => ?_)
  unfold idx32S at hp
  simp only at hp
  split at hp
  · rename_i ps g l
    obtain ⟨rfl, hq⟩ := gN_pick hp; replace hp := hq
    simp only [Out.pick] at hp
    cases hc0 : (big ps.length && (ps.all pairG && big l.length)) with
    | false => rw [hc0] at hp; cases hp
    | true =>
      rw [hc0] at hp
      simp only [cond_true] at hp
      simp only [Option.some.injEq] at hp
      subst hp
      rw [Bool.and_eq_true, Bool.and_eq_true] at hc0
      exact ⟨ps.length + 1, (f32_ev _ ps l).trans (idx32_loop (of_ble hc0.1) hc0.2.1 hc0.2.2 _ _ 0 (Nat.zero_le _) (Nat.lt_succ_self _))⟩
  · cases hp
end Go.S18
