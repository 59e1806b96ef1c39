/-
  Seat 11: the contracts of the functions of processes.
-/
import Derived.Test.YtoghhokbakphlaaDoorS11G1
import Derived.Test.YtoghhokbakphlaaDoorAs11b
import Derived.Laws.StructEq
open Go Go.En Go.RowKit Go.Lib
namespace Go.S11
theorem ctx1 : CtxOk C1 := fun _ _ h => by cases h
theorem in_yes {n i : Int} (h : 0 ≤ i ∧ i < n) : inF n i = true := by unfold inF; rw [Bool.and_eq_true, decide_eq_true_eq, decide_eq_true_eq]; exact h
theorem in_no {n i : Int} (h : ¬ (0 ≤ i ∧ i < n)) : inF n i = false := by
  cases h2 : inF n i with
  | false => rfl
  | true => unfold inF at h2; rw [Bool.and_eq_true, decide_eq_true_eq, decide_eq_true_eq] at h2; exact absurd h2 h
theorem not_in {n i : Int} : (decide (i < 0) || decide (i ≥ n)) = !inF n i := by
  by_cases h : 0 ≤ i ∧ i < n
  · rw [in_yes h, decide_eq_false (show ¬ i < 0 by omega), decide_eq_false (show ¬ i ≥ n by omega)]; rfl
  · rw [in_no h]
    by_cases h1 : i < 0
    · rw [decide_eq_true h1]; rfl
    · rw [decide_eq_true (show i ≥ n by omega), Bool.or_true]; rfl
theorem mrises_loop {l : List Int} (z : Int) (hl : l.length ≤ 9223372036854775807) : ∀ (m n k : Nat) (a : Int), k ≤ l.length → l.length - k < m → f38L0 n m z a l (zn l.length) (k : Int) = some ⟨[pB (riseF z a (l.drop k))], [], []⟩
  | 0, _, _, _, _, h => absurd h (Nat.not_lt_zero _)
  | m + 1, n, k, a, hk, hm => by
    show f38S0 (f38L0 n m) z a l (zn l.length) (k : Int) = _
    unfold f38S0
    by_cases h0 : k < l.length
    · rw [lt_k h0, inb_k h0, wr_k (by omega), Int.toNat_natCast, mrises_loop z hl m n (k + 1) _ h0 (by omega), drop_get h0 0]
      show _ = some (Lf.mk [pB (!(decide (l.getD k 0 ≤ a) || decide (l.getD k 0 ≥ z)) && riseF z (l.getD k 0) (l.drop (k + 1)))] [] [])
      cases (decide (l.getD k 0 ≤ a) || decide (l.getD k 0 ≥ z)) <;> rfl
    · rw [nlt_k h0, List.drop_eq_nil_of_le (by omega)]; rfl
theorem mrises_ok : FnOk P C0 23 risesS := by
  refine fn_okC ctx1 (show P.funcs[23]? = some f38f by kernel_rfl) (of_decide_eq_true (by kernel_rfl)) (risesS) f38h (fun ds os lf hp => ?_)
  unfold risesS at hp
  simp only at hp
  split at hp
  · rename_i l n
    simp only [Out.pick] at hp
    cases hc0 : big l.length with
    | false => rw [hc0] at hp; cases hp
    | true =>
      rw [hc0] at hp
      simp only [cond_true] at hp
      simp only [Option.some.injEq] at hp
      subst hp
      exact ⟨l.length + 1, (f38_ev _ l n).trans (mrises_loop n (of_ble hc0) _ _ 0 _ (Nat.zero_le _) (Nat.lt_succ_self _))⟩
  · cases hp
theorem differ_loop (x : List ByteArray) {l : List ByteArray} (hl : l.length ≤ 9223372036854775807) : ∀ (m n k : Nat) (s : List (ByteArray × Bool)), k ≤ l.length → l.length - k < m →
    f37L0 n m x l (zn l.length) (k : Int) s = some ⟨[pB (zn ((l.drop k).foldl putK s).length == zn x.length)], [], []⟩
  | 0, _, _, _, _, h => absurd h (Nat.not_lt_zero _)
  | m + 1, n, k, s, hk, hm => by
    show f37S0 (f37L0 n m) x l (zn l.length) (k : Int) s = _
    unfold f37S0
    by_cases h0 : k < l.length
    · rw [lt_k h0, inb_k h0, wr_k (by omega), Int.toNat_natCast, differ_loop x hl m n (k + 1) _ h0 (by omega), drop_get h0 ByteArray.empty]; rfl
    · rw [nlt_k h0, List.drop_eq_nil_of_le (by omega)]; rfl
theorem differ_ok : FnOk P C0 22 differS := by
  refine fn_okC ctx1 (show P.funcs[22]? = some f37f by kernel_rfl) (of_decide_eq_true (by kernel_rfl)) (differS) f37h (fun ds os lf hp => ?_)
  unfold differS at hp
  simp only at hp
  split at hp
  · rename_i l
    simp only [Out.pick] at hp
    cases hc0 : big l.length with
    | false => rw [hc0] at hp; cases hp
    | true =>
      rw [hc0] at hp
      simp only [cond_true] at hp
      simp only [Option.some.injEq] at hp
      subst hp
      exact ⟨l.length + 1, (f37_ev _ l).trans (differ_loop l (of_ble hc0) _ _ 0 [] (Nat.zero_le _) (Nat.lt_succ_self _))⟩
  · cases hp
theorem optrec (o : Option (Val Sh.b)) : (Option.rec (motive := fun _ => Bool) false (fun val => val) o) = o.getD false := by cases o <;> rfl
theorem right41_loop (z : Int) (a : ByteArray) (x : List MvV) {l : List MvV} (hl : l.length ≤ 9223372036854775807) : ∀ (m n k : Nat) (s : List (Int × Bool)), k ≤ l.length → l.length - k < m →
    f41L0 n m z l (zn l.length) (k : Int) a x s = some ⟨[pB (rightF z s (l.drop k) && decide (zn x.length > 0))], [], []⟩
  | 0, _, _, _, _, h => absurd h (Nat.not_lt_zero _)
  | m + 1, n, k, s, hk, hm => by
    show f41S0 (f41L0 n m) z l (zn l.length) (k : Int) a x s = _
    unfold f41S0
    rw [optrec]
    by_cases h0 : k < l.length
    · rw [lt_k h0, inb_k h0, wr_k (by omega), Int.toNat_natCast, right41_loop z a x hl m n (k + 1) _ h0 (by omega), drop_get h0 (0, 0, ())]
      show (bif true then bif true then bif true && (decide ((l.getD k (0, 0, ())).1 < 0) || (true && (decide ((l.getD k (0, 0, ())).1 ≥ z) || (true && (decide ((l.getD k (0, 0, ())).2.1 < 1) || true))))) then bif badV z (l.getD k (0, 0, ())) s then _ else _ else _ else _ else _) = some (Lf.mk [pB ((!(badV z (l.getD k (0, 0, ())) s) && rightF z (putI s (l.getD k (0, 0, ())).1) (l.drop (k + 1))) && decide (zn x.length > 0))] [] [])
      cases decide ((l.getD k (0, 0, ())).1 < 0) <;> cases decide ((l.getD k (0, 0, ())).1 ≥ z) <;> cases decide ((l.getD k (0, 0, ())).2.1 < 1) <;> cases badV z (l.getD k (0, 0, ())) s <;> rfl
    · rw [nlt_k h0, List.drop_eq_nil_of_le (by omega)]; rfl
theorem right41_ok : FnOk P C0 26 right41S := by
  refine fn_okC ctx1 (show P.funcs[26]? = some f41f by kernel_rfl) (of_decide_eq_true (by kernel_rfl)) (right41S) f41h (fun ds os lf hp => ?_)
  unfold right41S at hp
  simp only at hp
  split at hp
  · rename_i a mv z
    simp only [Out.pick] at hp
    cases hc0 : big mv.length with
    | false => rw [hc0] at hp; cases hp
    | true =>
      rw [hc0] at hp
      simp only [cond_true] at hp
      simp only [Option.some.injEq] at hp
      subst hp
      exact ⟨mv.length + 1, (f41_ev _ a mv z).trans (right41_loop z a mv (of_ble hc0) _ _ 0 [] (Nat.zero_le _) (Nat.lt_succ_self _))⟩
  · cases hp
theorem farM_loop2 (i : Int) (ch : List (List ChV)) (nm : List ByteArray) {ho : List (List Int)} (hl : ho.length ≤ 40) : ∀ (m n k : Nat), k ≤ ho.length → ho.length - k < m → f9L2 n m (k : Int) i ch nm ho = some ⟨[pB ((ho.drop k).any fun l => decide (zn l.length > 20))], [], []⟩
  | 0, _, _, _, h => absurd h (Nat.not_lt_zero _)
  | m + 1, n, k, hk, hm => by
    show f9S2 (f9L2 n m) (k : Int) i ch nm ho = _
    unfold f9S2
    by_cases h0 : k < ho.length
    · rw [lt_k h0, inb_k h0, wr_k (by omega), Int.toNat_natCast, farM_loop2 i ch nm hl m n (k + 1) h0 (by omega), drop_get h0 [], List.any_cons]
      cases decide (zn (ho.getD k []).length > 20) <;> rfl
    · rw [nlt_k h0, List.drop_eq_nil_of_le (by omega)]; rfl
theorem farM_loop1 (i : Int) {ch : List (List ChV)} (nm : List ByteArray) (ho : List (List Int)) (g : f9G0) {k : Nat} (h0 : k < ch.length) (hl : (ch.getD k []).length ≤ 10) : ∀ (m n j : Nat), j ≤ (ch.getD k []).length → (ch.getD k []).length - j < m →
    f9L1 n g m (k : Int) (j : Int) i ch nm ho = bif ((ch.getD k []).drop j).any (fun c => decide (zn c.2.1.length > 20)) then some ⟨[pB true], [], []⟩ else g (IntKind.i64.wrap ((k : Int) + 1)) i ch nm ho
  | 0, _, _, _, h => absurd h (Nat.not_lt_zero _)
  | m + 1, n, j, hj, hm => by
    show f9S1 g (f9L1 n g m) (k : Int) (j : Int) i ch nm ho = _
    unfold f9S1
    rw [inb_k h0, Int.toNat_natCast]
    by_cases h1 : j < (ch.getD k []).length
    · rw [lt_k h1, inb_k h1, wr_k (k := j) (by omega), Int.toNat_natCast, farM_loop1 i nm ho g h0 hl m n (j + 1) h1 (by omega), drop_get h1 (ByteArray.empty, [], ()), List.any_cons]
      show (bif true then bif true then bif true then bif true then bif decide (zn ((ch.getD k []).getD j (ByteArray.empty, [], ())).2.1.length > 20) then _ else _ else _ else _ else _ else _) = _
      cases decide (zn ((ch.getD k []).getD j (ByteArray.empty, [], ())).2.1.length > 20) <;> rfl
    · rw [nlt_k h1, List.drop_eq_nil_of_le (by omega)]; rfl
theorem farM_loop0 (i : Int) {ch : List (List ChV)} (nm : List ByteArray) {ho : List (List Int)} (hl : ch.length ≤ 40) (hh : ho.length ≤ 40) : ∀ (m k : Nat), k ≤ ch.length → ch.length - k < m →
    f9L0 41 m (k : Int) i ch nm ho = some ⟨[pB ((ch.drop k).any farCh || ho.any fun l => decide (zn l.length > 20))], [], []⟩
  | 0, _, _, h => absurd h (Nat.not_lt_zero _)
  | m + 1, k, hk, hm => by
    show f9S0 (f9L1 41 (f9L0 41 m) 41) (f9L2 41 41) (f9L0 41 m) (k : Int) i ch nm ho = _
    unfold f9S0
    by_cases h0 : k < ch.length
    · rw [lt_k h0, inb_k h0, Int.toNat_natCast, drop_get h0 [], List.any_cons]
      by_cases h2 : (ch.getD k []).length ≤ 10
      · have r1 := farM_loop1 i nm ho (f9L0 41 m) h0 h2 41 41 0 (Nat.zero_le _) (by omega)
        rw [wr_k (by omega), farM_loop0 i nm hl hh m (k + 1) h0 (by omega), List.drop_zero] at r1
        have e : farCh (ch.getD k []) = (ch.getD k []).any fun c => decide (zn c.2.1.length > 20) := by
          unfold farCh; rw [decide_eq_false (show ¬ zn (ch.getD k []).length > 10 by simp only [zn]; omega)]; rfl
        rw [decide_eq_false (show ¬ zn (ch.getD k []).length > 10 by simp only [zn]; omega), e]
        refine Eq.trans (b := f9L1 41 (f9L0 41 m) 41 (k : Int) ((0 : Nat) : Int) i ch nm ho) rfl (r1.trans ?_)
        cases (ch.getD k []).any fun c => decide (zn c.2.1.length > 20) <;> rfl
      · have e : farCh (ch.getD k []) = true := by
          unfold farCh; rw [decide_eq_true (show zn (ch.getD k []).length > 10 by simp only [zn]; omega)]; rfl
        rw [decide_eq_true (show zn (ch.getD k []).length > 10 by simp only [zn]; omega), e]; rfl
    · rw [nlt_k h0, List.drop_eq_nil_of_le (by omega)]
      exact farM_loop2 i ch nm hh 41 41 0 (Nat.zero_le _) (by omega)
theorem farM_T (i : Int) (ch : List (List ChV)) (nm : List ByteArray) (ho : List (List Int)) : f9M 41 i ch nm ho = some ⟨[pB (farM ch nm ho)], [], []⟩ := by
  unfold f9M f9T farM
  by_cases h : ch.length ≤ 40
  · rw [decide_eq_false (show ¬ zn ch.length > 40 by simp only [zn]; omega)]
    by_cases h' : ho.length ≤ 40
    · rw [decide_eq_false (show ¬ zn ho.length > 40 by simp only [zn]; omega), show (0 : Int) = ((0 : Nat) : Int) from rfl, farM_loop0 i nm h h' 41 0 (Nat.zero_le _) (by omega)]
      cases decide (zn nm.length > 12) <;> rfl
    · rw [decide_eq_true (show zn ho.length > 40 by simp only [zn]; omega)]; rfl
  · rw [decide_eq_true (show zn ch.length > 40 by simp only [zn]; omega)]; rfl
theorem farM_ok : FnOk P C0 7 farMS := by
  refine fn_okC ctx1 (show P.funcs[7]? = some f9f by kernel_rfl) (of_decide_eq_true (by kernel_rfl)) (farMS) f9h (fun ds os lf hp => ?_)
  unfold farMS at hp
  simp only at hp
  split at hp
  · rename_i i ch nm ho
    simp only [Out.pick, Option.some.injEq] at hp
    subst hp
    exact ⟨41, (f9_ev 41 i ch nm ho).trans (farM_T i ch nm ho)⟩
  · cases hp
theorem gN_pick {a g : Nat} {o : Out} {lf : Lf} (h : (gN a g o).pick = some lf) : g = a ∧ o.pick = some lf := by
  unfold gN at h
  cases hc : g.beq a with
  | false => rw [hc] at h; cases h
  | true =>
    rw [hc] at h
    exact ⟨Nat.eq_of_beq_eq_true hc, h⟩
theorem idx_any {α : Type} (p : α → Bool) : ∀ (l : List α) (k : Nat), decide (idxG p k l ≥ 0) = l.any p
  | [], k => rfl
  | x :: l, k => by
    have ih := idx_any p l (k + 1)
    rw [List.any_cons]
    unfold idxG
    cases p x with
    | true => rw [cond_true, Bool.true_or, decide_eq_true_eq]; omega
    | false => rw [cond_false, Bool.false_or]; exact ih
theorem ctx4 : CtxOk C4 := fun _ _ h => tbl_ok (l := [(26, right41S)]) ⟨right41_ok, trivial⟩ h
theorem right40_T (a : ByteArray) (mv : List MvV) (z : Int) (h : big mv.length = true) : f40T a mv z = some ⟨[pB (!rightV z (a, mv, ()))], [vaI z], []⟩ := by
  unfold f40T
  rw [h]; rfl
theorem right40_ok : FnOk P C0 25 right40S := by
  refine fn_okC ctx4 (show P.funcs[25]? = some f40f by kernel_rfl) (of_decide_eq_true (by kernel_rfl)) (right40S) f40h (fun ds os lf hp => ?_)
  unfold right40S at hp
  simp only at hp
  split at hp
  · rename_i a mv z
    simp only [Out.pick] at hp
    cases hc0 : big mv.length with
    | false => rw [hc0] at hp; cases hp
    | true =>
      rw [hc0] at hp
      simp only [cond_true] at hp
      simp only [Option.some.injEq] at hp
      subst hp
      exact ⟨0, (f40_ev 0 a mv z).trans (right40_T a mv z hc0)⟩
  · cases hp
theorem ctx5 : CtxOk C5 := fun _ _ h => tbl_ok (l := [(25, right40S)]) ⟨right40_ok, trivial⟩ h
theorem idx52_loop {l : List ChV} (z : Int) (hl : l.length ≤ 9223372036854775807) (hg : l.all mvG = true) : ∀ (m n k : Nat), k ≤ l.length → l.length - k < m → f52L0 n m l (zn l.length) (k : Int) z = some ⟨[pI (idxG (fun c => !rightV z c) k (l.drop k))], [vaI z], []⟩
  | 0, _, _, _, h => absurd h (Nat.not_lt_zero _)
  | m + 1, n, k, hk, hm => by
    show f52S0 (f52L0 n m) l (zn l.length) (k : Int) z = _
    unfold f52S0
    by_cases h0 : k < l.length
    · have hb : big (l.getD k (ByteArray.empty, [], ())).2.1.length = true := List.all_eq_true.1 hg _ (get_mem h0 (ByteArray.empty, [], ()))
      rw [lt_k h0, inb_k h0, wr_k (by omega), Int.toNat_natCast, idx52_loop z hl hg m n (k + 1) h0 (by omega), drop_get h0 (ByteArray.empty, [], ())]
      show (bif true then bif true then bif big (l.getD k (ByteArray.empty, [], ())).2.1.length then bif !rightV z (l.getD k (ByteArray.empty, [], ())) then _ else _ else _ else _ else _) = some (Lf.mk [pI (bif !rightV z (l.getD k (ByteArray.empty, [], ())) then (k : Int) else idxG (fun c => !rightV z c) (k + 1) (l.drop (k + 1)))] [vaI z] [])
      rw [hb]
      cases rightV z (l.getD k (ByteArray.empty, [], ())) <;> rfl
    · rw [nlt_k h0, List.drop_eq_nil_of_le (by omega)]; rfl
theorem idx52_ok : FnOk P C0 39 idx52S := by
  refine fn_okC ctx5 (show P.funcs[39]? = some f52f by kernel_rfl) (of_decide_eq_true (by kernel_rfl)) (idx52S) f52h (fun ds os lf hp => ?_)
  unfold idx52S at hp
  simp only at hp
  split at hp
  · rename_i l g z
    obtain ⟨rfl, hq⟩ := gN_pick hp; replace hp := hq
    simp only [Out.pick] at hp
    cases hc0 : (big l.length && l.all mvG) with
    | false => rw [hc0] at hp; cases hp
    | true =>
      rw [hc0] at hp
      simp only [cond_true] at hp
      simp only [Option.some.injEq] at hp
      subst hp
      rw [Bool.and_eq_true] at hc0
      exact ⟨l.length + 1, (f52_ev _ l z).trans (idx52_loop z (of_ble hc0.1) hc0.2 _ _ 0 (Nat.zero_le _) (Nat.lt_succ_self _))⟩
  · cases hp
theorem ctx6 : CtxOk C6 := fun _ _ h => tbl_ok (l := [(39, idx52S)]) ⟨idx52_ok, trivial⟩ h
theorem con39_T (l : List ChV) (z : Int) (h : (big l.length && l.all mvG) = true) : f39T l z = some ⟨[pB (l.any fun c => !rightV z c)], [vaI z], []⟩ := by
  unfold f39T
  rw [h, idx_any]; rfl
theorem con39_ok : FnOk P C0 24 con39S := by
  refine fn_okC ctx6 (show P.funcs[24]? = some f39f by kernel_rfl) (of_decide_eq_true (by kernel_rfl)) (con39S) f39h (fun ds os lf hp => ?_)
  unfold con39S at hp
  simp only at hp
  split at hp
  · rename_i l g z
    obtain ⟨rfl, hq⟩ := gN_pick hp; replace hp := hq
    simp only [Out.pick] at hp
    cases hc0 : (big l.length && l.all mvG) with
    | false => rw [hc0] at hp; cases hp
    | true =>
      rw [hc0] at hp
      simp only [cond_true] at hp
      simp only [Option.some.injEq] at hp
      subst hp
      exact ⟨0, (f39_ev 0 l z).trans (con39_T l z hc0)⟩
  · cases hp
def maxL {α : Type} (f : α → Nat) (l : List α) : Nat := l.foldr (fun x a => f x + a) 0
theorem le_maxL {α : Type} (f : α → Nat) : ∀ {l : List α} {x : α}, x ∈ l → f x ≤ maxL f l
  | y :: l, x, h => by
    show f x ≤ f y + maxL f l
    rcases List.mem_cons.1 h with rfl | h
    · omega
    · have := le_maxL f h; omega
theorem take_get {α : Type} {l : List α} {k j : Nat} (h : j < k) (d : α) : (l.take k).getD j d = l.getD j d := by
  rw [List.getD_eq_getElem?_getD, List.getD_eq_getElem?_getD, List.getElem?_take, if_pos h]
theorem take_len {α : Type} {l : List α} {k : Nat} (h : k ≤ l.length) : (l.take k).length = k := by rw [List.length_take]; omega
section
variable (i : Int) (ch : List (List ChV)) (nm : List ByteArray) (ho : List (List Int))
/-! ### names -/
theorem rm_loop1 (g : f32G0) (N : Int) {k : Nat} (h0 : k < nm.length) (hl : nm.length ≤ 9223372036854775807) : ∀ (m n j : Nat), j ≤ k → k - j < m →
    f32L1 n g m N (k : Int) (j : Int) i ch nm ho = bif ((nm.take k).drop j).any (fun y => (nm.getD k ByteArray.empty).toList == y.toList) then some ⟨[pB false], [], []⟩ else g N (IntKind.i64.wrap ((k : Int) + 1)) i ch nm ho
  | 0, _, _, _, h => absurd h (Nat.not_lt_zero _)
  | m + 1, n, j, hj, hm => by
    show f32S1 g (f32L1 n g m) N (k : Int) (j : Int) i ch nm ho = _
    unfold f32S1
    have hkl := take_len (Nat.le_of_lt h0)
    by_cases h1 : j < k
    · have h2 : j < (nm.take k).length := by omega
      have e1 : decide ((j : Int) < (k : Int)) = true := by rw [decide_eq_true_eq]; omega
      rw [e1, inb_k h0, inb_k (show j < nm.length by omega), wr_k (k := j) (by omega), Int.toNat_natCast, Int.toNat_natCast, rm_loop1 g N h0 hl m n (j + 1) h1 (by omega), drop_get h2 ByteArray.empty, List.any_cons, take_get h1]
      show (bif true then bif true then bif true then bif (nm.getD k ByteArray.empty).toList == (nm.getD j ByteArray.empty).toList then _ else _ else _ else _ else _) = _
      cases ((nm.getD k ByteArray.empty).toList == (nm.getD j ByteArray.empty).toList) <;> rfl
    · have e1 : decide ((j : Int) < (k : Int)) = false := by rw [decide_eq_false_iff_not]; omega
      rw [e1, List.drop_eq_nil_of_le (by omega)]; rfl
theorem rm_loop0 (N : Int) (hl : nm.length ≤ 9223372036854775807) {n : Nat} (hn : nm.length < n) : ∀ (m k : Nat), k ≤ nm.length → nm.length - k < m →
    f32L0 n m N (k : Int) i ch nm ho = bif freshD (nm.take k) (nm.drop k) then f32L2 n n N 0 i ch nm ho else some ⟨[pB false], [], []⟩
  | 0, _, _, h => absurd h (Nat.not_lt_zero _)
  | m + 1, k, hk, hm => by
    show f32S0 (f32L1 n (f32L0 n m) n) (f32L2 n n) (f32L0 n m) N (k : Int) i ch nm ho = _
    unfold f32S0
    by_cases h0 : k < nm.length
    · have r1 := rm_loop1 i ch nm ho (f32L0 n m) N h0 hl n n 0 (Nat.zero_le _) (by omega)
      rw [wr_k (by omega), rm_loop0 N hl hn m (k + 1) h0 (by omega), List.drop_zero] at r1
      rw [lt_k h0, drop_get h0 ByteArray.empty]
      refine Eq.trans (b := f32L1 n (f32L0 n m) n N (k : Int) ((0 : Nat) : Int) i ch nm ho) rfl (r1.trans ?_)
      rw [take_succ_get h0 ByteArray.empty]
      show _ = bif !((nm.take k).any fun y => (nm.getD k ByteArray.empty).toList == y.toList) && freshD (nm.take k ++ [nm.getD k ByteArray.empty]) (nm.drop (k + 1)) then _ else _
      cases (nm.take k).any fun y => (nm.getD k ByteArray.empty).toList == y.toList <;> rfl
    · rw [nlt_k h0, List.drop_eq_nil_of_le (by omega)]; rfl
/-! ### moves -/
theorem rm_loop6 (g2 : f32G2) (g4 : f32G4) (g5 : f32G5) (N s c : Int) (mv : List MvV) {k : Nat} (h0 : k < mv.length) (hl : mv.length ≤ 9223372036854775807) : ∀ (m n j : Nat), j ≤ k → k - j < m →
    f32L6 n g2 g4 g5 m N s c mv (k : Int) (j : Int) i ch nm ho = bif ((mv.take k).drop j).any (fun y => y.1 == (mv.getD k (0, 0, ())).1) then some ⟨[pB false], [], []⟩ else g5 N s c mv (IntKind.i64.wrap ((k : Int) + 1)) i ch nm ho
  | 0, _, _, _, h => absurd h (Nat.not_lt_zero _)
  | m + 1, n, j, hj, hm => by
    show f32S6 g2 g4 g5 (f32L6 n g2 g4 g5 m) N s c mv (k : Int) (j : Int) i ch nm ho = _
    unfold f32S6
    have hkl := take_len (Nat.le_of_lt h0)
    by_cases h1 : j < k
    · have h2 : j < (mv.take k).length := by omega
      have e1 : decide ((j : Int) < (k : Int)) = true := by rw [decide_eq_true_eq]; omega
      rw [e1, inb_k h0, inb_k (show j < mv.length by omega), wr_k (k := j) (by omega), Int.toNat_natCast, Int.toNat_natCast, rm_loop6 g2 g4 g5 N s c mv h0 hl m n (j + 1) h1 (by omega), drop_get h2 (0, 0, ()), List.any_cons, take_get h1]
      show (bif true then bif true then bif true then bif (mv.getD j (0, 0, ())).1 == (mv.getD k (0, 0, ())).1 then _ else _ else _ else _ else _) = _
      cases ((mv.getD j (0, 0, ())).1 == (mv.getD k (0, 0, ())).1) <;> rfl
    · have e1 : decide ((j : Int) < (k : Int)) = false := by rw [decide_eq_false_iff_not]; omega
      rw [e1, List.drop_eq_nil_of_le (by omega)]; rfl
theorem rm_loop5 (g2 : f32G2) (g4 : f32G4) (N s : Int) (c : Nat) (hc : c ≤ 9223372036854775806) (mv : List MvV) (hl : mv.length ≤ 9223372036854775807) {n : Nat} (hn : mv.length < n) : ∀ (m k : Nat), k ≤ mv.length → mv.length - k < m →
    f32L5 n g2 g4 m N s (c : Int) mv (k : Int) i ch nm ho = bif mvF N (mv.take k) (mv.drop k) then g4 N s ((c + 1 : Nat) : Int) i ch nm ho else some ⟨[pB false], [], []⟩
  | 0, _, _, h => absurd h (Nat.not_lt_zero _)
  | m + 1, k, hk, hm => by
    show f32S5 (f32L6 n g2 g4 (f32L5 n g2 g4 m) n) g2 g4 (f32L5 n g2 g4 m) N s (c : Int) mv (k : Int) i ch nm ho = _
    unfold f32S5
    by_cases h0 : k < mv.length
    · have r1 := rm_loop6 i ch nm ho g2 g4 (f32L5 n g2 g4 m) N s c mv h0 hl n n 0 (Nat.zero_le _) (by omega)
      rw [wr_k (by omega), rm_loop5 g2 g4 N s c hc mv hl hn m (k + 1) h0 (by omega), List.drop_zero] at r1
      rw [lt_k h0, inb_k h0, Int.toNat_natCast, drop_get h0 (0, 0, ())]
      have r2 : f32L6 n g2 g4 (f32L5 n g2 g4 m) n N s (c : Int) mv (k : Int) 0 i ch nm ho = _ := r1
      rw [r2, take_succ_get h0 (0, 0, ())]
      show (bif true then bif true && (true && (true && (decide ((mv.getD k (0, 0, ())).1 < 0) || (true && (true && (true && (decide ((mv.getD k (0, 0, ())).1 ≥ N) || (true && (true && true))))))))) then bif decide ((mv.getD k (0, 0, ())).1 < 0) || (decide ((mv.getD k (0, 0, ())).1 ≥ N) || decide ((mv.getD k (0, 0, ())).2.1 < 1)) then _ else _ else _ else _) = bif !(decide ((mv.getD k (0, 0, ())).1 < 0) || (decide ((mv.getD k (0, 0, ())).1 ≥ N) || decide ((mv.getD k (0, 0, ())).2.1 < 1))) && (!((mv.take k).any fun y => y.1 == (mv.getD k (0, 0, ())).1) && mvF N (mv.take k ++ [mv.getD k (0, 0, ())]) (mv.drop (k + 1))) then _ else _
      cases decide ((mv.getD k (0, 0, ())).1 < 0) <;> cases decide ((mv.getD k (0, 0, ())).1 ≥ N) <;> cases decide ((mv.getD k (0, 0, ())).2.1 < 1) <;> cases (mv.take k).any (fun y => y.1 == (mv.getD k (0, 0, ())).1) <;> rfl
    · rw [nlt_k h0, List.drop_eq_nil_of_le (by omega), wr_k hc]; rfl
/-! ### choices -/
theorem rm_loop4 (g2 : f32G2) (N : Int) {s : Nat} (hs : s < ch.length) (hsl : s ≤ 9223372036854775806) (hg : chG (ch.getD s []) = true) {n : Nat} (hn : (ch.getD s []).length < n) (hn2 : ∀ c ∈ ch.getD s [], c.2.1.length < n) : ∀ (m c : Nat), c ≤ (ch.getD s []).length → (ch.getD s []).length - c < m →
    f32L4 n g2 m N (s : Int) (c : Int) i ch nm ho = bif ((ch.getD s []).drop c).all (okC N) then g2 N ((s + 1 : Nat) : Int) i ch nm ho else some ⟨[pB false], [], []⟩
  | 0, _, _, h => absurd h (Nat.not_lt_zero _)
  | m + 1, c, hc, hm => by
    show f32S4 (f32L5 n g2 (f32L4 n g2 m) n) g2 (f32L4 n g2 m) N (s : Int) (c : Int) i ch nm ho = _
    unfold f32S4
    unfold chG at hg
    rw [Bool.and_eq_true] at hg
    have hb := of_ble hg.1
    rw [inb_k hs, Int.toNat_natCast]
    by_cases h0 : c < (ch.getD s []).length
    · have hm0 := get_mem h0 (ByteArray.empty, [], ())
      have hbm : ((ch.getD s []).getD c (ByteArray.empty, [], ())).2.1.length ≤ 9223372036854775807 := of_ble (List.all_eq_true.1 hg.2 _ hm0)
      have r1 := rm_loop5 i ch nm ho g2 (f32L4 n g2 m) N s c (by omega) _ hbm (hn2 _ hm0) n 0 (Nat.zero_le _) (by have := hn2 _ hm0; omega)
      rw [rm_loop4 g2 N hs hsl (by unfold chG; rw [hg.1, hg.2]; rfl) hn hn2 m (c + 1) h0 (by omega), List.drop_zero, List.take_zero] at r1
      rw [lt_k h0, inb_k h0, Int.toNat_natCast, drop_get h0 (ByteArray.empty, [], ()), List.all_cons]
      have r2 : f32L5 n g2 (f32L4 n g2 m) n N (s : Int) (c : Int) ((ch.getD s []).getD c ({ data := #[] }, [], ())).2.1 0 i ch nm ho = _ := r1
      rw [r2]
      unfold okC
      show (bif true then bif true then bif true then bif true then bif zn ((ch.getD s []).getD c (ByteArray.empty, [], ())).2.1.length == 0 then _ else _ else _ else _ else _ else _) = _
      cases (zn ((ch.getD s []).getD c (ByteArray.empty, [], ())).2.1.length == 0) <;> cases mvF N [] ((ch.getD s []).getD c (ByteArray.empty, [], ())).2.1 <;> rfl
    · rw [nlt_k h0, List.drop_eq_nil_of_le (by omega), wr_k hsl]; rfl
/-! ### labels -/
theorem rm_loop3 (g2 : f32G2) (N : Int) {s : Nat} (hs : s < ho.length) (hl : (ho.getD s []).length ≤ 9223372036854775807) {n : Nat} : ∀ (m k : Nat), k ≤ (ho.getD s []).length → (ho.getD s []).length - k < m → (0 < k → 0 ≤ (ho.getD s []).getD (k - 1) 0) →
    f32L3 n g2 m N (s : Int) (k : Int) i ch nm ho = bif riseF (zn nm.length) (if k = 0 then -1 else (ho.getD s []).getD (k - 1) 0) ((ho.getD s []).drop k) then f32L4 n g2 n N (s : Int) 0 i ch nm ho else some ⟨[pB false], [], []⟩
  | 0, _, _, h, _ => absurd h (Nat.not_lt_zero _)
  | m + 1, k, hk, hm, hp => by
    show f32S3 (f32L4 n g2 n) g2 (f32L3 n g2 m) N (s : Int) (k : Int) i ch nm ho = _
    unfold f32S3
    rw [inb_k hs, Int.toNat_natCast]
    generalize hz : zn nm.length = z
    generalize hll : ho.getD s [] = l at *
    by_cases h0 : k < l.length
    · have e4 : decide ((k : Int) > 0) = decide (0 < k) := by
        rw [decide_eq_decide]; omega
      have e5 : 0 < k → inb (IntKind.i64.wrap ((k : Int) - 1)) l.length = true := fun h => by
        rw [i64_wrap_in (by omega) (by omega)]; simp only [inb, Bool.and_eq_true, decide_eq_true_eq]; omega
      have e6 : 0 < k → (IntKind.i64.wrap ((k : Int) - 1)).toNat = k - 1 := fun h => by
        rw [i64_wrap_in (by omega) (by omega)]; omega
      rw [lt_k h0, inb_k h0, wr_k (by omega), Int.toNat_natCast, e4, drop_get h0 0]
      show _ = bif !(decide (l.getD k 0 ≤ (if k = 0 then -1 else l.getD (k - 1) 0)) || decide (l.getD k 0 ≥ z)) && riseF z (l.getD k 0) (l.drop (k + 1)) then _ else _
      have ih : 0 ≤ l.getD k 0 → f32L3 n g2 m N (s : Int) ((k + 1 : Nat) : Int) i ch nm ho = bif riseF z (l.getD k 0) (l.drop (k + 1)) then f32L4 n g2 n N (s : Int) 0 i ch nm ho else some ⟨[pB false], [], []⟩ := fun h => by
        have := rm_loop3 (n := n) g2 N hs (by rw [hll]; exact hl) m (k + 1) (by rw [hll]; exact h0) (by rw [hll]; omega) (fun _ => by rw [hll]; exact h)
        rw [hll, if_neg (by omega), show k + 1 - 1 = k from rfl, hz] at this
        exact this
      by_cases hk0 : k = 0
      · subst hk0
        rw [if_pos rfl]
        by_cases h1 : l.getD 0 0 < 0
        · rw [decide_eq_true h1, decide_eq_true (show l.getD 0 0 ≤ -1 by omega)]; rfl
        · rw [ih (by omega), decide_eq_false h1, decide_eq_false (show ¬ l.getD 0 0 ≤ -1 by omega), decide_eq_false (Nat.lt_irrefl 0)]
          cases decide (l.getD 0 0 ≥ z) <;> rfl
      · have hk1 : 0 < k := by omega
        rw [if_neg hk0, e5 hk1, e6 hk1, decide_eq_true hk1]
        by_cases h1 : l.getD k 0 < 0
        · have := hp hk1
          rw [decide_eq_true h1, decide_eq_true (show l.getD k 0 ≤ l.getD (k - 1) 0 by omega)]; rfl
        · rw [ih (by omega), decide_eq_false h1]
          cases decide (l.getD k 0 ≥ z) <;> cases decide (l.getD k 0 ≤ l.getD (k - 1) 0) <;> rfl
    · rw [nlt_k h0, List.drop_eq_nil_of_le (by omega)]; rfl
/-! ### states -/
theorem rm_loop2 (hc : ch.length ≤ 9223372036854775807) (hlen : ho.length = ch.length) (hg : ch.all chG = true) (hgo : (ho.all fun l => big l.length) = true) {n : Nat} (hn1 : ∀ l ∈ ch, l.length < n ∧ ∀ c ∈ l, c.2.1.length < n) (hn2 : ∀ l ∈ ho, l.length < n) : ∀ (m s : Nat), s ≤ ch.length → ch.length - s < m →
    f32L2 n m (zn ch.length) (s : Int) i ch nm ho = some ⟨[pB (rowsR (zn ch.length) (zn nm.length) (ch.drop s) (ho.drop s))], [], []⟩
  | 0, _, _, h => absurd h (Nat.not_lt_zero _)
  | m + 1, s, hs, hm => by
    show f32S2 (f32L3 n (f32L2 n m) n) (f32L2 n m) (zn ch.length) (s : Int) i ch nm ho = _
    unfold f32S2
    by_cases h0 : s < ch.length
    · have hm0 := get_mem h0 []
      have hm1 := get_mem (show s < ho.length by omega) []
      have r4 := rm_loop4 i ch nm ho (f32L2 n m) (zn ch.length) h0 (by omega) (List.all_eq_true.1 hg _ hm0) (hn1 _ hm0).1 (hn1 _ hm0).2 n 0 (Nat.zero_le _) (by have := (hn1 _ hm0).1; omega)
      rw [rm_loop2 hc hlen hg hgo hn1 hn2 m (s + 1) h0 (by omega), List.drop_zero] at r4
      have r3 := rm_loop3 i ch nm ho (f32L2 n m) (zn ch.length) (show s < ho.length by omega) (of_ble (List.all_eq_true.1 hgo _ hm1)) (n := n) n 0 (Nat.zero_le _) (by have := hn2 _ hm1; omega) (fun h => absurd h (Nat.lt_irrefl 0))
      rw [if_pos rfl, List.drop_zero] at r3
      have r4' : f32L4 n (f32L2 n m) n (zn ch.length) (s : Int) 0 i ch nm ho = _ := r4
      have r3' : f32L3 n (f32L2 n m) n (zn ch.length) (s : Int) 0 i ch nm ho = _ := r3
      rw [lt_k h0, inb_k h0, Int.toNat_natCast, r3', r4', drop_get h0 []]
      show _ = some (Lf.mk [pB (rowR (zn ch.length) (zn nm.length) (ch.getD s []) ((ho.drop s).getD 0 []) && rowsR (zn ch.length) (zn nm.length) (ch.drop (s + 1)) ((ho.drop s).drop 1))] [] [])
      have e1 : (ho.drop s).getD 0 [] = ho.getD s [] := by
        rw [List.getD_eq_getElem?_getD, List.getD_eq_getElem?_getD, List.getElem?_drop]; rfl
      rw [e1, List.drop_drop]
      unfold rowR
      cases (zn (ch.getD s []).length == 0) <;> cases riseF (zn nm.length) (-1) (ho.getD s []) <;> cases (ch.getD s []).all (okC (zn ch.length)) <;> rfl
    · rw [nlt_k h0, List.drop_eq_nil_of_le (by omega)]; rfl
theorem rm_T (h : mdG ch nm ho = true) : f32M (nm.length + ch.length + maxL (fun l => l.length + maxL (fun (c : ChV) => c.2.1.length) l) ch + maxL List.length ho + 1) i ch nm ho = some ⟨[pB (mdOk i ch nm ho)], [], []⟩ := by
  unfold mdG at h
  simp only [Bool.and_eq_true] at h
  obtain ⟨⟨h1, h2⟩, h3, h4, h5⟩ := h
  have h1 := of_ble h1
  have h3 := of_ble h3
  generalize hn : nm.length + ch.length + maxL (fun l => l.length + maxL (fun (c : ChV) => c.2.1.length) l) ch + maxL List.length ho + 1 = n
  unfold f32M f32T mdOk headM
  by_cases hlen : ho.length = ch.length
  · have e0 : (zn ho.length != zn ch.length) = false := by rw [hlen]; simp
    have r0 := rm_loop0 i ch nm ho (zn ch.length) h3 (n := n) (by omega) n 0 (Nat.zero_le _) (by omega)
    have hn1 : ∀ l ∈ ch, l.length < n ∧ ∀ c ∈ l, c.2.1.length < n := fun l hl => by
      have a1 : l.length + maxL (fun (c : ChV) => c.2.1.length) l ≤ maxL (fun l => l.length + maxL (fun (c : ChV) => c.2.1.length) l) ch := le_maxL (fun l => l.length + maxL (fun (c : ChV) => c.2.1.length) l) hl
      refine ⟨by omega, fun c hc => ?_⟩
      have a2 : c.2.1.length ≤ maxL (fun (c : ChV) => c.2.1.length) l := le_maxL (fun (c : ChV) => c.2.1.length) hc
      omega
    have hn2 : ∀ l ∈ ho, l.length < n := fun l hl => by
      have := le_maxL List.length hl
      omega
    have r2 := rm_loop2 i ch nm ho h1 hlen h2 h5 hn1 hn2 n 0 (Nat.zero_le _) (by omega)
    have r2' : f32L2 n n (zn ch.length) 0 i ch nm ho = _ := r2
    rw [r2', List.take_zero, List.drop_zero, List.drop_zero, List.drop_zero] at r0
    have r0' : f32L0 n n (zn ch.length) 0 i ch nm ho = _ := r0
    rw [e0, r0']
    cases decide (zn ch.length < 1) <;> cases decide (zn ch.length > 4096) <;> cases decide (i < 0) <;> cases decide (i ≥ zn ch.length) <;> cases freshD [] nm <;> rfl
  · have e0 : (zn ho.length != zn ch.length) = true := by simp only [zn, bne_iff_ne, ne_eq]; omega
    rw [e0]
    cases decide (zn ch.length < 1) <;> cases decide (zn ch.length > 4096) <;> cases decide (i < 0) <;> cases decide (i ≥ zn ch.length) <;> rfl
end
theorem rightM_ok : FnOk P C0 8 rightMS := by
  refine fn_okC ctx1 (show P.funcs[8]? = some f32f by kernel_rfl) (of_decide_eq_true (by kernel_rfl)) (rightMS) f32h (fun ds os lf hp => ?_)
  unfold rightMS at hp
  simp only at hp
  split at hp
  · rename_i i ch nm ho
    simp only [Out.pick] at hp
    cases hc0 : mdG ch nm ho with
    | false => rw [hc0] at hp; cases hp
    | true =>
      rw [hc0] at hp
      simp only [cond_true] at hp
      simp only [Option.some.injEq] at hp
      subst hp
      exact ⟨_, (f32_ev _ i ch nm ho).trans (rm_T i ch nm ho hc0)⟩
  · cases hp
/-! ### the map of texts -/
def inK (m : List (ByteArray × Bool)) (x : ByteArray) : Bool := m.any fun e => x == e.1
theorem bb {a b : ByteArray} : (a == b) = true ↔ a = b := MapKept.bytes_beq a b
theorem putK_len : ∀ (m : List (ByteArray × Bool)) (x : ByteArray), (putK m x).length = bif inK m x then m.length else m.length + 1
  | [], x => rfl
  | e :: m, x => by
    have ih := putK_len m x
    show (bif x == e.1 then (x, true) :: m else e :: putK m x).length = bif x == e.1 || inK m x then _ else _
    cases hc : (x == e.1) with
    | true => rfl
    | false =>
      rw [cond_false, Bool.false_or, List.length_cons, ih, List.length_cons]
      cases inK m x <;> rfl
theorem putK_in : ∀ (m : List (ByteArray × Bool)) (x y : ByteArray), inK (putK m x) y = (inK m y || y == x)
  | [], x, y => by show (y == x || false) = (false || y == x); simp
  | e :: m, x, y => by
    have ih := putK_in m x y
    show inK (bif x == e.1 then (x, true) :: m else e :: putK m x) y = ((y == e.1 || inK m y) || y == x)
    cases hc : (x == e.1) with
    | true =>
      have : x = e.1 := bb.1 hc
      show (y == x || inK m y) = _
      rw [this]
      cases (y == e.1) <;> cases inK m y <;> rfl
    | false =>
      show (y == e.1 || inK (putK m x) y) = _
      rw [ih, Bool.or_assoc]
def freshM (m : List (ByteArray × Bool)) : List ByteArray → Bool
  | [] => true
  | x :: l => !(inK m x) && freshM (putK m x) l
theorem fold_len : ∀ (l : List ByteArray) (m : List (ByteArray × Bool)), (l.foldl putK m).length ≤ m.length + l.length ∧ (freshM m l = true ↔ (l.foldl putK m).length = m.length + l.length)
  | [], m => ⟨Nat.le_refl _, by simp [freshM]⟩
  | x :: l, m => by
    obtain ⟨h1, h2⟩ := fold_len l (putK m x)
    have h3 := putK_len m x
    show (l.foldl putK (putK m x)).length ≤ _ ∧ ((!(inK m x) && freshM (putK m x) l) = true ↔ (l.foldl putK (putK m x)).length = _)
    rw [List.length_cons]
    cases hc : inK m x with
    | true =>
      rw [hc, cond_true] at h3
      exact ⟨by omega, by simp; omega⟩
    | false =>
      rw [hc, cond_false] at h3
      refine ⟨by omega, ?_⟩
      show freshM (putK m x) l = true ↔ _
      rw [h2]
      omega
theorem fresh_same : ∀ (l : List ByteArray) (m : List (ByteArray × Bool)) (seen : List ByteArray), (∀ y, inK m y = seen.any fun z => y.toList == z.toList) → freshM m l = freshD seen l
  | [], _, _, _ => rfl
  | x :: l, m, seen, h => by
    show (!(inK m x) && freshM (putK m x) l) = (!(seen.any fun z => x.toList == z.toList) && freshD (seen ++ [x]) l)
    rw [h x, fresh_same l (putK m x) (seen ++ [x]) (fun y => by rw [putK_in, h y, List.any_append]; simp [beq_toListBytes])]
theorem differ_fresh (l : List ByteArray) : differF l = freshD [] l := by
  rw [← fresh_same l [] [] (fun _ => rfl)]
  obtain ⟨_, h⟩ := fold_len l []
  unfold differF zn
  rw [Bool.eq_iff_iff, h, beq_iff_eq]
  simp only [List.length_nil, Nat.zero_add]
  omega
/-! ### the map of numbers -/
theorem putI_get : ∀ (m : List (Int × Bool)) (x p : Int), getI (putI m x) p = (getI m p || x == p)
  | [], x, p => by
    show ((bif p == x then some true else none : Option Bool)).getD false = (false || x == p)
    rw [Bool.beq_comm (a := p)]
    cases (x == p) <;> rfl
  | e :: m, x, p => by
    have ih := putI_get m x p
    have hl : getI (e :: m) p = bif p == e.1 then e.2 else getI m p := by
      show ((bif p == e.1 then some e.2 else mapGet (.i .i64) .b p m : Option Bool)).getD false = _
      cases (p == e.1) <;> rfl
    rw [hl]
    cases hc : (x == e.1) with
    | true =>
      have hx : x = e.1 := eq_of_beq hc
      have hs : putI (e :: m) x = (x, true) :: m := by
        show (bif x == e.1 then (x, true) :: m else e :: putI m x) = _
        rw [hc]; rfl
      rw [hs]
      show ((bif p == x then some true else mapGet (.i .i64) .b p m : Option Bool)).getD false = _
      rw [hx]
      cases hp : (p == e.1) with
      | true =>
        have : p = e.1 := eq_of_beq hp
        rw [this]; simp
      | false =>
        have : (e.1 == p) = false := by rw [Bool.beq_comm]; exact hp
        rw [this, Bool.or_false]; rfl
    | false =>
      have hs : putI (e :: m) x = e :: putI m x := by
        show (bif x == e.1 then (x, true) :: m else e :: putI m x) = _
        rw [hc]; rfl
      rw [hs]
      have hl2 : getI (e :: putI m x) p = bif p == e.1 then e.2 else getI (putI m x) p := by
        show ((bif p == e.1 then some e.2 else mapGet (.i .i64) .b p (putI m x) : Option Bool)).getD false = _
        cases (p == e.1) <;> rfl
      rw [hl2, ih]
      cases hp : (p == e.1) with
      | true =>
        have : p = e.1 := eq_of_beq hp
        rw [this, hc]; simp
      | false => rfl
theorem right_same (z : Int) : ∀ (l : List MvV) (m : List (Int × Bool)) (seen : List MvV), (∀ p, getI m p = seen.any fun y => y.1 == p) → rightF z m l = mvF z seen l
  | [], _, _, _ => rfl
  | v :: l, m, seen, h => by
    show (!(decide (v.1 < 0) || (decide (v.1 ≥ z) || (decide (v.2.1 < 1) || getI m v.1))) && rightF z (putI m v.1) l) = (!(decide (v.1 < 0) || (decide (v.1 ≥ z) || decide (v.2.1 < 1))) && (!(seen.any fun y => y.1 == v.1) && mvF z (seen ++ [v]) l))
    rw [h v.1, right_same z l (putI m v.1) (seen ++ [v]) (fun p => by rw [putI_get, h p, List.any_append]; simp)]
    cases decide (v.1 < 0) <;> cases decide (v.1 ≥ z) <;> cases decide (v.2.1 < 1) <;> cases seen.any (fun y => y.1 == v.1) <;> rfl
theorem right_okC (z : Int) (c : ChV) : rightV z c = okC z c := by
  unfold rightV okC
  rw [right_same z c.2.1 [] [] (fun _ => rfl), Bool.and_comm]
  congr 1
  by_cases h : c.2.1 = []
  · rw [h]; rfl
  · have : 0 < c.2.1.length := List.length_pos_iff.2 h
    rw [decide_eq_true (show zn c.2.1.length > 0 by simp only [zn]; omega)]
    have : (zn c.2.1.length == 0) = false := by simp only [zn, beq_eq_false_iff_ne, ne_eq]; omega
    rw [this]; rfl
theorem ctx10 : CtxOk C10 := fun _ _ h => tbl_ok (l := l10) ⟨differ_ok, mrises_ok, con39_ok, trivial⟩ h
theorem hent (k : Nat) {fn : Func} (hf : P.funcs[k]? = some fn) (hnm : fn.name ≠ "runtime.NumGoroutine") (hb : fn.body.isSome = true) (vs : Array Value) (w : World) : (callFunc k vs).run P w = .ok (.enter k vs) w := by
  obtain ⟨c, hb⟩ := Option.isSome_iff_exists.1 hb
  simp [callFunc, hf, hnm, hb]
theorem num_ok : FnOk P C0 14 numS := by
  intro w M γ ds os vs hr lf hp
  unfold numS at hp
  simp only at hp
  split at hp
  · rename_i f v
    simp only [Out.pick] at hp
    cases hv : plain v with
    | false => rw [hv] at hp; cases hp
    | true =>
      rw [hv] at hp
      simp only [cond_true, Option.some.injEq] at hp
      subst hp
      have hsz : vs.size = 1 := hr.n
      obtain ⟨x, rfl⟩ : ∃ x, vs = #[x] := by
        match vs, hsz with
        | ⟨[x]⟩, _ => exact ⟨x, rfl⟩
      have h0 : Ro C0 w (K0 M f) .e v [x] := hr.sl 0
      have fin : ∀ (n : Int) (w' : World), Grow w w' → ∃ K' γ', Rel C0 w M K' γ' (sgOf [resD [pI n]] os []) #[.int .i64 n] w' := by
        intro n w' hg
        have h1 := hr.grow hg
        refine ⟨K0 M, γ, { h1 with n := rfl, sl := fun t => ?_ }⟩
        cases t with
        | zero => exact Ro.i
        | succ t => rfl
      have he := hent 14 (show P.funcs[14]? = some Go.Proofs.Tryd.f14 from Go.Proofs.Tryd.func14) (of_decide_eq_true (by kernel_rfl)) (by kernel_rfl) #[x] w
      unfold CallsF
      rw [he]
      simp only
      cases h0 with
      | enil =>
        refine Calls.mono (As2.num_nil w) (fun e w' he => ?_)
        obtain ⟨rfl, rfl⟩ := he
        exact fin 0 _ (Grow.refl _)
      | eno =>
        rename_i n
        have hgl := (hr.g0.c (by simp [C0])).1 _ rfl
        refine Calls.mono (As2.num_no n w hgl) (fun e w' he => ?_)
        obtain ⟨rfl, h1, h2, h3, h4, h5⟩ := he
        exact fin n _ ⟨h1, h2, h3, h4, h5⟩
      | eat _ _ _ _ => cases hv
  · cases hp
theorem checkM_loop (i : Int) {ch : List (List ChV)} (nm : List ByteArray) {ho : List (List Int)} (hc : ch.length ≤ 9223372036854775807) (hlen : ho.length = ch.length) (hg : ch.all chG = true) (hgo : (ho.all fun l => big l.length) = true) : ∀ (m n s : Nat), s ≤ ch.length → ch.length - s < m →
    f23L0 n m ch (zn ch.length) (s : Int) i ch nm ho (zn ch.length) = some ⟨[pE (er1 (rowsR (zn ch.length) (zn nm.length) (ch.drop s) (ho.drop s)))], [], []⟩
  | 0, _, _, _, h => absurd h (Nat.not_lt_zero _)
  | m + 1, n, s, hs, hm => by
    show f23S0 (f23L0 n m) ch (zn ch.length) (s : Int) i ch nm ho (zn ch.length) = _
    unfold f23S0
    by_cases h0 : s < ch.length
    · have hm0 := List.all_eq_true.1 hg _ (get_mem h0 [])
      unfold chG at hm0
      have h1 : s < ho.length := by omega
      have hm1 : big (ho.getD s []).length = true := List.all_eq_true.1 hgo _ (get_mem h1 [])
      have e1 : (ho.drop s).getD 0 [] = ho.getD s [] := by
        rw [List.getD_eq_getElem?_getD, List.getD_eq_getElem?_getD, List.getElem?_drop]; rfl
      have e2 : ((ch.getD s []).any fun c => !rightV (zn ch.length) c) = !((ch.getD s []).all (okC (zn ch.length))) := by
        rw [List.all_eq_not_any_not, Bool.not_not]; congr 1; funext c; rw [right_okC]
      rw [lt_k h0, inb_k h0, inb_k h1, wr_k (by omega), Int.toNat_natCast, checkM_loop i nm hc hlen hg hgo m n (s + 1) h0 (by omega), drop_get h0 []]
      show _ = some (Lf.mk [pE (er1 (rowR (zn ch.length) (zn nm.length) (ch.getD s []) ((ho.drop s).getD 0 []) && rowsR (zn ch.length) (zn nm.length) (ch.drop (s + 1)) ((ho.drop s).drop 1)))] [] [])
      rw [e1, List.drop_drop, hm1, hm0, e2]
      unfold rowR
      cases (zn (ch.getD s []).length == 0) <;> cases riseF (zn nm.length) (-1) (ho.getD s []) <;> cases (ch.getD s []).all (okC (zn ch.length)) <;> rfl
    · rw [nlt_k h0, List.drop_eq_nil_of_le (by omega)]; rfl
theorem checkM_T (i : Int) (ch : List (List ChV)) (nm : List ByteArray) (ho : List (List Int)) (h : mdG ch nm ho = true) : f23M (ch.length + 1) i ch nm ho = some ⟨[pE (er1 (mdOk i ch nm ho))], [], []⟩ := by
  unfold mdG at h
  simp only [Bool.and_eq_true] at h
  obtain ⟨⟨h1, h2⟩, h3, h4, h5⟩ := h
  unfold f23M f23T mdOk headM
  rw [h3, differ_fresh]
  by_cases hlen : ho.length = ch.length
  · have e0 : (zn ho.length != zn ch.length) = false := by rw [hlen]; simp
    have r0 := checkM_loop i nm (of_ble h1) hlen h2 h5 (ch.length + 1) (ch.length + 1) 0 (Nat.zero_le _) (by omega)
    have r0' : f23L0 (ch.length + 1) (ch.length + 1) ch (zn ch.length) 0 i ch nm ho (zn ch.length) = _ := r0
    rw [e0, r0', List.drop_zero, List.drop_zero]
    cases decide (zn ch.length < 1) <;> cases decide (zn ch.length > 4096) <;> cases decide (i < 0) <;> cases decide (i ≥ zn ch.length) <;> cases freshD [] nm <;> rfl
  · have e0 : (zn ho.length != zn ch.length) = true := by simp only [zn, bne_iff_ne, ne_eq]; omega
    rw [e0]
    cases decide (zn ch.length < 1) <;> cases decide (zn ch.length > 4096) <;> cases decide (i < 0) <;> cases decide (i ≥ zn ch.length) <;> rfl
theorem checkM_ok : FnOk P C0 11 checkMS := by
  refine fn_okC ctx10 (show P.funcs[11]? = some f23f by kernel_rfl) (of_decide_eq_true (by kernel_rfl)) (checkMS) f23h (fun ds os lf hp => ?_)
  unfold checkMS at hp
  simp only at hp
  split at hp
  · rename_i i ch nm ho
    simp only [Out.pick] at hp
    cases hc0 : mdG ch nm ho with
    | false => rw [hc0] at hp; cases hp
    | true =>
      rw [hc0] at hp
      simp only [cond_true] at hp
      simp only [Option.some.injEq] at hp
      subst hp
      exact ⟨_, (f23_ev _ i ch nm ho).trans (checkM_T i ch nm ho hc0)⟩
  · cases hp
section
variable (i : Int) {ch : List (List ChV)} (nm : List ByteArray) (ho : List (List Int)) (p q : Int)
abbrev cg (ch : List (List ChV)) (s : Nat) : List ChV := ch.getD s []
abbrev cgg (ch : List (List ChV)) (s c : Nat) : ChV := (ch.getD s []).getD c ({ data := #[] }, [], ())
theorem ofM_loop2 (g0 : f12G0) (g1 : f12G1) {s c : Nat} (hs : s < ch.length) (hc : c < (cg ch s).length) (hc2 : c ≤ 1000000) (hl : (cgg ch s c).2.1.length ≤ 1000000) (la : List ChV) (hla : la.length ≤ 1000000) (a : ByteArray) (CH : List (List ChV)) (NM : List ByteArray) (HO : List (List Int)) : ∀ (m n k : Nat), k ≤ (cgg ch s c).2.1.length → (cgg ch s c).2.1.length - k < m →
    f12L2 n g0 g1 m (s : Int) (c : Int) (k : Int) i ch nm ho p q la a CH NM HO ((cgg ch s c).2.1.take k) = g1 (s : Int) ((c + 1 : Nat) : Int) i ch nm ho p q (la ++ [(a, (cgg ch s c).2.1, ())]) CH NM HO
  | 0, _, _, _, h => absurd h (Nat.not_lt_zero _)
  | m + 1, n, k, hk, hm => by
    show f12S2 g0 g1 (f12L2 n g0 g1 m) (s : Int) (c : Int) (k : Int) i ch nm ho p q la a CH NM HO ((cgg ch s c).2.1.take k) = _
    unfold f12S2
    rw [inb_k hs, Int.toNat_natCast, inb_k hc, Int.toNat_natCast]
    by_cases h0 : k < (cgg ch s c).2.1.length
    · have e3 : ∀ x : MvV, decide ((((cgg ch s c).2.1.take k).length + [x].length) * 16 ≤ 140737488355328) = true := fun x => by
        rw [decide_eq_true_eq, List.length_take, List.length_singleton]; omega
      have ih := ofM_loop2 g0 g1 hs hc hc2 hl la hla a CH NM HO m n (k + 1) h0 (by omega)
      rw [take_succ_get h0 (0, 0, ())] at ih
      rw [lt_k h0, inb_k h0, wr_k (k := k) (by omega), Int.toNat_natCast, e3]
      exact ih
    · have hke : k = (cgg ch s c).2.1.length := by omega
      have e3 : ∀ x : ChV, decide ((la.length + [x].length) * 40 ≤ 140737488355328) = true := fun x => by
        rw [decide_eq_true_eq, List.length_singleton]; omega
      rw [nlt_k h0, e3, wr_k (k := c) (by omega), hke, List.take_length]; rfl
theorem ofM_loop1 (g0 : f12G0) {s : Nat} (hs : s < ch.length) (hs2 : s ≤ 1000000) (hl : (cg ch s).length ≤ 1000000) (hm6 : ∀ c ∈ cg ch s, c.2.1.length ≤ 1000000) (CH : List (List ChV)) (hCH : CH.length ≤ 1000000) (NM : List ByteArray) (HO : List (List Int)) : ∀ (m c : Nat), c ≤ (cg ch s).length → (cg ch s).length - c < m →
    f12L1 1000001 g0 m (s : Int) (c : Int) i ch nm ho p q ((cg ch s).take c) CH NM HO = g0 ((s + 1 : Nat) : Int) i ch nm ho p q (CH ++ [cg ch s]) NM HO
  | 0, _, _, h => absurd h (Nat.not_lt_zero _)
  | m + 1, c, hc, hm => by
    show f12S1 (f12L2 1000001 g0 (f12L1 1000001 g0 m) 1000001) g0 (f12L1 1000001 g0 m) (s : Int) (c : Int) i ch nm ho p q ((cg ch s).take c) CH NM HO = _
    unfold f12S1
    rw [inb_k hs, Int.toNat_natCast]
    by_cases h0 : c < (cg ch s).length
    · have hmv : (cgg ch s c).2.1.length ≤ 1000000 := hm6 _ (get_mem h0 ({ data := #[] }, [], ()))
      have r2 := ofM_loop2 i nm ho p q g0 (f12L1 1000001 g0 m) hs h0 (by omega) hmv ((cg ch s).take c) (by rw [List.length_take]; omega) (cgg ch s c).1 CH NM HO 1000001 1000001 0 (Nat.zero_le _) (by omega)
      have ih := ofM_loop1 g0 hs hs2 hl hm6 CH hCH NM HO m (c + 1) h0 (by omega)
      rw [take_succ_get h0 ({ data := #[] }, [], ())] at ih
      rw [lt_k h0, inb_k h0, Int.toNat_natCast]
      exact Eq.trans (b := f12L2 1000001 g0 (f12L1 1000001 g0 m) 1000001 (s : Int) (c : Int) ((0 : Nat) : Int) i ch nm ho p q ((cg ch s).take c) (cgg ch s c).1 CH NM HO ((cgg ch s c).2.1.take 0)) rfl (r2.trans ih)
    · have hke : c = (cg ch s).length := by omega
      have e3 : ∀ x : List ChV, decide ((CH.length + [x].length) * 24 ≤ 140737488355328) = true := fun x => by
        rw [decide_eq_true_eq, List.length_singleton]; omega
      rw [nlt_k h0, e3, wr_k (by omega), hke, List.take_length]; rfl
theorem ofM_loop3 {ho : List (List Int)} (hl : ho.length ≤ 1000000) (hh : ∀ l ∈ ho, l.length ≤ 1000000) (CH : List (List ChV)) (NM : List ByteArray) : ∀ (m n k : Nat), k ≤ ho.length → ho.length - k < m →
    f12L3 n m (k : Int) i ch nm ho p q CH NM (ho.take k) = some ⟨[.agg [.d (.fz true) (.i .i64) q, .rw ⟨1, 0⟩, .rw ⟨1, 1⟩, .rw ⟨1, 2⟩]], [], [roCh CH, roNm NM, roN ho]⟩
  | 0, _, _, _, h => absurd h (Nat.not_lt_zero _)
  | m + 1, n, k, hk, hm => by
    show f12S3 (f12L3 n m) (k : Int) i ch nm ho p q CH NM (ho.take k) = _
    unfold f12S3
    by_cases h0 : k < ho.length
    · have g1 := hh _ (get_mem h0 [])
      have e1 : decide ((0 + (ho.getD k []).length) * 8 ≤ 140737488355328) = true := by rw [decide_eq_true_eq]; omega
      have e3 : ∀ x : List Int, decide (((ho.take k).length + [x].length) * 24 ≤ 140737488355328) = true := fun x => by
        rw [decide_eq_true_eq, List.length_take, List.length_singleton]; omega
      have ih := ofM_loop3 hl hh CH NM m n (k + 1) h0 (by omega)
      rw [take_succ_get h0 []] at ih
      rw [lt_k h0, inb_k h0, wr_k (by omega), Int.toNat_natCast, e1, e3]
      exact ih
    · have hke : k = ho.length := by omega
      subst hke
      rw [nlt_k h0, List.take_length]; rfl
theorem ofM_loop0 (hl : ch.length ≤ 1000000) (hch : ∀ l ∈ ch, l.length ≤ 1000000 ∧ ∀ c ∈ l, c.2.1.length ≤ 1000000) (NM : List ByteArray) (HO : List (List Int)) : ∀ (m s : Nat), s ≤ ch.length → ch.length - s < m →
    f12L0 1000001 m (s : Int) i ch nm ho p q (ch.take s) NM HO = f12L3 1000001 1000001 0 i ch nm ho p q ch NM HO
  | 0, _, _, h => absurd h (Nat.not_lt_zero _)
  | m + 1, s, hs, hm => by
    show f12S0 (f12L1 1000001 (f12L0 1000001 m) 1000001) (f12L3 1000001 1000001) (f12L0 1000001 m) (s : Int) i ch nm ho p q (ch.take s) NM HO = _
    unfold f12S0
    by_cases h0 : s < ch.length
    · have hm0 := hch _ (get_mem h0 [])
      have hm1 : (cg ch s).length ≤ 1000000 := hm0.1
      have r1 := ofM_loop1 i nm ho p q (f12L0 1000001 m) h0 (by omega) hm0.1 hm0.2 (ch.take s) (by rw [List.length_take]; omega) NM HO 1000001 0 (Nat.zero_le _) (by omega)
      have ih := ofM_loop0 hl hch NM HO m (s + 1) h0 (by omega)
      rw [take_succ_get h0 []] at ih
      rw [lt_k h0]
      exact Eq.trans (b := f12L1 1000001 (f12L0 1000001 m) 1000001 (s : Int) ((0 : Nat) : Int) i ch nm ho p q ((cg ch s).take 0) (ch.take s) NM HO) rfl (r1.trans ih)
    · have hke : s = ch.length := by omega
      subst hke
      rw [nlt_k h0, List.take_length]; rfl
theorem ofM_T (h : ofMG ch nm ho = true) : f12M 1000001 i ch nm ho = some ⟨[.agg [.d (.fz true) (.i .i64) i, .rw ⟨1, 0⟩, .rw ⟨1, 1⟩, .rw ⟨1, 2⟩]], [], [roCh ch, roNm nm, roN ho]⟩ := by
  unfold ofMG m6 at h
  simp only [Bool.and_eq_true, List.all_eq_true] at h
  obtain ⟨⟨h1, h2⟩, h3, h4, h5⟩ := h
  have h3 := of_ble h3
  unfold f12M f12T
  rw [decide_eq_true (show (0 + nm.length) * 16 ≤ 140737488355328 by omega)]
  have r0 := ofM_loop0 i nm ho 0 i (of_ble h1) (fun l hl => ⟨of_ble (h2 l hl).1, fun c hc => of_ble ((h2 l hl).2 c hc)⟩) nm [] 1000001 0 (Nat.zero_le _) (by have := of_ble h1; omega)
  have r3 := ofM_loop3 i (ch := ch) nm 0 i (of_ble h4) (fun l hl => of_ble (h5 l hl)) ch nm 1000001 1000001 0 (Nat.zero_le _) (by have := of_ble h4; omega)
  exact Eq.trans (b := f12L0 1000001 1000001 ((0 : Nat) : Int) i ch nm ho 0 i (ch.take 0) nm []) rfl (r0.trans r3)
end
theorem ofM_ok : FnOk P C0 9 ofMS := by
  refine fn_okC ctx10 (show P.funcs[9]? = some f12f by kernel_rfl) (of_decide_eq_true (by kernel_rfl)) (ofMS) f12h (fun ds os lf hp => ?_)
  unfold ofMS at hp
  simp only at hp
  split at hp
  · rename_i i ch nm ho
    simp only [Out.pick] at hp
    cases hc0 : ofMG ch nm ho with
    | false => rw [hc0] at hp; cases hp
    | true =>
      rw [hc0] at hp
      simp only [cond_true] at hp
      simp only [Option.some.injEq] at hp
      subst hp
      exact ⟨_, (f12_ev _ i ch nm ho).trans (ofM_T i nm ho hc0)⟩
  · cases hp
theorem mdG_of {ch : List (List ChV)} {nm : List ByteArray} {ho : List (List Int)} (h : ofMG ch nm ho = true) : mdG ch nm ho = true := by
  unfold ofMG m6 at h
  unfold mdG chG mvG
  simp only [Bool.and_eq_true, List.all_eq_true] at h ⊢
  obtain ⟨⟨h1, h2⟩, h3, h4, h5⟩ := h
  have b : ∀ {n : Nat}, n.ble 1000000 = true → big n = true := fun h => ble_of (by have := of_ble h; omega)
  exact ⟨⟨b h1, fun l hl => ⟨b (h2 l hl).1, fun c hc => b ((h2 l hl).2 c hc)⟩⟩, b h3, b h4, fun l hl => b (h5 l hl)⟩
theorem mvF_range {z : Int} : ∀ {l seen : List MvV}, mvF z seen l = true → ∀ v ∈ l, 0 ≤ v.1 ∧ v.1 < z
  | v :: l, seen, h, x, hx => by
    have h : (!(decide (v.1 < 0) || (decide (v.1 ≥ z) || decide (v.2.1 < 1))) && (!(seen.any fun y => y.1 == v.1) && mvF z (seen ++ [v]) l)) = true := h
    simp only [Bool.and_eq_true, Bool.not_eq_true', Bool.or_eq_false_iff, decide_eq_false_iff_not] at h
    rcases List.mem_cons.1 hx with rfl | hx
    · omega
    · exact mvF_range h.2.2 x hx
theorem rows_mem {z K : Int} : ∀ {ch : List (List ChV)} {ho : List (List Int)}, rowsR z K ch ho = true → ∀ l ∈ ch, ∀ c ∈ l, okC z c = true
  | l :: ls, ho, h, x, hx => by
    have h : (rowR z K l (ho.getD 0 []) && rowsR z K ls (ho.drop 1)) = true := h
    rw [Bool.and_eq_true] at h
    rcases List.mem_cons.1 hx with rfl | hx
    · have h1 := h.1
      unfold rowR at h1
      simp only [Bool.and_eq_true, List.all_eq_true] at h1
      exact h1.2.2
    · exact rows_mem h.2 x hx
structure Facts (i : Int) (ch : List (List ChV)) (le : List Int) (i2 : Int) (nx : List (List Int)) : Prop where
  hn : 1 ≤ ch.length ∧ ch.length ≤ 4096
  hN : 1 ≤ nx.length ∧ nx.length ≤ 4096
  hi : 0 ≤ i ∧ i < (ch.length : Int)
  hi2 : 0 ≤ i2 ∧ i2 < (nx.length : Int)
  hle : le.length = ch.length
  hmv : ∀ l ∈ ch, ∀ c ∈ l, ∀ v ∈ c.2.1, 0 ≤ v.1 ∧ v.1 < (ch.length : Int)
  hnx : ∀ l ∈ nx, ∀ q ∈ l, 0 ≤ q ∧ q < (nx.length : Int)
  hat : ∀ x ∈ le, ∀ l ∈ nx, 0 ≤ x ∧ x < (l.length : Int)
theorem inF_p {n i : Int} (h : inF n i = true) : 0 ≤ i ∧ i < n := by
  unfold inF at h
  rw [Bool.and_eq_true, decide_eq_true_eq, decide_eq_true_eq] at h
  exact h
theorem headM_p {i : Int} {ch : List (List ChV)} {ho : List (List Int)} (h : headM i ch ho = true) : (1 ≤ ch.length ∧ ch.length ≤ 4096) ∧ (0 ≤ i ∧ i < (ch.length : Int)) ∧ ho.length = ch.length := by
  unfold headM at h
  simp only [Bool.not_eq_true', Bool.or_eq_false_iff, decide_eq_false_iff_not, bne_eq_false_iff_eq, zn] at h
  omega
theorem farM_no {ch : List (List ChV)} {nm : List ByteArray} {ho : List (List Int)} (h : farM ch nm ho = false) : ch.length ≤ 40 ∧ ho.length ≤ 40 ∧ nm.length ≤ 12 ∧ (∀ l ∈ ch, l.length ≤ 10 ∧ ∀ c ∈ l, c.2.1.length ≤ 20) ∧ ∀ l ∈ ho, l.length ≤ 20 := by
  unfold farM farCh at h
  simp only [Bool.or_eq_false_iff, decide_eq_false_iff_not, zn, List.any_eq_false, decide_eq_true_eq, Bool.or_eq_true, not_or, Bool.not_eq_true] at h
  obtain ⟨⟨h1, h2, h3⟩, h4, h5⟩ := h
  refine ⟨by omega, by omega, by omega, fun l hl => ?_, fun l hl => by have := h5 l hl; omega⟩
  obtain ⟨a, b⟩ := h4 l hl
  refine ⟨by omega, fun c hc => ?_⟩
  have := b c hc
  omega
theorem ofMG_no {ch : List (List ChV)} {nm : List ByteArray} {ho : List (List Int)} (h : farM ch nm ho = false) : ofMG ch nm ho = true := by
  obtain ⟨h1, h2, h3, h4, h5⟩ := farM_no h
  unfold ofMG m6
  simp only [Bool.and_eq_true, List.all_eq_true]
  exact ⟨⟨ble_of (by omega), fun l hl => ⟨ble_of (by have := (h4 l hl).1; omega), fun c hc => ble_of (by have := (h4 l hl).2 c hc; omega)⟩⟩, ble_of (by omega), ble_of (by omega), fun l hl => ble_of (by have := h5 l hl; omega)⟩
theorem idx_of {α : Type} {l : List α} {x : α} (h : x ∈ l) (d : α) : ∃ k, k < l.length ∧ l.getD k d = x := by
  obtain ⟨k, hk, e⟩ := List.mem_iff_getElem.1 h
  exact ⟨k, hk, by rw [List.getD_eq_getElem?_getD, List.getElem?_eq_getElem hk]; exact e⟩
theorem getD_app {α : Type} (l : List α) (x d : α) : (l ++ [x]).getD l.length d = x := by simp [List.getD_eq_getElem?_getD]
theorem getD_app_lt {α : Type} {l : List α} {x d : α} {j : Nat} (h : j < l.length) : (l ++ [x]).getD j d = l.getD j d := by
  rw [List.getD_eq_getElem?_getD, List.getD_eq_getElem?_getD, List.getElem?_append_left h]
end Go.S11
