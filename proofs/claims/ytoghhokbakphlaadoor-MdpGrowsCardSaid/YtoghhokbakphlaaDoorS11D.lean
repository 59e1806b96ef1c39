/-
  Seat 11: the contracts of Support, Has, Ints, Index.
-/
import Derived.Test.YtoghhokbakphlaaDoorS11G2
open Go Go.En
namespace Go.S11
theorem cut_cmp (l : List Int) : List.take (Go.Lib.compact l).length (Go.Lib.compact l ++ List.replicate (l.length - (Go.Lib.compact l).length) 0) = Go.Lib.compact l := List.take_left
theorem sup_loop {mv : List MvV} (hm6 : mv.length ≤ 1000000) : ∀ (m n k : Nat) (out : List Int), k ≤ mv.length → mv.length - k < m → out.length = k →
    f117L0 n m mv (zn mv.length) (k : Int) out = some ⟨[.one (.rw ⟨1, 0⟩)], [], [roI (Go.Lib.compact (sortI (out ++ (mv.drop k).map fun v => v.1)))]⟩
  | 0, _, _, _, _, h, _ => absurd h (Nat.not_lt_zero _)
  | m + 1, n, k, out, hk, hm, ho => by
    show f117S0 (f117L0 n m) mv (zn mv.length) (k : Int) out = _
    unfold f117S0
    by_cases h0 : k < mv.length
    · rw [lt_k h0, inb_k h0, wr_k (by omega), Int.toNat_natCast, drop_get h0 (0, 0, ()), decide_eq_true (by rw [List.length_singleton]; omega)]
      simp only [cond_true]
      rw [sup_loop hm6 m n (k + 1) _ h0 (by omega) (by rw [List.length_append, List.length_singleton, ho]), List.append_assoc]; rfl
    · have hl : (out ++ (mv.drop k).map fun v => v.1) = out := by rw [List.drop_eq_nil_of_le (by omega)]; simp
      rw [nlt_k h0, hl, cut_cmp, ble_of (show out.length ≤ 1000000 by omega)]
      have : (out.mergeSort fun x y => decide (x ≤ y)).length = out.length := List.length_mergeSort _
      rw [this, ble_of (show out.length ≤ 1000000 by omega)]; rfl
theorem has_loopT {mv : List MvV} (t : Int) (hm6 : mv.length ≤ 1000000) (a : ByteArray) : ∀ (m n k : Nat), k ≤ mv.length → mv.length - k < m →
    f118L0 n m t (k : Int) a mv = some ⟨[pB (hasTo (mv.drop k) t)], [], []⟩
  | 0, _, _, _, h => absurd h (Nat.not_lt_zero _)
  | m + 1, n, k, hk, hm => by
    show f118S0 (f118L0 n m) t (k : Int) a mv = _
    unfold f118S0
    by_cases h0 : k < mv.length
    · rw [lt_k h0, inb_k h0, wr_k (by omega), has_loopT t hm6 a m n (k + 1) h0 (by omega), drop_get h0 (0, 0, ()), Int.toNat_natCast]
      show (bif true then bif true then bif (mv.getD k (0, 0, ())).1 == t then _ else _ else _ else _) = some (Lf.mk [pB ((mv.getD k (0, 0, ())).1 == t || hasTo (mv.drop (k + 1)) t)] [] [])
      cases ((mv.getD k (0, 0, ())).1 == t) <;> rfl
    · rw [nlt_k h0, List.drop_eq_nil_of_le (by omega)]; rfl
theorem sameI_len : ∀ {a b : List Int}, sameI a b = true → a.length = b.length
  | [], [], _ => rfl
  | [], _ :: _, h => by cases h
  | _ :: _, [], h => by cases h
  | a :: l, b :: m, h => by
    have h : (a == b && sameI l m) = true := h
    rw [Bool.and_eq_true] at h
    rw [List.length_cons, List.length_cons, sameI_len h.2]
theorem sameI_refl : ∀ l : List Int, sameI l l = true
  | [] => rfl
  | a :: l => by show (a == a && sameI l l) = true; rw [sameI_refl l]; simp
theorem ints_loop (a b : List Int) (hl : a.length = b.length) (ha : a.length ≤ 9223372036854775807) : ∀ (m n k : Nat), k ≤ a.length → a.length - k < m → f115L0 n m a b (k : Int) = some ⟨[pB (sameI (a.drop k) (b.drop k))], [], []⟩
  | 0, _, _, _, h => absurd h (Nat.not_lt_zero _)
  | m + 1, n, k, hk, h => by
    show f115S0 (f115L0 n m) a b (k : Int) = _
    unfold f115S0
    by_cases h0 : k < a.length
    · have h1 : k < b.length := by omega
      rw [lt_k h0, inb_k h0, inb_k h1, wr_k (by omega), ints_loop a b hl ha m n (k + 1) h0 (by omega), drop_get h0 0, drop_get h1 0, Int.toNat_natCast]
      show (bif true then bif true then bif true then bif !(a.getD k 0 == b.getD k 0) then _ else _ else _ else _ else _) = some (Lf.mk [pB ((a.getD k 0 == b.getD k 0) && sameI (a.drop (k + 1)) (b.drop (k + 1)))] [] [])
      cases (a.getD k 0 == b.getD k 0) <;> rfl
    · rw [nlt_k h0, List.drop_eq_nil_of_le (by omega), List.drop_eq_nil_of_le (by omega)]; rfl
theorem ints_T (a b : List Int) (ha : a.length ≤ 9223372036854775807) : f115M (a.length + 1) a b = some ⟨[pB (sameI a b)], [], []⟩ := by
  unfold f115M f115T
  by_cases hl : a.length = b.length
  · have e : (zn a.length != zn b.length) = false := by rw [hl]; simp
    rw [e]
    exact ints_loop a b hl ha _ _ 0 (Nat.zero_le _) (by omega)
  · have e : (zn a.length != zn b.length) = true := by simp only [zn, bne_iff_ne]; omega
    have e2 : sameI a b = false := by
      cases hs : sameI a b with
      | false => rfl
      | true => exact absurd (sameI_len hs) hl
    rw [e, e2]; rfl
theorem index_loop {l : List ByteArray} (s : ByteArray) (hl : l.length ≤ 9223372036854775807) : ∀ (m n k : Nat), k ≤ l.length → l.length - k < m →
    f127L0 n m l s (zn l.length) (k : Int) = some ⟨[pI (idxG (fun x => s.toList == x.toList) k (l.drop k))], [], []⟩
  | 0, _, _, _, h => absurd h (Nat.not_lt_zero _)
  | m + 1, n, k, hk, hm => by
    show f127S0 (f127L0 n m) l s (zn l.length) (k : Int) = _
    unfold f127S0
    by_cases h0 : k < l.length
    · rw [lt_k h0, inb_k h0, wr_k (by omega), index_loop s hl m n (k + 1) h0 (by omega), drop_get h0 ⟨#[]⟩, Int.toNat_natCast]
      show _ = some (Lf.mk [pI (bif s.toList == (l.getD k ⟨#[]⟩).toList then (k : Int) else idxG (fun x => s.toList == x.toList) (k + 1) (l.drop (k + 1)))] [] [])
      cases (s.toList == (l.getD k ⟨#[]⟩).toList) <;> rfl
    · rw [nlt_k h0, List.drop_eq_nil_of_le (by omega)]; rfl
theorem idxS_ok : FnOk P C0 27 idxSS := by
  refine fn_okC ctx1 (show P.funcs[27]? = some f127f by kernel_rfl) (of_decide_eq_true (by kernel_rfl)) (idxSS) f127h (fun ds os lf hp => ?_)
  unfold idxSS at hp
  simp only at hp
  split at hp
  · rename_i l s
    simp only [Out.pick] at hp
    cases hc0 : big l.length with
    | false => rw [hc0] at hp; cases hp
    | true =>
      rw [hc0] at hp
      simp only [cond_true] at hp
      simp only [Option.some.injEq] at hp
      subst hp
      exact ⟨l.length + 1, (f127_ev _ l s).trans (index_loop s (of_ble hc0) _ _ 0 (Nat.zero_le _) (by omega))⟩
  · cases hp
theorem ctx11 : CtxOk C11 := fun _ _ h => tbl_ok (l := l11) ⟨rightM_ok, checkM_ok, sort_ok, differ_ok, idxS_ok, cmp_ok, trivial⟩ h
theorem sup_ok : FnOk P C0 17 supS := by
  refine fn_okC ctx11 (show P.funcs[17]? = some f117f by kernel_rfl) (of_decide_eq_true (by kernel_rfl)) (supS) f117h (fun ds os lf hp => ?_)
  unfold supS at hp
  simp only at hp
  split at hp
  · rename_i a mv
    simp only [Out.pick] at hp
    cases hc0 : m6 mv.length with
    | false => rw [hc0] at hp; cases hp
    | true =>
      rw [hc0] at hp
      simp only [cond_true] at hp
      simp only [Option.some.injEq] at hp
      subst hp
      exact ⟨mv.length + 1, (f117_ev _ a mv).trans (sup_loop (of_ble hc0) _ _ 0 [] (Nat.zero_le _) (by omega) rfl)⟩
  · cases hp
theorem hasT_ok : FnOk P C0 18 hasTS := by
  refine fn_okC ctx11 (show P.funcs[18]? = some f118f by kernel_rfl) (of_decide_eq_true (by kernel_rfl)) (hasTS) f118h (fun ds os lf hp => ?_)
  unfold hasTS at hp
  simp only at hp
  split at hp
  · rename_i a mv t
    simp only [Out.pick] at hp
    cases hc0 : m6 mv.length with
    | false => rw [hc0] at hp; cases hp
    | true =>
      rw [hc0] at hp
      simp only [cond_true] at hp
      simp only [Option.some.injEq] at hp
      subst hp
      exact ⟨mv.length + 1, (f118_ev _ a mv t).trans (has_loopT t (of_ble hc0) a _ _ 0 (Nat.zero_le _) (by omega))⟩
  · cases hp
theorem ints_ok : FnOk P C0 15 intsS := by
  refine fn_okC ctx11 (show P.funcs[15]? = some f115f by kernel_rfl) (of_decide_eq_true (by kernel_rfl)) (intsS) f115h (fun ds os lf hp => ?_)
  unfold intsS at hp
  simp only at hp
  split at hp
  · rename_i a b
    simp only [Out.pick] at hp
    cases hc0 : big a.length with
    | false => rw [hc0] at hp; cases hp
    | true =>
      rw [hc0] at hp
      simp only [cond_true] at hp
      simp only [Option.some.injEq] at hp
      subst hp
      exact ⟨a.length + 1, (f115_ev _ a b).trans (ints_T a b (of_ble hc0))⟩
  · cases hp
end Go.S11
