/-
  Seat 02 (intern): the contracts of the functions that call none.
-/
import Derived.Test.YtbdicebddicbkaaDoorS42G1
open Go Go.En
namespace Go.S2
theorem ctx1 : CtxOk C1 := fun _ _ h => by cases h
theorem okT_iff {l : List (List Int)} {a b : List Int} : okT l a b = true ↔ (nod l = true ∧ (∀ v ∈ l, v.length ≤ 64) ∧ l.length ≤ 100000 ∧ a = firstOf l ∧ b = nextOf l) := by
  unfold okT
  simp only [Bool.and_eq_true, List.all_eq_true, Nat.ble_eq, beq_iff_eq]
theorem both_eq {ρ : Type} (x : Option ρ) : both x x = x := by unfold both; rw [if_pos rfl]
theorem getD_drop {α : Type} {l : List α} {k : Nat} (h : k < l.length) (d : α) : l.drop k = l.getD k d :: l.drop (k + 1) := by
  rw [List.drop_eq_getElem_cons h]; simp [List.getD_eq_getElem?_getD, h]
theorem wr_succ {k n : Nat} (h : k < n) (hn : n ≤ 9223372036854775807) : IntKind.i64.wrap ((k : Int) + 1) = ((k + 1 : Nat) : Int) := by
  rw [i64_wrap_nat (by omega) (by omega)]; rfl
theorem hash_loop (v : List Int) (hv : v.length ≤ 9223372036854775807) : ∀ (m n : Nat) (a : Int) (k : Nat), k ≤ v.length → v.length - k < m → f13L0 n m a v (v.length : Int) (k : Int) = some ⟨[pI (IntKind.i64.wrap ((hashL a (v.drop k)).tmod 257))], [], []⟩
  | 0, _, _, _, _, h => absurd h (Nat.not_lt_zero _)
  | m + 1, n, a, k, hk, h => by
    show f13S0 (f13L0 n m) a v (v.length : Int) (k : Int) = _
    unfold f13S0
    by_cases h0 : k < v.length
    · have e1 : decide ((k : Int) < (v.length : Int)) = true := by simpa using h0
      have e2 : inb (k : Int) v.length = true := by simp [inb, h0]
      rw [e1, e2, wr_succ h0 hv, hash_loop v hv m n _ (k + 1) h0 (by omega), getD_drop h0 0]
      rfl
    · have e1 : decide ((k : Int) < (v.length : Int)) = false := by simpa using h0
      rw [e1, List.drop_eq_nil_of_le (by omega)]
      rfl
theorem hash_ok : FnOk P C0 13 hashS := by
  refine fn_okC ctx1 (show P.funcs[13]? = some f13f by kernel_rfl) (of_decide_eq_true (by kernel_rfl)) hashS f13h (fun ds os lf hp => ?_)
  unfold hashS at hp
  simp only at hp
  split at hp
  · rename_i v
    simp only [Out.pick] at hp
    cases hc : (big v) with
    | false => rw [hc] at hp; cases hp
    | true =>
      rw [hc] at hp
      simp only [cond_true, Option.some.injEq] at hp
      subst hp
      have hl : v.length ≤ 9223372036854775807 := Nat.le_of_ble_eq_true hc
      exact ⟨v.length + 1, (f13_ev _ v).trans (hash_loop v hl _ _ _ 0 (Nat.zero_le _) (by omega))⟩
  · cases hp
theorem clone_T {v : List Int} (h : v.length ≤ 1000000) : f15T v = some ⟨[.one (.rw ⟨1, 0⟩)], [], [roV v]⟩ := by
  have e1 : decide ((0 + v.length) * 4 ≤ 140737488355328) = true := by simp only [decide_eq_true_eq]; omega
  unfold f15T
  rw [e1]
  try rw [List.nil_append]
  cases hz : (zn v.length == 0) with
  | false => rfl
  | true =>
    have : v = [] := by
      have h1 : zn v.length = 0 := eq_of_beq hz
      unfold zn at h1
      exact List.length_eq_zero_iff.1 (by omega)
    subst this
    exact both_eq _
theorem clone_ok : FnOk P C0 15 cloneS := by
  refine fn_okC ctx1 (show P.funcs[15]? = some f15f by kernel_rfl) (of_decide_eq_true (by kernel_rfl)) cloneS f15h (fun ds os lf hp => ?_)
  unfold cloneS at hp
  simp only at hp
  split at hp
  · rename_i v
    simp only [Out.pick] at hp
    cases hc : (Nat.ble v.length 1000000) with
    | false => rw [hc] at hp; cases hp
    | true =>
      rw [hc] at hp
      simp only [cond_true, Option.some.injEq] at hp
      subst hp
      exact ⟨0, (f15_ev 0 v).trans (clone_T (Nat.le_of_ble_eq_true hc))⟩
  · cases hp
theorem same_len : ∀ {a b : List Int}, same a b = true → a.length = b.length
  | [], [], _ => rfl
  | _ :: _, _ :: _, h => by
    simp only [same, Bool.and_eq_true] at h
    simp [same_len h.2]
  | [], _ :: _, h => by cases h
  | _ :: _, [], h => by cases h
theorem same_iff : ∀ {a b : List Int}, same a b = true ↔ a = b
  | [], [] => by simp [same]
  | x :: a, y :: b => by simp [same, same_iff (a := a) (b := b)]
  | [], _ :: _ => by simp [same]
  | _ :: _, [] => by simp [same]
theorem eq_loop (a b : List Int) (hl : a.length = b.length) (ha : a.length ≤ 9223372036854775807) : ∀ (m n : Nat) (k : Nat), k ≤ a.length → a.length - k < m → f14L0 n m a b (a.length : Int) (k : Int) = some ⟨[pB (same (a.drop k) (b.drop k))], [], []⟩
  | 0, _, _, _, h => absurd h (Nat.not_lt_zero _)
  | m + 1, n, k, hk, h => by
    show f14S0 (f14L0 n m) a b (a.length : Int) (k : Int) = _
    unfold f14S0
    by_cases h0 : k < a.length
    · have e1 : decide ((k : Int) < (a.length : Int)) = true := by simpa using h0
      have e2 : inb (k : Int) a.length = true := by simp [inb, h0]
      have e3 : inb (k : Int) b.length = true := by rw [← hl]; exact e2
      rw [e1, e2, e3, wr_succ h0 ha, eq_loop a b hl ha m n (k + 1) h0 (by omega), getD_drop h0 0, getD_drop (l := b) (k := k) (by omega) 0]
      show (bif true then bif true then bif true then bif !(a.getD k 0 == b.getD k 0) then _ else _ else _ else _ else _) = some (Lf.mk [pB ((a.getD k 0 == b.getD k 0) && same (a.drop (k + 1)) (b.drop (k + 1)))] [] [])
      cases (a.getD k 0 == b.getD k 0) <;> rfl
    · have e1 : decide ((k : Int) < (a.length : Int)) = false := by simpa using h0
      rw [e1, List.drop_eq_nil_of_le (by omega), List.drop_eq_nil_of_le (by omega)]
      rfl
theorem ref_loop (a b : List Int) (hl : a.length = b.length) (ha : a.length ≤ 9223372036854775807) : ∀ (m n : Nat) (k : Nat), k ≤ a.length → a.length - k < m → f12L0 n m a b (k : Int) = some ⟨[pB (same (a.drop k) (b.drop k))], [], []⟩
  | 0, _, _, _, h => absurd h (Nat.not_lt_zero _)
  | m + 1, n, k, hk, h => by
    show f12S0 (f12L0 n m) a b (k : Int) = _
    unfold f12S0
    by_cases h0 : k < a.length
    · have e1 : decide ((k : Int) < zn a.length) = true := by simpa [zn] using h0
      have e2 : inb (k : Int) a.length = true := by simp [inb, h0]
      have e3 : inb (k : Int) b.length = true := by rw [← hl]; exact e2
      rw [e1, e2, e3, wr_succ h0 ha, ref_loop a b hl ha m n (k + 1) h0 (by omega), getD_drop h0 0, getD_drop (l := b) (k := k) (by omega) 0]
      show (bif true then bif true then bif true then bif !(a.getD k 0 == b.getD k 0) then _ else _ else _ else _ else _) = some (Lf.mk [pB ((a.getD k 0 == b.getD k 0) && same (a.drop (k + 1)) (b.drop (k + 1)))] [] [])
      cases (a.getD k 0 == b.getD k 0) <;> rfl
    · have e1 : decide ((k : Int) < zn a.length) = false := by simpa [zn] using h0
      rw [e1, List.drop_eq_nil_of_le (by omega), List.drop_eq_nil_of_le (by omega)]
      rfl
theorem same_ne {a b : List Int} (h : a.length ≠ b.length) : same a b = false := by
  cases hs : same a b with
  | false => rfl
  | true => exact absurd (same_len hs) h
theorem equal_ok : FnOk P C0 14 sameS := by
  refine fn_okC ctx1 (show P.funcs[14]? = some f14f by kernel_rfl) (of_decide_eq_true (by kernel_rfl)) sameS f14h (fun ds os lf hp => ?_)
  unfold sameS at hp
  simp only at hp
  split at hp
  · rename_i a b
    simp only [Out.pick] at hp
    cases hc : (big a && big b) with
    | false => rw [hc] at hp; cases hp
    | true =>
      rw [hc] at hp
      simp only [cond_true, Option.some.injEq] at hp
      subst hp
      rw [Bool.and_eq_true] at hc
      have ha : a.length ≤ 9223372036854775807 := Nat.le_of_ble_eq_true hc.1
      refine ⟨a.length + 1, (f14_ev _ a b).trans ?_⟩
      unfold f14M f14T
      by_cases hl : a.length = b.length
      · have e : (zn a.length != zn b.length) = false := by rw [hl]; simp
        rw [e]
        exact eq_loop a b hl ha _ _ 0 (Nat.zero_le _) (by omega)
      · have e : (zn a.length != zn b.length) = true := by simp only [zn, bne_iff_ne]; omega
        rw [e, same_ne hl]; rfl
  · cases hp
theorem same_ok : FnOk P C0 12 sameS := by
  refine fn_okC ctx1 (show P.funcs[12]? = some f12f by kernel_rfl) (of_decide_eq_true (by kernel_rfl)) sameS f12h (fun ds os lf hp => ?_)
  unfold sameS at hp
  simp only at hp
  split at hp
  · rename_i a b
    simp only [Out.pick] at hp
    cases hc : (big a && big b) with
    | false => rw [hc] at hp; cases hp
    | true =>
      rw [hc] at hp
      simp only [cond_true, Option.some.injEq] at hp
      subst hp
      rw [Bool.and_eq_true] at hc
      have ha : a.length ≤ 9223372036854775807 := Nat.le_of_ble_eq_true hc.1
      refine ⟨a.length + 1, (f12_ev _ a b).trans ?_⟩
      unfold f12M f12T
      by_cases hl : a.length = b.length
      · have e : (zn a.length != zn b.length) = false := by rw [hl]; simp
        rw [e]
        exact ref_loop a b hl ha _ _ 0 (Nat.zero_le _) (by omega)
      · have e : (zn a.length != zn b.length) = true := by simp only [zn, bne_iff_ne]; omega
        rw [e, same_ne hl]; rfl
  · cases hp
theorem new_T : f5T = some ⟨[.one (.pv ⟨1, 0⟩ 0)], [], [vaT ⟨1, 1⟩ ⟨1, 2⟩ (firstOf []), roL [], roN []]⟩ := by kernel_rfl
theorem new_ok : FnOk P C0 5 newS := by
  refine fn_okC ctx1 (show P.funcs[5]? = some f5f by kernel_rfl) (of_decide_eq_true (by kernel_rfl)) newS f5h (fun ds os lf hp => ?_)
  unfold newS at hp
  simp only at hp
  split at hp
  · skip
    simp only [Out.pick, Option.some.injEq] at hp
    subst hp
    exact ⟨0, (f5_ev 0).trans new_T⟩
  · cases hp
theorem len_ok : FnOk P C0 10 lenS := by
  refine fn_okC ctx1 (show P.funcs[10]? = some f10f by kernel_rfl) (of_decide_eq_true (by kernel_rfl)) lenS f10h (fun ds os lf hp => ?_)
  unfold lenS at hp
  simp only at hp
  split at hp
  · rename_i n a e1 e2 l e3 b
    obtain ⟨rfl, rfl, rfl, rfl, hq⟩ := gT_pick hp
    replace hp := hq
    simp only [Out.pick] at hp
    cases hc : (okT l a b) with
    | false => rw [hc] at hp; cases hp
    | true =>
      rw [hc] at hp
      simp only [cond_true, Option.some.injEq] at hp
      subst hp
      rw [okT_iff] at hc
      obtain ⟨_, _, _, rfl, rfl⟩ := hc
      exact ⟨0, f10_ev 0 l _ _⟩
  · cases hp

end Go.S2
