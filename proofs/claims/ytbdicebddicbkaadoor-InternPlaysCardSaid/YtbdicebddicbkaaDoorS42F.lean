/-
  Seat 02 (plays): the contracts of alive and of the document's Find.
-/
import Derived.Test.YtbdicebddicbkaaDoorS42G4
open Go Go.En
namespace Go.S2
theorem ctx4 : CtxOk C4 := fun _ _ h => tbl_ok (l := l4) ⟨put_ok, num_ok, find_ok, at_ok, hash_ok, clone_ok, equal_ok, same_ok, new_ok, len_ok, trivial⟩ h
theorem alive_T : f4T = some ⟨[pB true], [], []⟩ := by kernel_rfl
theorem alive_ok : FnOk P C0 4 aliveS := by
  refine fn_okC ctx4 (show P.funcs[4]? = some f4f by kernel_rfl) (of_decide_eq_true (by kernel_rfl)) aliveS f4h (fun ds os lf hp => ?_)
  unfold aliveS at hp
  simp only at hp
  split at hp
  · simp only [Out.pick, Option.some.injEq] at hp
    subst hp
    exact ⟨0, (f4_ev 0).trans alive_T⟩
  · cases hp
theorem mem_getD {l : List (List Int)} {k : Nat} (h : k < l.length) : l.getD k [] ∈ l := by
  have : l.getD k [] = l[k] := by simp [List.getD_eq_getElem?_getD, h]
  rw [this]; exact List.getElem_mem h
theorem big_all {l : List (List Int)} (hb : ∀ x ∈ l, big x = true) {k : Nat} (h : k < l.length) : big (l.getD k []) = true := hb _ (mem_getD h)
theorem rfind_loop {l : List (List Int)} {v : List Int} (hlen : l.length ≤ 100000) (hb : ∀ x ∈ l, big x = true) (hv : big v = true) : ∀ (m n k : Nat), k ≤ l.length → l.length - k < m →
    f6L0 n m l v (k : Int) = some ⟨[pI (bif (fndF v k (l.drop k)).2 then (fndF v k (l.drop k)).1 else -1)], [], []⟩
  | 0, _, _, _, h => absurd h (Nat.not_lt_zero _)
  | m + 1, n, k, hk, hm => by
    show f6S0 (f6L0 n m) l v (k : Int) = _
    unfold f6S0
    by_cases h0 : k < l.length
    · have e1 : decide ((k : Int) < zn l.length) = true := by simp only [zn, decide_eq_true_eq]; omega
      have e2 : inb (k : Int) l.length = true := by simp only [inb, Bool.and_eq_true, decide_eq_true_eq]; omega
      rw [e1, e2]
      simp only [Int.toNat_natCast]
      rw [big_all hb h0, hv, wr_succ h0 (by omega), rfind_loop hlen hb hv m n (k + 1) h0 (by omega), getD_drop h0 []]
      show (bif same (l.getD k []) v then some (Lf.mk [pI (k : Int)] [] []) else _) = some (Lf.mk [pI (bif (bif same (l.getD k []) v then ((k : Int), true) else fndF v (k + 1) (l.drop (k + 1))).2 then (bif same (l.getD k []) v then ((k : Int), true) else fndF v (k + 1) (l.drop (k + 1))).1 else -1)] [] [])
      cases same (l.getD k []) v <;> rfl
    · have e1 : decide ((k : Int) < zn l.length) = false := by simp only [zn, decide_eq_false_iff_not]; omega
      rw [e1, List.drop_eq_nil_of_le (by omega)]; rfl
theorem rfind_ok : FnOk P C0 6 rfindS := by
  refine fn_okC ctx4 (show P.funcs[6]? = some f6f by kernel_rfl) (of_decide_eq_true (by kernel_rfl)) rfindS f6h (fun ds os lf hp => ?_)
  unfold rfindS at hp
  simp only at hp
  split at hp
  · rename_i l v
    simp only [Out.pick] at hp
    cases hc : (Nat.ble l.length 100000 && (bigs l && big v)) with
    | false => rw [hc] at hp; cases hp
    | true =>
      rw [hc] at hp
      simp only [cond_true, Option.some.injEq] at hp
      subst hp
      rw [Bool.and_eq_true, Bool.and_eq_true] at hc
      have hl : l.length ≤ 100000 := Nat.le_of_ble_eq_true hc.1
      exact ⟨l.length + 1, (f6_ev _ l v).trans (rfind_loop hl (bigs_all hc.2.1) hc.2.2 _ _ 0 (Nat.zero_le _) (by omega))⟩
  · cases hp
end Go.S2
