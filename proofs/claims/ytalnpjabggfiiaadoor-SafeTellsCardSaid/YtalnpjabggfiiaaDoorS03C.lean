/-
  Seat 03 (safe): the contracts of the functions that call those.
-/
import Derived.Test.YtalnpjabggfiiaaDoorS03G2
import Derived.Test.YtalnpjabggfiiaaDoorEd
open Go Go.En
namespace Go.S3
theorem ctx2 : CtxOk C2 := fun _ _ h => tbl_ok (l := l2) ⟨add_ok, sub_ok, mul_ok, gcd_ok, num_ok, rgcd_ok, add64_ok, size_ok, fits_ok, mul64_ok, trivial⟩ h
theorem alive_T : f8T = some ⟨[pB true], [], []⟩ := by kernel_rfl
theorem alive_ok : FnOk P C0 8 aliveS := by
  refine fn_okC ctx2 (show P.funcs[8]? = some f8f by kernel_rfl) (of_decide_eq_true (by kernel_rfl)) aliveS f8h (fun ds os lf hp => ?_)
  unfold aliveS at hp
  simp only at hp
  split at hp
  · skip
    simp only [Out.pick, Option.some.injEq] at hp
    subst hp
    exact ⟨0, (f8_ev 0).trans alive_T⟩
  · cases hp
theorem neg_ok : FnOk P C0 13 (spI neg) := by
  refine fn_okC ctx2 (show P.funcs[13]? = some f13f by kernel_rfl) (of_decide_eq_true (by kernel_rfl)) (spI neg) f13h (fun ds os lf hp => ?_)
  unfold spI at hp
  simp only at hp
  split at hp
  · rename_i a
    simp only [Out.pick, Option.some.injEq] at hp
    subst hp
    exact ⟨0, f13_ev 0 a⟩
  · cases hp

theorem sum_loop (l : List Int) (hl : l.length ≤ 9223372036854775806) : ∀ (m n : Nat) (acc : Int) (k : Nat), k ≤ l.length → l.length - k < m → f14L0 n m acc l (l.length : Int) (k : Int) = some ⟨[pI (sumF acc (l.drop k)).1, pE (sumF acc (l.drop k)).2], [], []⟩
  | 0, _, _, _, _, h => absurd h (Nat.not_lt_zero _)
  | m + 1, n, acc, k, hk, h => by
    show f14S0 (f14L0 n m) acc l (l.length : Int) (k : Int) = _
    unfold f14S0
    by_cases h0 : k < l.length
    · have e1 : decide ((k : Int) < (l.length : Int)) = true := by simpa using h0
      have e2 : inb (k : Int) l.length = true := by simp [inb, h0]
      have e3 : l.drop k = l.getD k 0 :: l.drop (k + 1) := by
        rw [List.drop_eq_getElem_cons h0]; simp [List.getD_eq_getElem?_getD, h0]
      have e4 : IntKind.i64.wrap ((k : Int) + 1) = ((k + 1 : Nat) : Int) := by
        rw [i64_wrap_nat (by omega) (by omega)]; rfl
      rw [e1, e2, e4, sum_loop l hl m n _ (k + 1) h0 (by omega), e3]
      simp only [cond_true, Int.toNat_natCast]
      rw [show sumF acc (l.getD k 0 :: l.drop (k + 1)) = bif (add acc (l.getD k 0)).2.isNil then sumF (add acc (l.getD k 0)).1 (l.drop (k + 1)) else (0, (add acc (l.getD k 0)).2) from rfl]
      cases (add acc (l.getD k 0)).2.isNil <;> rfl
    · have e1 : decide ((k : Int) < (l.length : Int)) = false := by simpa using h0
      rw [e1, List.drop_eq_nil_of_le (by omega)]
      rfl
theorem sum_ok : FnOk P C0 14 sumS := by
  refine fn_okC ctx2 (show P.funcs[14]? = some f14f by kernel_rfl) (of_decide_eq_true (by kernel_rfl)) sumS f14h (fun ds os lf hp => ?_)
  unfold sumS at hp
  simp only at hp
  split at hp
  · rename_i l
    simp only [Out.pick] at hp
    cases hc : (Nat.ble l.length 9223372036854775806) with
    | false => rw [hc] at hp; cases hp
    | true =>
      rw [hc] at hp
      simp only [cond_true, Option.some.injEq] at hp
      subst hp
      have hl : l.length ≤ 9223372036854775806 := Nat.le_of_ble_eq_true hc
      exact ⟨l.length + 1, (f14_ev _ l).trans (sum_loop l hl _ _ 0 0 (Nat.zero_le _) (by omega))⟩
  · cases hp
theorem size_nonneg (a : Int) : 0 ≤ size a := by
  unfold size
  cases decide (a < 0)
  · exact (u64_wrap_range _).1
  · exact (u64_wrap_range _).1
theorem radd_ok : FnOk P C0 17 (spIB radd) := by
  refine fn_okC ctx2 (show P.funcs[17]? = some f17f by kernel_rfl) (of_decide_eq_true (by kernel_rfl)) (spIB radd) f17h (fun ds os lf hp => ?_)
  unfold spIB at hp
  simp only at hp
  split at hp
  · rename_i a b
    simp only [Out.pick, Option.some.injEq] at hp
    subst hp
    refine ⟨0, (f17_ev 0 a b).trans ?_⟩
    show f17T a b = _
    have e1 : decide (0 ≤ size a) = true := by simpa using size_nonneg a
    have e2 : decide (0 ≤ size b) = true := by simpa using size_nonneg b
    unfold f17T radd
    rw [e1, e2]
    cases (decide (a < 0) == decide (b < 0)) <;> cases decide (size a ≥ size b) <;> rfl
  · cases hp
theorem is_ok : FnOk P C0 18 isS := by
  refine fn_okC ctx2 (show P.funcs[18]? = some f18f by kernel_rfl) (of_decide_eq_true (by kernel_rfl)) isS f18h (fun ds os lf hp => ?_)
  unfold isS at hp
  simp only at hp
  split at hp
  · rename_i a e b c
    simp only [Out.pick] at hp
    cases hc : (plain e) with
    | false => rw [hc] at hp; cases hp
    | true =>
      rw [hc] at hp
      simp only [cond_true, Option.some.injEq] at hp
      subst hp
      refine ⟨0, (f18_ev 0 a e b c).trans ?_⟩
      show f18T a e b c = _
      unfold f18T isF
      rw [hc]
      cases c <;> cases (a == 0) <;> rfl
  · cases hp
theorem rmul_ok : FnOk P C0 20 (spIB rmul) := by
  refine fn_okC ctx2 (show P.funcs[20]? = some f20f by kernel_rfl) (of_decide_eq_true (by kernel_rfl)) (spIB rmul) f20h (fun ds os lf hp => ?_)
  unfold spIB at hp
  simp only at hp
  split at hp
  · rename_i a b
    simp only [Out.pick, Option.some.injEq] at hp
    subst hp
    exact ⟨0, f20_ev 0 a b⟩
  · cases hp
end Go.S3
