/-
  Seat 03 (safe): the contracts of the functions that call none.
-/
import Derived.Test.YtalnpjabggfiiaaDoorS03G1
import Derived.Laws.Externs
open Go Go.En
namespace Go.S3
theorem num_ok : FnOk P C0 15 numS := by
  intro w M γ ds os vs hr lf hp
  unfold numS at hp
  simp only at hp
  split at hp
  · rename_i f v
    simp only [Out.pick] at hp
    cases hv : plain v with
    | false => rw [hv] at hp; cases hp
    | true =>
      rw [hv] at hp
      simp only [cond_true, Option.some.injEq] at hp
      subst hp
      have hsz : vs.size = 1 := hr.n
      obtain ⟨x, rfl⟩ : ∃ x, vs = #[x] := by
        match vs, hsz with
        | ⟨[x]⟩, _ => exact ⟨x, rfl⟩
      have h0 : Ro C0 w (K0 M f) .e v [x] := hr.sl 0
      have fin : ∀ (n : Int) (w' : World), Grow w w' → ∃ K' γ', Rel C0 w M K' γ' (sgOf [resD [pI n]] os []) #[.int .i64 n] w' := by
        intro n w' hg
        have h1 := hr.grow hg
        refine ⟨K0 M, γ, { h1 with n := rfl, sl := fun t => ?_ }⟩
        cases t with
        | zero => exact Ro.i
        | succ t => rfl
      have hent : (callFunc 15 #[x]).run P w = .ok (.enter 15 #[x]) w := by
        have hf : P.funcs[15]? = some Go.Proofs.Tryd.f15 := Go.Proofs.Tryd.func15
        have hnm : Go.Proofs.Tryd.f15.name ≠ "runtime.NumGoroutine" := of_decide_eq_true (by kernel_rfl)
        obtain ⟨c, hb⟩ : ∃ c, Go.Proofs.Tryd.f15.body = some c := Option.isSome_iff_exists.1 (by kernel_rfl)
        simp [callFunc, hf, hnm, hb]
      unfold CallsF
      rw [hent]
      simp only
      cases h0 with
      | enil =>
        refine Calls.mono (As2.num_nil w) (fun e w' he => ?_)
        obtain ⟨rfl, rfl⟩ := he
        exact fin 0 _ (Grow.refl _)
      | eno =>
        rename_i n
        have hgl := (hr.g0 (by simp [C0])).1 _ rfl
        refine Calls.mono (As2.num_no n w hgl) (fun e w' he => ?_)
        obtain ⟨rfl, h1, h2, h3, h4, h5⟩ := he
        exact fin n _ ⟨h1, h2, h3, h4, h5⟩
      | eat _ _ _ _ => cases hv
  · cases hp


theorem ctx1 : CtxOk C1 := fun _ _ h => by cases h
theorem add_ok : FnOk P C0 9 (spII add) := by
  refine fn_okC ctx1 (show P.funcs[9]? = some f9f by kernel_rfl) (of_decide_eq_true (by kernel_rfl)) (spII add) f9h (fun ds os lf hp => ?_)
  unfold spII at hp
  simp only at hp
  split at hp
  · rename_i a b
    simp only [Out.pick, Option.some.injEq] at hp
    subst hp
    refine ⟨0, (f9_ev 0 a b).trans ?_⟩
    show f9T a b = _
    unfold add addOv f9T
    cases ((decide (a < 0) == decide (b < 0)) && !(decide (wr (a + b) < 0) == decide (a < 0))) <;> rfl
  · cases hp
theorem sub_ok : FnOk P C0 10 (spII sub) := by
  refine fn_okC ctx1 (show P.funcs[10]? = some f10f by kernel_rfl) (of_decide_eq_true (by kernel_rfl)) (spII sub) f10h (fun ds os lf hp => ?_)
  unfold spII at hp
  simp only at hp
  split at hp
  · rename_i a b
    simp only [Out.pick, Option.some.injEq] at hp
    subst hp
    refine ⟨0, (f10_ev 0 a b).trans ?_⟩
    show f10T a b = _
    unfold sub subOv f10T
    cases (!(decide (a < 0) == decide (b < 0)) && !(decide (wr (a - b) < 0) == decide (a < 0))) <;> rfl
  · cases hp

theorem mul_ev (a b : Int) : f11T a b = some ⟨[pI (mul a b).1, pE (mul a b).2], [], []⟩ := by
  have hb : decide (b ≠ 0) = !(b == 0) := by by_cases h : b = 0 <;> simp [h]
  unfold f11T mul mulZ mulOv
  rw [hb]
  unfold bne
  generalize (a == 0) = c1
  generalize (b == 0) = c2
  generalize (a == -1) = c3
  generalize (b == -9223372036854775808) = c4
  generalize (b == -1) = c5
  generalize (a == -9223372036854775808) = c6
  generalize (IntKind.i64.wrap ((IntKind.i64.wrap (a * b)).tdiv b) == a) = c7
  cases c1 <;> cases c2 <;> cases c3 <;> cases c4 <;> cases c5 <;> cases c6 <;> cases c7 <;> rfl
theorem mul_ok : FnOk P C0 11 (spII mul) := by
  refine fn_okC ctx1 (show P.funcs[11]? = some f11f by kernel_rfl) (of_decide_eq_true (by kernel_rfl)) (spII mul) f11h (fun ds os lf hp => ?_)
  unfold spII at hp
  simp only at hp
  split at hp
  · rename_i a b
    simp only [Out.pick, Option.some.injEq] at hp
    subst hp
    exact ⟨0, (f11_ev 0 a b).trans (mul_ev a b)⟩
  · cases hp

theorem gcd_loop : ∀ (m : Nat) (n : Nat) (a b : Nat), b < m → f12L0 n m a b = some ⟨[pI (Nat.gcd a b : Nat), pE .nil], [], []⟩
  | 0, _, _, _, h => absurd h (Nat.not_lt_zero _)
  | m + 1, n, a, b, h => by
    show f12S0 (f12L0 n m) a b = _
    unfold f12S0
    by_cases h0 : b = 0
    · subst h0
      rw [Nat.gcd_zero_right]
      rfl
    · have e1 : ((b : Int) != 0) = true := by simpa using h0
      have e2 : decide ((b : Int) ≠ 0) = true := by simpa using h0
      rw [e1, e2]
      simp only [cond_true]
      have hm : (a : Int).tmod b = ((a % b : Nat) : Int) := by
        rw [Int.tmod_eq_emod_of_nonneg (by omega)]; rfl
      have h2 : a % b < b := Nat.mod_lt _ (by omega)
      rw [hm, gcd_loop m n b (a % b) (by omega), Nat.gcd_comm a b, Nat.gcd_rec b a, Nat.gcd_comm]
theorem gcd_ok : FnOk P C0 12 (spII gcd) := by
  refine fn_okC ctx1 (show P.funcs[12]? = some f12f by kernel_rfl) (of_decide_eq_true (by kernel_rfl)) (spII gcd) f12h (fun ds os lf hp => ?_)
  unfold spII at hp
  simp only at hp
  split at hp
  · rename_i a b
    simp only [Out.pick, Option.some.injEq] at hp
    subst hp
    refine ⟨b.toNat + 1, (f12_ev _ a b).trans ?_⟩
    unfold f12M f12T gcd
    by_cases ha : a < 0
    · simp only [ha, decide_true, Bool.true_or, cond_true]; rfl
    · by_cases hb : b < 0
      · simp only [ha, hb, decide_true, decide_false, Bool.or_true, cond_true]; rfl
      · simp only [ha, hb, decide_false, Bool.or_false, cond_false]
        obtain ⟨A, rfl⟩ := Int.eq_ofNat_of_zero_le (Int.not_lt.1 ha)
        obtain ⟨B, rfl⟩ := Int.eq_ofNat_of_zero_le (Int.not_lt.1 hb)
        exact gcd_loop _ _ A B (by simp)
  · cases hp
theorem rgcd_loop : ∀ (m : Nat) (n : Nat) (a b : Nat), a + b < m → f16L0 n m a b = some ⟨[pI (wr (Nat.gcd a b : Nat))], [], []⟩
  | 0, _, _, _, h => absurd h (Nat.not_lt_zero _)
  | m + 1, n, a, b, h => by
    show f16S0 (f16L0 n m) a b = _
    unfold f16S0
    by_cases ha : a = 0
    · subst ha
      rw [Nat.gcd_zero_left]
      show some (Lf.mk [pI (wr (((0 : Nat) : Int) + (b : Int)))] [] []) = _
      rw [show ((0 : Nat) : Int) + (b : Int) = (b : Int) by simp]
    · have e1 : ((a : Int) != 0) = true := by simpa using ha
      have e1' : decide ((a : Int) ≠ 0) = true := by simpa using ha
      by_cases hb : b = 0
      · subst hb
        rw [Nat.gcd_zero_right, e1]
        show some (Lf.mk [pI (wr ((a : Int) + ((0 : Nat) : Int)))] [] []) = _
        rw [show (a : Int) + ((0 : Nat) : Int) = (a : Int) by simp]
      · have e2 : ((b : Int) != 0) = true := by simpa using hb
        have e2' : decide ((b : Int) ≠ 0) = true := by simpa using hb
        rw [e1, e2, e1', e2']
        simp only [cond_true, Bool.and_self]
        by_cases hab : (a : Int) ≥ b
        · simp only [hab, decide_true, cond_true]
          have hm : (a : Int).tmod b = ((a % b : Nat) : Int) := by
            rw [Int.tmod_eq_emod_of_nonneg (by omega)]; rfl
          have h2 : a % b < b := Nat.mod_lt _ (by omega)
          rw [hm, rgcd_loop m n (a % b) b (by omega), Nat.gcd_comm a b, Nat.gcd_rec b a]
        · simp only [hab, decide_false, cond_false]
          have hm : (b : Int).tmod a = ((b % a : Nat) : Int) := by
            rw [Int.tmod_eq_emod_of_nonneg (by omega)]; rfl
          have h2 : b % a < a := Nat.mod_lt _ (by omega)
          rw [hm, rgcd_loop m n a (b % a) (by omega), Nat.gcd_rec a b, Nat.gcd_comm]
theorem rgcd_ok : FnOk P C0 16 rgcdS := by
  refine fn_okC ctx1 (show P.funcs[16]? = some f16f by kernel_rfl) (of_decide_eq_true (by kernel_rfl)) rgcdS f16h (fun ds os lf hp => ?_)
  unfold rgcdS at hp
  simp only at hp
  split at hp
  · rename_i a b
    simp only [Out.pick] at hp
    cases hc : (decide (0 ≤ a) && decide (0 ≤ b)) with
    | false => rw [hc] at hp; cases hp
    | true =>
      rw [hc] at hp
      simp only [cond_true, Option.some.injEq] at hp
      subst hp
      unfold rgcd
      rw [hc]
      simp only [Bool.and_eq_true, decide_eq_true_eq] at hc
      obtain ⟨A, rfl⟩ := Int.eq_ofNat_of_zero_le hc.1
      obtain ⟨B, rfl⟩ := Int.eq_ofNat_of_zero_le hc.2
      exact ⟨A + B + 1, (f16_ev _ _ _).trans (rgcd_loop _ _ A B (by omega))⟩
  · cases hp
theorem size_ok : FnOk P C0 23 sizeS := by
  refine fn_okC ctx1 (show P.funcs[23]? = some f23f by kernel_rfl) (of_decide_eq_true (by kernel_rfl)) sizeS f23h (fun ds os lf hp => ?_)
  unfold sizeS at hp
  simp only at hp
  split at hp
  · rename_i a
    simp only [Out.pick, Option.some.injEq] at hp
    subst hp
    refine ⟨0, (f23_ev 0 a).trans ?_⟩
    show f23T a = _
    unfold f23T size
    cases decide (a < 0) <;> rfl
  · cases hp
theorem fits_ok : FnOk P C0 24 fitsS := by
  refine fn_okC ctx1 (show P.funcs[24]? = some f24f by kernel_rfl) (of_decide_eq_true (by kernel_rfl)) fitsS f24h (fun ds os lf hp => ?_)
  unfold fitsS at hp
  simp only at hp
  split at hp
  · rename_i a b c
    simp only [Out.pick, Option.some.injEq] at hp
    subst hp
    refine ⟨0, (f24_ev 0 a b c).trans ?_⟩
    show f24T a b c = _
    unfold f24T fits
    cases decide (a > 0) <;> cases c <;> cases decide (b > 9223372036854775808) <;> cases (b == 9223372036854775808) <;> cases decide (b ≥ 9223372036854775808) <;> rfl
  · cases hp
theorem mul64_ok : FnOk P C0 25 mul64S := by
  refine fn_okC ctx1 (show P.funcs[25]? = some f25f by kernel_rfl) (of_decide_eq_true (by kernel_rfl)) mul64S f25h (fun ds os lf hp => ?_)
  unfold mul64S at hp
  simp only at hp
  split at hp
  · rename_i a b
    simp only [Out.pick, Option.some.injEq] at hp
    subst hp
    exact ⟨0, f25_ev 0 a b⟩
  · cases hp
theorem add64_ok : FnOk P C0 22 add64S := by
  intro w M γ ds os vs hr lf hp
  unfold add64S at hp
  simp only at hp
  split at hp
  · rename_i a b c
    simp only [Out.pick] at hp
    cases hc : (decide (0 ≤ a) && decide (0 ≤ b) && decide (0 ≤ c) && decide (c ≤ 1)) with
    | false => rw [hc] at hp; cases hp
    | true =>
      rw [hc] at hp
      simp only [cond_true, Option.some.injEq] at hp
      subst hp
      simp only [Bool.and_eq_true, decide_eq_true_eq] at hc
      have hsz : vs.size = 3 := hr.n
      obtain ⟨x, y, z, rfl⟩ : ∃ x y z, vs = #[x, y, z] := by
        match vs, hsz with
        | ⟨[x, y, z]⟩, _ => exact ⟨x, y, z, rfl⟩
      have h0 : Ro C0 w (K0 M true) (.i .u64) a [x] := hr.sl 0
      have h1 : Ro C0 w (K0 M true) (.i .u64) b [y] := hr.sl 1
      have h2 : Ro C0 w (K0 M true) (.i .u64) c [z] := hr.sl 2
      have e0 := Ro.inv_i h0
      have e1 := Ro.inv_i h1
      have e2 := Ro.inv_i h2
      simp only [List.cons.injEq, and_true] at e0 e1 e2
      subst e0 e1 e2
      have hrun : (callFunc 22 #[.int .u64 a, .int .u64 b, .int .u64 c]).run P w = .ok (.value (.tuple #[.int .u64 ((a + b + c) % 18446744073709551616), .int .u64 ((a + b + c) / 18446744073709551616)])) w := by
        rw [run_callFunc_extern (e := add64Entry) (fn := fn 22) (by kernel_rfl) (by kernel_rfl) (by kernel_rfl) (by kernel_rfl) (by kernel_rfl), run_add64 a b c hc.1.1.1 hc.1.1.2 hc.1.2 hc.2]
        rfl
      unfold CallsF
      rw [hrun]
      refine ⟨K0 M, γ, { hr with n := rfl, sl := fun t => ?_ }⟩
      cases t with
      | zero => exact ⟨_, rfl, _, _, rfl, Ro.i, _, _, rfl, Ro.i, rfl⟩
      | succ t => rfl
  · cases hp
end Go.S3
