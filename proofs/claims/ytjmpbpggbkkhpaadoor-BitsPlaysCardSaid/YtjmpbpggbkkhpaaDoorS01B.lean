/-
  Seat 01: first contracts.
-/
import Derived.Test.YtjmpbpggbkkhpaaDoorS01G1
import Derived.Test.YtjmpbpggbkkhpaaDoorS01T
open Go Go.En
namespace Go.S1
theorem ctx1 : CtxOk C1 := fun _ _ h => by cases h
theorem in_ok : FnOk P C0 32 inS := by
  refine fn_okC ctx1 (show P.funcs[32]? = some f32f by kernel_rfl) (of_decide_eq_true (by kernel_rfl)) inS f32h (fun ds os lf hp => ?_)
  unfold inS at hp
  simp only at hp
  split at hp
  · rename_i i
    simp only [Out.pick, Option.some.injEq] at hp
    subst hp
    exact ⟨0, f32n_ev 0 i⟩
  · rename_i i n e ws
    obtain ⟨rfl, hq⟩ := gS_pick hp
    replace hp := hq
    simp only [Out.pick, Option.some.injEq] at hp
    subst hp
    refine ⟨0, (f32_ev 0 n ws i).trans ?_⟩
    show f32T n ws i = _
    unfold f32T inF
    cases decide (i ≥ 0) <;> rfl
  · cases hp
theorem size_ok : FnOk P C0 16 sizeS := by
  refine fn_okC ctx1 (show P.funcs[16]? = some f16f by kernel_rfl) (of_decide_eq_true (by kernel_rfl)) sizeS f16h (fun ds os lf hp => ?_)
  unfold sizeS at hp
  simp only at hp
  split at hp
  · skip
    simp only [Out.pick, Option.some.injEq] at hp
    subst hp
    exact ⟨0, f16n_ev 0⟩
  · rename_i n e ws
    obtain ⟨rfl, hq⟩ := gS_pick hp
    replace hp := hq
    simp only [Out.pick, Option.some.injEq] at hp
    subst hp
    exact ⟨0, f16_ev 0 n ws⟩
  · cases hp
theorem new_T {n : Int} : f9T n = bif decide (n < 0) || decide (n > 4096) then some ⟨[.one .np, pE (.no 1)], [], []⟩ else some ⟨[.one (.pv ⟨1, 0⟩ 0), pE .nil], [], [vaS ⟨1, 1⟩ n, roW (List.replicate ((n.toNat + 63) / 64) 0)]⟩ := by
  unfold f9T
  by_cases h : n < 0 ∨ n > 4096
  · have e : (decide (n < 0) || decide (n > 4096)) = true := by simpa using h
    rw [e]; rfl
  · have e : (decide (n < 0) || decide (n > 4096)) = false := by simpa using h
    have e1 : IntKind.i64.wrap ((IntKind.i64.wrap (IntKind.i64.wrap (n + 64) - 1)).tdiv 64) = (((n.toNat + 63) / 64 : Nat) : Int) := by
      rw [i64_wrap_in (n := n + 64) (by omega) (by omega), i64_wrap_in (n := n + 64 - 1) (by omega) (by omega), Int.tdiv_eq_ediv_of_nonneg (by omega), i64_wrap_in (by omega) (by omega)]
      omega
    have e2 : (decide ((0 : Int) ≤ (((n.toNat + 63) / 64 : Nat) : Int)) && (decide ((((n.toNat + 63) / 64 : Nat) : Int) ≤ (((n.toNat + 63) / 64 : Nat) : Int)) && decide (8 * ((((n.toNat + 63) / 64 : Nat) : Int)).toNat ≤ 140737488355328))) = true := by
      simp only [Bool.and_eq_true, decide_eq_true_eq, Int.toNat_natCast]; omega
    rw [e, e1, e2, Int.toNat_natCast]
    rfl
theorem new_ok : FnOk P C0 9 newS := by
  refine fn_okC ctx1 (show P.funcs[9]? = some f9f by kernel_rfl) (of_decide_eq_true (by kernel_rfl)) newS f9h (fun ds os lf hp => ?_)
  unfold newS at hp
  simp only at hp
  split at hp
  · rename_i n
    refine ⟨0, (f9_ev 0 n).trans ?_⟩
    show f9T n = _
    rw [new_T, ← hp]
    rfl
  · cases hp
theorem count0_ok : FnOk P C0 20 (np1 [pI 0]) := by
  refine fn_okC ctx1 (show P.funcs[20]? = some f20nf by kernel_rfl) (of_decide_eq_true (by kernel_rfl)) (np1 [pI 0]) f20nh (fun ds os lf hp => ?_)
  unfold np1 at hp
  simp only at hp
  split at hp
  · simp only [Out.pick, Option.some.injEq] at hp
    subst hp
    exact ⟨0, f20n_ev 0⟩
  · cases hp
theorem copy0_ok : FnOk P C0 31 (np1 [.one .np]) := by
  refine fn_okC ctx1 (show P.funcs[31]? = some f31nf by kernel_rfl) (of_decide_eq_true (by kernel_rfl)) (np1 [.one .np]) f31nh (fun ds os lf hp => ?_)
  unfold np1 at hp
  simp only at hp
  split at hp
  · simp only [Out.pick, Option.some.injEq] at hp
    subst hp
    exact ⟨0, f31n_ev 0⟩
  · cases hp
theorem same0_ok : FnOk P C0 18 (np2 [pB true]) := by
  refine fn_okC ctx1 (show P.funcs[18]? = some f18nf by kernel_rfl) (of_decide_eq_true (by kernel_rfl)) (np2 [pB true]) f18nh (fun ds os lf hp => ?_)
  unfold np2 at hp
  simp only at hp
  split at hp
  · simp only [Out.pick, Option.some.injEq] at hp
    subst hp
    exact ⟨0, f18n_ev 0⟩
  · cases hp
theorem turn0_ok : FnOk P C0 34 turn0S := by
  refine fn_okC ctx1 (show P.funcs[34]? = some f34nf by kernel_rfl) (of_decide_eq_true (by kernel_rfl)) turn0S f34nh (fun ds os lf hp => ?_)
  unfold turn0S at hp
  simp only at hp
  split at hp
  · rename_i g
    simp only [Out.pick, Option.some.injEq] at hp
    subst hp
    exact ⟨0, f34n_ev 0 g⟩
  · cases hp
end Go.S1
