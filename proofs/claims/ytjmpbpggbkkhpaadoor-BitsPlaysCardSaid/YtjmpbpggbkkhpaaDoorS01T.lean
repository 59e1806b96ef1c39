/-
  Seat 01: math/bits.TrailingZeros64: its contract.
-/
import Derived.Test.YtjmpbpggbkkhpaaDoorS01A
import Derived.WalkKit
import Derived.RowKitTokens
import Derived.Shelf.Spec.TrailingZeros
open Go Go.En Go.RowKit
namespace Go.S1
set_option maxHeartbeats 1000000 in
theorem tz_core (x k idx : Nat) (w : World) (hx0 : ((x : Int) == 0) = false)
    (key : IntKind.u64.wrap (bits BinOp.and IntKind.u64 (x : Int) (IntKind.u64.wrap (-(x : Int))) * 285870213051353865) / 288230376151711744 = (idx : Int))
    (hi : idx < 64) (hk : k < 64) (hcell : w.cell? ⟨0, idx, none⟩ = some (.int .u8 k)) :
    Calls P 33 #[.int .u64 x] w fun e w' => e = .returned (.int .i64 k) ∧ w' = w := by
  go_enter Go.Proofs.Tryd.func33, Go.Proofs.Tryd.ntmps33
  go_wp2_with (simp only [key])
  go_ret
  exact ⟨rfl, rfl⟩
theorem tz_zero (w : World) : Calls P 33 #[.int .u64 0] w fun e w' => e = .returned (.int .i64 64) ∧ w' = w := by
  go_enter Go.Proofs.Tryd.func33, Go.Proofs.Tryd.ntmps33
  go_wp2
  go_ret
  exact ⟨rfl, rfl⟩
theorem tz_calls (x : Nat) (hx : x < 18446744073709551616) (w : World) (hT : ∀ j, j < 64 → w.cell? ⟨0, j, none⟩ = some (.int .u8 (Lib.deBruijn64tab.getD j 0))) :
    Calls P 33 #[.int .u64 x] w fun e w' => e = .returned (.int .i64 (Lib.ctz 64 x)) ∧ w' = w := by
  by_cases hx0 : x = 0
  · subst hx0
    exact tz_zero w
  · obtain ⟨hlow, hk⟩ := Lib.lowest_bit 64 x hx0 hx
    obtain ⟨hi, htab⟩ := Lib.deBruijn64_at _ hk
    have hcell := hT _ hi
    rw [htab] at hcell
    exact tz_core x _ _ w (by simp; omega) (Go.Proofs.tz64_key x _ hx hx0 hlow) hi hk hcell
def tzS : En.Spec := ⟨[], fun ds os => match ds, os with
  | [.p (.one (.d (.fz true) (.i .u64) x))], [] => .br (decide (0 ≤ x) && decide (x < 18446744073709551616)) (.leaf [pI (Lib.ctz 64 x.toNat : Nat)] [] []) .fail
  | _, _ => .fail⟩
theorem tz_ok : FnOk P C0 33 tzS := by
  intro w M γ ds os vs hr lf hp
  unfold tzS at hp
  simp only at hp
  split at hp
  · rename_i x
    simp only [Out.pick] at hp
    cases hc : (decide (0 ≤ x) && decide (x < 18446744073709551616)) with
    | false => rw [hc] at hp; cases hp
    | true =>
      rw [hc] at hp
      simp only [cond_true, Option.some.injEq] at hp
      subst hp
      rw [Bool.and_eq_true, decide_eq_true_eq, decide_eq_true_eq] at hc
      have hsz : vs.size = 1 := hr.n
      obtain ⟨y, rfl⟩ : ∃ y, vs = #[y] := by
        match vs, hsz with
        | ⟨[y]⟩, _ => exact ⟨y, rfl⟩
      have h0 : Ro C0 w (K0 M true) (.i .u64) x [y] := hr.sl 0
      have e0 := Ro.inv_i h0
      simp only [List.cons.injEq, and_true] at e0
      subst e0
      obtain ⟨X, rfl⟩ := Int.eq_ofNat_of_zero_le hc.1
      have hX : X < 18446744073709551616 := by have := hc.2; exact Int.ofNat_lt.1 this
      have hT : ∀ j, j < 64 → w.cell? ⟨0, j, none⟩ = some (.int .u8 (Lib.deBruijn64tab.getD j 0)) := by
        intro j hj
        refine (hr.g0.x.1 (0, tab) (List.mem_cons_self ..)).2 j _ ?_
        unfold tab
        rw [List.getElem?_map]
        have : j < Lib.deBruijn64tab.length := hj
        simp [List.getD_eq_getElem?_getD, this]
      have hent : (callFunc 33 #[.int .u64 (X : Int)]).run P w = .ok (.enter 33 #[.int .u64 (X : Int)]) w := by
        have hf : P.funcs[33]? = some Go.Proofs.Tryd.f33 := Go.Proofs.Tryd.func33
        have hnm : Go.Proofs.Tryd.f33.name ≠ "runtime.NumGoroutine" := of_decide_eq_true (by kernel_rfl)
        obtain ⟨c, hb⟩ : ∃ c, Go.Proofs.Tryd.f33.body = some c := Option.isSome_iff_exists.1 (by kernel_rfl)
        simp [callFunc, hf, hnm, hb]
      unfold CallsF
      rw [hent]
      refine Calls.mono (tz_calls X hX w hT) (fun e w' he => ?_)
      obtain ⟨rfl, rfl⟩ := he
      refine ⟨K0 M, γ, { hr with n := rfl, sl := fun t => ?_ }⟩
      cases t with
      | zero => exact Ro.i
      | succ t => rfl
  · cases hp
end Go.S1
