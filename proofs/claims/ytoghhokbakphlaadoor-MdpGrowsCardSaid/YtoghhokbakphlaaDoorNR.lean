/-
  slices.Sort of numbers, of none too, as a contract; a short way to write slots that are dead.
-/
import Derived.Test.YtoghhokbakphlaaDoorNQ
namespace Go.En
open Go Go.Sort
/-- slots that are dead, ahead of others -/
abbrev dd (n : Nat) (l : List D) : List D := List.replicate n dead ++ l
def sortS0 (ti : Nat) : En.Spec := ⟨[0], fun ds os => match ds, os with
  | [.p (.one (.rw ⟨0, 0⟩))], [.ro true 0 e (.i .i64) .z l none] => bif e.beq ti then .br (Nat.ble l.length 1000000) (.leaf [] [.ro true 0 e (.i .i64) .z (sortI l) none] []) .fail else .fail
  | _, _ => .fail⟩
theorem sort_fn0 {P : Program} {E : Ctx0} {g : FuncId} (ti : Nat)
    (hent : ∀ (vs : Array Value) (w : World), (callFunc g vs).run P w = .ok (.enter g vs) w)
    (hs : ∀ (blk off cap : Nat) (zs : List Int) (w : World), Holds (Value.int .i64) w blk off zs.toArray → blk < w.heap.size → zs.length < 4611686018427387904 →
      Calls P g #[.slice (some ⟨blk, off, none⟩) zs.length cap] w fun e w' => e = .returned (.tuple #[]) ∧ ∃ n os, w' = grow (putRow (Value.int .i64) (Sort.ahead w n) blk off (zs.mergeSort fun x y => decide (x ≤ y)).toArray) os)
    (hnil : ∀ (p : Option Addr) (cap : Nat) (w : World), Calls P g #[.slice p 0 cap] w fun e w' => e = .returned (.tuple #[]) ∧ w' = w) :
    FnOk P E g (sortS0 ti) := by
  intro w M γ ds os vs hr lf hp
  unfold sortS0 at hp
  simp only at hp
  split at hp
  · rename_i e l
    cases he : e.beq ti with
    | false => rw [he] at hp; cases hp
    | true =>
      rw [he] at hp
      simp only [cond_true, Out.pick] at hp
      cases hc : (Nat.ble l.length 1000000) with
      | false => rw [hc] at hp; cases hp
      | true =>
        rw [hc] at hp
        simp only [cond_true, Option.some.injEq] at hp
        by_cases h1 : 1 ≤ l.length
        · refine sort_fn ti hent hs w M γ _ _ vs hr lf ?_
          show (bif e.beq ti then Out.br (Nat.ble 1 l.length && Nat.ble l.length 1000000) (.leaf [] [.ro true 0 e (.i .i64) .z (sortI l) none] []) .fail else .fail).pick = some lf
          rw [he, hc, ble_of h1]
          exact congrArg some hp
        · have hl : l = [] := List.length_eq_zero_iff.1 (by omega)
          subst hl
          rw [show sortI [] = [] by unfold sortI; simp] at hp
          subst hp
          have hsz : vs.size = 1 := hr.n
          obtain ⟨x, rfl⟩ : ∃ x, vs = #[x] := by
            match vs, hsz with
            | ⟨[x]⟩, _ => exact ⟨x, rfl⟩
          obtain ⟨x', hx', _, hhd⟩ : ∃ x', [x] = [x'] ∧ _ ∧ _ := hr.sl 0
          have hxx : x = x' := by injection hx'
          subst hxx
          have hhd := hhd rfl
          have hob := hr.ob ⟨0, 0⟩
          obtain ⟨hrow, _⟩ : Row w e 1 0 (γ.hd ⟨0, 0⟩) (γ.fp ⟨0, 0⟩) _ ∧ _ := hob
          have hxs : ∃ p cap, x = .slice p 0 cap := by
            rcases hrow with ⟨q1, _, _⟩ | ⟨b, c, cur, css, Fs, q1, _⟩
            · exact ⟨none, 0, hhd.trans q1⟩
            · exact ⟨some ⟨b, 0, none⟩, c, hhd.trans q1⟩
          obtain ⟨p, cap, rfl⟩ := hxs
          unfold CallsF
          rw [hent]
          simp only
          refine (hnil p cap w).mono ?_
          rintro ev w' ⟨rfl, rfl⟩
          simp only
          refine ⟨K0 M, γ, ?_⟩
          refine { n := rfl, sl := fun t => ?_, ob := fun o => ?_, dj := hr.dj, nd := hr.nd, ow := hr.ow, kb := hr.kb, kk := hr.kk, k1 := hr.k1, k0 := hr.k0, sz := hr.sz, fr := hr.fr, os := hr.os, tape := hr.tape, output := hr.output, g0 := hr.g0, h0 := fun j hj => ?_ }
          · cases t with
            | zero => exact ⟨#[], rfl, rfl⟩
            | succ t => rfl
          · obtain ⟨t, j⟩ := o
            match t, j with
            | 0, 0 => exact hr.ob ⟨0, 0⟩
            | 0, j + 1 => exact hr.ob ⟨0, j + 1⟩
            | 1, 0 => exact hr.ob ⟨1, 0⟩
            | 1, j + 1 => exact hr.ob ⟨1, j + 1⟩
            | t + 2, j => exact hr.ob ⟨t + 2, j⟩
          · have := hr.h0 j hj
            match j with
            | 0 => exact this
            | j + 1 => exact this
  · cases hp
end Go.En
