/-
  Seat 02 (plays): the contracts of Num and of the document's Find.
-/
import Derived.Test.YtbdicebddicbkaaDoorS42C
import Derived.Test.YtbdicebddicbkaaDoorAs43
open Go Go.En
namespace Go.S2
/-- an error that isn't at a place -/
def plain : Er → Bool
  | .at .. => false
  | _ => true
def numOf : Er → Int
  | .nil => 0
  | .no n => n
  | .at _ e => numOf e
def numS : En.Spec := ⟨[], fun ds os => match ds with
  | [.p (.one (.d (.fz _) .e v))] => .br (plain v) (.leaf [pI (numOf v)] os []) .fail
  | _ => .fail⟩
theorem num_ok : FnOk P C0 9 numS := by
  intro w M γ ds os vs hr lf hp
  unfold numS at hp
  simp only at hp
  split at hp
  · rename_i f v
    simp only [Out.pick] at hp
    cases hv : plain v with
    | false => rw [hv] at hp; cases hp
    | true =>
      rw [hv] at hp
      simp only [cond_true, Option.some.injEq] at hp
      subst hp
      have hsz : vs.size = 1 := hr.n
      obtain ⟨x, rfl⟩ : ∃ x, vs = #[x] := by
        match vs, hsz with
        | ⟨[x]⟩, _ => exact ⟨x, rfl⟩
      have h0 : Ro C0 w (K0 M f) .e v [x] := hr.sl 0
      have fin : ∀ (n : Int) (w' : World), Grow w w' → ∃ K' γ', Rel C0 w M K' γ' (sgOf [resD [pI n]] os []) #[.int .i64 n] w' := by
        intro n w' hg
        have h1 := hr.grow hg
        refine ⟨K0 M, γ, { h1 with n := rfl, sl := fun t => ?_ }⟩
        cases t with
        | zero => exact Ro.i
        | succ t => rfl
      have hent : (callFunc 9 #[x]).run P w = .ok (.enter 9 #[x]) w := by
        have hf : P.funcs[9]? = some Go.Proofs.Tryd.f9 := Go.Proofs.Tryd.func9
        have hnm : Go.Proofs.Tryd.f9.name ≠ "runtime.NumGoroutine" := of_decide_eq_true (by kernel_rfl)
        obtain ⟨c, hb⟩ : ∃ c, Go.Proofs.Tryd.f9.body = some c := Option.isSome_iff_exists.1 (by kernel_rfl)
        simp [callFunc, hf, hnm, hb]
      unfold CallsF
      rw [hent]
      simp only
      cases h0 with
      | enil =>
        refine Calls.mono (As2.num_nil w) (fun e w' he => ?_)
        obtain ⟨rfl, rfl⟩ := he
        exact fin 0 _ (Grow.refl _)
      | eno =>
        rename_i n
        have hgl := (hr.g0 (by simp [C0])).1 _ rfl
        refine Calls.mono (As2.num_no n w hgl) (fun e w' he => ?_)
        obtain ⟨rfl, h1, h2, h3, h4, h5⟩ := he
        exact fin n _ ⟨h1, h2, h3, h4, h5⟩
      | eat _ _ _ _ => cases hv
  · cases hp


def bigs (l : List (List Int)) : Bool := l.all big
theorem bigs_all {l : List (List Int)} (h : bigs l = true) : ∀ x ∈ l, big x = true := List.all_eq_true.1 h
def rfind (l : List (List Int)) (v : List Int) : Int := bif (fnd l v).2 then (fnd l v).1 else -1
def rfindS : En.Spec := ⟨[], fun ds os => match ds, os with
  | [.p (.one (.d (.fz false) (.l (.l (.i .i32))) l)), .p (.one (.d (.fz false) (.l (.i .i32)) v))], [] => .br (Nat.ble l.length 100000 && (bigs l && big v)) (.leaf [pI (rfind l v)] [] []) .fail
  | _, _ => .fail⟩
end Go.S2
