/-
  Seat 11: One; what alive and the laws call.
-/
import Derived.Test.YtoghhokbakphlaaDoorS11I
open Go Go.En
namespace Go.S11
def oneCh : List (List ChV) := [[(⟨#[]⟩, [(0, 1, ())], ())]]
def oneNm : List ByteArray := [⟨#[97]⟩]
def oneS : En.Spec := ⟨[], fun ds os => match ds, os with
  | [], [] => .leaf [.agg [.d (.fz true) (.i .i64) 0, .d (.fz true) (.l (.l chSh)) oneCh, .d (.fz true) (.l .s) oneNm, .d (.fz true) (.l (.l (.i .i64))) [[0]]]] [] []
  | _, _ => .fail⟩
theorem one_ok : FnOk P C0 20 oneS := by
  refine fn_okC ctx11 (show P.funcs[20]? = some f120f by kernel_rfl) (of_decide_eq_true (by kernel_rfl)) oneS f120h (fun ds os lf hp => ?_)
  unfold oneS at hp
  simp only at hp
  split at hp
  · simp only [Out.pick, Option.some.injEq] at hp
    subst hp
    exact ⟨0, f120_ev 0 0⟩
  · cases hp
def aliveS : En.Spec := ⟨[], fun ds os => match ds, os with
  | [], [] => .leaf [pB true] [] []
  | _, _ => .fail⟩
noncomputable def l12 : List (Nat × En.Spec) := [(9, ofMS), (11, checkMS), (12, lettersS), (14, numS), (20, oneS)]
noncomputable def C12 : Ctx := ctxOf C0 l12
theorem ctx12 : CtxOk C12 := fun _ _ h => tbl_ok (l := l12) ⟨ofM_ok, checkM_ok, letters_ok, num_ok, one_ok, trivial⟩ h
noncomputable def l13 : List (Nat × En.Spec) := [(6, aliveS), (7, farMS), (8, rightMS), (9, ofMS), (10, reachS), (11, checkMS), (12, lettersS), (13, rlettersS), (14, numS), (15, intsS), (16, reachS), (17, supS), (18, hasTS)]
noncomputable def C13 : Ctx := ctxOf C0 l13
def h3 : Hn := ⟨fun | 10009 => [3, 7, 8] | 13 => [3, 7, 10, 11, 12] | 17 => [3, 7, 10, 11, 12, 13, 14] | 27 => [15, 17, 19] | _ => [], fun | 10009 => [⟨8, none, 3, .z⟩] | _ => [], fun _ => false⟩
def h4 : Hn := ⟨fun | 12 => [2, 5, 11] | 15 => [2, 5, 11, 12] | 19 => [2, 5, 11, 12, 13, 14] | 24 => [2, 5, 11, 12, 13, 15] | 28 => [2, 5, 11, 12, 13, 15, 16, 17] | _ => [], fun _ => [], fun _ => false⟩
def d8l (l : List Int) : D := one (.d (.fz false) (.l (.i .u8)) l)
def d8 (v : Int) : D := one (.d (.fz true) (.i .u8) v)
end Go.S11
