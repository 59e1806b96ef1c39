/-
  InternPlays returns true at every input, and its arguments read behind the call as they read before; under the condition that errors.errorType is as the program lays it (tied by the card).
-/
import Derived.Test.YtbdicebddicbkaaDoorS42R
import Derived.Test.YtbdicebddicbkaaDoorS42H
namespace Go.Proofs.YtbdicebddicbkaaDoor
open Go Go.En Go.ChangeShapes Go.WideShapes Go.RowKit
set_option maxRecDepth 100000
theorem internPlays_lifted (os : Os) (started : os.Started) (H : Type) (enc : TypeId × Value → H) :
    ReturnsInHanded {} Tryd.checked os 3 .any (fun w args => (Rows.internPlaysSpec.pre enc Tryd.prog Tryd.f3 [] false w args ∧ laidMetH Tryd.prog [("errors.errorType", Rows.laid_errors_errorType)] w) ∧ sizedMet enc Tryd.prog Tryd.f3 (OpenSpec.ofChange Rows.internPlaysSpec) false w args)
      (Rows.internPlaysSpec.post enc Tryd.prog Tryd.f3 false true false false) := by
  refine returnsInHanded_of_change_and (C := Tryd.checked) (X := fun w _ => laidMetH Tryd.prog [("errors.errorType", Rows.laid_errors_errorType)] w) (fun _ _ _ hh h => h.of_heap hh) own started (by kernel_rfl) Tryd.func3
    (ChangeSpec.witness_at (enc := enc) (C := Tryd.checked) (os := os) (X := fun w _ => laidMetH Tryd.prog [("errors.errorType", Rows.laid_errors_errorType)] w) false (laidWorld os) #[.slice none 0 0, .int .i64 0] 20 rfl (by kernel_rfl) (by kernel_rfl) (by kernel_rfl) (by kernel_rfl) (by kernel_rfl) (laidWorld_met os _)) ?_
  intro W base args ds gs before hval hW _ _ hL _
  obtain ⟨body, hb⟩ : ∃ c, Tryd.f3.body = some c := Option.isSome_iff_exists.1 (by kernel_rfl)
  refine law_post (E := S2.C0) (es := S2.playsS) (shs := [.l (.l (.i .i32)), .i .i64]) (tb := 4) S2.plays_ok Tryd.func3 hb (of_decide_eq_true (by kernel_rfl)) (fun _ => rfl) laidOut rowed full (by kernel_rfl) (by kernel_rfl) rfl (by kernel_rfl) (by kernel_rfl) rfl ?_ ?_ hval hW (fun _ => gl_of hL)
  · intro ds hds
    match ds, hds with
    | [d0, d1], _ => rfl
  · rintro ⟨l, i, _⟩ ⟨hl, _, _⟩
    have h2 : S2.bigs l = true := List.all_eq_true.2 fun x hx => Nat.ble_eq_true_of_le (hl.2 x hx).1
    show (Out.br (S2.bigs l) (.leaf [S2.pB true] [] []) .fail).pick = _
    rw [h2]; rfl
theorem internPlays_holds : Rows.InternPlaysSaid :=
  OpenClaim.holds_of_wide 3 Tryd.f3 rfl rfl rfl rfl rfl rfl rfl ⟨rfl, rfl, rfl, rfl, rfl⟩ rfl rfl rfl rfl rfl (by kernel_rfl) Tryd.func3 (by kernel_rfl)
    (of_decide_eq_true (by kernel_rfl)) (by unfold Func.isWrapper; rw [if_neg (of_decide_eq_false (by kernel_rfl))]; exact ⟨rfl, rfl⟩)
    (fun os started H enc _ => internPlays_lifted os started H enc)
theorem internPlays_card : Rows.InternPlaysCardSaid :=
  Claim7.holds_tied_plain_at .later [] [.handle] true (true, "ea3303e39ee8487f271d10a5ac7632c2cd7a7cc959265081e639e4fa598f928b") true
    internPlays_holds (fun _ h => by cases h) (by kernel_rfl) (fun _ h => by cases h) internPlays_row_tie rfl ⟨rfl, rfl⟩ (by kernel_rfl) rfl
    (fun f fn hf hfn => by
      obtain rfl : f = 3 := Option.some.inj ((show Tryd.prog.funcNamed "sortilege/sortilegelaw02.InternPlays" = some 3 by kernel_rfl).symm.trans hf) |>.symm
      obtain rfl : fn = Tryd.f3 := (Option.some.inj (Tryd.func3.symm.trans hfn)).symm
      exact ⟨by kernel_rfl, fun j t ht => by
        have hm : t ∈ Tryd.f3.params.toList := List.mem_of_getElem? (by simpa using ht)
        exact of_decide_eq_true (List.all_eq_true.1 (show Tryd.f3.params.toList.all (fun t => decide (Tryd.prog.wantsStandIn t = false)) = true by kernel_rfl) t hm)⟩)
    (by kernel_rfl)
#print axioms internPlays_card
end Go.Proofs.YtbdicebddicbkaaDoor
