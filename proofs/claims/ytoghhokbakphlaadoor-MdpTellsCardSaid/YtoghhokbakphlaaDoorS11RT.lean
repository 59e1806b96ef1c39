/-
  MdpTells returns true at every input, and its arguments read behind the call as they read before; under the condition that errors.errorType is as the program lays it (tied by the card).
-/
import Derived.Test.YtoghhokbakphlaaDoorS11R
import Derived.Test.YtoghhokbakphlaaDoorS11L
namespace Go.Proofs.YtoghhokbakphlaaDoor
open Go Go.En Go.ChangeShapes Go.WideShapes Go.RowKit
set_option maxRecDepth 100000
theorem mdpTells_lifted (os : Os) (started : os.Started) (H : Type) (enc : TypeId × Value → H) :
    ReturnsInHanded {} Tryd.checked os 4 .any (fun w args => (Rows.mdpTellsSpec.pre enc Tryd.prog Tryd.f4 [] false w args ∧ laidMetH Tryd.prog [("errors.errorType", Rows.laid_errors_errorType)] w) ∧ sizedMet enc Tryd.prog Tryd.f4 (OpenSpec.ofChange Rows.mdpTellsSpec) false w args)
      (Rows.mdpTellsSpec.post enc Tryd.prog Tryd.f4 false true false false) := by
  refine returnsInHanded_of_change_and (C := Tryd.checked) (X := fun w _ => laidMetH Tryd.prog [("errors.errorType", Rows.laid_errors_errorType)] w) (fun _ _ _ hh h => h.of_heap hh) own started (by kernel_rfl) Tryd.func4
    (ChangeSpec.witness_at (enc := enc) (C := Tryd.checked) (os := os) (X := fun w _ => laidMetH Tryd.prog [("errors.errorType", Rows.laid_errors_errorType)] w) false (laidWorld os) #[.agg #[.int .i64 0, .slice none 0 0, .slice none 0 0, .slice none 0 0], .slice none 0 0] 20 rfl (by kernel_rfl) (by kernel_rfl) (by kernel_rfl) (by kernel_rfl) (by kernel_rfl) (laidWorld_met os _)) ?_
  intro W base args ds gs before hval hW _ hwt hL _
  obtain ⟨body, hb⟩ : ∃ c, Tryd.f4.body = some c := Option.isSome_iff_exists.1 (by kernel_rfl)
  refine law_postW (E := S11.C0) (es := S11.tellsS) (shs := [.p (.i .i64) (.p (.l (.l (.p .s (.p (.l (.p (.i .i64) (.p (.i .i64) .u))) .u)))) (.p (.l .s) (.p (.l (.l (.i .i64))) .u))), .l .s]) (tb := 4) S11.tells_ok Tryd.func4 hb (of_decide_eq_true (by kernel_rfl)) (fun _ => rfl) laidOut rowed full (by kernel_rfl) (by kernel_rfl) rfl (by kernel_rfl) (by kernel_rfl) rfl ?_ minOk ?_ hval hW hwt (fun _ => gl_of hL) (gx_nil _)
  · intro ds hds
    match ds, hds with
    | [d0, d1], _ => rfl
  · rintro ⟨⟨i, ch, nm, ho, _⟩, lb, _⟩ _ _
    rfl
theorem mdpTells_holds : Rows.MdpTellsSaid :=
  OpenClaim.holds_of_wide 4 Tryd.f4 rfl rfl rfl rfl rfl rfl rfl ⟨rfl, rfl, rfl, rfl, rfl⟩ rfl rfl rfl rfl rfl (by kernel_rfl) Tryd.func4 (by kernel_rfl)
    (of_decide_eq_true (by kernel_rfl)) (by unfold Func.isWrapper; rw [if_neg (of_decide_eq_false (by kernel_rfl))]; exact ⟨rfl, rfl⟩)
    (fun os started H enc _ => mdpTells_lifted os started H enc)
theorem mdpTells_card : Rows.MdpTellsCardSaid :=
  Claim7.holds_tied_plain_at .later [] [.handle] true (true, "16fa76442b2807034d650ee3c383a96183b853570161931242a14a29cee7fdc8") true
    mdpTells_holds (fun _ h => by cases h) (by kernel_rfl) (fun _ h => by cases h) mdpTells_row_tie rfl ⟨rfl, rfl⟩ (by kernel_rfl) rfl
    (fun f fn hf hfn => by
      obtain rfl : f = 4 := Option.some.inj ((show Tryd.prog.funcNamed "sortilege/sortilegelaw11.MdpTells" = some 4 by kernel_rfl).symm.trans hf) |>.symm
      obtain rfl : fn = Tryd.f4 := (Option.some.inj (Tryd.func4.symm.trans hfn)).symm
      exact ⟨by kernel_rfl, fun j t ht => by
        have hm : t ∈ Tryd.f4.params.toList := List.mem_of_getElem? (by simpa using ht)
        exact of_decide_eq_true (List.all_eq_true.1 (show Tryd.f4.params.toList.all (fun t => decide (Tryd.prog.wantsStandIn t = false)) = true by kernel_rfl) t hm)⟩)
    (by kernel_rfl)
#print axioms mdpTells_card
end Go.Proofs.YtoghhokbakphlaaDoor
