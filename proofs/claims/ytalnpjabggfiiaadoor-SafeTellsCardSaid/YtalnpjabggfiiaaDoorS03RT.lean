/-
  SafeTells returns true at every input, and its arguments read behind the call as they read before; under the condition that errors.errorType is as the program lays it (tied by the card).
-/
import Derived.Test.YtalnpjabggfiiaaDoorS03R
import Derived.Test.YtalnpjabggfiiaaDoorS03H
namespace Go.Proofs.YtalnpjabggfiiaaDoor
open Go Go.En Go.ChangeShapes Go.WideShapes Go.RowKit
set_option maxRecDepth 100000
theorem safeTells_lifted (os : Os) (started : os.Started) (H : Type) (enc : TypeId × Value → H) :
    ReturnsInHanded {} Tryd.checked os 7 .any (fun w args => (Rows.safeTellsSpec.pre enc Tryd.prog Tryd.f7 [] false w args ∧ laidMetH Tryd.prog [("errors.errorType", Rows.laid_errors_errorType)] w) ∧ sizedMet enc Tryd.prog Tryd.f7 (OpenSpec.ofChange Rows.safeTellsSpec) false w args)
      (Rows.safeTellsSpec.post enc Tryd.prog Tryd.f7 false true false false) := by
  refine returnsInHanded_of_change_and (C := Tryd.checked) (X := fun w _ => laidMetH Tryd.prog [("errors.errorType", Rows.laid_errors_errorType)] w) (fun _ _ _ hh h => h.of_heap hh) own started (by kernel_rfl) Tryd.func7
    (ChangeSpec.witness_at (enc := enc) (C := Tryd.checked) (os := os) (X := fun w _ => laidMetH Tryd.prog [("errors.errorType", Rows.laid_errors_errorType)] w) false (laidWorld os) #[.int .i64 0, .int .i64 0] 20 rfl (by kernel_rfl) (by kernel_rfl) (by kernel_rfl) (by kernel_rfl) (by kernel_rfl) (laidWorld_met os _)) ?_
  intro W base args ds gs before hval hW _ _ hL _
  obtain ⟨body, hb⟩ : ∃ c, Tryd.f7.body = some c := Option.isSome_iff_exists.1 (by kernel_rfl)
  refine law_post (E := S3.C0) (es := S3.tellsS) (shs := [.i .i64, .i .i64]) (tb := 4) S3.tells_ok Tryd.func7 hb (of_decide_eq_true (by kernel_rfl)) (fun _ => rfl) laidOut rowed full (by kernel_rfl) (by kernel_rfl) rfl (by kernel_rfl) (by kernel_rfl) rfl ?_ ?_ hval hW (fun _ => gl_of hL)
  · intro ds hds
    match ds, hds with
    | [d0, d1], _ => rfl
  · rintro ⟨a, b, _⟩ ⟨ha, hb, _⟩
    have h1 : S3.inI a = true := S3.inI_iff.2 ha
    have h2 : S3.inI b = true := S3.inI_iff.2 hb
    show (Out.br (S3.inI a && S3.inI b) (.leaf [S3.pB true] [] []) .fail).pick = _
    rw [h1, h2]; rfl
theorem safeTells_holds : Rows.SafeTellsSaid :=
  OpenClaim.holds_of_wide 7 Tryd.f7 rfl rfl rfl rfl rfl rfl rfl ⟨rfl, rfl, rfl, rfl, rfl⟩ rfl rfl rfl rfl rfl (by kernel_rfl) Tryd.func7 (by kernel_rfl)
    (of_decide_eq_true (by kernel_rfl)) (by unfold Func.isWrapper; rw [if_neg (of_decide_eq_false (by kernel_rfl))]; exact ⟨rfl, rfl⟩)
    (fun os started H enc _ => safeTells_lifted os started H enc)
theorem safeTells_card : Rows.SafeTellsCardSaid :=
  Claim7.holds_tied_plain_at .later [] [.handle] true (true, "4a07c59122b10d3a66616fd48eedc3b47b79c695e7dde378bfb20817e77462d1") true
    safeTells_holds (fun _ h => by cases h) (by kernel_rfl) (fun _ h => by cases h) safeTells_row_tie rfl ⟨rfl, rfl⟩ (by kernel_rfl) rfl
    (fun f fn hf hfn => by
      obtain rfl : f = 7 := Option.some.inj ((show Tryd.prog.funcNamed "sortilege/sortilegelaw03.SafeTells" = some 7 by kernel_rfl).symm.trans hf) |>.symm
      obtain rfl : fn = Tryd.f7 := (Option.some.inj (Tryd.func7.symm.trans hfn)).symm
      exact ⟨by kernel_rfl, fun j t ht => by
        have hm : t ∈ Tryd.f7.params.toList := List.mem_of_getElem? (by simpa using ht)
        exact of_decide_eq_true (List.all_eq_true.1 (show Tryd.f7.params.toList.all (fun t => decide (Tryd.prog.wantsStandIn t = false)) = true by kernel_rfl) t hm)⟩)
    (by kernel_rfl)
#print axioms safeTells_card
end Go.Proofs.YtalnpjabggfiiaaDoor
