/-
  SafeOrder returns true at every input, and its arguments read behind the call as they read before; under the condition that errors.errorType is as the program lays it (tied by the card).
-/
import Derived.Test.YtalnpjabggfiiaaDoorS03R
import Derived.Test.YtalnpjabggfiiaaDoorS03E
namespace Go.Proofs.YtalnpjabggfiiaaDoor
open Go Go.En Go.ChangeShapes Go.WideShapes Go.RowKit
set_option maxRecDepth 100000
theorem safeOrder_lifted (os : Os) (started : os.Started) (H : Type) (enc : TypeId × Value → H) :
    ReturnsInHanded {} Tryd.checked os 4 .any (fun w args => (Rows.safeOrderSpec.pre enc Tryd.prog Tryd.f4 [] false w args ∧ laidMetH Tryd.prog [("errors.errorType", Rows.laid_errors_errorType)] w) ∧ sizedMet enc Tryd.prog Tryd.f4 (OpenSpec.ofChange Rows.safeOrderSpec) false w args)
      (Rows.safeOrderSpec.post enc Tryd.prog Tryd.f4 false true false false) := by
  refine returnsInHanded_of_change_and (C := Tryd.checked) (X := fun w _ => laidMetH Tryd.prog [("errors.errorType", Rows.laid_errors_errorType)] w) (fun _ _ _ hh h => h.of_heap hh) own started (by kernel_rfl) Tryd.func4
    (ChangeSpec.witness_at (enc := enc) (C := Tryd.checked) (os := os) (X := fun w _ => laidMetH Tryd.prog [("errors.errorType", Rows.laid_errors_errorType)] w) false (laidWorld os) #[.int .i64 0, .int .i64 0, .int .i64 0] 20 rfl (by kernel_rfl) (by kernel_rfl) (by kernel_rfl) (by kernel_rfl) (by kernel_rfl) (laidWorld_met os _)) ?_
  intro W base args ds gs before hval hW _ _ hL _
  obtain ⟨body, hb⟩ : ∃ c, Tryd.f4.body = some c := Option.isSome_iff_exists.1 (by kernel_rfl)
  refine law_post (E := S3.C0) (es := S3.orderS) (shs := [.i .i64, .i .i64, .i .i64]) (tb := 4) S3.order_ok Tryd.func4 hb (of_decide_eq_true (by kernel_rfl)) (fun _ => rfl) laidOut rowed full (by kernel_rfl) (by kernel_rfl) rfl (by kernel_rfl) (by kernel_rfl) rfl ?_ ?_ hval hW (fun _ => gl_of hL)
  · intro ds hds
    match ds, hds with
    | [d0, d1, d2], _ => rfl
  · rintro ⟨a, b, c, _⟩ ⟨ha, hb, hc, _⟩
    have h1 : S3.inI a = true := S3.inI_iff.2 ha
    have h2 : S3.inI b = true := S3.inI_iff.2 hb
    have h3 : S3.inI c = true := S3.inI_iff.2 hc
    show (Out.br (S3.inI a && (S3.inI b && S3.inI c)) (.leaf [S3.pB true] [] []) .fail).pick = _
    rw [h1, h2, h3]; rfl
theorem safeOrder_holds : Rows.SafeOrderSaid :=
  OpenClaim.holds_of_wide 4 Tryd.f4 rfl rfl rfl rfl rfl rfl rfl ⟨rfl, rfl, rfl, rfl, rfl⟩ rfl rfl rfl rfl rfl (by kernel_rfl) Tryd.func4 (by kernel_rfl)
    (of_decide_eq_true (by kernel_rfl)) (by unfold Func.isWrapper; rw [if_neg (of_decide_eq_false (by kernel_rfl))]; exact ⟨rfl, rfl⟩)
    (fun os started H enc _ => safeOrder_lifted os started H enc)
theorem safeOrder_card : Rows.SafeOrderCardSaid :=
  Claim7.holds_tied_plain_at .later [] [.handle] true (true, "4a07c59122b10d3a66616fd48eedc3b47b79c695e7dde378bfb20817e77462d1") true
    safeOrder_holds (fun _ h => by cases h) (by kernel_rfl) (fun _ h => by cases h) safeOrder_row_tie rfl ⟨rfl, rfl⟩ (by kernel_rfl) rfl
    (fun f fn hf hfn => by
      obtain rfl : f = 4 := Option.some.inj ((show Tryd.prog.funcNamed "sortilege/sortilegelaw03.SafeOrder" = some 4 by kernel_rfl).symm.trans hf) |>.symm
      obtain rfl : fn = Tryd.f4 := (Option.some.inj (Tryd.func4.symm.trans hfn)).symm
      exact ⟨by kernel_rfl, fun j t ht => by
        have hm : t ∈ Tryd.f4.params.toList := List.mem_of_getElem? (by simpa using ht)
        exact of_decide_eq_true (List.all_eq_true.1 (show Tryd.f4.params.toList.all (fun t => decide (Tryd.prog.wantsStandIn t = false)) = true by kernel_rfl) t hm)⟩)
    (by kernel_rfl)
#print axioms safeOrder_card
end Go.Proofs.YtalnpjabggfiiaaDoor
