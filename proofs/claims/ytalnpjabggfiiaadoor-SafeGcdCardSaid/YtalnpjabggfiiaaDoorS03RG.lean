/-
  SafeGcd returns true at every input, and its arguments read behind the call as they read before; under the condition that errors.errorType is as the program lays it (tied by the card).
-/
import Derived.Test.YtalnpjabggfiiaaDoorS03R
import Derived.Test.YtalnpjabggfiiaaDoorS03H
namespace Go.Proofs.YtalnpjabggfiiaaDoor
open Go Go.En Go.ChangeShapes Go.WideShapes Go.RowKit
set_option maxRecDepth 100000
theorem safeGcd_lifted (os : Os) (started : os.Started) (H : Type) (enc : TypeId × Value → H) :
    ReturnsInHanded {} Tryd.checked os 6 .any (fun w args => (Rows.safeGcdSpec.pre enc Tryd.prog Tryd.f6 [] false w args ∧ laidMetH Tryd.prog [("errors.errorType", Rows.laid_errors_errorType)] w) ∧ sizedMet enc Tryd.prog Tryd.f6 (OpenSpec.ofChange Rows.safeGcdSpec) false w args)
      (Rows.safeGcdSpec.post enc Tryd.prog Tryd.f6 false true false false) := by
  refine returnsInHanded_of_change_and (C := Tryd.checked) (X := fun w _ => laidMetH Tryd.prog [("errors.errorType", Rows.laid_errors_errorType)] w) (fun _ _ _ hh h => h.of_heap hh) own started (by kernel_rfl) Tryd.func6
    (ChangeSpec.witness_at (enc := enc) (C := Tryd.checked) (os := os) (X := fun w _ => laidMetH Tryd.prog [("errors.errorType", Rows.laid_errors_errorType)] w) false (laidWorld os) #[.int .i64 0, .int .i64 0, .slice none 0 0] 20 rfl (by kernel_rfl) (by kernel_rfl) (by kernel_rfl) (by kernel_rfl) (by kernel_rfl) (laidWorld_met os _)) ?_
  intro W base args ds gs before hval hW _ _ hL _
  obtain ⟨body, hb⟩ : ∃ c, Tryd.f6.body = some c := Option.isSome_iff_exists.1 (by kernel_rfl)
  refine law_post (E := S3.C0) (es := S3.gcdlS) (shs := [.i .i64, .i .i64, .l (.i .i64)]) (tb := 4) S3.gcdl_ok Tryd.func6 hb (of_decide_eq_true (by kernel_rfl)) (fun _ => rfl) laidOut rowed full (by kernel_rfl) (by kernel_rfl) rfl (by kernel_rfl) (by kernel_rfl) rfl ?_ ?_ hval hW (fun _ => gl_of hL)
  · intro ds hds
    match ds, hds with
    | [d0, d1, d2], _ => rfl
  · rintro ⟨a, b, l, _⟩ ⟨ha, hb, hl, _⟩
    have h1 : S3.inI a = true := S3.inI_iff.2 ha
    have h2 : S3.inI b = true := S3.inI_iff.2 hb
    have h3 : l.all S3.inI = true := List.all_eq_true.2 fun x hx => S3.inI_iff.2 (hl.2 x hx)
    show (Out.br (S3.inI a && (S3.inI b && l.all S3.inI)) (.leaf [S3.pB true] [] []) .fail).pick = _
    rw [h1, h2, h3]; rfl
theorem safeGcd_holds : Rows.SafeGcdSaid :=
  OpenClaim.holds_of_wide 6 Tryd.f6 rfl rfl rfl rfl rfl rfl rfl ⟨rfl, rfl, rfl, rfl, rfl⟩ rfl rfl rfl rfl rfl (by kernel_rfl) Tryd.func6 (by kernel_rfl)
    (of_decide_eq_true (by kernel_rfl)) (by unfold Func.isWrapper; rw [if_neg (of_decide_eq_false (by kernel_rfl))]; exact ⟨rfl, rfl⟩)
    (fun os started H enc _ => safeGcd_lifted os started H enc)
theorem safeGcd_card : Rows.SafeGcdCardSaid :=
  Claim7.holds_tied_plain_at .later [] [.handle] true (true, "4a07c59122b10d3a66616fd48eedc3b47b79c695e7dde378bfb20817e77462d1") true
    safeGcd_holds (fun _ h => by cases h) (by kernel_rfl) (fun _ h => by cases h) safeGcd_row_tie rfl ⟨rfl, rfl⟩ (by kernel_rfl) rfl
    (fun f fn hf hfn => by
      obtain rfl : f = 6 := Option.some.inj ((show Tryd.prog.funcNamed "sortilege/sortilegelaw03.SafeGcd" = some 6 by kernel_rfl).symm.trans hf) |>.symm
      obtain rfl : fn = Tryd.f6 := (Option.some.inj (Tryd.func6.symm.trans hfn)).symm
      exact ⟨by kernel_rfl, fun j t ht => by
        have hm : t ∈ Tryd.f6.params.toList := List.mem_of_getElem? (by simpa using ht)
        exact of_decide_eq_true (List.all_eq_true.1 (show Tryd.f6.params.toList.all (fun t => decide (Tryd.prog.wantsStandIn t = false)) = true by kernel_rfl) t hm)⟩)
    (by kernel_rfl)
#print axioms safeGcd_card
end Go.Proofs.YtalnpjabggfiiaaDoor
