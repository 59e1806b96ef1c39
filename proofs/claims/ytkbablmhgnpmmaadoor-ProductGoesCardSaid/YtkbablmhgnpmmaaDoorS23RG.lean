/-
  ProductGoes returns true at every input, and its arguments read behind the call as they read before; under the condition that errors.errorType is as the program lays it (tied by the card).
-/
import Derived.Test.YtkbablmhgnpmmaaDoorS23R
import Derived.Test.YtkbablmhgnpmmaaDoorS23ZA
namespace Go.Proofs.YtkbablmhgnpmmaaDoor
open Go Go.En Go.ChangeShapes Go.WideShapes Go.RowKit
set_option maxRecDepth 100000
theorem productGoes_lifted (os : Os) (started : os.Started) (H : Type) (enc : TypeId × Value → H) :
    ReturnsInHanded {} Tryd.checked os 6 .any (fun w args => (Rows.productGoesSpec.pre enc Tryd.prog Tryd.f6 [] false w args ∧ laidMetH Tryd.prog [("errors.errorType", Rows.laid_errors_errorType)] w) ∧ sizedMet enc Tryd.prog Tryd.f6 (OpenSpec.ofChange Rows.productGoesSpec) false w args)
      (Rows.productGoesSpec.post enc Tryd.prog Tryd.f6 false true false false) := by
  refine returnsInHanded_of_change_and (C := Tryd.checked) (X := fun w _ => laidMetH Tryd.prog [("errors.errorType", Rows.laid_errors_errorType)] w) (fun _ _ _ hh h => h.of_heap hh) own started (by kernel_rfl) Tryd.func6
    (ChangeSpec.witness_at (enc := enc) (C := Tryd.checked) (os := os) (X := fun w _ => laidMetH Tryd.prog [("errors.errorType", Rows.laid_errors_errorType)] w) false (laidWorld os) #[.agg #[.int .i64 0, .slice none 0 0, .slice none 0 0, .slice none 0 0], .slice none 0 0, .agg #[.int .i64 0, .int .i64 0, .slice none 0 0, .slice none 0 0], .slice none 0 0] 20 rfl (by kernel_rfl) (by kernel_rfl) (by kernel_rfl) (by kernel_rfl) (by kernel_rfl) (laidWorld_met os _)) ?_
  intro W base args ds gs before hval hW _ hwt hL _
  obtain ⟨body, hb⟩ : ∃ c, Tryd.f6.body = some c := Option.isSome_iff_exists.1 (by kernel_rfl)
  refine law_postW (E := S23.C0) (es := S23.goesLS) (shs := [.p (.i .i64) (.p (.l (.l (.p .s (.p (.l (.p (.i .i64) (.p (.i .i64) .u))) .u)))) (.p (.l .s) (.p (.l (.l (.i .i64))) .u))), .l (.i .i64), .p (.i .i64) (.p (.i .i64) (.p (.l (.l (.i .i64))) (.p (.l (.p (.l (.i .i64)) (.p (.l (.i .i64)) .u))) .u))), .l (.i .u8)]) (tb := 4) S23.goesL_ok Tryd.func6 hb (of_decide_eq_true (by kernel_rfl)) (fun _ => rfl) laidOut rowed full (by kernel_rfl) (by kernel_rfl) rfl (by kernel_rfl) (by kernel_rfl) rfl ?_ minOk ?_ hval hW hwt (fun _ => gl_of hL) (gx_nil _)
  · intro ds hds
    match ds, hds with
    | [d0, d1, d2, d3], _ => rfl
  · rintro ⟨⟨i, ch, nm, ho, _⟩, le, ⟨p, i2, nx, ps, _⟩, pk, _⟩ ⟨_, _, _, hm, _⟩ ⟨_, _, ⟨_, _, _, hps, _⟩, _, _⟩
    have hpw : ps.all S23.pairW = true := List.all_eq_true.2 fun q hq => by
      have hq2 := hps.2 q hq
      have h1 : q.1.length * 8 ≤ 140737488351232 := hq2.1.1
      have h2 : q.2.1.length * 8 ≤ 140737488351232 := hq2.2.1.1
      unfold S23.pairW
      rw [ble_of (show q.1.length ≤ 17592186044416 by omega), ble_of (show q.2.1.length ≤ 17592186044416 by omega)]; rfl
    have hu : S23.u8' pk = true := List.all_eq_true.2 fun x hx => by
      have h := hm.2 x hx
      rw [Bool.and_eq_true, decide_eq_true_eq, decide_eq_true_eq]
      exact h
    show (Out.br (ps.all S23.pairW && S23.u8' pk) (.leaf [S23.pB true] [] []) .fail).pick = _
    rw [hpw, hu]; rfl
theorem productGoes_holds : Rows.ProductGoesSaid :=
  OpenClaim.holds_of_wide 6 Tryd.f6 rfl rfl rfl rfl rfl rfl rfl ⟨rfl, rfl, rfl, rfl, rfl⟩ rfl rfl rfl rfl rfl (by kernel_rfl) Tryd.func6 (by kernel_rfl)
    (of_decide_eq_true (by kernel_rfl)) (by unfold Func.isWrapper; rw [if_neg (of_decide_eq_false (by kernel_rfl))]; exact ⟨rfl, rfl⟩)
    (fun os started H enc _ => productGoes_lifted os started H enc)
theorem productGoes_card : Rows.ProductGoesCardSaid :=
  Claim7.holds_tied_plain_at .later [] [.handle] true (true, "5c7c5e2e05ca553c887e483b92593a483d04ffad81deebc148ea024f193992c8") true
    productGoes_holds (fun _ h => by cases h) (by kernel_rfl) (fun _ h => by cases h) productGoes_row_tie rfl ⟨rfl, rfl⟩ (by kernel_rfl) rfl
    (fun f fn hf hfn => by
      obtain rfl : f = 6 := Option.some.inj ((show Tryd.prog.funcNamed "sortilege/sortilegelaw23.ProductGoes" = some 6 by kernel_rfl).symm.trans hf) |>.symm
      obtain rfl : fn = Tryd.f6 := (Option.some.inj (Tryd.func6.symm.trans hfn)).symm
      exact ⟨by kernel_rfl, fun j t ht => by
        have hm : t ∈ Tryd.f6.params.toList := List.mem_of_getElem? (by simpa using ht)
        exact of_decide_eq_true (List.all_eq_true.1 (show Tryd.f6.params.toList.all (fun t => decide (Tryd.prog.wantsStandIn t = false)) = true by kernel_rfl) t hm)⟩)
    (by kernel_rfl)
#print axioms productGoes_card
end Go.Proofs.YtkbablmhgnpmmaaDoor
