/-
  DraSees returns true at every input, and its arguments read behind the call as they read before; under the condition that errors.errorType is as the program lays it (tied by the card).
-/
import Derived.Test.YtfkmnklnnccopaaDoorS18R
import Derived.Test.YtfkmnklnnccopaaDoorS18J
namespace Go.Proofs.YtfkmnklnnccopaaDoor
open Go Go.En Go.ChangeShapes Go.WideShapes Go.RowKit
set_option maxRecDepth 100000
theorem draSees_lifted (os : Os) (started : os.Started) (H : Type) (enc : TypeId × Value → H) :
    ReturnsInHanded {} Tryd.checked os 5 .any (fun w args => (Rows.draSeesSpec.pre enc Tryd.prog Tryd.f5 [] false w args ∧ laidMetH Tryd.prog [("errors.errorType", Rows.laid_errors_errorType)] w) ∧ sizedMet enc Tryd.prog Tryd.f5 (OpenSpec.ofChange Rows.draSeesSpec) false w args)
      (Rows.draSeesSpec.post enc Tryd.prog Tryd.f5 false true false false) := by
  refine returnsInHanded_of_change_and (C := Tryd.checked) (X := fun w _ => laidMetH Tryd.prog [("errors.errorType", Rows.laid_errors_errorType)] w) (fun _ _ _ hh h => h.of_heap hh) own started (by kernel_rfl) Tryd.func5
    (ChangeSpec.witness_at (enc := enc) (C := Tryd.checked) (os := os) (X := fun w _ => laidMetH Tryd.prog [("errors.errorType", Rows.laid_errors_errorType)] w) false (laidWorld os) #[.agg #[.int .i64 0, .int .i64 0, .slice none 0 0, .slice none 0 0], .slice none 0 0, .slice none 0 0] 20 rfl (by kernel_rfl) (by kernel_rfl) (by kernel_rfl) (by kernel_rfl) (by kernel_rfl) (laidWorld_met os _)) ?_
  intro W base args ds gs before hval hW _ hwt hL _
  obtain ⟨body, hb⟩ : ∃ c, Tryd.f5.body = some c := Option.isSome_iff_exists.1 (by kernel_rfl)
  refine law_postW (E := S18.C0) (es := S18.seesS) (shs := [.p (.i .i64) (.p (.i .i64) (.p (.l (.l (.i .i64))) (.p (.l (.p (.l (.i .i64)) (.p (.l (.i .i64)) .u))) .u))), .l (.i .u8), .l (.i .u8)]) (tb := 4) S18.sees_ok Tryd.func5 hb (of_decide_eq_true (by kernel_rfl)) (fun _ => rfl) laidOut rowed full (by kernel_rfl) (by kernel_rfl) rfl (by kernel_rfl) (by kernel_rfl) rfl ?_ minOk ?_ hval hW hwt (fun _ => gl_of hL) (gx_nil _)
  · intro ds hds
    match ds, hds with
    | [d0, d1, d2], _ => rfl
  · rintro ⟨⟨p, i, nx, ps, _⟩, s, l, _⟩ ⟨_, hs, hl, _⟩ ⟨⟨_, _, _, hps, _⟩, _⟩
    have hpw : ps.all S18.pairW = true := List.all_eq_true.2 fun q hq => by
      have hq2 := hps.2 q hq
      have h1 : q.1.length * 8 ≤ 140737488351232 := hq2.1.1
      have h2 : q.2.1.length * 8 ≤ 140737488351232 := hq2.2.1.1
      unfold S18.pairW
      rw [ble_of (show q.1.length ≤ 17592186044416 by omega), ble_of (show q.2.1.length ≤ 17592186044416 by omega)]; rfl
    have u8of : ∀ v : List Int, (∀ x ∈ v, IntKind.u8.min ≤ x ∧ x ≤ IntKind.u8.max) → S18.u8 v = true := fun v hv => List.all_eq_true.2 fun x hx => by
      have h := hv x hx
      rw [Bool.and_eq_true, decide_eq_true_eq, decide_eq_true_eq]
      exact h
    show (Out.br (ps.all S18.pairW && (S18.u8 s && S18.u8 l)) (.leaf [S18.pB true] [] []) .fail).pick = _
    rw [hpw, u8of s hs.2, u8of l hl.2]; rfl
theorem draSees_holds : Rows.DraSeesSaid :=
  OpenClaim.holds_of_wide 5 Tryd.f5 rfl rfl rfl rfl rfl rfl rfl ⟨rfl, rfl, rfl, rfl, rfl⟩ rfl rfl rfl rfl rfl (by kernel_rfl) Tryd.func5 (by kernel_rfl)
    (of_decide_eq_true (by kernel_rfl)) (by unfold Func.isWrapper; rw [if_neg (of_decide_eq_false (by kernel_rfl))]; exact ⟨rfl, rfl⟩)
    (fun os started H enc _ => draSees_lifted os started H enc)
theorem draSees_card : Rows.DraSeesCardSaid :=
  Claim7.holds_tied_plain_at .later [] [.handle] true (true, "18cba4d4ffb09aaebe746c475072ea7dadd7a3da61fe7a2336942cb55bc8da50") true
    draSees_holds (fun _ h => by cases h) (by kernel_rfl) (fun _ h => by cases h) draSees_row_tie rfl ⟨rfl, rfl⟩ (by kernel_rfl) rfl
    (fun f fn hf hfn => by
      obtain rfl : f = 5 := Option.some.inj ((show Tryd.prog.funcNamed "sortilege/sortilegelaw18.DraSees" = some 5 by kernel_rfl).symm.trans hf) |>.symm
      obtain rfl : fn = Tryd.f5 := (Option.some.inj (Tryd.func5.symm.trans hfn)).symm
      exact ⟨by kernel_rfl, fun j t ht => by
        have hm : t ∈ Tryd.f5.params.toList := List.mem_of_getElem? (by simpa using ht)
        exact of_decide_eq_true (List.all_eq_true.1 (show Tryd.f5.params.toList.all (fun t => decide (Tryd.prog.wantsStandIn t = false)) = true by kernel_rfl) t hm)⟩)
    (by kernel_rfl)
#print axioms draSees_card
end Go.Proofs.YtfkmnklnnccopaaDoor
