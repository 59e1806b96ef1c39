/-
  DraKeeps returns true at every input, and its arguments read behind the call as they read before; under the condition that errors.errorType is as the program lays it (tied by the card).
-/
import Derived.Test.YtfkmnklnnccopaaDoorS18R
import Derived.Test.YtfkmnklnnccopaaDoorS18ZH
namespace Go.Proofs.YtfkmnklnnccopaaDoor
open Go Go.En Go.ChangeShapes Go.WideShapes Go.RowKit
set_option maxRecDepth 100000
theorem draKeeps_lifted (os : Os) (started : os.Started) (H : Type) (enc : TypeId × Value → H) :
    ReturnsInHanded {} Tryd.checked os 7 .any (fun w args => (Rows.draKeepsSpec.pre enc Tryd.prog Tryd.f7 [] false w args ∧ laidMetH Tryd.prog [("errors.errorType", Rows.laid_errors_errorType)] w) ∧ sizedMet enc Tryd.prog Tryd.f7 (OpenSpec.ofChange Rows.draKeepsSpec) false w args)
      (Rows.draKeepsSpec.post enc Tryd.prog Tryd.f7 false true false false) := by
  refine returnsInHanded_of_change_and (C := Tryd.checked) (X := fun w _ => laidMetH Tryd.prog [("errors.errorType", Rows.laid_errors_errorType)] w) (fun _ _ _ hh h => h.of_heap hh) own started (by kernel_rfl) Tryd.func7
    (ChangeSpec.witness_at (enc := enc) (C := Tryd.checked) (os := os) (X := fun w _ => laidMetH Tryd.prog [("errors.errorType", Rows.laid_errors_errorType)] w) false (laidWorld os) #[.agg #[.int .i64 0, .int .i64 0, .slice none 0 0, .slice none 0 0], .slice none 0 0, .slice none 0 0] 20 rfl (by kernel_rfl) (by kernel_rfl) (by kernel_rfl) (by kernel_rfl) (by kernel_rfl) (laidWorld_met os _)) ?_
  intro W base args ds gs before hval hW _ hwt hL _
  obtain ⟨body, hb⟩ : ∃ c, Tryd.f7.body = some c := Option.isSome_iff_exists.1 (by kernel_rfl)
  refine law_postW (E := S18.C0) (es := S18.keepsS) (shs := [.p (.i .i64) (.p (.i .i64) (.p (.l (.l (.i .i64))) (.p (.l (.p (.l (.i .i64)) (.p (.l (.i .i64)) .u))) .u))), .l (.i .u8), .l (.i .u8)]) (tb := 4) S18.keeps_ok Tryd.func7 hb (of_decide_eq_true (by kernel_rfl)) (fun _ => rfl) laidOut rowed full (by kernel_rfl) (by kernel_rfl) rfl (by kernel_rfl) (by kernel_rfl) rfl ?_ minOk ?_ hval hW hwt (fun _ => gl_of hL) (gx_nil _)
  · intro ds hds
    match ds, hds with
    | [d0, d1, d2], _ => rfl
  · rintro ⟨⟨p, i, nx, ps, _⟩, s, l, _⟩ ⟨_, hs, hl, _⟩ ⟨⟨_, _, _, hps, _⟩, _⟩
    have hpw : ps.all S18.pairW = true := List.all_eq_true.2 fun q hq => by
      have hq2 := hps.2 q hq
      have h1 : q.1.length * 8 ≤ 140737488351232 := hq2.1.1
      have h2 : q.2.1.length * 8 ≤ 140737488351232 := hq2.2.1.1
      unfold S18.pairW
      rw [ble_of (show q.1.length ≤ 17592186044416 by omega), ble_of (show q.2.1.length ≤ 17592186044416 by omega)]; rfl
    have u8of : ∀ v : List Int, (∀ x ∈ v, IntKind.u8.min ≤ x ∧ x ≤ IntKind.u8.max) → S18.u8 v = true := fun v hv => List.all_eq_true.2 fun x hx => by
      have h := hv x hx
      rw [Bool.and_eq_true, decide_eq_true_eq, decide_eq_true_eq]
      exact h
    show (Out.br (ps.all S18.pairW && (S18.u8 s && S18.u8 l)) (.leaf [S18.pB true] [] []) .fail).pick = _
    rw [hpw, u8of s hs.2, u8of l hl.2]; rfl
theorem draKeeps_holds : Rows.DraKeepsSaid :=
  OpenClaim.holds_of_wide 7 Tryd.f7 rfl rfl rfl rfl rfl rfl rfl ⟨rfl, rfl, rfl, rfl, rfl⟩ rfl rfl rfl rfl rfl (by kernel_rfl) Tryd.func7 (by kernel_rfl)
    (of_decide_eq_true (by kernel_rfl)) (by unfold Func.isWrapper; rw [if_neg (of_decide_eq_false (by kernel_rfl))]; exact ⟨rfl, rfl⟩)
    (fun os started H enc _ => draKeeps_lifted os started H enc)
theorem draKeeps_card : Rows.DraKeepsCardSaid :=
  Claim7.holds_tied_plain_at .later [] [.handle] true (true, "18cba4d4ffb09aaebe746c475072ea7dadd7a3da61fe7a2336942cb55bc8da50") true
    draKeeps_holds (fun _ h => by cases h) (by kernel_rfl) (fun _ h => by cases h) draKeeps_row_tie rfl ⟨rfl, rfl⟩ (by kernel_rfl) rfl
    (fun f fn hf hfn => by
      obtain rfl : f = 7 := Option.some.inj ((show Tryd.prog.funcNamed "sortilege/sortilegelaw18.DraKeeps" = some 7 by kernel_rfl).symm.trans hf) |>.symm
      obtain rfl : fn = Tryd.f7 := (Option.some.inj (Tryd.func7.symm.trans hfn)).symm
      exact ⟨by kernel_rfl, fun j t ht => by
        have hm : t ∈ Tryd.f7.params.toList := List.mem_of_getElem? (by simpa using ht)
        exact of_decide_eq_true (List.all_eq_true.1 (show Tryd.f7.params.toList.all (fun t => decide (Tryd.prog.wantsStandIn t = false)) = true by kernel_rfl) t hm)⟩)
    (by kernel_rfl)
#print axioms draKeeps_card
end Go.Proofs.YtfkmnklnnccopaaDoor
