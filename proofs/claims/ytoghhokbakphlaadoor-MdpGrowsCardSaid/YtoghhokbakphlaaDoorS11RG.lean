/-
  MdpGrows returns true at every input, and its arguments read behind the call as they read before; under the condition that errors.errorType is as the program lays it (tied by the card).
-/
import Derived.Test.YtoghhokbakphlaaDoorS11R
import Derived.Test.YtoghhokbakphlaaDoorS11M
namespace Go.Proofs.YtoghhokbakphlaaDoor
open Go Go.En Go.ChangeShapes Go.WideShapes Go.RowKit
set_option maxRecDepth 100000
theorem mdpGrows_lifted (os : Os) (started : os.Started) (H : Type) (enc : TypeId × Value → H) :
    ReturnsInHanded {} Tryd.checked os 3 .any (fun w args => (Rows.mdpGrowsSpec.pre enc Tryd.prog Tryd.f3 [] false w args ∧ laidMetH Tryd.prog [("errors.errorType", Rows.laid_errors_errorType)] w) ∧ sizedMet enc Tryd.prog Tryd.f3 (OpenSpec.ofChange Rows.mdpGrowsSpec) false w args)
      (Rows.mdpGrowsSpec.post enc Tryd.prog Tryd.f3 false true false false) := by
  refine returnsInHanded_of_change_and (C := Tryd.checked) (X := fun w _ => laidMetH Tryd.prog [("errors.errorType", Rows.laid_errors_errorType)] w) (fun _ _ _ hh h => h.of_heap hh) own started (by kernel_rfl) Tryd.func3
    (ChangeSpec.witness_at (enc := enc) (C := Tryd.checked) (os := os) (X := fun w _ => laidMetH Tryd.prog [("errors.errorType", Rows.laid_errors_errorType)] w) false (laidWorld os) #[.agg #[.int .i64 0, .slice none 0 0, .slice none 0 0, .slice none 0 0], .int .u8 0, .slice none 0 0] 20 rfl (by kernel_rfl) (by kernel_rfl) (by kernel_rfl) (by kernel_rfl) (by kernel_rfl) (laidWorld_met os _)) ?_
  intro W base args ds gs before hval hW _ hwt hL _
  obtain ⟨body, hb⟩ : ∃ c, Tryd.f3.body = some c := Option.isSome_iff_exists.1 (by kernel_rfl)
  refine law_postW (E := S11.C0) (es := S11.growsS) (shs := [.p (.i .i64) (.p (.l (.l (.p .s (.p (.l (.p (.i .i64) (.p (.i .i64) .u))) .u)))) (.p (.l .s) (.p (.l (.l (.i .i64))) .u))), .i .u8, .l (.i .u8)]) (tb := 4) S11.grows_ok Tryd.func3 hb (of_decide_eq_true (by kernel_rfl)) (fun _ => rfl) laidOut rowed full (by kernel_rfl) (by kernel_rfl) rfl (by kernel_rfl) (by kernel_rfl) rfl ?_ minOk ?_ hval hW hwt (fun _ => gl_of hL) (gx_nil _)
  · intro ds hds
    match ds, hds with
    | [d0, d1, d2], _ => rfl
  · rintro ⟨⟨i, ch, nm, ho, _⟩, s, to, _⟩ ⟨_, hs, ht, _⟩ _
    have u8of : ∀ v : List Int, (∀ x ∈ v, IntKind.u8.min ≤ x ∧ x ≤ IntKind.u8.max) → S11.u8 v = true := fun v hv => List.all_eq_true.2 fun x hx => by
      have h := hv x hx
      rw [Bool.and_eq_true, decide_eq_true_eq, decide_eq_true_eq]
      exact h
    have h1 : 0 ≤ s := hs.1
    have h2 : s ≤ 255 := hs.2
    show (Out.br ((decide (0 ≤ s) && decide (s ≤ 255)) && S11.u8 to) (.leaf [S11.pB true] [] []) .fail).pick = _
    rw [decide_eq_true h1, decide_eq_true h2, u8of to ht.2]; rfl
theorem mdpGrows_holds : Rows.MdpGrowsSaid :=
  OpenClaim.holds_of_wide 3 Tryd.f3 rfl rfl rfl rfl rfl rfl rfl ⟨rfl, rfl, rfl, rfl, rfl⟩ rfl rfl rfl rfl rfl (by kernel_rfl) Tryd.func3 (by kernel_rfl)
    (of_decide_eq_true (by kernel_rfl)) (by unfold Func.isWrapper; rw [if_neg (of_decide_eq_false (by kernel_rfl))]; exact ⟨rfl, rfl⟩)
    (fun os started H enc _ => mdpGrows_lifted os started H enc)
theorem mdpGrows_card : Rows.MdpGrowsCardSaid :=
  Claim7.holds_tied_plain_at .later [] [.handle] true (true, "16fa76442b2807034d650ee3c383a96183b853570161931242a14a29cee7fdc8") true
    mdpGrows_holds (fun _ h => by cases h) (by kernel_rfl) (fun _ h => by cases h) mdpGrows_row_tie rfl ⟨rfl, rfl⟩ (by kernel_rfl) rfl
    (fun f fn hf hfn => by
      obtain rfl : f = 3 := Option.some.inj ((show Tryd.prog.funcNamed "sortilege/sortilegelaw11.MdpGrows" = some 3 by kernel_rfl).symm.trans hf) |>.symm
      obtain rfl : fn = Tryd.f3 := (Option.some.inj (Tryd.func3.symm.trans hfn)).symm
      exact ⟨by kernel_rfl, fun j t ht => by
        have hm : t ∈ Tryd.f3.params.toList := List.mem_of_getElem? (by simpa using ht)
        exact of_decide_eq_true (List.all_eq_true.1 (show Tryd.f3.params.toList.all (fun t => decide (Tryd.prog.wantsStandIn t = false)) = true by kernel_rfl) t hm)⟩)
    (by kernel_rfl)
#print axioms mdpGrows_card
end Go.Proofs.YtoghhokbakphlaaDoor
