/-
  BitsPlays returns true at every input, and its arguments read behind the call as they read before; under the condition that errors.errorType and math/bits.deBruijn64tab are as the program lays them (tied by the card).
-/
import Derived.Test.YtjmpbpggbkkhpaaDoorS01R
import Derived.Test.YtjmpbpggbkkhpaaDoorS01Z
namespace Go.Proofs.YtjmpbpggbkkhpaaDoor
open Go Go.En Go.ChangeShapes Go.WideShapes Go.RowKit
set_option maxRecDepth 100000
theorem bitsPlays_lifted (os : Os) (started : os.Started) (H : Type) (enc : TypeId × Value → H) :
    ReturnsInHanded {} Tryd.checked os 5 .any (fun w args => (Rows.bitsPlaysSpec.pre enc Tryd.prog Tryd.f5 [] false w args ∧ laidMetH Tryd.prog laidL w) ∧ sizedMet enc Tryd.prog Tryd.f5 (OpenSpec.ofChange Rows.bitsPlaysSpec) false w args)
      (Rows.bitsPlaysSpec.post enc Tryd.prog Tryd.f5 false true false false) := by
  refine returnsInHanded_of_change_and (C := Tryd.checked) (X := fun w _ => laidMetH Tryd.prog laidL w) (fun _ _ _ hh h => h.of_heap hh) own started (by kernel_rfl) Tryd.func5
    (ChangeSpec.witness_at (enc := enc) (C := Tryd.checked) (os := os) (X := fun w _ => laidMetH Tryd.prog laidL w) false (laidWorld os) #[.int .i64 0, .slice none 0 0, .slice none 0 0] 20 rfl (by kernel_rfl) (by kernel_rfl) (by kernel_rfl) (by kernel_rfl) (by kernel_rfl) (laidWorld_met os _)) ?_
  intro W base args ds gs before hval hW _ _ hL _
  obtain ⟨body, hb⟩ : ∃ c, Tryd.f5.body = some c := Option.isSome_iff_exists.1 (by kernel_rfl)
  refine law_post (E := S1.C0) (es := S1.playsS) (shs := [.i .i64, .l (.i .i64), .l (.p (.i .i64) (.p (.i .i64) (.p (.i .i64) (.p (.l (.i .i64)) .u))))]) (tb := 4) S1.plays_ok Tryd.func5 hb (of_decide_eq_true (by kernel_rfl)) (fun _ => rfl) laidOut rowed full (by kernel_rfl) (by kernel_rfl) rfl (by kernel_rfl) (by kernel_rfl) rfl ?_ ?_ hval hW (fun h => absurd rfl h) (gx_of hL)
  · intro ds hds
    match ds, hds with
    | [d0, d1, d2], _ => rfl
  · rintro ⟨z, fs, l, _⟩ _
    rfl
theorem bitsPlays_holds : Rows.BitsPlaysSaid :=
  OpenClaim.holds_of_wide 5 Tryd.f5 rfl rfl rfl rfl rfl rfl rfl ⟨rfl, rfl, rfl, rfl, rfl⟩ rfl rfl rfl rfl rfl (by kernel_rfl) Tryd.func5 (by kernel_rfl)
    (of_decide_eq_true (by kernel_rfl)) (by unfold Func.isWrapper; rw [if_neg (of_decide_eq_false (by kernel_rfl))]; exact ⟨rfl, rfl⟩)
    (fun os started H enc _ => bitsPlays_lifted os started H enc)
theorem bitsPlays_card : Rows.BitsPlaysCardSaid :=
  Claim7.holds_tied_plain_at .later [] [.data, .handle] true (true, "7646c70e5752f555cb1574982e0068ea230ca8dfcd536669d7e27ef57c01d4d0") true
    bitsPlays_holds (fun _ h => by cases h) (by kernel_rfl) (fun _ h => by cases h) bitsPlays_row_tie rfl ⟨rfl, rfl⟩ (by kernel_rfl) rfl
    (fun f fn hf hfn => by
      obtain rfl : f = 5 := Option.some.inj ((show Tryd.prog.funcNamed "sortilege/sortilegelaw01.BitsPlays" = some 5 by kernel_rfl).symm.trans hf) |>.symm
      obtain rfl : fn = Tryd.f5 := (Option.some.inj (Tryd.func5.symm.trans hfn)).symm
      exact ⟨by kernel_rfl, fun j t ht => by
        have hm : t ∈ Tryd.f5.params.toList := List.mem_of_getElem? (by simpa using ht)
        exact of_decide_eq_true (List.all_eq_true.1 (show Tryd.f5.params.toList.all (fun t => decide (Tryd.prog.wantsStandIn t = false)) = true by kernel_rfl) t hm)⟩)
    (by kernel_rfl)
#print axioms bitsPlays_card
end Go.Proofs.YtjmpbpggbkkhpaaDoor
