/-
  InternOwn returns true at every input, and its arguments read behind the call as they read before.
-/
import Derived.Test.YtbdicebddicbkaaS02R
import Derived.Test.YtbdicebddicbkaaS02E
namespace Go.Proofs.Ytbdicebddicbkaa
open Go Go.En Go.ChangeShapes Go.WideShapes Go.RowKit
set_option maxRecDepth 100000
theorem internOwn_lifted (os : Os) (started : os.Started) (H : Type) (enc : TypeId × Value → H) :
    ReturnsInHanded {} Try.checked os 3 .any (Rows.internOwnSpec.pre6 enc Try.prog Try.f3 [] false) (Rows.internOwnSpec.post enc Try.prog Try.f3 false true false false) := by
  refine returnsInHanded_of_change (C := Try.checked) own started (by kernel_rfl) Try.func3
    (ChangeSpec.witness6 (enc := enc) (C := Try.checked) (os := os) false ⟨#[], #[.slice none 0 0, .slice none 0 0], []⟩ 20 (by kernel_rfl) (by kernel_rfl) (by kernel_rfl) (by kernel_rfl)) ?_
  intro W base args ds gs before hval hW _ _
  obtain ⟨body, hb⟩ : ∃ c, Try.f3.body = some c := Option.isSome_iff_exists.1 (by kernel_rfl)
  refine law_post (E := S2.C0) (es := S2.ownS) (shs := [.l (.i .i32), .l (.l (.i .i32))]) (tb := 4) S2.own_ok Try.func3 hb (of_decide_eq_true (by kernel_rfl)) (fun _ => rfl) laidOut rowed full (by kernel_rfl) (by kernel_rfl) rfl (by kernel_rfl) (by kernel_rfl) rfl ?_ ?_ hval hW (fun h => absurd rfl h)
  · intro ds hds
    match ds, hds with
    | [d0, d1], _ => rfl
  · rintro ⟨v, l, _⟩ ⟨hv, hl, _⟩
    have h1 : S2.big v = true := Nat.ble_eq_true_of_le hv.1
    have h2 : S2.bigs l = true := List.all_eq_true.2 fun x hx => Nat.ble_eq_true_of_le (hl.2 x hx).1
    show (Out.br (S2.big v && S2.bigs l) (.leaf [S2.pB true] [] []) .fail).pick = _
    rw [h1, h2]; rfl
theorem internOwn_holds : Rows.InternOwnSaid :=
  OpenClaim.holds_of_wide 3 Try.f3 rfl rfl rfl rfl rfl rfl rfl ⟨rfl, rfl, rfl, rfl, rfl⟩ rfl rfl rfl rfl rfl (by kernel_rfl) Try.func3 (by kernel_rfl)
    (of_decide_eq_true (by kernel_rfl)) (by unfold Func.isWrapper; rw [if_neg (of_decide_eq_false (by kernel_rfl))]; exact ⟨rfl, rfl⟩)
    (fun os started H enc _ => internOwn_lifted os started H enc)
#print axioms internOwn_holds
end Go.Proofs.Ytbdicebddicbkaa
