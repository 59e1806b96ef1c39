/-
  DERIVED. GIVEN WITH THE SEED: THE CARDS: each row of YtkbablmhgnpmmaaDoorRows.lean that lists a variable, with what it lists TIED to the program's text (the seventh form; the later family's looks); each row that meets fmt, with fmt's text TOLD by the authors' own Lean function (tested against real Go, not proved from fmt's source: count such statements apart). THE CARD IS WHAT COUNTS. Prove the row's statement (the work); the ties are given (YtkbablmhgnpmmaaDoorTie.lean); close each card by the builder's one call (the guide's Derived/Test/ToyasCard.lean, 'card_holds'). Laid BY PROGRAM, IN A SANDBOX (cutbox-door.mjs). By AI agents, Wed Nov 11 2026. No macro, syntax, notation, axiom, sorry.
-/
import Derived.Test.YtkbablmhgnpmmaaDoorRows
import GoSem.ClaimSeven
namespace Go.Proofs.YtkbablmhgnpmmaaDoor
namespace Rows

/-- THE TIED CARD OF 'sortilegelaw23.ProductMakes'. -/
def productMakesCard : Claim7 := { stood := { row := productMakesRow, standIns := [], harness := (true, "5c7c5e2e05ca553c887e483b92593a483d04ffad81deebc148ea024f193992c8"), looks := true }, kinds := [], alts := [], laidByText := true, laidKinds := [.handle], laidTests := true, laidLooks := .later }
def ProductMakesCardSaid : Prop := Claim7.holds Tryd.pinned (.plain (OpenSpec.ofChange productMakesSpec)) productMakesCard

/-- THE TIED CARD OF 'sortilegelaw23.ProductKeeps'. -/
def productKeepsCard : Claim7 := { stood := { row := productKeepsRow, standIns := [], harness := (true, "5c7c5e2e05ca553c887e483b92593a483d04ffad81deebc148ea024f193992c8"), looks := true }, kinds := [], alts := [], laidByText := true, laidKinds := [.handle], laidTests := true, laidLooks := .later }
def ProductKeepsCardSaid : Prop := Claim7.holds Tryd.pinned (.plain (OpenSpec.ofChange productKeepsSpec)) productKeepsCard

/-- THE TIED CARD OF 'sortilegelaw23.ProductSets'. -/
def productSetsCard : Claim7 := { stood := { row := productSetsRow, standIns := [], harness := (true, "5c7c5e2e05ca553c887e483b92593a483d04ffad81deebc148ea024f193992c8"), looks := true }, kinds := [], alts := [], laidByText := true, laidKinds := [.handle], laidTests := true, laidLooks := .later }
def ProductSetsCardSaid : Prop := Claim7.holds Tryd.pinned (.plain (OpenSpec.ofChange productSetsSpec)) productSetsCard

/-- THE TIED CARD OF 'sortilegelaw23.ProductGoes'. -/
def productGoesCard : Claim7 := { stood := { row := productGoesRow, standIns := [], harness := (true, "5c7c5e2e05ca553c887e483b92593a483d04ffad81deebc148ea024f193992c8"), looks := true }, kinds := [], alts := [], laidByText := true, laidKinds := [.handle], laidTests := true, laidLooks := .later }
def ProductGoesCardSaid : Prop := Claim7.holds Tryd.pinned (.plain (OpenSpec.ofChange productGoesSpec)) productGoesCard

/-- THE TIED CARD OF 'sortilegelaw23.ProductPlain'. -/
def productPlainCard : Claim7 := { stood := { row := productPlainRow, standIns := [], harness := (true, "5c7c5e2e05ca553c887e483b92593a483d04ffad81deebc148ea024f193992c8"), looks := true }, kinds := [], alts := [], laidByText := true, laidKinds := [.handle], laidTests := true, laidLooks := .later }
def ProductPlainCardSaid : Prop := Claim7.holds Tryd.pinned (.plain (OpenSpec.ofChange productPlainSpec)) productPlainCard

/-- THE SECOND FORM's CARD OF 'sortilegelaw23.ProductMakes'. -/
def productMakesUptoCard : Claim7 := { stood := { row := productMakesUptoRow, standIns := [], harness := (true, "5c7c5e2e05ca553c887e483b92593a483d04ffad81deebc148ea024f193992c8"), looks := true }, kinds := [], alts := [], laidByText := true, laidKinds := [.handle], laidTests := true, laidLooks := .later }
def ProductMakesUptoCardSaid : Prop := Claim7.holds Tryd.pinned (.plain (OpenSpec.upto productMakesSpec)) productMakesUptoCard

/-- THE SECOND FORM's CARD OF 'sortilegelaw23.ProductKeeps'. -/
def productKeepsUptoCard : Claim7 := { stood := { row := productKeepsUptoRow, standIns := [], harness := (true, "5c7c5e2e05ca553c887e483b92593a483d04ffad81deebc148ea024f193992c8"), looks := true }, kinds := [], alts := [], laidByText := true, laidKinds := [.handle], laidTests := true, laidLooks := .later }
def ProductKeepsUptoCardSaid : Prop := Claim7.holds Tryd.pinned (.plain (OpenSpec.upto productKeepsSpec)) productKeepsUptoCard

/-- THE SECOND FORM's CARD OF 'sortilegelaw23.ProductSets'. -/
def productSetsUptoCard : Claim7 := { stood := { row := productSetsUptoRow, standIns := [], harness := (true, "5c7c5e2e05ca553c887e483b92593a483d04ffad81deebc148ea024f193992c8"), looks := true }, kinds := [], alts := [], laidByText := true, laidKinds := [.handle], laidTests := true, laidLooks := .later }
def ProductSetsUptoCardSaid : Prop := Claim7.holds Tryd.pinned (.plain (OpenSpec.upto productSetsSpec)) productSetsUptoCard

/-- THE SECOND FORM's CARD OF 'sortilegelaw23.ProductGoes'. -/
def productGoesUptoCard : Claim7 := { stood := { row := productGoesUptoRow, standIns := [], harness := (true, "5c7c5e2e05ca553c887e483b92593a483d04ffad81deebc148ea024f193992c8"), looks := true }, kinds := [], alts := [], laidByText := true, laidKinds := [.handle], laidTests := true, laidLooks := .later }
def ProductGoesUptoCardSaid : Prop := Claim7.holds Tryd.pinned (.plain (OpenSpec.upto productGoesSpec)) productGoesUptoCard

/-- THE SECOND FORM's CARD OF 'sortilegelaw23.ProductPlain'. -/
def productPlainUptoCard : Claim7 := { stood := { row := productPlainUptoRow, standIns := [], harness := (true, "5c7c5e2e05ca553c887e483b92593a483d04ffad81deebc148ea024f193992c8"), looks := true }, kinds := [], alts := [], laidByText := true, laidKinds := [.handle], laidTests := true, laidLooks := .later }
def ProductPlainUptoCardSaid : Prop := Claim7.holds Tryd.pinned (.plain (OpenSpec.upto productPlainSpec)) productPlainUptoCard
end Rows
end Go.Proofs.YtkbablmhgnpmmaaDoor
