/-
  DERIVED. GIVEN WITH THE SEED: THE CARDS: each row of YtbdicebddicbkaaDoorRows.lean that lists a variable, with what it lists TIED to the program's text (the seventh form; the later family's looks); each row that meets fmt, with fmt's text TOLD by the authors' own Lean function (tested against real Go, not proved from fmt's source: count such statements apart). THE CARD IS WHAT COUNTS. Prove the row's statement (the work); the ties are given (YtbdicebddicbkaaDoorTie.lean); close each card by the builder's one call (the guide's Derived/Test/ToyasCard.lean, 'card_holds'). Laid BY PROGRAM, IN A SANDBOX (cutbox-door.mjs). By AI agents, Wed Nov 11 2026. No macro, syntax, notation, axiom, sorry.
-/
import Derived.Test.YtbdicebddicbkaaDoorRows
import GoSem.ClaimSeven
namespace Go.Proofs.YtbdicebddicbkaaDoor
namespace Rows

/-- THE TIED CARD OF 'sortilegelaw02.InternPlays'. -/
def internPlaysCard : Claim7 := { stood := { row := internPlaysRow, standIns := [], harness := (true, "ea3303e39ee8487f271d10a5ac7632c2cd7a7cc959265081e639e4fa598f928b"), looks := true }, kinds := [], alts := [], laidByText := true, laidKinds := [.handle], laidTests := true, laidLooks := .later }
def InternPlaysCardSaid : Prop := Claim7.holds Tryd.pinned (.plain (OpenSpec.ofChange internPlaysSpec)) internPlaysCard

/-- THE SECOND FORM's CARD OF 'sortilegelaw02.InternPlays'. -/
def internPlaysUptoCard : Claim7 := { stood := { row := internPlaysUptoRow, standIns := [], harness := (true, "ea3303e39ee8487f271d10a5ac7632c2cd7a7cc959265081e639e4fa598f928b"), looks := true }, kinds := [], alts := [], laidByText := true, laidKinds := [.handle], laidTests := true, laidLooks := .later }
def InternPlaysUptoCardSaid : Prop := Claim7.holds Tryd.pinned (.plain (OpenSpec.upto internPlaysSpec)) internPlaysUptoCard
end Rows
end Go.Proofs.YtbdicebddicbkaaDoor
