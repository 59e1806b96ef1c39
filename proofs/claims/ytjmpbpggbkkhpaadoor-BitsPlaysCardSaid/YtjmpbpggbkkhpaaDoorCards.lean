/-
  DERIVED. GIVEN WITH THE SEED: THE CARDS: each row of YtjmpbpggbkkhpaaDoorRows.lean that lists a variable, with what it lists TIED to the program's text (the seventh form; the later family's looks); each row that meets fmt, with fmt's text TOLD by the authors' own Lean function (tested against real Go, not proved from fmt's source: count such statements apart). THE CARD IS WHAT COUNTS. Prove the row's statement (the work); the ties are given (YtjmpbpggbkkhpaaDoorTie.lean); close each card by the builder's one call (the guide's Derived/Test/ToyasCard.lean, 'card_holds'). Laid BY PROGRAM, IN A SANDBOX (cutbox-door.mjs). By AI agents, Wed Nov 11 2026. No macro, syntax, notation, axiom, sorry.
-/
import Derived.Test.YtjmpbpggbkkhpaaDoorRows
import GoSem.ClaimSeven
namespace Go.Proofs.YtjmpbpggbkkhpaaDoor
namespace Rows

/-- THE TIED CARD OF 'sortilegelaw01.BitsNext'. -/
def bitsNextCard : Claim7 := { stood := { row := bitsNextRow, standIns := [], harness := (true, "7646c70e5752f555cb1574982e0068ea230ca8dfcd536669d7e27ef57c01d4d0"), looks := true }, kinds := [], alts := [], laidByText := true, laidKinds := [.data, .handle], laidTests := true, laidLooks := .later }
def BitsNextCardSaid : Prop := Claim7.holds Tryd.pinned (.plain (OpenSpec.ofChange bitsNextSpec)) bitsNextCard

/-- THE TIED CARD OF 'sortilegelaw01.BitsOf'. -/
def bitsOfCard : Claim7 := { stood := { row := bitsOfRow, standIns := [], harness := (true, "7646c70e5752f555cb1574982e0068ea230ca8dfcd536669d7e27ef57c01d4d0"), looks := true }, kinds := [], alts := [], laidByText := true, laidKinds := [.data, .handle], laidTests := true, laidLooks := .later }
def BitsOfCardSaid : Prop := Claim7.holds Tryd.pinned (.plain (OpenSpec.ofChange bitsOfSpec)) bitsOfCard

/-- THE TIED CARD OF 'sortilegelaw01.BitsPlays'. -/
def bitsPlaysCard : Claim7 := { stood := { row := bitsPlaysRow, standIns := [], harness := (true, "7646c70e5752f555cb1574982e0068ea230ca8dfcd536669d7e27ef57c01d4d0"), looks := true }, kinds := [], alts := [], laidByText := true, laidKinds := [.data, .handle], laidTests := true, laidLooks := .later }
def BitsPlaysCardSaid : Prop := Claim7.holds Tryd.pinned (.plain (OpenSpec.ofChange bitsPlaysSpec)) bitsPlaysCard

/-- THE TIED CARD OF 'sortilegelaw01.BitsLaws'. -/
def bitsLawsCard : Claim7 := { stood := { row := bitsLawsRow, standIns := [], harness := (true, "7646c70e5752f555cb1574982e0068ea230ca8dfcd536669d7e27ef57c01d4d0"), looks := true }, kinds := [], alts := [], laidByText := true, laidKinds := [.data, .handle], laidTests := true, laidLooks := .later }
def BitsLawsCardSaid : Prop := Claim7.holds Tryd.pinned (.plain (OpenSpec.ofChange bitsLawsSpec)) bitsLawsCard

/-- THE TIED CARD OF 'sortilegelaw01.BitsNil'. -/
def bitsNilCard : Claim7 := { stood := { row := bitsNilRow, standIns := [], harness := (true, "7646c70e5752f555cb1574982e0068ea230ca8dfcd536669d7e27ef57c01d4d0"), looks := true }, kinds := [], alts := [], laidByText := true, laidKinds := [.data, .handle], laidTests := true, laidLooks := .later }
def BitsNilCardSaid : Prop := Claim7.holds Tryd.pinned (.plain (OpenSpec.ofChange bitsNilSpec)) bitsNilCard

/-- THE SECOND FORM's CARD OF 'sortilegelaw01.BitsNext'. -/
def bitsNextUptoCard : Claim7 := { stood := { row := bitsNextUptoRow, standIns := [], harness := (true, "7646c70e5752f555cb1574982e0068ea230ca8dfcd536669d7e27ef57c01d4d0"), looks := true }, kinds := [], alts := [], laidByText := true, laidKinds := [.data, .handle], laidTests := true, laidLooks := .later }
def BitsNextUptoCardSaid : Prop := Claim7.holds Tryd.pinned (.plain (OpenSpec.upto bitsNextSpec)) bitsNextUptoCard

/-- THE SECOND FORM's CARD OF 'sortilegelaw01.BitsOf'. -/
def bitsOfUptoCard : Claim7 := { stood := { row := bitsOfUptoRow, standIns := [], harness := (true, "7646c70e5752f555cb1574982e0068ea230ca8dfcd536669d7e27ef57c01d4d0"), looks := true }, kinds := [], alts := [], laidByText := true, laidKinds := [.data, .handle], laidTests := true, laidLooks := .later }
def BitsOfUptoCardSaid : Prop := Claim7.holds Tryd.pinned (.plain (OpenSpec.upto bitsOfSpec)) bitsOfUptoCard

/-- THE SECOND FORM's CARD OF 'sortilegelaw01.BitsPlays'. -/
def bitsPlaysUptoCard : Claim7 := { stood := { row := bitsPlaysUptoRow, standIns := [], harness := (true, "7646c70e5752f555cb1574982e0068ea230ca8dfcd536669d7e27ef57c01d4d0"), looks := true }, kinds := [], alts := [], laidByText := true, laidKinds := [.data, .handle], laidTests := true, laidLooks := .later }
def BitsPlaysUptoCardSaid : Prop := Claim7.holds Tryd.pinned (.plain (OpenSpec.upto bitsPlaysSpec)) bitsPlaysUptoCard

/-- THE SECOND FORM's CARD OF 'sortilegelaw01.BitsLaws'. -/
def bitsLawsUptoCard : Claim7 := { stood := { row := bitsLawsUptoRow, standIns := [], harness := (true, "7646c70e5752f555cb1574982e0068ea230ca8dfcd536669d7e27ef57c01d4d0"), looks := true }, kinds := [], alts := [], laidByText := true, laidKinds := [.data, .handle], laidTests := true, laidLooks := .later }
def BitsLawsUptoCardSaid : Prop := Claim7.holds Tryd.pinned (.plain (OpenSpec.upto bitsLawsSpec)) bitsLawsUptoCard

/-- THE SECOND FORM's CARD OF 'sortilegelaw01.BitsNil'. -/
def bitsNilUptoCard : Claim7 := { stood := { row := bitsNilUptoRow, standIns := [], harness := (true, "7646c70e5752f555cb1574982e0068ea230ca8dfcd536669d7e27ef57c01d4d0"), looks := true }, kinds := [], alts := [], laidByText := true, laidKinds := [.data, .handle], laidTests := true, laidLooks := .later }
def BitsNilUptoCardSaid : Prop := Claim7.holds Tryd.pinned (.plain (OpenSpec.upto bitsNilSpec)) bitsNilUptoCard
end Rows
end Go.Proofs.YtjmpbpggbkkhpaaDoor
