/-
  DERIVED. GIVEN WITH THE SEED: THE CARDS: each row of YtfkmnklnnccopaaDoorRows.lean that lists a variable, with what it lists TIED to the program's text (the seventh form; the later family's looks); each row that meets fmt, with fmt's text TOLD by the authors' own Lean function (tested against real Go, not proved from fmt's source: count such statements apart). THE CARD IS WHAT COUNTS. Prove the row's statement (the work); the ties are given (YtfkmnklnnccopaaDoorTie.lean); close each card by the builder's one call (the guide's Derived/Test/ToyasCard.lean, 'card_holds'). Laid BY PROGRAM, IN A SANDBOX (cutbox-door.mjs). By AI agents, Wed Nov 11 2026. No macro, syntax, notation, axiom, sorry.
-/
import Derived.Test.YtfkmnklnnccopaaDoorRows
import GoSem.ClaimSeven
namespace Go.Proofs.YtfkmnklnnccopaaDoor
namespace Rows

/-- THE TIED CARD OF 'sortilegelaw18.DraTells'. -/
def draTellsCard : Claim7 := { stood := { row := draTellsRow, standIns := [], harness := (true, "18cba4d4ffb09aaebe746c475072ea7dadd7a3da61fe7a2336942cb55bc8da50"), looks := true }, kinds := [], alts := [], laidByText := true, laidKinds := [.handle], laidTests := true, laidLooks := .later }
def DraTellsCardSaid : Prop := Claim7.holds Tryd.pinned (.plain (OpenSpec.ofChange draTellsSpec)) draTellsCard

/-- THE TIED CARD OF 'sortilegelaw18.DraMore'. -/
def draMoreCard : Claim7 := { stood := { row := draMoreRow, standIns := [], harness := (true, "18cba4d4ffb09aaebe746c475072ea7dadd7a3da61fe7a2336942cb55bc8da50"), looks := true }, kinds := [], alts := [], laidByText := true, laidKinds := [.handle], laidTests := true, laidLooks := .later }
def DraMoreCardSaid : Prop := Claim7.holds Tryd.pinned (.plain (OpenSpec.ofChange draMoreSpec)) draMoreCard

/-- THE TIED CARD OF 'sortilegelaw18.DraSees'. -/
def draSeesCard : Claim7 := { stood := { row := draSeesRow, standIns := [], harness := (true, "18cba4d4ffb09aaebe746c475072ea7dadd7a3da61fe7a2336942cb55bc8da50"), looks := true }, kinds := [], alts := [], laidByText := true, laidKinds := [.handle], laidTests := true, laidLooks := .later }
def DraSeesCardSaid : Prop := Claim7.holds Tryd.pinned (.plain (OpenSpec.ofChange draSeesSpec)) draSeesCard

/-- THE TIED CARD OF 'sortilegelaw18.DraTrims'. -/
def draTrimsCard : Claim7 := { stood := { row := draTrimsRow, standIns := [], harness := (true, "18cba4d4ffb09aaebe746c475072ea7dadd7a3da61fe7a2336942cb55bc8da50"), looks := true }, kinds := [], alts := [], laidByText := true, laidKinds := [.handle], laidTests := true, laidLooks := .later }
def DraTrimsCardSaid : Prop := Claim7.holds Tryd.pinned (.plain (OpenSpec.ofChange draTrimsSpec)) draTrimsCard

/-- THE TIED CARD OF 'sortilegelaw18.DraKeeps'. -/
def draKeepsCard : Claim7 := { stood := { row := draKeepsRow, standIns := [], harness := (true, "18cba4d4ffb09aaebe746c475072ea7dadd7a3da61fe7a2336942cb55bc8da50"), looks := true }, kinds := [], alts := [], laidByText := true, laidKinds := [.handle], laidTests := true, laidLooks := .later }
def DraKeepsCardSaid : Prop := Claim7.holds Tryd.pinned (.plain (OpenSpec.ofChange draKeepsSpec)) draKeepsCard

/-- THE SECOND FORM's CARD OF 'sortilegelaw18.DraTells'. -/
def draTellsUptoCard : Claim7 := { stood := { row := draTellsUptoRow, standIns := [], harness := (true, "18cba4d4ffb09aaebe746c475072ea7dadd7a3da61fe7a2336942cb55bc8da50"), looks := true }, kinds := [], alts := [], laidByText := true, laidKinds := [.handle], laidTests := true, laidLooks := .later }
def DraTellsUptoCardSaid : Prop := Claim7.holds Tryd.pinned (.plain (OpenSpec.upto draTellsSpec)) draTellsUptoCard

/-- THE SECOND FORM's CARD OF 'sortilegelaw18.DraMore'. -/
def draMoreUptoCard : Claim7 := { stood := { row := draMoreUptoRow, standIns := [], harness := (true, "18cba4d4ffb09aaebe746c475072ea7dadd7a3da61fe7a2336942cb55bc8da50"), looks := true }, kinds := [], alts := [], laidByText := true, laidKinds := [.handle], laidTests := true, laidLooks := .later }
def DraMoreUptoCardSaid : Prop := Claim7.holds Tryd.pinned (.plain (OpenSpec.upto draMoreSpec)) draMoreUptoCard

/-- THE SECOND FORM's CARD OF 'sortilegelaw18.DraSees'. -/
def draSeesUptoCard : Claim7 := { stood := { row := draSeesUptoRow, standIns := [], harness := (true, "18cba4d4ffb09aaebe746c475072ea7dadd7a3da61fe7a2336942cb55bc8da50"), looks := true }, kinds := [], alts := [], laidByText := true, laidKinds := [.handle], laidTests := true, laidLooks := .later }
def DraSeesUptoCardSaid : Prop := Claim7.holds Tryd.pinned (.plain (OpenSpec.upto draSeesSpec)) draSeesUptoCard

/-- THE SECOND FORM's CARD OF 'sortilegelaw18.DraTrims'. -/
def draTrimsUptoCard : Claim7 := { stood := { row := draTrimsUptoRow, standIns := [], harness := (true, "18cba4d4ffb09aaebe746c475072ea7dadd7a3da61fe7a2336942cb55bc8da50"), looks := true }, kinds := [], alts := [], laidByText := true, laidKinds := [.handle], laidTests := true, laidLooks := .later }
def DraTrimsUptoCardSaid : Prop := Claim7.holds Tryd.pinned (.plain (OpenSpec.upto draTrimsSpec)) draTrimsUptoCard

/-- THE SECOND FORM's CARD OF 'sortilegelaw18.DraKeeps'. -/
def draKeepsUptoCard : Claim7 := { stood := { row := draKeepsUptoRow, standIns := [], harness := (true, "18cba4d4ffb09aaebe746c475072ea7dadd7a3da61fe7a2336942cb55bc8da50"), looks := true }, kinds := [], alts := [], laidByText := true, laidKinds := [.handle], laidTests := true, laidLooks := .later }
def DraKeepsUptoCardSaid : Prop := Claim7.holds Tryd.pinned (.plain (OpenSpec.upto draKeepsSpec)) draKeepsUptoCard
end Rows
end Go.Proofs.YtfkmnklnnccopaaDoor
