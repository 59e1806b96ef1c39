/-
  DERIVED. GIVEN WITH THE SEED: THE CARDS: each row of YtalnpjabggfiiaaDoorRows.lean that lists a variable, with what it lists TIED to the program's text (the seventh form; the later family's looks); each row that meets fmt, with fmt's text TOLD by the authors' own Lean function (tested against real Go, not proved from fmt's source: count such statements apart). THE CARD IS WHAT COUNTS. Prove the row's statement (the work); the ties are given (YtalnpjabggfiiaaDoorTie.lean); close each card by the builder's one call (the guide's Derived/Test/ToyasCard.lean, 'card_holds'). Laid BY PROGRAM, IN A SANDBOX (cutbox-door.mjs). By AI agents, Wed Nov 11 2026. No macro, syntax, notation, axiom, sorry.
-/
import Derived.Test.YtalnpjabggfiiaaDoorRows
import GoSem.ClaimSeven
namespace Go.Proofs.YtalnpjabggfiiaaDoor
namespace Rows

/-- THE TIED CARD OF 'sortilegelaw03.SafeBack'. -/
def safeBackCard : Claim7 := { stood := { row := safeBackRow, standIns := [], harness := (true, "4a07c59122b10d3a66616fd48eedc3b47b79c695e7dde378bfb20817e77462d1"), looks := true }, kinds := [], alts := [], laidByText := true, laidKinds := [.handle], laidTests := true, laidLooks := .later }
def SafeBackCardSaid : Prop := Claim7.holds Tryd.pinned (.plain (OpenSpec.ofChange safeBackSpec)) safeBackCard

/-- THE TIED CARD OF 'sortilegelaw03.SafeOrder'. -/
def safeOrderCard : Claim7 := { stood := { row := safeOrderRow, standIns := [], harness := (true, "4a07c59122b10d3a66616fd48eedc3b47b79c695e7dde378bfb20817e77462d1"), looks := true }, kinds := [], alts := [], laidByText := true, laidKinds := [.handle], laidTests := true, laidLooks := .later }
def SafeOrderCardSaid : Prop := Claim7.holds Tryd.pinned (.plain (OpenSpec.ofChange safeOrderSpec)) safeOrderCard

/-- THE TIED CARD OF 'sortilegelaw03.SafeSums'. -/
def safeSumsCard : Claim7 := { stood := { row := safeSumsRow, standIns := [], harness := (true, "4a07c59122b10d3a66616fd48eedc3b47b79c695e7dde378bfb20817e77462d1"), looks := true }, kinds := [], alts := [], laidByText := true, laidKinds := [.handle], laidTests := true, laidLooks := .later }
def SafeSumsCardSaid : Prop := Claim7.holds Tryd.pinned (.plain (OpenSpec.ofChange safeSumsSpec)) safeSumsCard

/-- THE TIED CARD OF 'sortilegelaw03.SafeGcd'. -/
def safeGcdCard : Claim7 := { stood := { row := safeGcdRow, standIns := [], harness := (true, "4a07c59122b10d3a66616fd48eedc3b47b79c695e7dde378bfb20817e77462d1"), looks := true }, kinds := [], alts := [], laidByText := true, laidKinds := [.handle], laidTests := true, laidLooks := .later }
def SafeGcdCardSaid : Prop := Claim7.holds Tryd.pinned (.plain (OpenSpec.ofChange safeGcdSpec)) safeGcdCard

/-- THE TIED CARD OF 'sortilegelaw03.SafeTells'. -/
def safeTellsCard : Claim7 := { stood := { row := safeTellsRow, standIns := [], harness := (true, "4a07c59122b10d3a66616fd48eedc3b47b79c695e7dde378bfb20817e77462d1"), looks := true }, kinds := [], alts := [], laidByText := true, laidKinds := [.handle], laidTests := true, laidLooks := .later }
def SafeTellsCardSaid : Prop := Claim7.holds Tryd.pinned (.plain (OpenSpec.ofChange safeTellsSpec)) safeTellsCard

/-- THE SECOND FORM's CARD OF 'sortilegelaw03.SafeBack'. -/
def safeBackUptoCard : Claim7 := { stood := { row := safeBackUptoRow, standIns := [], harness := (true, "4a07c59122b10d3a66616fd48eedc3b47b79c695e7dde378bfb20817e77462d1"), looks := true }, kinds := [], alts := [], laidByText := true, laidKinds := [.handle], laidTests := true, laidLooks := .later }
def SafeBackUptoCardSaid : Prop := Claim7.holds Tryd.pinned (.plain (OpenSpec.upto safeBackSpec)) safeBackUptoCard

/-- THE SECOND FORM's CARD OF 'sortilegelaw03.SafeOrder'. -/
def safeOrderUptoCard : Claim7 := { stood := { row := safeOrderUptoRow, standIns := [], harness := (true, "4a07c59122b10d3a66616fd48eedc3b47b79c695e7dde378bfb20817e77462d1"), looks := true }, kinds := [], alts := [], laidByText := true, laidKinds := [.handle], laidTests := true, laidLooks := .later }
def SafeOrderUptoCardSaid : Prop := Claim7.holds Tryd.pinned (.plain (OpenSpec.upto safeOrderSpec)) safeOrderUptoCard

/-- THE SECOND FORM's CARD OF 'sortilegelaw03.SafeSums'. -/
def safeSumsUptoCard : Claim7 := { stood := { row := safeSumsUptoRow, standIns := [], harness := (true, "4a07c59122b10d3a66616fd48eedc3b47b79c695e7dde378bfb20817e77462d1"), looks := true }, kinds := [], alts := [], laidByText := true, laidKinds := [.handle], laidTests := true, laidLooks := .later }
def SafeSumsUptoCardSaid : Prop := Claim7.holds Tryd.pinned (.plain (OpenSpec.upto safeSumsSpec)) safeSumsUptoCard

/-- THE SECOND FORM's CARD OF 'sortilegelaw03.SafeGcd'. -/
def safeGcdUptoCard : Claim7 := { stood := { row := safeGcdUptoRow, standIns := [], harness := (true, "4a07c59122b10d3a66616fd48eedc3b47b79c695e7dde378bfb20817e77462d1"), looks := true }, kinds := [], alts := [], laidByText := true, laidKinds := [.handle], laidTests := true, laidLooks := .later }
def SafeGcdUptoCardSaid : Prop := Claim7.holds Tryd.pinned (.plain (OpenSpec.upto safeGcdSpec)) safeGcdUptoCard

/-- THE SECOND FORM's CARD OF 'sortilegelaw03.SafeTells'. -/
def safeTellsUptoCard : Claim7 := { stood := { row := safeTellsUptoRow, standIns := [], harness := (true, "4a07c59122b10d3a66616fd48eedc3b47b79c695e7dde378bfb20817e77462d1"), looks := true }, kinds := [], alts := [], laidByText := true, laidKinds := [.handle], laidTests := true, laidLooks := .later }
def SafeTellsUptoCardSaid : Prop := Claim7.holds Tryd.pinned (.plain (OpenSpec.upto safeTellsSpec)) safeTellsUptoCard
end Rows
end Go.Proofs.YtalnpjabggfiiaaDoor
