/-
  DERIVED. GIVEN WITH THE SEED: THE CARDS: each row of YtjkojhpmiijgfaaDoorRows.lean that lists a variable, with what it lists TIED to the program's text (the seventh form; the later family's looks); each row that meets fmt, with fmt's text TOLD by the authors' own Lean function (tested against real Go, not proved from fmt's source: count such statements apart). THE CARD IS WHAT COUNTS. Prove the row's statement (the work); the ties are given (YtjkojhpmiijgfaaDoorTie.lean); close each card by the builder's one call (the guide's Derived/Test/ToyasCard.lean, 'card_holds'). Laid BY PROGRAM, IN A SANDBOX (cutbox-door.mjs). By AI agents, Wed Nov 11 2026. No macro, syntax, notation, axiom, sorry.
-/
import Derived.Test.YtjkojhpmiijgfaaDoorRows
import GoSem.ClaimSeven
namespace Go.Proofs.YtjkojhpmiijgfaaDoor
namespace Rows

/-- THE TIED CARD OF 'sortilegelaw22.ReachTells'. -/
def reachTellsCard : Claim7 := { stood := { row := reachTellsRow, standIns := [], harness := (true, "9a4f39693ee23bbffb29709384e856e6875e8639409a912986a9984a6615cb2f"), looks := true }, kinds := [], alts := [], laidByText := true, laidKinds := [.handle], laidTests := true, laidLooks := .later }
def ReachTellsCardSaid : Prop := Claim7.holds Tryd.pinned (.plain (OpenSpec.ofChange reachTellsSpec)) reachTellsCard

/-- THE TIED CARD OF 'sortilegelaw22.ReachPicks'. -/
def reachPicksCard : Claim7 := { stood := { row := reachPicksRow, standIns := [], harness := (true, "9a4f39693ee23bbffb29709384e856e6875e8639409a912986a9984a6615cb2f"), looks := true }, kinds := [], alts := [], laidByText := true, laidKinds := [.handle], laidTests := true, laidLooks := .later }
def ReachPicksCardSaid : Prop := Claim7.holds Tryd.pinned (.plain (OpenSpec.ofChange reachPicksSpec)) reachPicksCard

/-- THE TIED CARD OF 'sortilegelaw22.ReachOrder'. -/
def reachOrderCard : Claim7 := { stood := { row := reachOrderRow, standIns := [], harness := (true, "9a4f39693ee23bbffb29709384e856e6875e8639409a912986a9984a6615cb2f"), looks := true }, kinds := [], alts := [], laidByText := true, laidKinds := [.handle], laidTests := true, laidLooks := .later }
def ReachOrderCardSaid : Prop := Claim7.holds Tryd.pinned (.plain (OpenSpec.ofChange reachOrderSpec)) reachOrderCard

/-- THE TIED CARD OF 'sortilegelaw22.ReachGrows'. -/
def reachGrowsCard : Claim7 := { stood := { row := reachGrowsRow, standIns := [], harness := (true, "9a4f39693ee23bbffb29709384e856e6875e8639409a912986a9984a6615cb2f"), looks := true }, kinds := [], alts := [], laidByText := true, laidKinds := [.handle], laidTests := true, laidLooks := .later }
def ReachGrowsCardSaid : Prop := Claim7.holds Tryd.pinned (.plain (OpenSpec.ofChange reachGrowsSpec)) reachGrowsCard

/-- THE TIED CARD OF 'sortilegelaw22.ReachAny'. -/
def reachAnyCard : Claim7 := { stood := { row := reachAnyRow, standIns := [], harness := (true, "9a4f39693ee23bbffb29709384e856e6875e8639409a912986a9984a6615cb2f"), looks := true }, kinds := [], alts := [], laidByText := true, laidKinds := [.handle], laidTests := true, laidLooks := .later }
def ReachAnyCardSaid : Prop := Claim7.holds Tryd.pinned (.plain (OpenSpec.ofChange reachAnySpec)) reachAnyCard

/-- THE SECOND FORM's CARD OF 'sortilegelaw22.ReachTells'. -/
def reachTellsUptoCard : Claim7 := { stood := { row := reachTellsUptoRow, standIns := [], harness := (true, "9a4f39693ee23bbffb29709384e856e6875e8639409a912986a9984a6615cb2f"), looks := true }, kinds := [], alts := [], laidByText := true, laidKinds := [.handle], laidTests := true, laidLooks := .later }
def ReachTellsUptoCardSaid : Prop := Claim7.holds Tryd.pinned (.plain (OpenSpec.upto reachTellsSpec)) reachTellsUptoCard

/-- THE SECOND FORM's CARD OF 'sortilegelaw22.ReachPicks'. -/
def reachPicksUptoCard : Claim7 := { stood := { row := reachPicksUptoRow, standIns := [], harness := (true, "9a4f39693ee23bbffb29709384e856e6875e8639409a912986a9984a6615cb2f"), looks := true }, kinds := [], alts := [], laidByText := true, laidKinds := [.handle], laidTests := true, laidLooks := .later }
def ReachPicksUptoCardSaid : Prop := Claim7.holds Tryd.pinned (.plain (OpenSpec.upto reachPicksSpec)) reachPicksUptoCard

/-- THE SECOND FORM's CARD OF 'sortilegelaw22.ReachOrder'. -/
def reachOrderUptoCard : Claim7 := { stood := { row := reachOrderUptoRow, standIns := [], harness := (true, "9a4f39693ee23bbffb29709384e856e6875e8639409a912986a9984a6615cb2f"), looks := true }, kinds := [], alts := [], laidByText := true, laidKinds := [.handle], laidTests := true, laidLooks := .later }
def ReachOrderUptoCardSaid : Prop := Claim7.holds Tryd.pinned (.plain (OpenSpec.upto reachOrderSpec)) reachOrderUptoCard

/-- THE SECOND FORM's CARD OF 'sortilegelaw22.ReachGrows'. -/
def reachGrowsUptoCard : Claim7 := { stood := { row := reachGrowsUptoRow, standIns := [], harness := (true, "9a4f39693ee23bbffb29709384e856e6875e8639409a912986a9984a6615cb2f"), looks := true }, kinds := [], alts := [], laidByText := true, laidKinds := [.handle], laidTests := true, laidLooks := .later }
def ReachGrowsUptoCardSaid : Prop := Claim7.holds Tryd.pinned (.plain (OpenSpec.upto reachGrowsSpec)) reachGrowsUptoCard

/-- THE SECOND FORM's CARD OF 'sortilegelaw22.ReachAny'. -/
def reachAnyUptoCard : Claim7 := { stood := { row := reachAnyUptoRow, standIns := [], harness := (true, "9a4f39693ee23bbffb29709384e856e6875e8639409a912986a9984a6615cb2f"), looks := true }, kinds := [], alts := [], laidByText := true, laidKinds := [.handle], laidTests := true, laidLooks := .later }
def ReachAnyUptoCardSaid : Prop := Claim7.holds Tryd.pinned (.plain (OpenSpec.upto reachAnySpec)) reachAnyUptoCard
end Rows
end Go.Proofs.YtjkojhpmiijgfaaDoor
