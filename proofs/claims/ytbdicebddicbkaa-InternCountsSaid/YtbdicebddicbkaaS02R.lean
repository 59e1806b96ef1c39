/-
  From a law's contract to its row: what the seat's laws share.
-/
import Derived.Test.YtbdicebddicbkaaS02A
import Derived.Test.YtbdicebddicbkaaRows
import Derived.JoinedOf
namespace Go.Proofs.Ytbdicebddicbkaa
open Go Go.En
theorem own : ownKnob Try.prog.godebug = none := by kernel_rfl
theorem laidOut : laidOutB Try.prog = true := by kernel_rfl
theorem rowed : mapsRowed Try.prog = true := by kernel_rfl
theorem full : ((List.range Try.prog.types.size).all fun t => match Try.prog.underlying t with | some (.slice e) => decide (0 < Try.prog.cellsOf e) | _ => true) = true := by kernel_rfl
end Go.Proofs.Ytbdicebddicbkaa
