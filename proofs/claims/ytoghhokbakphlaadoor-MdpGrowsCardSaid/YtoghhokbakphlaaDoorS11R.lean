/-
  From a law's contract to its card: what the seat's laws share.
-/
import Derived.Test.YtoghhokbakphlaaDoorS11A
import Derived.Test.YtoghhokbakphlaaDoorCards
import Derived.Test.YtoghhokbakphlaaDoorTie
import Derived.JoinedOf
import Derived.LaidLaws
import Derived.LaidHandle
import Derived.Stop.Joined
namespace Go.Proofs.YtoghhokbakphlaaDoor
open Go Go.En Go.ChangeShapes Go.WideShapes Go.RowKit

theorem gx_nil (W : World) : GxAt S11.C0 W := fun _ h => by cases h
theorem minOk : MinOk S11.C0 := minOk_of (by kernel_rfl)
theorem own : ownKnob Tryd.prog.godebug = none := by kernel_rfl
theorem et : Tryd.prog.globalNamed "errors.errorType" = some 0 := by kernel_rfl
theorem rt : (Tryd.prog.cutTypes.find? (·.1 == "internal/reflectlite.rtype")).map (·.2) = some 116 := by kernel_rfl
theorem oneRow : ((List.range Tryd.prog.types.size).filter fun t => Tryd.prog.rowNamed t [101, 114, 114, 111, 114]) = [43] := by kernel_rfl
theorem handle : typeHandle Tryd.prog 43 = .pointer (some ⟨1, 43, none⟩) := by kernel_rfl

/-- what the condition gives: the variable's one cell -/
theorem handle_of_laid {W : World} (h : laidMetH Tryd.prog [("errors.errorType", Rows.laid_errors_errorType)] W) : W.cell? ⟨0, 0, none⟩ = some (.iface 116 (.agg #[.pointer (some ⟨1, 43, none⟩)])) := by
  have h' : laidMet Tryd.prog [] W ∧ handlesMet Tryd.prog [("errors.errorType", Rows.laid_errors_errorType)] W := h
  obtain ⟨name, u, ty, e1, e2, e3, e4, e5⟩ := h'.2 _ (List.mem_singleton.2 rfl)
  have en : name = [101, 114, 114, 111, 114] := (Option.some.inj e1).symm
  subst en
  obtain rfl := Option.some.inj (rt.symm.trans e2)
  have hm : ty ∈ (List.range Tryd.prog.types.size).filter fun t => Tryd.prog.rowNamed t [101, 114, 114, 111, 114] := List.mem_filter.2 ⟨List.mem_range.2 e3, e4⟩
  rw [oneRow] at hm
  obtain rfl := List.mem_singleton.1 hm
  rw [handle] at e5
  simpa using World.var?_cell et e5 0
/-- a world that meets the condition -/
noncomputable def laidWorld (os : Os) : World :=
  let w0 := World.holding Tryd.prog os ⟨#[], #[], []⟩
  { w0 with heap := w0.heap.modify 0 fun
      | .cells _ t frozen => .cells #[.iface 116 (.agg #[.pointer (some ⟨1, 43, none⟩)])] t frozen
      | o => o }
theorem laidWorld_met (os : Os) (args : Array Value) : laidMetH Tryd.prog [("errors.errorType", Rows.laid_errors_errorType)] ((laidWorld os).forCall (fun _ _ => 0) ⟨#[], args, []⟩).memory :=
  laidMetH_of_parts (laidMet_nil _ _) (by kernel_rfl)
theorem laidOut : laidOutB Tryd.prog = true := by kernel_rfl
theorem rowed : mapsRowed Tryd.prog = true := by kernel_rfl
theorem full : ((List.range Tryd.prog.types.size).all fun t => match Tryd.prog.underlying t with | some (.slice e) => decide (0 < Tryd.prog.cellsOf e) | _ => true) = true := by kernel_rfl
theorem gl_of {W : World} (h : laidMetH Tryd.prog [("errors.errorType", Rows.laid_errors_errorType)] W) : Gl S11.C0 W ∧ 0 < W.heap.size := by
  have h1 := handle_of_laid h
  refine ⟨fun v hv => ?_, ?_⟩
  · have : v = .iface 116 (.agg #[.pointer (some ⟨1, 43, none⟩)]) := (Option.some.inj hv).symm
    rw [this]; exact h1
  · exact En.cell_lt h1
end Go.Proofs.YtoghhokbakphlaaDoor
