/-
  From a law's contract to its card: what the seat's laws share.
-/
import Derived.Test.YtjmpbpggbkkhpaaDoorS01A
import Derived.Test.YtjmpbpggbkkhpaaDoorCards
import Derived.Test.YtjmpbpggbkkhpaaDoorTie
import Derived.JoinedOf
import Derived.LaidLaws
import Derived.LaidHandle
import Derived.Stop.Joined
import Derived.OpenShut
namespace Go.Proofs.YtjmpbpggbkkhpaaDoor
open Go Go.En Go.ChangeShapes Go.WideShapes Go.RowKit
abbrev laidL : List (String × DataW Unit) := [("math/bits.deBruijn64tab", Rows.laid_math_bits_deBruijn64tab), ("errors.errorType", Rows.laid_errors_errorType)]
theorem own : ownKnob Tryd.prog.godebug = none := by kernel_rfl
theorem gt : Tryd.prog.globalNamed "math/bits.deBruijn64tab" = some 0 := by kernel_rfl
theorem et : Tryd.prog.globalNamed "errors.errorType" = some 1 := by kernel_rfl
theorem rt : (Tryd.prog.cutTypes.find? (·.1 == "internal/reflectlite.rtype")).map (·.2) = some 83 := by kernel_rfl
theorem oneRow : ((List.range Tryd.prog.types.size).filter fun t => Tryd.prog.rowNamed t [101, 114, 114, 111, 114]) = [26] := by kernel_rfl
theorem handle : typeHandle Tryd.prog 26 = .pointer (some ⟨2, 26, none⟩) := by kernel_rfl
/-- what the condition gives: the cells of both variables -/
theorem handle_of_laid {W : World} (h : laidMetH Tryd.prog laidL W) : W.cell? ⟨1, 0, none⟩ = some (.iface 83 (.agg #[.pointer (some ⟨2, 26, none⟩)])) := by
  have h' : laidMet Tryd.prog [("math/bits.deBruijn64tab", Rows.laid_math_bits_deBruijn64tab)] W ∧ handlesMet Tryd.prog [("errors.errorType", Rows.laid_errors_errorType)] W := h
  obtain ⟨name, u, ty, e1, e2, e3, e4, e5⟩ := h'.2 _ (List.mem_singleton.2 rfl)
  have en : name = [101, 114, 114, 111, 114] := (Option.some.inj e1).symm
  subst en
  obtain rfl := Option.some.inj (rt.symm.trans e2)
  have hm : ty ∈ (List.range Tryd.prog.types.size).filter fun t => Tryd.prog.rowNamed t [101, 114, 114, 111, 114] := List.mem_filter.2 ⟨List.mem_range.2 e3, e4⟩
  rw [oneRow] at hm
  obtain rfl := List.mem_singleton.1 hm
  rw [handle] at e5
  simpa using World.var?_cell et e5 0
theorem tab_of_laid {W : World} (h : laidMetH Tryd.prog laidL W) (r : Nat) (hr : r < 64) : W.cell? ⟨0, r, none⟩ = some (.int .u8 (Lib.deBruijn64tab.getD r 0 : Nat)) := by
  have h' : laidMet Tryd.prog [("math/bits.deBruijn64tab", Rows.laid_math_bits_deBruijn64tab)] W ∧ handlesMet Tryd.prog [("errors.errorType", Rows.laid_errors_errorType)] W := h
  obtain ⟨ps, ⟨g, t, cs, fuel, p, q, hg, ht, hv, hd, _, _⟩, _, _⟩ := h'.1
  obtain rfl := Option.some.inj (gt.symm.trans hg)
  obtain rfl := Option.some.inj ((show (Tryd.prog.globals[0]?).map (·.type) = some 68 by kernel_rfl).symm.trans ht)
  obtain ⟨xs, m, _, ex, _, hl, hel⟩ := DataW.trod_array Tryd.underlying68 hd
  have c5 : Tryd.prog.cellsOf 5 = 1 := by kernel_rfl
  have hE := hel r hr
  rw [c5, Nat.mul_one, List.getElem?_eq_getElem (by omega)] at hE
  obtain ⟨z, e1, e2, _⟩ := DataW.trod_int Tryd.underlying5 hE
  have hlen : Lib.deBruijn64tab.length = 64 := rfl
  have e3 : (xs.map (·.1)) = Lib.deBruijn64tab.map fun n => .lit (.int .u8 (n : Nat)) := (DataW.agg.inj (Prod.mk.inj ex).1).symm
  have e4 : (xs.map (·.1))[r]? = (Lib.deBruijn64tab.map fun n => (DataW.lit (.int .u8 (n : Nat)) : DataW Unit))[r]? := by rw [e3]
  rw [List.getElem?_map, List.getElem?_map, List.getElem?_eq_getElem (by omega : r < xs.length), List.getElem?_eq_getElem (by omega : r < Lib.deBruijn64tab.length), e2] at e4
  have hz : z = (Lib.deBruijn64tab.getD r 0 : Nat) := by
    simp only [Option.map_some, Option.some.injEq, DataW.lit.injEq, Lit.int.injEq, true_and] at e4
    rw [e4, List.getD, List.getElem?_eq_getElem (by omega : r < Lib.deBruijn64tab.length)]; rfl
  rw [World.var?_cell hg hv r, ← hz]
  have : cs.toList[r]? = some (.int .u8 z) := by
    have h0 : ((cs.toList.drop r).take 1)[0]? = some (.int .u8 z) := by rw [e1]; rfl
    simpa using h0
  simpa using this
/-- a world that meets the condition -/
noncomputable def laidWorld (os : Os) : World :=
  let w0 := World.holding Tryd.prog os ⟨#[], #[], []⟩
  { w0 with heap := (w0.heap.modify 0 fun
      | .cells _ t frozen => .cells S1.tab.toArray t frozen
      | o => o).modify 1 fun
      | .cells _ t frozen => .cells #[.iface 83 (.agg #[.pointer (some ⟨2, 26, none⟩)])] t frozen
      | o => o }
theorem laidWorld_met (os : Os) (args : Array Value) : laidMetH Tryd.prog laidL ((laidWorld os).forCall (fun _ _ => 0) ⟨#[], args, []⟩).memory :=
  laidMetH_of_parts (laidMet_of_run' 20 (by kernel_rfl) (by kernel_rfl)) (by kernel_rfl)
theorem laidOut : laidOutB Tryd.prog = true := by kernel_rfl
theorem rowed : mapsRowed Tryd.prog = true := by kernel_rfl
theorem full : ((List.range Tryd.prog.types.size).all fun t => match Tryd.prog.underlying t with | some (.slice e) => decide (0 < Tryd.prog.cellsOf e) | _ => true) = true := by kernel_rfl
theorem gx_of {W : World} (h : laidMetH Tryd.prog laidL W) : GxAt S1.C0 W := by
  intro p hp
  have hp' : p ∈ [(0, S1.tab), (1, [.iface 83 (.agg #[.pointer (some ⟨2, 26, none⟩)])])] := hp
  rcases List.mem_cons.1 hp' with rfl | hp'
  · refine ⟨En.cell_lt (tab_of_laid h 0 (by omega)), fun i v hv => ?_⟩
    have hi : i < 64 := by
      have := (List.getElem?_eq_some_iff.1 hv).1
      simpa [S1.tab, Lib.deBruijn64tab] using this
    rw [tab_of_laid h i hi]
    have hl : i < Lib.deBruijn64tab.length := hi
    unfold S1.tab at hv
    rw [List.getElem?_map, List.getElem?_eq_getElem hl] at hv
    rw [← hv]
    simp [List.getD_eq_getElem?_getD, hl]
  · obtain rfl := List.mem_singleton.1 hp'
    have h1 := handle_of_laid h
    refine ⟨En.cell_lt h1, fun i v hv => ?_⟩
    cases i with
    | zero => rw [← hv]; exact h1
    | succ i => simp at hv
end Go.Proofs.YtjmpbpggbkkhpaaDoor
