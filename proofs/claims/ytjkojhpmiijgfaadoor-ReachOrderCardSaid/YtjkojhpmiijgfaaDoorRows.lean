/-
  NARROWER THAN 'FOR EVERY INPUT', by the rows' own cells (each row's printed sentence says how): ReachTells: laid · ReachPicks: laid · ReachOrder: laid · ReachGrows: laid · ReachAny: laid.
  DERIVED. THE GIVEN ROWS OF THIS SEAT. 5 by the template 'for every input the law returns true; each argument reads behind the call as it read before'; 0 by the template 'total and deterministic' (their statements: YtjkojhpmiijgfaaDoorTotals.lean).
  GIVEN WITH THE SEED: the statements are not yours to turn. If you find one false, say at which input.
  Laid BY PROGRAM, IN A SANDBOX (cutbox-rows.mjs): the forced cells as the released guide's own fill.sh prints them over the translation adaba3e5bc7144a2… (all of the seat's roots in one cut). By AI agents, Wed Nov 11 2026. No macro, syntax, notation, axiom, sorry.
-/
import Derived.Test.YtjkojhpmiijgfaaDoorChecked
import GoSem.Claim
import GoSem.ClaimJoined
import GoSem.ClaimMapViews
import Derived.JoinedTies
import Derived.KernelRfl
namespace Go.Proofs.YtjkojhpmiijgfaaDoor
/- THE CELL 'sum', in the pinned program and in every row, IS THE sha256 OF THE DUMP (.gsa) THAT YtjkojhpmiijgfaaDoorProg.lean LOADS. Nothing in Lean hashes anything: it is a label: what it is worth is what the hold of that sum in a sandbox is worth. -/
noncomputable def Tryd.pinned : Pinned := { name := "ytjkojhpmiijgfaadoor", sum := "adaba3e5bc7144a2378d2ccc56ece62896d409cf99a7ee80e48f988be2172668", checked := Tryd.checked }
namespace Rows
def none {H : Type} : Left H := { results := [], args := [] }

/- WHAT THE LISTED PACKAGE-LEVEL VARIABLES READ AS WHEN THE CALL BEGINS. Each datum BY PROGRAM (the guide's laid-datum.mjs) off the statement by which the dump's own 'gosem.cut.vars' lays the variable. In a bare row this is a premise. The card (YtjkojhpmiijgfaaDoorCards.lean) ties it to the program's text. -/
def laid_errors_errorType {H : Type} : DataW H := .iface "internal/reflectlite.rtype" (.agg [.ptr (.lit (.string [101, 114, 114, 111, 114]))])

/-- 'sortilegelaw22.ReachTells': WHATEVER THE INPUT: true; the input reads as it did. -/
def reachTellsSpec : ChangeSpec := { name := "reachTells", fn := fun _ => fun
  | [d1, d2] => { results := [.lit (.bool true)], args := [d1, d2] }
  | _ => none }
def reachTellsRow : OpenClaim := { program := "ytjkojhpmiijgfaadoor", sum := "adaba3e5bc7144a2378d2ccc56ece62896d409cf99a7ee80e48f988be2172668", func := "sortilege/sortilegelaw22.ReachTells", spec := "reachTells", inPlace := ["internal/reflectlite.ValueOf", "(internal/reflectlite.Value).Type", "(internal/reflectlite.Value).IsNil", "internal/reflectlite.TypeOf", "(internal/reflectlite.Value).Elem", "(internal/reflectlite.Value).Set"], unfollowed := true, recurses := true, named := ["errors.errorType"], apart := false, laid := [("errors.errorType", laid_errors_errorType)] }
def ReachTellsSaid : Prop := reachTellsRow.holds Tryd.pinned (OpenSpec.ofChange reachTellsSpec)

/-- ITS FALSE NEIGHBOUR: 'it returns false'. Refute it at one input. -/
def reachTellsWrong : ChangeSpec := { name := "reachTells", fn := fun _ => fun
  | [d1, d2] => { results := [.lit (.bool false)], args := [d1, d2] }
  | _ => none }
def ReachTellsWrongFalsely : Prop := reachTellsRow.holds Tryd.pinned (OpenSpec.ofChange reachTellsWrong)

/-- 'sortilegelaw22.ReachPicks': WHATEVER THE INPUT: true; the input reads as it did. -/
def reachPicksSpec : ChangeSpec := { name := "reachPicks", fn := fun _ => fun
  | [d1, d2] => { results := [.lit (.bool true)], args := [d1, d2] }
  | _ => none }
def reachPicksRow : OpenClaim := { program := "ytjkojhpmiijgfaadoor", sum := "adaba3e5bc7144a2378d2ccc56ece62896d409cf99a7ee80e48f988be2172668", func := "sortilege/sortilegelaw22.ReachPicks", spec := "reachPicks", inPlace := ["internal/reflectlite.ValueOf", "(internal/reflectlite.Value).Type", "(internal/reflectlite.Value).IsNil", "internal/reflectlite.TypeOf", "(internal/reflectlite.Value).Elem", "(internal/reflectlite.Value).Set"], unfollowed := true, recurses := true, named := ["errors.errorType"], apart := false, laid := [("errors.errorType", laid_errors_errorType)] }
def ReachPicksSaid : Prop := reachPicksRow.holds Tryd.pinned (OpenSpec.ofChange reachPicksSpec)

/-- ITS FALSE NEIGHBOUR: 'it returns false'. Refute it at one input. -/
def reachPicksWrong : ChangeSpec := { name := "reachPicks", fn := fun _ => fun
  | [d1, d2] => { results := [.lit (.bool false)], args := [d1, d2] }
  | _ => none }
def ReachPicksWrongFalsely : Prop := reachPicksRow.holds Tryd.pinned (OpenSpec.ofChange reachPicksWrong)

/-- 'sortilegelaw22.ReachOrder': WHATEVER THE INPUT: true; the input reads as it did. -/
def reachOrderSpec : ChangeSpec := { name := "reachOrder", fn := fun _ => fun
  | [d1, d2, d3] => { results := [.lit (.bool true)], args := [d1, d2, d3] }
  | _ => none }
def reachOrderRow : OpenClaim := { program := "ytjkojhpmiijgfaadoor", sum := "adaba3e5bc7144a2378d2ccc56ece62896d409cf99a7ee80e48f988be2172668", func := "sortilege/sortilegelaw22.ReachOrder", spec := "reachOrder", inPlace := ["internal/reflectlite.ValueOf", "(internal/reflectlite.Value).Type", "(internal/reflectlite.Value).IsNil", "internal/reflectlite.TypeOf", "(internal/reflectlite.Value).Elem", "(internal/reflectlite.Value).Set"], unfollowed := true, recurses := true, named := ["errors.errorType"], apart := false, laid := [("errors.errorType", laid_errors_errorType)] }
def ReachOrderSaid : Prop := reachOrderRow.holds Tryd.pinned (OpenSpec.ofChange reachOrderSpec)

/-- ITS FALSE NEIGHBOUR: 'it returns false'. Refute it at one input. -/
def reachOrderWrong : ChangeSpec := { name := "reachOrder", fn := fun _ => fun
  | [d1, d2, d3] => { results := [.lit (.bool false)], args := [d1, d2, d3] }
  | _ => none }
def ReachOrderWrongFalsely : Prop := reachOrderRow.holds Tryd.pinned (OpenSpec.ofChange reachOrderWrong)

/-- 'sortilegelaw22.ReachGrows': WHATEVER THE INPUT: true; the input reads as it did. -/
def reachGrowsSpec : ChangeSpec := { name := "reachGrows", fn := fun _ => fun
  | [d1, d2, d3] => { results := [.lit (.bool true)], args := [d1, d2, d3] }
  | _ => none }
def reachGrowsRow : OpenClaim := { program := "ytjkojhpmiijgfaadoor", sum := "adaba3e5bc7144a2378d2ccc56ece62896d409cf99a7ee80e48f988be2172668", func := "sortilege/sortilegelaw22.ReachGrows", spec := "reachGrows", inPlace := ["internal/reflectlite.ValueOf", "(internal/reflectlite.Value).Type", "(internal/reflectlite.Value).IsNil", "internal/reflectlite.TypeOf", "(internal/reflectlite.Value).Elem", "(internal/reflectlite.Value).Set"], unfollowed := true, recurses := true, named := ["errors.errorType"], apart := false, laid := [("errors.errorType", laid_errors_errorType)] }
def ReachGrowsSaid : Prop := reachGrowsRow.holds Tryd.pinned (OpenSpec.ofChange reachGrowsSpec)

/-- ITS FALSE NEIGHBOUR: 'it returns false'. Refute it at one input. -/
def reachGrowsWrong : ChangeSpec := { name := "reachGrows", fn := fun _ => fun
  | [d1, d2, d3] => { results := [.lit (.bool false)], args := [d1, d2, d3] }
  | _ => none }
def ReachGrowsWrongFalsely : Prop := reachGrowsRow.holds Tryd.pinned (OpenSpec.ofChange reachGrowsWrong)

/-- 'sortilegelaw22.ReachAny': WHATEVER THE INPUT: true; the input reads as it did. -/
def reachAnySpec : ChangeSpec := { name := "reachAny", fn := fun _ => fun
  | [d1, d2, d3] => { results := [.lit (.bool true)], args := [d1, d2, d3] }
  | _ => none }
def reachAnyRow : OpenClaim := { program := "ytjkojhpmiijgfaadoor", sum := "adaba3e5bc7144a2378d2ccc56ece62896d409cf99a7ee80e48f988be2172668", func := "sortilege/sortilegelaw22.ReachAny", spec := "reachAny", inPlace := ["internal/reflectlite.ValueOf", "(internal/reflectlite.Value).Type", "(internal/reflectlite.Value).IsNil", "internal/reflectlite.TypeOf", "(internal/reflectlite.Value).Elem", "(internal/reflectlite.Value).Set"], unfollowed := true, recurses := true, named := ["errors.errorType"], apart := false, laid := [("errors.errorType", laid_errors_errorType)] }
def ReachAnySaid : Prop := reachAnyRow.holds Tryd.pinned (OpenSpec.ofChange reachAnySpec)

/-- ITS FALSE NEIGHBOUR: 'it returns false'. Refute it at one input. -/
def reachAnyWrong : ChangeSpec := { name := "reachAny", fn := fun _ => fun
  | [d1, d2, d3] => { results := [.lit (.bool false)], args := [d1, d2, d3] }
  | _ => none }
def ReachAnyWrongFalsely : Prop := reachAnyRow.holds Tryd.pinned (OpenSpec.ofChange reachAnyWrong)

/- THE SECOND FORM. 'bulk': how many values and letters a reading holds, each counted each time it is reached (what is shared counts as often as it is met; a slice's spare places count too). A statement '..UptoSaid' is the law's where the arguments, and the package variables that the reading takes, are together of bulk at most 1048576: NARROWER than '..Said'. Prove '..Said' where nothing that the law and all that it calls make is longer than what came in: it says more and counts as full. Else prove '..UptoSaid'. A law counts once. -/
mutual
def uptoBulk {H : Type} : DataW H → Nat
  | .lit (.string bytes) => bytes.length + 1
  | .lit _ => 1
  | .nil => 1
  | .ptr d => uptoBulk d + 1
  | .slice elems spare => uptoBulkAll elems + uptoBulkAll spare + 1
  | .agg parts => uptoBulkAll parts + 1
  | .iface _ d => uptoBulk d + 1
  | .map entries => uptoBulkEntries entries + 1
  | .held _ => 1
def uptoBulkAll {H : Type} : List (DataW H) → Nat
  | [] => 0
  | d :: r => uptoBulk d + uptoBulkAll r
def uptoBulkEntries {H : Type} : List (Lit × DataW H) → Nat
  | [] => 0
  | x :: r => uptoBulkEntry x + uptoBulkEntries r
def uptoBulkEntry {H : Type} : Lit × DataW H → Nat
  | (.string bytes, d) => bytes.length + uptoBulk d + 1
  | (_, d) => uptoBulk d + 1
 end
def uptoSmall : (H : Type) → List (DataW H) → Bool := fun _ ds => decide (uptoBulkAll ds ≤ 1048576)
def OpenSpec.upto (s : _root_.Go.ChangeSpec) : _root_.Go.OpenSpec := { _root_.Go.OpenSpec.ofChange s with cond := some uptoSmall }

/-- 'sortilegelaw22.ReachTells', WHERE WHAT IT READS IS OF BULK AT MOST 1048576: true; the input reads as it did. -/
def reachTellsUptoRow : OpenClaim := { program := "ytjkojhpmiijgfaadoor", sum := "adaba3e5bc7144a2378d2ccc56ece62896d409cf99a7ee80e48f988be2172668", func := "sortilege/sortilegelaw22.ReachTells", spec := "reachTells", inPlace := ["internal/reflectlite.ValueOf", "(internal/reflectlite.Value).Type", "(internal/reflectlite.Value).IsNil", "internal/reflectlite.TypeOf", "(internal/reflectlite.Value).Elem", "(internal/reflectlite.Value).Set"], unfollowed := true, recurses := true, named := ["errors.errorType"], apart := false, laid := [("errors.errorType", laid_errors_errorType)], narrowed := true }
def ReachTellsUptoSaid : Prop := reachTellsUptoRow.holds Tryd.pinned (OpenSpec.upto reachTellsSpec)

/-- 'sortilegelaw22.ReachPicks', WHERE WHAT IT READS IS OF BULK AT MOST 1048576: true; the input reads as it did. -/
def reachPicksUptoRow : OpenClaim := { program := "ytjkojhpmiijgfaadoor", sum := "adaba3e5bc7144a2378d2ccc56ece62896d409cf99a7ee80e48f988be2172668", func := "sortilege/sortilegelaw22.ReachPicks", spec := "reachPicks", inPlace := ["internal/reflectlite.ValueOf", "(internal/reflectlite.Value).Type", "(internal/reflectlite.Value).IsNil", "internal/reflectlite.TypeOf", "(internal/reflectlite.Value).Elem", "(internal/reflectlite.Value).Set"], unfollowed := true, recurses := true, named := ["errors.errorType"], apart := false, laid := [("errors.errorType", laid_errors_errorType)], narrowed := true }
def ReachPicksUptoSaid : Prop := reachPicksUptoRow.holds Tryd.pinned (OpenSpec.upto reachPicksSpec)

/-- 'sortilegelaw22.ReachOrder', WHERE WHAT IT READS IS OF BULK AT MOST 1048576: true; the input reads as it did. -/
def reachOrderUptoRow : OpenClaim := { program := "ytjkojhpmiijgfaadoor", sum := "adaba3e5bc7144a2378d2ccc56ece62896d409cf99a7ee80e48f988be2172668", func := "sortilege/sortilegelaw22.ReachOrder", spec := "reachOrder", inPlace := ["internal/reflectlite.ValueOf", "(internal/reflectlite.Value).Type", "(internal/reflectlite.Value).IsNil", "internal/reflectlite.TypeOf", "(internal/reflectlite.Value).Elem", "(internal/reflectlite.Value).Set"], unfollowed := true, recurses := true, named := ["errors.errorType"], apart := false, laid := [("errors.errorType", laid_errors_errorType)], narrowed := true }
def ReachOrderUptoSaid : Prop := reachOrderUptoRow.holds Tryd.pinned (OpenSpec.upto reachOrderSpec)

/-- 'sortilegelaw22.ReachGrows', WHERE WHAT IT READS IS OF BULK AT MOST 1048576: true; the input reads as it did. -/
def reachGrowsUptoRow : OpenClaim := { program := "ytjkojhpmiijgfaadoor", sum := "adaba3e5bc7144a2378d2ccc56ece62896d409cf99a7ee80e48f988be2172668", func := "sortilege/sortilegelaw22.ReachGrows", spec := "reachGrows", inPlace := ["internal/reflectlite.ValueOf", "(internal/reflectlite.Value).Type", "(internal/reflectlite.Value).IsNil", "internal/reflectlite.TypeOf", "(internal/reflectlite.Value).Elem", "(internal/reflectlite.Value).Set"], unfollowed := true, recurses := true, named := ["errors.errorType"], apart := false, laid := [("errors.errorType", laid_errors_errorType)], narrowed := true }
def ReachGrowsUptoSaid : Prop := reachGrowsUptoRow.holds Tryd.pinned (OpenSpec.upto reachGrowsSpec)

/-- 'sortilegelaw22.ReachAny', WHERE WHAT IT READS IS OF BULK AT MOST 1048576: true; the input reads as it did. -/
def reachAnyUptoRow : OpenClaim := { program := "ytjkojhpmiijgfaadoor", sum := "adaba3e5bc7144a2378d2ccc56ece62896d409cf99a7ee80e48f988be2172668", func := "sortilege/sortilegelaw22.ReachAny", spec := "reachAny", inPlace := ["internal/reflectlite.ValueOf", "(internal/reflectlite.Value).Type", "(internal/reflectlite.Value).IsNil", "internal/reflectlite.TypeOf", "(internal/reflectlite.Value).Elem", "(internal/reflectlite.Value).Set"], unfollowed := true, recurses := true, named := ["errors.errorType"], apart := false, laid := [("errors.errorType", laid_errors_errorType)], narrowed := true }
def ReachAnyUptoSaid : Prop := reachAnyUptoRow.holds Tryd.pinned (OpenSpec.upto reachAnySpec)

end Rows
end Go.Proofs.YtjkojhpmiijgfaaDoor
