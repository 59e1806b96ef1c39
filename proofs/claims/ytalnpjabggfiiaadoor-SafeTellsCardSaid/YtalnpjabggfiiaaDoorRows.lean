/-
  NARROWER THAN 'FOR EVERY INPUT', by the rows' own cells (each row's printed sentence says how): SafeBack: laid · SafeOrder: laid · SafeSums: laid · SafeGcd: laid · SafeTells: laid.
  DERIVED. THE GIVEN ROWS OF THIS SEAT. 5 by the template 'for every input the law returns true; each argument reads behind the call as it read before'; 0 by the template 'total and deterministic' (their statements: YtalnpjabggfiiaaDoorTotals.lean).
  GIVEN WITH THE SEED: the statements are not yours to turn. If you find one false, say at which input.
  Laid BY PROGRAM, IN A SANDBOX (cutbox-rows.mjs): the forced cells as the released guide's own fill.sh prints them over the translation 0b52f079cfb4b7df… (all of the seat's roots in one cut). By AI agents, Wed Nov 11 2026. No macro, syntax, notation, axiom, sorry.
-/
import Derived.Test.YtalnpjabggfiiaaDoorChecked
import GoSem.Claim
import GoSem.ClaimJoined
import GoSem.ClaimMapViews
import Derived.JoinedTies
import Derived.KernelRfl
namespace Go.Proofs.YtalnpjabggfiiaaDoor
/- THE CELL 'sum', in the pinned program and in every row, IS THE sha256 OF THE DUMP (.gsa) THAT YtalnpjabggfiiaaDoorProg.lean LOADS. Nothing in Lean hashes anything: it is a label: what it is worth is what the hold of that sum in a sandbox is worth. -/
noncomputable def Tryd.pinned : Pinned := { name := "ytalnpjabggfiiaadoor", sum := "0b52f079cfb4b7df7a2bf1d80a1b6b0258af136a26902213752cf914291ab428", checked := Tryd.checked }
namespace Rows
def none {H : Type} : Left H := { results := [], args := [] }

/- WHAT THE LISTED PACKAGE-LEVEL VARIABLES READ AS WHEN THE CALL BEGINS. Each datum BY PROGRAM (the guide's laid-datum.mjs) off the statement by which the dump's own 'gosem.cut.vars' lays the variable. In a bare row this is a premise. The card (YtalnpjabggfiiaaDoorCards.lean) ties it to the program's text. -/
def laid_errors_errorType {H : Type} : DataW H := .iface "internal/reflectlite.rtype" (.agg [.ptr (.lit (.string [101, 114, 114, 111, 114]))])

/-- 'sortilegelaw03.SafeBack': WHATEVER THE INPUT: true; the input reads as it did. -/
def safeBackSpec : ChangeSpec := { name := "safeBack", fn := fun _ => fun
  | [d1, d2] => { results := [.lit (.bool true)], args := [d1, d2] }
  | _ => none }
def safeBackRow : OpenClaim := { program := "ytalnpjabggfiiaadoor", sum := "0b52f079cfb4b7df7a2bf1d80a1b6b0258af136a26902213752cf914291ab428", func := "sortilege/sortilegelaw03.SafeBack", spec := "safeBack", inPlace := ["internal/reflectlite.ValueOf", "(internal/reflectlite.Value).Type", "(internal/reflectlite.Value).IsNil", "internal/reflectlite.TypeOf", "(internal/reflectlite.Value).Elem", "(internal/reflectlite.Value).Set"], unfollowed := true, recurses := true, named := ["errors.errorType"], apart := false, laid := [("errors.errorType", laid_errors_errorType)] }
def SafeBackSaid : Prop := safeBackRow.holds Tryd.pinned (OpenSpec.ofChange safeBackSpec)

/-- ITS FALSE NEIGHBOUR: 'it returns false'. Refute it at one input. -/
def safeBackWrong : ChangeSpec := { name := "safeBack", fn := fun _ => fun
  | [d1, d2] => { results := [.lit (.bool false)], args := [d1, d2] }
  | _ => none }
def SafeBackWrongFalsely : Prop := safeBackRow.holds Tryd.pinned (OpenSpec.ofChange safeBackWrong)

/-- 'sortilegelaw03.SafeOrder': WHATEVER THE INPUT: true; the input reads as it did. -/
def safeOrderSpec : ChangeSpec := { name := "safeOrder", fn := fun _ => fun
  | [d1, d2, d3] => { results := [.lit (.bool true)], args := [d1, d2, d3] }
  | _ => none }
def safeOrderRow : OpenClaim := { program := "ytalnpjabggfiiaadoor", sum := "0b52f079cfb4b7df7a2bf1d80a1b6b0258af136a26902213752cf914291ab428", func := "sortilege/sortilegelaw03.SafeOrder", spec := "safeOrder", inPlace := ["internal/reflectlite.ValueOf", "(internal/reflectlite.Value).Type", "(internal/reflectlite.Value).IsNil", "internal/reflectlite.TypeOf", "(internal/reflectlite.Value).Elem", "(internal/reflectlite.Value).Set"], unfollowed := true, recurses := true, named := ["errors.errorType"], apart := false, laid := [("errors.errorType", laid_errors_errorType)] }
def SafeOrderSaid : Prop := safeOrderRow.holds Tryd.pinned (OpenSpec.ofChange safeOrderSpec)

/-- ITS FALSE NEIGHBOUR: 'it returns false'. Refute it at one input. -/
def safeOrderWrong : ChangeSpec := { name := "safeOrder", fn := fun _ => fun
  | [d1, d2, d3] => { results := [.lit (.bool false)], args := [d1, d2, d3] }
  | _ => none }
def SafeOrderWrongFalsely : Prop := safeOrderRow.holds Tryd.pinned (OpenSpec.ofChange safeOrderWrong)

/-- 'sortilegelaw03.SafeSums': WHATEVER THE INPUT: true; the input reads as it did. -/
def safeSumsSpec : ChangeSpec := { name := "safeSums", fn := fun _ => fun
  | [d1, d2] => { results := [.lit (.bool true)], args := [d1, d2] }
  | _ => none }
def safeSumsRow : OpenClaim := { program := "ytalnpjabggfiiaadoor", sum := "0b52f079cfb4b7df7a2bf1d80a1b6b0258af136a26902213752cf914291ab428", func := "sortilege/sortilegelaw03.SafeSums", spec := "safeSums", inPlace := ["internal/reflectlite.ValueOf", "(internal/reflectlite.Value).Type", "(internal/reflectlite.Value).IsNil", "internal/reflectlite.TypeOf", "(internal/reflectlite.Value).Elem", "(internal/reflectlite.Value).Set"], unfollowed := true, recurses := true, named := ["errors.errorType"], apart := false, laid := [("errors.errorType", laid_errors_errorType)] }
def SafeSumsSaid : Prop := safeSumsRow.holds Tryd.pinned (OpenSpec.ofChange safeSumsSpec)

/-- ITS FALSE NEIGHBOUR: 'it returns false'. Refute it at one input. -/
def safeSumsWrong : ChangeSpec := { name := "safeSums", fn := fun _ => fun
  | [d1, d2] => { results := [.lit (.bool false)], args := [d1, d2] }
  | _ => none }
def SafeSumsWrongFalsely : Prop := safeSumsRow.holds Tryd.pinned (OpenSpec.ofChange safeSumsWrong)

/-- 'sortilegelaw03.SafeGcd': WHATEVER THE INPUT: true; the input reads as it did. -/
def safeGcdSpec : ChangeSpec := { name := "safeGcd", fn := fun _ => fun
  | [d1, d2, d3] => { results := [.lit (.bool true)], args := [d1, d2, d3] }
  | _ => none }
def safeGcdRow : OpenClaim := { program := "ytalnpjabggfiiaadoor", sum := "0b52f079cfb4b7df7a2bf1d80a1b6b0258af136a26902213752cf914291ab428", func := "sortilege/sortilegelaw03.SafeGcd", spec := "safeGcd", inPlace := ["internal/reflectlite.ValueOf", "(internal/reflectlite.Value).Type", "(internal/reflectlite.Value).IsNil", "internal/reflectlite.TypeOf", "(internal/reflectlite.Value).Elem", "(internal/reflectlite.Value).Set", "math/bits.Add64"], unfollowed := true, recurses := true, named := ["errors.errorType"], apart := false, laid := [("errors.errorType", laid_errors_errorType)] }
def SafeGcdSaid : Prop := safeGcdRow.holds Tryd.pinned (OpenSpec.ofChange safeGcdSpec)

/-- ITS FALSE NEIGHBOUR: 'it returns false'. Refute it at one input. -/
def safeGcdWrong : ChangeSpec := { name := "safeGcd", fn := fun _ => fun
  | [d1, d2, d3] => { results := [.lit (.bool false)], args := [d1, d2, d3] }
  | _ => none }
def SafeGcdWrongFalsely : Prop := safeGcdRow.holds Tryd.pinned (OpenSpec.ofChange safeGcdWrong)

/-- 'sortilegelaw03.SafeTells': WHATEVER THE INPUT: true; the input reads as it did. -/
def safeTellsSpec : ChangeSpec := { name := "safeTells", fn := fun _ => fun
  | [d1, d2] => { results := [.lit (.bool true)], args := [d1, d2] }
  | _ => none }
def safeTellsRow : OpenClaim := { program := "ytalnpjabggfiiaadoor", sum := "0b52f079cfb4b7df7a2bf1d80a1b6b0258af136a26902213752cf914291ab428", func := "sortilege/sortilegelaw03.SafeTells", spec := "safeTells", inPlace := ["internal/reflectlite.ValueOf", "(internal/reflectlite.Value).Type", "(internal/reflectlite.Value).IsNil", "internal/reflectlite.TypeOf", "(internal/reflectlite.Value).Elem", "(internal/reflectlite.Value).Set", "math/bits.Add64"], unfollowed := true, recurses := true, named := ["errors.errorType"], apart := false, laid := [("errors.errorType", laid_errors_errorType)] }
def SafeTellsSaid : Prop := safeTellsRow.holds Tryd.pinned (OpenSpec.ofChange safeTellsSpec)

/-- ITS FALSE NEIGHBOUR: 'it returns false'. Refute it at one input. -/
def safeTellsWrong : ChangeSpec := { name := "safeTells", fn := fun _ => fun
  | [d1, d2] => { results := [.lit (.bool false)], args := [d1, d2] }
  | _ => none }
def SafeTellsWrongFalsely : Prop := safeTellsRow.holds Tryd.pinned (OpenSpec.ofChange safeTellsWrong)

/- THE SECOND FORM. 'bulk': how many values and letters a reading holds, each counted each time it is reached (what is shared counts as often as it is met; a slice's spare places count too). A statement '..UptoSaid' is the law's where the arguments, and the package variables that the reading takes, are together of bulk at most 1048576: NARROWER than '..Said'. Prove '..Said' where nothing that the law and all that it calls make is longer than what came in: it says more and counts as full. Else prove '..UptoSaid'. A law counts once. -/
mutual
def uptoBulk {H : Type} : DataW H → Nat
  | .lit (.string bytes) => bytes.length + 1
  | .lit _ => 1
  | .nil => 1
  | .ptr d => uptoBulk d + 1
  | .slice elems spare => uptoBulkAll elems + uptoBulkAll spare + 1
  | .agg parts => uptoBulkAll parts + 1
  | .iface _ d => uptoBulk d + 1
  | .map entries => uptoBulkEntries entries + 1
  | .held _ => 1
def uptoBulkAll {H : Type} : List (DataW H) → Nat
  | [] => 0
  | d :: r => uptoBulk d + uptoBulkAll r
def uptoBulkEntries {H : Type} : List (Lit × DataW H) → Nat
  | [] => 0
  | x :: r => uptoBulkEntry x + uptoBulkEntries r
def uptoBulkEntry {H : Type} : Lit × DataW H → Nat
  | (.string bytes, d) => bytes.length + uptoBulk d + 1
  | (_, d) => uptoBulk d + 1
 end
def uptoSmall : (H : Type) → List (DataW H) → Bool := fun _ ds => decide (uptoBulkAll ds ≤ 1048576)
def OpenSpec.upto (s : _root_.Go.ChangeSpec) : _root_.Go.OpenSpec := { _root_.Go.OpenSpec.ofChange s with cond := some uptoSmall }

/-- 'sortilegelaw03.SafeBack', WHERE WHAT IT READS IS OF BULK AT MOST 1048576: true; the input reads as it did. -/
def safeBackUptoRow : OpenClaim := { program := "ytalnpjabggfiiaadoor", sum := "0b52f079cfb4b7df7a2bf1d80a1b6b0258af136a26902213752cf914291ab428", func := "sortilege/sortilegelaw03.SafeBack", spec := "safeBack", inPlace := ["internal/reflectlite.ValueOf", "(internal/reflectlite.Value).Type", "(internal/reflectlite.Value).IsNil", "internal/reflectlite.TypeOf", "(internal/reflectlite.Value).Elem", "(internal/reflectlite.Value).Set"], unfollowed := true, recurses := true, named := ["errors.errorType"], apart := false, laid := [("errors.errorType", laid_errors_errorType)], narrowed := true }
def SafeBackUptoSaid : Prop := safeBackUptoRow.holds Tryd.pinned (OpenSpec.upto safeBackSpec)

/-- 'sortilegelaw03.SafeOrder', WHERE WHAT IT READS IS OF BULK AT MOST 1048576: true; the input reads as it did. -/
def safeOrderUptoRow : OpenClaim := { program := "ytalnpjabggfiiaadoor", sum := "0b52f079cfb4b7df7a2bf1d80a1b6b0258af136a26902213752cf914291ab428", func := "sortilege/sortilegelaw03.SafeOrder", spec := "safeOrder", inPlace := ["internal/reflectlite.ValueOf", "(internal/reflectlite.Value).Type", "(internal/reflectlite.Value).IsNil", "internal/reflectlite.TypeOf", "(internal/reflectlite.Value).Elem", "(internal/reflectlite.Value).Set"], unfollowed := true, recurses := true, named := ["errors.errorType"], apart := false, laid := [("errors.errorType", laid_errors_errorType)], narrowed := true }
def SafeOrderUptoSaid : Prop := safeOrderUptoRow.holds Tryd.pinned (OpenSpec.upto safeOrderSpec)

/-- 'sortilegelaw03.SafeSums', WHERE WHAT IT READS IS OF BULK AT MOST 1048576: true; the input reads as it did. -/
def safeSumsUptoRow : OpenClaim := { program := "ytalnpjabggfiiaadoor", sum := "0b52f079cfb4b7df7a2bf1d80a1b6b0258af136a26902213752cf914291ab428", func := "sortilege/sortilegelaw03.SafeSums", spec := "safeSums", inPlace := ["internal/reflectlite.ValueOf", "(internal/reflectlite.Value).Type", "(internal/reflectlite.Value).IsNil", "internal/reflectlite.TypeOf", "(internal/reflectlite.Value).Elem", "(internal/reflectlite.Value).Set"], unfollowed := true, recurses := true, named := ["errors.errorType"], apart := false, laid := [("errors.errorType", laid_errors_errorType)], narrowed := true }
def SafeSumsUptoSaid : Prop := safeSumsUptoRow.holds Tryd.pinned (OpenSpec.upto safeSumsSpec)

/-- 'sortilegelaw03.SafeGcd', WHERE WHAT IT READS IS OF BULK AT MOST 1048576: true; the input reads as it did. -/
def safeGcdUptoRow : OpenClaim := { program := "ytalnpjabggfiiaadoor", sum := "0b52f079cfb4b7df7a2bf1d80a1b6b0258af136a26902213752cf914291ab428", func := "sortilege/sortilegelaw03.SafeGcd", spec := "safeGcd", inPlace := ["internal/reflectlite.ValueOf", "(internal/reflectlite.Value).Type", "(internal/reflectlite.Value).IsNil", "internal/reflectlite.TypeOf", "(internal/reflectlite.Value).Elem", "(internal/reflectlite.Value).Set", "math/bits.Add64"], unfollowed := true, recurses := true, named := ["errors.errorType"], apart := false, laid := [("errors.errorType", laid_errors_errorType)], narrowed := true }
def SafeGcdUptoSaid : Prop := safeGcdUptoRow.holds Tryd.pinned (OpenSpec.upto safeGcdSpec)

/-- 'sortilegelaw03.SafeTells', WHERE WHAT IT READS IS OF BULK AT MOST 1048576: true; the input reads as it did. -/
def safeTellsUptoRow : OpenClaim := { program := "ytalnpjabggfiiaadoor", sum := "0b52f079cfb4b7df7a2bf1d80a1b6b0258af136a26902213752cf914291ab428", func := "sortilege/sortilegelaw03.SafeTells", spec := "safeTells", inPlace := ["internal/reflectlite.ValueOf", "(internal/reflectlite.Value).Type", "(internal/reflectlite.Value).IsNil", "internal/reflectlite.TypeOf", "(internal/reflectlite.Value).Elem", "(internal/reflectlite.Value).Set", "math/bits.Add64"], unfollowed := true, recurses := true, named := ["errors.errorType"], apart := false, laid := [("errors.errorType", laid_errors_errorType)], narrowed := true }
def SafeTellsUptoSaid : Prop := safeTellsUptoRow.holds Tryd.pinned (OpenSpec.upto safeTellsSpec)

end Rows
end Go.Proofs.YtalnpjabggfiiaaDoor
