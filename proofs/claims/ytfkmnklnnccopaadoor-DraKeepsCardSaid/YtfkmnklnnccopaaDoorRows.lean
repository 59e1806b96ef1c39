/-
  NARROWER THAN 'FOR EVERY INPUT', by the rows' own cells (each row's printed sentence says how): DraTells: laid · DraMore: laid · DraSees: laid · DraTrims: laid · DraKeeps: laid.
  DERIVED. THE GIVEN ROWS OF THIS SEAT. 5 by the template 'for every input the law returns true; each argument reads behind the call as it read before'; 0 by the template 'total and deterministic' (their statements: YtfkmnklnnccopaaDoorTotals.lean).
  GIVEN WITH THE SEED: the statements are not yours to turn. If you find one false, say at which input.
  Laid BY PROGRAM, IN A SANDBOX (cutbox-rows.mjs): the forced cells as the released guide's own fill.sh prints them over the translation ffea966b766961a4… (all of the seat's roots in one cut). By AI agents, Wed Nov 11 2026. No macro, syntax, notation, axiom, sorry.
-/
import Derived.Test.YtfkmnklnnccopaaDoorChecked
import GoSem.Claim
import GoSem.ClaimJoined
import GoSem.ClaimMapViews
import Derived.JoinedTies
import Derived.KernelRfl
namespace Go.Proofs.YtfkmnklnnccopaaDoor
/- THE CELL 'sum', in the pinned program and in every row, IS THE sha256 OF THE DUMP (.gsa) THAT YtfkmnklnnccopaaDoorProg.lean LOADS. Nothing in Lean hashes anything: it is a label: what it is worth is what the hold of that sum in a sandbox is worth. -/
noncomputable def Tryd.pinned : Pinned := { name := "ytfkmnklnnccopaadoor", sum := "ffea966b766961a4d70e8d7a4c9c10f4c10283c79b8ab63158adcd62b6dd4b0b", checked := Tryd.checked }
namespace Rows
def none {H : Type} : Left H := { results := [], args := [] }

/- WHAT THE LISTED PACKAGE-LEVEL VARIABLES READ AS WHEN THE CALL BEGINS. Each datum BY PROGRAM (the guide's laid-datum.mjs) off the statement by which the dump's own 'gosem.cut.vars' lays the variable. In a bare row this is a premise. The card (YtfkmnklnnccopaaDoorCards.lean) ties it to the program's text. -/
def laid_errors_errorType {H : Type} : DataW H := .iface "internal/reflectlite.rtype" (.agg [.ptr (.lit (.string [101, 114, 114, 111, 114]))])

/-- 'sortilegelaw18.DraTells': WHATEVER THE INPUT: true; the input reads as it did. -/
def draTellsSpec : ChangeSpec := { name := "draTells", fn := fun _ => fun
  | [d1, d2, d3] => { results := [.lit (.bool true)], args := [d1, d2, d3] }
  | _ => none }
def draTellsRow : OpenClaim := { program := "ytfkmnklnnccopaadoor", sum := "ffea966b766961a4d70e8d7a4c9c10f4c10283c79b8ab63158adcd62b6dd4b0b", func := "sortilege/sortilegelaw18.DraTells", spec := "draTells", inPlace := ["internal/reflectlite.ValueOf", "(internal/reflectlite.Value).Type", "(internal/reflectlite.Value).IsNil", "internal/reflectlite.TypeOf", "(internal/reflectlite.Value).Elem", "(internal/reflectlite.Value).Set"], unfollowed := true, recurses := true, named := ["errors.errorType"], apart := false, laid := [("errors.errorType", laid_errors_errorType)] }
def DraTellsSaid : Prop := draTellsRow.holds Tryd.pinned (OpenSpec.ofChange draTellsSpec)

/-- ITS FALSE NEIGHBOUR: 'it returns false'. Refute it at one input. -/
def draTellsWrong : ChangeSpec := { name := "draTells", fn := fun _ => fun
  | [d1, d2, d3] => { results := [.lit (.bool false)], args := [d1, d2, d3] }
  | _ => none }
def DraTellsWrongFalsely : Prop := draTellsRow.holds Tryd.pinned (OpenSpec.ofChange draTellsWrong)

/-- 'sortilegelaw18.DraMore': WHATEVER THE INPUT: true; the input reads as it did. -/
def draMoreSpec : ChangeSpec := { name := "draMore", fn := fun _ => fun
  | [d1, d2, d3, d4] => { results := [.lit (.bool true)], args := [d1, d2, d3, d4] }
  | _ => none }
def draMoreRow : OpenClaim := { program := "ytfkmnklnnccopaadoor", sum := "ffea966b766961a4d70e8d7a4c9c10f4c10283c79b8ab63158adcd62b6dd4b0b", func := "sortilege/sortilegelaw18.DraMore", spec := "draMore", inPlace := ["internal/reflectlite.ValueOf", "(internal/reflectlite.Value).Type", "(internal/reflectlite.Value).IsNil", "internal/reflectlite.TypeOf", "(internal/reflectlite.Value).Elem", "(internal/reflectlite.Value).Set"], unfollowed := true, recurses := true, named := ["errors.errorType"], apart := false, laid := [("errors.errorType", laid_errors_errorType)] }
def DraMoreSaid : Prop := draMoreRow.holds Tryd.pinned (OpenSpec.ofChange draMoreSpec)

/-- ITS FALSE NEIGHBOUR: 'it returns false'. Refute it at one input. -/
def draMoreWrong : ChangeSpec := { name := "draMore", fn := fun _ => fun
  | [d1, d2, d3, d4] => { results := [.lit (.bool false)], args := [d1, d2, d3, d4] }
  | _ => none }
def DraMoreWrongFalsely : Prop := draMoreRow.holds Tryd.pinned (OpenSpec.ofChange draMoreWrong)

/-- 'sortilegelaw18.DraSees': WHATEVER THE INPUT: true; the input reads as it did. -/
def draSeesSpec : ChangeSpec := { name := "draSees", fn := fun _ => fun
  | [d1, d2, d3] => { results := [.lit (.bool true)], args := [d1, d2, d3] }
  | _ => none }
def draSeesRow : OpenClaim := { program := "ytfkmnklnnccopaadoor", sum := "ffea966b766961a4d70e8d7a4c9c10f4c10283c79b8ab63158adcd62b6dd4b0b", func := "sortilege/sortilegelaw18.DraSees", spec := "draSees", inPlace := ["internal/reflectlite.ValueOf", "(internal/reflectlite.Value).Type", "(internal/reflectlite.Value).IsNil", "internal/reflectlite.TypeOf", "(internal/reflectlite.Value).Elem", "(internal/reflectlite.Value).Set"], unfollowed := true, recurses := true, named := ["errors.errorType"], apart := false, laid := [("errors.errorType", laid_errors_errorType)] }
def DraSeesSaid : Prop := draSeesRow.holds Tryd.pinned (OpenSpec.ofChange draSeesSpec)

/-- ITS FALSE NEIGHBOUR: 'it returns false'. Refute it at one input. -/
def draSeesWrong : ChangeSpec := { name := "draSees", fn := fun _ => fun
  | [d1, d2, d3] => { results := [.lit (.bool false)], args := [d1, d2, d3] }
  | _ => none }
def DraSeesWrongFalsely : Prop := draSeesRow.holds Tryd.pinned (OpenSpec.ofChange draSeesWrong)

/-- 'sortilegelaw18.DraTrims': WHATEVER THE INPUT: true; the input reads as it did. -/
def draTrimsSpec : ChangeSpec := { name := "draTrims", fn := fun _ => fun
  | [d] => { results := [.lit (.bool true)], args := [d] }
  | _ => none }
def draTrimsRow : OpenClaim := { program := "ytfkmnklnnccopaadoor", sum := "ffea966b766961a4d70e8d7a4c9c10f4c10283c79b8ab63158adcd62b6dd4b0b", func := "sortilege/sortilegelaw18.DraTrims", spec := "draTrims", inPlace := ["internal/reflectlite.ValueOf", "(internal/reflectlite.Value).Type", "(internal/reflectlite.Value).IsNil", "internal/reflectlite.TypeOf", "(internal/reflectlite.Value).Elem", "(internal/reflectlite.Value).Set"], unfollowed := true, recurses := true, named := ["errors.errorType"], apart := false, laid := [("errors.errorType", laid_errors_errorType)] }
def DraTrimsSaid : Prop := draTrimsRow.holds Tryd.pinned (OpenSpec.ofChange draTrimsSpec)

/-- ITS FALSE NEIGHBOUR: 'it returns false'. Refute it at one input. -/
def draTrimsWrong : ChangeSpec := { name := "draTrims", fn := fun _ => fun
  | [d] => { results := [.lit (.bool false)], args := [d] }
  | _ => none }
def DraTrimsWrongFalsely : Prop := draTrimsRow.holds Tryd.pinned (OpenSpec.ofChange draTrimsWrong)

/-- 'sortilegelaw18.DraKeeps': WHATEVER THE INPUT: true; the input reads as it did. -/
def draKeepsSpec : ChangeSpec := { name := "draKeeps", fn := fun _ => fun
  | [d1, d2, d3] => { results := [.lit (.bool true)], args := [d1, d2, d3] }
  | _ => none }
def draKeepsRow : OpenClaim := { program := "ytfkmnklnnccopaadoor", sum := "ffea966b766961a4d70e8d7a4c9c10f4c10283c79b8ab63158adcd62b6dd4b0b", func := "sortilege/sortilegelaw18.DraKeeps", spec := "draKeeps", inPlace := ["internal/reflectlite.ValueOf", "(internal/reflectlite.Value).Type", "(internal/reflectlite.Value).IsNil", "internal/reflectlite.TypeOf", "(internal/reflectlite.Value).Elem", "(internal/reflectlite.Value).Set"], unfollowed := true, recurses := true, named := ["errors.errorType"], apart := false, laid := [("errors.errorType", laid_errors_errorType)] }
def DraKeepsSaid : Prop := draKeepsRow.holds Tryd.pinned (OpenSpec.ofChange draKeepsSpec)

/-- ITS FALSE NEIGHBOUR: 'it returns false'. Refute it at one input. -/
def draKeepsWrong : ChangeSpec := { name := "draKeeps", fn := fun _ => fun
  | [d1, d2, d3] => { results := [.lit (.bool false)], args := [d1, d2, d3] }
  | _ => none }
def DraKeepsWrongFalsely : Prop := draKeepsRow.holds Tryd.pinned (OpenSpec.ofChange draKeepsWrong)

/- THE SECOND FORM. 'bulk': how many values and letters a reading holds, each counted each time it is reached (what is shared counts as often as it is met; a slice's spare places count too). A statement '..UptoSaid' is the law's where the arguments, and the package variables that the reading takes, are together of bulk at most 1048576: NARROWER than '..Said'. Prove '..Said' where nothing that the law and all that it calls make is longer than what came in: it says more and counts as full. Else prove '..UptoSaid'. A law counts once. -/
mutual
def uptoBulk {H : Type} : DataW H → Nat
  | .lit (.string bytes) => bytes.length + 1
  | .lit _ => 1
  | .nil => 1
  | .ptr d => uptoBulk d + 1
  | .slice elems spare => uptoBulkAll elems + uptoBulkAll spare + 1
  | .agg parts => uptoBulkAll parts + 1
  | .iface _ d => uptoBulk d + 1
  | .map entries => uptoBulkEntries entries + 1
  | .held _ => 1
def uptoBulkAll {H : Type} : List (DataW H) → Nat
  | [] => 0
  | d :: r => uptoBulk d + uptoBulkAll r
def uptoBulkEntries {H : Type} : List (Lit × DataW H) → Nat
  | [] => 0
  | x :: r => uptoBulkEntry x + uptoBulkEntries r
def uptoBulkEntry {H : Type} : Lit × DataW H → Nat
  | (.string bytes, d) => bytes.length + uptoBulk d + 1
  | (_, d) => uptoBulk d + 1
 end
def uptoSmall : (H : Type) → List (DataW H) → Bool := fun _ ds => decide (uptoBulkAll ds ≤ 1048576)
def OpenSpec.upto (s : _root_.Go.ChangeSpec) : _root_.Go.OpenSpec := { _root_.Go.OpenSpec.ofChange s with cond := some uptoSmall }

/-- 'sortilegelaw18.DraTells', WHERE WHAT IT READS IS OF BULK AT MOST 1048576: true; the input reads as it did. -/
def draTellsUptoRow : OpenClaim := { program := "ytfkmnklnnccopaadoor", sum := "ffea966b766961a4d70e8d7a4c9c10f4c10283c79b8ab63158adcd62b6dd4b0b", func := "sortilege/sortilegelaw18.DraTells", spec := "draTells", inPlace := ["internal/reflectlite.ValueOf", "(internal/reflectlite.Value).Type", "(internal/reflectlite.Value).IsNil", "internal/reflectlite.TypeOf", "(internal/reflectlite.Value).Elem", "(internal/reflectlite.Value).Set"], unfollowed := true, recurses := true, named := ["errors.errorType"], apart := false, laid := [("errors.errorType", laid_errors_errorType)], narrowed := true }
def DraTellsUptoSaid : Prop := draTellsUptoRow.holds Tryd.pinned (OpenSpec.upto draTellsSpec)

/-- 'sortilegelaw18.DraMore', WHERE WHAT IT READS IS OF BULK AT MOST 1048576: true; the input reads as it did. -/
def draMoreUptoRow : OpenClaim := { program := "ytfkmnklnnccopaadoor", sum := "ffea966b766961a4d70e8d7a4c9c10f4c10283c79b8ab63158adcd62b6dd4b0b", func := "sortilege/sortilegelaw18.DraMore", spec := "draMore", inPlace := ["internal/reflectlite.ValueOf", "(internal/reflectlite.Value).Type", "(internal/reflectlite.Value).IsNil", "internal/reflectlite.TypeOf", "(internal/reflectlite.Value).Elem", "(internal/reflectlite.Value).Set"], unfollowed := true, recurses := true, named := ["errors.errorType"], apart := false, laid := [("errors.errorType", laid_errors_errorType)], narrowed := true }
def DraMoreUptoSaid : Prop := draMoreUptoRow.holds Tryd.pinned (OpenSpec.upto draMoreSpec)

/-- 'sortilegelaw18.DraSees', WHERE WHAT IT READS IS OF BULK AT MOST 1048576: true; the input reads as it did. -/
def draSeesUptoRow : OpenClaim := { program := "ytfkmnklnnccopaadoor", sum := "ffea966b766961a4d70e8d7a4c9c10f4c10283c79b8ab63158adcd62b6dd4b0b", func := "sortilege/sortilegelaw18.DraSees", spec := "draSees", inPlace := ["internal/reflectlite.ValueOf", "(internal/reflectlite.Value).Type", "(internal/reflectlite.Value).IsNil", "internal/reflectlite.TypeOf", "(internal/reflectlite.Value).Elem", "(internal/reflectlite.Value).Set"], unfollowed := true, recurses := true, named := ["errors.errorType"], apart := false, laid := [("errors.errorType", laid_errors_errorType)], narrowed := true }
def DraSeesUptoSaid : Prop := draSeesUptoRow.holds Tryd.pinned (OpenSpec.upto draSeesSpec)

/-- 'sortilegelaw18.DraTrims', WHERE WHAT IT READS IS OF BULK AT MOST 1048576: true; the input reads as it did. -/
def draTrimsUptoRow : OpenClaim := { program := "ytfkmnklnnccopaadoor", sum := "ffea966b766961a4d70e8d7a4c9c10f4c10283c79b8ab63158adcd62b6dd4b0b", func := "sortilege/sortilegelaw18.DraTrims", spec := "draTrims", inPlace := ["internal/reflectlite.ValueOf", "(internal/reflectlite.Value).Type", "(internal/reflectlite.Value).IsNil", "internal/reflectlite.TypeOf", "(internal/reflectlite.Value).Elem", "(internal/reflectlite.Value).Set"], unfollowed := true, recurses := true, named := ["errors.errorType"], apart := false, laid := [("errors.errorType", laid_errors_errorType)], narrowed := true }
def DraTrimsUptoSaid : Prop := draTrimsUptoRow.holds Tryd.pinned (OpenSpec.upto draTrimsSpec)

/-- 'sortilegelaw18.DraKeeps', WHERE WHAT IT READS IS OF BULK AT MOST 1048576: true; the input reads as it did. -/
def draKeepsUptoRow : OpenClaim := { program := "ytfkmnklnnccopaadoor", sum := "ffea966b766961a4d70e8d7a4c9c10f4c10283c79b8ab63158adcd62b6dd4b0b", func := "sortilege/sortilegelaw18.DraKeeps", spec := "draKeeps", inPlace := ["internal/reflectlite.ValueOf", "(internal/reflectlite.Value).Type", "(internal/reflectlite.Value).IsNil", "internal/reflectlite.TypeOf", "(internal/reflectlite.Value).Elem", "(internal/reflectlite.Value).Set"], unfollowed := true, recurses := true, named := ["errors.errorType"], apart := false, laid := [("errors.errorType", laid_errors_errorType)], narrowed := true }
def DraKeepsUptoSaid : Prop := draKeepsUptoRow.holds Tryd.pinned (OpenSpec.upto draKeepsSpec)

end Rows
end Go.Proofs.YtfkmnklnnccopaaDoor
