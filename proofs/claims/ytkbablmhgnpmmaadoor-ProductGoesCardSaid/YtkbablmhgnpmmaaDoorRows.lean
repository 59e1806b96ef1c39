/-
  NARROWER THAN 'FOR EVERY INPUT', by the rows' own cells (each row's printed sentence says how): ProductMakes: laid · ProductKeeps: laid · ProductSets: laid · ProductGoes: laid · ProductPlain: laid.
  DERIVED. THE GIVEN ROWS OF THIS SEAT. 5 by the template 'for every input the law returns true; each argument reads behind the call as it read before'; 0 by the template 'total and deterministic' (their statements: YtkbablmhgnpmmaaDoorTotals.lean).
  GIVEN WITH THE SEED: the statements are not yours to turn. If you find one false, say at which input.
  Laid BY PROGRAM, IN A SANDBOX (cutbox-rows.mjs): the forced cells as the released guide's own fill.sh prints them over the translation 884ed5e389fcf65f… (all of the seat's roots in one cut). By AI agents, Wed Nov 11 2026. No macro, syntax, notation, axiom, sorry.
-/
import Derived.Test.YtkbablmhgnpmmaaDoorChecked
import GoSem.Claim
import GoSem.ClaimJoined
import GoSem.ClaimMapViews
import Derived.JoinedTies
import Derived.KernelRfl
namespace Go.Proofs.YtkbablmhgnpmmaaDoor
/- THE CELL 'sum', in the pinned program and in every row, IS THE sha256 OF THE DUMP (.gsa) THAT YtkbablmhgnpmmaaDoorProg.lean LOADS. Nothing in Lean hashes anything: it is a label: what it is worth is what the hold of that sum in a sandbox is worth. -/
noncomputable def Tryd.pinned : Pinned := { name := "ytkbablmhgnpmmaadoor", sum := "884ed5e389fcf65f519785e9f388c5defc720e7adad6ddcaa08dfd4e55a3f3d5", checked := Tryd.checked }
namespace Rows
def none {H : Type} : Left H := { results := [], args := [] }

/- WHAT THE LISTED PACKAGE-LEVEL VARIABLES READ AS WHEN THE CALL BEGINS. Each datum BY PROGRAM (the guide's laid-datum.mjs) off the statement by which the dump's own 'gosem.cut.vars' lays the variable. In a bare row this is a premise. The card (YtkbablmhgnpmmaaDoorCards.lean) ties it to the program's text. -/
def laid_errors_errorType {H : Type} : DataW H := .iface "internal/reflectlite.rtype" (.agg [.ptr (.lit (.string [101, 114, 114, 111, 114]))])

/-- 'sortilegelaw23.ProductMakes': WHATEVER THE INPUT: true; the input reads as it did. -/
def productMakesSpec : ChangeSpec := { name := "productMakes", fn := fun _ => fun
  | [d1, d2, d3, d4] => { results := [.lit (.bool true)], args := [d1, d2, d3, d4] }
  | _ => none }
def productMakesRow : OpenClaim := { program := "ytkbablmhgnpmmaadoor", sum := "884ed5e389fcf65f519785e9f388c5defc720e7adad6ddcaa08dfd4e55a3f3d5", func := "sortilege/sortilegelaw23.ProductMakes", spec := "productMakes", inPlace := ["internal/reflectlite.ValueOf", "(internal/reflectlite.Value).Type", "(internal/reflectlite.Value).IsNil", "internal/reflectlite.TypeOf", "(internal/reflectlite.Value).Elem", "(internal/reflectlite.Value).Set"], unfollowed := true, recurses := true, named := ["errors.errorType"], plainKeys := false, apart := false, laid := [("errors.errorType", laid_errors_errorType)] }
def ProductMakesSaid : Prop := productMakesRow.holds Tryd.pinned (OpenSpec.ofChange productMakesSpec)

/-- ITS FALSE NEIGHBOUR: 'it returns false'. Refute it at one input. -/
def productMakesWrong : ChangeSpec := { name := "productMakes", fn := fun _ => fun
  | [d1, d2, d3, d4] => { results := [.lit (.bool false)], args := [d1, d2, d3, d4] }
  | _ => none }
def ProductMakesWrongFalsely : Prop := productMakesRow.holds Tryd.pinned (OpenSpec.ofChange productMakesWrong)

/-- 'sortilegelaw23.ProductKeeps': WHATEVER THE INPUT: true; the input reads as it did. -/
def productKeepsSpec : ChangeSpec := { name := "productKeeps", fn := fun _ => fun
  | [d1, d2, d3] => { results := [.lit (.bool true)], args := [d1, d2, d3] }
  | _ => none }
def productKeepsRow : OpenClaim := { program := "ytkbablmhgnpmmaadoor", sum := "884ed5e389fcf65f519785e9f388c5defc720e7adad6ddcaa08dfd4e55a3f3d5", func := "sortilege/sortilegelaw23.ProductKeeps", spec := "productKeeps", inPlace := ["internal/reflectlite.ValueOf", "(internal/reflectlite.Value).Type", "(internal/reflectlite.Value).IsNil", "internal/reflectlite.TypeOf", "(internal/reflectlite.Value).Elem", "(internal/reflectlite.Value).Set"], unfollowed := true, recurses := true, named := ["errors.errorType"], plainKeys := false, apart := false, laid := [("errors.errorType", laid_errors_errorType)] }
def ProductKeepsSaid : Prop := productKeepsRow.holds Tryd.pinned (OpenSpec.ofChange productKeepsSpec)

/-- ITS FALSE NEIGHBOUR: 'it returns false'. Refute it at one input. -/
def productKeepsWrong : ChangeSpec := { name := "productKeeps", fn := fun _ => fun
  | [d1, d2, d3] => { results := [.lit (.bool false)], args := [d1, d2, d3] }
  | _ => none }
def ProductKeepsWrongFalsely : Prop := productKeepsRow.holds Tryd.pinned (OpenSpec.ofChange productKeepsWrong)

/-- 'sortilegelaw23.ProductSets': WHATEVER THE INPUT: true; the input reads as it did. -/
def productSetsSpec : ChangeSpec := { name := "productSets", fn := fun _ => fun
  | [d1, d2, d3] => { results := [.lit (.bool true)], args := [d1, d2, d3] }
  | _ => none }
def productSetsRow : OpenClaim := { program := "ytkbablmhgnpmmaadoor", sum := "884ed5e389fcf65f519785e9f388c5defc720e7adad6ddcaa08dfd4e55a3f3d5", func := "sortilege/sortilegelaw23.ProductSets", spec := "productSets", inPlace := ["internal/reflectlite.ValueOf", "(internal/reflectlite.Value).Type", "(internal/reflectlite.Value).IsNil", "internal/reflectlite.TypeOf", "(internal/reflectlite.Value).Elem", "(internal/reflectlite.Value).Set"], unfollowed := true, recurses := true, named := ["errors.errorType"], plainKeys := false, apart := false, laid := [("errors.errorType", laid_errors_errorType)] }
def ProductSetsSaid : Prop := productSetsRow.holds Tryd.pinned (OpenSpec.ofChange productSetsSpec)

/-- ITS FALSE NEIGHBOUR: 'it returns false'. Refute it at one input. -/
def productSetsWrong : ChangeSpec := { name := "productSets", fn := fun _ => fun
  | [d1, d2, d3] => { results := [.lit (.bool false)], args := [d1, d2, d3] }
  | _ => none }
def ProductSetsWrongFalsely : Prop := productSetsRow.holds Tryd.pinned (OpenSpec.ofChange productSetsWrong)

/-- 'sortilegelaw23.ProductGoes': WHATEVER THE INPUT: true; the input reads as it did. -/
def productGoesSpec : ChangeSpec := { name := "productGoes", fn := fun _ => fun
  | [d1, d2, d3, d4] => { results := [.lit (.bool true)], args := [d1, d2, d3, d4] }
  | _ => none }
def productGoesRow : OpenClaim := { program := "ytkbablmhgnpmmaadoor", sum := "884ed5e389fcf65f519785e9f388c5defc720e7adad6ddcaa08dfd4e55a3f3d5", func := "sortilege/sortilegelaw23.ProductGoes", spec := "productGoes", inPlace := ["internal/reflectlite.ValueOf", "(internal/reflectlite.Value).Type", "(internal/reflectlite.Value).IsNil", "internal/reflectlite.TypeOf", "(internal/reflectlite.Value).Elem", "(internal/reflectlite.Value).Set"], unfollowed := true, recurses := true, named := ["errors.errorType"], plainKeys := false, apart := false, laid := [("errors.errorType", laid_errors_errorType)] }
def ProductGoesSaid : Prop := productGoesRow.holds Tryd.pinned (OpenSpec.ofChange productGoesSpec)

/-- ITS FALSE NEIGHBOUR: 'it returns false'. Refute it at one input. -/
def productGoesWrong : ChangeSpec := { name := "productGoes", fn := fun _ => fun
  | [d1, d2, d3, d4] => { results := [.lit (.bool false)], args := [d1, d2, d3, d4] }
  | _ => none }
def ProductGoesWrongFalsely : Prop := productGoesRow.holds Tryd.pinned (OpenSpec.ofChange productGoesWrong)

/-- 'sortilegelaw23.ProductPlain': WHATEVER THE INPUT: true; the input reads as it did. -/
def productPlainSpec : ChangeSpec := { name := "productPlain", fn := fun _ => fun
  | [d1, d2, d3] => { results := [.lit (.bool true)], args := [d1, d2, d3] }
  | _ => none }
def productPlainRow : OpenClaim := { program := "ytkbablmhgnpmmaadoor", sum := "884ed5e389fcf65f519785e9f388c5defc720e7adad6ddcaa08dfd4e55a3f3d5", func := "sortilege/sortilegelaw23.ProductPlain", spec := "productPlain", inPlace := ["internal/reflectlite.ValueOf", "(internal/reflectlite.Value).Type", "(internal/reflectlite.Value).IsNil", "internal/reflectlite.TypeOf", "(internal/reflectlite.Value).Elem", "(internal/reflectlite.Value).Set"], unfollowed := true, recurses := true, named := ["errors.errorType"], plainKeys := false, apart := false, laid := [("errors.errorType", laid_errors_errorType)] }
def ProductPlainSaid : Prop := productPlainRow.holds Tryd.pinned (OpenSpec.ofChange productPlainSpec)

/-- ITS FALSE NEIGHBOUR: 'it returns false'. Refute it at one input. -/
def productPlainWrong : ChangeSpec := { name := "productPlain", fn := fun _ => fun
  | [d1, d2, d3] => { results := [.lit (.bool false)], args := [d1, d2, d3] }
  | _ => none }
def ProductPlainWrongFalsely : Prop := productPlainRow.holds Tryd.pinned (OpenSpec.ofChange productPlainWrong)

/- THE SECOND FORM. 'bulk': how many values and letters a reading holds, each counted each time it is reached (what is shared counts as often as it is met; a slice's spare places count too). A statement '..UptoSaid' is the law's where the arguments, and the package variables that the reading takes, are together of bulk at most 1048576: NARROWER than '..Said'. Prove '..Said' where nothing that the law and all that it calls make is longer than what came in: it says more and counts as full. Else prove '..UptoSaid'. A law counts once. -/
mutual
def uptoBulk {H : Type} : DataW H → Nat
  | .lit (.string bytes) => bytes.length + 1
  | .lit _ => 1
  | .nil => 1
  | .ptr d => uptoBulk d + 1
  | .slice elems spare => uptoBulkAll elems + uptoBulkAll spare + 1
  | .agg parts => uptoBulkAll parts + 1
  | .iface _ d => uptoBulk d + 1
  | .map entries => uptoBulkEntries entries + 1
  | .held _ => 1
def uptoBulkAll {H : Type} : List (DataW H) → Nat
  | [] => 0
  | d :: r => uptoBulk d + uptoBulkAll r
def uptoBulkEntries {H : Type} : List (Lit × DataW H) → Nat
  | [] => 0
  | x :: r => uptoBulkEntry x + uptoBulkEntries r
def uptoBulkEntry {H : Type} : Lit × DataW H → Nat
  | (.string bytes, d) => bytes.length + uptoBulk d + 1
  | (_, d) => uptoBulk d + 1
 end
def uptoSmall : (H : Type) → List (DataW H) → Bool := fun _ ds => decide (uptoBulkAll ds ≤ 1048576)
def OpenSpec.upto (s : _root_.Go.ChangeSpec) : _root_.Go.OpenSpec := { _root_.Go.OpenSpec.ofChange s with cond := some uptoSmall }

/-- 'sortilegelaw23.ProductMakes', WHERE WHAT IT READS IS OF BULK AT MOST 1048576: true; the input reads as it did. -/
def productMakesUptoRow : OpenClaim := { program := "ytkbablmhgnpmmaadoor", sum := "884ed5e389fcf65f519785e9f388c5defc720e7adad6ddcaa08dfd4e55a3f3d5", func := "sortilege/sortilegelaw23.ProductMakes", spec := "productMakes", inPlace := ["internal/reflectlite.ValueOf", "(internal/reflectlite.Value).Type", "(internal/reflectlite.Value).IsNil", "internal/reflectlite.TypeOf", "(internal/reflectlite.Value).Elem", "(internal/reflectlite.Value).Set"], unfollowed := true, recurses := true, named := ["errors.errorType"], plainKeys := false, apart := false, laid := [("errors.errorType", laid_errors_errorType)], narrowed := true }
def ProductMakesUptoSaid : Prop := productMakesUptoRow.holds Tryd.pinned (OpenSpec.upto productMakesSpec)

/-- 'sortilegelaw23.ProductKeeps', WHERE WHAT IT READS IS OF BULK AT MOST 1048576: true; the input reads as it did. -/
def productKeepsUptoRow : OpenClaim := { program := "ytkbablmhgnpmmaadoor", sum := "884ed5e389fcf65f519785e9f388c5defc720e7adad6ddcaa08dfd4e55a3f3d5", func := "sortilege/sortilegelaw23.ProductKeeps", spec := "productKeeps", inPlace := ["internal/reflectlite.ValueOf", "(internal/reflectlite.Value).Type", "(internal/reflectlite.Value).IsNil", "internal/reflectlite.TypeOf", "(internal/reflectlite.Value).Elem", "(internal/reflectlite.Value).Set"], unfollowed := true, recurses := true, named := ["errors.errorType"], plainKeys := false, apart := false, laid := [("errors.errorType", laid_errors_errorType)], narrowed := true }
def ProductKeepsUptoSaid : Prop := productKeepsUptoRow.holds Tryd.pinned (OpenSpec.upto productKeepsSpec)

/-- 'sortilegelaw23.ProductSets', WHERE WHAT IT READS IS OF BULK AT MOST 1048576: true; the input reads as it did. -/
def productSetsUptoRow : OpenClaim := { program := "ytkbablmhgnpmmaadoor", sum := "884ed5e389fcf65f519785e9f388c5defc720e7adad6ddcaa08dfd4e55a3f3d5", func := "sortilege/sortilegelaw23.ProductSets", spec := "productSets", inPlace := ["internal/reflectlite.ValueOf", "(internal/reflectlite.Value).Type", "(internal/reflectlite.Value).IsNil", "internal/reflectlite.TypeOf", "(internal/reflectlite.Value).Elem", "(internal/reflectlite.Value).Set"], unfollowed := true, recurses := true, named := ["errors.errorType"], plainKeys := false, apart := false, laid := [("errors.errorType", laid_errors_errorType)], narrowed := true }
def ProductSetsUptoSaid : Prop := productSetsUptoRow.holds Tryd.pinned (OpenSpec.upto productSetsSpec)

/-- 'sortilegelaw23.ProductGoes', WHERE WHAT IT READS IS OF BULK AT MOST 1048576: true; the input reads as it did. -/
def productGoesUptoRow : OpenClaim := { program := "ytkbablmhgnpmmaadoor", sum := "884ed5e389fcf65f519785e9f388c5defc720e7adad6ddcaa08dfd4e55a3f3d5", func := "sortilege/sortilegelaw23.ProductGoes", spec := "productGoes", inPlace := ["internal/reflectlite.ValueOf", "(internal/reflectlite.Value).Type", "(internal/reflectlite.Value).IsNil", "internal/reflectlite.TypeOf", "(internal/reflectlite.Value).Elem", "(internal/reflectlite.Value).Set"], unfollowed := true, recurses := true, named := ["errors.errorType"], plainKeys := false, apart := false, laid := [("errors.errorType", laid_errors_errorType)], narrowed := true }
def ProductGoesUptoSaid : Prop := productGoesUptoRow.holds Tryd.pinned (OpenSpec.upto productGoesSpec)

/-- 'sortilegelaw23.ProductPlain', WHERE WHAT IT READS IS OF BULK AT MOST 1048576: true; the input reads as it did. -/
def productPlainUptoRow : OpenClaim := { program := "ytkbablmhgnpmmaadoor", sum := "884ed5e389fcf65f519785e9f388c5defc720e7adad6ddcaa08dfd4e55a3f3d5", func := "sortilege/sortilegelaw23.ProductPlain", spec := "productPlain", inPlace := ["internal/reflectlite.ValueOf", "(internal/reflectlite.Value).Type", "(internal/reflectlite.Value).IsNil", "internal/reflectlite.TypeOf", "(internal/reflectlite.Value).Elem", "(internal/reflectlite.Value).Set"], unfollowed := true, recurses := true, named := ["errors.errorType"], plainKeys := false, apart := false, laid := [("errors.errorType", laid_errors_errorType)], narrowed := true }
def ProductPlainUptoSaid : Prop := productPlainUptoRow.holds Tryd.pinned (OpenSpec.upto productPlainSpec)

end Rows
end Go.Proofs.YtkbablmhgnpmmaaDoor
