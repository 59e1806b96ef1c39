/-
  Seat 18: the sort's contract, and what part comes to: a spec.
-/
import Derived.Test.YtfkmnklnnccopaaDoorS18K
import Derived.Test.YtfkmnklnnccopaaDoorS18LY
import Derived.Test.YtfkmnklnnccopaaDoorNR
import Derived.Test.YtfkmnklnnccopaaDoorNT
open Go Go.En
namespace Go.S18
theorem sort_ok : FnOk P C0 48 (sortS0 3) :=
  sort_fn0 3 (hent 48 (show P.funcs[48]? = some Go.Proofs.Tryd.f48 from Go.Proofs.Tryd.func48) (of_decide_eq_true (by kernel_rfl)) (by kernel_rfl))
    (fun blk off cap zs w hH hb hl => Go.Proofs.Any.slices_Sort_int Go.Proofs.Tryd.lays189 blk off cap zs w hH hb hl)
    (fun p cap w => SortNil.sort_calls Go.Proofs.Tryd.lays189 p cap w)
/-- numbers told anew, out of a table of numbers from one on; none: it is left out -/
def partT (num : List Int) : List Int → List Int
  | [] => []
  | q :: l => bif decide (num.getD q.toNat 0 > 0) then IntKind.i64.wrap (num.getD q.toNat 0 - 1) :: partT num l else partT num l
def partG (num l : List Int) : Bool := Nat.ble l.length 1000000 && (Nat.ble num.length 1000000 && l.all (inF (zn num.length)))
def partS : En.Spec := ⟨[], fun ds os => match ds, os with
  | [.p (.one (.d (.fz false) (.l (.i .i64)) l)), .p (.one (.d (.fz false) (.l (.i .i64)) num))], [] =>
    .br (partG num l) (.leaf [.one (.rw ⟨1, 0⟩)] [] [roI (sortI (partT num l))]) .fail
  | _, _ => .fail⟩
noncomputable def C17 : Ctx := ctxOf C0 [(48, sortS0 3)]
theorem ctx17 : CtxOk C17 := fun _ _ h => tbl_ok (l := [(48, sortS0 3)]) ⟨sort_ok, trivial⟩ h
def h39 : Hn := ⟨fun | 3 => [1, 5, 8, 9, 10] | _ => [], fun | 3 => [⟨5, none, 3, .z⟩] | 1000000 => [⟨4, none, 3, .z⟩] | _ => [], fun _ => false⟩
end Go.S18
