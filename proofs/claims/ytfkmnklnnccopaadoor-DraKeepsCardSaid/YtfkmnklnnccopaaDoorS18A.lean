/-
  Seat 18 (dra): what its functions come to.
-/
import Derived.Test.YtfkmnklnnccopaaDoorEd
import Derived.Test.YtfkmnklnnccopaaDoorProg
import Derived.KernelRfl
open Go Go.En
namespace Go.S18
noncomputable abbrev P := Go.Proofs.Tryd.prog
noncomputable def C0 : Ctx0 := { P := P, noT := 64, atT := 0, nm := fun _ => none, fo := fun _ => false, Own := fun s => bif s.beq 104 || s.beq 120 then some .z else none, gc := some (.iface 94 (.agg #[.pointer (some ⟨1, 36, none⟩)])) }
noncomputable def fn (k : Nat) : Func := (P.funcs[k]?).getD default
def pI (v : Int) : Pt := .one (.d (.fz true) (.i .i64) v)
def pE (v : Er) : Pt := .one (.d (.fz true) .e v)
def pB (v : Bool) : Pt := .one (.d (.fz true) .b v)
def dV (v : List Int) : D := one (.d (.fz false) (.l (.i .i64)) v)
def dI (v : Int) : D := one (.d (.fz true) (.i .i64) v)
def dT : D := one (.pv ⟨0, 0⟩ 0)
def dF (g : Nat) : D := one (.fn g [.b ⟨0, 0⟩])
def hn0 : Hn := ⟨fun _ => [], fun _ => [], fun _ => false⟩
abbrev big (n : Nat) : Bool := Nat.ble n 9223372036854775807

/-! ### values -/
def inF (n i : Int) : Bool := decide (i ≥ 0) && decide (i < n)
/-- the first place of what is so, from k on; -1: there is none -/
def idxG {α : Type} (p : α → Bool) : Nat → List α → Int
  | _, [] => -1
  | k, x :: l => bif p x then (k : Int) else idxG p (k + 1) l
def has (l : List Int) (x : Int) : Bool := l.any fun y => x == y
/-- numbers that rise above one, below n -/
def riseF (n : Int) : Int → List Int → Bool
  | _, [] => true
  | a, x :: l => !(decide (x ≤ a) || decide (x ≥ n)) && riseF n x l
/-! ### leaves -/
def vaI (n : Int) : Ob := .va [.d (.fz true) (.i .i64) n]
def vaL (l : List Int) : Ob := .va [.d (.fz false) (.l (.i .i64)) l]
def lsD (p i : Int) (nx : List (List Int)) (ps : List (List Int × List Int × Unit)) : List L := [.d (.fz true) (.i .i64) p, .d (.fz true) (.i .i64) i, .d (.fz false) (.l (.l (.i .i64))) nx, .d (.fz false) (.l (.p (.l (.i .i64)) (.p (.l (.i .i64)) .u))) ps]
def dD (p i : Int) (nx : List (List Int)) (ps : List (List Int × List Int × Unit)) : D := .p (.agg (lsD p i nx ps))
def vaD (p i : Int) (nx : List (List Int)) (ps : List (List Int × List Int × Unit)) : Ob := .va (lsD p i nx ps)
def dP (a b : List Int) : D := .p (.agg [.d (.fz false) (.l (.i .i64)) a, .d (.fz false) (.l (.i .i64)) b])
end Go.S18
