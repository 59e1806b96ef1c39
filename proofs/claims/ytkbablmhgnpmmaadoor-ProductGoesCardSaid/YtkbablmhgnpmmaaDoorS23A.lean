/-
  Seat 23 (product): what its functions come to.
-/
import Derived.Test.YtkbablmhgnpmmaaDoorEd
import Derived.Test.YtkbablmhgnpmmaaDoorProg
import Derived.KernelRfl
open Go Go.En
namespace Go.S23
noncomputable abbrev P := Go.Proofs.Tryd.prog
noncomputable def C0 : Ctx0 := { P := P, noT := 84, atT := 0, nm := fun _ => none, fo := fun _ => false, Own := fun s => bif s.beq 167 || s.beq 168 then some (.l 3 .z) else none, gc := some (.iface 124 (.agg #[.pointer (some ⟨1, 40, none⟩)])) }
noncomputable def fn (k : Nat) : Func := (P.funcs[k]?).getD default
def pI (v : Int) : Pt := .one (.d (.fz true) (.i .i64) v)
def pE (v : Er) : Pt := .one (.d (.fz true) .e v)
def pB (v : Bool) : Pt := .one (.d (.fz true) .b v)
def dV (v : List Int) : D := one (.d (.fz false) (.l (.i .i64)) v)
def dI (v : Int) : D := one (.d (.fz true) (.i .i64) v)
def dT : D := one (.pv ⟨0, 0⟩ 0)
def dF (g : Nat) : D := one (.fn g [.b ⟨0, 0⟩])
def hn0 : Hn := ⟨fun _ => [], fun _ => [], fun _ => false⟩
abbrev big (n : Nat) : Bool := Nat.ble n 9223372036854775807

/-! ### values -/
def inF (n i : Int) : Bool := decide (i ≥ 0) && decide (i < n)
/-- the first place of what is so, from k on; -1: there is none -/
def idxG {α : Type} (p : α → Bool) : Nat → List α → Int
  | _, [] => -1
  | k, x :: l => bif p x then (k : Int) else idxG p (k + 1) l
def has (l : List Int) (x : Int) : Bool := l.any fun y => x == y
/-- numbers that rise above one, below n -/
def riseF (n : Int) : Int → List Int → Bool
  | _, [] => true
  | a, x :: l => !(decide (x ≤ a) || decide (x ≥ n)) && riseF n x l
abbrev MvV := Int × Int × Unit
abbrev ChV := ByteArray × List MvV × Unit
abbrev PairV := List Int × List Int × Unit
abbrev mvSh : Sh := .p (.i .i64) (.p (.i .i64) .u)
abbrev chSh : Sh := .p .s (.p (.l mvSh) .u)
abbrev prSh : Sh := .p (.l (.i .i64)) (.p (.l (.i .i64)) .u)
abbrev kySh : Sh := .p (.i .i64) (.p (.i .i64) .u)
/-! ### leaves -/
def vaI (n : Int) : Ob := .va [.d (.fz true) (.i .i64) n]
def lsD (p i : Int) (nx : List (List Int)) (ps : List PairV) : List L := [.d (.fz true) (.i .i64) p, .d (.fz true) (.i .i64) i, .d (.fz false) (.l (.l (.i .i64))) nx, .d (.fz false) (.l prSh) ps]
def dD (p i : Int) (nx : List (List Int)) (ps : List PairV) : D := .p (.agg (lsD p i nx ps))
def vaD (p i : Int) (nx : List (List Int)) (ps : List PairV) : Ob := .va (lsD p i nx ps)
def lsM (i : Int) (ch : List (List ChV)) (nm : List ByteArray) (ho : List (List Int)) : List L := [.d (.fz true) (.i .i64) i, .d (.fz false) (.l (.l chSh)) ch, .d (.fz false) (.l .s) nm, .d (.fz false) (.l (.l (.i .i64))) ho]
def dM (i : Int) (ch : List (List ChV)) (nm : List ByteArray) (ho : List (List Int)) : D := .p (.agg (lsM i ch nm ho))
def dC (a : ByteArray) (mv : List MvV) : D := .p (.agg [.d (.fz true) .s a, .d (.fz false) (.l mvSh) mv])
def dS (l : List ByteArray) : D := one (.d (.fz false) (.l .s) l)
def pPr (a b : List Int) : D := .p (.agg [.d (.fz false) (.l (.i .i64)) a, .d (.fz false) (.l (.i .i64)) b])
end Go.S23
