/-
  Seat 03 (safe): what its functions come to.
-/
import Derived.Test.YtalnpjabggfiiaaDoorEd
import Derived.Test.YtalnpjabggfiiaaDoorAs3
open Go Go.En
namespace Go.S3
noncomputable abbrev P := Go.Proofs.Tryd.prog
noncomputable def C0 : Ctx0 := { P := P, noT := 39, atT := 0, nm := fun _ => none, fo := fun _ => false, Own := fun _ => none, gc := some (.iface 64 (.agg #[.pointer (some ⟨1, 24, none⟩)])) }
noncomputable def fn (k : Nat) : Func := (P.funcs[k]?).getD default
def vI (v : Int) : D := one (.d (.fz true) (.i .i64) v)
def vU (v : Int) : D := one (.d (.fz true) (.i .u64) v)
def vB (v : Bool) : D := one (.d (.fz true) .b v)
def vE (v : Er) : D := one (.d (.fz true) .e v)
def pI (v : Int) : Pt := .one (.d (.fz true) (.i .i64) v)
def pU (v : Int) : Pt := .one (.d (.fz true) (.i .u64) v)
def pE (v : Er) : Pt := .one (.d (.fz true) .e v)
def pB (v : Bool) : Pt := .one (.d (.fz true) .b v)
def hn0 : Hn := ⟨fun _ => [], fun _ => [], fun _ => false⟩

abbrev wr (n : Int) : Int := IntKind.i64.wrap n
abbrev wu (n : Int) : Int := IntKind.u64.wrap n
def addOv (a b : Int) : Bool := (decide (a < 0) == decide (b < 0)) && !(decide (wr (a + b) < 0) == decide (a < 0))
def add (a b : Int) : Int × Er := bif addOv a b then (0, .no 10) else (wr (a + b), .nil)
def subOv (a b : Int) : Bool := !(decide (a < 0) == decide (b < 0)) && !(decide (wr (a - b) < 0) == decide (a < 0))
def sub (a b : Int) : Int × Er := bif subOv a b then (0, .no 10) else (wr (a - b), .nil)
def mulZ (a b : Int) : Bool := a == 0 || b == 0
def mulOv (a b : Int) : Bool := (a == -1 && b == -9223372036854775808) || (b == -1 && a == -9223372036854775808) || wr ((wr (a * b)).tdiv b) != a
def mul (a b : Int) : Int × Er := bif mulZ a b then (0, .nil) else bif mulOv a b then (0, .no 10) else (wr (a * b), .nil)
def gcd (a b : Int) : Int × Er := bif decide (a < 0) || decide (b < 0) then (0, .no 1) else ((Int.gcd a b : Nat), .nil)
def neg (a : Int) : Int × Er := sub 0 a
/-- the sum of a list, from n on -/
def sumF : Int → List Int → Int × Er
  | n, [] => (n, .nil)
  | n, x :: l => bif (add n x).2.isNil then sumF (add n x).1 l else (0, (add n x).2)
def sum (l : List Int) : Int × Er := sumF 0 l
/-- an error that isn't at a place -/
def plain : Er → Bool
  | .at .. => false
  | _ => true
def numOf : Er → Int
  | .nil => 0
  | .no n => n
  | .at _ e => numOf e

def spII (f : Int → Int → Int × Er) : En.Spec := ⟨[], fun ds os => match ds, os with
  | [.p (.one (.d (.fz true) (.i .i64) a)), .p (.one (.d (.fz true) (.i .i64) b))], [] => .leaf [pI (f a b).1, pE (f a b).2] [] []
  | _, _ => .fail⟩
def spI (f : Int → Int × Er) : En.Spec := ⟨[], fun ds os => match ds, os with
  | [.p (.one (.d (.fz true) (.i .i64) a))], [] => .leaf [pI (f a).1, pE (f a).2] [] []
  | _, _ => .fail⟩
def sumS : En.Spec := ⟨[], fun ds os => match ds, os with
  | [.p (.one (.d (.fz false) (.l (.i .i64)) l))], [] => .br (Nat.ble l.length 9223372036854775806) (.leaf [pI (sum l).1, pE (sum l).2] [] []) .fail
  | _, _ => .fail⟩
def numS : En.Spec := ⟨[], fun ds os => match ds with
  | [.p (.one (.d (.fz _) .e v))] => .br (plain v) (.leaf [pI (numOf v)] os []) .fail
  | _ => .fail⟩
def aliveS : En.Spec := ⟨[], fun ds os => match ds, os with
  | [], [] => .leaf [pB true] [] []
  | _, _ => .fail⟩
/-- of the document: the divisor -/
def rgcd (a b : Int) : Int := bif decide (0 ≤ a) && decide (0 ≤ b) then wr (Int.gcd a b : Nat) else 0
def rgcdS : En.Spec := ⟨[], fun ds os => match ds, os with
  | [.p (.one (.d (.fz true) (.i .i64) a)), .p (.one (.d (.fz true) (.i .i64) b))], [] => .br (decide (0 ≤ a) && decide (0 ≤ b)) (.leaf [pI (rgcd a b)] [] []) .fail
  | _, _ => .fail⟩
def size (a : Int) : Int := bif decide (a < 0) then wu (wu (wr (0 - wr (a + 1))) + 1) else wu a
def sizeS : En.Spec := ⟨[], fun ds os => match ds, os with
  | [.p (.one (.d (.fz true) (.i .i64) a))], [] => .leaf [pU (size a)] [] []
  | _, _ => .fail⟩
def fits (hi lo : Int) (c : Bool) : Int × Bool :=
  bif decide (hi > 0) then (0, false) else bif c then
    (bif decide (lo > 9223372036854775808) then (0, false) else bif lo == 9223372036854775808 then (-9223372036854775808, true) else (wr (0 - wr lo), true))
  else (bif decide (lo ≥ 9223372036854775808) then (0, false) else (wr lo, true))
def fitsS : En.Spec := ⟨[], fun ds os => match ds, os with
  | [.p (.agg [.d (.fz true) (.i .u64) hi, .d (.fz true) (.i .u64) lo, .d (.fz true) .b c])], [] => .leaf [pI (fits hi lo c).1, pB (fits hi lo c).2] [] []
  | _, _ => .fail⟩
def mulHi (a b : Int) : Int :=
  let a1 := shrF .u64 a 32
  let b1 := shrF .u64 b 32
  let a0 := bitsF .and .u64 a 4294967295
  let b0 := bitsF .and .u64 b 4294967295
  let t := wu (wu (a1 * b0) + shrF .u64 (wu (a0 * b0)) 32)
  wu (wu (wu (a1 * b1) + shrF .u64 t 32) + shrF .u64 (wu (bitsF .and .u64 t 4294967295 + wu (a0 * b1))) 32)
def mul64S : En.Spec := ⟨[], fun ds os => match ds, os with
  | [.p (.one (.d (.fz true) (.i .u64) a)), .p (.one (.d (.fz true) (.i .u64) b))], [] => .leaf [pU (mulHi a b), pU (wu (a * b))] [] []
  | _, _ => .fail⟩
def add64S : En.Spec := ⟨[], fun ds os => match ds, os with
  | [.p (.one (.d (.fz true) (.i .u64) a)), .p (.one (.d (.fz true) (.i .u64) b)), .p (.one (.d (.fz true) (.i .u64) c))], [] =>
    .br (decide (0 ≤ a) && decide (0 ≤ b) && decide (0 ≤ c) && decide (c ≤ 1)) (.leaf [pU ((a + b + c) % 18446744073709551616), pU ((a + b + c) / 18446744073709551616)] [] []) .fail
  | _, _ => .fail⟩
def radd (a b : Int) : Int × Bool :=
  bif decide (a < 0) == decide (b < 0) then fits ((size a + size b + 0) / 18446744073709551616) ((size a + size b + 0) % 18446744073709551616) (decide (a < 0))
  else bif decide (size a ≥ size b) then fits 0 (wu (size a - size b)) (decide (a < 0)) else fits 0 (wu (size b - size a)) (decide (b < 0))
def rmul (a b : Int) : Int × Bool := fits (mulHi (size a) (size b)) (wu (size a * size b)) (!(decide (a < 0) == decide (b < 0)))
def spIB (f : Int → Int → Int × Bool) : En.Spec := ⟨[], fun ds os => match ds, os with
  | [.p (.one (.d (.fz true) (.i .i64) a)), .p (.one (.d (.fz true) (.i .i64) b))], [] => .leaf [pI (f a b).1, pB (f a b).2] [] []
  | _, _ => .fail⟩
def isF (a : Int) (e : Er) (b : Int) (c : Bool) : Bool := bif !c then a == 0 && numOf e == 10 else a == b && e.isNil
def isS : En.Spec := ⟨[], fun ds os => match ds, os with
  | [.p (.one (.d (.fz true) (.i .i64) a)), .p (.one (.d (.fz false) .e e)), .p (.one (.d (.fz true) (.i .i64) b)), .p (.one (.d (.fz true) .b c))], [] => .br (plain e) (.leaf [pB (isF a e b c)] [] []) .fail
  | _, _ => .fail⟩
end Go.S3
