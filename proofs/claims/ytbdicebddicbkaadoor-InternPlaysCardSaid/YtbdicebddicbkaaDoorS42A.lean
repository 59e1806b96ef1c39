/-
  Seat 02 (intern): what its functions come to.
-/
import Derived.Test.YtbdicebddicbkaaDoorEd
import Derived.Test.YtbdicebddicbkaaDoorProg
import Derived.KernelRfl
open Go Go.En
namespace Go.S2
noncomputable abbrev P := Go.Proofs.Tryd.prog
noncomputable def C0 : Ctx0 := { P := P, noT := 45, atT := 0, nm := fun _ => none, fo := fun _ => false, Own := fun s => bif s.beq 36 then some (.l 21 .z) else none, gc := some (.iface 63 (.agg #[.pointer (some ⟨1, 31, none⟩)])) }
noncomputable def fn (k : Nat) : Func := (P.funcs[k]?).getD default
def pI (v : Int) : Pt := .one (.d (.fz true) (.i .i64) v)
def pE (v : Er) : Pt := .one (.d (.fz true) .e v)
def pB (v : Bool) : Pt := .one (.d (.fz true) .b v)
def dV (v : List Int) : D := one (.d (.fz false) (.l (.i .i32)) v)
def dI (v : Int) : D := one (.d (.fz true) (.i .i64) v)
def dT : D := one (.pv ⟨0, 0⟩ 0)
def hn0 : Hn := ⟨fun _ => [], fun _ => [], fun _ => false⟩

/-! ### values -/
def hstep (h x : Int) : Int := IntKind.u32.wrap (bitsF .xor .u32 h (IntKind.u32.wrap x) * 16777619)
def hashL : Int → List Int → Int
  | h, [] => h
  | h, x :: l => hashL (hstep h x) l
def hash (v : List Int) : Int := IntKind.i64.wrap ((hashL 2166136261 v).tmod 257)
/-- two vectors -/
def same : List Int → List Int → Bool
  | [], [] => true
  | x :: a, y :: b => x == y && same a b
  | _, _ => false
/-- one more than the last number of those of a chain; 0: there is none -/
def lastH (f : List Int → Int) (h : Int) : Nat → List (List Int) → Int → Int
  | _, [], a => a
  | i, x :: l, a => lastH f h (i + 1) l (bif f x == h then ((i + 1 : Nat) : Int) else a)
def firstOf (l : List (List Int)) : List Int := (List.range 257).map fun h => lastH hash (h : Nat) 0 l 0
def nextOf (l : List (List Int)) : List Int := (List.range l.length).map fun i => lastH hash (hash (l.getD i [])) 0 (l.take i) 0
/-- the number of a vector, from i on -/
def fndF (v : List Int) : Nat → List (List Int) → Int × Bool
  | _, [] => (0, false)
  | i, x :: l => bif same x v then ((i : Int), true) else fndF v (i + 1) l
def fnd (l : List (List Int)) (v : List Int) : Int × Bool := fndF v 0 l
/-- all apart -/
def nod : List (List Int) → Bool
  | [] => true
  | x :: l => !(fndF x 0 l).2 && nod l
def okT : List (List Int) → List Int → List Int → Bool
  | l, a, b => nod l && (l.all (fun v => Nat.ble v.length 64) && (Nat.ble l.length 100000 && (a == firstOf l && b == nextOf l)))
def long (v : List Int) : Bool := !Nat.ble v.length 64
def putL (l : List (List Int)) (v : List Int) : List (List Int) := bif long v || (fnd l v).2 then l else l ++ [v]
def putN (l : List (List Int)) (v : List Int) : Int := bif long v then 0 else bif (fnd l v).2 then (fnd l v).1 else l.length
def putB (l : List (List Int)) (v : List Int) : Bool := !(long v || (fnd l v).2)
def putE (v : List Int) : Er := bif long v then .no 2 else .nil
def atF (l : List (List Int)) (i : Int) : List Int × Bool := bif inb i l.length then (l.getD i.toNat [], true) else ([], false)

/-! ### objects -/
def vaT (x y : En.Id) (a : List Int) : Ob := .va [.rw x, .d (.fz true) (.v 257 (.i .i64)) a, .rw y]
def roL (l : List (List Int)) : Ob := .ro true 0 26 (.l (.i .i32)) (.l 21 .z) l none
def roN (b : List Int) : Ob := .ro true 0 3 (.i .i64) .z b none
def roV (v : List Int) : Ob := .ro true 0 21 (.i .i32) .z v none
def big (v : List Int) : Bool := Nat.ble v.length 9223372036854775807

/-- the numbers of types, and the chains' -/
def gT (n e1 e2 e3 : Nat) (o : Out) : Out := bif n.beq 257 && (e1.beq 26 && (e2.beq 21 && e3.beq 3)) then o else .fail
theorem gT_pick {n e1 e2 e3 : Nat} {o : Out} {lf : Lf} (h : (gT n e1 e2 e3 o).pick = some lf) : n = 257 ∧ e1 = 26 ∧ e2 = 21 ∧ e3 = 3 ∧ o.pick = some lf := by
  unfold gT at h
  cases hc : (n.beq 257 && (e1.beq 26 && (e2.beq 21 && e3.beq 3))) with
  | false => rw [hc] at h; cases h
  | true =>
    rw [hc] at h
    simp only [Bool.and_eq_true, Nat.beq_eq] at hc
    exact ⟨hc.1, hc.2.1, hc.2.2.1, hc.2.2.2, h⟩
/-! ### contracts -/
def hashS : En.Spec := ⟨[], fun ds os => match ds, os with
  | [.p (.one (.d (.fz false) (.l (.i .i32)) v))], [] => .br (big v) (.leaf [pI (hash v)] [] []) .fail
  | _, _ => .fail⟩
def cloneS : En.Spec := ⟨[], fun ds os => match ds, os with
  | [.p (.one (.d (.fz false) (.l (.i .i32)) v))], [] => .br (Nat.ble v.length 1000000) (.leaf [.one (.rw ⟨1, 0⟩)] [] [roV v]) .fail
  | _, _ => .fail⟩
def sameS : En.Spec := ⟨[], fun ds os => match ds, os with
  | [.p (.one (.d (.fz false) (.l (.i .i32)) a)), .p (.one (.d (.fz false) (.l (.i .i32)) b))], [] => .br (big a && big b) (.leaf [pB (same a b)] [] []) .fail
  | _, _ => .fail⟩
def newS : En.Spec := ⟨[], fun ds os => match ds, os with
  | [], [] => .leaf [.one (.pv ⟨1, 0⟩ 0)] [] [vaT ⟨1, 1⟩ ⟨1, 2⟩ (firstOf []), roL [], roN []]
  | _, _ => .fail⟩
def lenS : En.Spec := ⟨[], fun ds os => match ds, os with
  | [.p (.one (.pv ⟨0, 0⟩ 0))], [.va [.rw ⟨0, 1⟩, .d (.fz true) (.v n (.i .i64)) a, .rw ⟨0, 2⟩], .ro true 0 e1 (.l (.i .i32)) (.l e2 .z) l none, .ro true 0 e3 (.i .i64) .z b none] => gT n e1 e2 e3 <|
    .br (okT l a b) (.leaf [pI (l.length : Int)] [vaT ⟨0, 1⟩ ⟨0, 2⟩ (firstOf l), roL l, roN (nextOf l)] []) .fail
  | _, _ => .fail⟩
def findS : En.Spec := ⟨[], fun ds os => match ds, os with
  | [.p (.one (.pv ⟨0, 0⟩ 0)), .p (.one (.d (.fz false) (.l (.i .i32)) v))], [.va [.rw ⟨0, 1⟩, .d (.fz true) (.v n (.i .i64)) a, .rw ⟨0, 2⟩], .ro true 0 e1 (.l (.i .i32)) (.l e2 .z) l none, .ro true 0 e3 (.i .i64) .z b none] => gT n e1 e2 e3 <|
    .br (okT l a b && big v) (.leaf [pI (fnd l v).1, pB (fnd l v).2] [vaT ⟨0, 1⟩ ⟨0, 2⟩ (firstOf l), roL l, roN (nextOf l)] []) .fail
  | _, _ => .fail⟩
def atS : En.Spec := ⟨[], fun ds os => match ds, os with
  | [.p (.one (.pv ⟨0, 0⟩ 0)), .p (.one (.d (.fz true) (.i .i64) i))], [.va [.rw ⟨0, 1⟩, .d (.fz true) (.v n (.i .i64)) a, .rw ⟨0, 2⟩], .ro true 0 e1 (.l (.i .i32)) (.l e2 .z) l none, .ro true 0 e3 (.i .i64) .z b none] => gT n e1 e2 e3 <|
    .br (okT l a b) (.leaf [.one (.rw ⟨1, 0⟩), pB (atF l i).2] [vaT ⟨0, 1⟩ ⟨0, 2⟩ (firstOf l), roL l, roN (nextOf l)] [roV (atF l i).1]) .fail
  | _, _ => .fail⟩
def putS : En.Spec := ⟨[], fun ds os => match ds, os with
  | [.p (.one (.pv ⟨0, 0⟩ 0)), .p (.one (.d (.fz false) (.l (.i .i32)) v))], [.va [.rw ⟨0, 1⟩, .d (.fz true) (.v n (.i .i64)) a, .rw ⟨0, 2⟩], .ro true 0 e1 (.l (.i .i32)) (.l e2 .z) l none, .ro true 0 e3 (.i .i64) .z b none] => gT n e1 e2 e3 <|
    .br (okT l a b && big v) (.br (putB l v) (.leaf [pI (putN l v), pB true, pE .nil] [vaT ⟨1, 0⟩ ⟨1, 1⟩ (firstOf (l ++ [v])), .gone, .gone] [roL (l ++ [v]), roN (nextOf (l ++ [v]))])
      (.leaf [pI (putN l v), pB false, pE (putE v)] [vaT ⟨0, 1⟩ ⟨0, 2⟩ (firstOf l), roL l, roN (nextOf l)] [])) .fail
  | _, _ => .fail⟩
def aliveS : En.Spec := ⟨[], fun ds os => match ds, os with
  | [], [] => .leaf [pB true] [] []
  | _, _ => .fail⟩
end Go.S2
