/-
  Seat 01 (bits): what its functions come to.
-/
import Derived.Test.YtjmpbpggbkkhpaaDoorEd
import Derived.Test.YtjmpbpggbkkhpaaDoorProg
import Derived.KernelRfl
import Derived.Lib.TrailingZeros
open Go Go.En
namespace Go.S1
noncomputable abbrev P := Go.Proofs.Tryd.prog
def tab : List Value := Lib.deBruijn64tab.map fun n => .int .u8 (n : Nat)
noncomputable def C0 : Ctx0 := { P := P, noT := 56, atT := 0, nm := fun _ => none, fo := fun _ => false, Own := fun _ => none, gc := none, gx := [(0, tab), (1, [.iface 83 (.agg #[.pointer (some ⟨2, 26, none⟩)])])] }
noncomputable def fn (k : Nat) : Func := (P.funcs[k]?).getD default
def pI (v : Int) : Pt := .one (.d (.fz true) (.i .i64) v)
def pU (v : Int) : Pt := .one (.d (.fz true) (.i .u64) v)
def pE (v : Er) : Pt := .one (.d (.fz true) .e v)
def pB (v : Bool) : Pt := .one (.d (.fz true) .b v)
def dV (v : List Int) : D := one (.d (.fz false) (.l (.i .i64)) v)
def dI (v : Int) : D := one (.d (.fz true) (.i .i64) v)
def dU (v : Int) : D := one (.d (.fz true) (.i .u64) v)
def dT : D := one (.pv ⟨0, 0⟩ 0)
def dN : D := one .np
def hn0 : Hn := ⟨fun _ => [], fun _ => [], fun _ => false⟩

/-! ### sets: a size and words -/
def inF (n i : Int) : Bool := decide (i ≥ 0) && decide (i < n)
def wd (ws : List Int) (i : Int) : Int := ws.getD (i.tdiv 64).toNat 0
def hasF (n : Int) (ws : List Int) (i : Int) : Bool := inF n i && bitsF .and .u64 (shrF .u64 (wd ws i) (i.tmod 64)) 1 == 1
def addB (n : Int) (ws : List Int) (i : Int) : Bool := inF n i && !hasF n ws i
def addW (n : Int) (ws : List Int) (i : Int) : List Int := bif addB n ws i then ws.set (i.tdiv 64).toNat (bitsF .or .u64 (wd ws i) (shlF .u64 1 (i.tmod 64))) else ws
def delW (n : Int) (ws : List Int) (i : Int) : List Int := bif hasF n ws i then ws.set (i.tdiv 64).toNat (bitsF .andNot .u64 (wd ws i) (shlF .u64 1 (i.tmod 64))) else ws
def wok (ws : List Int) : Bool := ws.all fun w => decide (0 ≤ w) && decide (w < 18446744073709551616)
/-- no bits beyond its size -/
def top (n : Int) (ws : List Int) : Bool := (n.toNat % 64).beq 0 || decide (ws.getD (n.toNat / 64) 0 < 2 ^ (n.toNat % 64))
def okS : Int → List Int → Bool
  | n, ws => decide (0 ≤ n) && (decide (n ≤ 4096) && (Nat.beq ws.length ((n.toNat + 63) / 64) && (wok ws && top n ws)))
/-- the words from k on: the least bit -/
def scanF : Nat → Int → List Int → Int × Bool
  | k, w, rest => bif w != 0 then (((k * 64 + Lib.ctz 64 w.toNat : Nat) : Int), true) else match rest with
    | [] => (0, false)
    | w' :: rest => scanF (k + 1) w' rest
/-- from 0 on -/
def fr (i : Int) : Int := if 0 > i then 0 else i
def nextF (n : Int) (ws : List Int) (i : Int) : Int × Bool :=
  bif inF n (fr i) then scanF ((fr i).toNat / 64) (shlF .u64 (shrF .u64 (wd ws (fr i)) ((fr i).tmod 64)) ((fr i).tmod 64)) (ws.drop ((fr i).toNat / 64 + 1)) else (0, false)

/-! ### objects -/
def vaS (x : En.Id) (n : Int) : Ob := .va [.d (.fz true) (.i .i64) n, .rw x]
def roW (ws : List Int) : Ob := .ro true 0 60 (.i .u64) .z ws none
def roI (v : List Int) : Ob := .ro true 0 3 (.i .i64) .z v none
/-- the numbers of types -/
def gS (e : Nat) (o : Out) : Out := bif e.beq 60 then o else .fail
theorem gS_pick {e : Nat} {o : Out} {lf : Lf} (h : (gS e o).pick = some lf) : e = 60 ∧ o.pick = some lf := by
  unfold gS at h
  cases hc : e.beq 60 with
  | false => rw [hc] at h; cases h
  | true =>
    rw [hc] at h
    exact ⟨Nat.eq_of_beq_eq_true hc, h⟩
/-! ### contracts -/
def inS : En.Spec := ⟨[], fun ds os => match ds, os with
  | [.p (.one .np), .p (.one (.d (.fz true) (.i .i64) _i))], [] => .leaf [pB false] [] []
  | [.p (.one (.pv ⟨0, 0⟩ 0)), .p (.one (.d (.fz true) (.i .i64) i))], [.va [.d (.fz true) (.i .i64) n, .rw ⟨0, 1⟩], .ro true 0 e (.i .u64) .z ws none] => gS e <|  (.leaf [pB (inF n i)] [vaS ⟨0, 1⟩ n, roW ws] [])
  | _, _ => .fail⟩
def hasS : En.Spec := ⟨[], fun ds os => match ds, os with
  | [.p (.one .np), .p (.one (.d (.fz true) (.i .i64) _i))], [] => .leaf [pB false] [] []
  | [.p (.one (.pv ⟨0, 0⟩ 0)), .p (.one (.d (.fz true) (.i .i64) i))], [.va [.d (.fz true) (.i .i64) n, .rw ⟨0, 1⟩], .ro true 0 e (.i .u64) .z ws none] => gS e <| .br (okS n ws) (.leaf [pB (hasF n ws i)] [vaS ⟨0, 1⟩ n, roW ws] []) .fail
  | _, _ => .fail⟩
def addS : En.Spec := ⟨[], fun ds os => match ds, os with
  | [.p (.one .np), .p (.one (.d (.fz true) (.i .i64) _i))], [] => .leaf [pB false] [] []
  | [.p (.one (.pv ⟨0, 0⟩ 0)), .p (.one (.d (.fz true) (.i .i64) i))], [.va [.d (.fz true) (.i .i64) n, .rw ⟨0, 1⟩], .ro true 0 e (.i .u64) .z ws none] => gS e <| .br (okS n ws) (.leaf [pB (addB n ws i)] [vaS ⟨0, 1⟩ n, roW (addW n ws i)] []) .fail
  | _, _ => .fail⟩
def delS : En.Spec := ⟨[], fun ds os => match ds, os with
  | [.p (.one .np), .p (.one (.d (.fz true) (.i .i64) _i))], [] => .leaf [pB false] [] []
  | [.p (.one (.pv ⟨0, 0⟩ 0)), .p (.one (.d (.fz true) (.i .i64) i))], [.va [.d (.fz true) (.i .i64) n, .rw ⟨0, 1⟩], .ro true 0 e (.i .u64) .z ws none] => gS e <| .br (okS n ws) (.leaf [pB (hasF n ws i)] [vaS ⟨0, 1⟩ n, roW (delW n ws i)] []) .fail
  | _, _ => .fail⟩
def nextS : En.Spec := ⟨[], fun ds os => match ds, os with
  | [.p (.one .np), .p (.one (.d (.fz true) (.i .i64) _i))], [] => .leaf [pI 0, pB false] [] []
  | [.p (.one (.pv ⟨0, 0⟩ 0)), .p (.one (.d (.fz true) (.i .i64) i))], [.va [.d (.fz true) (.i .i64) n, .rw ⟨0, 1⟩], .ro true 0 e (.i .u64) .z ws none] => gS e <| .br (okS n ws) (.leaf [pI (nextF n ws i).1, pB (nextF n ws i).2] [vaS ⟨0, 1⟩ n, roW ws] []) .fail
  | _, _ => .fail⟩
def sizeS : En.Spec := ⟨[], fun ds os => match ds, os with
  | [.p (.one .np)], [] => .leaf [pI 0] [] []
  | [.p (.one (.pv ⟨0, 0⟩ 0))], [.va [.d (.fz true) (.i .i64) n, .rw ⟨0, 1⟩], .ro true 0 e (.i .u64) .z ws none] => gS e <|  (.leaf [pI n] [vaS ⟨0, 1⟩ n, roW ws] [])
  | _, _ => .fail⟩
def newS : En.Spec := ⟨[], fun ds os => match ds, os with
  | [.p (.one (.d (.fz true) (.i .i64) n))], [] => .br (decide (n < 0) || decide (n > 4096)) (.leaf [.one .np, pE (.no 1)] [] []) (.leaf [.one (.pv ⟨1, 0⟩ 0), pE .nil] [] [vaS ⟨1, 1⟩ n, roW (List.replicate ((n.toNat + 63) / 64) 0)])
  | _, _ => .fail⟩
def np1 (r : List Pt) : En.Spec := ⟨[], fun ds os => match ds, os with
  | [.p (.one .np)], [] => .leaf r [] []
  | _, _ => .fail⟩
def np2 (r : List Pt) : En.Spec := ⟨[], fun ds os => match ds, os with
  | [.p (.one .np), .p (.one .np)], [] => .leaf r [] []
  | _, _ => .fail⟩
/-- the items below m -/
def itemsB (z : Int) (ws : List Int) (m : Nat) : List Int := ((List.range m).filter fun (p : Nat) => hasF z ws p).map fun (p : Nat) => (p : Int)
def items (z : Int) (ws : List Int) : List Int := itemsB z ws z.toNat
def itemsS : En.Spec := ⟨[], fun ds os => match ds, os with
  | [.p (.one .np)], [] => .leaf [.one (.rw ⟨1, 0⟩)] [] [roI []]
  | [.p (.one (.pv ⟨0, 0⟩ 0))], [.va [.d (.fz true) (.i .i64) n, .rw ⟨0, 1⟩], .ro true 0 e (.i .u64) .z ws none] => gS e <| .br (okS n ws) (.leaf [.one (.rw ⟨1, 0⟩)] [vaS ⟨0, 1⟩ n, roW ws] [roI (items n ws)]) .fail
  | _, _ => .fail⟩
def ofW (z : Int) (l : List Int) : List Int := l.foldl (addW z) (List.replicate ((z.toNat + 63) / 64) 0)
def ofB (z : Int) (l : List Int) : Bool := l.all (inF z)
def ofS : En.Spec := ⟨[], fun ds os => match ds, os with
  | [.p (.one (.d (.fz true) (.i .i64) z)), .p (.one (.d (.fz false) (.l (.i .i64)) l))], [] => .br (Nat.ble l.length 9223372036854775806)
    (.br (decide (z < 0) || decide (z > 4096)) (.leaf [.one .np, pE (.no 1)] [] []) (.br (ofB z l) (.leaf [.one (.pv ⟨1, 0⟩ 0), pE .nil] [] [vaS ⟨1, 1⟩ z, roW (ofW z l)]) (.leaf [.one .np, pE (.no 1)] [] []))) .fail
  | _, _ => .fail⟩
def sameI : List Int → List Int → Bool
  | [], [] => true
  | x :: a, y :: b => x == y && sameI a b
  | _, _ => false
def intsS : En.Spec := ⟨[], fun ds os => match ds, os with
  | [.p (.one (.d (.fz false) (.l (.i .i64)) a)), .p (.one (.d (.fz false) (.l (.i .i64)) b))], [] => .br (Nat.ble a.length 9223372036854775806 && Nat.ble b.length 9223372036854775806) (.leaf [pB (sameI a b)] [] []) .fail
  | _, _ => .fail⟩
def turn0S : En.Spec := ⟨[], fun ds os => match ds, os with
  | [.p (.one .np), .p (.one .np), .p (.one (.fn _ []))], [] => .leaf [pB false] [] []
  | _, _ => .fail⟩
def aliveS : En.Spec := ⟨[], fun ds os => match ds, os with
  | [], [] => .leaf [pB true] [] []
  | _, _ => .fail⟩
/-- a list a number? -/
def hasL : List Int → Int → Bool
  | [], _ => false
  | x :: l, i => x == i || hasL l i
def hasLS : En.Spec := ⟨[], fun ds os => match ds, os with
  | [.p (.one (.d (.fz false) (.l (.i .i64)) l)), .p (.one (.d (.fz true) (.i .i64) i))], [] => .br (Nat.ble l.length 9223372036854775806) (.leaf [pB (hasL l i)] [] []) .fail
  | _, _ => .fail⟩
end Go.S1
