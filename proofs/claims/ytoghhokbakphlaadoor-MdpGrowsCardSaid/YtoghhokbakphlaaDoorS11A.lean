/-
  Seat 11: what its functions come to: processes.
-/
import Derived.Test.YtoghhokbakphlaaDoorEd
import Derived.Test.YtoghhokbakphlaaDoorProg
import Derived.KernelRfl
open Go Go.En
namespace Go.S11
noncomputable abbrev P := Go.Proofs.Tryd.prog
noncomputable def C0 : Ctx0 := { P := P, noT := 69, atT := 0, nm := fun _ => none, fo := fun s => s.beq 68, Own := fun _ => none, gc := some (.iface 116 (.agg #[.pointer (some ⟨1, 43, none⟩)])) }
noncomputable def fn (k : Nat) : Func := (P.funcs[k]?).getD default
def pI (v : Int) : Pt := .one (.d (.fz true) (.i .i64) v)
def pE (v : Er) : Pt := .one (.d (.fz true) .e v)
def pB (v : Bool) : Pt := .one (.d (.fz true) .b v)
def dV (v : List Int) : D := one (.d (.fz false) (.l (.i .i64)) v)
def dI (v : Int) : D := one (.d (.fz true) (.i .i64) v)
def dT : D := one (.pv ⟨0, 0⟩ 0)
def dF (g : Nat) : D := one (.fn g [.b ⟨0, 0⟩])
def hn0 : Hn := ⟨fun _ => [], fun _ => [], fun _ => false⟩
abbrev big (n : Nat) : Bool := Nat.ble n 9223372036854775807
def inF (n i : Int) : Bool := decide (i ≥ 0) && decide (i < n)
/-- the first place of what is so, from k on; -1: there is none -/
def idxG {α : Type} (p : α → Bool) : Nat → List α → Int
  | _, [] => -1
  | k, x :: l => bif p x then (k : Int) else idxG p (k + 1) l
def has (l : List Int) (x : Int) : Bool := l.any fun y => x == y
/-- numbers that rise above one, below n -/
def riseF (n : Int) : Int → List Int → Bool
  | _, [] => true
  | a, x :: l => !(decide (x ≤ a) || decide (x ≥ n)) && riseF n x l
abbrev MvV := Int × Int × Unit
abbrev ChV := ByteArray × List MvV × Unit
abbrev mvSh : Sh := .p (.i .i64) (.p (.i .i64) .u)
abbrev chSh : Sh := .p .s (.p (.l mvSh) .u)
abbrev kySh : Sh := .p (.i .i64) (.p (.i .i64) .u)
def vaI (n : Int) : Ob := .va [.d (.fz true) (.i .i64) n]
def lsM (i : Int) (ch : List (List ChV)) (nm : List ByteArray) (ho : List (List Int)) : List L := [.d (.fz true) (.i .i64) i, .d (.fz false) (.l (.l chSh)) ch, .d (.fz false) (.l .s) nm, .d (.fz false) (.l (.l (.i .i64))) ho]
def dM (i : Int) (ch : List (List ChV)) (nm : List ByteArray) (ho : List (List Int)) : D := .p (.agg (lsM i ch nm ho))
def dC (a : ByteArray) (mv : List MvV) : D := .p (.agg [.d (.fz true) .s a, .d (.fz false) (.l mvSh) mv])
def dS (l : List ByteArray) : D := one (.d (.fz false) (.l .s) l)
def nin (n i : Int) : Bool := !inF n i
def putK (m : List (ByteArray × Bool)) (s : ByteArray) : List (ByteArray × Bool) := mapSet .s .b s true m
def differF (l : List ByteArray) : Bool := zn (l.foldl putK []).length == zn l.length
def differS : En.Spec := ⟨[], fun ds os => match ds, os with
  | [.p (.one (.d (.fz false) (.l .s) l))], [] => .br (big l.length) (.leaf [pB (differF l)] [] []) .fail
  | _, _ => .fail⟩
abbrev putI (m : List (Int × Bool)) (x : Int) : List (Int × Bool) := mapSet (.i .i64) .b x true m
abbrev getI (m : List (Int × Bool)) (x : Int) : Bool := (mapGet (.i .i64) .b x m).getD false
def badV (z : Int) (v : MvV) (m : List (Int × Bool)) : Bool := decide (v.1 < 0) || (decide (v.1 ≥ z) || (decide (v.2.1 < 1) || getI m v.1))
def rightF (z : Int) : List (Int × Bool) → List MvV → Bool
  | _, [] => true
  | m, v :: l => !(badV z v m) && rightF z (putI m v.1) l
def rightV (z : Int) (c : ChV) : Bool := rightF z [] c.2.1 && decide (zn c.2.1.length > 0)
def risesS : En.Spec := ⟨[], fun ds os => match ds, os with
  | [.p (.one (.d (.fz false) (.l (.i .i64)) l)), .p (.one (.d (.fz true) (.i .i64) n))], [] => .br (big l.length) (.leaf [pB (riseF n (-1) l)] [] []) .fail
  | _, _ => .fail⟩
def right41S : En.Spec := ⟨[], fun ds os => match ds, os with
  | [.p (.agg [.d (.fz true) .s a, .d (.fz false) (.l (.p (.i .i64) (.p (.i .i64) .u))) mv]), .p (.one (.d (.fz true) (.i .i64) z))], [] => .br (big mv.length) (.leaf [pB (rightV z (a, mv, ()))] [] []) .fail
  | _, _ => .fail⟩
def farCh (l : List ChV) : Bool := decide (zn l.length > 10) || l.any fun c => decide (zn c.2.1.length > 20)
def farM (ch : List (List ChV)) (nm : List ByteArray) (ho : List (List Int)) : Bool :=
  (decide (zn ch.length > 40) || (decide (zn ho.length > 40) || decide (zn nm.length > 12))) || (ch.any farCh || ho.any fun l => decide (zn l.length > 20))
def farMS : En.Spec := ⟨[], fun ds os => match ds, os with
  | [.p (.agg [.d (.fz true) (.i .i64) _i, .d (.fz false) (.l (.l (.p .s (.p (.l (.p (.i .i64) (.p (.i .i64) .u))) .u)))) ch, .d (.fz false) (.l .s) nm, .d (.fz false) (.l (.l (.i .i64))) ho])], [] => .leaf [pB (farM ch nm ho)] [] []
  | _, _ => .fail⟩
def gN (a g : Nat) (o : Out) : Out := bif g.beq a then o else .fail
def right40S : En.Spec := ⟨[], fun ds os => match ds, os with
  | [.p (.agg [.d (.fz true) .s a, .d (.fz false) (.l (.p (.i .i64) (.p (.i .i64) .u))) mv]), .p (.one (.pv ⟨0, 0⟩ 0))], [.va [.d (.fz true) (.i .i64) z]] => .br (big mv.length) (.leaf [pB (!rightV z (a, mv, ()))] [vaI z] []) .fail
  | _, _ => .fail⟩
def mvG (c : ChV) : Bool := big c.2.1.length
def idx52S : En.Spec := ⟨[], fun ds os => match ds, os with
  | [.p (.one (.d (.fz false) (.l (.p .s (.p (.l (.p (.i .i64) (.p (.i .i64) .u))) .u))) l)), .p (.one (.fn g [.b ⟨0, 0⟩]))], [.va [.d (.fz true) (.i .i64) z]] => gN 25 g <| .br (big l.length && l.all mvG) (.leaf [pI (idxG (fun c => !rightV z c) 0 l)] [vaI z] []) .fail
  | _, _ => .fail⟩
def con39S : En.Spec := ⟨[], fun ds os => match ds, os with
  | [.p (.one (.d (.fz false) (.l (.p .s (.p (.l (.p (.i .i64) (.p (.i .i64) .u))) .u))) l)), .p (.one (.fn g [.b ⟨0, 0⟩]))], [.va [.d (.fz true) (.i .i64) z]] => gN 25 g <| .br (big l.length && l.all mvG) (.leaf [pB (l.any fun c => !rightV z c)] [vaI z] []) .fail
  | _, _ => .fail⟩
def h45 : Hn := ⟨fun | 2 => [0, 1, 7, 8] | _ => [], fun _ => [], fun _ => false⟩
def h32 : Hn := ⟨fun | 5 => [1, 3, 4] | 8 => [1, 3, 4, 5] | 13 => [1, 3, 6] | 18 => [1, 3, 6, 7] | 23 => [1, 3, 6, 8] | 29 => [1, 3, 6, 8, 9, 10] | 34 => [1, 3, 6, 8, 9, 10, 11] | _ => [], fun _ => [], fun _ => false⟩
def dCh (l : List ChV) : D := one (.d (.fz false) (.l chSh) l)
/-- no two texts alike -/
def freshD (seen : List ByteArray) : List ByteArray → Bool
  | [] => true
  | x :: l => !(seen.any fun y => x.toList == y.toList) && freshD (seen ++ [x]) l
/-- moves are right and lead to different states -/
def mvF (z : Int) (seen : List MvV) : List MvV → Bool
  | [] => true
  | v :: l => !(decide (v.1 < 0) || (decide (v.1 ≥ z) || decide (v.2.1 < 1))) && (!(seen.any fun y => y.1 == v.1) && mvF z (seen ++ [v]) l)
def okC (z : Int) (c : ChV) : Bool := !(zn c.2.1.length == 0) && mvF z [] c.2.1
def rowR (z K : Int) (l : List ChV) (h : List Int) : Bool := !(zn l.length == 0) && (riseF K (-1) h && l.all (okC z))
def rowsR (z K : Int) : List (List ChV) → List (List Int) → Bool
  | [], _ => true
  | l :: ls, hs => rowR z K l (hs.getD 0 []) && rowsR z K ls (hs.drop 1)
def headM (i : Int) (ch : List (List ChV)) (ho : List (List Int)) : Bool := !(decide (zn ch.length < 1) || (decide (zn ch.length > 4096) || (decide (i < 0) || (decide (i ≥ zn ch.length) || zn ho.length != zn ch.length))))
def mdOk (i : Int) (ch : List (List ChV)) (nm : List ByteArray) (ho : List (List Int)) : Bool := headM i ch ho && (freshD [] nm && rowsR (zn ch.length) (zn nm.length) ch ho)
def chG (l : List ChV) : Bool := big l.length && l.all mvG
def mdG (ch : List (List ChV)) (nm : List ByteArray) (ho : List (List Int)) : Bool := (big ch.length && ch.all chG) && (big nm.length && (big ho.length && ho.all fun l => big l.length))
def rightMS : En.Spec := ⟨[], fun ds os => match ds, os with
  | [.p (.agg [.d (.fz true) (.i .i64) i, .d (.fz false) (.l (.l (.p .s (.p (.l (.p (.i .i64) (.p (.i .i64) .u))) .u)))) ch, .d (.fz false) (.l .s) nm, .d (.fz false) (.l (.l (.i .i64))) ho])], [] =>
    .br (mdG ch nm ho) (.leaf [pB (mdOk i ch nm ho)] [] []) .fail
  | _, _ => .fail⟩
def m6 (n : Nat) : Bool := Nat.ble n 1000000
def roN (nx : List (List Int)) : Ob := .ro true 0 40 (.l (.i .i64)) (.l 3 .z) nx none
def er1 (b : Bool) : Er := bif b then .nil else .no 1
def checkMS : En.Spec := ⟨[], fun ds os => match ds, os with
  | [.p (.agg [.d (.fz true) (.i .i64) i, .d (.fz false) (.l (.l (.p .s (.p (.l (.p (.i .i64) (.p (.i .i64) .u))) .u)))) ch, .d (.fz false) (.l .s) nm, .d (.fz false) (.l (.l (.i .i64))) ho])], [] =>
    .br (mdG ch nm ho) (.leaf [pE (er1 (mdOk i ch nm ho))] [] []) .fail
  | _, _ => .fail⟩
/-- a process copied -/
abbrev owC : Ow := .p .z (.p (.l 36 .z) .z)
def roCh (ch : List (List ChV)) : Ob := .ro true 0 34 (.l chSh) (.l 39 owC) ch none
def roNm (nm : List ByteArray) : Ob := .ro true 0 9 .s .z nm none
def ofMG (ch : List (List ChV)) (nm : List ByteArray) (ho : List (List Int)) : Bool := (m6 ch.length && ch.all (fun l => m6 l.length && l.all fun c => m6 c.2.1.length)) && (m6 nm.length && (m6 ho.length && ho.all fun l => m6 l.length))
def ofMS : En.Spec := ⟨[], fun ds os => match ds, os with
  | [.p (.agg [.d (.fz true) (.i .i64) i, .d (.fz false) (.l (.l (.p .s (.p (.l (.p (.i .i64) (.p (.i .i64) .u))) .u)))) ch, .d (.fz false) (.l .s) nm, .d (.fz false) (.l (.l (.i .i64))) ho])], [] =>
    .br (ofMG ch nm ho) (.leaf [.agg [.d (.fz true) (.i .i64) i, .rw ⟨1, 0⟩, .rw ⟨1, 1⟩, .rw ⟨1, 2⟩]] [] [roCh ch, roNm nm, roN ho]) .fail
  | _, _ => .fail⟩
/-- an error that isn't at a place -/
def plain : Er → Bool
  | .at .. => false
  | _ => true
def numOf : Er → Int
  | .nil => 0
  | .no n => n
  | .at _ e => numOf e
def numS : En.Spec := ⟨[], fun ds os => match ds with
  | [.p (.one (.d (.fz _) .e v))] => .br (plain v) (.leaf [pI (numOf v)] os []) .fail
  | _ => .fail⟩
def h12 : Hn := ⟨fun | 4 => [1, 2, 3, 4] | 8 => [1, 2, 3, 4, 5, 6] | 12 => [1, 2, 3, 4, 5, 6, 7, 8] | 18 => [1, 2, 3, 9] | _ => [], fun | 4 => [⟨3, some 1, 34, .l 39 owC⟩, ⟨3, some 3, 40, .l 3 .z⟩] | 8 => [⟨5, none, 39, owC⟩] | 12 => [⟨7, some 1, 36, .z⟩] | _ => [], fun _ => false⟩
def h23 : Hn := ⟨fun | 5 => [1, 3, 41, 42, 43] | _ => [], fun _ => [], fun _ => false⟩
def h44 : Hn := ⟨fun | 3 => [1, 5, 8, 9, 10] | _ => [], fun _ => [], fun _ => false⟩
def h9 : Hn := ⟨fun | 4 => [1, 3] | 9 => [1, 3, 4] | 14 => [1, 5] | _ => [], fun _ => [], fun _ => false⟩
def h37 : Hn := ⟨fun | 3 => [0, 3, 7, 8, 9] | _ => [], fun _ => [], fun _ => false⟩
def h41 : Hn := ⟨fun | 3 => [1, 2, 5, 10, 11, 12] | _ => [], fun _ => [], fun _ => false⟩
noncomputable def C1 : Ctx := ctxOf C0 []
noncomputable def C4 : Ctx := ctxOf C0 [(26, right41S)]
noncomputable def C5 : Ctx := ctxOf C0 [(25, right40S)]
noncomputable def C6 : Ctx := ctxOf C0 [(39, idx52S)]
noncomputable def l10 : List (Nat × En.Spec) := [(22, differS), (23, risesS), (24, con39S)]
noncomputable def C10 : Ctx := ctxOf C0 l10
end Go.S11
