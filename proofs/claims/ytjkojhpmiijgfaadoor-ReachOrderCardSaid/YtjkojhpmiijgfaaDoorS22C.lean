/-
  Seat 22: what the functions of reach come to.
-/
import Derived.Test.YtjkojhpmiijgfaaDoorS22B
open Go Go.En
namespace Go.S22
/-! ### values -/
def hitsF (inn : List Bool) (c : ChV) : Bool := c.2.1.any fun v => inn.getD v.1.toNat false
def staysF (inn : List Bool) (c : ChV) : Bool := !(c.2.1.any fun v => !inn.getD v.1.toNat false)
/-- all moves go to one of n -/
def rngC (n : Nat) (c : ChV) : Bool := big c.2.1.length && c.2.1.all fun v => inF (zn n) v.1
def rngL (n : Nat) (l : List ChV) : Bool := big l.length && l.all (rngC n)
def rngM (n : Nat) (ch : List (List ChV)) : Bool := m6 ch.length && ch.all (rngL n)
def dB (v : List Bool) : D := one (.d (.fz false) (.l .b) v)
def dMv (a b : Int) : D := .p (.agg [.d (.fz true) (.i .i64) a, .d (.fz true) (.i .i64) b])
def dLM (l : List MvV) : D := one (.d (.fz false) (.l mvSh) l)
def vaB (v : List Bool) : Ob := .va [.d (.fz false) (.l .b) v]
def roB (l : List Bool) : Ob := .ro true 0 4 .b .z l none
def roI (l : List Int) : Ob := .ro true 0 3 (.i .i64) .z l none
def vaR (x : En.Id) : Ob := .va [.rw x]
def vaF (g : Nat) (cs : List Cp) : Ob := .va [.fn g cs]
def pv (j : Nat) : D := one (.pv ⟨0, j⟩ 0)
def gE (e a : Nat) (o : Out) : Out := bif e.beq a then o else .fail
/-! ### contracts -/
def mv41S : En.Spec := ⟨[], fun ds os => match ds, os with
  | [.p (.agg [.d (.fz true) (.i .i64) a, .d (.fz true) (.i .i64) _b]), .p (.one (.pv ⟨0, 0⟩ 0))], [.va [.d (.fz false) (.l .b) inn]] => .br (inF (zn inn.length) a) (.leaf [pB (inn.getD a.toNat false)] [vaB inn] []) .fail
  | _, _ => .fail⟩
def mv39S : En.Spec := ⟨[], fun ds os => match ds, os with
  | [.p (.agg [.d (.fz true) (.i .i64) a, .d (.fz true) (.i .i64) _b]), .p (.one (.pv ⟨0, 0⟩ 0))], [.va [.d (.fz false) (.l .b) inn]] => .br (inF (zn inn.length) a) (.leaf [pB (!inn.getD a.toNat false)] [vaB inn] []) .fail
  | _, _ => .fail⟩
def rngV (n : Nat) (l : List MvV) : Bool := big l.length && l.all fun v => inF (zn n) v.1
def yes (inn : List Bool) (v : MvV) : Bool := inn.getD v.1.toNat false
def no (inn : List Bool) (v : MvV) : Bool := !inn.getD v.1.toNat false
def idxMS : En.Spec := ⟨[], fun ds os => match ds, os with
  | [.p (.one (.d (.fz false) (.l (.p (.i .i64) (.p (.i .i64) .u))) l)), .p (.one (.fn g [.b ⟨0, 0⟩]))], [.va [.d (.fz false) (.l .b) inn]] =>
    bif g.beq 41 then .br (rngV inn.length l) (.leaf [pI (idxG (yes inn) 0 l)] [vaB inn] []) .fail
    else gN 39 g <| .br (rngV inn.length l) (.leaf [pI (idxG (no inn) 0 l)] [vaB inn] []) .fail
  | _, _ => .fail⟩
def conMS : En.Spec := ⟨[], fun ds os => match ds, os with
  | [.p (.one (.d (.fz false) (.l (.p (.i .i64) (.p (.i .i64) .u))) l)), .p (.one (.fn g [.b ⟨0, 0⟩]))], [.va [.d (.fz false) (.l .b) inn]] =>
    bif g.beq 41 then .br (rngV inn.length l) (.leaf [pB (l.any (yes inn))] [vaB inn] []) .fail
    else gN 39 g <| .br (rngV inn.length l) (.leaf [pB (l.any (no inn))] [vaB inn] []) .fail
  | _, _ => .fail⟩
def hitsS : En.Spec := ⟨[], fun ds os => match ds, os with
  | [.p (.agg [.d (.fz true) .s _a, .d (.fz false) (.l (.p (.i .i64) (.p (.i .i64) .u))) mv]), .p (.one (.d (.fz false) (.l .b) inn))], [] => .br (rngV inn.length mv) (.leaf [pB (mv.any (yes inn))] [] []) .fail
  | _, _ => .fail⟩
def staysS : En.Spec := ⟨[], fun ds os => match ds, os with
  | [.p (.agg [.d (.fz true) .s _a, .d (.fz false) (.l (.p (.i .i64) (.p (.i .i64) .u))) mv]), .p (.one (.d (.fz false) (.l .b) inn))], [] => .br (rngV inn.length mv) (.leaf [pB (!mv.any (no inn))] [] []) .fail
  | _, _ => .fail⟩
def whatS : En.Spec := ⟨[], fun ds os => match ds, os with
  | [.p (.one (.d (.fz true) (.i .i64) _s)), .p (.agg [.d (.fz true) .s _a, .d (.fz false) (.l (.p (.i .i64) (.p (.i .i64) .u))) _mv])], [] => .leaf [pB true] [] []
  | _, _ => .fail⟩
def sure25S : En.Spec := ⟨[], fun ds os => match ds, os with
  | [.p (.one (.d (.fz true) (.i .i64) _s)), .p (.agg [.d (.fz true) .s _a, .d (.fz false) (.l (.p (.i .i64) (.p (.i .i64) .u))) mv]), .p (.one (.pv ⟨0, 0⟩ 0))], [.va [.rw ⟨0, 1⟩], .ro true 0 e .b .z inn none] => gE e 4 <| .br (rngV inn.length mv) (.leaf [pB (!mv.any (no inn))] [vaR ⟨0, 1⟩, roB inn] []) .fail
  | _, _ => .fail⟩
def two25 (inS : List Bool) (mv : List MvV) : Bool := !mv.any (no inS)
def wid37S : En.Spec := ⟨[], fun ds os => match ds, os with
  | [.p (.agg [.d (.fz true) .s _a, .d (.fz false) (.l (.p (.i .i64) (.p (.i .i64) .u))) mv]), .p (.one (.pv ⟨0, 0⟩ 0)), .p (.one (.pv ⟨0, 1⟩ 0)), .p (.one (.pv ⟨0, 2⟩ 0))], [.va [.rw ⟨0, 3⟩], .va [.fn g []], .va [.d (.fz true) (.i .i64) s], .ro true 0 e .b .z inn none] =>
    gN 24 g <| gE e 4 <| .br (rngV inn.length mv) (.leaf [pB (mv.any (yes inn))] [vaR ⟨0, 3⟩, vaF g [], vaI s, roB inn] []) .fail
  | [.p (.agg [.d (.fz true) .s _a, .d (.fz false) (.l (.p (.i .i64) (.p (.i .i64) .u))) mv]), .p (.one (.pv ⟨0, 0⟩ 0)), .p (.one (.pv ⟨0, 1⟩ 0)), .p (.one (.pv ⟨0, 2⟩ 0))], [.va [.rw ⟨0, 3⟩], .va [.fn g [.b ⟨0, 4⟩]], .va [.d (.fz true) (.i .i64) s], .ro true 0 e .b .z inn none, .va [.rw ⟨0, 5⟩], .ro true 0 e2 .b .z inS none] =>
    gN 25 g <| gE e 4 <| gE e2 4 <| .br (rngV inn.length mv && rngV inS.length mv) (.leaf [pB (mv.any (yes inn) && two25 inS mv)] [vaR ⟨0, 3⟩, vaF g [.b ⟨0, 4⟩], vaI s, roB inn, vaR ⟨0, 5⟩, roB inS] []) .fail
  | _, _ => .fail⟩
def all40S : En.Spec := ⟨[], fun ds os => match ds, os with
  | [.p (.agg [.d (.fz true) .s _a, .d (.fz false) (.l (.p (.i .i64) (.p (.i .i64) .u))) mv]), .p (.one (.pv ⟨0, 0⟩ 0)), .p (.one (.pv ⟨0, 1⟩ 0))], [.va [.fn g []], .va [.rw ⟨0, 2⟩], .ro true 0 e .b .z inn none] =>
    gN 29 g <| gE e 4 <| .br (rngV inn.length mv) (.leaf [pB (!mv.any (yes inn))] [vaF g [], vaR ⟨0, 2⟩, roB inn] []) .fail
  | _, _ => .fail⟩
def must31S : En.Spec := ⟨[], fun ds os => match ds, os with
  | [.p (.agg [.d (.fz true) .s _a, .d (.fz false) (.l (.p (.i .i64) (.p (.i .i64) .u))) mv]), .p (.one (.pv ⟨0, 0⟩ 0))], [.va [.rw ⟨0, 1⟩], .ro true 0 e .b .z inn none] =>
    gE e 4 <| .br (rngV inn.length mv) (.leaf [pB (mv.any (yes inn))] [vaR ⟨0, 1⟩, roB inn] []) .fail
  | _, _ => .fail⟩
def cloneS : En.Spec := ⟨[], fun ds os => match ds, os with
  | [.p (.one (.d (.fz false) (.l .b) v))], [] => .br (Nat.ble v.length 1000000) (.leaf [.one (.rw ⟨1, 0⟩)] [] [roB v]) .fail
  | _, _ => .fail⟩
def sameB : List Bool → List Bool → Bool
  | [], [] => true
  | x :: a, y :: b => (x == y) && sameB a b
  | _, _ => false
def eqBS : En.Spec := ⟨[], fun ds os => match ds, os with
  | [.p (.one (.d (.fz false) (.l .b) a)), .p (.one (.d (.fz false) (.l .b) b))], [] => .br (Nat.ble a.length 1000000 && Nat.ble b.length 1000000) (.leaf [pB (sameB a b)] [] []) .fail
  | _, _ => .fail⟩
def checkRS : En.Spec := ⟨[], fun ds os => match ds, os with
  | [.p (.agg [.d (.fz true) (.i .i64) i, .d (.fz false) (.l (.l (.p .s (.p (.l (.p (.i .i64) (.p (.i .i64) .u))) .u)))) ch, .d (.fz false) (.l .s) nm, .d (.fz false) (.l (.l (.i .i64))) ho]), .p (.one (.d (.fz false) (.l .b) set))], [] =>
    .br (mdG ch nm ho) (.leaf [pE (er1 (mdOk i ch nm ho && (zn set.length == zn ch.length)))] [] []) .fail
  | _, _ => .fail⟩
noncomputable def C11 : Ctx := ctxOf C0 [(41, mv41S), (39, mv39S)]
noncomputable def C12 : Ctx := ctxOf C0 [(50, idxMS)]
noncomputable def C13 : Ctx := ctxOf C0 [(38, conMS)]
noncomputable def l14a : List (Nat × En.Spec) := [(29, hitsS), (26, staysS), (24, whatS)]
noncomputable def C14a : Ctx := ctxOf C0 l14a
noncomputable def C14 : Ctx := ctxOf C0 [(29, hitsS), (26, staysS), (24, whatS), (25, sure25S)]
noncomputable def C15 : Ctx := ctxOf C0 [(34, checkMS)]
def h35 : Hn := ⟨fun _ => [], fun | 1000000 => [⟨2, none, 4, .z⟩] | _ => [], fun _ => false⟩
def h27 : Hn := ⟨fun | 4 => [0, 1, 12, 13] | _ => [], fun _ => [], fun _ => false⟩
def h19 : Hn := ⟨fun | 4 => [0, 1, 5] | _ => [], fun _ => [], fun _ => false⟩
end Go.S22
