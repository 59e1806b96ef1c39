/-
  Seat 22: what searching among choices, widening and all come to.
-/
import Derived.Test.YtjkojhpmiijgfaaDoorS22D
import Derived.Test.YtjkojhpmiijgfaaDoorNP
open Go Go.En
namespace Go.S22
/-! ### values -/
def yesC (inn : List Bool) (c : ChV) : Bool := c.2.1.any (yes inn)
def wB (inn inS : List Bool) (c : ChV) : Bool := yesC inn c && two25 inS c.2.1
def allC (inn : List Bool) (c : ChV) : Bool := !yesC inn c
def rgC (n : Nat) (c : ChV) : Bool := rngV n c.2.1
def rgL (n : Nat) (l : List ChV) : Bool := big l.length && l.all (rgC n)
def rgM (n : Nat) (ch : List (List ChV)) : Bool := m6 ch.length && ch.all (rgL n)
/-! ### contracts -/
abbrev fn1 (g : Nat) : D := one (.fn g [.b ⟨0, 0⟩])
abbrev fn2 (g : Nat) : D := one (.fn g [.b ⟨0, 0⟩, .b ⟨0, 1⟩])
abbrev fn3 (g : Nat) : D := one (.fn g [.b ⟨0, 0⟩, .b ⟨0, 1⟩, .b ⟨0, 2⟩])
def idxCS : En.Spec := ⟨[], fun ds os => match ds, os with
  | [.p (.one (.d (.fz false) (.l (.p .s (.p (.l (.p (.i .i64) (.p (.i .i64) .u))) .u))) l)), .p (.one (.fn g [.b ⟨0, 0⟩, .b ⟨0, 1⟩, .b ⟨0, 2⟩]))], [.va [.rw ⟨0, 3⟩], .va [.fn g2 []], .va [.d (.fz true) (.i .i64) s], .ro true 0 e .b .z inn none] =>
    gN 37 g <| gN 24 g2 <| gE e 4 <| .br (rgL inn.length l) (.leaf [pI (idxG (yesC inn) 0 l)] [vaR ⟨0, 3⟩, vaF g2 [], vaI s, roB inn] []) .fail
  | [.p (.one (.d (.fz false) (.l (.p .s (.p (.l (.p (.i .i64) (.p (.i .i64) .u))) .u))) l)), .p (.one (.fn g [.b ⟨0, 0⟩, .b ⟨0, 1⟩, .b ⟨0, 2⟩]))], [.va [.rw ⟨0, 3⟩], .va [.fn g2 [.b ⟨0, 4⟩]], .va [.d (.fz true) (.i .i64) s], .ro true 0 e .b .z inn none, .va [.rw ⟨0, 5⟩], .ro true 0 e2 .b .z inS none] =>
    gN 37 g <| gN 25 g2 <| gE e 4 <| gE e2 4 <| .br (rgL inn.length l && rgL inS.length l) (.leaf [pI (idxG (wB inn inS) 0 l)] [vaR ⟨0, 3⟩, vaF g2 [.b ⟨0, 4⟩], vaI s, roB inn, vaR ⟨0, 5⟩, roB inS] []) .fail
  | [.p (.one (.d (.fz false) (.l (.p .s (.p (.l (.p (.i .i64) (.p (.i .i64) .u))) .u))) l)), .p (.one (.fn g [.b ⟨0, 0⟩, .b ⟨0, 1⟩]))], [.va [.fn g2 []], .va [.rw ⟨0, 2⟩], .ro true 0 e .b .z inn none] =>
    gN 40 g <| gN 29 g2 <| gE e 4 <| .br (rgL inn.length l) (.leaf [pI (idxG (allC inn) 0 l)] [vaF g2 [], vaR ⟨0, 2⟩, roB inn] []) .fail
  | [.p (.one (.d (.fz false) (.l (.p .s (.p (.l (.p (.i .i64) (.p (.i .i64) .u))) .u))) l)), .p (.one (.fn g [.b ⟨0, 0⟩]))], [.va [.rw ⟨0, 1⟩], .ro true 0 e .b .z inn none] =>
    gN 31 g <| gE e 4 <| .br (rgL inn.length l) (.leaf [pI (idxG (yesC inn) 0 l)] [vaR ⟨0, 1⟩, roB inn] []) .fail
  | _, _ => .fail⟩
def conCS : En.Spec := ⟨[], fun ds os => match ds, os with
  | [.p (.one (.d (.fz false) (.l (.p .s (.p (.l (.p (.i .i64) (.p (.i .i64) .u))) .u))) l)), .p (.one (.fn g [.b ⟨0, 0⟩, .b ⟨0, 1⟩]))], [.va [.fn g2 []], .va [.rw ⟨0, 2⟩], .ro true 0 e .b .z inn none] =>
    gN 40 g <| gN 29 g2 <| gE e 4 <| .br (rgL inn.length l) (.leaf [pB (l.any (allC inn))] [vaF g2 [], vaR ⟨0, 2⟩, roB inn] []) .fail
  | [.p (.one (.d (.fz false) (.l (.p .s (.p (.l (.p (.i .i64) (.p (.i .i64) .u))) .u))) l)), .p (.one (.fn g [.b ⟨0, 0⟩]))], [.va [.rw ⟨0, 1⟩], .ro true 0 e .b .z inn none] =>
    gN 31 g <| gE e 4 <| .br (rgL inn.length l) (.leaf [pB (l.any (yesC inn))] [vaR ⟨0, 1⟩, roB inn] []) .fail
  | _, _ => .fail⟩
noncomputable def l16 : List (Nat × En.Spec) := [(37, wid37S), (40, all40S), (31, must31S)]
noncomputable def C16 : Ctx := ctxOf C0 l16
noncomputable def C17 : Ctx := ctxOf C0 [(36, idxCS)]
noncomputable def l18 : List (Nat × En.Spec) := [(36, idxCS), (30, conCS), (35, cloneS)]
noncomputable def C18 : Ctx := ctxOf C0 l18
def h23r : Hn := ⟨fun | 4 => [3, 5, 8, 9, 10] | 8 => [3, 5, 8, 9, 10, 11, 24, 25, 26] | _ => [], fun _ => [], fun _ => false⟩
def h28r : Hn := ⟨fun | 3 => [3, 5, 7, 8] | 6 => [3, 5, 7, 8, 15, 16, 17] | _ => [], fun _ => [], fun _ => false⟩
end Go.S22
