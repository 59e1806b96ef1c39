/-
  Seat 22: what the document's functions of picks come to: values, contexts.
-/
import Derived.Test.YtjkojhpmiijgfaaDoorS22I
open Go Go.En
namespace Go.S22
def picksF : Int → List (List ChV) → Int
  | n, [] => n
  | n, l :: ls => bif decide (n * zn l.length > 100000) then 100000 else picksF (n * zn l.length) ls
def picksS : En.Spec := ⟨[], fun ds os => match ds, os with
  | [.p (.agg [.d (.fz true) (.i .i64) _i, .d (.fz false) (.l (.l (.p .s (.p (.l (.p (.i .i64) (.p (.i .i64) .u))) .u)))) ch, .d (.fz false) (.l .s) nm, .d (.fz false) (.l (.l (.i .i64))) ho])], [] => .br (ofMG ch nm ho) (.leaf [pI (picksF 1 ch)] [] []) .fail
  | _, _ => .fail⟩
/-- the i-th pick -/
def pickF : Nat → List (List ChV) → List Int
  | _, [] => []
  | i, l :: ls => ((i % l.length : Nat) : Int) :: pickF (i / l.length) ls
def full (ch : List (List ChV)) : Bool := ch.all fun l => Nat.blt 0 l.length
def pickS : En.Spec := ⟨[], fun ds os => match ds, os with
  | [.p (.agg [.d (.fz true) (.i .i64) _i, .d (.fz false) (.l (.l (.p .s (.p (.l (.p (.i .i64) (.p (.i .i64) .u))) .u)))) ch, .d (.fz false) (.l .s) nm, .d (.fz false) (.l (.l (.i .i64))) ho]), .p (.one (.d (.fz true) (.i .i64) k))], [] => .br (ofMG ch nm ho && (full ch && (decide (0 ≤ k) && decide (k ≤ 1000000)))) (.leaf [.one (.rw ⟨1, 0⟩)] [] [roI (pickF k.toNat ch)]) .fail
  | _, _ => .fail⟩
/-- the choice of a pick -/
def cho (ch : List (List ChV)) (pk : List Int) (s : Nat) : ChV := (ch.getD s []).getD (pk.getD s 0).toNat ({ data := #[] }, [], ())
def pkG : List (List ChV) → List Int → Bool
  | [], [] => true
  | l :: ls, p :: ps => inF (zn l.length) p && pkG ls ps
  | _, _ => false
def cMay (ch : List (List ChV)) (pk : List Int) (l : List Bool) (s : Nat) : Bool := (cho ch pk s).2.1.any (yes l)
def cSure (ch : List (List ChV)) (pk : List Int) (set l : List Bool) (s : Nat) : Bool := !set.getD s false && (cho ch pk s).2.1.any (no l)
def mayP (ch : List (List ChV)) (set : List Bool) (pk : List Int) : List Bool := fixU true (cMay ch pk) set.length (set.length + 1) set
def sureP (ch : List (List ChV)) (set : List Bool) (pk : List Int) : List Bool := fixU false (cSure ch pk set) set.length (set.length + 1) (mayP ch set pk)
def comeG (ch : List (List ChV)) (nm : List ByteArray) (ho : List (List Int)) (set : List Bool) (pk : List Int) : Bool := ofMG ch nm ho && (rgS ch set && pkG ch pk)
def comeS : En.Spec := ⟨[], fun ds os => match ds, os with
  | [.p (.agg [.d (.fz true) (.i .i64) _i, .d (.fz false) (.l (.l (.p .s (.p (.l (.p (.i .i64) (.p (.i .i64) .u))) .u)))) ch, .d (.fz false) (.l .s) nm, .d (.fz false) (.l (.l (.i .i64))) ho]), .p (.one (.d (.fz false) (.l .b) set)), .p (.one (.d (.fz false) (.l (.i .i64)) pk))], [] =>
    .br (comeG ch nm ho set pk) (.leaf [.one (.rw ⟨1, 0⟩), .one (.rw ⟨1, 1⟩)] [] [roB (mayP ch set pk), roB (sureP ch set pk)]) .fail
  | _, _ => .fail⟩
noncomputable def C20 : Ctx := ctxOf C0 [(17, picksS), (33, pickS), (20, comeS)]
def h17r : Hn := ⟨fun | 3 => [1, 3, 4] | _ => [], fun _ => [], fun _ => false⟩
def h33r : Hn := ⟨fun | 3 => [1, 2, 5, 6] | _ => [], fun | 3 => [⟨5, none, 3, .z⟩] | _ => [], fun _ => false⟩
def h20r : Hn := ⟨fun | 4 => [1, 2, 3, 8, 9, 10] | 7 => [1, 2, 3, 8, 9, 10, 11] | 11 => [1, 2, 3, 8, 9, 10, 11, 12, 13] | 18 => [1, 2, 3, 8, 9, 14, 15] | 21 => [1, 2, 3, 8, 9, 14, 15, 16] | 25 => [1, 2, 3, 8, 9, 14, 15, 16, 17, 18] | _ => [], fun _ => [], fun _ => false⟩
def h18r : Hn := ⟨fun | 5 => [1, 2, 8, 9, 10, 11, 12, 13] | 10 => [1, 2, 8, 9, 10, 11, 12, 14] | 14 => [1, 2, 8, 9, 10, 11, 12, 14, 15, 16, 17] | _ => [], fun _ => [], fun _ => false⟩
def h21r : Hn := ⟨fun | 4 => [0, 1, 5] | 9 => [0, 1, 5, 6] | _ => [], fun _ => [], fun _ => false⟩
def dII (v : List (List Int)) : D := one (.d (.fz false) (.l (.l (.i .i64))) v)
end Go.S22
