/-
  Seat 11: what its other functions come to: specs.
-/
import Derived.Test.YtoghhokbakphlaaDoorS11V
import Derived.Lib.SlicesCompact
open Go Go.En
namespace Go.S11
def roI (v : List Int) : Ob := .ro true 0 3 (.i .i64) .z v none
/-- where a process's states lead: Support -/
def supV (mv : List MvV) : List Int := Go.Lib.compact (sortI (mv.map fun v => v.1))
def supS : En.Spec := ⟨[], fun ds os => match ds, os with
  | [.p (.agg [.d (.fz true) .s _a, .d (.fz false) (.l (.p (.i .i64) (.p (.i .i64) .u))) mv])], [] =>
    .br (m6 mv.length) (.leaf [.one (.rw ⟨1, 0⟩)] [] [roI (supV mv)]) .fail
  | _, _ => .fail⟩
def hasTo (mv : List MvV) (t : Int) : Bool := mv.any fun v => v.1 == t
def hasTS : En.Spec := ⟨[], fun ds os => match ds, os with
  | [.p (.agg [.d (.fz true) .s _a, .d (.fz false) (.l (.p (.i .i64) (.p (.i .i64) .u))) mv]), .p (.one (.d (.fz true) (.i .i64) t))], [] =>
    .br (m6 mv.length) (.leaf [pB (hasTo mv t)] [] []) .fail
  | _, _ => .fail⟩
def sameI : List Int → List Int → Bool
  | [], [] => true
  | a :: l, c :: m => a == c && sameI l m
  | _, _ => false
def intsS : En.Spec := ⟨[], fun ds os => match ds, os with
  | [.p (.one (.d (.fz false) (.l (.i .i64)) a)), .p (.one (.d (.fz false) (.l (.i .i64)) b))], [] =>
    .br (big a.length) (.leaf [pB (sameI a b)] [] []) .fail
  | _, _ => .fail⟩
/-- where a text stands -/
def idxS (s : ByteArray) (l : List ByteArray) : Int := idxG (fun x => s.toList == x.toList) 0 l
def idxSS : En.Spec := ⟨[], fun ds os => match ds, os with
  | [.p (.one (.d (.fz false) (.l .s) l)), .p (.one (.d (.fz true) .s s))], [] => .br (big l.length) (.leaf [pI (idxS s l)] [] []) .fail
  | _, _ => .fail⟩
/-- a process that is small -/
def smM (ch : List (List ChV)) (nm : List ByteArray) (ho : List (List Int)) : Bool := ofMG ch nm ho
/-- what can be come to -/
def reachL (i : Int) (ch : List (List ChV)) (nm : List ByteArray) (ho : List (List Int)) : List Int := bif mdOk i ch nm ho then reachV i ch else []
def reachS : En.Spec := ⟨[], fun ds os => match ds, os with
  | [.p (.agg [.d (.fz true) (.i .i64) i, .d (.fz false) (.l (.l (.p .s (.p (.l (.p (.i .i64) (.p (.i .i64) .u))) .u)))) ch, .d (.fz false) (.l .s) nm, .d (.fz false) (.l (.l (.i .i64))) ho])], [] =>
    .br (ofMG ch nm ho) (.leaf [.one (.rw ⟨1, 0⟩)] [] [roI (reachL i ch nm ho)]) .fail
  | _, _ => .fail⟩
/-- the bits of names -/
def bitsL (nm : List ByteArray) : Nat → List ByteArray → List Int → Option (List Int)
  | _, [], bit => some bit
  | k, s :: l, bit => bif decide (idxS s nm < 0) then none else bitsL nm (k + 1) l (bit.set (idxS s nm).toNat ((2 ^ k : Nat) : Int))
def orF (bit : List Int) : Int → List Int → Int
  | a, [] => a
  | a, i :: l => orF bit (bitsF .or .i64 a (bit.getD i.toNat 0)) l
/-- the places of texts among names -/
def placesL (nm : List ByteArray) : List ByteArray → Option (List Int)
  | [] => some []
  | s :: l => bif decide (idxS s nm < 0) then none else (placesL nm l).map fun A => idxS s nm :: A
/-- the letter of a state that holds h: a bit for each place -/
def letS : Nat → List Int → List Int → Nat
  | _, [], _ => 0
  | k, a :: A, h => (bif has h a then 2 ^ k else 0) + letS (k + 1) A h
structure LetR where
  l : List Int
  e : Er
def lettersV (i : Int) (ch : List (List ChV)) (nm : List ByteArray) (ho : List (List Int)) (lb : List ByteArray) : LetR :=
  bif mdOk i ch nm ho && (decide (zn lb.length ≤ 6) && freshD [] lb) then
    match placesL nm lb with
    | some A => ⟨ho.map fun h => ((letS 0 A h : Nat) : Int), .nil⟩
    | none => ⟨[], .no 30⟩
  else ⟨[], .no 1⟩
def lettersS : En.Spec := ⟨[], fun ds os => match ds, os with
  | [.p (.agg [.d (.fz true) (.i .i64) i, .d (.fz false) (.l (.l (.p .s (.p (.l (.p (.i .i64) (.p (.i .i64) .u))) .u)))) ch, .d (.fz false) (.l .s) nm, .d (.fz false) (.l (.l (.i .i64))) ho]), .p (.one (.d (.fz false) (.l .s) lb))], [] =>
    .br (ofMG ch nm ho && m6 lb.length) (.leaf [.one (.rw ⟨1, 0⟩), pE (lettersV i ch nm ho lb).e] [] [roI (lettersV i ch nm ho lb).l]) .fail
  | _, _ => .fail⟩
def rlettersS : En.Spec := ⟨[], fun ds os => match ds, os with
  | [.p (.agg [.d (.fz true) (.i .i64) i, .d (.fz false) (.l (.l (.p .s (.p (.l (.p (.i .i64) (.p (.i .i64) .u))) .u)))) ch, .d (.fz false) (.l .s) nm, .d (.fz false) (.l (.l (.i .i64))) ho]), .p (.one (.d (.fz false) (.l .s) lb))], [] =>
    .br (ofMG ch nm ho && m6 lb.length) (.leaf [.one (.rw ⟨1, 0⟩), pI (numOf (lettersV i ch nm ho lb).e)] [] [roI (lettersV i ch nm ho lb).l]) .fail
  | _, _ => .fail⟩
def h110 : Hn := ⟨fun | 7 => [1, 3, 4, 5] | 12 => [1, 3, 4, 5, 47, 48, 49] | 15 => [1, 3, 4, 5, 47, 48, 49, 54, 55, 56] | _ => [], fun | 7 => [⟨4, none, 3, .z⟩, ⟨5, none, 3, .z⟩] | 12 => [⟨4, none, 3, .z⟩] | 15 => [⟨4, none, 3, .z⟩] | 1000000 => [⟨2, none, 3, .z⟩] | _ => [], fun _ => false⟩
def h116 : Hn := ⟨fun | 7 => [1, 3, 4, 5] | 10 => [1, 3, 4, 5, 6] | 13 => [1, 3, 4, 5, 6, 7] | 16 => [1, 3, 4, 5, 6, 7, 8] | 22 => [3, 4, 10] | _ => [], fun | 22 => [⟨3, none, 3, .z⟩] | 1000000 => [⟨2, none, 3, .z⟩] | _ => [], fun _ => false⟩
def h117 : Hn := ⟨fun | 3 => [3, 7, 8, 9] | _ => [], fun | 3 => [⟨3, none, 3, .z⟩] | 1000000 => [⟨2, none, 3, .z⟩] | _ => [], fun _ => false⟩
def h118 : Hn := ⟨fun | 2 => [1, 2, 5] | _ => [], fun _ => [], fun _ => false⟩
def h115 : Hn := ⟨fun | 4 => [0, 1, 5] | _ => [], fun _ => [], fun _ => false⟩
def h127 : Hn := ⟨fun | 2 => [0, 1, 7, 8] | _ => [], fun _ => [], fun _ => false⟩
def h112 : Hn := ⟨fun | 5 => [2, 6, 33, 34, 35] | 14 => [6, 10, 58, 59, 60] | 17 => [6, 10, 11, 58, 59, 60, 65, 66, 67] | _ => [], fun | 1000000 => [⟨4, none, 3, .z⟩] | _ => [], fun _ => false⟩
def h113 : Hn := ⟨fun | 4 => [1, 2, 6] | 7 => [1, 2, 6, 7] | 14 => [1, 2, 8, 9, 10] | 18 => [1, 2, 8, 9, 10, 11, 12] | 25 => [1, 2, 8, 9, 10, 11, 13] | 28 => [1, 2, 8, 9, 10, 11, 13, 14] | _ => [], fun | 1000000 => [⟨4, none, 3, .z⟩] | _ => [], fun _ => false⟩
def h120 : Hn := ⟨fun _ => [], fun | 1000000 => [⟨0, some 1000, 0, .z⟩] | _ => [], fun _ => false⟩
noncomputable def l11 : List (Nat × En.Spec) := [(8, rightMS), (11, checkMS), (21, sortS0 3), (22, differS), (27, idxSS), (29, cmpS 3)]
noncomputable def C11 : Ctx := ctxOf C0 l11
end Go.S11
