/-
  Seat 22: contexts of alive and of the laws.
-/
import Derived.Test.YtjkojhpmiijgfaaDoorS22L
open Go Go.En
namespace Go.S22
noncomputable def l21 : List (Nat × En.Spec) := (9, farMS) :: (10, ofMS) :: (11, mayS) :: (12, sureS) :: (13, mustMayS) :: (14, mustSureS) :: (15, rightMS) :: (16, numS) :: (17, picksS) :: (18, all4S) :: (19, eqBS) :: (20, comeS) :: (21, sameIIS) :: []
noncomputable def C21 : Ctx := ctxOf C0 l21
def aliveS : En.Spec := ⟨[], fun ds os => match ds, os with
  | [], [] => .leaf [pB true] [] []
  | _, _ => .fail⟩
noncomputable def l22 : List (Nat × En.Spec) := (8, aliveS) :: l21
noncomputable def C22 : Ctx := ctxOf C0 l22
def h4r : Hn := ⟨fun | 11 => [1, 2, 6, 7, 9, 10, 12] | 18 => [1, 6, 9, 13, 16, 17] | _ => [], fun _ => [], fun _ => false⟩
def h5r : Hn := ⟨fun | 8 => [1, 2, 7, 8, 9] | 11 => [1, 2, 7, 8, 9, 10] | 24 => [1, 11, 14, 17, 19, 29] | _ => [], fun | 8 => [⟨8, none, 0, .z⟩] | 11 => [⟨8, none, 0, .z⟩] | _ => [], fun _ => false⟩
def h6r : Hn := ⟨fun | 19 => [1, 3, 9, 12, 13, 15, 17, 19, 22, 25, 27, 29] | 25 => [1, 3, 9, 12, 13, 15, 17, 19, 22, 25, 27, 29, 30, 31] | 28 => [1, 3, 9, 12, 13, 15, 17, 19, 22, 25, 27, 29, 30, 31, 32] | 34 => [1, 3, 9, 12, 13, 15, 17, 19, 22, 25, 27, 29, 33] | _ => [], fun _ => [], fun _ => false⟩
def h7r : Hn := ⟨fun | 8 => [1, 2, 3, 7, 8, 9] | 19 => [1, 10, 11, 12, 15, 18, 20, 22] | _ => [], fun _ => [], fun _ => false⟩
end Go.S22
