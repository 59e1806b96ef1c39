/-
  Seat 22: what May, Sure, MustMay, MustSure come to: contexts.
-/
import Derived.Test.YtjkojhpmiijgfaaDoorS22F
open Go Go.En
namespace Go.S22
noncomputable def l19 : List (Nat × En.Spec) := [(22, checkRS), (23, wideS), (28, allS), (27, eqBS), (30, conCS)]
noncomputable def C19 : Ctx := ctxOf C0 l19
def h11r : Hn := ⟨fun _ => [], fun | 1000000 => [⟨4, none, 4, .z⟩, ⟨5, none, 3, .z⟩] | _ => [], fun _ => false⟩
def h12r : Hn := ⟨fun | 5 => [1, 2, 8] | _ => [], fun | 1000000 => [⟨4, none, 4, .z⟩, ⟨5, none, 3, .z⟩] | _ => [], fun _ => false⟩
def h13r : Hn := ⟨fun _ => [], fun | 1000000 => [⟨4, none, 4, .z⟩] | _ => [], fun _ => false⟩
def h14r : Hn := ⟨fun | 7 => [1, 2, 8, 27, 28, 29] | 12 => [1, 2, 8, 11] | 15 => [1, 2, 8, 11, 42, 43, 44] | 21 => [8, 71, 72] | _ => [], fun | 1000000 => [⟨4, none, 4, .z⟩] | _ => [], fun _ => false⟩
end Go.S22
