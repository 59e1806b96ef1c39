/-
  Seat 02 (plays): functional forms of the document's Find and of alive.
-/
import Derived.Test.YtbdicebddicbkaaDoorS42E
open Go Go.En Go.S2
namespace Go.S2
noncomputable def l4 : List (Nat × En.Spec) := (8, putS) :: (9, numS) :: l3
noncomputable def C4 : Ctx := ctxOf C0 l4
def dL (l : List (List Int)) : D := one (.d (.fz false) (.l (.l (.i .i32))) l)
def h6 : Hn := ⟨fun | 2 => [0, 1, 5] | _ => [], fun _ => [], fun _ => false⟩

abbrev f6h : Hn := h6
noncomputable abbrev f6f : Func := fn 6
abbrev f6G0 := (List (List Int)) → (List Int) → Int → Option Lf
noncomputable def f6H0 (x0_0 : List (List Int)) (x0_1 : List Int) (x0_2 : Int) : St := (St.mk [(D.p (Pt.one (L.d (Pv.fz false) (Sh.l (Sh.l (Sh.i IntKind.i32))) x0_0))), (D.p (Pt.one (L.d (Pv.fz false) (Sh.l (Sh.i IntKind.i32)) x0_1))), dead, dead, dead, (D.p (Pt.one (L.d (Pv.fz true) (Sh.i IntKind.i64) x0_2))), dead, dead, dead, dead, dead, dead, dead, dead, dead, dead, dead, dead, dead] [[], []])
noncomputable def f6W0 (G : St → Option Lf) : f6G0 := fun x0_0 x0_1 x0_2 => G (f6H0 x0_0 x0_1 x0_2)
noncomputable def f6S0  (g0 : f6G0) (x0_0 : List (List Int)) (x0_1 : List Int) (x0_2 : Int) : Option Lf :=
 bif decide (x0_2 < zn x0_0.length) then
  bif inb x0_2 x0_0.length then
   bif big (x0_0.getD x0_2.toNat []) && big x0_1 then
    bif same (x0_0.getD x0_2.toNat []) x0_1 then
     some (Lf.mk [(Pt.one (L.d (Pv.fz true) (Sh.i IntKind.i64) (x0_2 : Int)))] [] [])
    else
     g0 (x0_0 : List (List Int)) (x0_1 : List Int) (IntKind.i64.wrap (x0_2 + 1) : Int)
   else
    none
  else
   none
 else
  some (Lf.mk [(Pt.one (L.d (Pv.fz true) (Sh.i IntKind.i64) (-1 : Int)))] [] [])
noncomputable def f6L0 (n : Nat)  : Nat → f6G0
  | 0 => fun _ _ _ => none
  | m + 1 => fun x0_0 x0_1 x0_2 => f6S0   (f6L0 n  m) x0_0 x0_1 x0_2
theorem f6S0_ev (n : Nat)  (G : St → Option Lf) (x0_0 : List (List Int)) (x0_1 : List Int) (x0_2 : Int) : rnd C4 f6h n Lf (codeOf f6f) [1, 0, 1, 0] [] (endK C4 f6h f6f) G (f6H0 x0_0 x0_1 x0_2) = f6S0   (f6W0 G) x0_0 x0_1 x0_2 := by kernel_rfl
theorem f6W0_ev (n : Nat)  : ∀ m, (f6W0 (lp C4 f6h n Lf (codeOf f6f) [1, 0, 1, 0] [] (endK C4 f6h f6f) m)) = f6L0 n  m := by
  intro m
  induction m with
  | zero => funext x0_0 x0_1 x0_2; exact lp_zero _
  | succ m ih =>
    funext x0_0 x0_1 x0_2
    show lp C4 f6h n Lf (codeOf f6f) [1, 0, 1, 0] [] (endK C4 f6h f6f) (m + 1) (f6H0 x0_0 x0_1 x0_2) = f6S0   (f6L0 n  m) x0_0 x0_1 x0_2
    rw [lp_succ, f6S0_ev, ih]
noncomputable def f6T (l0 : f6G0) (l : List (List Int)) (v : List Int) : Option Lf :=
 l0 (l : List (List Int)) (v : List Int) (0 : Int)
noncomputable def f6M (n : Nat) (l : List (List Int)) (v : List Int) : Option Lf := f6T (f6L0 n n) l v
theorem f6T_ev (n : Nat) (l : List (List Int)) (v : List Int) : evF C4 f6h n f6f [(D.p (Pt.one (L.d (Pv.fz false) (Sh.l (Sh.l (Sh.i IntKind.i32))) l))), (D.p (Pt.one (L.d (Pv.fz false) (Sh.l (Sh.i IntKind.i32)) v)))] [] = f6T (f6W0 (lp C4 f6h n Lf (codeOf f6f) [1, 0, 1, 0] [] (endK C4 f6h f6f) n)) l v := by kernel_rfl
theorem f6_ev (n : Nat) (l : List (List Int)) (v : List Int) : evF C4 f6h n f6f [(D.p (Pt.one (L.d (Pv.fz false) (Sh.l (Sh.l (Sh.i IntKind.i32))) l))), (D.p (Pt.one (L.d (Pv.fz false) (Sh.l (Sh.i IntKind.i32)) v)))] [] = f6M n l v := by
  rw [f6T_ev, f6W0_ev]
  rfl

abbrev f4h : Hn := hn0
noncomputable abbrev f4f : Func := fn 4
noncomputable def f4T   : Option Lf :=
 bif okT [] (firstOf []) [] && big [1, 2] then
  bif putB [] [1, 2] then
   bif okT [[1, 2]] (firstOf [[1, 2]]) (nextOf [[1, 2]]) && big [2, 1] then
    bif putB [[1, 2]] [2, 1] then
     bif okT [[1, 2], [2, 1]] (firstOf [[1, 2], [2, 1]]) (nextOf [[1, 2], [2, 1]]) && big [1, 2] then
      bif putB [[1, 2], [2, 1]] [1, 2] then
       some (Lf.mk [(Pt.one (L.d (Pv.fz true) Sh.b (Er.nil.isNil && false : Bool)))] [] [])
      else
       some (Lf.mk [(Pt.one (L.d (Pv.fz true) Sh.b (Er.nil.isNil && true : Bool)))] [] [])
     else
      none
    else
     bif okT [[1, 2]] (firstOf [[1, 2]]) (nextOf [[1, 2]]) && big [1, 2] then
      bif putB [[1, 2]] [1, 2] then
       some (Lf.mk [(Pt.one (L.d (Pv.fz true) Sh.b (Er.nil.isNil && false : Bool)))] [] [])
      else
       some (Lf.mk [(Pt.one (L.d (Pv.fz true) Sh.b (Er.nil.isNil && false : Bool)))] [] [])
     else
      none
   else
    none
  else
   bif okT [] (firstOf []) (nextOf []) && big [2, 1] then
    bif putB [] [2, 1] then
     bif okT [[2, 1]] (firstOf [[2, 1]]) (nextOf [[2, 1]]) && big [1, 2] then
      bif putB [[2, 1]] [1, 2] then
       some (Lf.mk [(Pt.one (L.d (Pv.fz true) Sh.b ((putE [1, 2]).isNil && false : Bool)))] [] [])
      else
       some (Lf.mk [(Pt.one (L.d (Pv.fz true) Sh.b ((putE [1, 2]).isNil && false : Bool)))] [] [])
     else
      none
    else
     bif okT [] (firstOf []) (nextOf []) && big [1, 2] then
      bif putB [] [1, 2] then
       some (Lf.mk [(Pt.one (L.d (Pv.fz true) Sh.b ((putE [1, 2]).isNil && false : Bool)))] [] [])
      else
       some (Lf.mk [(Pt.one (L.d (Pv.fz true) Sh.b ((putE [1, 2]).isNil && false : Bool)))] [] [])
     else
      none
   else
    none
 else
  none
noncomputable def f4M (_ : Nat)  : Option Lf := f4T  
theorem f4T_ev (n : Nat)  : evF C4 f4h n f4f [] [] = f4T   := by kernel_rfl
theorem f4_ev (n : Nat)  : evF C4 f4h n f4f [] [] = f4M n  := by
  rw [f4T_ev]
  rfl
end Go.S2
