/-
  Seat 01: functional forms of Of and Ints.
-/
import Derived.Test.YtjmpbpggbkkhpaaDoorS01D
open Go Go.En Go.S1
namespace Go.S1
noncomputable def l4 : List (Nat × En.Spec) := (10, addS) :: (28, delS) :: (11, itemsS) :: l3
noncomputable def C4 : Ctx := ctxOf C0 l4
def h17 : Hn := ⟨fun | 5 => [0, 6, 18, 19, 20] | _ => [], fun _ => [], fun r => r.beq 1⟩
def h19 : Hn := ⟨fun | 4 => [0, 1, 5] | _ => [], fun _ => [], fun _ => false⟩

abbrev f17h : Hn := h17
noncomputable abbrev f17f : Func := fn 17
abbrev f17G0 := Int → (List Int) → Int → Int → Int → (List Int) → Option Lf
noncomputable def f17H0 (x0_0 : Int) (x0_1 : List Int) (x0_2 : Int) (x0_3 : Int) (x0_4 : Int) (x0_5 : List Int) : St := (St.mk [(D.p (Pt.one (L.d (Pv.fz true) (Sh.i IntKind.i64) x0_0))), dead, dead, dead, dead, dead, (D.p (Pt.one (L.pv (Id.mk 1 0) 0))), dead, dead, dead, dead, dead, dead, dead, dead, dead, dead, dead, (D.p (Pt.one (L.d (Pv.fz false) (Sh.l (Sh.i IntKind.i64)) x0_1))), (D.p (Pt.one (L.d (Pv.fz true) (Sh.i IntKind.i64) x0_2))), (D.p (Pt.one (L.d (Pv.fz true) (Sh.i IntKind.i64) x0_3))), dead, dead, dead, dead, dead, dead, dead, dead, dead, dead, dead, dead, dead, dead, dead, dead] [[], [(Ob.va [(L.d (Pv.fz true) (Sh.i IntKind.i64) x0_4), (L.rw (Id.mk 1 1))]), (Ob.ro true 0 60 (Sh.i IntKind.u64) Ow.z x0_5 Option.none)]])
noncomputable def f17W0 (G : St → Option Lf) : f17G0 := fun x0_0 x0_1 x0_2 x0_3 x0_4 x0_5 => G (f17H0 x0_0 x0_1 x0_2 x0_3 x0_4 x0_5)
noncomputable def f17S0  (g0 : f17G0) (x0_0 : Int) (x0_1 : List Int) (x0_2 : Int) (x0_3 : Int) (x0_4 : Int) (x0_5 : List Int) : Option Lf :=
 bif decide (x0_3 < x0_2) then
  bif inb x0_3 x0_1.length then
   bif decide (x0_1.getD x0_3.toNat 0 < 0) || decide (x0_1.getD x0_3.toNat 0 ≥ x0_0) then
    some (Lf.mk [(Pt.one L.np), (Pt.one (L.d (Pv.fz true) Sh.e (Er.no 1 : Er)))] [] [])
   else
    bif okS x0_4 x0_5 then
     g0 (x0_0 : Int) (x0_1 : List Int) (x0_2 : Int) (IntKind.i64.wrap (x0_3 + 1) : Int) (x0_4 : Int) (addW x0_4 x0_5 (x0_1.getD x0_3.toNat 0) : List Int)
    else
     none
  else
   none
 else
  some (Lf.mk [(Pt.one (L.pv (Id.mk 1 0) 0)), (Pt.one (L.d (Pv.fz true) Sh.e (Er.nil : Er)))] [] [(Ob.va [(L.d (Pv.fz true) (Sh.i IntKind.i64) (x0_4 : Int)), (L.rw (Id.mk 1 1))]), (Ob.ro true 0 60 (Sh.i IntKind.u64) Ow.z (x0_5 : List Int) Option.none)])
noncomputable def f17L0 (n : Nat)  : Nat → f17G0
  | 0 => fun _ _ _ _ _ _ => none
  | m + 1 => fun x0_0 x0_1 x0_2 x0_3 x0_4 x0_5 => f17S0   (f17L0 n  m) x0_0 x0_1 x0_2 x0_3 x0_4 x0_5
theorem f17S0_ev (n : Nat)  (G : St → Option Lf) (x0_0 : Int) (x0_1 : List Int) (x0_2 : Int) (x0_3 : Int) (x0_4 : Int) (x0_5 : List Int) : rnd C4 f17h n Lf (codeOf f17f) [1, 1, 1, 0, 1, 0] [] (endK C4 f17h f17f) G (f17H0 x0_0 x0_1 x0_2 x0_3 x0_4 x0_5) = f17S0   (f17W0 G) x0_0 x0_1 x0_2 x0_3 x0_4 x0_5 := by kernel_rfl
theorem f17W0_ev (n : Nat)  : ∀ m, (f17W0 (lp C4 f17h n Lf (codeOf f17f) [1, 1, 1, 0, 1, 0] [] (endK C4 f17h f17f) m)) = f17L0 n  m := by
  intro m
  induction m with
  | zero => funext x0_0 x0_1 x0_2 x0_3 x0_4 x0_5; exact lp_zero _
  | succ m ih =>
    funext x0_0 x0_1 x0_2 x0_3 x0_4 x0_5
    show lp C4 f17h n Lf (codeOf f17f) [1, 1, 1, 0, 1, 0] [] (endK C4 f17h f17f) (m + 1) (f17H0 x0_0 x0_1 x0_2 x0_3 x0_4 x0_5) = f17S0   (f17L0 n  m) x0_0 x0_1 x0_2 x0_3 x0_4 x0_5
    rw [lp_succ, f17S0_ev, ih]
noncomputable def f17T (l0 : f17G0) (z : Int) (l : List Int) : Option Lf :=
 bif decide (z < 0) || decide (z > 4096) then
  some (Lf.mk [(Pt.one L.np), (Pt.one (L.d (Pv.fz true) Sh.e (Er.no 1 : Er)))] [] [])
 else
  l0 (z : Int) (l : List Int) (zn l.length : Int) (0 : Int) (z : Int) (List.replicate ((z.toNat + 63) / 64) 0 : List Int)
noncomputable def f17M (n : Nat) (z : Int) (l : List Int) : Option Lf := f17T (f17L0 n n) z l
theorem f17T_ev (n : Nat) (z : Int) (l : List Int) : evF C4 f17h n f17f [(D.p (Pt.one (L.d (Pv.fz true) (Sh.i IntKind.i64) z))), (D.p (Pt.one (L.d (Pv.fz false) (Sh.l (Sh.i IntKind.i64)) l)))] [] = f17T (f17W0 (lp C4 f17h n Lf (codeOf f17f) [1, 1, 1, 0, 1, 0] [] (endK C4 f17h f17f) n)) z l := by kernel_rfl
theorem f17_ev (n : Nat) (z : Int) (l : List Int) : evF C4 f17h n f17f [(D.p (Pt.one (L.d (Pv.fz true) (Sh.i IntKind.i64) z))), (D.p (Pt.one (L.d (Pv.fz false) (Sh.l (Sh.i IntKind.i64)) l)))] [] = f17M n z l := by
  rw [f17T_ev, f17W0_ev]
  rfl

abbrev f19h : Hn := h19
noncomputable abbrev f19f : Func := fn 19
abbrev f19G0 := (List Int) → (List Int) → Int → Option Lf
noncomputable def f19H0 (x0_0 : List Int) (x0_1 : List Int) (x0_2 : Int) : St := (St.mk [(D.p (Pt.one (L.d (Pv.fz false) (Sh.l (Sh.i IntKind.i64)) x0_0))), (D.p (Pt.one (L.d (Pv.fz false) (Sh.l (Sh.i IntKind.i64)) x0_1))), dead, dead, dead, (D.p (Pt.one (L.d (Pv.fz true) (Sh.i IntKind.i64) x0_2))), dead, dead, dead, dead, dead, dead, dead, dead, dead, dead, dead, dead, dead, dead, dead, dead, dead, dead, dead, dead] [[], []])
noncomputable def f19W0 (G : St → Option Lf) : f19G0 := fun x0_0 x0_1 x0_2 => G (f19H0 x0_0 x0_1 x0_2)
noncomputable def f19S0  (g0 : f19G0) (x0_0 : List Int) (x0_1 : List Int) (x0_2 : Int) : Option Lf :=
 bif decide (x0_2 < zn x0_0.length) then
  bif inb x0_2 x0_0.length then
   bif inb x0_2 x0_1.length then
    bif x0_0.getD x0_2.toNat 0 != x0_1.getD x0_2.toNat 0 then
     some (Lf.mk [(Pt.one (L.d (Pv.fz true) Sh.b (false : Bool)))] [] [])
    else
     g0 (x0_0 : List Int) (x0_1 : List Int) (IntKind.i64.wrap (x0_2 + 1) : Int)
   else
    none
  else
   none
 else
  some (Lf.mk [(Pt.one (L.d (Pv.fz true) Sh.b (true : Bool)))] [] [])
noncomputable def f19L0 (n : Nat)  : Nat → f19G0
  | 0 => fun _ _ _ => none
  | m + 1 => fun x0_0 x0_1 x0_2 => f19S0   (f19L0 n  m) x0_0 x0_1 x0_2
theorem f19S0_ev (n : Nat)  (G : St → Option Lf) (x0_0 : List Int) (x0_1 : List Int) (x0_2 : Int) : rnd C4 f19h n Lf (codeOf f19f) [1, 1, 0, 1, 0] [] (endK C4 f19h f19f) G (f19H0 x0_0 x0_1 x0_2) = f19S0   (f19W0 G) x0_0 x0_1 x0_2 := by kernel_rfl
theorem f19W0_ev (n : Nat)  : ∀ m, (f19W0 (lp C4 f19h n Lf (codeOf f19f) [1, 1, 0, 1, 0] [] (endK C4 f19h f19f) m)) = f19L0 n  m := by
  intro m
  induction m with
  | zero => funext x0_0 x0_1 x0_2; exact lp_zero _
  | succ m ih =>
    funext x0_0 x0_1 x0_2
    show lp C4 f19h n Lf (codeOf f19f) [1, 1, 0, 1, 0] [] (endK C4 f19h f19f) (m + 1) (f19H0 x0_0 x0_1 x0_2) = f19S0   (f19L0 n  m) x0_0 x0_1 x0_2
    rw [lp_succ, f19S0_ev, ih]
noncomputable def f19T (l0 : f19G0) (a : List Int) (b : List Int) : Option Lf :=
 bif zn a.length != zn b.length then
  some (Lf.mk [(Pt.one (L.d (Pv.fz true) Sh.b (false : Bool)))] [] [])
 else
  l0 (a : List Int) (b : List Int) (0 : Int)
noncomputable def f19M (n : Nat) (a : List Int) (b : List Int) : Option Lf := f19T (f19L0 n n) a b
theorem f19T_ev (n : Nat) (a : List Int) (b : List Int) : evF C4 f19h n f19f [(D.p (Pt.one (L.d (Pv.fz false) (Sh.l (Sh.i IntKind.i64)) a))), (D.p (Pt.one (L.d (Pv.fz false) (Sh.l (Sh.i IntKind.i64)) b)))] [] = f19T (f19W0 (lp C4 f19h n Lf (codeOf f19f) [1, 1, 0, 1, 0] [] (endK C4 f19h f19f) n)) a b := by kernel_rfl
theorem f19_ev (n : Nat) (a : List Int) (b : List Int) : evF C4 f19h n f19f [(D.p (Pt.one (L.d (Pv.fz false) (Sh.l (Sh.i IntKind.i64)) a))), (D.p (Pt.one (L.d (Pv.fz false) (Sh.l (Sh.i IntKind.i64)) b)))] [] = f19M n a b := by
  rw [f19T_ev, f19W0_ev]
  rfl
end Go.S1
