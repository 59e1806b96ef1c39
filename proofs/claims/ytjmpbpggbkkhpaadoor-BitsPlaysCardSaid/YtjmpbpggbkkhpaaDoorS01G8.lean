/-
  Seat 01: functional forms of Join and has.
-/
import Derived.Test.YtjmpbpggbkkhpaaDoorS01K
open Go Go.En Go.S1
namespace Go.S1
noncomputable def l8 : List (Nat × En.Spec) := [(34, turnS)]
noncomputable def C8 : Ctx := ctxOf C0 l8
def h14 : Hn := ⟨fun | 2 => [0, 1, 5] | _ => [], fun _ => [], fun _ => false⟩

abbrev f13jh : Hn := hn0
noncomputable abbrev f13jf : Func := fn 13
noncomputable def f13jT  (z : Int) (m : Int) (ws : List Int) (vs : List Int) : Option Lf :=
 bif okS z ws then
  some (Lf.mk [(Pt.one (L.d (Pv.fz true) Sh.b (turnB BinOp.or z ws vs : Bool)))] [(Ob.va [(L.d (Pv.fz true) (Sh.i IntKind.i64) (z : Int)), (L.rw (Id.mk 0 2))]), (Ob.va [(L.d (Pv.fz true) (Sh.i IntKind.i64) (m : Int)), (L.rw (Id.mk 0 3))]), (Ob.ro true 0 60 (Sh.i IntKind.u64) Ow.z (turnW BinOp.or z ws vs : List Int) Option.none), (Ob.ro true 0 60 (Sh.i IntKind.u64) Ow.z (vs : List Int) Option.none)] [])
 else
  none
noncomputable def f13jM (_ : Nat) (z : Int) (m : Int) (ws : List Int) (vs : List Int) : Option Lf := f13jT  z m ws vs
theorem f13jT_ev (n : Nat) (z : Int) (m : Int) (ws : List Int) (vs : List Int) : evF C8 f13jh n f13jf [(D.p (Pt.one (L.pv (Id.mk 0 0) 0))), (D.p (Pt.one (L.pv (Id.mk 0 1) 0)))] [(Ob.va [(L.d (Pv.fz true) (Sh.i IntKind.i64) z), (L.rw (Id.mk 0 2))]), (Ob.va [(L.d (Pv.fz true) (Sh.i IntKind.i64) m), (L.rw (Id.mk 0 3))]), (Ob.ro true 0 60 (Sh.i IntKind.u64) Ow.z ws Option.none), (Ob.ro true 0 60 (Sh.i IntKind.u64) Ow.z vs Option.none)] = f13jT  z m ws vs := by kernel_rfl
theorem f13j_ev (n : Nat) (z : Int) (m : Int) (ws : List Int) (vs : List Int) : evF C8 f13jh n f13jf [(D.p (Pt.one (L.pv (Id.mk 0 0) 0))), (D.p (Pt.one (L.pv (Id.mk 0 1) 0)))] [(Ob.va [(L.d (Pv.fz true) (Sh.i IntKind.i64) z), (L.rw (Id.mk 0 2))]), (Ob.va [(L.d (Pv.fz true) (Sh.i IntKind.i64) m), (L.rw (Id.mk 0 3))]), (Ob.ro true 0 60 (Sh.i IntKind.u64) Ow.z ws Option.none), (Ob.ro true 0 60 (Sh.i IntKind.u64) Ow.z vs Option.none)] = f13jM n z m ws vs := by
  rw [f13jT_ev]
  rfl

abbrev f13kh : Hn := hn0
noncomputable abbrev f13kf : Func := fn 13
noncomputable def f13kT   : Option Lf :=
 some (Lf.mk [(Pt.one (L.d (Pv.fz true) Sh.b (false : Bool)))] [] [])
noncomputable def f13kM (_ : Nat)  : Option Lf := f13kT  
theorem f13kT_ev (n : Nat)  : evF C8 f13kh n f13kf [(D.p (Pt.one L.np)), (D.p (Pt.one L.np))] [] = f13kT   := by kernel_rfl
theorem f13k_ev (n : Nat)  : evF C8 f13kh n f13kf [(D.p (Pt.one L.np)), (D.p (Pt.one L.np))] [] = f13kM n  := by
  rw [f13kT_ev]
  rfl

abbrev f14h : Hn := h14
noncomputable abbrev f14f : Func := fn 14
abbrev f14G0 := (List Int) → Int → Int → Option Lf
noncomputable def f14H0 (x0_0 : List Int) (x0_1 : Int) (x0_2 : Int) : St := (St.mk [(D.p (Pt.one (L.d (Pv.fz false) (Sh.l (Sh.i IntKind.i64)) x0_0))), (D.p (Pt.one (L.d (Pv.fz true) (Sh.i IntKind.i64) x0_1))), dead, dead, dead, (D.p (Pt.one (L.d (Pv.fz true) (Sh.i IntKind.i64) x0_2))), dead, dead, dead, dead, dead, dead, dead, dead, dead, dead, dead, dead] [[], []])
noncomputable def f14W0 (G : St → Option Lf) : f14G0 := fun x0_0 x0_1 x0_2 => G (f14H0 x0_0 x0_1 x0_2)
noncomputable def f14S0  (g0 : f14G0) (x0_0 : List Int) (x0_1 : Int) (x0_2 : Int) : Option Lf :=
 bif decide (x0_2 < zn x0_0.length) then
  bif inb x0_2 x0_0.length then
   bif x0_0.getD x0_2.toNat 0 == x0_1 then
    some (Lf.mk [(Pt.one (L.d (Pv.fz true) Sh.b (true : Bool)))] [] [])
   else
    g0 (x0_0 : List Int) (x0_1 : Int) (IntKind.i64.wrap (x0_2 + 1) : Int)
  else
   none
 else
  some (Lf.mk [(Pt.one (L.d (Pv.fz true) Sh.b (false : Bool)))] [] [])
noncomputable def f14L0 (n : Nat)  : Nat → f14G0
  | 0 => fun _ _ _ => none
  | m + 1 => fun x0_0 x0_1 x0_2 => f14S0   (f14L0 n  m) x0_0 x0_1 x0_2
theorem f14S0_ev (n : Nat)  (G : St → Option Lf) (x0_0 : List Int) (x0_1 : Int) (x0_2 : Int) : rnd C1 f14h n Lf (codeOf f14f) [1, 0, 1, 0] [] (endK C1 f14h f14f) G (f14H0 x0_0 x0_1 x0_2) = f14S0   (f14W0 G) x0_0 x0_1 x0_2 := by kernel_rfl
theorem f14W0_ev (n : Nat)  : ∀ m, (f14W0 (lp C1 f14h n Lf (codeOf f14f) [1, 0, 1, 0] [] (endK C1 f14h f14f) m)) = f14L0 n  m := by
  intro m
  induction m with
  | zero => funext x0_0 x0_1 x0_2; exact lp_zero _
  | succ m ih =>
    funext x0_0 x0_1 x0_2
    show lp C1 f14h n Lf (codeOf f14f) [1, 0, 1, 0] [] (endK C1 f14h f14f) (m + 1) (f14H0 x0_0 x0_1 x0_2) = f14S0   (f14L0 n  m) x0_0 x0_1 x0_2
    rw [lp_succ, f14S0_ev, ih]
noncomputable def f14T (l0 : f14G0) (l : List Int) (i : Int) : Option Lf :=
 l0 (l : List Int) (i : Int) (0 : Int)
noncomputable def f14M (n : Nat) (l : List Int) (i : Int) : Option Lf := f14T (f14L0 n n) l i
theorem f14T_ev (n : Nat) (l : List Int) (i : Int) : evF C1 f14h n f14f [(D.p (Pt.one (L.d (Pv.fz false) (Sh.l (Sh.i IntKind.i64)) l))), (D.p (Pt.one (L.d (Pv.fz true) (Sh.i IntKind.i64) i)))] [] = f14T (f14W0 (lp C1 f14h n Lf (codeOf f14f) [1, 0, 1, 0] [] (endK C1 f14h f14f) n)) l i := by kernel_rfl
theorem f14_ev (n : Nat) (l : List Int) (i : Int) : evF C1 f14h n f14f [(D.p (Pt.one (L.d (Pv.fz false) (Sh.l (Sh.i IntKind.i64)) l))), (D.p (Pt.one (L.d (Pv.fz true) (Sh.i IntKind.i64) i)))] [] = f14M n l i := by
  rw [f14T_ev, f14W0_ev]
  rfl
end Go.S1
