/-
  Seat 18: functional form of Seen.
-/
import Derived.Test.YtfkmnklnnccopaaDoorS18D
open Go Go.En Go.S18
namespace Go.S18
def idx40R : En.Spec := ⟨[0], fun ds os => match ds, os with
  | [.p (.one (.rw ⟨0, 0⟩)), .p (.one (.fn g [.b ⟨0, 1⟩]))], [.ro true 0 e (.i .i64) .z l none, .va [.d (.fz true) (.i .i64) p, .d (.fz true) (.i .i64) i, .d (.fz false) (.l (.l (.i .i64))) nx, .d (.fz false) (.l (.p (.l (.i .i64)) (.p (.l (.i .i64)) .u))) ps]] =>
    gN 3 e <| gN 37 g <| .br (big l.length && decide (0 ≤ p)) (.leaf [pI (idxG (nin (shlF .i64 1 p)) 0 l)] [roI l, vaD p i nx ps] []) .fail
  | _, _ => .fail⟩
def con26R : En.Spec := ⟨[0], fun ds os => match ds, os with
  | [.p (.one (.rw ⟨0, 0⟩)), .p (.one (.fn g [.b ⟨0, 1⟩]))], [.ro true 0 e (.i .i64) .z l none, .va [.d (.fz true) (.i .i64) p, .d (.fz true) (.i .i64) i, .d (.fz false) (.l (.l (.i .i64))) nx, .d (.fz false) (.l (.p (.l (.i .i64)) (.p (.l (.i .i64)) .u))) ps]] =>
    gN 3 e <| gN 37 g <| .br (big l.length && decide (0 ≤ p)) (.leaf [pB (l.any (nin (shlF .i64 1 p)))] [roI l, vaD p i nx ps] []) .fail
  | _, _ => .fail⟩
noncomputable def C13 : Ctx := ctxOf C0 [(40, idx40R)]
noncomputable def C14 : Ctx := ctxOf C0 [(11, checkS), (26, con26R), (36, concatS)]
def dRF : List D := [one (.rw ⟨0, 0⟩), one (.fn 37 [.b ⟨0, 1⟩])]

abbrev f40dh : Hn := h40
noncomputable abbrev f40df : Func := fn 40
abbrev f40dG0 := Int → Int → (List Int) → Int → Int → (List (List Int)) → (List (List Int × List Int × Unit)) → Option Lf
noncomputable def f40dH0 (x0_0 : Int) (x0_1 : Int) (x0_2 : List Int) (x0_3 : Int) (x0_4 : Int) (x0_5 : List (List Int)) (x0_6 : List (List Int × List Int × Unit)) : St := (St.mk [(D.p (Pt.one (L.rw (Id.mk 0 0)))), (D.p (Pt.one (L.fn 37 [(Cp.b (Id.mk 0 1))]))), dead, dead, dead, dead, dead, (D.p (Pt.one (L.d (Pv.fz true) (Sh.i IntKind.i64) x0_0))), (D.p (Pt.one (L.d (Pv.fz true) (Sh.i IntKind.i64) x0_1))), dead, dead, dead, dead, dead, dead, dead, dead, dead, dead] [[(Ob.ro true 0 3 (Sh.i IntKind.i64) Ow.z x0_2 Option.none), (Ob.va [(L.d (Pv.fz true) (Sh.i IntKind.i64) x0_3), (L.d (Pv.fz true) (Sh.i IntKind.i64) x0_4), (L.d (Pv.fz false) (Sh.l (Sh.l (Sh.i IntKind.i64))) x0_5), (L.d (Pv.fz false) (Sh.l (Sh.p (Sh.l (Sh.i IntKind.i64)) (Sh.p (Sh.l (Sh.i IntKind.i64)) Sh.u))) x0_6)])], []])
noncomputable def f40dW0 (G : St → Option Lf) : f40dG0 := fun x0_0 x0_1 x0_2 x0_3 x0_4 x0_5 x0_6 => G (f40dH0 x0_0 x0_1 x0_2 x0_3 x0_4 x0_5 x0_6)
noncomputable def f40dS0  (g0 : f40dG0) (x0_0 : Int) (x0_1 : Int) (x0_2 : List Int) (x0_3 : Int) (x0_4 : Int) (x0_5 : List (List Int)) (x0_6 : List (List Int × List Int × Unit)) : Option Lf :=
 bif decide (x0_1 < x0_0) then
  bif inb x0_1 x0_2.length then
   bif decide (0 ≤ x0_3) then
    bif nin (shlF IntKind.i64 1 x0_3) (x0_2.getD x0_1.toNat 0) then
     some (Lf.mk [(Pt.one (L.d (Pv.fz true) (Sh.i IntKind.i64) (x0_1 : Int)))] [(Ob.ro true 0 3 (Sh.i IntKind.i64) Ow.z (x0_2 : List Int) Option.none), (Ob.va [(L.d (Pv.fz true) (Sh.i IntKind.i64) (x0_3 : Int)), (L.d (Pv.fz true) (Sh.i IntKind.i64) (x0_4 : Int)), (L.d (Pv.fz false) (Sh.l (Sh.l (Sh.i IntKind.i64))) (x0_5 : List (List Int))), (L.d (Pv.fz false) (Sh.l (Sh.p (Sh.l (Sh.i IntKind.i64)) (Sh.p (Sh.l (Sh.i IntKind.i64)) Sh.u))) (x0_6 : List (List Int × List Int × Unit)))])] [])
    else
     g0 (x0_0 : Int) (IntKind.i64.wrap (x0_1 + 1) : Int) (x0_2 : List Int) (x0_3 : Int) (x0_4 : Int) (x0_5 : List (List Int)) (x0_6 : List (List Int × List Int × Unit))
   else
    none
  else
   none
 else
  some (Lf.mk [(Pt.one (L.d (Pv.fz true) (Sh.i IntKind.i64) (-1 : Int)))] [(Ob.ro true 0 3 (Sh.i IntKind.i64) Ow.z (x0_2 : List Int) Option.none), (Ob.va [(L.d (Pv.fz true) (Sh.i IntKind.i64) (x0_3 : Int)), (L.d (Pv.fz true) (Sh.i IntKind.i64) (x0_4 : Int)), (L.d (Pv.fz false) (Sh.l (Sh.l (Sh.i IntKind.i64))) (x0_5 : List (List Int))), (L.d (Pv.fz false) (Sh.l (Sh.p (Sh.l (Sh.i IntKind.i64)) (Sh.p (Sh.l (Sh.i IntKind.i64)) Sh.u))) (x0_6 : List (List Int × List Int × Unit)))])] [])
noncomputable def f40dL0 (n : Nat)  : Nat → f40dG0
  | 0 => fun _ _ _ _ _ _ _ => none
  | m + 1 => fun x0_0 x0_1 x0_2 x0_3 x0_4 x0_5 x0_6 => f40dS0   (f40dL0 n  m) x0_0 x0_1 x0_2 x0_3 x0_4 x0_5 x0_6
theorem f40dS0_ev (n : Nat)  (G : St → Option Lf) (x0_0 : Int) (x0_1 : Int) (x0_2 : List Int) (x0_3 : Int) (x0_4 : Int) (x0_5 : List (List Int)) (x0_6 : List (List Int × List Int × Unit)) : rnd C4 f40dh n Lf (codeOf f40df) [1, 0, 1, 0] [] (endK C4 f40dh f40df) G (f40dH0 x0_0 x0_1 x0_2 x0_3 x0_4 x0_5 x0_6) = f40dS0   (f40dW0 G) x0_0 x0_1 x0_2 x0_3 x0_4 x0_5 x0_6 := by kernel_rfl
theorem f40dW0_ev (n : Nat)  : ∀ m, (f40dW0 (lp C4 f40dh n Lf (codeOf f40df) [1, 0, 1, 0] [] (endK C4 f40dh f40df) m)) = f40dL0 n  m := by
  intro m
  induction m with
  | zero => funext x0_0 x0_1 x0_2 x0_3 x0_4 x0_5 x0_6; exact lp_zero _
  | succ m ih =>
    funext x0_0 x0_1 x0_2 x0_3 x0_4 x0_5 x0_6
    show lp C4 f40dh n Lf (codeOf f40df) [1, 0, 1, 0] [] (endK C4 f40dh f40df) (m + 1) (f40dH0 x0_0 x0_1 x0_2 x0_3 x0_4 x0_5 x0_6) = f40dS0   (f40dL0 n  m) x0_0 x0_1 x0_2 x0_3 x0_4 x0_5 x0_6
    rw [lp_succ, f40dS0_ev, ih]
noncomputable def f40dT (l0 : f40dG0) (l : List Int) (p : Int) (i : Int) (nx : List (List Int)) (ps : List (List Int × List Int × Unit)) : Option Lf :=
 l0 (zn l.length : Int) (0 : Int) (l : List Int) (p : Int) (i : Int) (nx : List (List Int)) (ps : List (List Int × List Int × Unit))
noncomputable def f40dM (n : Nat) (l : List Int) (p : Int) (i : Int) (nx : List (List Int)) (ps : List (List Int × List Int × Unit)) : Option Lf := f40dT (f40dL0 n n) l p i nx ps
theorem f40dT_ev (n : Nat) (l : List Int) (p : Int) (i : Int) (nx : List (List Int)) (ps : List (List Int × List Int × Unit)) : evF C4 f40dh n f40df [(D.p (Pt.one (L.rw (Id.mk 0 0)))), (D.p (Pt.one (L.fn 37 [(Cp.b (Id.mk 0 1))])))] [(Ob.ro true 0 3 (Sh.i IntKind.i64) Ow.z l Option.none), (Ob.va [(L.d (Pv.fz true) (Sh.i IntKind.i64) p), (L.d (Pv.fz true) (Sh.i IntKind.i64) i), (L.d (Pv.fz false) (Sh.l (Sh.l (Sh.i IntKind.i64))) nx), (L.d (Pv.fz false) (Sh.l (Sh.p (Sh.l (Sh.i IntKind.i64)) (Sh.p (Sh.l (Sh.i IntKind.i64)) Sh.u))) ps)])] = f40dT (f40dW0 (lp C4 f40dh n Lf (codeOf f40df) [1, 0, 1, 0] [] (endK C4 f40dh f40df) n)) l p i nx ps := by kernel_rfl
theorem f40d_ev (n : Nat) (l : List Int) (p : Int) (i : Int) (nx : List (List Int)) (ps : List (List Int × List Int × Unit)) : evF C4 f40dh n f40df [(D.p (Pt.one (L.rw (Id.mk 0 0)))), (D.p (Pt.one (L.fn 37 [(Cp.b (Id.mk 0 1))])))] [(Ob.ro true 0 3 (Sh.i IntKind.i64) Ow.z l Option.none), (Ob.va [(L.d (Pv.fz true) (Sh.i IntKind.i64) p), (L.d (Pv.fz true) (Sh.i IntKind.i64) i), (L.d (Pv.fz false) (Sh.l (Sh.l (Sh.i IntKind.i64))) nx), (L.d (Pv.fz false) (Sh.l (Sh.p (Sh.l (Sh.i IntKind.i64)) (Sh.p (Sh.l (Sh.i IntKind.i64)) Sh.u))) ps)])] = f40dM n l p i nx ps := by
  rw [f40dT_ev, f40dW0_ev]
  rfl

abbrev f26dh : Hn := hn0
noncomputable abbrev f26df : Func := fn 26
noncomputable def f26dT  (l : List Int) (p : Int) (i : Int) (nx : List (List Int)) (ps : List (List Int × List Int × Unit)) : Option Lf :=
 bif big l.length && decide (0 ≤ p) then
  some (Lf.mk [(Pt.one (L.d (Pv.fz true) Sh.b (decide (idxG (nin (shlF IntKind.i64 1 p)) 0 l ≥ 0) : Bool)))] [(Ob.ro true 0 3 (Sh.i IntKind.i64) Ow.z (l : List Int) Option.none), (Ob.va [(L.d (Pv.fz true) (Sh.i IntKind.i64) (p : Int)), (L.d (Pv.fz true) (Sh.i IntKind.i64) (i : Int)), (L.d (Pv.fz false) (Sh.l (Sh.l (Sh.i IntKind.i64))) (nx : List (List Int))), (L.d (Pv.fz false) (Sh.l (Sh.p (Sh.l (Sh.i IntKind.i64)) (Sh.p (Sh.l (Sh.i IntKind.i64)) Sh.u))) (ps : List (List Int × List Int × Unit)))])] [])
 else
  none
noncomputable def f26dM (_ : Nat) (l : List Int) (p : Int) (i : Int) (nx : List (List Int)) (ps : List (List Int × List Int × Unit)) : Option Lf := f26dT  l p i nx ps
theorem f26dT_ev (n : Nat) (l : List Int) (p : Int) (i : Int) (nx : List (List Int)) (ps : List (List Int × List Int × Unit)) : evF C13 f26dh n f26df [(D.p (Pt.one (L.rw (Id.mk 0 0)))), (D.p (Pt.one (L.fn 37 [(Cp.b (Id.mk 0 1))])))] [(Ob.ro true 0 3 (Sh.i IntKind.i64) Ow.z l Option.none), (Ob.va [(L.d (Pv.fz true) (Sh.i IntKind.i64) p), (L.d (Pv.fz true) (Sh.i IntKind.i64) i), (L.d (Pv.fz false) (Sh.l (Sh.l (Sh.i IntKind.i64))) nx), (L.d (Pv.fz false) (Sh.l (Sh.p (Sh.l (Sh.i IntKind.i64)) (Sh.p (Sh.l (Sh.i IntKind.i64)) Sh.u))) ps)])] = f26dT  l p i nx ps := by kernel_rfl
theorem f26d_ev (n : Nat) (l : List Int) (p : Int) (i : Int) (nx : List (List Int)) (ps : List (List Int × List Int × Unit)) : evF C13 f26dh n f26df [(D.p (Pt.one (L.rw (Id.mk 0 0)))), (D.p (Pt.one (L.fn 37 [(Cp.b (Id.mk 0 1))])))] [(Ob.ro true 0 3 (Sh.i IntKind.i64) Ow.z l Option.none), (Ob.va [(L.d (Pv.fz true) (Sh.i IntKind.i64) p), (L.d (Pv.fz true) (Sh.i IntKind.i64) i), (L.d (Pv.fz false) (Sh.l (Sh.l (Sh.i IntKind.i64))) nx), (L.d (Pv.fz false) (Sh.l (Sh.p (Sh.l (Sh.i IntKind.i64)) (Sh.p (Sh.l (Sh.i IntKind.i64)) Sh.u))) ps)])] = f26dM n l p i nx ps := by
  rw [f26dT_ev]
  rfl

abbrev f16rh : Hn := h16
noncomputable abbrev f16rf : Func := fn 16
abbrev f16rG0 := Int → (List Int) → Int → Int → Int → Int → (List (List Int)) → (List (List Int × List Int × Unit)) → (List Int) → (List Int) → Option Lf
noncomputable def f16rH0 (x0_0 : Int) (x0_1 : List Int) (x0_2 : Int) (x0_3 : Int) (x0_4 : Int) (x0_5 : Int) (x0_6 : List (List Int)) (x0_7 : List (List Int × List Int × Unit)) (x0_8 : List Int) (x0_9 : List Int) : St := (St.mk [dead, dead, (D.p (Pt.one (L.pv (Id.mk 1 0) 0))), (D.p (Pt.one (L.pv (Id.mk 1 1) 0))), dead, dead, dead, dead, (D.p (Pt.one (L.d (Pv.fz true) (Sh.i IntKind.i64) x0_0))), dead, dead, dead, dead, dead, dead, dead, dead, dead, dead, dead, dead, dead, dead, dead, dead, dead, dead, dead, dead, dead, dead, dead, dead, dead, dead, dead, dead, dead, dead, dead, dead, dead, dead, dead, dead, dead, dead, dead, dead, dead, dead, (D.p (Pt.one (L.d (Pv.fz false) (Sh.l (Sh.i IntKind.i64)) x0_1))), (D.p (Pt.one (L.d (Pv.fz true) (Sh.i IntKind.i64) x0_2))), (D.p (Pt.one (L.d (Pv.fz true) (Sh.i IntKind.i64) x0_3))), dead, dead, dead, dead, dead, dead, dead, dead, dead, dead, dead, dead, dead, dead, dead, dead, dead, dead, dead, dead, dead, dead, dead, dead, dead, dead, dead, dead, dead, dead, dead, dead, dead, dead, dead, dead, dead, dead, dead, dead, dead, dead, dead, dead, dead, dead, dead, dead, dead, dead, dead, dead, dead, dead, dead, dead, dead, dead, dead, dead, dead, dead, dead, dead, dead, dead, dead, dead, dead, dead, dead, dead, dead, dead, dead, dead] [[], [(Ob.va [(L.d (Pv.fz true) (Sh.i IntKind.i64) x0_4), (L.d (Pv.fz true) (Sh.i IntKind.i64) x0_5), (L.d (Pv.fz false) (Sh.l (Sh.l (Sh.i IntKind.i64))) x0_6), (L.d (Pv.fz false) (Sh.l (Sh.p (Sh.l (Sh.i IntKind.i64)) (Sh.p (Sh.l (Sh.i IntKind.i64)) Sh.u))) x0_7)]), (Ob.va [(L.d (Pv.fz false) (Sh.l (Sh.i IntKind.i64)) x0_8), (L.d (Pv.fz false) (Sh.l (Sh.i IntKind.i64)) x0_9)])]])
noncomputable def f16rW0 (G : St → Option Lf) : f16rG0 := fun x0_0 x0_1 x0_2 x0_3 x0_4 x0_5 x0_6 x0_7 x0_8 x0_9 => G (f16rH0 x0_0 x0_1 x0_2 x0_3 x0_4 x0_5 x0_6 x0_7 x0_8 x0_9)
abbrev f16rG1 := Int → Int → Int → Int → Int → (List (List Int)) → (List (List Int × List Int × Unit)) → (List Int) → (List Int) → Option Lf
noncomputable def f16rH1 (x1_0 : Int) (x1_1 : Int) (x1_2 : Int) (x1_3 : Int) (x1_4 : Int) (x1_5 : List (List Int)) (x1_6 : List (List Int × List Int × Unit)) (x1_7 : List Int) (x1_8 : List Int) : St := (St.mk [dead, dead, (D.p (Pt.one (L.pv (Id.mk 1 0) 0))), (D.p (Pt.one (L.pv (Id.mk 1 1) 0))), dead, dead, dead, dead, (D.p (Pt.one (L.d (Pv.fz true) (Sh.i IntKind.i64) x1_0))), dead, dead, dead, dead, dead, dead, dead, dead, dead, dead, dead, dead, dead, dead, dead, dead, dead, dead, dead, dead, dead, dead, dead, dead, dead, dead, dead, dead, dead, dead, dead, dead, dead, dead, dead, dead, dead, dead, dead, dead, dead, dead, dead, dead, dead, dead, dead, dead, dead, dead, dead, dead, dead, dead, dead, dead, dead, dead, dead, (D.p (Pt.one (L.d (Pv.fz true) (Sh.i IntKind.i64) x1_1))), (D.p (Pt.one (L.d (Pv.fz true) (Sh.i IntKind.i64) x1_2))), dead, dead, dead, dead, dead, dead, dead, dead, dead, dead, dead, dead, dead, dead, dead, dead, dead, dead, dead, dead, dead, dead, dead, dead, dead, dead, dead, dead, dead, dead, dead, dead, dead, dead, dead, dead, dead, dead, dead, dead, dead, dead, dead, dead, dead, dead, dead, dead, dead, dead, dead, dead, dead, dead, dead, dead, dead, dead, dead, dead] [[], [(Ob.va [(L.d (Pv.fz true) (Sh.i IntKind.i64) x1_3), (L.d (Pv.fz true) (Sh.i IntKind.i64) x1_4), (L.d (Pv.fz false) (Sh.l (Sh.l (Sh.i IntKind.i64))) x1_5), (L.d (Pv.fz false) (Sh.l (Sh.p (Sh.l (Sh.i IntKind.i64)) (Sh.p (Sh.l (Sh.i IntKind.i64)) Sh.u))) x1_6)]), (Ob.va [(L.d (Pv.fz false) (Sh.l (Sh.i IntKind.i64)) x1_7), (L.d (Pv.fz false) (Sh.l (Sh.i IntKind.i64)) x1_8)])]])
noncomputable def f16rW1 (G : St → Option Lf) : f16rG1 := fun x1_0 x1_1 x1_2 x1_3 x1_4 x1_5 x1_6 x1_7 x1_8 => G (f16rH1 x1_0 x1_1 x1_2 x1_3 x1_4 x1_5 x1_6 x1_7 x1_8)
abbrev f16rG2 := Int → Int → Int → (List Int) → Int → Int → Int → Int → (List (List Int)) → (List (List Int × List Int × Unit)) → (List Int) → (List Int) → Option Lf
noncomputable def f16rH2 (x2_0 : Int) (x2_1 : Int) (x2_2 : Int) (x2_3 : List Int) (x2_4 : Int) (x2_5 : Int) (x2_6 : Int) (x2_7 : Int) (x2_8 : List (List Int)) (x2_9 : List (List Int × List Int × Unit)) (x2_10 : List Int) (x2_11 : List Int) : St := (St.mk [dead, dead, (D.p (Pt.one (L.pv (Id.mk 1 0) 0))), (D.p (Pt.one (L.pv (Id.mk 1 1) 0))), dead, dead, dead, dead, (D.p (Pt.one (L.d (Pv.fz true) (Sh.i IntKind.i64) x2_0))), dead, dead, dead, dead, dead, dead, dead, dead, dead, dead, dead, dead, dead, dead, dead, dead, dead, dead, dead, dead, dead, dead, dead, dead, dead, dead, dead, dead, dead, dead, dead, dead, dead, dead, dead, dead, dead, dead, dead, dead, dead, dead, dead, dead, dead, dead, dead, dead, dead, dead, dead, dead, dead, dead, dead, dead, dead, dead, dead, (D.p (Pt.one (L.d (Pv.fz true) (Sh.i IntKind.i64) x2_1))), (D.p (Pt.one (L.d (Pv.fz true) (Sh.i IntKind.i64) x2_2))), dead, dead, (D.p (Pt.one (L.d (Pv.fz false) (Sh.l (Sh.i IntKind.i64)) x2_3))), (D.p (Pt.one (L.d (Pv.fz true) (Sh.i IntKind.i64) x2_4))), (D.p (Pt.one (L.d (Pv.fz true) (Sh.i IntKind.i64) x2_5))), dead, dead, dead, dead, dead, dead, dead, dead, dead, dead, dead, dead, dead, dead, dead, dead, dead, dead, dead, dead, dead, dead, dead, dead, dead, dead, dead, dead, dead, dead, dead, dead, dead, dead, dead, dead, dead, dead, dead, dead, dead, dead, dead, dead, dead, dead, dead, dead, dead, dead, dead, dead, dead, dead, dead] [[], [(Ob.va [(L.d (Pv.fz true) (Sh.i IntKind.i64) x2_6), (L.d (Pv.fz true) (Sh.i IntKind.i64) x2_7), (L.d (Pv.fz false) (Sh.l (Sh.l (Sh.i IntKind.i64))) x2_8), (L.d (Pv.fz false) (Sh.l (Sh.p (Sh.l (Sh.i IntKind.i64)) (Sh.p (Sh.l (Sh.i IntKind.i64)) Sh.u))) x2_9)]), (Ob.va [(L.d (Pv.fz false) (Sh.l (Sh.i IntKind.i64)) x2_10), (L.d (Pv.fz false) (Sh.l (Sh.i IntKind.i64)) x2_11)])]])
noncomputable def f16rW2 (G : St → Option Lf) : f16rG2 := fun x2_0 x2_1 x2_2 x2_3 x2_4 x2_5 x2_6 x2_7 x2_8 x2_9 x2_10 x2_11 => G (f16rH2 x2_0 x2_1 x2_2 x2_3 x2_4 x2_5 x2_6 x2_7 x2_8 x2_9 x2_10 x2_11)
noncomputable def f16rS2  (g1 : f16rG1) (g2 : f16rG2) (x2_0 : Int) (x2_1 : Int) (x2_2 : Int) (x2_3 : List Int) (x2_4 : Int) (x2_5 : Int) (x2_6 : Int) (x2_7 : Int) (x2_8 : List (List Int)) (x2_9 : List (List Int × List Int × Unit)) (x2_10 : List Int) (x2_11 : List Int) : Option Lf :=
 bif decide (x2_5 < x2_4) then
  bif inb x2_5 x2_3.length then
   bif inb x2_0 x2_8.length then
    bif inb (x2_3.getD x2_5.toNat 0) (x2_8.getD x2_0.toNat []).length then
     g2 ((x2_8.getD x2_0.toNat []).getD (x2_3.getD x2_5.toNat 0).toNat 0 : Int) (x2_1 : Int) (x2_2 : Int) (x2_3 : List Int) (x2_4 : Int) (IntKind.i64.wrap (x2_5 + 1) : Int) (x2_6 : Int) (x2_7 : Int) (x2_8 : List (List Int)) (x2_9 : List (List Int × List Int × Unit)) (x2_10 : List Int) (x2_11 : List Int)
    else
     none
   else
    none
  else
   none
 else
  g1 (x2_0 : Int) (x2_1 : Int) (IntKind.i64.wrap (x2_2 + 1) : Int) (x2_6 : Int) (x2_7 : Int) (x2_8 : List (List Int)) (x2_9 : List (List Int × List Int × Unit)) (x2_10 : List Int) (x2_11 : List Int)
noncomputable def f16rL2 (n : Nat) (g1 : f16rG1) : Nat → f16rG2
  | 0 => fun _ _ _ _ _ _ _ _ _ _ _ _ => none
  | m + 1 => fun x2_0 x2_1 x2_2 x2_3 x2_4 x2_5 x2_6 x2_7 x2_8 x2_9 x2_10 x2_11 => f16rS2  g1 (f16rL2 n g1 m) x2_0 x2_1 x2_2 x2_3 x2_4 x2_5 x2_6 x2_7 x2_8 x2_9 x2_10 x2_11
theorem f16rS2_ev (n : Nat) (G1 : St → Option Lf) (G : St → Option Lf) (x2_0 : Int) (x2_1 : Int) (x2_2 : Int) (x2_3 : List Int) (x2_4 : Int) (x2_5 : Int) (x2_6 : Int) (x2_7 : Int) (x2_8 : List (List Int)) (x2_9 : List (List Int × List Int × Unit)) (x2_10 : List Int) (x2_11 : List Int) : rnd C14 f16rh n Lf (codeOf f16rf) [1, 1, 1, 1, 1, 1, 0, 1, 0, 0, 1, 1, 0, 0, 1, 0] [G1] (endK C14 f16rh f16rf) G (f16rH2 x2_0 x2_1 x2_2 x2_3 x2_4 x2_5 x2_6 x2_7 x2_8 x2_9 x2_10 x2_11) = f16rS2  (f16rW1 G1) (f16rW2 G) x2_0 x2_1 x2_2 x2_3 x2_4 x2_5 x2_6 x2_7 x2_8 x2_9 x2_10 x2_11 := by kernel_rfl
theorem f16rW2_ev (n : Nat) (G1 : St → Option Lf) : ∀ m, (f16rW2 (lp C14 f16rh n Lf (codeOf f16rf) [1, 1, 1, 1, 1, 1, 0, 1, 0, 0, 1, 1, 0, 0, 1, 0] [G1] (endK C14 f16rh f16rf) m)) = f16rL2 n (f16rW1 G1) m := by
  intro m
  induction m with
  | zero => funext x2_0 x2_1 x2_2 x2_3 x2_4 x2_5 x2_6 x2_7 x2_8 x2_9 x2_10 x2_11; exact lp_zero _
  | succ m ih =>
    funext x2_0 x2_1 x2_2 x2_3 x2_4 x2_5 x2_6 x2_7 x2_8 x2_9 x2_10 x2_11
    show lp C14 f16rh n Lf (codeOf f16rf) [1, 1, 1, 1, 1, 1, 0, 1, 0, 0, 1, 1, 0, 0, 1, 0] [G1] (endK C14 f16rh f16rf) (m + 1) (f16rH2 x2_0 x2_1 x2_2 x2_3 x2_4 x2_5 x2_6 x2_7 x2_8 x2_9 x2_10 x2_11) = f16rS2  (f16rW1 G1) (f16rL2 n (f16rW1 G1) m) x2_0 x2_1 x2_2 x2_3 x2_4 x2_5 x2_6 x2_7 x2_8 x2_9 x2_10 x2_11
    rw [lp_succ, f16rS2_ev, ih]
abbrev f16rG3 := Int → Int → Bool → Int → Int → (List (List Int)) → (List (List Int × List Int × Unit)) → (List Int) → (List Int) → (List Bool) → Option Lf
noncomputable def f16rH3 (x3_0 : Int) (x3_1 : Int) (x3_2 : Bool) (x3_3 : Int) (x3_4 : Int) (x3_5 : List (List Int)) (x3_6 : List (List Int × List Int × Unit)) (x3_7 : List Int) (x3_8 : List Int) (x3_9 : List Bool) : St := (St.mk [dead, dead, (D.p (Pt.one (L.pv (Id.mk 1 0) 0))), (D.p (Pt.one (L.pv (Id.mk 1 1) 0))), dead, dead, dead, dead, (D.p (Pt.one (L.d (Pv.fz true) (Sh.i IntKind.i64) x3_0))), dead, dead, dead, dead, (D.p (Pt.one (L.d (Pv.fz true) (Sh.i IntKind.i64) x3_1))), (D.p (Pt.one (L.rw (Id.mk 1 2)))), (D.p (Pt.one (L.d (Pv.fz true) Sh.b x3_2))), dead, dead, dead, dead, dead, dead, dead, dead, dead, dead, dead, dead, dead, dead, dead, dead, dead, dead, dead, dead, dead, dead, dead, dead, dead, dead, dead, dead, dead, dead, dead, dead, dead, dead, dead, dead, dead, dead, dead, dead, dead, dead, dead, dead, dead, dead, dead, dead, dead, dead, dead, dead, dead, dead, dead, dead, dead, dead, dead, dead, dead, dead, dead, dead, dead, dead, dead, dead, dead, dead, dead, dead, dead, dead, dead, dead, dead, dead, dead, dead, dead, dead, dead, dead, dead, dead, dead, dead, dead, dead, dead, dead, dead, dead, dead, dead, dead, dead, dead, dead, dead, dead, dead, dead, dead, dead, dead, dead, dead, dead, dead, dead, dead, dead] [[], [(Ob.va [(L.d (Pv.fz true) (Sh.i IntKind.i64) x3_3), (L.d (Pv.fz true) (Sh.i IntKind.i64) x3_4), (L.d (Pv.fz false) (Sh.l (Sh.l (Sh.i IntKind.i64))) x3_5), (L.d (Pv.fz false) (Sh.l (Sh.p (Sh.l (Sh.i IntKind.i64)) (Sh.p (Sh.l (Sh.i IntKind.i64)) Sh.u))) x3_6)]), (Ob.va [(L.d (Pv.fz false) (Sh.l (Sh.i IntKind.i64)) x3_7), (L.d (Pv.fz false) (Sh.l (Sh.i IntKind.i64)) x3_8)]), (Ob.ro true 0 4 Sh.b Ow.z x3_9 Option.none)]])
noncomputable def f16rW3 (G : St → Option Lf) : f16rG3 := fun x3_0 x3_1 x3_2 x3_3 x3_4 x3_5 x3_6 x3_7 x3_8 x3_9 => G (f16rH3 x3_0 x3_1 x3_2 x3_3 x3_4 x3_5 x3_6 x3_7 x3_8 x3_9)
abbrev f16rG4 := Int → Int → (List Int) → Int → Int → Int → Int → (List (List Int)) → (List (List Int × List Int × Unit)) → (List Int) → (List Int) → (List Bool) → Option Lf
noncomputable def f16rH4 (x4_0 : Int) (x4_1 : Int) (x4_2 : List Int) (x4_3 : Int) (x4_4 : Int) (x4_5 : Int) (x4_6 : Int) (x4_7 : List (List Int)) (x4_8 : List (List Int × List Int × Unit)) (x4_9 : List Int) (x4_10 : List Int) (x4_11 : List Bool) : St := (St.mk [dead, dead, (D.p (Pt.one (L.pv (Id.mk 1 0) 0))), (D.p (Pt.one (L.pv (Id.mk 1 1) 0))), dead, dead, dead, dead, (D.p (Pt.one (L.d (Pv.fz true) (Sh.i IntKind.i64) x4_0))), dead, dead, dead, dead, (D.p (Pt.one (L.d (Pv.fz true) (Sh.i IntKind.i64) x4_1))), (D.p (Pt.one (L.rw (Id.mk 1 2)))), dead, dead, dead, dead, dead, dead, dead, dead, dead, dead, dead, dead, dead, dead, dead, dead, dead, dead, dead, dead, dead, dead, dead, dead, dead, dead, dead, dead, dead, dead, dead, dead, dead, dead, dead, dead, dead, dead, dead, dead, dead, dead, dead, dead, dead, dead, dead, dead, dead, dead, dead, dead, dead, dead, dead, dead, dead, dead, dead, dead, dead, dead, dead, dead, dead, dead, dead, dead, dead, dead, dead, dead, dead, dead, dead, dead, dead, dead, dead, dead, dead, dead, dead, (D.p (Pt.one (L.d (Pv.fz false) (Sh.l (Sh.i IntKind.i64)) x4_2))), (D.p (Pt.one (L.d (Pv.fz true) (Sh.i IntKind.i64) x4_3))), (D.p (Pt.one (L.d (Pv.fz true) (Sh.i IntKind.i64) x4_4))), dead, dead, dead, dead, dead, dead, dead, dead, dead, dead, dead, dead, dead, dead, dead, dead, dead, dead, dead, dead, dead, dead, dead, dead, dead, dead, dead, dead, dead] [[], [(Ob.va [(L.d (Pv.fz true) (Sh.i IntKind.i64) x4_5), (L.d (Pv.fz true) (Sh.i IntKind.i64) x4_6), (L.d (Pv.fz false) (Sh.l (Sh.l (Sh.i IntKind.i64))) x4_7), (L.d (Pv.fz false) (Sh.l (Sh.p (Sh.l (Sh.i IntKind.i64)) (Sh.p (Sh.l (Sh.i IntKind.i64)) Sh.u))) x4_8)]), (Ob.va [(L.d (Pv.fz false) (Sh.l (Sh.i IntKind.i64)) x4_9), (L.d (Pv.fz false) (Sh.l (Sh.i IntKind.i64)) x4_10)]), (Ob.ro true 0 4 Sh.b Ow.z x4_11 Option.none)]])
noncomputable def f16rW4 (G : St → Option Lf) : f16rG4 := fun x4_0 x4_1 x4_2 x4_3 x4_4 x4_5 x4_6 x4_7 x4_8 x4_9 x4_10 x4_11 => G (f16rH4 x4_0 x4_1 x4_2 x4_3 x4_4 x4_5 x4_6 x4_7 x4_8 x4_9 x4_10 x4_11)
noncomputable def f16rS4  (g3 : f16rG3) (g4 : f16rG4) (x4_0 : Int) (x4_1 : Int) (x4_2 : List Int) (x4_3 : Int) (x4_4 : Int) (x4_5 : Int) (x4_6 : Int) (x4_7 : List (List Int)) (x4_8 : List (List Int × List Int × Unit)) (x4_9 : List Int) (x4_10 : List Int) (x4_11 : List Bool) : Option Lf :=
 bif decide (x4_4 < x4_3) then
  bif inb x4_4 x4_2.length then
   bif inb x4_0 x4_11.length then
    bif inb x4_0 x4_7.length then
     bif inb (x4_2.getD x4_4.toNat 0) (x4_7.getD x4_0.toNat []).length then
      g4 ((x4_7.getD x4_0.toNat []).getD (x4_2.getD x4_4.toNat 0).toNat 0 : Int) (x4_1 : Int) (x4_2 : List Int) (x4_3 : Int) (IntKind.i64.wrap (x4_4 + 1) : Int) (x4_5 : Int) (x4_6 : Int) (x4_7 : List (List Int)) (x4_8 : List (List Int × List Int × Unit)) (x4_9 : List Int) (x4_10 : List Int) (x4_11.set x4_0.toNat true : List Bool)
     else
      none
    else
     none
   else
    none
  else
   none
 else
  g3 (x4_0 : Int) (x4_1 : Int) (x4_0 != x4_1 : Bool) (x4_5 : Int) (x4_6 : Int) (x4_7 : List (List Int)) (x4_8 : List (List Int × List Int × Unit)) (x4_9 : List Int) (x4_10 : List Int) (x4_11 : List Bool)
noncomputable def f16rL4 (n : Nat) (g3 : f16rG3) : Nat → f16rG4
  | 0 => fun _ _ _ _ _ _ _ _ _ _ _ _ => none
  | m + 1 => fun x4_0 x4_1 x4_2 x4_3 x4_4 x4_5 x4_6 x4_7 x4_8 x4_9 x4_10 x4_11 => f16rS4  g3 (f16rL4 n g3 m) x4_0 x4_1 x4_2 x4_3 x4_4 x4_5 x4_6 x4_7 x4_8 x4_9 x4_10 x4_11
theorem f16rS4_ev (n : Nat) (G3 : St → Option Lf) (G : St → Option Lf) (x4_0 : Int) (x4_1 : Int) (x4_2 : List Int) (x4_3 : Int) (x4_4 : Int) (x4_5 : Int) (x4_6 : Int) (x4_7 : List (List Int)) (x4_8 : List (List Int × List Int × Unit)) (x4_9 : List Int) (x4_10 : List Int) (x4_11 : List Bool) : rnd C14 f16rh n Lf (codeOf f16rf) [1, 1, 1, 1, 1, 1, 1, 1, 1, 0, 1, 0, 0, 1, 0, 0, 1, 0] [G3] (endK C14 f16rh f16rf) G (f16rH4 x4_0 x4_1 x4_2 x4_3 x4_4 x4_5 x4_6 x4_7 x4_8 x4_9 x4_10 x4_11) = f16rS4  (f16rW3 G3) (f16rW4 G) x4_0 x4_1 x4_2 x4_3 x4_4 x4_5 x4_6 x4_7 x4_8 x4_9 x4_10 x4_11 := by kernel_rfl
theorem f16rW4_ev (n : Nat) (G3 : St → Option Lf) : ∀ m, (f16rW4 (lp C14 f16rh n Lf (codeOf f16rf) [1, 1, 1, 1, 1, 1, 1, 1, 1, 0, 1, 0, 0, 1, 0, 0, 1, 0] [G3] (endK C14 f16rh f16rf) m)) = f16rL4 n (f16rW3 G3) m := by
  intro m
  induction m with
  | zero => funext x4_0 x4_1 x4_2 x4_3 x4_4 x4_5 x4_6 x4_7 x4_8 x4_9 x4_10 x4_11; exact lp_zero _
  | succ m ih =>
    funext x4_0 x4_1 x4_2 x4_3 x4_4 x4_5 x4_6 x4_7 x4_8 x4_9 x4_10 x4_11
    show lp C14 f16rh n Lf (codeOf f16rf) [1, 1, 1, 1, 1, 1, 1, 1, 1, 0, 1, 0, 0, 1, 0, 0, 1, 0] [G3] (endK C14 f16rh f16rf) (m + 1) (f16rH4 x4_0 x4_1 x4_2 x4_3 x4_4 x4_5 x4_6 x4_7 x4_8 x4_9 x4_10 x4_11) = f16rS4  (f16rW3 G3) (f16rL4 n (f16rW3 G3) m) x4_0 x4_1 x4_2 x4_3 x4_4 x4_5 x4_6 x4_7 x4_8 x4_9 x4_10 x4_11
    rw [lp_succ, f16rS4_ev, ih]
abbrev f16rG5 := Int → Int → (List Int) → (List Bool) → Option Lf
noncomputable def f16rH5 (x5_0 : Int) (x5_1 : Int) (x5_2 : List Int) (x5_3 : List Bool) : St := (St.mk [dead, dead, dead, dead, dead, dead, dead, dead, dead, dead, dead, dead, dead, dead, dead, dead, dead, dead, (D.p (Pt.one (L.rw (Id.mk 1 0)))), dead, dead, dead, dead, dead, dead, dead, dead, dead, dead, dead, dead, dead, dead, dead, dead, dead, dead, dead, dead, dead, dead, dead, dead, dead, dead, dead, dead, dead, dead, dead, dead, dead, dead, dead, dead, dead, dead, dead, dead, dead, dead, dead, dead, dead, dead, dead, dead, dead, dead, dead, dead, dead, dead, dead, dead, dead, dead, dead, dead, dead, dead, dead, dead, dead, dead, dead, dead, dead, dead, dead, dead, dead, dead, dead, dead, dead, dead, dead, dead, dead, dead, dead, dead, dead, dead, dead, dead, dead, dead, dead, dead, dead, dead, dead, dead, dead, (D.p (Pt.one (L.rw (Id.mk 1 1)))), (D.p (Pt.one (L.d (Pv.fz true) (Sh.i IntKind.i64) x5_0))), (D.p (Pt.one (L.d (Pv.fz true) (Sh.i IntKind.i64) x5_1))), dead, dead, dead, dead, dead, dead, dead, dead, dead, dead, dead] [[], [(Ob.ro true 0 3 (Sh.i IntKind.i64) Ow.z x5_2 Option.none), (Ob.ro true 0 4 Sh.b Ow.z x5_3 Option.none)]])
noncomputable def f16rW5 (G : St → Option Lf) : f16rG5 := fun x5_0 x5_1 x5_2 x5_3 => G (f16rH5 x5_0 x5_1 x5_2 x5_3)
noncomputable def f16rS5  (g5 : f16rG5) (x5_0 : Int) (x5_1 : Int) (x5_2 : List Int) (x5_3 : List Bool) : Option Lf :=
 bif decide (x5_1 < x5_0) then
  bif inb x5_1 x5_3.length then
   bif x5_3.getD x5_1.toNat false then
    bif decide ((x5_2.length + [x5_1].length) * 8 ≤ 140737488355328) then
     g5 (x5_0 : Int) (IntKind.i64.wrap (x5_1 + 1) : Int) (x5_2 ++ [x5_1] : List Int) (x5_3 : List Bool)
    else
     none
   else
    g5 (x5_0 : Int) (IntKind.i64.wrap (x5_1 + 1) : Int) (x5_2 : List Int) (x5_3 : List Bool)
  else
   none
 else
  some (Lf.mk [(Pt.one (L.rw (Id.mk 1 0))), (Pt.one (L.d (Pv.fz true) Sh.e (Er.nil : Er)))] [] [(Ob.ro true 0 3 (Sh.i IntKind.i64) Ow.z (x5_2 : List Int) Option.none)])
noncomputable def f16rL5 (n : Nat)  : Nat → f16rG5
  | 0 => fun _ _ _ _ => none
  | m + 1 => fun x5_0 x5_1 x5_2 x5_3 => f16rS5   (f16rL5 n  m) x5_0 x5_1 x5_2 x5_3
theorem f16rS5_ev (n : Nat)  (G : St → Option Lf) (x5_0 : Int) (x5_1 : Int) (x5_2 : List Int) (x5_3 : List Bool) : rnd C14 f16rh n Lf (codeOf f16rf) [1, 1, 1, 1, 1, 1, 1, 1, 1, 1, 1, 0, 1, 0] [] (endK C14 f16rh f16rf) G (f16rH5 x5_0 x5_1 x5_2 x5_3) = f16rS5   (f16rW5 G) x5_0 x5_1 x5_2 x5_3 := by kernel_rfl
theorem f16rW5_ev (n : Nat)  : ∀ m, (f16rW5 (lp C14 f16rh n Lf (codeOf f16rf) [1, 1, 1, 1, 1, 1, 1, 1, 1, 1, 1, 0, 1, 0] [] (endK C14 f16rh f16rf) m)) = f16rL5 n  m := by
  intro m
  induction m with
  | zero => funext x5_0 x5_1 x5_2 x5_3; exact lp_zero _
  | succ m ih =>
    funext x5_0 x5_1 x5_2 x5_3
    show lp C14 f16rh n Lf (codeOf f16rf) [1, 1, 1, 1, 1, 1, 1, 1, 1, 1, 1, 0, 1, 0] [] (endK C14 f16rh f16rf) (m + 1) (f16rH5 x5_0 x5_1 x5_2 x5_3) = f16rS5   (f16rL5 n  m) x5_0 x5_1 x5_2 x5_3
    rw [lp_succ, f16rS5_ev, ih]
noncomputable def f16rS3 (l4 : f16rG4) (l5 : f16rG5) (g3 : f16rG3) (x3_0 : Int) (x3_1 : Int) (x3_2 : Bool) (x3_3 : Int) (x3_4 : Int) (x3_5 : List (List Int)) (x3_6 : List (List Int × List Int × Unit)) (x3_7 : List Int) (x3_8 : List Int) (x3_9 : List Bool) : Option Lf :=
 bif x3_2 then
  l4 (x3_0 : Int) (x3_1 : Int) (x3_8 : List Int) (zn x3_8.length : Int) (0 : Int) (x3_3 : Int) (x3_4 : Int) (x3_5 : List (List Int)) (x3_6 : List (List Int × List Int × Unit)) (x3_7 : List Int) (x3_8 : List Int) (x3_9 : List Bool)
 else
  l5 (zn x3_9.length : Int) (0 : Int) ([] : List Int) (x3_9 : List Bool)
noncomputable def f16rL3 (n : Nat)  : Nat → f16rG3
  | 0 => fun _ _ _ _ _ _ _ _ _ _ => none
  | m + 1 => fun x3_0 x3_1 x3_2 x3_3 x3_4 x3_5 x3_6 x3_7 x3_8 x3_9 => f16rS3 (f16rL4 n (f16rL3 n  m) n) (f16rL5 n  n)  (f16rL3 n  m) x3_0 x3_1 x3_2 x3_3 x3_4 x3_5 x3_6 x3_7 x3_8 x3_9
theorem f16rS3_ev (n : Nat)  (G : St → Option Lf) (x3_0 : Int) (x3_1 : Int) (x3_2 : Bool) (x3_3 : Int) (x3_4 : Int) (x3_5 : List (List Int)) (x3_6 : List (List Int × List Int × Unit)) (x3_7 : List Int) (x3_8 : List Int) (x3_9 : List Bool) : rnd C14 f16rh n Lf (codeOf f16rf) [1, 1, 1, 1, 1, 1, 1, 1, 1, 0, 1, 0] [] (endK C14 f16rh f16rf) G (f16rH3 x3_0 x3_1 x3_2 x3_3 x3_4 x3_5 x3_6 x3_7 x3_8 x3_9) = f16rS3 (f16rW4 (lp C14 f16rh n Lf (codeOf f16rf) [1, 1, 1, 1, 1, 1, 1, 1, 1, 0, 1, 0, 0, 1, 0, 0, 1, 0] [G] (endK C14 f16rh f16rf) n)) (f16rW5 (lp C14 f16rh n Lf (codeOf f16rf) [1, 1, 1, 1, 1, 1, 1, 1, 1, 1, 1, 0, 1, 0] [] (endK C14 f16rh f16rf) n))  (f16rW3 G) x3_0 x3_1 x3_2 x3_3 x3_4 x3_5 x3_6 x3_7 x3_8 x3_9 := by kernel_rfl
theorem f16rW3_ev (n : Nat)  : ∀ m, (f16rW3 (lp C14 f16rh n Lf (codeOf f16rf) [1, 1, 1, 1, 1, 1, 1, 1, 1, 0, 1, 0] [] (endK C14 f16rh f16rf) m)) = f16rL3 n  m := by
  intro m
  induction m with
  | zero => funext x3_0 x3_1 x3_2 x3_3 x3_4 x3_5 x3_6 x3_7 x3_8 x3_9; exact lp_zero _
  | succ m ih =>
    have e4 : (f16rW4 (lp C14 f16rh n Lf (codeOf f16rf) [1, 1, 1, 1, 1, 1, 1, 1, 1, 0, 1, 0, 0, 1, 0, 0, 1, 0] [(lp C14 f16rh n Lf (codeOf f16rf) [1, 1, 1, 1, 1, 1, 1, 1, 1, 0, 1, 0] [] (endK C14 f16rh f16rf) m)] (endK C14 f16rh f16rf) n)) = (f16rL4 n (f16rL3 n  m) n) := by
      rw [f16rW4_ev, ih]
    have e5 : (f16rW5 (lp C14 f16rh n Lf (codeOf f16rf) [1, 1, 1, 1, 1, 1, 1, 1, 1, 1, 1, 0, 1, 0] [] (endK C14 f16rh f16rf) n)) = (f16rL5 n  n) := by
      rw [f16rW5_ev]
    funext x3_0 x3_1 x3_2 x3_3 x3_4 x3_5 x3_6 x3_7 x3_8 x3_9
    show lp C14 f16rh n Lf (codeOf f16rf) [1, 1, 1, 1, 1, 1, 1, 1, 1, 0, 1, 0] [] (endK C14 f16rh f16rf) (m + 1) (f16rH3 x3_0 x3_1 x3_2 x3_3 x3_4 x3_5 x3_6 x3_7 x3_8 x3_9) = f16rS3 (f16rL4 n (f16rL3 n  m) n) (f16rL5 n  n)  (f16rL3 n  m) x3_0 x3_1 x3_2 x3_3 x3_4 x3_5 x3_6 x3_7 x3_8 x3_9
    rw [lp_succ, f16rS3_ev, ih, e4, e5]
noncomputable def f16rS1 (l2 : f16rG2) (l3 : f16rG3) (g1 : f16rG1) (x1_0 : Int) (x1_1 : Int) (x1_2 : Int) (x1_3 : Int) (x1_4 : Int) (x1_5 : List (List Int)) (x1_6 : List (List Int × List Int × Unit)) (x1_7 : List Int) (x1_8 : List Int) : Option Lf :=
 bif decide (x1_2 < x1_1) then
  l2 (x1_0 : Int) (x1_1 : Int) (x1_2 : Int) (x1_8 : List Int) (zn x1_8.length : Int) (0 : Int) (x1_3 : Int) (x1_4 : Int) (x1_5 : List (List Int)) (x1_6 : List (List Int × List Int × Unit)) (x1_7 : List Int) (x1_8 : List Int)
 else
  bif decide (0 ≤ zn x1_5.length) && (decide (zn x1_5.length ≤ zn x1_5.length) && decide (1 * (zn x1_5.length).toNat ≤ 140737488355328)) then
   l3 (x1_0 : Int) (x1_0 : Int) (true : Bool) (x1_3 : Int) (x1_4 : Int) (x1_5 : List (List Int)) (x1_6 : List (List Int × List Int × Unit)) (x1_7 : List Int) (x1_8 : List Int) (List.replicate (zn x1_5.length).toNat false : List Bool)
  else
   none
noncomputable def f16rL1 (n : Nat)  : Nat → f16rG1
  | 0 => fun _ _ _ _ _ _ _ _ _ => none
  | m + 1 => fun x1_0 x1_1 x1_2 x1_3 x1_4 x1_5 x1_6 x1_7 x1_8 => f16rS1 (f16rL2 n (f16rL1 n  m) n) (f16rL3 n  n)  (f16rL1 n  m) x1_0 x1_1 x1_2 x1_3 x1_4 x1_5 x1_6 x1_7 x1_8
theorem f16rS1_ev (n : Nat)  (G : St → Option Lf) (x1_0 : Int) (x1_1 : Int) (x1_2 : Int) (x1_3 : Int) (x1_4 : Int) (x1_5 : List (List Int)) (x1_6 : List (List Int × List Int × Unit)) (x1_7 : List Int) (x1_8 : List Int) : rnd C14 f16rh n Lf (codeOf f16rf) [1, 1, 1, 1, 1, 1, 0, 1, 0] [] (endK C14 f16rh f16rf) G (f16rH1 x1_0 x1_1 x1_2 x1_3 x1_4 x1_5 x1_6 x1_7 x1_8) = f16rS1 (f16rW2 (lp C14 f16rh n Lf (codeOf f16rf) [1, 1, 1, 1, 1, 1, 0, 1, 0, 0, 1, 1, 0, 0, 1, 0] [G] (endK C14 f16rh f16rf) n)) (f16rW3 (lp C14 f16rh n Lf (codeOf f16rf) [1, 1, 1, 1, 1, 1, 1, 1, 1, 0, 1, 0] [] (endK C14 f16rh f16rf) n))  (f16rW1 G) x1_0 x1_1 x1_2 x1_3 x1_4 x1_5 x1_6 x1_7 x1_8 := by kernel_rfl
theorem f16rW1_ev (n : Nat)  : ∀ m, (f16rW1 (lp C14 f16rh n Lf (codeOf f16rf) [1, 1, 1, 1, 1, 1, 0, 1, 0] [] (endK C14 f16rh f16rf) m)) = f16rL1 n  m := by
  intro m
  induction m with
  | zero => funext x1_0 x1_1 x1_2 x1_3 x1_4 x1_5 x1_6 x1_7 x1_8; exact lp_zero _
  | succ m ih =>
    have e2 : (f16rW2 (lp C14 f16rh n Lf (codeOf f16rf) [1, 1, 1, 1, 1, 1, 0, 1, 0, 0, 1, 1, 0, 0, 1, 0] [(lp C14 f16rh n Lf (codeOf f16rf) [1, 1, 1, 1, 1, 1, 0, 1, 0] [] (endK C14 f16rh f16rf) m)] (endK C14 f16rh f16rf) n)) = (f16rL2 n (f16rL1 n  m) n) := by
      rw [f16rW2_ev, ih]
    have e3 : (f16rW3 (lp C14 f16rh n Lf (codeOf f16rf) [1, 1, 1, 1, 1, 1, 1, 1, 1, 0, 1, 0] [] (endK C14 f16rh f16rf) n)) = (f16rL3 n  n) := by
      rw [f16rW3_ev]
    funext x1_0 x1_1 x1_2 x1_3 x1_4 x1_5 x1_6 x1_7 x1_8
    show lp C14 f16rh n Lf (codeOf f16rf) [1, 1, 1, 1, 1, 1, 0, 1, 0] [] (endK C14 f16rh f16rf) (m + 1) (f16rH1 x1_0 x1_1 x1_2 x1_3 x1_4 x1_5 x1_6 x1_7 x1_8) = f16rS1 (f16rL2 n (f16rL1 n  m) n) (f16rL3 n  n)  (f16rL1 n  m) x1_0 x1_1 x1_2 x1_3 x1_4 x1_5 x1_6 x1_7 x1_8
    rw [lp_succ, f16rS1_ev, ih, e2, e3]
noncomputable def f16rS0 (l1 : f16rG1) (g0 : f16rG0) (x0_0 : Int) (x0_1 : List Int) (x0_2 : Int) (x0_3 : Int) (x0_4 : Int) (x0_5 : Int) (x0_6 : List (List Int)) (x0_7 : List (List Int × List Int × Unit)) (x0_8 : List Int) (x0_9 : List Int) : Option Lf :=
 bif decide (x0_3 < x0_2) then
  bif inb x0_3 x0_1.length then
   bif inb x0_0 x0_6.length then
    bif inb (x0_1.getD x0_3.toNat 0) (x0_6.getD x0_0.toNat []).length then
     g0 ((x0_6.getD x0_0.toNat []).getD (x0_1.getD x0_3.toNat 0).toNat 0 : Int) (x0_1 : List Int) (x0_2 : Int) (IntKind.i64.wrap (x0_3 + 1) : Int) (x0_4 : Int) (x0_5 : Int) (x0_6 : List (List Int)) (x0_7 : List (List Int × List Int × Unit)) (x0_8 : List Int) (x0_9 : List Int)
    else
     none
   else
    none
  else
   none
 else
  l1 (x0_0 : Int) (zn x0_6.length : Int) (0 : Int) (x0_4 : Int) (x0_5 : Int) (x0_6 : List (List Int)) (x0_7 : List (List Int × List Int × Unit)) (x0_8 : List Int) (x0_9 : List Int)
noncomputable def f16rL0 (n : Nat)  : Nat → f16rG0
  | 0 => fun _ _ _ _ _ _ _ _ _ _ => none
  | m + 1 => fun x0_0 x0_1 x0_2 x0_3 x0_4 x0_5 x0_6 x0_7 x0_8 x0_9 => f16rS0 (f16rL1 n  n)  (f16rL0 n  m) x0_0 x0_1 x0_2 x0_3 x0_4 x0_5 x0_6 x0_7 x0_8 x0_9
theorem f16rS0_ev (n : Nat)  (G : St → Option Lf) (x0_0 : Int) (x0_1 : List Int) (x0_2 : Int) (x0_3 : Int) (x0_4 : Int) (x0_5 : Int) (x0_6 : List (List Int)) (x0_7 : List (List Int × List Int × Unit)) (x0_8 : List Int) (x0_9 : List Int) : rnd C14 f16rh n Lf (codeOf f16rf) [1, 1, 1, 1, 1, 0, 1, 0] [] (endK C14 f16rh f16rf) G (f16rH0 x0_0 x0_1 x0_2 x0_3 x0_4 x0_5 x0_6 x0_7 x0_8 x0_9) = f16rS0 (f16rW1 (lp C14 f16rh n Lf (codeOf f16rf) [1, 1, 1, 1, 1, 1, 0, 1, 0] [] (endK C14 f16rh f16rf) n))  (f16rW0 G) x0_0 x0_1 x0_2 x0_3 x0_4 x0_5 x0_6 x0_7 x0_8 x0_9 := by kernel_rfl
theorem f16rW0_ev (n : Nat)  : ∀ m, (f16rW0 (lp C14 f16rh n Lf (codeOf f16rf) [1, 1, 1, 1, 1, 0, 1, 0] [] (endK C14 f16rh f16rf) m)) = f16rL0 n  m := by
  intro m
  induction m with
  | zero => funext x0_0 x0_1 x0_2 x0_3 x0_4 x0_5 x0_6 x0_7 x0_8 x0_9; exact lp_zero _
  | succ m ih =>
    have e1 : (f16rW1 (lp C14 f16rh n Lf (codeOf f16rf) [1, 1, 1, 1, 1, 1, 0, 1, 0] [] (endK C14 f16rh f16rf) n)) = (f16rL1 n  n) := by
      rw [f16rW1_ev]
    funext x0_0 x0_1 x0_2 x0_3 x0_4 x0_5 x0_6 x0_7 x0_8 x0_9
    show lp C14 f16rh n Lf (codeOf f16rf) [1, 1, 1, 1, 1, 0, 1, 0] [] (endK C14 f16rh f16rf) (m + 1) (f16rH0 x0_0 x0_1 x0_2 x0_3 x0_4 x0_5 x0_6 x0_7 x0_8 x0_9) = f16rS0 (f16rL1 n  n)  (f16rL0 n  m) x0_0 x0_1 x0_2 x0_3 x0_4 x0_5 x0_6 x0_7 x0_8 x0_9
    rw [lp_succ, f16rS0_ev, ih, e1]
noncomputable def f16rT (l0 : f16rG0) (p : Int) (i : Int) (nx : List (List Int)) (ps : List (List Int × List Int × Unit)) (s : List Int) (l : List Int) : Option Lf :=
 bif [s, l].length.ble 2 && [s, l].all fun (v : List Int) => v.length.ble 1000000 then
  bif drG nx ps then
   bif !(er1 (drOk p i nx ps)).isNil then
    some (Lf.mk [(Pt.one (L.rw (Id.mk 1 0))), (Pt.one (L.d (Pv.fz true) Sh.e (Er.no 1 : Er)))] [] [(Ob.ro true 0 3 (Sh.i IntKind.i64) Ow.z ([] : List Int) Option.none)])
   else
    bif zn l.length == 0 then
     some (Lf.mk [(Pt.one (L.rw (Id.mk 1 0))), (Pt.one (L.d (Pv.fz true) Sh.e (Er.no 1 : Er)))] [] [(Ob.ro true 0 3 (Sh.i IntKind.i64) Ow.z ([] : List Int) Option.none)])
    else
     bif decide (zn [s, l].flatten.length > 64) then
      some (Lf.mk [(Pt.one (L.rw (Id.mk 1 0))), (Pt.one (L.d (Pv.fz true) Sh.e (Er.no 1 : Er)))] [] [(Ob.ro true 0 3 (Sh.i IntKind.i64) Ow.z ([] : List Int) Option.none)])
     else
      bif big [s, l].flatten.length && decide (0 ≤ p) then
       bif [s, l].flatten.any (nin (shlF IntKind.i64 1 p)) then
        some (Lf.mk [(Pt.one (L.rw (Id.mk 1 0))), (Pt.one (L.d (Pv.fz true) Sh.e (Er.no 1 : Er)))] [] [(Ob.ro true 0 3 (Sh.i IntKind.i64) Ow.z ([] : List Int) Option.none)])
       else
        l0 (i : Int) (s : List Int) (zn s.length : Int) (0 : Int) (p : Int) (i : Int) (nx : List (List Int)) (ps : List (List Int × List Int × Unit)) (s : List Int) (l : List Int)
      else
       none
  else
   none
 else
  none
noncomputable def f16rM (n : Nat) (p : Int) (i : Int) (nx : List (List Int)) (ps : List (List Int × List Int × Unit)) (s : List Int) (l : List Int) : Option Lf := f16rT (f16rL0 n n) p i nx ps s l
theorem f16rT_ev (n : Nat) (p : Int) (i : Int) (nx : List (List Int)) (ps : List (List Int × List Int × Unit)) (s : List Int) (l : List Int) : evF C14 f16rh n f16rf [(D.p (Pt.agg [(L.d (Pv.fz true) (Sh.i IntKind.i64) p), (L.d (Pv.fz true) (Sh.i IntKind.i64) i), (L.d (Pv.fz false) (Sh.l (Sh.l (Sh.i IntKind.i64))) nx), (L.d (Pv.fz false) (Sh.l (Sh.p (Sh.l (Sh.i IntKind.i64)) (Sh.p (Sh.l (Sh.i IntKind.i64)) Sh.u))) ps)])), (D.p (Pt.agg [(L.d (Pv.fz false) (Sh.l (Sh.i IntKind.i64)) s), (L.d (Pv.fz false) (Sh.l (Sh.i IntKind.i64)) l)]))] [] = f16rT (f16rW0 (lp C14 f16rh n Lf (codeOf f16rf) [1, 1, 1, 1, 1, 0, 1, 0] [] (endK C14 f16rh f16rf) n)) p i nx ps s l := by kernel_rfl
theorem f16r_ev (n : Nat) (p : Int) (i : Int) (nx : List (List Int)) (ps : List (List Int × List Int × Unit)) (s : List Int) (l : List Int) : evF C14 f16rh n f16rf [(D.p (Pt.agg [(L.d (Pv.fz true) (Sh.i IntKind.i64) p), (L.d (Pv.fz true) (Sh.i IntKind.i64) i), (L.d (Pv.fz false) (Sh.l (Sh.l (Sh.i IntKind.i64))) nx), (L.d (Pv.fz false) (Sh.l (Sh.p (Sh.l (Sh.i IntKind.i64)) (Sh.p (Sh.l (Sh.i IntKind.i64)) Sh.u))) ps)])), (D.p (Pt.agg [(L.d (Pv.fz false) (Sh.l (Sh.i IntKind.i64)) s), (L.d (Pv.fz false) (Sh.l (Sh.i IntKind.i64)) l)]))] [] = f16rM n p i nx ps s l := by
  rw [f16rT_ev, f16rW0_ev]
  rfl
end Go.S18
