/-
  Seat 22: functional forms of May, Sure, MustMay, MustSure.
-/
import Derived.Test.YtjkojhpmiijgfaaDoorS22H
open Go Go.En Go.S22
namespace Go.S22


abbrev r11h : Hn := h11r
noncomputable abbrev r11f : Func := fn 11
noncomputable def r11T  (i : Int) (ch : List (List (ByteArray × List (Int × Int × Unit) × Unit))) (nm : List ByteArray) (ho : List (List Int)) (set : List Bool) : Option Lf :=
 bif mdG ch nm ho then
  bif !(er1 (mdOk i ch nm ho && zn set.length == zn ch.length)).isNil then
   some (Lf.mk [(Pt.one (L.rw (Id.mk 1 0))), (Pt.one (L.rw (Id.mk 1 1))), (Pt.one (L.d (Pv.fz true) Sh.e (er1 (mdOk i ch nm ho && zn set.length == zn ch.length) : Er)))] [] [(Ob.ro true 0 4 Sh.b Ow.z ([] : List Bool) Option.none), (Ob.ro true 0 3 (Sh.i IntKind.i64) Ow.z ([] : List Int) Option.none)])
  else
   bif rgS ch set then
    some (Lf.mk [(Pt.one (L.rw (Id.mk 1 0))), (Pt.one (L.rw (Id.mk 1 1))), (Pt.one (L.d (Pv.fz true) Sh.e (Er.nil : Er)))] [] [(Ob.ro true 0 4 Sh.b Ow.z ((wideA ch set).fst : List Bool) Option.none), (Ob.ro true 0 3 (Sh.i IntKind.i64) Ow.z ((wideA ch set).snd : List Int) Option.none)])
   else
    none
 else
  none
noncomputable def r11M (_ : Nat) (i : Int) (ch : List (List (ByteArray × List (Int × Int × Unit) × Unit))) (nm : List ByteArray) (ho : List (List Int)) (set : List Bool) : Option Lf := r11T  i ch nm ho set
theorem r11T_ev (n : Nat) (i : Int) (ch : List (List (ByteArray × List (Int × Int × Unit) × Unit))) (nm : List ByteArray) (ho : List (List Int)) (set : List Bool) : evF C19 r11h n r11f [(D.p (Pt.agg [(L.d (Pv.fz true) (Sh.i IntKind.i64) i), (L.d (Pv.fz false) (Sh.l (Sh.l (Sh.p Sh.s (Sh.p (Sh.l (Sh.p (Sh.i IntKind.i64) (Sh.p (Sh.i IntKind.i64) Sh.u))) Sh.u)))) ch), (L.d (Pv.fz false) (Sh.l Sh.s) nm), (L.d (Pv.fz false) (Sh.l (Sh.l (Sh.i IntKind.i64))) ho)])), (D.p (Pt.one (L.d (Pv.fz false) (Sh.l Sh.b) set)))] [] = r11T  i ch nm ho set := by kernel_rfl
theorem r11_ev (n : Nat) (i : Int) (ch : List (List (ByteArray × List (Int × Int × Unit) × Unit))) (nm : List ByteArray) (ho : List (List Int)) (set : List Bool) : evF C19 r11h n r11f [(D.p (Pt.agg [(L.d (Pv.fz true) (Sh.i IntKind.i64) i), (L.d (Pv.fz false) (Sh.l (Sh.l (Sh.p Sh.s (Sh.p (Sh.l (Sh.p (Sh.i IntKind.i64) (Sh.p (Sh.i IntKind.i64) Sh.u))) Sh.u)))) ch), (L.d (Pv.fz false) (Sh.l Sh.s) nm), (L.d (Pv.fz false) (Sh.l (Sh.l (Sh.i IntKind.i64))) ho)])), (D.p (Pt.one (L.d (Pv.fz false) (Sh.l Sh.b) set)))] [] = r11M n i ch nm ho set := by
  rw [r11T_ev]
  rfl

abbrev r12h : Hn := h12r
noncomputable abbrev r12f : Func := fn 12
abbrev r12G0 := (List Bool) → Int → (List (List (ByteArray × List (Int × Int × Unit) × Unit))) → (List ByteArray) → (List (List Int)) → (List Bool) → Option Lf
noncomputable def r12H0 (x0_0 : List Bool) (x0_1 : Int) (x0_2 : List (List (ByteArray × List (Int × Int × Unit) × Unit))) (x0_3 : List ByteArray) (x0_4 : List (List Int)) (x0_5 : List Bool) : St := (St.mk [dead, (D.p (Pt.one (L.d (Pv.fz false) (Sh.l Sh.b) x0_0))), (D.p (Pt.one (L.pv (Id.mk 1 0) 0))), dead, dead, dead, dead, dead, (D.p (Pt.one (L.pv (Id.mk 1 1) 0))), dead, dead, dead, dead, dead, dead, dead, dead, dead, dead, dead, dead, dead, dead, dead, dead, dead, dead, dead, dead, dead, dead, dead, dead, dead, dead, dead, dead] [[], [(Ob.va [(L.d (Pv.fz true) (Sh.i IntKind.i64) x0_1), (L.d (Pv.fz false) (Sh.l (Sh.l (Sh.p Sh.s (Sh.p (Sh.l (Sh.p (Sh.i IntKind.i64) (Sh.p (Sh.i IntKind.i64) Sh.u))) Sh.u)))) x0_2), (L.d (Pv.fz false) (Sh.l Sh.s) x0_3), (L.d (Pv.fz false) (Sh.l (Sh.l (Sh.i IntKind.i64))) x0_4)]), (Ob.va [(L.rw (Id.mk 1 2))]), (Ob.ro true 0 4 Sh.b Ow.z x0_5 Option.none)]])
noncomputable def r12W0 (G : St → Option Lf) : r12G0 := fun x0_0 x0_1 x0_2 x0_3 x0_4 x0_5 => G (r12H0 x0_0 x0_1 x0_2 x0_3 x0_4 x0_5)
noncomputable def r12S0  (g0 : r12G0) (x0_0 : List Bool) (x0_1 : Int) (x0_2 : List (List (ByteArray × List (Int × Int × Unit) × Unit))) (x0_3 : List ByteArray) (x0_4 : List (List Int)) (x0_5 : List Bool) : Option Lf :=
 bif rgS x0_2 x0_0 && x0_5.length.beq x0_2.length then
  bif (wideB x0_2 x0_5 x0_0).fst.length.ble 1000000 && x0_5.length.ble 1000000 then
   bif sameB (wideB x0_2 x0_5 x0_0).fst x0_5 then
    some (Lf.mk [(Pt.one (L.rw (Id.mk 1 0))), (Pt.one (L.rw (Id.mk 1 1))), (Pt.one (L.d (Pv.fz true) Sh.e (Er.nil : Er)))] [] [(Ob.ro true 0 4 Sh.b Ow.z ((wideB x0_2 x0_5 x0_0).fst : List Bool) Option.none), (Ob.ro true 0 3 (Sh.i IntKind.i64) Ow.z ((wideB x0_2 x0_5 x0_0).snd : List Int) Option.none)])
   else
    g0 (x0_0 : List Bool) (x0_1 : Int) (x0_2 : List (List (ByteArray × List (Int × Int × Unit) × Unit))) (x0_3 : List ByteArray) (x0_4 : List (List Int)) ((wideB x0_2 x0_5 x0_0).fst : List Bool)
  else
   none
 else
  none
noncomputable def r12L0 (n : Nat)  : Nat → r12G0
  | 0 => fun _ _ _ _ _ _ => none
  | m + 1 => fun x0_0 x0_1 x0_2 x0_3 x0_4 x0_5 => r12S0   (r12L0 n  m) x0_0 x0_1 x0_2 x0_3 x0_4 x0_5
theorem r12S0_ev (n : Nat)  (G : St → Option Lf) (x0_0 : List Bool) (x0_1 : Int) (x0_2 : List (List (ByteArray × List (Int × Int × Unit) × Unit))) (x0_3 : List ByteArray) (x0_4 : List (List Int)) (x0_5 : List Bool) : rnd C19 r12h n Lf (codeOf r12f) [1, 1, 1, 0] [] (endK C19 r12h r12f) G (r12H0 x0_0 x0_1 x0_2 x0_3 x0_4 x0_5) = r12S0   (r12W0 G) x0_0 x0_1 x0_2 x0_3 x0_4 x0_5 := by kernel_rfl
theorem r12W0_ev (n : Nat)  : ∀ m, (r12W0 (lp C19 r12h n Lf (codeOf r12f) [1, 1, 1, 0] [] (endK C19 r12h r12f) m)) = r12L0 n  m := by
  intro m
  induction m with
  | zero => funext x0_0 x0_1 x0_2 x0_3 x0_4 x0_5; exact lp_zero _
  | succ m ih =>
    funext x0_0 x0_1 x0_2 x0_3 x0_4 x0_5
    show lp C19 r12h n Lf (codeOf r12f) [1, 1, 1, 0] [] (endK C19 r12h r12f) (m + 1) (r12H0 x0_0 x0_1 x0_2 x0_3 x0_4 x0_5) = r12S0   (r12L0 n  m) x0_0 x0_1 x0_2 x0_3 x0_4 x0_5
    rw [lp_succ, r12S0_ev, ih]
noncomputable def r12T (l0 : r12G0) (i : Int) (ch : List (List (ByteArray × List (Int × Int × Unit) × Unit))) (nm : List ByteArray) (ho : List (List Int)) (set : List Bool) : Option Lf :=
 bif mdG ch nm ho then
  bif !(er1 (mdOk i ch nm ho && zn set.length == zn ch.length)).isNil then
   some (Lf.mk [(Pt.one (L.rw (Id.mk 1 0))), (Pt.one (L.rw (Id.mk 1 1))), (Pt.one (L.d (Pv.fz true) Sh.e (er1 (mdOk i ch nm ho && zn set.length == zn ch.length) : Er)))] [] [(Ob.ro true 0 4 Sh.b Ow.z ([] : List Bool) Option.none), (Ob.ro true 0 3 (Sh.i IntKind.i64) Ow.z ([] : List Int) Option.none)])
  else
   bif rgS ch set then
    l0 (set : List Bool) (i : Int) (ch : List (List (ByteArray × List (Int × Int × Unit) × Unit))) (nm : List ByteArray) (ho : List (List Int)) ((wideA ch set).fst : List Bool)
   else
    none
 else
  none
noncomputable def r12M (n : Nat) (i : Int) (ch : List (List (ByteArray × List (Int × Int × Unit) × Unit))) (nm : List ByteArray) (ho : List (List Int)) (set : List Bool) : Option Lf := r12T (r12L0 n n) i ch nm ho set
theorem r12T_ev (n : Nat) (i : Int) (ch : List (List (ByteArray × List (Int × Int × Unit) × Unit))) (nm : List ByteArray) (ho : List (List Int)) (set : List Bool) : evF C19 r12h n r12f [(D.p (Pt.agg [(L.d (Pv.fz true) (Sh.i IntKind.i64) i), (L.d (Pv.fz false) (Sh.l (Sh.l (Sh.p Sh.s (Sh.p (Sh.l (Sh.p (Sh.i IntKind.i64) (Sh.p (Sh.i IntKind.i64) Sh.u))) Sh.u)))) ch), (L.d (Pv.fz false) (Sh.l Sh.s) nm), (L.d (Pv.fz false) (Sh.l (Sh.l (Sh.i IntKind.i64))) ho)])), (D.p (Pt.one (L.d (Pv.fz false) (Sh.l Sh.b) set)))] [] = r12T (r12W0 (lp C19 r12h n Lf (codeOf r12f) [1, 1, 1, 0] [] (endK C19 r12h r12f) n)) i ch nm ho set := by kernel_rfl
theorem r12_ev (n : Nat) (i : Int) (ch : List (List (ByteArray × List (Int × Int × Unit) × Unit))) (nm : List ByteArray) (ho : List (List Int)) (set : List Bool) : evF C19 r12h n r12f [(D.p (Pt.agg [(L.d (Pv.fz true) (Sh.i IntKind.i64) i), (L.d (Pv.fz false) (Sh.l (Sh.l (Sh.p Sh.s (Sh.p (Sh.l (Sh.p (Sh.i IntKind.i64) (Sh.p (Sh.i IntKind.i64) Sh.u))) Sh.u)))) ch), (L.d (Pv.fz false) (Sh.l Sh.s) nm), (L.d (Pv.fz false) (Sh.l (Sh.l (Sh.i IntKind.i64))) ho)])), (D.p (Pt.one (L.d (Pv.fz false) (Sh.l Sh.b) set)))] [] = r12M n i ch nm ho set := by
  rw [r12T_ev, r12W0_ev]
  rfl

abbrev r13h : Hn := h13r
noncomputable abbrev r13f : Func := fn 13
noncomputable def r13T  (i : Int) (ch : List (List (ByteArray × List (Int × Int × Unit) × Unit))) (nm : List ByteArray) (ho : List (List Int)) (set : List Bool) : Option Lf :=
 bif mdG ch nm ho then
  bif !(er1 (mdOk i ch nm ho && zn set.length == zn ch.length)).isNil then
   some (Lf.mk [(Pt.one (L.rw (Id.mk 1 0))), (Pt.one (L.d (Pv.fz true) Sh.e (er1 (mdOk i ch nm ho && zn set.length == zn ch.length) : Er)))] [] [(Ob.ro true 0 4 Sh.b Ow.z ([] : List Bool) Option.none)])
  else
   bif rgS ch set then
    some (Lf.mk [(Pt.one (L.rw (Id.mk 1 0))), (Pt.one (L.d (Pv.fz true) Sh.e (Er.nil : Er)))] [] [(Ob.ro true 0 4 Sh.b Ow.z (allF ch set : List Bool) Option.none)])
   else
    none
 else
  none
noncomputable def r13M (_ : Nat) (i : Int) (ch : List (List (ByteArray × List (Int × Int × Unit) × Unit))) (nm : List ByteArray) (ho : List (List Int)) (set : List Bool) : Option Lf := r13T  i ch nm ho set
theorem r13T_ev (n : Nat) (i : Int) (ch : List (List (ByteArray × List (Int × Int × Unit) × Unit))) (nm : List ByteArray) (ho : List (List Int)) (set : List Bool) : evF C19 r13h n r13f [(D.p (Pt.agg [(L.d (Pv.fz true) (Sh.i IntKind.i64) i), (L.d (Pv.fz false) (Sh.l (Sh.l (Sh.p Sh.s (Sh.p (Sh.l (Sh.p (Sh.i IntKind.i64) (Sh.p (Sh.i IntKind.i64) Sh.u))) Sh.u)))) ch), (L.d (Pv.fz false) (Sh.l Sh.s) nm), (L.d (Pv.fz false) (Sh.l (Sh.l (Sh.i IntKind.i64))) ho)])), (D.p (Pt.one (L.d (Pv.fz false) (Sh.l Sh.b) set)))] [] = r13T  i ch nm ho set := by kernel_rfl
theorem r13_ev (n : Nat) (i : Int) (ch : List (List (ByteArray × List (Int × Int × Unit) × Unit))) (nm : List ByteArray) (ho : List (List Int)) (set : List Bool) : evF C19 r13h n r13f [(D.p (Pt.agg [(L.d (Pv.fz true) (Sh.i IntKind.i64) i), (L.d (Pv.fz false) (Sh.l (Sh.l (Sh.p Sh.s (Sh.p (Sh.l (Sh.p (Sh.i IntKind.i64) (Sh.p (Sh.i IntKind.i64) Sh.u))) Sh.u)))) ch), (L.d (Pv.fz false) (Sh.l Sh.s) nm), (L.d (Pv.fz false) (Sh.l (Sh.l (Sh.i IntKind.i64))) ho)])), (D.p (Pt.one (L.d (Pv.fz false) (Sh.l Sh.b) set)))] [] = r13M n i ch nm ho set := by
  rw [r13T_ev]
  rfl

abbrev r14h : Hn := h14r
noncomputable abbrev r14f : Func := fn 14
abbrev r14G0 := (List Bool) → Int → Int → Int → (List (List (ByteArray × List (Int × Int × Unit) × Unit))) → (List ByteArray) → (List (List Int)) → (List Bool) → (List Bool) → Option Lf
noncomputable def r14H0 (x0_0 : List Bool) (x0_1 : Int) (x0_2 : Int) (x0_3 : Int) (x0_4 : List (List (ByteArray × List (Int × Int × Unit) × Unit))) (x0_5 : List ByteArray) (x0_6 : List (List Int)) (x0_7 : List Bool) (x0_8 : List Bool) : St := (St.mk [dead, (D.p (Pt.one (L.d (Pv.fz false) (Sh.l Sh.b) x0_0))), (D.p (Pt.one (L.pv (Id.mk 1 0) 0))), dead, dead, dead, dead, dead, (D.p (Pt.one (L.pv (Id.mk 1 1) 0))), dead, dead, dead, dead, dead, dead, dead, dead, dead, dead, dead, dead, dead, dead, dead, dead, dead, dead, (D.p (Pt.one (L.rw (Id.mk 1 2)))), (D.p (Pt.one (L.d (Pv.fz true) (Sh.i IntKind.i64) x0_1))), (D.p (Pt.one (L.d (Pv.fz true) (Sh.i IntKind.i64) x0_2))), dead, dead, dead, dead, dead, dead, dead, dead, dead, dead, dead, dead, dead, dead, dead, dead, dead, dead, dead, dead, dead, dead, dead, dead, dead, dead, dead, dead, dead, dead, dead, dead, dead, dead, dead, dead, dead, dead, dead, dead, dead, dead, dead, dead, dead, dead, dead, dead, dead, dead, dead, dead, dead, dead, dead] [[], [(Ob.va [(L.d (Pv.fz true) (Sh.i IntKind.i64) x0_3), (L.d (Pv.fz false) (Sh.l (Sh.l (Sh.p Sh.s (Sh.p (Sh.l (Sh.p (Sh.i IntKind.i64) (Sh.p (Sh.i IntKind.i64) Sh.u))) Sh.u)))) x0_4), (L.d (Pv.fz false) (Sh.l Sh.s) x0_5), (L.d (Pv.fz false) (Sh.l (Sh.l (Sh.i IntKind.i64))) x0_6)]), (Ob.va [(L.rw (Id.mk 1 3))]), (Ob.ro true 0 4 Sh.b Ow.z x0_7 Option.none), (Ob.ro true 0 4 Sh.b Ow.z x0_8 Option.none)]])
noncomputable def r14W0 (G : St → Option Lf) : r14G0 := fun x0_0 x0_1 x0_2 x0_3 x0_4 x0_5 x0_6 x0_7 x0_8 => G (r14H0 x0_0 x0_1 x0_2 x0_3 x0_4 x0_5 x0_6 x0_7 x0_8)
abbrev r14G1 := (List Bool) → Bool → Int → (List (List (ByteArray × List (Int × Int × Unit) × Unit))) → (List ByteArray) → (List (List Int)) → (List Bool) → Option Lf
noncomputable def r14H1 (x1_0 : List Bool) (x1_1 : Bool) (x1_2 : Int) (x1_3 : List (List (ByteArray × List (Int × Int × Unit) × Unit))) (x1_4 : List ByteArray) (x1_5 : List (List Int)) (x1_6 : List Bool) : St := (St.mk [dead, (D.p (Pt.one (L.d (Pv.fz false) (Sh.l Sh.b) x1_0))), (D.p (Pt.one (L.pv (Id.mk 1 0) 0))), dead, dead, dead, dead, dead, (D.p (Pt.one (L.pv (Id.mk 1 1) 0))), dead, dead, (D.p (Pt.one (L.d (Pv.fz true) Sh.b x1_1))), dead, dead, dead, dead, dead, dead, dead, dead, dead, dead, dead, dead, dead, dead, dead, dead, dead, dead, dead, dead, dead, dead, dead, dead, dead, dead, dead, dead, dead, dead, dead, dead, dead, dead, dead, dead, dead, dead, dead, dead, dead, dead, dead, dead, dead, dead, dead, dead, dead, dead, dead, dead, dead, dead, dead, dead, dead, dead, dead, dead, dead, dead, dead, dead, dead, dead, dead, dead, dead, dead, dead, dead, dead] [[], [(Ob.va [(L.d (Pv.fz true) (Sh.i IntKind.i64) x1_2), (L.d (Pv.fz false) (Sh.l (Sh.l (Sh.p Sh.s (Sh.p (Sh.l (Sh.p (Sh.i IntKind.i64) (Sh.p (Sh.i IntKind.i64) Sh.u))) Sh.u)))) x1_3), (L.d (Pv.fz false) (Sh.l Sh.s) x1_4), (L.d (Pv.fz false) (Sh.l (Sh.l (Sh.i IntKind.i64))) x1_5)]), (Ob.va [(L.rw (Id.mk 1 2))]), (Ob.ro true 0 4 Sh.b Ow.z x1_6 Option.none)]])
noncomputable def r14W1 (G : St → Option Lf) : r14G1 := fun x1_0 x1_1 x1_2 x1_3 x1_4 x1_5 x1_6 => G (r14H1 x1_0 x1_1 x1_2 x1_3 x1_4 x1_5 x1_6)
abbrev r14G2 := (List Bool) → Bool → (List (List (ByteArray × List (Int × Int × Unit) × Unit))) → Int → Int → Int → (List (List (ByteArray × List (Int × Int × Unit) × Unit))) → (List ByteArray) → (List (List Int)) → (List Bool) → Option Lf
noncomputable def r14H2 (x2_0 : List Bool) (x2_1 : Bool) (x2_2 : List (List (ByteArray × List (Int × Int × Unit) × Unit))) (x2_3 : Int) (x2_4 : Int) (x2_5 : Int) (x2_6 : List (List (ByteArray × List (Int × Int × Unit) × Unit))) (x2_7 : List ByteArray) (x2_8 : List (List Int)) (x2_9 : List Bool) : St := (St.mk [dead, (D.p (Pt.one (L.d (Pv.fz false) (Sh.l Sh.b) x2_0))), (D.p (Pt.one (L.pv (Id.mk 1 0) 0))), dead, dead, dead, dead, dead, (D.p (Pt.one (L.pv (Id.mk 1 1) 0))), dead, dead, (D.p (Pt.one (L.d (Pv.fz true) Sh.b x2_1))), dead, dead, dead, dead, dead, dead, dead, dead, dead, dead, dead, dead, dead, dead, dead, dead, dead, dead, dead, dead, dead, dead, dead, dead, dead, dead, dead, dead, dead, dead, (D.p (Pt.one (L.d (Pv.fz false) (Sh.l (Sh.l (Sh.p Sh.s (Sh.p (Sh.l (Sh.p (Sh.i IntKind.i64) (Sh.p (Sh.i IntKind.i64) Sh.u))) Sh.u)))) x2_2))), (D.p (Pt.one (L.d (Pv.fz true) (Sh.i IntKind.i64) x2_3))), (D.p (Pt.one (L.d (Pv.fz true) (Sh.i IntKind.i64) x2_4))), dead, dead, dead, dead, dead, dead, dead, dead, dead, dead, dead, dead, dead, dead, dead, dead, dead, dead, dead, dead, dead, dead, dead, dead, dead, dead, dead, dead, dead, dead, dead, dead, dead, dead, dead, dead, dead, dead, dead, dead] [[], [(Ob.va [(L.d (Pv.fz true) (Sh.i IntKind.i64) x2_5), (L.d (Pv.fz false) (Sh.l (Sh.l (Sh.p Sh.s (Sh.p (Sh.l (Sh.p (Sh.i IntKind.i64) (Sh.p (Sh.i IntKind.i64) Sh.u))) Sh.u)))) x2_6), (L.d (Pv.fz false) (Sh.l Sh.s) x2_7), (L.d (Pv.fz false) (Sh.l (Sh.l (Sh.i IntKind.i64))) x2_8)]), (Ob.va [(L.rw (Id.mk 1 2))]), (Ob.ro true 0 4 Sh.b Ow.z x2_9 Option.none)]])
noncomputable def r14W2 (G : St → Option Lf) : r14G2 := fun x2_0 x2_1 x2_2 x2_3 x2_4 x2_5 x2_6 x2_7 x2_8 x2_9 => G (r14H2 x2_0 x2_1 x2_2 x2_3 x2_4 x2_5 x2_6 x2_7 x2_8 x2_9)
noncomputable def r14S2  (g1 : r14G1) (g2 : r14G2) (x2_0 : List Bool) (x2_1 : Bool) (x2_2 : List (List (ByteArray × List (Int × Int × Unit) × Unit))) (x2_3 : Int) (x2_4 : Int) (x2_5 : Int) (x2_6 : List (List (ByteArray × List (Int × Int × Unit) × Unit))) (x2_7 : List ByteArray) (x2_8 : List (List Int)) (x2_9 : List Bool) : Option Lf :=
 bif decide (x2_4 < x2_3) then
  bif inb x2_4 x2_2.length then
   bif inb x2_4 x2_9.length then
    bif !x2_9.getD x2_4.toNat false then
     bif inb x2_4 x2_0.length then
      bif !x2_0.getD x2_4.toNat false then
       bif rgL x2_9.length (x2_2.getD x2_4.toNat []) then
        bif (x2_2.getD x2_4.toNat []).any (yesC x2_9) then
         bif inb x2_4 x2_9.length then
          g2 (x2_0 : List Bool) (true : Bool) (x2_2 : List (List (ByteArray × List (Int × Int × Unit) × Unit))) (x2_3 : Int) (IntKind.i64.wrap (x2_4 + 1) : Int) (x2_5 : Int) (x2_6 : List (List (ByteArray × List (Int × Int × Unit) × Unit))) (x2_7 : List ByteArray) (x2_8 : List (List Int)) (x2_9.set x2_4.toNat true : List Bool)
         else
          none
        else
         g2 (x2_0 : List Bool) (x2_1 : Bool) (x2_2 : List (List (ByteArray × List (Int × Int × Unit) × Unit))) (x2_3 : Int) (IntKind.i64.wrap (x2_4 + 1) : Int) (x2_5 : Int) (x2_6 : List (List (ByteArray × List (Int × Int × Unit) × Unit))) (x2_7 : List ByteArray) (x2_8 : List (List Int)) (x2_9 : List Bool)
       else
        none
      else
       g2 (x2_0 : List Bool) (x2_1 : Bool) (x2_2 : List (List (ByteArray × List (Int × Int × Unit) × Unit))) (x2_3 : Int) (IntKind.i64.wrap (x2_4 + 1) : Int) (x2_5 : Int) (x2_6 : List (List (ByteArray × List (Int × Int × Unit) × Unit))) (x2_7 : List ByteArray) (x2_8 : List (List Int)) (x2_9 : List Bool)
     else
      none
    else
     g2 (x2_0 : List Bool) (x2_1 : Bool) (x2_2 : List (List (ByteArray × List (Int × Int × Unit) × Unit))) (x2_3 : Int) (IntKind.i64.wrap (x2_4 + 1) : Int) (x2_5 : Int) (x2_6 : List (List (ByteArray × List (Int × Int × Unit) × Unit))) (x2_7 : List ByteArray) (x2_8 : List (List Int)) (x2_9 : List Bool)
   else
    none
  else
   none
 else
  g1 (x2_0 : List Bool) (x2_1 : Bool) (x2_5 : Int) (x2_6 : List (List (ByteArray × List (Int × Int × Unit) × Unit))) (x2_7 : List ByteArray) (x2_8 : List (List Int)) (x2_9 : List Bool)
noncomputable def r14L2 (n : Nat) (g1 : r14G1) : Nat → r14G2
  | 0 => fun _ _ _ _ _ _ _ _ _ _ => none
  | m + 1 => fun x2_0 x2_1 x2_2 x2_3 x2_4 x2_5 x2_6 x2_7 x2_8 x2_9 => r14S2  g1 (r14L2 n g1 m) x2_0 x2_1 x2_2 x2_3 x2_4 x2_5 x2_6 x2_7 x2_8 x2_9
theorem r14S2_ev (n : Nat) (G1 : St → Option Lf) (G : St → Option Lf) (x2_0 : List Bool) (x2_1 : Bool) (x2_2 : List (List (ByteArray × List (Int × Int × Unit) × Unit))) (x2_3 : Int) (x2_4 : Int) (x2_5 : Int) (x2_6 : List (List (ByteArray × List (Int × Int × Unit) × Unit))) (x2_7 : List ByteArray) (x2_8 : List (List Int)) (x2_9 : List Bool) : rnd C19 r14h n Lf (codeOf r14f) [1, 1, 1, 1, 1, 0, 1, 0, 0, 1, 0, 1, 1, 0] [G1] (endK C19 r14h r14f) G (r14H2 x2_0 x2_1 x2_2 x2_3 x2_4 x2_5 x2_6 x2_7 x2_8 x2_9) = r14S2  (r14W1 G1) (r14W2 G) x2_0 x2_1 x2_2 x2_3 x2_4 x2_5 x2_6 x2_7 x2_8 x2_9 := by kernel_rfl
theorem r14W2_ev (n : Nat) (G1 : St → Option Lf) : ∀ m, (r14W2 (lp C19 r14h n Lf (codeOf r14f) [1, 1, 1, 1, 1, 0, 1, 0, 0, 1, 0, 1, 1, 0] [G1] (endK C19 r14h r14f) m)) = r14L2 n (r14W1 G1) m := by
  intro m
  induction m with
  | zero => funext x2_0 x2_1 x2_2 x2_3 x2_4 x2_5 x2_6 x2_7 x2_8 x2_9; exact lp_zero _
  | succ m ih =>
    funext x2_0 x2_1 x2_2 x2_3 x2_4 x2_5 x2_6 x2_7 x2_8 x2_9
    show lp C19 r14h n Lf (codeOf r14f) [1, 1, 1, 1, 1, 0, 1, 0, 0, 1, 0, 1, 1, 0] [G1] (endK C19 r14h r14f) (m + 1) (r14H2 x2_0 x2_1 x2_2 x2_3 x2_4 x2_5 x2_6 x2_7 x2_8 x2_9) = r14S2  (r14W1 G1) (r14L2 n (r14W1 G1) m) x2_0 x2_1 x2_2 x2_3 x2_4 x2_5 x2_6 x2_7 x2_8 x2_9
    rw [lp_succ, r14S2_ev, ih]
abbrev r14G3 := Int → Int → (List Bool) → Option Lf
noncomputable def r14H3 (x3_0 : Int) (x3_1 : Int) (x3_2 : List Bool) : St := (St.mk [dead, dead, dead, dead, dead, dead, dead, dead, (D.p (Pt.one (L.pv (Id.mk 1 0) 0))), dead, dead, dead, dead, dead, dead, dead, dead, dead, dead, dead, dead, dead, dead, dead, dead, dead, dead, dead, dead, dead, dead, dead, dead, dead, dead, dead, dead, dead, dead, dead, dead, dead, dead, dead, dead, dead, dead, dead, dead, dead, dead, dead, dead, dead, dead, dead, dead, dead, dead, dead, dead, dead, dead, dead, dead, dead, dead, dead, dead, dead, dead, (D.p (Pt.one (L.d (Pv.fz true) (Sh.i IntKind.i64) x3_0))), (D.p (Pt.one (L.d (Pv.fz true) (Sh.i IntKind.i64) x3_1))), dead, dead, dead, dead, dead, dead, dead, dead, dead, dead, dead, dead] [[], [(Ob.va [(L.rw (Id.mk 1 1))]), (Ob.ro true 0 4 Sh.b Ow.z x3_2 Option.none)]])
noncomputable def r14W3 (G : St → Option Lf) : r14G3 := fun x3_0 x3_1 x3_2 => G (r14H3 x3_0 x3_1 x3_2)
noncomputable def r14S3  (g3 : r14G3) (x3_0 : Int) (x3_1 : Int) (x3_2 : List Bool) : Option Lf :=
 bif decide (x3_1 < x3_0) then
  bif inb x3_1 x3_2.length then
   bif inb x3_1 x3_2.length then
    g3 (x3_0 : Int) (IntKind.i64.wrap (x3_1 + 1) : Int) (x3_2.set x3_1.toNat !x3_2.getD x3_1.toNat false : List Bool)
   else
    none
  else
   none
 else
  some (Lf.mk [(Pt.one (L.rw (Id.mk 1 0))), (Pt.one (L.d (Pv.fz true) Sh.e (Er.nil : Er)))] [] [(Ob.ro true 0 4 Sh.b Ow.z (x3_2 : List Bool) Option.none)])
noncomputable def r14L3 (n : Nat)  : Nat → r14G3
  | 0 => fun _ _ _ => none
  | m + 1 => fun x3_0 x3_1 x3_2 => r14S3   (r14L3 n  m) x3_0 x3_1 x3_2
theorem r14S3_ev (n : Nat)  (G : St → Option Lf) (x3_0 : Int) (x3_1 : Int) (x3_2 : List Bool) : rnd C19 r14h n Lf (codeOf r14f) [1, 1, 1, 1, 1, 1, 0, 1, 0] [] (endK C19 r14h r14f) G (r14H3 x3_0 x3_1 x3_2) = r14S3   (r14W3 G) x3_0 x3_1 x3_2 := by kernel_rfl
theorem r14W3_ev (n : Nat)  : ∀ m, (r14W3 (lp C19 r14h n Lf (codeOf r14f) [1, 1, 1, 1, 1, 1, 0, 1, 0] [] (endK C19 r14h r14f) m)) = r14L3 n  m := by
  intro m
  induction m with
  | zero => funext x3_0 x3_1 x3_2; exact lp_zero _
  | succ m ih =>
    funext x3_0 x3_1 x3_2
    show lp C19 r14h n Lf (codeOf r14f) [1, 1, 1, 1, 1, 1, 0, 1, 0] [] (endK C19 r14h r14f) (m + 1) (r14H3 x3_0 x3_1 x3_2) = r14S3   (r14L3 n  m) x3_0 x3_1 x3_2
    rw [lp_succ, r14S3_ev, ih]
noncomputable def r14S1 (l2 : r14G2) (l3 : r14G3) (g1 : r14G1) (x1_0 : List Bool) (x1_1 : Bool) (x1_2 : Int) (x1_3 : List (List (ByteArray × List (Int × Int × Unit) × Unit))) (x1_4 : List ByteArray) (x1_5 : List (List Int)) (x1_6 : List Bool) : Option Lf :=
 bif x1_1 then
  l2 (x1_0 : List Bool) (false : Bool) (x1_3 : List (List (ByteArray × List (Int × Int × Unit) × Unit))) (zn x1_3.length : Int) (0 : Int) (x1_2 : Int) (x1_3 : List (List (ByteArray × List (Int × Int × Unit) × Unit))) (x1_4 : List ByteArray) (x1_5 : List (List Int)) (x1_6 : List Bool)
 else
  l3 (zn x1_6.length : Int) (0 : Int) (x1_6 : List Bool)
noncomputable def r14L1 (n : Nat)  : Nat → r14G1
  | 0 => fun _ _ _ _ _ _ _ => none
  | m + 1 => fun x1_0 x1_1 x1_2 x1_3 x1_4 x1_5 x1_6 => r14S1 (r14L2 n (r14L1 n  m) n) (r14L3 n  n)  (r14L1 n  m) x1_0 x1_1 x1_2 x1_3 x1_4 x1_5 x1_6
theorem r14S1_ev (n : Nat)  (G : St → Option Lf) (x1_0 : List Bool) (x1_1 : Bool) (x1_2 : Int) (x1_3 : List (List (ByteArray × List (Int × Int × Unit) × Unit))) (x1_4 : List ByteArray) (x1_5 : List (List Int)) (x1_6 : List Bool) : rnd C19 r14h n Lf (codeOf r14f) [1, 1, 1, 1, 1, 0, 1, 0] [] (endK C19 r14h r14f) G (r14H1 x1_0 x1_1 x1_2 x1_3 x1_4 x1_5 x1_6) = r14S1 (r14W2 (lp C19 r14h n Lf (codeOf r14f) [1, 1, 1, 1, 1, 0, 1, 0, 0, 1, 0, 1, 1, 0] [G] (endK C19 r14h r14f) n)) (r14W3 (lp C19 r14h n Lf (codeOf r14f) [1, 1, 1, 1, 1, 1, 0, 1, 0] [] (endK C19 r14h r14f) n))  (r14W1 G) x1_0 x1_1 x1_2 x1_3 x1_4 x1_5 x1_6 := by kernel_rfl
theorem r14W1_ev (n : Nat)  : ∀ m, (r14W1 (lp C19 r14h n Lf (codeOf r14f) [1, 1, 1, 1, 1, 0, 1, 0] [] (endK C19 r14h r14f) m)) = r14L1 n  m := by
  intro m
  induction m with
  | zero => funext x1_0 x1_1 x1_2 x1_3 x1_4 x1_5 x1_6; exact lp_zero _
  | succ m ih =>
    have e2 : (r14W2 (lp C19 r14h n Lf (codeOf r14f) [1, 1, 1, 1, 1, 0, 1, 0, 0, 1, 0, 1, 1, 0] [(lp C19 r14h n Lf (codeOf r14f) [1, 1, 1, 1, 1, 0, 1, 0] [] (endK C19 r14h r14f) m)] (endK C19 r14h r14f) n)) = (r14L2 n (r14L1 n  m) n) := by
      rw [r14W2_ev, ih]
    have e3 : (r14W3 (lp C19 r14h n Lf (codeOf r14f) [1, 1, 1, 1, 1, 1, 0, 1, 0] [] (endK C19 r14h r14f) n)) = (r14L3 n  n) := by
      rw [r14W3_ev]
    funext x1_0 x1_1 x1_2 x1_3 x1_4 x1_5 x1_6
    show lp C19 r14h n Lf (codeOf r14f) [1, 1, 1, 1, 1, 0, 1, 0] [] (endK C19 r14h r14f) (m + 1) (r14H1 x1_0 x1_1 x1_2 x1_3 x1_4 x1_5 x1_6) = r14S1 (r14L2 n (r14L1 n  m) n) (r14L3 n  n)  (r14L1 n  m) x1_0 x1_1 x1_2 x1_3 x1_4 x1_5 x1_6
    rw [lp_succ, r14S1_ev, ih, e2, e3]
noncomputable def r14S0 (l1 : r14G1) (g0 : r14G0) (x0_0 : List Bool) (x0_1 : Int) (x0_2 : Int) (x0_3 : Int) (x0_4 : List (List (ByteArray × List (Int × Int × Unit) × Unit))) (x0_5 : List ByteArray) (x0_6 : List (List Int)) (x0_7 : List Bool) (x0_8 : List Bool) : Option Lf :=
 bif decide (x0_2 < x0_1) then
  bif inb x0_2 x0_7.length then
   bif inb x0_2 x0_8.length then
    g0 (x0_0 : List Bool) (x0_1 : Int) (IntKind.i64.wrap (x0_2 + 1) : Int) (x0_3 : Int) (x0_4 : List (List (ByteArray × List (Int × Int × Unit) × Unit))) (x0_5 : List ByteArray) (x0_6 : List (List Int)) (x0_7 : List Bool) (x0_8.set x0_2.toNat !x0_7.getD x0_2.toNat false : List Bool)
   else
    none
  else
   none
 else
  l1 (x0_0 : List Bool) (true : Bool) (x0_3 : Int) (x0_4 : List (List (ByteArray × List (Int × Int × Unit) × Unit))) (x0_5 : List ByteArray) (x0_6 : List (List Int)) (x0_8 : List Bool)
noncomputable def r14L0 (n : Nat)  : Nat → r14G0
  | 0 => fun _ _ _ _ _ _ _ _ _ => none
  | m + 1 => fun x0_0 x0_1 x0_2 x0_3 x0_4 x0_5 x0_6 x0_7 x0_8 => r14S0 (r14L1 n  n)  (r14L0 n  m) x0_0 x0_1 x0_2 x0_3 x0_4 x0_5 x0_6 x0_7 x0_8
theorem r14S0_ev (n : Nat)  (G : St → Option Lf) (x0_0 : List Bool) (x0_1 : Int) (x0_2 : Int) (x0_3 : Int) (x0_4 : List (List (ByteArray × List (Int × Int × Unit) × Unit))) (x0_5 : List ByteArray) (x0_6 : List (List Int)) (x0_7 : List Bool) (x0_8 : List Bool) : rnd C19 r14h n Lf (codeOf r14f) [1, 1, 1, 1, 0, 1, 0] [] (endK C19 r14h r14f) G (r14H0 x0_0 x0_1 x0_2 x0_3 x0_4 x0_5 x0_6 x0_7 x0_8) = r14S0 (r14W1 (lp C19 r14h n Lf (codeOf r14f) [1, 1, 1, 1, 1, 0, 1, 0] [] (endK C19 r14h r14f) n))  (r14W0 G) x0_0 x0_1 x0_2 x0_3 x0_4 x0_5 x0_6 x0_7 x0_8 := by kernel_rfl
theorem r14W0_ev (n : Nat)  : ∀ m, (r14W0 (lp C19 r14h n Lf (codeOf r14f) [1, 1, 1, 1, 0, 1, 0] [] (endK C19 r14h r14f) m)) = r14L0 n  m := by
  intro m
  induction m with
  | zero => funext x0_0 x0_1 x0_2 x0_3 x0_4 x0_5 x0_6 x0_7 x0_8; exact lp_zero _
  | succ m ih =>
    have e1 : (r14W1 (lp C19 r14h n Lf (codeOf r14f) [1, 1, 1, 1, 1, 0, 1, 0] [] (endK C19 r14h r14f) n)) = (r14L1 n  n) := by
      rw [r14W1_ev]
    funext x0_0 x0_1 x0_2 x0_3 x0_4 x0_5 x0_6 x0_7 x0_8
    show lp C19 r14h n Lf (codeOf r14f) [1, 1, 1, 1, 0, 1, 0] [] (endK C19 r14h r14f) (m + 1) (r14H0 x0_0 x0_1 x0_2 x0_3 x0_4 x0_5 x0_6 x0_7 x0_8) = r14S0 (r14L1 n  n)  (r14L0 n  m) x0_0 x0_1 x0_2 x0_3 x0_4 x0_5 x0_6 x0_7 x0_8
    rw [lp_succ, r14S0_ev, ih, e1]
noncomputable def r14T (l0 : r14G0) (i : Int) (ch : List (List (ByteArray × List (Int × Int × Unit) × Unit))) (nm : List ByteArray) (ho : List (List Int)) (set : List Bool) : Option Lf :=
 bif mdG ch nm ho then
  bif !(er1 (mdOk i ch nm ho && zn set.length == zn ch.length)).isNil then
   some (Lf.mk [(Pt.one (L.rw (Id.mk 1 0))), (Pt.one (L.d (Pv.fz true) Sh.e (er1 (mdOk i ch nm ho && zn set.length == zn ch.length) : Er)))] [] [(Ob.ro true 0 4 Sh.b Ow.z ([] : List Bool) Option.none)])
  else
   bif rgS ch set then
    bif decide (0 ≤ zn set.length) && (decide (zn set.length ≤ zn set.length) && decide (1 * (zn set.length).toNat ≤ 140737488355328)) then
     l0 (set : List Bool) (zn (allF ch set).length : Int) (0 : Int) (i : Int) (ch : List (List (ByteArray × List (Int × Int × Unit) × Unit))) (nm : List ByteArray) (ho : List (List Int)) (allF ch set : List Bool) (List.replicate (zn set.length).toNat false : List Bool)
    else
     none
   else
    none
 else
  none
noncomputable def r14M (n : Nat) (i : Int) (ch : List (List (ByteArray × List (Int × Int × Unit) × Unit))) (nm : List ByteArray) (ho : List (List Int)) (set : List Bool) : Option Lf := r14T (r14L0 n n) i ch nm ho set
theorem r14T_ev (n : Nat) (i : Int) (ch : List (List (ByteArray × List (Int × Int × Unit) × Unit))) (nm : List ByteArray) (ho : List (List Int)) (set : List Bool) : evF C19 r14h n r14f [(D.p (Pt.agg [(L.d (Pv.fz true) (Sh.i IntKind.i64) i), (L.d (Pv.fz false) (Sh.l (Sh.l (Sh.p Sh.s (Sh.p (Sh.l (Sh.p (Sh.i IntKind.i64) (Sh.p (Sh.i IntKind.i64) Sh.u))) Sh.u)))) ch), (L.d (Pv.fz false) (Sh.l Sh.s) nm), (L.d (Pv.fz false) (Sh.l (Sh.l (Sh.i IntKind.i64))) ho)])), (D.p (Pt.one (L.d (Pv.fz false) (Sh.l Sh.b) set)))] [] = r14T (r14W0 (lp C19 r14h n Lf (codeOf r14f) [1, 1, 1, 1, 0, 1, 0] [] (endK C19 r14h r14f) n)) i ch nm ho set := by kernel_rfl
theorem r14_ev (n : Nat) (i : Int) (ch : List (List (ByteArray × List (Int × Int × Unit) × Unit))) (nm : List ByteArray) (ho : List (List Int)) (set : List Bool) : evF C19 r14h n r14f [(D.p (Pt.agg [(L.d (Pv.fz true) (Sh.i IntKind.i64) i), (L.d (Pv.fz false) (Sh.l (Sh.l (Sh.p Sh.s (Sh.p (Sh.l (Sh.p (Sh.i IntKind.i64) (Sh.p (Sh.i IntKind.i64) Sh.u))) Sh.u)))) ch), (L.d (Pv.fz false) (Sh.l Sh.s) nm), (L.d (Pv.fz false) (Sh.l (Sh.l (Sh.i IntKind.i64))) ho)])), (D.p (Pt.one (L.d (Pv.fz false) (Sh.l Sh.b) set)))] [] = r14M n i ch nm ho set := by
  rw [r14T_ev, r14W0_ev]
  rfl
end Go.S22
