/-
  Seat 11: functional forms: processes
-/
import Derived.Test.YtoghhokbakphlaaDoorS11A
open Go Go.En Go.S11
namespace Go.S11


abbrev f38h : Hn := h44
noncomputable abbrev f38f : Func := fn 23
abbrev f38G0 := Int → Int → (List Int) → Int → Int → Option Lf
noncomputable def f38H0 (x0_0 : Int) (x0_1 : Int) (x0_2 : List Int) (x0_3 : Int) (x0_4 : Int) : St := (St.mk [dead, (D.p (Pt.one (L.d (Pv.fz true) (Sh.i IntKind.i64) x0_0))), dead, dead, dead, (D.p (Pt.one (L.d (Pv.fz true) (Sh.i IntKind.i64) x0_1))), dead, dead, (D.p (Pt.one (L.d (Pv.fz false) (Sh.l (Sh.i IntKind.i64)) x0_2))), (D.p (Pt.one (L.d (Pv.fz true) (Sh.i IntKind.i64) x0_3))), (D.p (Pt.one (L.d (Pv.fz true) (Sh.i IntKind.i64) x0_4))), dead, dead, dead, dead, dead, dead, dead, dead, dead, dead, dead, dead, dead] [[], []])
noncomputable def f38W0 (G : St → Option Lf) : f38G0 := fun x0_0 x0_1 x0_2 x0_3 x0_4 => G (f38H0 x0_0 x0_1 x0_2 x0_3 x0_4)
noncomputable def f38S0  (g0 : f38G0) (x0_0 : Int) (x0_1 : Int) (x0_2 : List Int) (x0_3 : Int) (x0_4 : Int) : Option Lf :=
 bif decide (x0_4 < x0_3) then
  bif inb x0_4 x0_2.length then
   bif decide (x0_2.getD x0_4.toNat 0 ≤ x0_1) || decide (x0_2.getD x0_4.toNat 0 ≥ x0_0) then
    some (Lf.mk [(Pt.one (L.d (Pv.fz true) Sh.b (false : Bool)))] [] [])
   else
    g0 (x0_0 : Int) (x0_2.getD x0_4.toNat 0 : Int) (x0_2 : List Int) (x0_3 : Int) (IntKind.i64.wrap (x0_4 + 1) : Int)
  else
   none
 else
  some (Lf.mk [(Pt.one (L.d (Pv.fz true) Sh.b (true : Bool)))] [] [])
noncomputable def f38L0 (n : Nat)  : Nat → f38G0
  | 0 => fun _ _ _ _ _ => none
  | m + 1 => fun x0_0 x0_1 x0_2 x0_3 x0_4 => f38S0   (f38L0 n  m) x0_0 x0_1 x0_2 x0_3 x0_4
theorem f38S0_ev (n : Nat)  (G : St → Option Lf) (x0_0 : Int) (x0_1 : Int) (x0_2 : List Int) (x0_3 : Int) (x0_4 : Int) : rnd C1 f38h n Lf (codeOf f38f) [1, 1, 0, 1, 0] [] (endK C1 f38h f38f) G (f38H0 x0_0 x0_1 x0_2 x0_3 x0_4) = f38S0   (f38W0 G) x0_0 x0_1 x0_2 x0_3 x0_4 := by kernel_rfl
theorem f38W0_ev (n : Nat)  : ∀ m, (f38W0 (lp C1 f38h n Lf (codeOf f38f) [1, 1, 0, 1, 0] [] (endK C1 f38h f38f) m)) = f38L0 n  m := by
  intro m
  induction m with
  | zero => funext x0_0 x0_1 x0_2 x0_3 x0_4; exact lp_zero _
  | succ m ih =>
    funext x0_0 x0_1 x0_2 x0_3 x0_4
    show lp C1 f38h n Lf (codeOf f38f) [1, 1, 0, 1, 0] [] (endK C1 f38h f38f) (m + 1) (f38H0 x0_0 x0_1 x0_2 x0_3 x0_4) = f38S0   (f38L0 n  m) x0_0 x0_1 x0_2 x0_3 x0_4
    rw [lp_succ, f38S0_ev, ih]
noncomputable def f38T (l0 : f38G0) (l : List Int) (z : Int) : Option Lf :=
 l0 (z : Int) (-1 : Int) (l : List Int) (zn l.length : Int) (0 : Int)
noncomputable def f38M (n : Nat) (l : List Int) (z : Int) : Option Lf := f38T (f38L0 n n) l z
theorem f38T_ev (n : Nat) (l : List Int) (z : Int) : evF C1 f38h n f38f [(D.p (Pt.one (L.d (Pv.fz false) (Sh.l (Sh.i IntKind.i64)) l))), (D.p (Pt.one (L.d (Pv.fz true) (Sh.i IntKind.i64) z)))] [] = f38T (f38W0 (lp C1 f38h n Lf (codeOf f38f) [1, 1, 0, 1, 0] [] (endK C1 f38h f38f) n)) l z := by kernel_rfl
theorem f38_ev (n : Nat) (l : List Int) (z : Int) : evF C1 f38h n f38f [(D.p (Pt.one (L.d (Pv.fz false) (Sh.l (Sh.i IntKind.i64)) l))), (D.p (Pt.one (L.d (Pv.fz true) (Sh.i IntKind.i64) z)))] [] = f38M n l z := by
  rw [f38T_ev, f38W0_ev]
  rfl

abbrev f9h : Hn := h9
noncomputable abbrev f9f : Func := fn 7
abbrev f9G0 := Int → Int → (List (List (ByteArray × List (Int × Int × Unit) × Unit))) → (List ByteArray) → (List (List Int)) → Option Lf
noncomputable def f9H0 (x0_0 : Int) (x0_1 : Int) (x0_2 : List (List (ByteArray × List (Int × Int × Unit) × Unit))) (x0_3 : List ByteArray) (x0_4 : List (List Int)) : St := (St.mk [dead, (D.p (Pt.one (L.pv (Id.mk 1 0) 0))), dead, (D.p (Pt.one (L.d (Pv.fz true) (Sh.i IntKind.i64) x0_0))), dead, dead, dead, dead, dead, dead, dead, dead, dead, dead, dead, dead, dead, dead, dead, dead, dead, dead, dead, dead, dead, dead, dead, dead, dead, dead, dead, dead, dead, dead, dead, dead, dead, dead, dead, dead, dead, dead, dead, dead, dead, dead, dead, dead, dead, dead, dead, dead, dead, dead, dead, dead, dead, dead, dead, dead, dead, dead, dead, dead, dead, dead, dead, dead, dead, dead, dead] [[], [(Ob.va [(L.d (Pv.fz true) (Sh.i IntKind.i64) x0_1), (L.d (Pv.fz false) (Sh.l (Sh.l (Sh.p Sh.s (Sh.p (Sh.l (Sh.p (Sh.i IntKind.i64) (Sh.p (Sh.i IntKind.i64) Sh.u))) Sh.u)))) x0_2), (L.d (Pv.fz false) (Sh.l Sh.s) x0_3), (L.d (Pv.fz false) (Sh.l (Sh.l (Sh.i IntKind.i64))) x0_4)])]])
noncomputable def f9W0 (G : St → Option Lf) : f9G0 := fun x0_0 x0_1 x0_2 x0_3 x0_4 => G (f9H0 x0_0 x0_1 x0_2 x0_3 x0_4)
abbrev f9G1 := Int → Int → Int → (List (List (ByteArray × List (Int × Int × Unit) × Unit))) → (List ByteArray) → (List (List Int)) → Option Lf
noncomputable def f9H1 (x1_0 : Int) (x1_1 : Int) (x1_2 : Int) (x1_3 : List (List (ByteArray × List (Int × Int × Unit) × Unit))) (x1_4 : List ByteArray) (x1_5 : List (List Int)) : St := (St.mk [dead, (D.p (Pt.one (L.pv (Id.mk 1 0) 0))), dead, (D.p (Pt.one (L.d (Pv.fz true) (Sh.i IntKind.i64) x1_0))), (D.p (Pt.one (L.d (Pv.fz true) (Sh.i IntKind.i64) x1_1))), dead, dead, dead, dead, dead, dead, dead, dead, dead, dead, dead, dead, dead, dead, dead, dead, dead, dead, dead, dead, dead, dead, dead, dead, dead, dead, dead, dead, dead, dead, dead, dead, dead, dead, dead, dead, dead, dead, dead, dead, dead, dead, dead, dead, dead, dead, dead, dead, dead, dead, dead, dead, dead, dead, dead, dead, dead, dead, dead, dead, dead, dead, dead, dead, dead, dead] [[], [(Ob.va [(L.d (Pv.fz true) (Sh.i IntKind.i64) x1_2), (L.d (Pv.fz false) (Sh.l (Sh.l (Sh.p Sh.s (Sh.p (Sh.l (Sh.p (Sh.i IntKind.i64) (Sh.p (Sh.i IntKind.i64) Sh.u))) Sh.u)))) x1_3), (L.d (Pv.fz false) (Sh.l Sh.s) x1_4), (L.d (Pv.fz false) (Sh.l (Sh.l (Sh.i IntKind.i64))) x1_5)])]])
noncomputable def f9W1 (G : St → Option Lf) : f9G1 := fun x1_0 x1_1 x1_2 x1_3 x1_4 x1_5 => G (f9H1 x1_0 x1_1 x1_2 x1_3 x1_4 x1_5)
noncomputable def f9S1  (g0 : f9G0) (g1 : f9G1) (x1_0 : Int) (x1_1 : Int) (x1_2 : Int) (x1_3 : List (List (ByteArray × List (Int × Int × Unit) × Unit))) (x1_4 : List ByteArray) (x1_5 : List (List Int)) : Option Lf :=
 bif inb x1_0 x1_3.length then
  bif decide (x1_1 < zn (x1_3.getD x1_0.toNat []).length) then
   bif inb x1_0 x1_3.length then
    bif inb x1_1 (x1_3.getD x1_0.toNat []).length then
     bif decide (zn ((x1_3.getD x1_0.toNat []).getD x1_1.toNat ({ data := #[] }, [], ())).snd.fst.length > 20) then
      some (Lf.mk [(Pt.one (L.d (Pv.fz true) Sh.b (true : Bool)))] [] [])
     else
      g1 (x1_0 : Int) (IntKind.i64.wrap (x1_1 + 1) : Int) (x1_2 : Int) (x1_3 : List (List (ByteArray × List (Int × Int × Unit) × Unit))) (x1_4 : List ByteArray) (x1_5 : List (List Int))
    else
     none
   else
    none
  else
   g0 (IntKind.i64.wrap (x1_0 + 1) : Int) (x1_2 : Int) (x1_3 : List (List (ByteArray × List (Int × Int × Unit) × Unit))) (x1_4 : List ByteArray) (x1_5 : List (List Int))
 else
  none
noncomputable def f9L1 (n : Nat) (g0 : f9G0) : Nat → f9G1
  | 0 => fun _ _ _ _ _ _ => none
  | m + 1 => fun x1_0 x1_1 x1_2 x1_3 x1_4 x1_5 => f9S1  g0 (f9L1 n g0 m) x1_0 x1_1 x1_2 x1_3 x1_4 x1_5
theorem f9S1_ev (n : Nat) (G0 : St → Option Lf) (G : St → Option Lf) (x1_0 : Int) (x1_1 : Int) (x1_2 : Int) (x1_3 : List (List (ByteArray × List (Int × Int × Unit) × Unit))) (x1_4 : List ByteArray) (x1_5 : List (List Int)) : rnd C1 f9h n Lf (codeOf f9f) [1, 1, 0, 1, 0, 0, 1, 0, 0, 1, 1, 0] [G0] (endK C1 f9h f9f) G (f9H1 x1_0 x1_1 x1_2 x1_3 x1_4 x1_5) = f9S1  (f9W0 G0) (f9W1 G) x1_0 x1_1 x1_2 x1_3 x1_4 x1_5 := by kernel_rfl
theorem f9W1_ev (n : Nat) (G0 : St → Option Lf) : ∀ m, (f9W1 (lp C1 f9h n Lf (codeOf f9f) [1, 1, 0, 1, 0, 0, 1, 0, 0, 1, 1, 0] [G0] (endK C1 f9h f9f) m)) = f9L1 n (f9W0 G0) m := by
  intro m
  induction m with
  | zero => funext x1_0 x1_1 x1_2 x1_3 x1_4 x1_5; exact lp_zero _
  | succ m ih =>
    funext x1_0 x1_1 x1_2 x1_3 x1_4 x1_5
    show lp C1 f9h n Lf (codeOf f9f) [1, 1, 0, 1, 0, 0, 1, 0, 0, 1, 1, 0] [G0] (endK C1 f9h f9f) (m + 1) (f9H1 x1_0 x1_1 x1_2 x1_3 x1_4 x1_5) = f9S1  (f9W0 G0) (f9L1 n (f9W0 G0) m) x1_0 x1_1 x1_2 x1_3 x1_4 x1_5
    rw [lp_succ, f9S1_ev, ih]
abbrev f9G2 := Int → Int → (List (List (ByteArray × List (Int × Int × Unit) × Unit))) → (List ByteArray) → (List (List Int)) → Option Lf
noncomputable def f9H2 (x2_0 : Int) (x2_1 : Int) (x2_2 : List (List (ByteArray × List (Int × Int × Unit) × Unit))) (x2_3 : List ByteArray) (x2_4 : List (List Int)) : St := (St.mk [dead, (D.p (Pt.one (L.pv (Id.mk 1 0) 0))), dead, dead, dead, (D.p (Pt.one (L.d (Pv.fz true) (Sh.i IntKind.i64) x2_0))), dead, dead, dead, dead, dead, dead, dead, dead, dead, dead, dead, dead, dead, dead, dead, dead, dead, dead, dead, dead, dead, dead, dead, dead, dead, dead, dead, dead, dead, dead, dead, dead, dead, dead, dead, dead, dead, dead, dead, dead, dead, dead, dead, dead, dead, dead, dead, dead, dead, dead, dead, dead, dead, dead, dead, dead, dead, dead, dead, dead, dead, dead, dead, dead, dead] [[], [(Ob.va [(L.d (Pv.fz true) (Sh.i IntKind.i64) x2_1), (L.d (Pv.fz false) (Sh.l (Sh.l (Sh.p Sh.s (Sh.p (Sh.l (Sh.p (Sh.i IntKind.i64) (Sh.p (Sh.i IntKind.i64) Sh.u))) Sh.u)))) x2_2), (L.d (Pv.fz false) (Sh.l Sh.s) x2_3), (L.d (Pv.fz false) (Sh.l (Sh.l (Sh.i IntKind.i64))) x2_4)])]])
noncomputable def f9W2 (G : St → Option Lf) : f9G2 := fun x2_0 x2_1 x2_2 x2_3 x2_4 => G (f9H2 x2_0 x2_1 x2_2 x2_3 x2_4)
noncomputable def f9S2  (g2 : f9G2) (x2_0 : Int) (x2_1 : Int) (x2_2 : List (List (ByteArray × List (Int × Int × Unit) × Unit))) (x2_3 : List ByteArray) (x2_4 : List (List Int)) : Option Lf :=
 bif decide (x2_0 < zn x2_4.length) then
  bif inb x2_0 x2_4.length then
   bif decide (zn (x2_4.getD x2_0.toNat []).length > 20) then
    some (Lf.mk [(Pt.one (L.d (Pv.fz true) Sh.b (true : Bool)))] [] [])
   else
    g2 (IntKind.i64.wrap (x2_0 + 1) : Int) (x2_1 : Int) (x2_2 : List (List (ByteArray × List (Int × Int × Unit) × Unit))) (x2_3 : List ByteArray) (x2_4 : List (List Int))
  else
   none
 else
  some (Lf.mk [(Pt.one (L.d (Pv.fz true) Sh.b (false : Bool)))] [] [])
noncomputable def f9L2 (n : Nat)  : Nat → f9G2
  | 0 => fun _ _ _ _ _ => none
  | m + 1 => fun x2_0 x2_1 x2_2 x2_3 x2_4 => f9S2   (f9L2 n  m) x2_0 x2_1 x2_2 x2_3 x2_4
theorem f9S2_ev (n : Nat)  (G : St → Option Lf) (x2_0 : Int) (x2_1 : Int) (x2_2 : List (List (ByteArray × List (Int × Int × Unit) × Unit))) (x2_3 : List ByteArray) (x2_4 : List (List Int)) : rnd C1 f9h n Lf (codeOf f9f) [1, 1, 1, 0, 1, 0] [] (endK C1 f9h f9f) G (f9H2 x2_0 x2_1 x2_2 x2_3 x2_4) = f9S2   (f9W2 G) x2_0 x2_1 x2_2 x2_3 x2_4 := by kernel_rfl
theorem f9W2_ev (n : Nat)  : ∀ m, (f9W2 (lp C1 f9h n Lf (codeOf f9f) [1, 1, 1, 0, 1, 0] [] (endK C1 f9h f9f) m)) = f9L2 n  m := by
  intro m
  induction m with
  | zero => funext x2_0 x2_1 x2_2 x2_3 x2_4; exact lp_zero _
  | succ m ih =>
    funext x2_0 x2_1 x2_2 x2_3 x2_4
    show lp C1 f9h n Lf (codeOf f9f) [1, 1, 1, 0, 1, 0] [] (endK C1 f9h f9f) (m + 1) (f9H2 x2_0 x2_1 x2_2 x2_3 x2_4) = f9S2   (f9L2 n  m) x2_0 x2_1 x2_2 x2_3 x2_4
    rw [lp_succ, f9S2_ev, ih]
noncomputable def f9S0 (l1 : f9G1) (l2 : f9G2) (g0 : f9G0) (x0_0 : Int) (x0_1 : Int) (x0_2 : List (List (ByteArray × List (Int × Int × Unit) × Unit))) (x0_3 : List ByteArray) (x0_4 : List (List Int)) : Option Lf :=
 bif decide (x0_0 < zn x0_2.length) then
  bif inb x0_0 x0_2.length then
   bif decide (zn (x0_2.getD x0_0.toNat []).length > 10) then
    some (Lf.mk [(Pt.one (L.d (Pv.fz true) Sh.b (true : Bool)))] [] [])
   else
    l1 (x0_0 : Int) (0 : Int) (x0_1 : Int) (x0_2 : List (List (ByteArray × List (Int × Int × Unit) × Unit))) (x0_3 : List ByteArray) (x0_4 : List (List Int))
  else
   none
 else
  l2 (0 : Int) (x0_1 : Int) (x0_2 : List (List (ByteArray × List (Int × Int × Unit) × Unit))) (x0_3 : List ByteArray) (x0_4 : List (List Int))
noncomputable def f9L0 (n : Nat)  : Nat → f9G0
  | 0 => fun _ _ _ _ _ => none
  | m + 1 => fun x0_0 x0_1 x0_2 x0_3 x0_4 => f9S0 (f9L1 n (f9L0 n  m) n) (f9L2 n  n)  (f9L0 n  m) x0_0 x0_1 x0_2 x0_3 x0_4
theorem f9S0_ev (n : Nat)  (G : St → Option Lf) (x0_0 : Int) (x0_1 : Int) (x0_2 : List (List (ByteArray × List (Int × Int × Unit) × Unit))) (x0_3 : List ByteArray) (x0_4 : List (List Int)) : rnd C1 f9h n Lf (codeOf f9f) [1, 1, 0, 1, 0] [] (endK C1 f9h f9f) G (f9H0 x0_0 x0_1 x0_2 x0_3 x0_4) = f9S0 (f9W1 (lp C1 f9h n Lf (codeOf f9f) [1, 1, 0, 1, 0, 0, 1, 0, 0, 1, 1, 0] [G] (endK C1 f9h f9f) n)) (f9W2 (lp C1 f9h n Lf (codeOf f9f) [1, 1, 1, 0, 1, 0] [] (endK C1 f9h f9f) n))  (f9W0 G) x0_0 x0_1 x0_2 x0_3 x0_4 := by kernel_rfl
theorem f9W0_ev (n : Nat)  : ∀ m, (f9W0 (lp C1 f9h n Lf (codeOf f9f) [1, 1, 0, 1, 0] [] (endK C1 f9h f9f) m)) = f9L0 n  m := by
  intro m
  induction m with
  | zero => funext x0_0 x0_1 x0_2 x0_3 x0_4; exact lp_zero _
  | succ m ih =>
    have e1 : (f9W1 (lp C1 f9h n Lf (codeOf f9f) [1, 1, 0, 1, 0, 0, 1, 0, 0, 1, 1, 0] [(lp C1 f9h n Lf (codeOf f9f) [1, 1, 0, 1, 0] [] (endK C1 f9h f9f) m)] (endK C1 f9h f9f) n)) = (f9L1 n (f9L0 n  m) n) := by
      rw [f9W1_ev, ih]
    have e2 : (f9W2 (lp C1 f9h n Lf (codeOf f9f) [1, 1, 1, 0, 1, 0] [] (endK C1 f9h f9f) n)) = (f9L2 n  n) := by
      rw [f9W2_ev]
    funext x0_0 x0_1 x0_2 x0_3 x0_4
    show lp C1 f9h n Lf (codeOf f9f) [1, 1, 0, 1, 0] [] (endK C1 f9h f9f) (m + 1) (f9H0 x0_0 x0_1 x0_2 x0_3 x0_4) = f9S0 (f9L1 n (f9L0 n  m) n) (f9L2 n  n)  (f9L0 n  m) x0_0 x0_1 x0_2 x0_3 x0_4
    rw [lp_succ, f9S0_ev, ih, e1, e2]
noncomputable def f9T (l0 : f9G0) (i : Int) (ch : List (List (ByteArray × List (Int × Int × Unit) × Unit))) (nm : List ByteArray) (ho : List (List Int)) : Option Lf :=
 bif Nat.beq 1 1 && (decide (zn ch.length > 40) || Nat.beq 1 1 && (decide (zn ho.length > 40) || true)) then
  bif decide (zn ch.length > 40) || (decide (zn ho.length > 40) || decide (zn nm.length > 12)) then
   some (Lf.mk [(Pt.one (L.d (Pv.fz true) Sh.b (true : Bool)))] [] [])
  else
   l0 (0 : Int) (i : Int) (ch : List (List (ByteArray × List (Int × Int × Unit) × Unit))) (nm : List ByteArray) (ho : List (List Int))
 else
  none
noncomputable def f9M (n : Nat) (i : Int) (ch : List (List (ByteArray × List (Int × Int × Unit) × Unit))) (nm : List ByteArray) (ho : List (List Int)) : Option Lf := f9T (f9L0 n n) i ch nm ho
theorem f9T_ev (n : Nat) (i : Int) (ch : List (List (ByteArray × List (Int × Int × Unit) × Unit))) (nm : List ByteArray) (ho : List (List Int)) : evF C1 f9h n f9f [(D.p (Pt.agg [(L.d (Pv.fz true) (Sh.i IntKind.i64) i), (L.d (Pv.fz false) (Sh.l (Sh.l (Sh.p Sh.s (Sh.p (Sh.l (Sh.p (Sh.i IntKind.i64) (Sh.p (Sh.i IntKind.i64) Sh.u))) Sh.u)))) ch), (L.d (Pv.fz false) (Sh.l Sh.s) nm), (L.d (Pv.fz false) (Sh.l (Sh.l (Sh.i IntKind.i64))) ho)]))] [] = f9T (f9W0 (lp C1 f9h n Lf (codeOf f9f) [1, 1, 0, 1, 0] [] (endK C1 f9h f9f) n)) i ch nm ho := by kernel_rfl
theorem f9_ev (n : Nat) (i : Int) (ch : List (List (ByteArray × List (Int × Int × Unit) × Unit))) (nm : List ByteArray) (ho : List (List Int)) : evF C1 f9h n f9f [(D.p (Pt.agg [(L.d (Pv.fz true) (Sh.i IntKind.i64) i), (L.d (Pv.fz false) (Sh.l (Sh.l (Sh.p Sh.s (Sh.p (Sh.l (Sh.p (Sh.i IntKind.i64) (Sh.p (Sh.i IntKind.i64) Sh.u))) Sh.u)))) ch), (L.d (Pv.fz false) (Sh.l Sh.s) nm), (L.d (Pv.fz false) (Sh.l (Sh.l (Sh.i IntKind.i64))) ho)]))] [] = f9M n i ch nm ho := by
  rw [f9T_ev, f9W0_ev]
  rfl

abbrev f37h : Hn := h37
noncomputable abbrev f37f : Func := fn 22
abbrev f37G0 := (List ByteArray) → (List ByteArray) → Int → Int → (List (ByteArray × Bool)) → Option Lf
noncomputable def f37H0 (x0_0 : List ByteArray) (x0_1 : List ByteArray) (x0_2 : Int) (x0_3 : Int) (x0_4 : List (ByteArray × Bool)) : St := (St.mk [(D.p (Pt.one (L.d (Pv.fz false) (Sh.l Sh.s) x0_0))), dead, dead, (D.p (Pt.one (L.mp (Id.mk 1 0)))), dead, dead, dead, (D.p (Pt.one (L.d (Pv.fz false) (Sh.l Sh.s) x0_1))), (D.p (Pt.one (L.d (Pv.fz true) (Sh.i IntKind.i64) x0_2))), (D.p (Pt.one (L.d (Pv.fz true) (Sh.i IntKind.i64) x0_3))), dead, dead, dead, dead, dead, dead, dead, dead, dead, dead, dead] [[], [(Ob.ma Sh.s Sh.b x0_4)]])
noncomputable def f37W0 (G : St → Option Lf) : f37G0 := fun x0_0 x0_1 x0_2 x0_3 x0_4 => G (f37H0 x0_0 x0_1 x0_2 x0_3 x0_4)
noncomputable def f37S0  (g0 : f37G0) (x0_0 : List ByteArray) (x0_1 : List ByteArray) (x0_2 : Int) (x0_3 : Int) (x0_4 : List (ByteArray × Bool)) : Option Lf :=
 bif decide (x0_3 < x0_2) then
  bif inb x0_3 x0_1.length then
   g0 (x0_0 : List ByteArray) (x0_1 : List ByteArray) (x0_2 : Int) (IntKind.i64.wrap (x0_3 + 1) : Int) (mapSet Sh.s Sh.b (x0_1.getD x0_3.toNat { data := #[] }) true x0_4 : List (ByteArray × Bool))
  else
   none
 else
  some (Lf.mk [(Pt.one (L.d (Pv.fz true) Sh.b (zn x0_4.length == zn x0_0.length : Bool)))] [] [])
noncomputable def f37L0 (n : Nat)  : Nat → f37G0
  | 0 => fun _ _ _ _ _ => none
  | m + 1 => fun x0_0 x0_1 x0_2 x0_3 x0_4 => f37S0   (f37L0 n  m) x0_0 x0_1 x0_2 x0_3 x0_4
theorem f37S0_ev (n : Nat)  (G : St → Option Lf) (x0_0 : List ByteArray) (x0_1 : List ByteArray) (x0_2 : Int) (x0_3 : Int) (x0_4 : List (ByteArray × Bool)) : rnd C1 f37h n Lf (codeOf f37f) [1, 1, 0, 1, 0] [] (endK C1 f37h f37f) G (f37H0 x0_0 x0_1 x0_2 x0_3 x0_4) = f37S0   (f37W0 G) x0_0 x0_1 x0_2 x0_3 x0_4 := by kernel_rfl
theorem f37W0_ev (n : Nat)  : ∀ m, (f37W0 (lp C1 f37h n Lf (codeOf f37f) [1, 1, 0, 1, 0] [] (endK C1 f37h f37f) m)) = f37L0 n  m := by
  intro m
  induction m with
  | zero => funext x0_0 x0_1 x0_2 x0_3 x0_4; exact lp_zero _
  | succ m ih =>
    funext x0_0 x0_1 x0_2 x0_3 x0_4
    show lp C1 f37h n Lf (codeOf f37f) [1, 1, 0, 1, 0] [] (endK C1 f37h f37f) (m + 1) (f37H0 x0_0 x0_1 x0_2 x0_3 x0_4) = f37S0   (f37L0 n  m) x0_0 x0_1 x0_2 x0_3 x0_4
    rw [lp_succ, f37S0_ev, ih]
noncomputable def f37T (l0 : f37G0) (l : List ByteArray) : Option Lf :=
 l0 (l : List ByteArray) (l : List ByteArray) (zn l.length : Int) (0 : Int) ([] : List (ByteArray × Bool))
noncomputable def f37M (n : Nat) (l : List ByteArray) : Option Lf := f37T (f37L0 n n) l
theorem f37T_ev (n : Nat) (l : List ByteArray) : evF C1 f37h n f37f [(D.p (Pt.one (L.d (Pv.fz false) (Sh.l Sh.s) l)))] [] = f37T (f37W0 (lp C1 f37h n Lf (codeOf f37f) [1, 1, 0, 1, 0] [] (endK C1 f37h f37f) n)) l := by kernel_rfl
theorem f37_ev (n : Nat) (l : List ByteArray) : evF C1 f37h n f37f [(D.p (Pt.one (L.d (Pv.fz false) (Sh.l Sh.s) l)))] [] = f37M n l := by
  rw [f37T_ev, f37W0_ev]
  rfl

abbrev f41h : Hn := h41
noncomputable abbrev f41f : Func := fn 26
abbrev f41G0 := Int → (List (Int × Int × Unit)) → Int → Int → ByteArray → (List (Int × Int × Unit)) → (List (Int × Bool)) → Option Lf
noncomputable def f41H0 (x0_0 : Int) (x0_1 : List (Int × Int × Unit)) (x0_2 : Int) (x0_3 : Int) (x0_4 : ByteArray) (x0_5 : List (Int × Int × Unit)) (x0_6 : List (Int × Bool)) : St := (St.mk [dead, (D.p (Pt.one (L.d (Pv.fz true) (Sh.i IntKind.i64) x0_0))), (D.p (Pt.one (L.pv (Id.mk 1 0) 0))), dead, dead, (D.p (Pt.one (L.mp (Id.mk 1 1)))), dead, dead, dead, dead, (D.p (Pt.one (L.d (Pv.fz false) (Sh.l (Sh.p (Sh.i IntKind.i64) (Sh.p (Sh.i IntKind.i64) Sh.u))) x0_1))), (D.p (Pt.one (L.d (Pv.fz true) (Sh.i IntKind.i64) x0_2))), (D.p (Pt.one (L.d (Pv.fz true) (Sh.i IntKind.i64) x0_3))), dead, dead, dead, dead, dead, dead, dead, dead, dead, dead, dead, dead, dead, dead, dead, dead, dead, dead, dead, dead, dead, dead, dead, dead, dead, dead, dead, dead, dead, dead, dead] [[], [(Ob.va [(L.d (Pv.fz true) Sh.s x0_4), (L.d (Pv.fz false) (Sh.l (Sh.p (Sh.i IntKind.i64) (Sh.p (Sh.i IntKind.i64) Sh.u))) x0_5)]), (Ob.ma (Sh.i IntKind.i64) Sh.b x0_6)]])
noncomputable def f41W0 (G : St → Option Lf) : f41G0 := fun x0_0 x0_1 x0_2 x0_3 x0_4 x0_5 x0_6 => G (f41H0 x0_0 x0_1 x0_2 x0_3 x0_4 x0_5 x0_6)
noncomputable def f41S0  (g0 : f41G0) (x0_0 : Int) (x0_1 : List (Int × Int × Unit)) (x0_2 : Int) (x0_3 : Int) (x0_4 : ByteArray) (x0_5 : List (Int × Int × Unit)) (x0_6 : List (Int × Bool)) : Option Lf :=
 bif decide (x0_3 < x0_2) then
  bif inb x0_3 x0_1.length then
   bif Nat.beq 1 1 && (decide ((x0_1.getD x0_3.toNat (0, 0, ())).fst < 0) || Nat.beq 1 1 && (decide ((x0_1.getD x0_3.toNat (0, 0, ())).fst ≥ x0_0) || Nat.beq 1 1 && (decide ((x0_1.getD x0_3.toNat (0, 0, ())).snd.fst < 1) || true))) then
    bif decide ((x0_1.getD x0_3.toNat (0, 0, ())).fst < 0) || (decide ((x0_1.getD x0_3.toNat (0, 0, ())).fst ≥ x0_0) || (decide ((x0_1.getD x0_3.toNat (0, 0, ())).snd.fst < 1) || Option.rec false (fun (val : Bool) => val) (mapGet (Sh.i IntKind.i64) Sh.b (x0_1.getD x0_3.toNat (0, 0, ())).fst x0_6))) then
     some (Lf.mk [(Pt.one (L.d (Pv.fz true) Sh.b (false : Bool)))] [] [])
    else
     g0 (x0_0 : Int) (x0_1 : List (Int × Int × Unit)) (x0_2 : Int) (IntKind.i64.wrap (x0_3 + 1) : Int) (x0_4 : ByteArray) (x0_5 : List (Int × Int × Unit)) (mapSet (Sh.i IntKind.i64) Sh.b (x0_1.getD x0_3.toNat (0, 0, ())).fst true x0_6 : List (Int × Bool))
   else
    none
  else
   none
 else
  some (Lf.mk [(Pt.one (L.d (Pv.fz true) Sh.b (decide (zn x0_5.length > 0) : Bool)))] [] [])
noncomputable def f41L0 (n : Nat)  : Nat → f41G0
  | 0 => fun _ _ _ _ _ _ _ => none
  | m + 1 => fun x0_0 x0_1 x0_2 x0_3 x0_4 x0_5 x0_6 => f41S0   (f41L0 n  m) x0_0 x0_1 x0_2 x0_3 x0_4 x0_5 x0_6
theorem f41S0_ev (n : Nat)  (G : St → Option Lf) (x0_0 : Int) (x0_1 : List (Int × Int × Unit)) (x0_2 : Int) (x0_3 : Int) (x0_4 : ByteArray) (x0_5 : List (Int × Int × Unit)) (x0_6 : List (Int × Bool)) : rnd C1 f41h n Lf (codeOf f41f) [1, 1, 0, 1, 0] [] (endK C1 f41h f41f) G (f41H0 x0_0 x0_1 x0_2 x0_3 x0_4 x0_5 x0_6) = f41S0   (f41W0 G) x0_0 x0_1 x0_2 x0_3 x0_4 x0_5 x0_6 := by kernel_rfl
theorem f41W0_ev (n : Nat)  : ∀ m, (f41W0 (lp C1 f41h n Lf (codeOf f41f) [1, 1, 0, 1, 0] [] (endK C1 f41h f41f) m)) = f41L0 n  m := by
  intro m
  induction m with
  | zero => funext x0_0 x0_1 x0_2 x0_3 x0_4 x0_5 x0_6; exact lp_zero _
  | succ m ih =>
    funext x0_0 x0_1 x0_2 x0_3 x0_4 x0_5 x0_6
    show lp C1 f41h n Lf (codeOf f41f) [1, 1, 0, 1, 0] [] (endK C1 f41h f41f) (m + 1) (f41H0 x0_0 x0_1 x0_2 x0_3 x0_4 x0_5 x0_6) = f41S0   (f41L0 n  m) x0_0 x0_1 x0_2 x0_3 x0_4 x0_5 x0_6
    rw [lp_succ, f41S0_ev, ih]
noncomputable def f41T (l0 : f41G0) (a : ByteArray) (mv : List (Int × Int × Unit)) (z : Int) : Option Lf :=
 l0 (z : Int) (mv : List (Int × Int × Unit)) (zn mv.length : Int) (0 : Int) (a : ByteArray) (mv : List (Int × Int × Unit)) ([] : List (Int × Bool))
noncomputable def f41M (n : Nat) (a : ByteArray) (mv : List (Int × Int × Unit)) (z : Int) : Option Lf := f41T (f41L0 n n) a mv z
theorem f41T_ev (n : Nat) (a : ByteArray) (mv : List (Int × Int × Unit)) (z : Int) : evF C1 f41h n f41f [(D.p (Pt.agg [(L.d (Pv.fz true) Sh.s a), (L.d (Pv.fz false) (Sh.l (Sh.p (Sh.i IntKind.i64) (Sh.p (Sh.i IntKind.i64) Sh.u))) mv)])), (D.p (Pt.one (L.d (Pv.fz true) (Sh.i IntKind.i64) z)))] [] = f41T (f41W0 (lp C1 f41h n Lf (codeOf f41f) [1, 1, 0, 1, 0] [] (endK C1 f41h f41f) n)) a mv z := by kernel_rfl
theorem f41_ev (n : Nat) (a : ByteArray) (mv : List (Int × Int × Unit)) (z : Int) : evF C1 f41h n f41f [(D.p (Pt.agg [(L.d (Pv.fz true) Sh.s a), (L.d (Pv.fz false) (Sh.l (Sh.p (Sh.i IntKind.i64) (Sh.p (Sh.i IntKind.i64) Sh.u))) mv)])), (D.p (Pt.one (L.d (Pv.fz true) (Sh.i IntKind.i64) z)))] [] = f41M n a mv z := by
  rw [f41T_ev, f41W0_ev]
  rfl

abbrev f40h : Hn := hn0
noncomputable abbrev f40f : Func := fn 25
noncomputable def f40T  (a : ByteArray) (mv : List (Int × Int × Unit)) (z : Int) : Option Lf :=
 bif big mv.length then
  some (Lf.mk [(Pt.one (L.d (Pv.fz true) Sh.b (!rightV z (a, mv, ()) : Bool)))] [(Ob.va [(L.d (Pv.fz true) (Sh.i IntKind.i64) (z : Int))])] [])
 else
  none
noncomputable def f40M (_ : Nat) (a : ByteArray) (mv : List (Int × Int × Unit)) (z : Int) : Option Lf := f40T  a mv z
theorem f40T_ev (n : Nat) (a : ByteArray) (mv : List (Int × Int × Unit)) (z : Int) : evF C4 f40h n f40f [(D.p (Pt.agg [(L.d (Pv.fz true) Sh.s a), (L.d (Pv.fz false) (Sh.l (Sh.p (Sh.i IntKind.i64) (Sh.p (Sh.i IntKind.i64) Sh.u))) mv)])), (D.p (Pt.one (L.pv (Id.mk 0 0) 0)))] [(Ob.va [(L.d (Pv.fz true) (Sh.i IntKind.i64) z)])] = f40T  a mv z := by kernel_rfl
theorem f40_ev (n : Nat) (a : ByteArray) (mv : List (Int × Int × Unit)) (z : Int) : evF C4 f40h n f40f [(D.p (Pt.agg [(L.d (Pv.fz true) Sh.s a), (L.d (Pv.fz false) (Sh.l (Sh.p (Sh.i IntKind.i64) (Sh.p (Sh.i IntKind.i64) Sh.u))) mv)])), (D.p (Pt.one (L.pv (Id.mk 0 0) 0)))] [(Ob.va [(L.d (Pv.fz true) (Sh.i IntKind.i64) z)])] = f40M n a mv z := by
  rw [f40T_ev]
  rfl

abbrev f52h : Hn := h45
noncomputable abbrev f52f : Func := fn 39
abbrev f52G0 := (List (ByteArray × List (Int × Int × Unit) × Unit)) → Int → Int → Int → Option Lf
noncomputable def f52H0 (x0_0 : List (ByteArray × List (Int × Int × Unit) × Unit)) (x0_1 : Int) (x0_2 : Int) (x0_3 : Int) : St := (St.mk [(D.p (Pt.one (L.d (Pv.fz false) (Sh.l (Sh.p Sh.s (Sh.p (Sh.l (Sh.p (Sh.i IntKind.i64) (Sh.p (Sh.i IntKind.i64) Sh.u))) Sh.u))) x0_0))), (D.p (Pt.one (L.fn 25 [(Cp.b (Id.mk 0 0))]))), dead, dead, dead, dead, dead, (D.p (Pt.one (L.d (Pv.fz true) (Sh.i IntKind.i64) x0_1))), (D.p (Pt.one (L.d (Pv.fz true) (Sh.i IntKind.i64) x0_2))), dead, dead, dead, dead, dead, dead, dead, dead, dead, dead] [[(Ob.va [(L.d (Pv.fz true) (Sh.i IntKind.i64) x0_3)])], []])
noncomputable def f52W0 (G : St → Option Lf) : f52G0 := fun x0_0 x0_1 x0_2 x0_3 => G (f52H0 x0_0 x0_1 x0_2 x0_3)
noncomputable def f52S0  (g0 : f52G0) (x0_0 : List (ByteArray × List (Int × Int × Unit) × Unit)) (x0_1 : Int) (x0_2 : Int) (x0_3 : Int) : Option Lf :=
 bif decide (x0_2 < x0_1) then
  bif inb x0_2 x0_0.length then
   bif big (x0_0.getD x0_2.toNat ({ data := #[] }, [], ())).snd.fst.length then
    bif !rightV x0_3 ((x0_0.getD x0_2.toNat ({ data := #[] }, [], ())).fst, (x0_0.getD x0_2.toNat ({ data := #[] }, [], ())).snd.fst, ()) then
     some (Lf.mk [(Pt.one (L.d (Pv.fz true) (Sh.i IntKind.i64) (x0_2 : Int)))] [(Ob.va [(L.d (Pv.fz true) (Sh.i IntKind.i64) (x0_3 : Int))])] [])
    else
     g0 (x0_0 : List (ByteArray × List (Int × Int × Unit) × Unit)) (x0_1 : Int) (IntKind.i64.wrap (x0_2 + 1) : Int) (x0_3 : Int)
   else
    none
  else
   none
 else
  some (Lf.mk [(Pt.one (L.d (Pv.fz true) (Sh.i IntKind.i64) (-1 : Int)))] [(Ob.va [(L.d (Pv.fz true) (Sh.i IntKind.i64) (x0_3 : Int))])] [])
noncomputable def f52L0 (n : Nat)  : Nat → f52G0
  | 0 => fun _ _ _ _ => none
  | m + 1 => fun x0_0 x0_1 x0_2 x0_3 => f52S0   (f52L0 n  m) x0_0 x0_1 x0_2 x0_3
theorem f52S0_ev (n : Nat)  (G : St → Option Lf) (x0_0 : List (ByteArray × List (Int × Int × Unit) × Unit)) (x0_1 : Int) (x0_2 : Int) (x0_3 : Int) : rnd C5 f52h n Lf (codeOf f52f) [1, 0, 1, 0] [] (endK C5 f52h f52f) G (f52H0 x0_0 x0_1 x0_2 x0_3) = f52S0   (f52W0 G) x0_0 x0_1 x0_2 x0_3 := by kernel_rfl
theorem f52W0_ev (n : Nat)  : ∀ m, (f52W0 (lp C5 f52h n Lf (codeOf f52f) [1, 0, 1, 0] [] (endK C5 f52h f52f) m)) = f52L0 n  m := by
  intro m
  induction m with
  | zero => funext x0_0 x0_1 x0_2 x0_3; exact lp_zero _
  | succ m ih =>
    funext x0_0 x0_1 x0_2 x0_3
    show lp C5 f52h n Lf (codeOf f52f) [1, 0, 1, 0] [] (endK C5 f52h f52f) (m + 1) (f52H0 x0_0 x0_1 x0_2 x0_3) = f52S0   (f52L0 n  m) x0_0 x0_1 x0_2 x0_3
    rw [lp_succ, f52S0_ev, ih]
noncomputable def f52T (l0 : f52G0) (l : List (ByteArray × List (Int × Int × Unit) × Unit)) (z : Int) : Option Lf :=
 l0 (l : List (ByteArray × List (Int × Int × Unit) × Unit)) (zn l.length : Int) (0 : Int) (z : Int)
noncomputable def f52M (n : Nat) (l : List (ByteArray × List (Int × Int × Unit) × Unit)) (z : Int) : Option Lf := f52T (f52L0 n n) l z
theorem f52T_ev (n : Nat) (l : List (ByteArray × List (Int × Int × Unit) × Unit)) (z : Int) : evF C5 f52h n f52f [(D.p (Pt.one (L.d (Pv.fz false) (Sh.l (Sh.p Sh.s (Sh.p (Sh.l (Sh.p (Sh.i IntKind.i64) (Sh.p (Sh.i IntKind.i64) Sh.u))) Sh.u))) l))), (D.p (Pt.one (L.fn 25 [(Cp.b (Id.mk 0 0))])))] [(Ob.va [(L.d (Pv.fz true) (Sh.i IntKind.i64) z)])] = f52T (f52W0 (lp C5 f52h n Lf (codeOf f52f) [1, 0, 1, 0] [] (endK C5 f52h f52f) n)) l z := by kernel_rfl
theorem f52_ev (n : Nat) (l : List (ByteArray × List (Int × Int × Unit) × Unit)) (z : Int) : evF C5 f52h n f52f [(D.p (Pt.one (L.d (Pv.fz false) (Sh.l (Sh.p Sh.s (Sh.p (Sh.l (Sh.p (Sh.i IntKind.i64) (Sh.p (Sh.i IntKind.i64) Sh.u))) Sh.u))) l))), (D.p (Pt.one (L.fn 25 [(Cp.b (Id.mk 0 0))])))] [(Ob.va [(L.d (Pv.fz true) (Sh.i IntKind.i64) z)])] = f52M n l z := by
  rw [f52T_ev, f52W0_ev]
  rfl

abbrev f39h : Hn := hn0
noncomputable abbrev f39f : Func := fn 24
noncomputable def f39T  (l : List (ByteArray × List (Int × Int × Unit) × Unit)) (z : Int) : Option Lf :=
 bif big l.length && l.all mvG then
  some (Lf.mk [(Pt.one (L.d (Pv.fz true) Sh.b (decide (idxG (fun (c : ChV) => !rightV z c) 0 l ≥ 0) : Bool)))] [(Ob.va [(L.d (Pv.fz true) (Sh.i IntKind.i64) (z : Int))])] [])
 else
  none
noncomputable def f39M (_ : Nat) (l : List (ByteArray × List (Int × Int × Unit) × Unit)) (z : Int) : Option Lf := f39T  l z
theorem f39T_ev (n : Nat) (l : List (ByteArray × List (Int × Int × Unit) × Unit)) (z : Int) : evF C6 f39h n f39f [(D.p (Pt.one (L.d (Pv.fz false) (Sh.l (Sh.p Sh.s (Sh.p (Sh.l (Sh.p (Sh.i IntKind.i64) (Sh.p (Sh.i IntKind.i64) Sh.u))) Sh.u))) l))), (D.p (Pt.one (L.fn 25 [(Cp.b (Id.mk 0 0))])))] [(Ob.va [(L.d (Pv.fz true) (Sh.i IntKind.i64) z)])] = f39T  l z := by kernel_rfl
theorem f39_ev (n : Nat) (l : List (ByteArray × List (Int × Int × Unit) × Unit)) (z : Int) : evF C6 f39h n f39f [(D.p (Pt.one (L.d (Pv.fz false) (Sh.l (Sh.p Sh.s (Sh.p (Sh.l (Sh.p (Sh.i IntKind.i64) (Sh.p (Sh.i IntKind.i64) Sh.u))) Sh.u))) l))), (D.p (Pt.one (L.fn 25 [(Cp.b (Id.mk 0 0))])))] [(Ob.va [(L.d (Pv.fz true) (Sh.i IntKind.i64) z)])] = f39M n l z := by
  rw [f39T_ev]
  rfl

abbrev f32h : Hn := h32
noncomputable abbrev f32f : Func := fn 8
abbrev f32G0 := Int → Int → Int → (List (List (ByteArray × List (Int × Int × Unit) × Unit))) → (List ByteArray) → (List (List Int)) → Option Lf
noncomputable def f32H0 (x0_0 : Int) (x0_1 : Int) (x0_2 : Int) (x0_3 : List (List (ByteArray × List (Int × Int × Unit) × Unit))) (x0_4 : List ByteArray) (x0_5 : List (List Int)) : St := (St.mk [dead, (D.p (Pt.one (L.pv (Id.mk 1 0) 0))), dead, (D.p (Pt.one (L.d (Pv.fz true) (Sh.i IntKind.i64) x0_0))), (D.p (Pt.one (L.d (Pv.fz true) (Sh.i IntKind.i64) x0_1))), dead, dead, dead, dead, dead, dead, dead, dead, dead, dead, dead, dead, dead, dead, dead, dead, dead, dead, dead, dead, dead, dead, dead, dead, dead, dead, dead, dead, dead, dead, dead, dead, dead, dead, dead, dead, dead, dead, dead, dead, dead, dead, dead, dead, dead, dead, dead, dead, dead, dead, dead, dead, dead, dead, dead, dead, dead, dead, dead, dead, dead, dead, dead, dead, dead, dead, dead, dead, dead, dead, dead, dead, dead, dead, dead, dead, dead, dead, dead, dead, dead, dead, dead, dead, dead, dead, dead, dead, dead, dead, dead, dead, dead, dead, dead, dead, dead, dead, dead, dead, dead, dead, dead, dead, dead, dead, dead, dead, dead, dead, dead, dead, dead, dead, dead, dead, dead, dead, dead, dead, dead, dead, dead, dead, dead, dead, dead, dead, dead, dead, dead, dead, dead, dead, dead, dead, dead, dead, dead, dead, dead, dead, dead, dead, dead, dead, dead, dead, dead, dead, dead, dead, dead, dead, dead, dead, dead, dead, dead, dead, dead, dead, dead, dead, dead, dead, dead, dead, dead, dead, dead, dead, dead, dead, dead, dead, dead, dead, dead, dead, dead, dead, dead, dead, dead, dead, dead, dead, dead, dead, dead, dead, dead] [[], [(Ob.va [(L.d (Pv.fz true) (Sh.i IntKind.i64) x0_2), (L.d (Pv.fz false) (Sh.l (Sh.l (Sh.p Sh.s (Sh.p (Sh.l (Sh.p (Sh.i IntKind.i64) (Sh.p (Sh.i IntKind.i64) Sh.u))) Sh.u)))) x0_3), (L.d (Pv.fz false) (Sh.l Sh.s) x0_4), (L.d (Pv.fz false) (Sh.l (Sh.l (Sh.i IntKind.i64))) x0_5)])]])
noncomputable def f32W0 (G : St → Option Lf) : f32G0 := fun x0_0 x0_1 x0_2 x0_3 x0_4 x0_5 => G (f32H0 x0_0 x0_1 x0_2 x0_3 x0_4 x0_5)
abbrev f32G1 := Int → Int → Int → Int → (List (List (ByteArray × List (Int × Int × Unit) × Unit))) → (List ByteArray) → (List (List Int)) → Option Lf
noncomputable def f32H1 (x1_0 : Int) (x1_1 : Int) (x1_2 : Int) (x1_3 : Int) (x1_4 : List (List (ByteArray × List (Int × Int × Unit) × Unit))) (x1_5 : List ByteArray) (x1_6 : List (List Int)) : St := (St.mk [dead, (D.p (Pt.one (L.pv (Id.mk 1 0) 0))), dead, (D.p (Pt.one (L.d (Pv.fz true) (Sh.i IntKind.i64) x1_0))), (D.p (Pt.one (L.d (Pv.fz true) (Sh.i IntKind.i64) x1_1))), (D.p (Pt.one (L.d (Pv.fz true) (Sh.i IntKind.i64) x1_2))), dead, dead, dead, dead, dead, dead, dead, dead, dead, dead, dead, dead, dead, dead, dead, dead, dead, dead, dead, dead, dead, dead, dead, dead, dead, dead, dead, dead, dead, dead, dead, dead, dead, dead, dead, dead, dead, dead, dead, dead, dead, dead, dead, dead, dead, dead, dead, dead, dead, dead, dead, dead, dead, dead, dead, dead, dead, dead, dead, dead, dead, dead, dead, dead, dead, dead, dead, dead, dead, dead, dead, dead, dead, dead, dead, dead, dead, dead, dead, dead, dead, dead, dead, dead, dead, dead, dead, dead, dead, dead, dead, dead, dead, dead, dead, dead, dead, dead, dead, dead, dead, dead, dead, dead, dead, dead, dead, dead, dead, dead, dead, dead, dead, dead, dead, dead, dead, dead, dead, dead, dead, dead, dead, dead, dead, dead, dead, dead, dead, dead, dead, dead, dead, dead, dead, dead, dead, dead, dead, dead, dead, dead, dead, dead, dead, dead, dead, dead, dead, dead, dead, dead, dead, dead, dead, dead, dead, dead, dead, dead, dead, dead, dead, dead, dead, dead, dead, dead, dead, dead, dead, dead, dead, dead, dead, dead, dead, dead, dead, dead, dead, dead, dead, dead, dead, dead, dead, dead, dead, dead, dead, dead] [[], [(Ob.va [(L.d (Pv.fz true) (Sh.i IntKind.i64) x1_3), (L.d (Pv.fz false) (Sh.l (Sh.l (Sh.p Sh.s (Sh.p (Sh.l (Sh.p (Sh.i IntKind.i64) (Sh.p (Sh.i IntKind.i64) Sh.u))) Sh.u)))) x1_4), (L.d (Pv.fz false) (Sh.l Sh.s) x1_5), (L.d (Pv.fz false) (Sh.l (Sh.l (Sh.i IntKind.i64))) x1_6)])]])
noncomputable def f32W1 (G : St → Option Lf) : f32G1 := fun x1_0 x1_1 x1_2 x1_3 x1_4 x1_5 x1_6 => G (f32H1 x1_0 x1_1 x1_2 x1_3 x1_4 x1_5 x1_6)
noncomputable def f32S1  (g0 : f32G0) (g1 : f32G1) (x1_0 : Int) (x1_1 : Int) (x1_2 : Int) (x1_3 : Int) (x1_4 : List (List (ByteArray × List (Int × Int × Unit) × Unit))) (x1_5 : List ByteArray) (x1_6 : List (List Int)) : Option Lf :=
 bif decide (x1_2 < x1_1) then
  bif inb x1_1 x1_5.length then
   bif inb x1_2 x1_5.length then
    bif (x1_5.getD x1_1.toNat { data := #[] }).toList == (x1_5.getD x1_2.toNat { data := #[] }).toList then
     some (Lf.mk [(Pt.one (L.d (Pv.fz true) Sh.b (false : Bool)))] [] [])
    else
     g1 (x1_0 : Int) (x1_1 : Int) (IntKind.i64.wrap (x1_2 + 1) : Int) (x1_3 : Int) (x1_4 : List (List (ByteArray × List (Int × Int × Unit) × Unit))) (x1_5 : List ByteArray) (x1_6 : List (List Int))
   else
    none
  else
   none
 else
  g0 (x1_0 : Int) (IntKind.i64.wrap (x1_1 + 1) : Int) (x1_3 : Int) (x1_4 : List (List (ByteArray × List (Int × Int × Unit) × Unit))) (x1_5 : List ByteArray) (x1_6 : List (List Int))
noncomputable def f32L1 (n : Nat) (g0 : f32G0) : Nat → f32G1
  | 0 => fun _ _ _ _ _ _ _ => none
  | m + 1 => fun x1_0 x1_1 x1_2 x1_3 x1_4 x1_5 x1_6 => f32S1  g0 (f32L1 n g0 m) x1_0 x1_1 x1_2 x1_3 x1_4 x1_5 x1_6
theorem f32S1_ev (n : Nat) (G0 : St → Option Lf) (G : St → Option Lf) (x1_0 : Int) (x1_1 : Int) (x1_2 : Int) (x1_3 : Int) (x1_4 : List (List (ByteArray × List (Int × Int × Unit) × Unit))) (x1_5 : List ByteArray) (x1_6 : List (List Int)) : rnd C1 f32h n Lf (codeOf f32f) [1, 1, 1, 0, 1, 0, 0, 1, 0, 0, 1, 0] [G0] (endK C1 f32h f32f) G (f32H1 x1_0 x1_1 x1_2 x1_3 x1_4 x1_5 x1_6) = f32S1  (f32W0 G0) (f32W1 G) x1_0 x1_1 x1_2 x1_3 x1_4 x1_5 x1_6 := by kernel_rfl
theorem f32W1_ev (n : Nat) (G0 : St → Option Lf) : ∀ m, (f32W1 (lp C1 f32h n Lf (codeOf f32f) [1, 1, 1, 0, 1, 0, 0, 1, 0, 0, 1, 0] [G0] (endK C1 f32h f32f) m)) = f32L1 n (f32W0 G0) m := by
  intro m
  induction m with
  | zero => funext x1_0 x1_1 x1_2 x1_3 x1_4 x1_5 x1_6; exact lp_zero _
  | succ m ih =>
    funext x1_0 x1_1 x1_2 x1_3 x1_4 x1_5 x1_6
    show lp C1 f32h n Lf (codeOf f32f) [1, 1, 1, 0, 1, 0, 0, 1, 0, 0, 1, 0] [G0] (endK C1 f32h f32f) (m + 1) (f32H1 x1_0 x1_1 x1_2 x1_3 x1_4 x1_5 x1_6) = f32S1  (f32W0 G0) (f32L1 n (f32W0 G0) m) x1_0 x1_1 x1_2 x1_3 x1_4 x1_5 x1_6
    rw [lp_succ, f32S1_ev, ih]
abbrev f32G2 := Int → Int → Int → (List (List (ByteArray × List (Int × Int × Unit) × Unit))) → (List ByteArray) → (List (List Int)) → Option Lf
noncomputable def f32H2 (x2_0 : Int) (x2_1 : Int) (x2_2 : Int) (x2_3 : List (List (ByteArray × List (Int × Int × Unit) × Unit))) (x2_4 : List ByteArray) (x2_5 : List (List Int)) : St := (St.mk [dead, (D.p (Pt.one (L.pv (Id.mk 1 0) 0))), dead, (D.p (Pt.one (L.d (Pv.fz true) (Sh.i IntKind.i64) x2_0))), dead, dead, (D.p (Pt.one (L.d (Pv.fz true) (Sh.i IntKind.i64) x2_1))), dead, dead, dead, dead, dead, dead, dead, dead, dead, dead, dead, dead, dead, dead, dead, dead, dead, dead, dead, dead, dead, dead, dead, dead, dead, dead, dead, dead, dead, dead, dead, dead, dead, dead, dead, dead, dead, dead, dead, dead, dead, dead, dead, dead, dead, dead, dead, dead, dead, dead, dead, dead, dead, dead, dead, dead, dead, dead, dead, dead, dead, dead, dead, dead, dead, dead, dead, dead, dead, dead, dead, dead, dead, dead, dead, dead, dead, dead, dead, dead, dead, dead, dead, dead, dead, dead, dead, dead, dead, dead, dead, dead, dead, dead, dead, dead, dead, dead, dead, dead, dead, dead, dead, dead, dead, dead, dead, dead, dead, dead, dead, dead, dead, dead, dead, dead, dead, dead, dead, dead, dead, dead, dead, dead, dead, dead, dead, dead, dead, dead, dead, dead, dead, dead, dead, dead, dead, dead, dead, dead, dead, dead, dead, dead, dead, dead, dead, dead, dead, dead, dead, dead, dead, dead, dead, dead, dead, dead, dead, dead, dead, dead, dead, dead, dead, dead, dead, dead, dead, dead, dead, dead, dead, dead, dead, dead, dead, dead, dead, dead, dead, dead, dead, dead, dead, dead, dead, dead, dead, dead, dead] [[], [(Ob.va [(L.d (Pv.fz true) (Sh.i IntKind.i64) x2_2), (L.d (Pv.fz false) (Sh.l (Sh.l (Sh.p Sh.s (Sh.p (Sh.l (Sh.p (Sh.i IntKind.i64) (Sh.p (Sh.i IntKind.i64) Sh.u))) Sh.u)))) x2_3), (L.d (Pv.fz false) (Sh.l Sh.s) x2_4), (L.d (Pv.fz false) (Sh.l (Sh.l (Sh.i IntKind.i64))) x2_5)])]])
noncomputable def f32W2 (G : St → Option Lf) : f32G2 := fun x2_0 x2_1 x2_2 x2_3 x2_4 x2_5 => G (f32H2 x2_0 x2_1 x2_2 x2_3 x2_4 x2_5)
abbrev f32G3 := Int → Int → Int → Int → (List (List (ByteArray × List (Int × Int × Unit) × Unit))) → (List ByteArray) → (List (List Int)) → Option Lf
noncomputable def f32H3 (x3_0 : Int) (x3_1 : Int) (x3_2 : Int) (x3_3 : Int) (x3_4 : List (List (ByteArray × List (Int × Int × Unit) × Unit))) (x3_5 : List ByteArray) (x3_6 : List (List Int)) : St := (St.mk [dead, (D.p (Pt.one (L.pv (Id.mk 1 0) 0))), dead, (D.p (Pt.one (L.d (Pv.fz true) (Sh.i IntKind.i64) x3_0))), dead, dead, (D.p (Pt.one (L.d (Pv.fz true) (Sh.i IntKind.i64) x3_1))), (D.p (Pt.one (L.d (Pv.fz true) (Sh.i IntKind.i64) x3_2))), dead, dead, dead, dead, dead, dead, dead, dead, dead, dead, dead, dead, dead, dead, dead, dead, dead, dead, dead, dead, dead, dead, dead, dead, dead, dead, dead, dead, dead, dead, dead, dead, dead, dead, dead, dead, dead, dead, dead, dead, dead, dead, dead, dead, dead, dead, dead, dead, dead, dead, dead, dead, dead, dead, dead, dead, dead, dead, dead, dead, dead, dead, dead, dead, dead, dead, dead, dead, dead, dead, dead, dead, dead, dead, dead, dead, dead, dead, dead, dead, dead, dead, dead, dead, dead, dead, dead, dead, dead, dead, dead, dead, dead, dead, dead, dead, dead, dead, dead, dead, dead, dead, dead, dead, dead, dead, dead, dead, dead, dead, dead, dead, dead, dead, dead, dead, dead, dead, dead, dead, dead, dead, dead, dead, dead, dead, dead, dead, dead, dead, dead, dead, dead, dead, dead, dead, dead, dead, dead, dead, dead, dead, dead, dead, dead, dead, dead, dead, dead, dead, dead, dead, dead, dead, dead, dead, dead, dead, dead, dead, dead, dead, dead, dead, dead, dead, dead, dead, dead, dead, dead, dead, dead, dead, dead, dead, dead, dead, dead, dead, dead, dead, dead, dead, dead, dead, dead, dead, dead, dead] [[], [(Ob.va [(L.d (Pv.fz true) (Sh.i IntKind.i64) x3_3), (L.d (Pv.fz false) (Sh.l (Sh.l (Sh.p Sh.s (Sh.p (Sh.l (Sh.p (Sh.i IntKind.i64) (Sh.p (Sh.i IntKind.i64) Sh.u))) Sh.u)))) x3_4), (L.d (Pv.fz false) (Sh.l Sh.s) x3_5), (L.d (Pv.fz false) (Sh.l (Sh.l (Sh.i IntKind.i64))) x3_6)])]])
noncomputable def f32W3 (G : St → Option Lf) : f32G3 := fun x3_0 x3_1 x3_2 x3_3 x3_4 x3_5 x3_6 => G (f32H3 x3_0 x3_1 x3_2 x3_3 x3_4 x3_5 x3_6)
abbrev f32G4 := Int → Int → Int → Int → (List (List (ByteArray × List (Int × Int × Unit) × Unit))) → (List ByteArray) → (List (List Int)) → Option Lf
noncomputable def f32H4 (x4_0 : Int) (x4_1 : Int) (x4_2 : Int) (x4_3 : Int) (x4_4 : List (List (ByteArray × List (Int × Int × Unit) × Unit))) (x4_5 : List ByteArray) (x4_6 : List (List Int)) : St := (St.mk [dead, (D.p (Pt.one (L.pv (Id.mk 1 0) 0))), dead, (D.p (Pt.one (L.d (Pv.fz true) (Sh.i IntKind.i64) x4_0))), dead, dead, (D.p (Pt.one (L.d (Pv.fz true) (Sh.i IntKind.i64) x4_1))), dead, (D.p (Pt.one (L.d (Pv.fz true) (Sh.i IntKind.i64) x4_2))), dead, dead, dead, dead, dead, dead, dead, dead, dead, dead, dead, dead, dead, dead, dead, dead, dead, dead, dead, dead, dead, dead, dead, dead, dead, dead, dead, dead, dead, dead, dead, dead, dead, dead, dead, dead, dead, dead, dead, dead, dead, dead, dead, dead, dead, dead, dead, dead, dead, dead, dead, dead, dead, dead, dead, dead, dead, dead, dead, dead, dead, dead, dead, dead, dead, dead, dead, dead, dead, dead, dead, dead, dead, dead, dead, dead, dead, dead, dead, dead, dead, dead, dead, dead, dead, dead, dead, dead, dead, dead, dead, dead, dead, dead, dead, dead, dead, dead, dead, dead, dead, dead, dead, dead, dead, dead, dead, dead, dead, dead, dead, dead, dead, dead, dead, dead, dead, dead, dead, dead, dead, dead, dead, dead, dead, dead, dead, dead, dead, dead, dead, dead, dead, dead, dead, dead, dead, dead, dead, dead, dead, dead, dead, dead, dead, dead, dead, dead, dead, dead, dead, dead, dead, dead, dead, dead, dead, dead, dead, dead, dead, dead, dead, dead, dead, dead, dead, dead, dead, dead, dead, dead, dead, dead, dead, dead, dead, dead, dead, dead, dead, dead, dead, dead, dead, dead, dead, dead, dead] [[], [(Ob.va [(L.d (Pv.fz true) (Sh.i IntKind.i64) x4_3), (L.d (Pv.fz false) (Sh.l (Sh.l (Sh.p Sh.s (Sh.p (Sh.l (Sh.p (Sh.i IntKind.i64) (Sh.p (Sh.i IntKind.i64) Sh.u))) Sh.u)))) x4_4), (L.d (Pv.fz false) (Sh.l Sh.s) x4_5), (L.d (Pv.fz false) (Sh.l (Sh.l (Sh.i IntKind.i64))) x4_6)])]])
noncomputable def f32W4 (G : St → Option Lf) : f32G4 := fun x4_0 x4_1 x4_2 x4_3 x4_4 x4_5 x4_6 => G (f32H4 x4_0 x4_1 x4_2 x4_3 x4_4 x4_5 x4_6)
abbrev f32G5 := Int → Int → Int → (List (Int × Int × Unit)) → Int → Int → (List (List (ByteArray × List (Int × Int × Unit) × Unit))) → (List ByteArray) → (List (List Int)) → Option Lf
noncomputable def f32H5 (x5_0 : Int) (x5_1 : Int) (x5_2 : Int) (x5_3 : List (Int × Int × Unit)) (x5_4 : Int) (x5_5 : Int) (x5_6 : List (List (ByteArray × List (Int × Int × Unit) × Unit))) (x5_7 : List ByteArray) (x5_8 : List (List Int)) : St := (St.mk [dead, (D.p (Pt.one (L.pv (Id.mk 1 0) 0))), dead, (D.p (Pt.one (L.d (Pv.fz true) (Sh.i IntKind.i64) x5_0))), dead, dead, (D.p (Pt.one (L.d (Pv.fz true) (Sh.i IntKind.i64) x5_1))), dead, (D.p (Pt.one (L.d (Pv.fz true) (Sh.i IntKind.i64) x5_2))), (D.p (Pt.one (L.d (Pv.fz false) (Sh.l (Sh.p (Sh.i IntKind.i64) (Sh.p (Sh.i IntKind.i64) Sh.u))) x5_3))), (D.p (Pt.one (L.d (Pv.fz true) (Sh.i IntKind.i64) x5_4))), dead, dead, dead, dead, dead, dead, dead, dead, dead, dead, dead, dead, dead, dead, dead, dead, dead, dead, dead, dead, dead, dead, dead, dead, dead, dead, dead, dead, dead, dead, dead, dead, dead, dead, dead, dead, dead, dead, dead, dead, dead, dead, dead, dead, dead, dead, dead, dead, dead, dead, dead, dead, dead, dead, dead, dead, dead, dead, dead, dead, dead, dead, dead, dead, dead, dead, dead, dead, dead, dead, dead, dead, dead, dead, dead, dead, dead, dead, dead, dead, dead, dead, dead, dead, dead, dead, dead, dead, dead, dead, dead, dead, dead, dead, dead, dead, dead, dead, dead, dead, dead, dead, dead, dead, dead, dead, dead, dead, dead, dead, dead, dead, dead, dead, dead, dead, dead, dead, dead, dead, dead, dead, dead, dead, dead, dead, dead, dead, dead, dead, dead, dead, dead, dead, dead, dead, dead, dead, dead, dead, dead, dead, dead, dead, dead, dead, dead, dead, dead, dead, dead, dead, dead, dead, dead, dead, dead, dead, dead, dead, dead, dead, dead, dead, dead, dead, dead, dead, dead, dead, dead, dead, dead, dead, dead, dead, dead, dead, dead, dead, dead, dead, dead, dead, dead, dead, dead] [[], [(Ob.va [(L.d (Pv.fz true) (Sh.i IntKind.i64) x5_5), (L.d (Pv.fz false) (Sh.l (Sh.l (Sh.p Sh.s (Sh.p (Sh.l (Sh.p (Sh.i IntKind.i64) (Sh.p (Sh.i IntKind.i64) Sh.u))) Sh.u)))) x5_6), (L.d (Pv.fz false) (Sh.l Sh.s) x5_7), (L.d (Pv.fz false) (Sh.l (Sh.l (Sh.i IntKind.i64))) x5_8)])]])
noncomputable def f32W5 (G : St → Option Lf) : f32G5 := fun x5_0 x5_1 x5_2 x5_3 x5_4 x5_5 x5_6 x5_7 x5_8 => G (f32H5 x5_0 x5_1 x5_2 x5_3 x5_4 x5_5 x5_6 x5_7 x5_8)
abbrev f32G6 := Int → Int → Int → (List (Int × Int × Unit)) → Int → Int → Int → (List (List (ByteArray × List (Int × Int × Unit) × Unit))) → (List ByteArray) → (List (List Int)) → Option Lf
noncomputable def f32H6 (x6_0 : Int) (x6_1 : Int) (x6_2 : Int) (x6_3 : List (Int × Int × Unit)) (x6_4 : Int) (x6_5 : Int) (x6_6 : Int) (x6_7 : List (List (ByteArray × List (Int × Int × Unit) × Unit))) (x6_8 : List ByteArray) (x6_9 : List (List Int)) : St := (St.mk [dead, (D.p (Pt.one (L.pv (Id.mk 1 0) 0))), dead, (D.p (Pt.one (L.d (Pv.fz true) (Sh.i IntKind.i64) x6_0))), dead, dead, (D.p (Pt.one (L.d (Pv.fz true) (Sh.i IntKind.i64) x6_1))), dead, (D.p (Pt.one (L.d (Pv.fz true) (Sh.i IntKind.i64) x6_2))), (D.p (Pt.one (L.d (Pv.fz false) (Sh.l (Sh.p (Sh.i IntKind.i64) (Sh.p (Sh.i IntKind.i64) Sh.u))) x6_3))), (D.p (Pt.one (L.d (Pv.fz true) (Sh.i IntKind.i64) x6_4))), (D.p (Pt.one (L.d (Pv.fz true) (Sh.i IntKind.i64) x6_5))), dead, dead, dead, dead, dead, dead, dead, dead, dead, dead, dead, dead, dead, dead, dead, dead, dead, dead, dead, dead, dead, dead, dead, dead, dead, dead, dead, dead, dead, dead, dead, dead, dead, dead, dead, dead, dead, dead, dead, dead, dead, dead, dead, dead, dead, dead, dead, dead, dead, dead, dead, dead, dead, dead, dead, dead, dead, dead, dead, dead, dead, dead, dead, dead, dead, dead, dead, dead, dead, dead, dead, dead, dead, dead, dead, dead, dead, dead, dead, dead, dead, dead, dead, dead, dead, dead, dead, dead, dead, dead, dead, dead, dead, dead, dead, dead, dead, dead, dead, dead, dead, dead, dead, dead, dead, dead, dead, dead, dead, dead, dead, dead, dead, dead, dead, dead, dead, dead, dead, dead, dead, dead, dead, dead, dead, dead, dead, dead, dead, dead, dead, dead, dead, dead, dead, dead, dead, dead, dead, dead, dead, dead, dead, dead, dead, dead, dead, dead, dead, dead, dead, dead, dead, dead, dead, dead, dead, dead, dead, dead, dead, dead, dead, dead, dead, dead, dead, dead, dead, dead, dead, dead, dead, dead, dead, dead, dead, dead, dead, dead, dead, dead, dead, dead, dead, dead] [[], [(Ob.va [(L.d (Pv.fz true) (Sh.i IntKind.i64) x6_6), (L.d (Pv.fz false) (Sh.l (Sh.l (Sh.p Sh.s (Sh.p (Sh.l (Sh.p (Sh.i IntKind.i64) (Sh.p (Sh.i IntKind.i64) Sh.u))) Sh.u)))) x6_7), (L.d (Pv.fz false) (Sh.l Sh.s) x6_8), (L.d (Pv.fz false) (Sh.l (Sh.l (Sh.i IntKind.i64))) x6_9)])]])
noncomputable def f32W6 (G : St → Option Lf) : f32G6 := fun x6_0 x6_1 x6_2 x6_3 x6_4 x6_5 x6_6 x6_7 x6_8 x6_9 => G (f32H6 x6_0 x6_1 x6_2 x6_3 x6_4 x6_5 x6_6 x6_7 x6_8 x6_9)
noncomputable def f32S6  (g2 : f32G2) (g4 : f32G4) (g5 : f32G5) (g6 : f32G6) (x6_0 : Int) (x6_1 : Int) (x6_2 : Int) (x6_3 : List (Int × Int × Unit)) (x6_4 : Int) (x6_5 : Int) (x6_6 : Int) (x6_7 : List (List (ByteArray × List (Int × Int × Unit) × Unit))) (x6_8 : List ByteArray) (x6_9 : List (List Int)) : Option Lf :=
 bif decide (x6_5 < x6_4) then
  bif inb x6_5 x6_3.length then
   bif inb x6_4 x6_3.length then
    bif (x6_3.getD x6_5.toNat (0, 0, ())).fst == (x6_3.getD x6_4.toNat (0, 0, ())).fst then
     some (Lf.mk [(Pt.one (L.d (Pv.fz true) Sh.b (false : Bool)))] [] [])
    else
     g6 (x6_0 : Int) (x6_1 : Int) (x6_2 : Int) (x6_3 : List (Int × Int × Unit)) (x6_4 : Int) (IntKind.i64.wrap (x6_5 + 1) : Int) (x6_6 : Int) (x6_7 : List (List (ByteArray × List (Int × Int × Unit) × Unit))) (x6_8 : List ByteArray) (x6_9 : List (List Int))
   else
    none
  else
   none
 else
  g5 (x6_0 : Int) (x6_1 : Int) (x6_2 : Int) (x6_3 : List (Int × Int × Unit)) (IntKind.i64.wrap (x6_4 + 1) : Int) (x6_6 : Int) (x6_7 : List (List (ByteArray × List (Int × Int × Unit) × Unit))) (x6_8 : List ByteArray) (x6_9 : List (List Int))
noncomputable def f32L6 (n : Nat) (g2 : f32G2) (g4 : f32G4) (g5 : f32G5) : Nat → f32G6
  | 0 => fun _ _ _ _ _ _ _ _ _ _ => none
  | m + 1 => fun x6_0 x6_1 x6_2 x6_3 x6_4 x6_5 x6_6 x6_7 x6_8 x6_9 => f32S6  g2 g4 g5 (f32L6 n g2 g4 g5 m) x6_0 x6_1 x6_2 x6_3 x6_4 x6_5 x6_6 x6_7 x6_8 x6_9
theorem f32S6_ev (n : Nat) (G2 : St → Option Lf) (G4 : St → Option Lf) (G5 : St → Option Lf) (G : St → Option Lf) (x6_0 : Int) (x6_1 : Int) (x6_2 : Int) (x6_3 : List (Int × Int × Unit)) (x6_4 : Int) (x6_5 : Int) (x6_6 : Int) (x6_7 : List (List (ByteArray × List (Int × Int × Unit) × Unit))) (x6_8 : List ByteArray) (x6_9 : List (List Int)) : rnd C1 f32h n Lf (codeOf f32f) [1, 1, 1, 1, 0, 1, 0, 0, 1, 0, 0, 1, 1, 1, 0, 0, 1, 0, 0, 1, 1, 1, 0, 0, 1, 0, 0, 1, 1, 0] [G2, G4, G5] (endK C1 f32h f32f) G (f32H6 x6_0 x6_1 x6_2 x6_3 x6_4 x6_5 x6_6 x6_7 x6_8 x6_9) = f32S6  (f32W2 G2) (f32W4 G4) (f32W5 G5) (f32W6 G) x6_0 x6_1 x6_2 x6_3 x6_4 x6_5 x6_6 x6_7 x6_8 x6_9 := by kernel_rfl
theorem f32W6_ev (n : Nat) (G2 : St → Option Lf) (G4 : St → Option Lf) (G5 : St → Option Lf) : ∀ m, (f32W6 (lp C1 f32h n Lf (codeOf f32f) [1, 1, 1, 1, 0, 1, 0, 0, 1, 0, 0, 1, 1, 1, 0, 0, 1, 0, 0, 1, 1, 1, 0, 0, 1, 0, 0, 1, 1, 0] [G2, G4, G5] (endK C1 f32h f32f) m)) = f32L6 n (f32W2 G2) (f32W4 G4) (f32W5 G5) m := by
  intro m
  induction m with
  | zero => funext x6_0 x6_1 x6_2 x6_3 x6_4 x6_5 x6_6 x6_7 x6_8 x6_9; exact lp_zero _
  | succ m ih =>
    funext x6_0 x6_1 x6_2 x6_3 x6_4 x6_5 x6_6 x6_7 x6_8 x6_9
    show lp C1 f32h n Lf (codeOf f32f) [1, 1, 1, 1, 0, 1, 0, 0, 1, 0, 0, 1, 1, 1, 0, 0, 1, 0, 0, 1, 1, 1, 0, 0, 1, 0, 0, 1, 1, 0] [G2, G4, G5] (endK C1 f32h f32f) (m + 1) (f32H6 x6_0 x6_1 x6_2 x6_3 x6_4 x6_5 x6_6 x6_7 x6_8 x6_9) = f32S6  (f32W2 G2) (f32W4 G4) (f32W5 G5) (f32L6 n (f32W2 G2) (f32W4 G4) (f32W5 G5) m) x6_0 x6_1 x6_2 x6_3 x6_4 x6_5 x6_6 x6_7 x6_8 x6_9
    rw [lp_succ, f32S6_ev, ih]
noncomputable def f32S5 (l6 : f32G6) (g2 : f32G2) (g4 : f32G4) (g5 : f32G5) (x5_0 : Int) (x5_1 : Int) (x5_2 : Int) (x5_3 : List (Int × Int × Unit)) (x5_4 : Int) (x5_5 : Int) (x5_6 : List (List (ByteArray × List (Int × Int × Unit) × Unit))) (x5_7 : List ByteArray) (x5_8 : List (List Int)) : Option Lf :=
 bif decide (x5_4 < zn x5_3.length) then
  bif Nat.beq 2 2 && (inb x5_4 x5_3.length && (Nat.beq 1 1 && (decide ((x5_3.getD x5_4.toNat (0, 0, ())).fst < 0) || Nat.beq 2 2 && (inb x5_4 x5_3.length && (Nat.beq 1 1 && (decide ((x5_3.getD x5_4.toNat (0, 0, ())).fst ≥ x5_0) || Nat.beq 2 2 && (inb x5_4 x5_3.length && true))))))) then
   bif decide ((x5_3.getD x5_4.toNat (0, 0, ())).fst < 0) || (decide ((x5_3.getD x5_4.toNat (0, 0, ())).fst ≥ x5_0) || decide ((x5_3.getD x5_4.toNat (0, 0, ())).snd.fst < 1)) then
    some (Lf.mk [(Pt.one (L.d (Pv.fz true) Sh.b (false : Bool)))] [] [])
   else
    l6 (x5_0 : Int) (x5_1 : Int) (x5_2 : Int) (x5_3 : List (Int × Int × Unit)) (x5_4 : Int) (0 : Int) (x5_5 : Int) (x5_6 : List (List (ByteArray × List (Int × Int × Unit) × Unit))) (x5_7 : List ByteArray) (x5_8 : List (List Int))
  else
   none
 else
  g4 (x5_0 : Int) (x5_1 : Int) (IntKind.i64.wrap (x5_2 + 1) : Int) (x5_5 : Int) (x5_6 : List (List (ByteArray × List (Int × Int × Unit) × Unit))) (x5_7 : List ByteArray) (x5_8 : List (List Int))
noncomputable def f32L5 (n : Nat) (g2 : f32G2) (g4 : f32G4) : Nat → f32G5
  | 0 => fun _ _ _ _ _ _ _ _ _ => none
  | m + 1 => fun x5_0 x5_1 x5_2 x5_3 x5_4 x5_5 x5_6 x5_7 x5_8 => f32S5 (f32L6 n g2 g4 (f32L5 n g2 g4 m) n) g2 g4 (f32L5 n g2 g4 m) x5_0 x5_1 x5_2 x5_3 x5_4 x5_5 x5_6 x5_7 x5_8
theorem f32S5_ev (n : Nat) (G2 : St → Option Lf) (G4 : St → Option Lf) (G : St → Option Lf) (x5_0 : Int) (x5_1 : Int) (x5_2 : Int) (x5_3 : List (Int × Int × Unit)) (x5_4 : Int) (x5_5 : Int) (x5_6 : List (List (ByteArray × List (Int × Int × Unit) × Unit))) (x5_7 : List ByteArray) (x5_8 : List (List Int)) : rnd C1 f32h n Lf (codeOf f32f) [1, 1, 1, 1, 0, 1, 0, 0, 1, 0, 0, 1, 1, 1, 0, 0, 1, 0, 0, 1, 1, 1, 0] [G2, G4] (endK C1 f32h f32f) G (f32H5 x5_0 x5_1 x5_2 x5_3 x5_4 x5_5 x5_6 x5_7 x5_8) = f32S5 (f32W6 (lp C1 f32h n Lf (codeOf f32f) [1, 1, 1, 1, 0, 1, 0, 0, 1, 0, 0, 1, 1, 1, 0, 0, 1, 0, 0, 1, 1, 1, 0, 0, 1, 0, 0, 1, 1, 0] [G2, G4, G] (endK C1 f32h f32f) n)) (f32W2 G2) (f32W4 G4) (f32W5 G) x5_0 x5_1 x5_2 x5_3 x5_4 x5_5 x5_6 x5_7 x5_8 := by kernel_rfl
theorem f32W5_ev (n : Nat) (G2 : St → Option Lf) (G4 : St → Option Lf) : ∀ m, (f32W5 (lp C1 f32h n Lf (codeOf f32f) [1, 1, 1, 1, 0, 1, 0, 0, 1, 0, 0, 1, 1, 1, 0, 0, 1, 0, 0, 1, 1, 1, 0] [G2, G4] (endK C1 f32h f32f) m)) = f32L5 n (f32W2 G2) (f32W4 G4) m := by
  intro m
  induction m with
  | zero => funext x5_0 x5_1 x5_2 x5_3 x5_4 x5_5 x5_6 x5_7 x5_8; exact lp_zero _
  | succ m ih =>
    have e6 : (f32W6 (lp C1 f32h n Lf (codeOf f32f) [1, 1, 1, 1, 0, 1, 0, 0, 1, 0, 0, 1, 1, 1, 0, 0, 1, 0, 0, 1, 1, 1, 0, 0, 1, 0, 0, 1, 1, 0] [G2, G4, (lp C1 f32h n Lf (codeOf f32f) [1, 1, 1, 1, 0, 1, 0, 0, 1, 0, 0, 1, 1, 1, 0, 0, 1, 0, 0, 1, 1, 1, 0] [G2, G4] (endK C1 f32h f32f) m)] (endK C1 f32h f32f) n)) = (f32L6 n (f32W2 G2) (f32W4 G4) (f32L5 n (f32W2 G2) (f32W4 G4) m) n) := by
      rw [f32W6_ev, ih]
    funext x5_0 x5_1 x5_2 x5_3 x5_4 x5_5 x5_6 x5_7 x5_8
    show lp C1 f32h n Lf (codeOf f32f) [1, 1, 1, 1, 0, 1, 0, 0, 1, 0, 0, 1, 1, 1, 0, 0, 1, 0, 0, 1, 1, 1, 0] [G2, G4] (endK C1 f32h f32f) (m + 1) (f32H5 x5_0 x5_1 x5_2 x5_3 x5_4 x5_5 x5_6 x5_7 x5_8) = f32S5 (f32L6 n (f32W2 G2) (f32W4 G4) (f32L5 n (f32W2 G2) (f32W4 G4) m) n) (f32W2 G2) (f32W4 G4) (f32L5 n (f32W2 G2) (f32W4 G4) m) x5_0 x5_1 x5_2 x5_3 x5_4 x5_5 x5_6 x5_7 x5_8
    rw [lp_succ, f32S5_ev, ih, e6]
noncomputable def f32S4 (l5 : f32G5) (g2 : f32G2) (g4 : f32G4) (x4_0 : Int) (x4_1 : Int) (x4_2 : Int) (x4_3 : Int) (x4_4 : List (List (ByteArray × List (Int × Int × Unit) × Unit))) (x4_5 : List ByteArray) (x4_6 : List (List Int)) : Option Lf :=
 bif inb x4_1 x4_4.length then
  bif decide (x4_2 < zn (x4_4.getD x4_1.toNat []).length) then
   bif inb x4_1 x4_4.length then
    bif inb x4_2 (x4_4.getD x4_1.toNat []).length then
     bif zn ((x4_4.getD x4_1.toNat []).getD x4_2.toNat ({ data := #[] }, [], ())).snd.fst.length == 0 then
      some (Lf.mk [(Pt.one (L.d (Pv.fz true) Sh.b (false : Bool)))] [] [])
     else
      l5 (x4_0 : Int) (x4_1 : Int) (x4_2 : Int) (((x4_4.getD x4_1.toNat []).getD x4_2.toNat ({ data := #[] }, [], ())).snd.fst : List (Int × Int × Unit)) (0 : Int) (x4_3 : Int) (x4_4 : List (List (ByteArray × List (Int × Int × Unit) × Unit))) (x4_5 : List ByteArray) (x4_6 : List (List Int))
    else
     none
   else
    none
  else
   g2 (x4_0 : Int) (IntKind.i64.wrap (x4_1 + 1) : Int) (x4_3 : Int) (x4_4 : List (List (ByteArray × List (Int × Int × Unit) × Unit))) (x4_5 : List ByteArray) (x4_6 : List (List Int))
 else
  none
noncomputable def f32L4 (n : Nat) (g2 : f32G2) : Nat → f32G4
  | 0 => fun _ _ _ _ _ _ _ => none
  | m + 1 => fun x4_0 x4_1 x4_2 x4_3 x4_4 x4_5 x4_6 => f32S4 (f32L5 n g2 (f32L4 n g2 m) n) g2 (f32L4 n g2 m) x4_0 x4_1 x4_2 x4_3 x4_4 x4_5 x4_6
theorem f32S4_ev (n : Nat) (G2 : St → Option Lf) (G : St → Option Lf) (x4_0 : Int) (x4_1 : Int) (x4_2 : Int) (x4_3 : Int) (x4_4 : List (List (ByteArray × List (Int × Int × Unit) × Unit))) (x4_5 : List ByteArray) (x4_6 : List (List Int)) : rnd C1 f32h n Lf (codeOf f32f) [1, 1, 1, 1, 0, 1, 0, 0, 1, 0, 0, 1, 1, 1, 0] [G2] (endK C1 f32h f32f) G (f32H4 x4_0 x4_1 x4_2 x4_3 x4_4 x4_5 x4_6) = f32S4 (f32W5 (lp C1 f32h n Lf (codeOf f32f) [1, 1, 1, 1, 0, 1, 0, 0, 1, 0, 0, 1, 1, 1, 0, 0, 1, 0, 0, 1, 1, 1, 0] [G2, G] (endK C1 f32h f32f) n)) (f32W2 G2) (f32W4 G) x4_0 x4_1 x4_2 x4_3 x4_4 x4_5 x4_6 := by kernel_rfl
theorem f32W4_ev (n : Nat) (G2 : St → Option Lf) : ∀ m, (f32W4 (lp C1 f32h n Lf (codeOf f32f) [1, 1, 1, 1, 0, 1, 0, 0, 1, 0, 0, 1, 1, 1, 0] [G2] (endK C1 f32h f32f) m)) = f32L4 n (f32W2 G2) m := by
  intro m
  induction m with
  | zero => funext x4_0 x4_1 x4_2 x4_3 x4_4 x4_5 x4_6; exact lp_zero _
  | succ m ih =>
    have e5 : (f32W5 (lp C1 f32h n Lf (codeOf f32f) [1, 1, 1, 1, 0, 1, 0, 0, 1, 0, 0, 1, 1, 1, 0, 0, 1, 0, 0, 1, 1, 1, 0] [G2, (lp C1 f32h n Lf (codeOf f32f) [1, 1, 1, 1, 0, 1, 0, 0, 1, 0, 0, 1, 1, 1, 0] [G2] (endK C1 f32h f32f) m)] (endK C1 f32h f32f) n)) = (f32L5 n (f32W2 G2) (f32L4 n (f32W2 G2) m) n) := by
      rw [f32W5_ev, ih]
    funext x4_0 x4_1 x4_2 x4_3 x4_4 x4_5 x4_6
    show lp C1 f32h n Lf (codeOf f32f) [1, 1, 1, 1, 0, 1, 0, 0, 1, 0, 0, 1, 1, 1, 0] [G2] (endK C1 f32h f32f) (m + 1) (f32H4 x4_0 x4_1 x4_2 x4_3 x4_4 x4_5 x4_6) = f32S4 (f32L5 n (f32W2 G2) (f32L4 n (f32W2 G2) m) n) (f32W2 G2) (f32L4 n (f32W2 G2) m) x4_0 x4_1 x4_2 x4_3 x4_4 x4_5 x4_6
    rw [lp_succ, f32S4_ev, ih, e5]
noncomputable def f32S3 (l4 : f32G4) (g2 : f32G2) (g3 : f32G3) (x3_0 : Int) (x3_1 : Int) (x3_2 : Int) (x3_3 : Int) (x3_4 : List (List (ByteArray × List (Int × Int × Unit) × Unit))) (x3_5 : List ByteArray) (x3_6 : List (List Int)) : Option Lf :=
 bif inb x3_1 x3_6.length then
  bif decide (x3_2 < zn (x3_6.getD x3_1.toNat []).length) then
   bif Nat.beq 1 1 && (Nat.beq 1 1 && (inb x3_1 x3_6.length && (Nat.beq 1 1 && (Nat.beq 1 1 && (inb x3_2 (x3_6.getD x3_1.toNat []).length && (Nat.beq 1 1 && (decide ((x3_6.getD x3_1.toNat []).getD x3_2.toNat 0 < 0) || Nat.beq 1 1 && (Nat.beq 1 1 && (inb x3_1 x3_6.length && (Nat.beq 1 1 && (Nat.beq 1 1 && (inb x3_2 (x3_6.getD x3_1.toNat []).length && (Nat.beq 1 1 && (Nat.beq 1 1 && (decide ((x3_6.getD x3_1.toNat []).getD x3_2.toNat 0 ≥ zn x3_5.length) || bif decide (x3_2 > 0) then Nat.beq 1 1 && (Nat.beq 1 1 && (inb x3_1 x3_6.length && (Nat.beq 1 1 && (Nat.beq 1 1 && (inb x3_2 (x3_6.getD x3_1.toNat []).length && (Nat.beq 1 1 && (Nat.beq 1 1 && (Nat.beq 1 1 && (inb x3_1 x3_6.length && (Nat.beq 1 1 && (Nat.beq 1 1 && (inb (IntKind.i64.wrap (x3_2 - 1)) (x3_6.getD x3_1.toNat []).length && true)))))))))))) else true))))))))))))))) then
    bif decide ((x3_6.getD x3_1.toNat []).getD x3_2.toNat 0 < 0) || (decide ((x3_6.getD x3_1.toNat []).getD x3_2.toNat 0 ≥ zn x3_5.length) || decide (x3_2 > 0) && decide ((x3_6.getD x3_1.toNat []).getD x3_2.toNat 0 ≤ (x3_6.getD x3_1.toNat []).getD (IntKind.i64.wrap (x3_2 - 1)).toNat 0)) then
     some (Lf.mk [(Pt.one (L.d (Pv.fz true) Sh.b (false : Bool)))] [] [])
    else
     g3 (x3_0 : Int) (x3_1 : Int) (IntKind.i64.wrap (x3_2 + 1) : Int) (x3_3 : Int) (x3_4 : List (List (ByteArray × List (Int × Int × Unit) × Unit))) (x3_5 : List ByteArray) (x3_6 : List (List Int))
   else
    none
  else
   l4 (x3_0 : Int) (x3_1 : Int) (0 : Int) (x3_3 : Int) (x3_4 : List (List (ByteArray × List (Int × Int × Unit) × Unit))) (x3_5 : List ByteArray) (x3_6 : List (List Int))
 else
  none
noncomputable def f32L3 (n : Nat) (g2 : f32G2) : Nat → f32G3
  | 0 => fun _ _ _ _ _ _ _ => none
  | m + 1 => fun x3_0 x3_1 x3_2 x3_3 x3_4 x3_5 x3_6 => f32S3 (f32L4 n g2 n) g2 (f32L3 n g2 m) x3_0 x3_1 x3_2 x3_3 x3_4 x3_5 x3_6
theorem f32S3_ev (n : Nat) (G2 : St → Option Lf) (G : St → Option Lf) (x3_0 : Int) (x3_1 : Int) (x3_2 : Int) (x3_3 : Int) (x3_4 : List (List (ByteArray × List (Int × Int × Unit) × Unit))) (x3_5 : List ByteArray) (x3_6 : List (List Int)) : rnd C1 f32h n Lf (codeOf f32f) [1, 1, 1, 1, 0, 1, 0, 0, 1, 0, 0, 1, 0, 1, 0] [G2] (endK C1 f32h f32f) G (f32H3 x3_0 x3_1 x3_2 x3_3 x3_4 x3_5 x3_6) = f32S3 (f32W4 (lp C1 f32h n Lf (codeOf f32f) [1, 1, 1, 1, 0, 1, 0, 0, 1, 0, 0, 1, 1, 1, 0] [G2] (endK C1 f32h f32f) n)) (f32W2 G2) (f32W3 G) x3_0 x3_1 x3_2 x3_3 x3_4 x3_5 x3_6 := by kernel_rfl
theorem f32W3_ev (n : Nat) (G2 : St → Option Lf) : ∀ m, (f32W3 (lp C1 f32h n Lf (codeOf f32f) [1, 1, 1, 1, 0, 1, 0, 0, 1, 0, 0, 1, 0, 1, 0] [G2] (endK C1 f32h f32f) m)) = f32L3 n (f32W2 G2) m := by
  intro m
  induction m with
  | zero => funext x3_0 x3_1 x3_2 x3_3 x3_4 x3_5 x3_6; exact lp_zero _
  | succ m ih =>
    have e4 : (f32W4 (lp C1 f32h n Lf (codeOf f32f) [1, 1, 1, 1, 0, 1, 0, 0, 1, 0, 0, 1, 1, 1, 0] [G2] (endK C1 f32h f32f) n)) = (f32L4 n (f32W2 G2) n) := by
      rw [f32W4_ev]
    funext x3_0 x3_1 x3_2 x3_3 x3_4 x3_5 x3_6
    show lp C1 f32h n Lf (codeOf f32f) [1, 1, 1, 1, 0, 1, 0, 0, 1, 0, 0, 1, 0, 1, 0] [G2] (endK C1 f32h f32f) (m + 1) (f32H3 x3_0 x3_1 x3_2 x3_3 x3_4 x3_5 x3_6) = f32S3 (f32L4 n (f32W2 G2) n) (f32W2 G2) (f32L3 n (f32W2 G2) m) x3_0 x3_1 x3_2 x3_3 x3_4 x3_5 x3_6
    rw [lp_succ, f32S3_ev, ih, e4]
noncomputable def f32S2 (l3 : f32G3) (g2 : f32G2) (x2_0 : Int) (x2_1 : Int) (x2_2 : Int) (x2_3 : List (List (ByteArray × List (Int × Int × Unit) × Unit))) (x2_4 : List ByteArray) (x2_5 : List (List Int)) : Option Lf :=
 bif decide (x2_1 < x2_0) then
  bif inb x2_1 x2_3.length then
   bif zn (x2_3.getD x2_1.toNat []).length == 0 then
    some (Lf.mk [(Pt.one (L.d (Pv.fz true) Sh.b (false : Bool)))] [] [])
   else
    l3 (x2_0 : Int) (x2_1 : Int) (0 : Int) (x2_2 : Int) (x2_3 : List (List (ByteArray × List (Int × Int × Unit) × Unit))) (x2_4 : List ByteArray) (x2_5 : List (List Int))
  else
   none
 else
  some (Lf.mk [(Pt.one (L.d (Pv.fz true) Sh.b (true : Bool)))] [] [])
noncomputable def f32L2 (n : Nat)  : Nat → f32G2
  | 0 => fun _ _ _ _ _ _ => none
  | m + 1 => fun x2_0 x2_1 x2_2 x2_3 x2_4 x2_5 => f32S2 (f32L3 n (f32L2 n  m) n)  (f32L2 n  m) x2_0 x2_1 x2_2 x2_3 x2_4 x2_5
theorem f32S2_ev (n : Nat)  (G : St → Option Lf) (x2_0 : Int) (x2_1 : Int) (x2_2 : Int) (x2_3 : List (List (ByteArray × List (Int × Int × Unit) × Unit))) (x2_4 : List ByteArray) (x2_5 : List (List Int)) : rnd C1 f32h n Lf (codeOf f32f) [1, 1, 1, 1, 0, 1, 0] [] (endK C1 f32h f32f) G (f32H2 x2_0 x2_1 x2_2 x2_3 x2_4 x2_5) = f32S2 (f32W3 (lp C1 f32h n Lf (codeOf f32f) [1, 1, 1, 1, 0, 1, 0, 0, 1, 0, 0, 1, 0, 1, 0] [G] (endK C1 f32h f32f) n))  (f32W2 G) x2_0 x2_1 x2_2 x2_3 x2_4 x2_5 := by kernel_rfl
theorem f32W2_ev (n : Nat)  : ∀ m, (f32W2 (lp C1 f32h n Lf (codeOf f32f) [1, 1, 1, 1, 0, 1, 0] [] (endK C1 f32h f32f) m)) = f32L2 n  m := by
  intro m
  induction m with
  | zero => funext x2_0 x2_1 x2_2 x2_3 x2_4 x2_5; exact lp_zero _
  | succ m ih =>
    have e3 : (f32W3 (lp C1 f32h n Lf (codeOf f32f) [1, 1, 1, 1, 0, 1, 0, 0, 1, 0, 0, 1, 0, 1, 0] [(lp C1 f32h n Lf (codeOf f32f) [1, 1, 1, 1, 0, 1, 0] [] (endK C1 f32h f32f) m)] (endK C1 f32h f32f) n)) = (f32L3 n (f32L2 n  m) n) := by
      rw [f32W3_ev, ih]
    funext x2_0 x2_1 x2_2 x2_3 x2_4 x2_5
    show lp C1 f32h n Lf (codeOf f32f) [1, 1, 1, 1, 0, 1, 0] [] (endK C1 f32h f32f) (m + 1) (f32H2 x2_0 x2_1 x2_2 x2_3 x2_4 x2_5) = f32S2 (f32L3 n (f32L2 n  m) n)  (f32L2 n  m) x2_0 x2_1 x2_2 x2_3 x2_4 x2_5
    rw [lp_succ, f32S2_ev, ih, e3]
noncomputable def f32S0 (l1 : f32G1) (l2 : f32G2) (g0 : f32G0) (x0_0 : Int) (x0_1 : Int) (x0_2 : Int) (x0_3 : List (List (ByteArray × List (Int × Int × Unit) × Unit))) (x0_4 : List ByteArray) (x0_5 : List (List Int)) : Option Lf :=
 bif decide (x0_1 < zn x0_4.length) then
  l1 (x0_0 : Int) (x0_1 : Int) (0 : Int) (x0_2 : Int) (x0_3 : List (List (ByteArray × List (Int × Int × Unit) × Unit))) (x0_4 : List ByteArray) (x0_5 : List (List Int))
 else
  l2 (x0_0 : Int) (0 : Int) (x0_2 : Int) (x0_3 : List (List (ByteArray × List (Int × Int × Unit) × Unit))) (x0_4 : List ByteArray) (x0_5 : List (List Int))
noncomputable def f32L0 (n : Nat)  : Nat → f32G0
  | 0 => fun _ _ _ _ _ _ => none
  | m + 1 => fun x0_0 x0_1 x0_2 x0_3 x0_4 x0_5 => f32S0 (f32L1 n (f32L0 n  m) n) (f32L2 n  n)  (f32L0 n  m) x0_0 x0_1 x0_2 x0_3 x0_4 x0_5
theorem f32S0_ev (n : Nat)  (G : St → Option Lf) (x0_0 : Int) (x0_1 : Int) (x0_2 : Int) (x0_3 : List (List (ByteArray × List (Int × Int × Unit) × Unit))) (x0_4 : List ByteArray) (x0_5 : List (List Int)) : rnd C1 f32h n Lf (codeOf f32f) [1, 1, 1, 0, 1, 0] [] (endK C1 f32h f32f) G (f32H0 x0_0 x0_1 x0_2 x0_3 x0_4 x0_5) = f32S0 (f32W1 (lp C1 f32h n Lf (codeOf f32f) [1, 1, 1, 0, 1, 0, 0, 1, 0, 0, 1, 0] [G] (endK C1 f32h f32f) n)) (f32W2 (lp C1 f32h n Lf (codeOf f32f) [1, 1, 1, 1, 0, 1, 0] [] (endK C1 f32h f32f) n))  (f32W0 G) x0_0 x0_1 x0_2 x0_3 x0_4 x0_5 := by kernel_rfl
theorem f32W0_ev (n : Nat)  : ∀ m, (f32W0 (lp C1 f32h n Lf (codeOf f32f) [1, 1, 1, 0, 1, 0] [] (endK C1 f32h f32f) m)) = f32L0 n  m := by
  intro m
  induction m with
  | zero => funext x0_0 x0_1 x0_2 x0_3 x0_4 x0_5; exact lp_zero _
  | succ m ih =>
    have e1 : (f32W1 (lp C1 f32h n Lf (codeOf f32f) [1, 1, 1, 0, 1, 0, 0, 1, 0, 0, 1, 0] [(lp C1 f32h n Lf (codeOf f32f) [1, 1, 1, 0, 1, 0] [] (endK C1 f32h f32f) m)] (endK C1 f32h f32f) n)) = (f32L1 n (f32L0 n  m) n) := by
      rw [f32W1_ev, ih]
    have e2 : (f32W2 (lp C1 f32h n Lf (codeOf f32f) [1, 1, 1, 1, 0, 1, 0] [] (endK C1 f32h f32f) n)) = (f32L2 n  n) := by
      rw [f32W2_ev]
    funext x0_0 x0_1 x0_2 x0_3 x0_4 x0_5
    show lp C1 f32h n Lf (codeOf f32f) [1, 1, 1, 0, 1, 0] [] (endK C1 f32h f32f) (m + 1) (f32H0 x0_0 x0_1 x0_2 x0_3 x0_4 x0_5) = f32S0 (f32L1 n (f32L0 n  m) n) (f32L2 n  n)  (f32L0 n  m) x0_0 x0_1 x0_2 x0_3 x0_4 x0_5
    rw [lp_succ, f32S0_ev, ih, e1, e2]
noncomputable def f32T (l0 : f32G0) (i : Int) (ch : List (List (ByteArray × List (Int × Int × Unit) × Unit))) (nm : List ByteArray) (ho : List (List Int)) : Option Lf :=
 bif decide (zn ch.length < 1) || (decide (zn ch.length > 4096) || Nat.beq 1 1 && (decide (i < 0) || Nat.beq 1 1 && (decide (i ≥ zn ch.length) || true))) then
  bif decide (zn ch.length < 1) || (decide (zn ch.length > 4096) || (decide (i < 0) || (decide (i ≥ zn ch.length) || zn ho.length != zn ch.length))) then
   some (Lf.mk [(Pt.one (L.d (Pv.fz true) Sh.b (false : Bool)))] [] [])
  else
   l0 (zn ch.length : Int) (0 : Int) (i : Int) (ch : List (List (ByteArray × List (Int × Int × Unit) × Unit))) (nm : List ByteArray) (ho : List (List Int))
 else
  none
noncomputable def f32M (n : Nat) (i : Int) (ch : List (List (ByteArray × List (Int × Int × Unit) × Unit))) (nm : List ByteArray) (ho : List (List Int)) : Option Lf := f32T (f32L0 n n) i ch nm ho
theorem f32T_ev (n : Nat) (i : Int) (ch : List (List (ByteArray × List (Int × Int × Unit) × Unit))) (nm : List ByteArray) (ho : List (List Int)) : evF C1 f32h n f32f [(D.p (Pt.agg [(L.d (Pv.fz true) (Sh.i IntKind.i64) i), (L.d (Pv.fz false) (Sh.l (Sh.l (Sh.p Sh.s (Sh.p (Sh.l (Sh.p (Sh.i IntKind.i64) (Sh.p (Sh.i IntKind.i64) Sh.u))) Sh.u)))) ch), (L.d (Pv.fz false) (Sh.l Sh.s) nm), (L.d (Pv.fz false) (Sh.l (Sh.l (Sh.i IntKind.i64))) ho)]))] [] = f32T (f32W0 (lp C1 f32h n Lf (codeOf f32f) [1, 1, 1, 0, 1, 0] [] (endK C1 f32h f32f) n)) i ch nm ho := by kernel_rfl
theorem f32_ev (n : Nat) (i : Int) (ch : List (List (ByteArray × List (Int × Int × Unit) × Unit))) (nm : List ByteArray) (ho : List (List Int)) : evF C1 f32h n f32f [(D.p (Pt.agg [(L.d (Pv.fz true) (Sh.i IntKind.i64) i), (L.d (Pv.fz false) (Sh.l (Sh.l (Sh.p Sh.s (Sh.p (Sh.l (Sh.p (Sh.i IntKind.i64) (Sh.p (Sh.i IntKind.i64) Sh.u))) Sh.u)))) ch), (L.d (Pv.fz false) (Sh.l Sh.s) nm), (L.d (Pv.fz false) (Sh.l (Sh.l (Sh.i IntKind.i64))) ho)]))] [] = f32M n i ch nm ho := by
  rw [f32T_ev, f32W0_ev]
  rfl

abbrev f23h : Hn := h23
noncomputable abbrev f23f : Func := fn 11
abbrev f23G0 := (List (List (ByteArray × List (Int × Int × Unit) × Unit))) → Int → Int → Int → (List (List (ByteArray × List (Int × Int × Unit) × Unit))) → (List ByteArray) → (List (List Int)) → Int → Option Lf
noncomputable def f23H0 (x0_0 : List (List (ByteArray × List (Int × Int × Unit) × Unit))) (x0_1 : Int) (x0_2 : Int) (x0_3 : Int) (x0_4 : List (List (ByteArray × List (Int × Int × Unit) × Unit))) (x0_5 : List ByteArray) (x0_6 : List (List Int)) (x0_7 : Int) : St := (St.mk [dead, (D.p (Pt.one (L.pv (Id.mk 1 0) 0))), dead, (D.p (Pt.one (L.pv (Id.mk 1 1) 0))), dead, dead, dead, dead, dead, dead, dead, dead, dead, dead, dead, dead, dead, dead, dead, dead, dead, dead, dead, dead, dead, dead, dead, dead, dead, dead, dead, dead, dead, dead, dead, dead, dead, dead, dead, dead, dead, (D.p (Pt.one (L.d (Pv.fz false) (Sh.l (Sh.l (Sh.p Sh.s (Sh.p (Sh.l (Sh.p (Sh.i IntKind.i64) (Sh.p (Sh.i IntKind.i64) Sh.u))) Sh.u)))) x0_0))), (D.p (Pt.one (L.d (Pv.fz true) (Sh.i IntKind.i64) x0_1))), (D.p (Pt.one (L.d (Pv.fz true) (Sh.i IntKind.i64) x0_2))), dead, dead, dead, dead, dead, dead, dead, dead, dead, dead, dead, dead, dead, dead, dead, dead, dead, dead, dead, dead, dead, dead, dead, dead, dead, dead] [[], [(Ob.va [(L.d (Pv.fz true) (Sh.i IntKind.i64) x0_3), (L.d (Pv.fz false) (Sh.l (Sh.l (Sh.p Sh.s (Sh.p (Sh.l (Sh.p (Sh.i IntKind.i64) (Sh.p (Sh.i IntKind.i64) Sh.u))) Sh.u)))) x0_4), (L.d (Pv.fz false) (Sh.l Sh.s) x0_5), (L.d (Pv.fz false) (Sh.l (Sh.l (Sh.i IntKind.i64))) x0_6)]), (Ob.va [(L.d (Pv.fz true) (Sh.i IntKind.i64) x0_7)])]])
noncomputable def f23W0 (G : St → Option Lf) : f23G0 := fun x0_0 x0_1 x0_2 x0_3 x0_4 x0_5 x0_6 x0_7 => G (f23H0 x0_0 x0_1 x0_2 x0_3 x0_4 x0_5 x0_6 x0_7)
noncomputable def f23S0  (g0 : f23G0) (x0_0 : List (List (ByteArray × List (Int × Int × Unit) × Unit))) (x0_1 : Int) (x0_2 : Int) (x0_3 : Int) (x0_4 : List (List (ByteArray × List (Int × Int × Unit) × Unit))) (x0_5 : List ByteArray) (x0_6 : List (List Int)) (x0_7 : Int) : Option Lf :=
 bif decide (x0_2 < x0_1) then
  bif inb x0_2 x0_0.length then
   bif zn (x0_0.getD x0_2.toNat []).length == 0 then
    some (Lf.mk [(Pt.one (L.d (Pv.fz true) Sh.e (Er.no 1 : Er)))] [] [])
   else
    bif inb x0_2 x0_6.length then
     bif big (x0_6.getD x0_2.toNat []).length then
      bif !riseF (zn x0_5.length) (-1) (x0_6.getD x0_2.toNat []) then
       some (Lf.mk [(Pt.one (L.d (Pv.fz true) Sh.e (Er.no 1 : Er)))] [] [])
      else
       bif big (x0_0.getD x0_2.toNat []).length && (x0_0.getD x0_2.toNat []).all mvG then
        bif (x0_0.getD x0_2.toNat []).any fun (c : ByteArray × List (Int × Int × Unit) × Unit) => !rightV x0_7 c then
         some (Lf.mk [(Pt.one (L.d (Pv.fz true) Sh.e (Er.no 1 : Er)))] [] [])
        else
         g0 (x0_0 : List (List (ByteArray × List (Int × Int × Unit) × Unit))) (x0_1 : Int) (IntKind.i64.wrap (x0_2 + 1) : Int) (x0_3 : Int) (x0_4 : List (List (ByteArray × List (Int × Int × Unit) × Unit))) (x0_5 : List ByteArray) (x0_6 : List (List Int)) (x0_7 : Int)
       else
        none
     else
      none
    else
     none
  else
   none
 else
  some (Lf.mk [(Pt.one (L.d (Pv.fz true) Sh.e (Er.nil : Er)))] [] [])
noncomputable def f23L0 (n : Nat)  : Nat → f23G0
  | 0 => fun _ _ _ _ _ _ _ _ => none
  | m + 1 => fun x0_0 x0_1 x0_2 x0_3 x0_4 x0_5 x0_6 x0_7 => f23S0   (f23L0 n  m) x0_0 x0_1 x0_2 x0_3 x0_4 x0_5 x0_6 x0_7
theorem f23S0_ev (n : Nat)  (G : St → Option Lf) (x0_0 : List (List (ByteArray × List (Int × Int × Unit) × Unit))) (x0_1 : Int) (x0_2 : Int) (x0_3 : Int) (x0_4 : List (List (ByteArray × List (Int × Int × Unit) × Unit))) (x0_5 : List ByteArray) (x0_6 : List (List Int)) (x0_7 : Int) : rnd C10 f23h n Lf (codeOf f23f) [1, 1, 1, 0, 1, 0] [] (endK C10 f23h f23f) G (f23H0 x0_0 x0_1 x0_2 x0_3 x0_4 x0_5 x0_6 x0_7) = f23S0   (f23W0 G) x0_0 x0_1 x0_2 x0_3 x0_4 x0_5 x0_6 x0_7 := by kernel_rfl
theorem f23W0_ev (n : Nat)  : ∀ m, (f23W0 (lp C10 f23h n Lf (codeOf f23f) [1, 1, 1, 0, 1, 0] [] (endK C10 f23h f23f) m)) = f23L0 n  m := by
  intro m
  induction m with
  | zero => funext x0_0 x0_1 x0_2 x0_3 x0_4 x0_5 x0_6 x0_7; exact lp_zero _
  | succ m ih =>
    funext x0_0 x0_1 x0_2 x0_3 x0_4 x0_5 x0_6 x0_7
    show lp C10 f23h n Lf (codeOf f23f) [1, 1, 1, 0, 1, 0] [] (endK C10 f23h f23f) (m + 1) (f23H0 x0_0 x0_1 x0_2 x0_3 x0_4 x0_5 x0_6 x0_7) = f23S0   (f23L0 n  m) x0_0 x0_1 x0_2 x0_3 x0_4 x0_5 x0_6 x0_7
    rw [lp_succ, f23S0_ev, ih]
noncomputable def f23T (l0 : f23G0) (i : Int) (ch : List (List (ByteArray × List (Int × Int × Unit) × Unit))) (nm : List ByteArray) (ho : List (List Int)) : Option Lf :=
 bif Nat.beq 1 1 && (decide (zn ch.length < 1) || Nat.beq 1 1 && (decide (zn ch.length > 4096) || Nat.beq 1 1 && (decide (i < 0) || Nat.beq 1 1 && (Nat.beq 1 1 && (decide (i ≥ zn ch.length) || Nat.beq 1 1 && (Nat.beq 1 1 && (zn ho.length != zn ch.length || Nat.beq 1 1 && (big nm.length && true)))))))) then
  bif decide (zn ch.length < 1) || (decide (zn ch.length > 4096) || (decide (i < 0) || (decide (i ≥ zn ch.length) || (zn ho.length != zn ch.length || !differF nm)))) then
   some (Lf.mk [(Pt.one (L.d (Pv.fz true) Sh.e (Er.no 1 : Er)))] [] [])
  else
   l0 (ch : List (List (ByteArray × List (Int × Int × Unit) × Unit))) (zn ch.length : Int) (0 : Int) (i : Int) (ch : List (List (ByteArray × List (Int × Int × Unit) × Unit))) (nm : List ByteArray) (ho : List (List Int)) (zn ch.length : Int)
 else
  none
noncomputable def f23M (n : Nat) (i : Int) (ch : List (List (ByteArray × List (Int × Int × Unit) × Unit))) (nm : List ByteArray) (ho : List (List Int)) : Option Lf := f23T (f23L0 n n) i ch nm ho
theorem f23T_ev (n : Nat) (i : Int) (ch : List (List (ByteArray × List (Int × Int × Unit) × Unit))) (nm : List ByteArray) (ho : List (List Int)) : evF C10 f23h n f23f [(D.p (Pt.agg [(L.d (Pv.fz true) (Sh.i IntKind.i64) i), (L.d (Pv.fz false) (Sh.l (Sh.l (Sh.p Sh.s (Sh.p (Sh.l (Sh.p (Sh.i IntKind.i64) (Sh.p (Sh.i IntKind.i64) Sh.u))) Sh.u)))) ch), (L.d (Pv.fz false) (Sh.l Sh.s) nm), (L.d (Pv.fz false) (Sh.l (Sh.l (Sh.i IntKind.i64))) ho)]))] [] = f23T (f23W0 (lp C10 f23h n Lf (codeOf f23f) [1, 1, 1, 0, 1, 0] [] (endK C10 f23h f23f) n)) i ch nm ho := by kernel_rfl
theorem f23_ev (n : Nat) (i : Int) (ch : List (List (ByteArray × List (Int × Int × Unit) × Unit))) (nm : List ByteArray) (ho : List (List Int)) : evF C10 f23h n f23f [(D.p (Pt.agg [(L.d (Pv.fz true) (Sh.i IntKind.i64) i), (L.d (Pv.fz false) (Sh.l (Sh.l (Sh.p Sh.s (Sh.p (Sh.l (Sh.p (Sh.i IntKind.i64) (Sh.p (Sh.i IntKind.i64) Sh.u))) Sh.u)))) ch), (L.d (Pv.fz false) (Sh.l Sh.s) nm), (L.d (Pv.fz false) (Sh.l (Sh.l (Sh.i IntKind.i64))) ho)]))] [] = f23M n i ch nm ho := by
  rw [f23T_ev, f23W0_ev]
  rfl

abbrev f12h : Hn := h12
noncomputable abbrev f12f : Func := fn 9
abbrev f12G0 := Int → Int → (List (List (ByteArray × List (Int × Int × Unit) × Unit))) → (List ByteArray) → (List (List Int)) → Int → Int → (List (List (ByteArray × List (Int × Int × Unit) × Unit))) → (List ByteArray) → (List (List Int)) → Option Lf
noncomputable def f12H0 (x0_0 : Int) (x0_1 : Int) (x0_2 : List (List (ByteArray × List (Int × Int × Unit) × Unit))) (x0_3 : List ByteArray) (x0_4 : List (List Int)) (x0_5 : Int) (x0_6 : Int) (x0_7 : List (List (ByteArray × List (Int × Int × Unit) × Unit))) (x0_8 : List ByteArray) (x0_9 : List (List Int)) : St := (St.mk [dead, (D.p (Pt.one (L.pv (Id.mk 1 0) 0))), (D.p (Pt.one (L.pv (Id.mk 1 1) 0))), (D.p (Pt.one (L.pv (Id.mk 1 2) 0))), (D.p (Pt.one (L.d (Pv.fz true) (Sh.i IntKind.i64) x0_0))), dead, dead, dead, dead, dead, dead, dead, dead, dead, dead, dead, dead, dead, dead, dead, dead, dead, dead, dead, dead, dead, dead, dead, dead, dead, dead, dead, dead, dead, dead, dead, dead, dead, dead, dead, dead, dead, dead, dead, dead, dead, dead, dead, dead, dead, dead, dead, dead, dead, dead, dead, dead, dead, dead, dead, dead, dead, dead, dead, dead, dead, dead, dead, dead, dead, dead, dead, dead, dead, dead, dead, dead, dead, dead, dead, dead, dead, dead, dead, dead, dead, dead, dead, dead, dead, dead, dead, dead, dead, dead, dead, dead, dead, dead, dead, dead, dead, dead, dead, dead, dead, dead] [[], [(Ob.va [(L.d (Pv.fz true) (Sh.i IntKind.i64) x0_1), (L.d (Pv.fz false) (Sh.l (Sh.l (Sh.p Sh.s (Sh.p (Sh.l (Sh.p (Sh.i IntKind.i64) (Sh.p (Sh.i IntKind.i64) Sh.u))) Sh.u)))) x0_2), (L.d (Pv.fz false) (Sh.l Sh.s) x0_3), (L.d (Pv.fz false) (Sh.l (Sh.l (Sh.i IntKind.i64))) x0_4)]), (Ob.va [(L.d (Pv.fz true) (Sh.i IntKind.i64) x0_5), L.nl, L.nl, L.nl]), (Ob.va [(L.d (Pv.fz true) (Sh.i IntKind.i64) x0_6), (L.rw (Id.mk 1 3)), (L.rw (Id.mk 1 4)), (L.rw (Id.mk 1 5))]), (Ob.ro true 0 34 (Sh.l (Sh.p Sh.s (Sh.p (Sh.l (Sh.p (Sh.i IntKind.i64) (Sh.p (Sh.i IntKind.i64) Sh.u))) Sh.u))) (Ow.l 39 (Ow.p Ow.z (Ow.p (Ow.l 36 Ow.z) Ow.z))) x0_7 Option.none), (Ob.ro true 0 9 Sh.s Ow.z x0_8 Option.none), (Ob.ro true 0 40 (Sh.l (Sh.i IntKind.i64)) (Ow.l 3 Ow.z) x0_9 Option.none)]])
noncomputable def f12W0 (G : St → Option Lf) : f12G0 := fun x0_0 x0_1 x0_2 x0_3 x0_4 x0_5 x0_6 x0_7 x0_8 x0_9 => G (f12H0 x0_0 x0_1 x0_2 x0_3 x0_4 x0_5 x0_6 x0_7 x0_8 x0_9)
abbrev f12G1 := Int → Int → Int → (List (List (ByteArray × List (Int × Int × Unit) × Unit))) → (List ByteArray) → (List (List Int)) → Int → Int → (List (ByteArray × List (Int × Int × Unit) × Unit)) → (List (List (ByteArray × List (Int × Int × Unit) × Unit))) → (List ByteArray) → (List (List Int)) → Option Lf
noncomputable def f12H1 (x1_0 : Int) (x1_1 : Int) (x1_2 : Int) (x1_3 : List (List (ByteArray × List (Int × Int × Unit) × Unit))) (x1_4 : List ByteArray) (x1_5 : List (List Int)) (x1_6 : Int) (x1_7 : Int) (x1_8 : List (ByteArray × List (Int × Int × Unit) × Unit)) (x1_9 : List (List (ByteArray × List (Int × Int × Unit) × Unit))) (x1_10 : List ByteArray) (x1_11 : List (List Int)) : St := (St.mk [dead, (D.p (Pt.one (L.pv (Id.mk 1 0) 0))), (D.p (Pt.one (L.pv (Id.mk 1 1) 0))), (D.p (Pt.one (L.pv (Id.mk 1 2) 0))), (D.p (Pt.one (L.d (Pv.fz true) (Sh.i IntKind.i64) x1_0))), (D.p (Pt.one (L.rw (Id.mk 1 3)))), (D.p (Pt.one (L.d (Pv.fz true) (Sh.i IntKind.i64) x1_1))), dead, dead, dead, dead, dead, dead, dead, dead, dead, dead, dead, dead, dead, dead, dead, dead, dead, dead, dead, dead, dead, dead, dead, dead, dead, dead, dead, dead, dead, dead, dead, dead, dead, dead, dead, dead, dead, dead, dead, dead, dead, dead, dead, dead, dead, dead, dead, dead, dead, dead, dead, dead, dead, dead, dead, dead, dead, dead, dead, dead, dead, dead, dead, dead, dead, dead, dead, dead, dead, dead, dead, dead, dead, dead, dead, dead, dead, dead, dead, dead, dead, dead, dead, dead, dead, dead, dead, dead, dead, dead, dead, dead, dead, dead, dead, dead, dead, dead, dead, dead] [[], [(Ob.va [(L.d (Pv.fz true) (Sh.i IntKind.i64) x1_2), (L.d (Pv.fz false) (Sh.l (Sh.l (Sh.p Sh.s (Sh.p (Sh.l (Sh.p (Sh.i IntKind.i64) (Sh.p (Sh.i IntKind.i64) Sh.u))) Sh.u)))) x1_3), (L.d (Pv.fz false) (Sh.l Sh.s) x1_4), (L.d (Pv.fz false) (Sh.l (Sh.l (Sh.i IntKind.i64))) x1_5)]), (Ob.va [(L.d (Pv.fz true) (Sh.i IntKind.i64) x1_6), L.nl, L.nl, L.nl]), (Ob.va [(L.d (Pv.fz true) (Sh.i IntKind.i64) x1_7), (L.rw (Id.mk 1 4)), (L.rw (Id.mk 1 5)), (L.rw (Id.mk 1 6))]), (Ob.ro true 0 39 (Sh.p Sh.s (Sh.p (Sh.l (Sh.p (Sh.i IntKind.i64) (Sh.p (Sh.i IntKind.i64) Sh.u))) Sh.u)) (Ow.p Ow.z (Ow.p (Ow.l 36 Ow.z) Ow.z)) x1_8 Option.none), (Ob.ro true 0 34 (Sh.l (Sh.p Sh.s (Sh.p (Sh.l (Sh.p (Sh.i IntKind.i64) (Sh.p (Sh.i IntKind.i64) Sh.u))) Sh.u))) (Ow.l 39 (Ow.p Ow.z (Ow.p (Ow.l 36 Ow.z) Ow.z))) x1_9 Option.none), (Ob.ro true 0 9 Sh.s Ow.z x1_10 Option.none), (Ob.ro true 0 40 (Sh.l (Sh.i IntKind.i64)) (Ow.l 3 Ow.z) x1_11 Option.none)]])
noncomputable def f12W1 (G : St → Option Lf) : f12G1 := fun x1_0 x1_1 x1_2 x1_3 x1_4 x1_5 x1_6 x1_7 x1_8 x1_9 x1_10 x1_11 => G (f12H1 x1_0 x1_1 x1_2 x1_3 x1_4 x1_5 x1_6 x1_7 x1_8 x1_9 x1_10 x1_11)
abbrev f12G2 := Int → Int → Int → Int → (List (List (ByteArray × List (Int × Int × Unit) × Unit))) → (List ByteArray) → (List (List Int)) → Int → Int → (List (ByteArray × List (Int × Int × Unit) × Unit)) → ByteArray → (List (List (ByteArray × List (Int × Int × Unit) × Unit))) → (List ByteArray) → (List (List Int)) → (List (Int × Int × Unit)) → Option Lf
noncomputable def f12H2 (x2_0 : Int) (x2_1 : Int) (x2_2 : Int) (x2_3 : Int) (x2_4 : List (List (ByteArray × List (Int × Int × Unit) × Unit))) (x2_5 : List ByteArray) (x2_6 : List (List Int)) (x2_7 : Int) (x2_8 : Int) (x2_9 : List (ByteArray × List (Int × Int × Unit) × Unit)) (x2_10 : ByteArray) (x2_11 : List (List (ByteArray × List (Int × Int × Unit) × Unit))) (x2_12 : List ByteArray) (x2_13 : List (List Int)) (x2_14 : List (Int × Int × Unit)) : St := (St.mk [dead, (D.p (Pt.one (L.pv (Id.mk 1 0) 0))), (D.p (Pt.one (L.pv (Id.mk 1 1) 0))), (D.p (Pt.one (L.pv (Id.mk 1 2) 0))), (D.p (Pt.one (L.d (Pv.fz true) (Sh.i IntKind.i64) x2_0))), (D.p (Pt.one (L.rw (Id.mk 1 3)))), (D.p (Pt.one (L.d (Pv.fz true) (Sh.i IntKind.i64) x2_1))), (D.p (Pt.one (L.pv (Id.mk 1 4) 0))), (D.p (Pt.one (L.d (Pv.fz true) (Sh.i IntKind.i64) x2_2))), dead, dead, dead, dead, dead, dead, dead, dead, dead, dead, dead, dead, dead, dead, dead, dead, dead, dead, dead, dead, dead, dead, dead, dead, dead, dead, dead, dead, dead, dead, dead, dead, dead, dead, dead, dead, dead, dead, dead, dead, dead, dead, dead, dead, dead, dead, dead, dead, dead, dead, dead, dead, dead, dead, dead, dead, dead, dead, dead, dead, dead, dead, dead, dead, dead, dead, dead, dead, dead, dead, dead, dead, dead, dead, dead, dead, dead, dead, dead, dead, dead, dead, dead, dead, dead, dead, dead, dead, dead, dead, dead, dead, dead, dead, dead, dead, dead, dead] [[], [(Ob.va [(L.d (Pv.fz true) (Sh.i IntKind.i64) x2_3), (L.d (Pv.fz false) (Sh.l (Sh.l (Sh.p Sh.s (Sh.p (Sh.l (Sh.p (Sh.i IntKind.i64) (Sh.p (Sh.i IntKind.i64) Sh.u))) Sh.u)))) x2_4), (L.d (Pv.fz false) (Sh.l Sh.s) x2_5), (L.d (Pv.fz false) (Sh.l (Sh.l (Sh.i IntKind.i64))) x2_6)]), (Ob.va [(L.d (Pv.fz true) (Sh.i IntKind.i64) x2_7), L.nl, L.nl, L.nl]), (Ob.va [(L.d (Pv.fz true) (Sh.i IntKind.i64) x2_8), (L.rw (Id.mk 1 5)), (L.rw (Id.mk 1 6)), (L.rw (Id.mk 1 7))]), (Ob.ro true 0 39 (Sh.p Sh.s (Sh.p (Sh.l (Sh.p (Sh.i IntKind.i64) (Sh.p (Sh.i IntKind.i64) Sh.u))) Sh.u)) (Ow.p Ow.z (Ow.p (Ow.l 36 Ow.z) Ow.z)) x2_9 Option.none), (Ob.va [(L.d (Pv.fz true) Sh.s x2_10), (L.rw (Id.mk 1 8))]), (Ob.ro true 0 34 (Sh.l (Sh.p Sh.s (Sh.p (Sh.l (Sh.p (Sh.i IntKind.i64) (Sh.p (Sh.i IntKind.i64) Sh.u))) Sh.u))) (Ow.l 39 (Ow.p Ow.z (Ow.p (Ow.l 36 Ow.z) Ow.z))) x2_11 Option.none), (Ob.ro true 0 9 Sh.s Ow.z x2_12 Option.none), (Ob.ro true 0 40 (Sh.l (Sh.i IntKind.i64)) (Ow.l 3 Ow.z) x2_13 Option.none), (Ob.ro true 0 36 (Sh.p (Sh.i IntKind.i64) (Sh.p (Sh.i IntKind.i64) Sh.u)) Ow.z x2_14 Option.none)]])
noncomputable def f12W2 (G : St → Option Lf) : f12G2 := fun x2_0 x2_1 x2_2 x2_3 x2_4 x2_5 x2_6 x2_7 x2_8 x2_9 x2_10 x2_11 x2_12 x2_13 x2_14 => G (f12H2 x2_0 x2_1 x2_2 x2_3 x2_4 x2_5 x2_6 x2_7 x2_8 x2_9 x2_10 x2_11 x2_12 x2_13 x2_14)
noncomputable def f12S2  (g0 : f12G0) (g1 : f12G1) (g2 : f12G2) (x2_0 : Int) (x2_1 : Int) (x2_2 : Int) (x2_3 : Int) (x2_4 : List (List (ByteArray × List (Int × Int × Unit) × Unit))) (x2_5 : List ByteArray) (x2_6 : List (List Int)) (x2_7 : Int) (x2_8 : Int) (x2_9 : List (ByteArray × List (Int × Int × Unit) × Unit)) (x2_10 : ByteArray) (x2_11 : List (List (ByteArray × List (Int × Int × Unit) × Unit))) (x2_12 : List ByteArray) (x2_13 : List (List Int)) (x2_14 : List (Int × Int × Unit)) : Option Lf :=
 bif inb x2_0 x2_4.length then
  bif inb x2_1 (x2_4.getD x2_0.toNat []).length then
   bif decide (x2_2 < zn ((x2_4.getD x2_0.toNat []).getD x2_1.toNat ({ data := #[] }, [], ())).snd.fst.length) then
    bif inb x2_0 x2_4.length then
     bif inb x2_1 (x2_4.getD x2_0.toNat []).length then
      bif inb x2_2 ((x2_4.getD x2_0.toNat []).getD x2_1.toNat ({ data := #[] }, [], ())).snd.fst.length then
       bif decide ((x2_14.length + [((((x2_4.getD x2_0.toNat []).getD x2_1.toNat ({ data := #[] }, [], ())).snd.fst.getD x2_2.toNat (0, 0, ())).fst, (((x2_4.getD x2_0.toNat []).getD x2_1.toNat ({ data := #[] }, [], ())).snd.fst.getD x2_2.toNat (0, 0, ())).snd.fst, ())].length) * 16 ≤ 140737488355328) then
        g2 (x2_0 : Int) (x2_1 : Int) (IntKind.i64.wrap (x2_2 + 1) : Int) (x2_3 : Int) (x2_4 : List (List (ByteArray × List (Int × Int × Unit) × Unit))) (x2_5 : List ByteArray) (x2_6 : List (List Int)) (x2_7 : Int) (x2_8 : Int) (x2_9 : List (ByteArray × List (Int × Int × Unit) × Unit)) (x2_10 : ByteArray) (x2_11 : List (List (ByteArray × List (Int × Int × Unit) × Unit))) (x2_12 : List ByteArray) (x2_13 : List (List Int)) (x2_14 ++ [((((x2_4.getD x2_0.toNat []).getD x2_1.toNat ({ data := #[] }, [], ())).snd.fst.getD x2_2.toNat (0, 0, ())).fst, (((x2_4.getD x2_0.toNat []).getD x2_1.toNat ({ data := #[] }, [], ())).snd.fst.getD x2_2.toNat (0, 0, ())).snd.fst, ())] : List (Int × Int × Unit))
       else
        none
      else
       none
     else
      none
    else
     none
   else
    bif decide ((x2_9.length + [(x2_10, x2_14, ())].length) * 40 ≤ 140737488355328) then
     g1 (x2_0 : Int) (IntKind.i64.wrap (x2_1 + 1) : Int) (x2_3 : Int) (x2_4 : List (List (ByteArray × List (Int × Int × Unit) × Unit))) (x2_5 : List ByteArray) (x2_6 : List (List Int)) (x2_7 : Int) (x2_8 : Int) (x2_9 ++ [(x2_10, x2_14, ())] : List (ByteArray × List (Int × Int × Unit) × Unit)) (x2_11 : List (List (ByteArray × List (Int × Int × Unit) × Unit))) (x2_12 : List ByteArray) (x2_13 : List (List Int))
    else
     none
  else
   none
 else
  none
noncomputable def f12L2 (n : Nat) (g0 : f12G0) (g1 : f12G1) : Nat → f12G2
  | 0 => fun _ _ _ _ _ _ _ _ _ _ _ _ _ _ _ => none
  | m + 1 => fun x2_0 x2_1 x2_2 x2_3 x2_4 x2_5 x2_6 x2_7 x2_8 x2_9 x2_10 x2_11 x2_12 x2_13 x2_14 => f12S2  g0 g1 (f12L2 n g0 g1 m) x2_0 x2_1 x2_2 x2_3 x2_4 x2_5 x2_6 x2_7 x2_8 x2_9 x2_10 x2_11 x2_12 x2_13 x2_14
theorem f12S2_ev (n : Nat) (G0 : St → Option Lf) (G1 : St → Option Lf) (G : St → Option Lf) (x2_0 : Int) (x2_1 : Int) (x2_2 : Int) (x2_3 : Int) (x2_4 : List (List (ByteArray × List (Int × Int × Unit) × Unit))) (x2_5 : List ByteArray) (x2_6 : List (List Int)) (x2_7 : Int) (x2_8 : Int) (x2_9 : List (ByteArray × List (Int × Int × Unit) × Unit)) (x2_10 : ByteArray) (x2_11 : List (List (ByteArray × List (Int × Int × Unit) × Unit))) (x2_12 : List ByteArray) (x2_13 : List (List Int)) (x2_14 : List (Int × Int × Unit)) : rnd C10 f12h n Lf (codeOf f12f) [1, 1, 1, 0, 1, 0, 0, 1, 0, 0, 1, 0, 1, 0, 0, 1, 0, 0, 1, 0, 1, 0] [G0, G1] (endK C10 f12h f12f) G (f12H2 x2_0 x2_1 x2_2 x2_3 x2_4 x2_5 x2_6 x2_7 x2_8 x2_9 x2_10 x2_11 x2_12 x2_13 x2_14) = f12S2  (f12W0 G0) (f12W1 G1) (f12W2 G) x2_0 x2_1 x2_2 x2_3 x2_4 x2_5 x2_6 x2_7 x2_8 x2_9 x2_10 x2_11 x2_12 x2_13 x2_14 := by kernel_rfl
theorem f12W2_ev (n : Nat) (G0 : St → Option Lf) (G1 : St → Option Lf) : ∀ m, (f12W2 (lp C10 f12h n Lf (codeOf f12f) [1, 1, 1, 0, 1, 0, 0, 1, 0, 0, 1, 0, 1, 0, 0, 1, 0, 0, 1, 0, 1, 0] [G0, G1] (endK C10 f12h f12f) m)) = f12L2 n (f12W0 G0) (f12W1 G1) m := by
  intro m
  induction m with
  | zero => funext x2_0 x2_1 x2_2 x2_3 x2_4 x2_5 x2_6 x2_7 x2_8 x2_9 x2_10 x2_11 x2_12 x2_13 x2_14; exact lp_zero _
  | succ m ih =>
    funext x2_0 x2_1 x2_2 x2_3 x2_4 x2_5 x2_6 x2_7 x2_8 x2_9 x2_10 x2_11 x2_12 x2_13 x2_14
    show lp C10 f12h n Lf (codeOf f12f) [1, 1, 1, 0, 1, 0, 0, 1, 0, 0, 1, 0, 1, 0, 0, 1, 0, 0, 1, 0, 1, 0] [G0, G1] (endK C10 f12h f12f) (m + 1) (f12H2 x2_0 x2_1 x2_2 x2_3 x2_4 x2_5 x2_6 x2_7 x2_8 x2_9 x2_10 x2_11 x2_12 x2_13 x2_14) = f12S2  (f12W0 G0) (f12W1 G1) (f12L2 n (f12W0 G0) (f12W1 G1) m) x2_0 x2_1 x2_2 x2_3 x2_4 x2_5 x2_6 x2_7 x2_8 x2_9 x2_10 x2_11 x2_12 x2_13 x2_14
    rw [lp_succ, f12S2_ev, ih]
noncomputable def f12S1 (l2 : f12G2) (g0 : f12G0) (g1 : f12G1) (x1_0 : Int) (x1_1 : Int) (x1_2 : Int) (x1_3 : List (List (ByteArray × List (Int × Int × Unit) × Unit))) (x1_4 : List ByteArray) (x1_5 : List (List Int)) (x1_6 : Int) (x1_7 : Int) (x1_8 : List (ByteArray × List (Int × Int × Unit) × Unit)) (x1_9 : List (List (ByteArray × List (Int × Int × Unit) × Unit))) (x1_10 : List ByteArray) (x1_11 : List (List Int)) : Option Lf :=
 bif inb x1_0 x1_3.length then
  bif decide (x1_1 < zn (x1_3.getD x1_0.toNat []).length) then
   bif inb x1_0 x1_3.length then
    bif inb x1_1 (x1_3.getD x1_0.toNat []).length then
     l2 (x1_0 : Int) (x1_1 : Int) (0 : Int) (x1_2 : Int) (x1_3 : List (List (ByteArray × List (Int × Int × Unit) × Unit))) (x1_4 : List ByteArray) (x1_5 : List (List Int)) (x1_6 : Int) (x1_7 : Int) (x1_8 : List (ByteArray × List (Int × Int × Unit) × Unit)) (((x1_3.getD x1_0.toNat []).getD x1_1.toNat ({ data := #[] }, [], ())).fst : ByteArray) (x1_9 : List (List (ByteArray × List (Int × Int × Unit) × Unit))) (x1_10 : List ByteArray) (x1_11 : List (List Int)) ([] : List (Int × Int × Unit))
    else
     none
   else
    none
  else
   bif decide ((x1_9.length + [x1_8].length) * 24 ≤ 140737488355328) then
    g0 (IntKind.i64.wrap (x1_0 + 1) : Int) (x1_2 : Int) (x1_3 : List (List (ByteArray × List (Int × Int × Unit) × Unit))) (x1_4 : List ByteArray) (x1_5 : List (List Int)) (x1_6 : Int) (x1_7 : Int) (x1_9 ++ [x1_8] : List (List (ByteArray × List (Int × Int × Unit) × Unit))) (x1_10 : List ByteArray) (x1_11 : List (List Int))
   else
    none
 else
  none
noncomputable def f12L1 (n : Nat) (g0 : f12G0) : Nat → f12G1
  | 0 => fun _ _ _ _ _ _ _ _ _ _ _ _ => none
  | m + 1 => fun x1_0 x1_1 x1_2 x1_3 x1_4 x1_5 x1_6 x1_7 x1_8 x1_9 x1_10 x1_11 => f12S1 (f12L2 n g0 (f12L1 n g0 m) n) g0 (f12L1 n g0 m) x1_0 x1_1 x1_2 x1_3 x1_4 x1_5 x1_6 x1_7 x1_8 x1_9 x1_10 x1_11
theorem f12S1_ev (n : Nat) (G0 : St → Option Lf) (G : St → Option Lf) (x1_0 : Int) (x1_1 : Int) (x1_2 : Int) (x1_3 : List (List (ByteArray × List (Int × Int × Unit) × Unit))) (x1_4 : List ByteArray) (x1_5 : List (List Int)) (x1_6 : Int) (x1_7 : Int) (x1_8 : List (ByteArray × List (Int × Int × Unit) × Unit)) (x1_9 : List (List (ByteArray × List (Int × Int × Unit) × Unit))) (x1_10 : List ByteArray) (x1_11 : List (List Int)) : rnd C10 f12h n Lf (codeOf f12f) [1, 1, 1, 0, 1, 0, 0, 1, 0, 0, 1, 0, 1, 0] [G0] (endK C10 f12h f12f) G (f12H1 x1_0 x1_1 x1_2 x1_3 x1_4 x1_5 x1_6 x1_7 x1_8 x1_9 x1_10 x1_11) = f12S1 (f12W2 (lp C10 f12h n Lf (codeOf f12f) [1, 1, 1, 0, 1, 0, 0, 1, 0, 0, 1, 0, 1, 0, 0, 1, 0, 0, 1, 0, 1, 0] [G0, G] (endK C10 f12h f12f) n)) (f12W0 G0) (f12W1 G) x1_0 x1_1 x1_2 x1_3 x1_4 x1_5 x1_6 x1_7 x1_8 x1_9 x1_10 x1_11 := by kernel_rfl
theorem f12W1_ev (n : Nat) (G0 : St → Option Lf) : ∀ m, (f12W1 (lp C10 f12h n Lf (codeOf f12f) [1, 1, 1, 0, 1, 0, 0, 1, 0, 0, 1, 0, 1, 0] [G0] (endK C10 f12h f12f) m)) = f12L1 n (f12W0 G0) m := by
  intro m
  induction m with
  | zero => funext x1_0 x1_1 x1_2 x1_3 x1_4 x1_5 x1_6 x1_7 x1_8 x1_9 x1_10 x1_11; exact lp_zero _
  | succ m ih =>
    have e2 : (f12W2 (lp C10 f12h n Lf (codeOf f12f) [1, 1, 1, 0, 1, 0, 0, 1, 0, 0, 1, 0, 1, 0, 0, 1, 0, 0, 1, 0, 1, 0] [G0, (lp C10 f12h n Lf (codeOf f12f) [1, 1, 1, 0, 1, 0, 0, 1, 0, 0, 1, 0, 1, 0] [G0] (endK C10 f12h f12f) m)] (endK C10 f12h f12f) n)) = (f12L2 n (f12W0 G0) (f12L1 n (f12W0 G0) m) n) := by
      rw [f12W2_ev, ih]
    funext x1_0 x1_1 x1_2 x1_3 x1_4 x1_5 x1_6 x1_7 x1_8 x1_9 x1_10 x1_11
    show lp C10 f12h n Lf (codeOf f12f) [1, 1, 1, 0, 1, 0, 0, 1, 0, 0, 1, 0, 1, 0] [G0] (endK C10 f12h f12f) (m + 1) (f12H1 x1_0 x1_1 x1_2 x1_3 x1_4 x1_5 x1_6 x1_7 x1_8 x1_9 x1_10 x1_11) = f12S1 (f12L2 n (f12W0 G0) (f12L1 n (f12W0 G0) m) n) (f12W0 G0) (f12L1 n (f12W0 G0) m) x1_0 x1_1 x1_2 x1_3 x1_4 x1_5 x1_6 x1_7 x1_8 x1_9 x1_10 x1_11
    rw [lp_succ, f12S1_ev, ih, e2]
abbrev f12G3 := Int → Int → (List (List (ByteArray × List (Int × Int × Unit) × Unit))) → (List ByteArray) → (List (List Int)) → Int → Int → (List (List (ByteArray × List (Int × Int × Unit) × Unit))) → (List ByteArray) → (List (List Int)) → Option Lf
noncomputable def f12H3 (x3_0 : Int) (x3_1 : Int) (x3_2 : List (List (ByteArray × List (Int × Int × Unit) × Unit))) (x3_3 : List ByteArray) (x3_4 : List (List Int)) (x3_5 : Int) (x3_6 : Int) (x3_7 : List (List (ByteArray × List (Int × Int × Unit) × Unit))) (x3_8 : List ByteArray) (x3_9 : List (List Int)) : St := (St.mk [dead, (D.p (Pt.one (L.pv (Id.mk 1 0) 0))), (D.p (Pt.one (L.pv (Id.mk 1 1) 0))), (D.p (Pt.one (L.pv (Id.mk 1 2) 0))), dead, dead, dead, dead, dead, (D.p (Pt.one (L.d (Pv.fz true) (Sh.i IntKind.i64) x3_0))), dead, dead, dead, dead, dead, dead, dead, dead, dead, dead, dead, dead, dead, dead, dead, dead, dead, dead, dead, dead, dead, dead, dead, dead, dead, dead, dead, dead, dead, dead, dead, dead, dead, dead, dead, dead, dead, dead, dead, dead, dead, dead, dead, dead, dead, dead, dead, dead, dead, dead, dead, dead, dead, dead, dead, dead, dead, dead, dead, dead, dead, dead, dead, dead, dead, dead, dead, dead, dead, dead, dead, dead, dead, dead, dead, dead, dead, dead, dead, dead, dead, dead, dead, dead, dead, dead, dead, dead, dead, dead, dead, dead, dead, dead, dead, dead, dead] [[], [(Ob.va [(L.d (Pv.fz true) (Sh.i IntKind.i64) x3_1), (L.d (Pv.fz false) (Sh.l (Sh.l (Sh.p Sh.s (Sh.p (Sh.l (Sh.p (Sh.i IntKind.i64) (Sh.p (Sh.i IntKind.i64) Sh.u))) Sh.u)))) x3_2), (L.d (Pv.fz false) (Sh.l Sh.s) x3_3), (L.d (Pv.fz false) (Sh.l (Sh.l (Sh.i IntKind.i64))) x3_4)]), (Ob.va [(L.d (Pv.fz true) (Sh.i IntKind.i64) x3_5), L.nl, L.nl, L.nl]), (Ob.va [(L.d (Pv.fz true) (Sh.i IntKind.i64) x3_6), (L.rw (Id.mk 1 3)), (L.rw (Id.mk 1 4)), (L.rw (Id.mk 1 5))]), (Ob.ro true 0 34 (Sh.l (Sh.p Sh.s (Sh.p (Sh.l (Sh.p (Sh.i IntKind.i64) (Sh.p (Sh.i IntKind.i64) Sh.u))) Sh.u))) (Ow.l 39 (Ow.p Ow.z (Ow.p (Ow.l 36 Ow.z) Ow.z))) x3_7 Option.none), (Ob.ro true 0 9 Sh.s Ow.z x3_8 Option.none), (Ob.ro true 0 40 (Sh.l (Sh.i IntKind.i64)) (Ow.l 3 Ow.z) x3_9 Option.none)]])
noncomputable def f12W3 (G : St → Option Lf) : f12G3 := fun x3_0 x3_1 x3_2 x3_3 x3_4 x3_5 x3_6 x3_7 x3_8 x3_9 => G (f12H3 x3_0 x3_1 x3_2 x3_3 x3_4 x3_5 x3_6 x3_7 x3_8 x3_9)
noncomputable def f12S3  (g3 : f12G3) (x3_0 : Int) (x3_1 : Int) (x3_2 : List (List (ByteArray × List (Int × Int × Unit) × Unit))) (x3_3 : List ByteArray) (x3_4 : List (List Int)) (x3_5 : Int) (x3_6 : Int) (x3_7 : List (List (ByteArray × List (Int × Int × Unit) × Unit))) (x3_8 : List ByteArray) (x3_9 : List (List Int)) : Option Lf :=
 bif decide (x3_0 < zn x3_4.length) then
  bif inb x3_0 x3_4.length then
   bif decide ((0 + (x3_4.getD x3_0.toNat []).length) * 8 ≤ 140737488355328) then
    bif decide ((x3_9.length + [[] ++ x3_4.getD x3_0.toNat []].length) * 24 ≤ 140737488355328) then
     g3 (IntKind.i64.wrap (x3_0 + 1) : Int) (x3_1 : Int) (x3_2 : List (List (ByteArray × List (Int × Int × Unit) × Unit))) (x3_3 : List ByteArray) (x3_4 : List (List Int)) (x3_5 : Int) (x3_6 : Int) (x3_7 : List (List (ByteArray × List (Int × Int × Unit) × Unit))) (x3_8 : List ByteArray) (x3_9 ++ [[] ++ x3_4.getD x3_0.toNat []] : List (List Int))
    else
     none
   else
    none
  else
   none
 else
  some (Lf.mk [(Pt.agg [(L.d (Pv.fz true) (Sh.i IntKind.i64) (x3_6 : Int)), (L.rw (Id.mk 1 0)), (L.rw (Id.mk 1 1)), (L.rw (Id.mk 1 2))])] [] [(Ob.ro true 0 34 (Sh.l (Sh.p Sh.s (Sh.p (Sh.l (Sh.p (Sh.i IntKind.i64) (Sh.p (Sh.i IntKind.i64) Sh.u))) Sh.u))) (Ow.l 39 (Ow.p Ow.z (Ow.p (Ow.l 36 Ow.z) Ow.z))) (x3_7 : List (List (ByteArray × List (Int × Int × Unit) × Unit))) Option.none), (Ob.ro true 0 9 Sh.s Ow.z (x3_8 : List ByteArray) Option.none), (Ob.ro true 0 40 (Sh.l (Sh.i IntKind.i64)) (Ow.l 3 Ow.z) (x3_9 : List (List Int)) Option.none)])
noncomputable def f12L3 (n : Nat)  : Nat → f12G3
  | 0 => fun _ _ _ _ _ _ _ _ _ _ => none
  | m + 1 => fun x3_0 x3_1 x3_2 x3_3 x3_4 x3_5 x3_6 x3_7 x3_8 x3_9 => f12S3   (f12L3 n  m) x3_0 x3_1 x3_2 x3_3 x3_4 x3_5 x3_6 x3_7 x3_8 x3_9
theorem f12S3_ev (n : Nat)  (G : St → Option Lf) (x3_0 : Int) (x3_1 : Int) (x3_2 : List (List (ByteArray × List (Int × Int × Unit) × Unit))) (x3_3 : List ByteArray) (x3_4 : List (List Int)) (x3_5 : Int) (x3_6 : Int) (x3_7 : List (List (ByteArray × List (Int × Int × Unit) × Unit))) (x3_8 : List ByteArray) (x3_9 : List (List Int)) : rnd C10 f12h n Lf (codeOf f12f) [1, 1, 1, 1, 0, 1, 0] [] (endK C10 f12h f12f) G (f12H3 x3_0 x3_1 x3_2 x3_3 x3_4 x3_5 x3_6 x3_7 x3_8 x3_9) = f12S3   (f12W3 G) x3_0 x3_1 x3_2 x3_3 x3_4 x3_5 x3_6 x3_7 x3_8 x3_9 := by kernel_rfl
theorem f12W3_ev (n : Nat)  : ∀ m, (f12W3 (lp C10 f12h n Lf (codeOf f12f) [1, 1, 1, 1, 0, 1, 0] [] (endK C10 f12h f12f) m)) = f12L3 n  m := by
  intro m
  induction m with
  | zero => funext x3_0 x3_1 x3_2 x3_3 x3_4 x3_5 x3_6 x3_7 x3_8 x3_9; exact lp_zero _
  | succ m ih =>
    funext x3_0 x3_1 x3_2 x3_3 x3_4 x3_5 x3_6 x3_7 x3_8 x3_9
    show lp C10 f12h n Lf (codeOf f12f) [1, 1, 1, 1, 0, 1, 0] [] (endK C10 f12h f12f) (m + 1) (f12H3 x3_0 x3_1 x3_2 x3_3 x3_4 x3_5 x3_6 x3_7 x3_8 x3_9) = f12S3   (f12L3 n  m) x3_0 x3_1 x3_2 x3_3 x3_4 x3_5 x3_6 x3_7 x3_8 x3_9
    rw [lp_succ, f12S3_ev, ih]
noncomputable def f12S0 (l1 : f12G1) (l3 : f12G3) (g0 : f12G0) (x0_0 : Int) (x0_1 : Int) (x0_2 : List (List (ByteArray × List (Int × Int × Unit) × Unit))) (x0_3 : List ByteArray) (x0_4 : List (List Int)) (x0_5 : Int) (x0_6 : Int) (x0_7 : List (List (ByteArray × List (Int × Int × Unit) × Unit))) (x0_8 : List ByteArray) (x0_9 : List (List Int)) : Option Lf :=
 bif decide (x0_0 < zn x0_2.length) then
  l1 (x0_0 : Int) (0 : Int) (x0_1 : Int) (x0_2 : List (List (ByteArray × List (Int × Int × Unit) × Unit))) (x0_3 : List ByteArray) (x0_4 : List (List Int)) (x0_5 : Int) (x0_6 : Int) ([] : List (ByteArray × List (Int × Int × Unit) × Unit)) (x0_7 : List (List (ByteArray × List (Int × Int × Unit) × Unit))) (x0_8 : List ByteArray) (x0_9 : List (List Int))
 else
  l3 (0 : Int) (x0_1 : Int) (x0_2 : List (List (ByteArray × List (Int × Int × Unit) × Unit))) (x0_3 : List ByteArray) (x0_4 : List (List Int)) (x0_5 : Int) (x0_6 : Int) (x0_7 : List (List (ByteArray × List (Int × Int × Unit) × Unit))) (x0_8 : List ByteArray) (x0_9 : List (List Int))
noncomputable def f12L0 (n : Nat)  : Nat → f12G0
  | 0 => fun _ _ _ _ _ _ _ _ _ _ => none
  | m + 1 => fun x0_0 x0_1 x0_2 x0_3 x0_4 x0_5 x0_6 x0_7 x0_8 x0_9 => f12S0 (f12L1 n (f12L0 n  m) n) (f12L3 n  n)  (f12L0 n  m) x0_0 x0_1 x0_2 x0_3 x0_4 x0_5 x0_6 x0_7 x0_8 x0_9
theorem f12S0_ev (n : Nat)  (G : St → Option Lf) (x0_0 : Int) (x0_1 : Int) (x0_2 : List (List (ByteArray × List (Int × Int × Unit) × Unit))) (x0_3 : List ByteArray) (x0_4 : List (List Int)) (x0_5 : Int) (x0_6 : Int) (x0_7 : List (List (ByteArray × List (Int × Int × Unit) × Unit))) (x0_8 : List ByteArray) (x0_9 : List (List Int)) : rnd C10 f12h n Lf (codeOf f12f) [1, 1, 1, 0, 1, 0] [] (endK C10 f12h f12f) G (f12H0 x0_0 x0_1 x0_2 x0_3 x0_4 x0_5 x0_6 x0_7 x0_8 x0_9) = f12S0 (f12W1 (lp C10 f12h n Lf (codeOf f12f) [1, 1, 1, 0, 1, 0, 0, 1, 0, 0, 1, 0, 1, 0] [G] (endK C10 f12h f12f) n)) (f12W3 (lp C10 f12h n Lf (codeOf f12f) [1, 1, 1, 1, 0, 1, 0] [] (endK C10 f12h f12f) n))  (f12W0 G) x0_0 x0_1 x0_2 x0_3 x0_4 x0_5 x0_6 x0_7 x0_8 x0_9 := by kernel_rfl
theorem f12W0_ev (n : Nat)  : ∀ m, (f12W0 (lp C10 f12h n Lf (codeOf f12f) [1, 1, 1, 0, 1, 0] [] (endK C10 f12h f12f) m)) = f12L0 n  m := by
  intro m
  induction m with
  | zero => funext x0_0 x0_1 x0_2 x0_3 x0_4 x0_5 x0_6 x0_7 x0_8 x0_9; exact lp_zero _
  | succ m ih =>
    have e1 : (f12W1 (lp C10 f12h n Lf (codeOf f12f) [1, 1, 1, 0, 1, 0, 0, 1, 0, 0, 1, 0, 1, 0] [(lp C10 f12h n Lf (codeOf f12f) [1, 1, 1, 0, 1, 0] [] (endK C10 f12h f12f) m)] (endK C10 f12h f12f) n)) = (f12L1 n (f12L0 n  m) n) := by
      rw [f12W1_ev, ih]
    have e3 : (f12W3 (lp C10 f12h n Lf (codeOf f12f) [1, 1, 1, 1, 0, 1, 0] [] (endK C10 f12h f12f) n)) = (f12L3 n  n) := by
      rw [f12W3_ev]
    funext x0_0 x0_1 x0_2 x0_3 x0_4 x0_5 x0_6 x0_7 x0_8 x0_9
    show lp C10 f12h n Lf (codeOf f12f) [1, 1, 1, 0, 1, 0] [] (endK C10 f12h f12f) (m + 1) (f12H0 x0_0 x0_1 x0_2 x0_3 x0_4 x0_5 x0_6 x0_7 x0_8 x0_9) = f12S0 (f12L1 n (f12L0 n  m) n) (f12L3 n  n)  (f12L0 n  m) x0_0 x0_1 x0_2 x0_3 x0_4 x0_5 x0_6 x0_7 x0_8 x0_9
    rw [lp_succ, f12S0_ev, ih, e1, e3]
noncomputable def f12T (l0 : f12G0) (i : Int) (ch : List (List (ByteArray × List (Int × Int × Unit) × Unit))) (nm : List ByteArray) (ho : List (List Int)) : Option Lf :=
 bif decide ((0 + nm.length) * 16 ≤ 140737488355328) then
  l0 (0 : Int) (i : Int) (ch : List (List (ByteArray × List (Int × Int × Unit) × Unit))) (nm : List ByteArray) (ho : List (List Int)) (0 : Int) (i : Int) ([] : List (List (ByteArray × List (Int × Int × Unit) × Unit))) (nm : List ByteArray) ([] : List (List Int))
 else
  none
noncomputable def f12M (n : Nat) (i : Int) (ch : List (List (ByteArray × List (Int × Int × Unit) × Unit))) (nm : List ByteArray) (ho : List (List Int)) : Option Lf := f12T (f12L0 n n) i ch nm ho
theorem f12T_ev (n : Nat) (i : Int) (ch : List (List (ByteArray × List (Int × Int × Unit) × Unit))) (nm : List ByteArray) (ho : List (List Int)) : evF C10 f12h n f12f [(D.p (Pt.agg [(L.d (Pv.fz true) (Sh.i IntKind.i64) i), (L.d (Pv.fz false) (Sh.l (Sh.l (Sh.p Sh.s (Sh.p (Sh.l (Sh.p (Sh.i IntKind.i64) (Sh.p (Sh.i IntKind.i64) Sh.u))) Sh.u)))) ch), (L.d (Pv.fz false) (Sh.l Sh.s) nm), (L.d (Pv.fz false) (Sh.l (Sh.l (Sh.i IntKind.i64))) ho)]))] [] = f12T (f12W0 (lp C10 f12h n Lf (codeOf f12f) [1, 1, 1, 0, 1, 0] [] (endK C10 f12h f12f) n)) i ch nm ho := by kernel_rfl
theorem f12_ev (n : Nat) (i : Int) (ch : List (List (ByteArray × List (Int × Int × Unit) × Unit))) (nm : List ByteArray) (ho : List (List Int)) : evF C10 f12h n f12f [(D.p (Pt.agg [(L.d (Pv.fz true) (Sh.i IntKind.i64) i), (L.d (Pv.fz false) (Sh.l (Sh.l (Sh.p Sh.s (Sh.p (Sh.l (Sh.p (Sh.i IntKind.i64) (Sh.p (Sh.i IntKind.i64) Sh.u))) Sh.u)))) ch), (L.d (Pv.fz false) (Sh.l Sh.s) nm), (L.d (Pv.fz false) (Sh.l (Sh.l (Sh.i IntKind.i64))) ho)]))] [] = f12M n i ch nm ho := by
  rw [f12T_ev, f12W0_ev]
  rfl
end Go.S11
