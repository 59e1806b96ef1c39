/-
  Seat 23: the functional form of Reach.
-/
import Derived.Test.YtkbablmhgnpmmaaDoorS23V
open Go Go.En Go.S23
namespace Go.S23


abbrev f24h : Hn := h24
noncomputable abbrev f24f : Func := fn 24
abbrev f24G0 := Int → (List (List (ByteArray × List (Int × Int × Unit) × Unit))) → (List ByteArray) → (List (List Int)) → (List Bool) → (List Int) → (List Int) → Option Lf
noncomputable def f24H0 (x0_0 : Int) (x0_1 : List (List (ByteArray × List (Int × Int × Unit) × Unit))) (x0_2 : List ByteArray) (x0_3 : List (List Int)) (x0_4 : List Bool) (x0_5 : List Int) (x0_6 : List Int) : St := (St.mk [dead, (D.p (Pt.one (L.pv (Id.mk 1 0) 0))), dead, (D.p (Pt.one (L.rw (Id.mk 1 1)))), (D.p (Pt.one (L.rw (Id.mk 1 2)))), (D.p (Pt.one (L.rw (Id.mk 1 3)))), dead, dead, dead, dead, dead, dead, dead, dead, dead, dead, dead, dead, dead, dead, dead, dead, dead, dead, dead, dead, dead, dead, dead, dead, dead, dead, dead, dead, dead, dead, dead, dead, dead, dead, dead, dead, dead, dead, dead, dead, dead, dead, dead, dead, dead, dead, dead, dead, dead, dead, dead, dead, dead, dead, dead, dead, dead, dead, dead, dead, dead, dead, dead, dead, dead, dead, dead, dead, dead, dead, dead, dead, dead, dead] [[], [(Ob.va [(L.d (Pv.fz true) (Sh.i IntKind.i64) x0_0), (L.d (Pv.fz false) (Sh.l (Sh.l (Sh.p Sh.s (Sh.p (Sh.l (Sh.p (Sh.i IntKind.i64) (Sh.p (Sh.i IntKind.i64) Sh.u))) Sh.u)))) x0_1), (L.d (Pv.fz false) (Sh.l Sh.s) x0_2), (L.d (Pv.fz false) (Sh.l (Sh.l (Sh.i IntKind.i64))) x0_3)]), (Ob.ro true 0 4 Sh.b Ow.z x0_4 Option.none), (Ob.ro true 0 3 (Sh.i IntKind.i64) Ow.z x0_5 Option.none), (Ob.ro true 0 3 (Sh.i IntKind.i64) Ow.z x0_6 Option.none)]])
noncomputable def f24W0 (G : St → Option Lf) : f24G0 := fun x0_0 x0_1 x0_2 x0_3 x0_4 x0_5 x0_6 => G (f24H0 x0_0 x0_1 x0_2 x0_3 x0_4 x0_5 x0_6)
abbrev f24G1 := (List (ByteArray × List (Int × Int × Unit) × Unit)) → Int → Int → Int → (List (List (ByteArray × List (Int × Int × Unit) × Unit))) → (List ByteArray) → (List (List Int)) → (List Bool) → (List Int) → (List Int) → Option Lf
noncomputable def f24H1 (x1_0 : List (ByteArray × List (Int × Int × Unit) × Unit)) (x1_1 : Int) (x1_2 : Int) (x1_3 : Int) (x1_4 : List (List (ByteArray × List (Int × Int × Unit) × Unit))) (x1_5 : List ByteArray) (x1_6 : List (List Int)) (x1_7 : List Bool) (x1_8 : List Int) (x1_9 : List Int) : St := (St.mk [dead, (D.p (Pt.one (L.pv (Id.mk 1 0) 0))), dead, (D.p (Pt.one (L.rw (Id.mk 1 1)))), (D.p (Pt.one (L.rw (Id.mk 1 2)))), (D.p (Pt.one (L.rw (Id.mk 1 3)))), dead, dead, dead, dead, dead, dead, dead, dead, dead, dead, dead, dead, dead, dead, dead, dead, dead, dead, dead, dead, dead, dead, dead, dead, dead, dead, dead, dead, dead, dead, dead, dead, dead, dead, dead, dead, dead, dead, dead, dead, dead, (D.p (Pt.one (L.d (Pv.fz false) (Sh.l (Sh.p Sh.s (Sh.p (Sh.l (Sh.p (Sh.i IntKind.i64) (Sh.p (Sh.i IntKind.i64) Sh.u))) Sh.u))) x1_0))), (D.p (Pt.one (L.d (Pv.fz true) (Sh.i IntKind.i64) x1_1))), (D.p (Pt.one (L.d (Pv.fz true) (Sh.i IntKind.i64) x1_2))), dead, dead, dead, dead, dead, dead, dead, dead, dead, dead, dead, dead, dead, dead, dead, dead, dead, dead, dead, dead, dead, dead, dead, dead, dead, dead, dead, dead, dead, dead] [[], [(Ob.va [(L.d (Pv.fz true) (Sh.i IntKind.i64) x1_3), (L.d (Pv.fz false) (Sh.l (Sh.l (Sh.p Sh.s (Sh.p (Sh.l (Sh.p (Sh.i IntKind.i64) (Sh.p (Sh.i IntKind.i64) Sh.u))) Sh.u)))) x1_4), (L.d (Pv.fz false) (Sh.l Sh.s) x1_5), (L.d (Pv.fz false) (Sh.l (Sh.l (Sh.i IntKind.i64))) x1_6)]), (Ob.ro true 0 4 Sh.b Ow.z x1_7 Option.none), (Ob.ro true 0 3 (Sh.i IntKind.i64) Ow.z x1_8 Option.none), (Ob.ro true 0 3 (Sh.i IntKind.i64) Ow.z x1_9 Option.none)]])
noncomputable def f24W1 (G : St → Option Lf) : f24G1 := fun x1_0 x1_1 x1_2 x1_3 x1_4 x1_5 x1_6 x1_7 x1_8 x1_9 => G (f24H1 x1_0 x1_1 x1_2 x1_3 x1_4 x1_5 x1_6 x1_7 x1_8 x1_9)
abbrev f24G2 := (List (ByteArray × List (Int × Int × Unit) × Unit)) → Int → Int → (List (Int × Int × Unit)) → Int → Int → Int → (List (List (ByteArray × List (Int × Int × Unit) × Unit))) → (List ByteArray) → (List (List Int)) → (List Bool) → (List Int) → (List Int) → Option Lf
noncomputable def f24H2 (x2_0 : List (ByteArray × List (Int × Int × Unit) × Unit)) (x2_1 : Int) (x2_2 : Int) (x2_3 : List (Int × Int × Unit)) (x2_4 : Int) (x2_5 : Int) (x2_6 : Int) (x2_7 : List (List (ByteArray × List (Int × Int × Unit) × Unit))) (x2_8 : List ByteArray) (x2_9 : List (List Int)) (x2_10 : List Bool) (x2_11 : List Int) (x2_12 : List Int) : St := (St.mk [dead, (D.p (Pt.one (L.pv (Id.mk 1 0) 0))), dead, (D.p (Pt.one (L.rw (Id.mk 1 1)))), (D.p (Pt.one (L.rw (Id.mk 1 2)))), (D.p (Pt.one (L.rw (Id.mk 1 3)))), dead, dead, dead, dead, dead, dead, dead, dead, dead, dead, dead, dead, dead, dead, dead, dead, dead, dead, dead, dead, dead, dead, dead, dead, dead, dead, dead, dead, dead, dead, dead, dead, dead, dead, dead, dead, dead, dead, dead, dead, dead, (D.p (Pt.one (L.d (Pv.fz false) (Sh.l (Sh.p Sh.s (Sh.p (Sh.l (Sh.p (Sh.i IntKind.i64) (Sh.p (Sh.i IntKind.i64) Sh.u))) Sh.u))) x2_0))), (D.p (Pt.one (L.d (Pv.fz true) (Sh.i IntKind.i64) x2_1))), (D.p (Pt.one (L.d (Pv.fz true) (Sh.i IntKind.i64) x2_2))), dead, dead, dead, dead, (D.p (Pt.one (L.d (Pv.fz false) (Sh.l (Sh.p (Sh.i IntKind.i64) (Sh.p (Sh.i IntKind.i64) Sh.u))) x2_3))), (D.p (Pt.one (L.d (Pv.fz true) (Sh.i IntKind.i64) x2_4))), (D.p (Pt.one (L.d (Pv.fz true) (Sh.i IntKind.i64) x2_5))), dead, dead, dead, dead, dead, dead, dead, dead, dead, dead, dead, dead, dead, dead, dead, dead, dead, dead, dead, dead, dead, dead, dead] [[], [(Ob.va [(L.d (Pv.fz true) (Sh.i IntKind.i64) x2_6), (L.d (Pv.fz false) (Sh.l (Sh.l (Sh.p Sh.s (Sh.p (Sh.l (Sh.p (Sh.i IntKind.i64) (Sh.p (Sh.i IntKind.i64) Sh.u))) Sh.u)))) x2_7), (L.d (Pv.fz false) (Sh.l Sh.s) x2_8), (L.d (Pv.fz false) (Sh.l (Sh.l (Sh.i IntKind.i64))) x2_9)]), (Ob.ro true 0 4 Sh.b Ow.z x2_10 Option.none), (Ob.ro true 0 3 (Sh.i IntKind.i64) Ow.z x2_11 Option.none), (Ob.ro true 0 3 (Sh.i IntKind.i64) Ow.z x2_12 Option.none)]])
noncomputable def f24W2 (G : St → Option Lf) : f24G2 := fun x2_0 x2_1 x2_2 x2_3 x2_4 x2_5 x2_6 x2_7 x2_8 x2_9 x2_10 x2_11 x2_12 => G (f24H2 x2_0 x2_1 x2_2 x2_3 x2_4 x2_5 x2_6 x2_7 x2_8 x2_9 x2_10 x2_11 x2_12)
noncomputable def f24S2  (g0 : f24G0) (g1 : f24G1) (g2 : f24G2) (x2_0 : List (ByteArray × List (Int × Int × Unit) × Unit)) (x2_1 : Int) (x2_2 : Int) (x2_3 : List (Int × Int × Unit)) (x2_4 : Int) (x2_5 : Int) (x2_6 : Int) (x2_7 : List (List (ByteArray × List (Int × Int × Unit) × Unit))) (x2_8 : List ByteArray) (x2_9 : List (List Int)) (x2_10 : List Bool) (x2_11 : List Int) (x2_12 : List Int) : Option Lf :=
 bif decide (x2_5 < x2_4) then
  bif inb x2_5 x2_3.length then
   bif inb (x2_3.getD x2_5.toNat (0, 0, ())).fst x2_10.length then
    bif !x2_10.getD (x2_3.getD x2_5.toNat (0, 0, ())).fst.toNat false then
     bif inb (x2_3.getD x2_5.toNat (0, 0, ())).fst x2_10.length then
      bif decide ((x2_11.length + [(x2_3.getD x2_5.toNat (0, 0, ())).fst].length) * 8 ≤ 140737488355328) then
       g2 (x2_0 : List (ByteArray × List (Int × Int × Unit) × Unit)) (x2_1 : Int) (x2_2 : Int) (x2_3 : List (Int × Int × Unit)) (x2_4 : Int) (IntKind.i64.wrap (x2_5 + 1) : Int) (x2_6 : Int) (x2_7 : List (List (ByteArray × List (Int × Int × Unit) × Unit))) (x2_8 : List ByteArray) (x2_9 : List (List Int)) (x2_10.set (x2_3.getD x2_5.toNat (0, 0, ())).fst.toNat true : List Bool) (x2_11 ++ [(x2_3.getD x2_5.toNat (0, 0, ())).fst] : List Int) (x2_12 : List Int)
      else
       none
     else
      none
    else
     g2 (x2_0 : List (ByteArray × List (Int × Int × Unit) × Unit)) (x2_1 : Int) (x2_2 : Int) (x2_3 : List (Int × Int × Unit)) (x2_4 : Int) (IntKind.i64.wrap (x2_5 + 1) : Int) (x2_6 : Int) (x2_7 : List (List (ByteArray × List (Int × Int × Unit) × Unit))) (x2_8 : List ByteArray) (x2_9 : List (List Int)) (x2_10 : List Bool) (x2_11 : List Int) (x2_12 : List Int)
   else
    none
  else
   none
 else
  g1 (x2_0 : List (ByteArray × List (Int × Int × Unit) × Unit)) (x2_1 : Int) (IntKind.i64.wrap (x2_2 + 1) : Int) (x2_6 : Int) (x2_7 : List (List (ByteArray × List (Int × Int × Unit) × Unit))) (x2_8 : List ByteArray) (x2_9 : List (List Int)) (x2_10 : List Bool) (x2_11 : List Int) (x2_12 : List Int)
noncomputable def f24L2 (n : Nat) (g0 : f24G0) (g1 : f24G1) : Nat → f24G2
  | 0 => fun _ _ _ _ _ _ _ _ _ _ _ _ _ => none
  | m + 1 => fun x2_0 x2_1 x2_2 x2_3 x2_4 x2_5 x2_6 x2_7 x2_8 x2_9 x2_10 x2_11 x2_12 => f24S2  g0 g1 (f24L2 n g0 g1 m) x2_0 x2_1 x2_2 x2_3 x2_4 x2_5 x2_6 x2_7 x2_8 x2_9 x2_10 x2_11 x2_12
theorem f24S2_ev (n : Nat) (G0 : St → Option Lf) (G1 : St → Option Lf) (G : St → Option Lf) (x2_0 : List (ByteArray × List (Int × Int × Unit) × Unit)) (x2_1 : Int) (x2_2 : Int) (x2_3 : List (Int × Int × Unit)) (x2_4 : Int) (x2_5 : Int) (x2_6 : Int) (x2_7 : List (List (ByteArray × List (Int × Int × Unit) × Unit))) (x2_8 : List ByteArray) (x2_9 : List (List Int)) (x2_10 : List Bool) (x2_11 : List Int) (x2_12 : List Int) : rnd C40 f24h n Lf (codeOf f24f) [1, 1, 1, 1, 1, 1, 0, 0, 0, 1, 0, 1, 1, 1, 1, 0, 0, 1, 1, 0, 0, 1, 1, 0] [G0, G1] (endK C40 f24h f24f) G (f24H2 x2_0 x2_1 x2_2 x2_3 x2_4 x2_5 x2_6 x2_7 x2_8 x2_9 x2_10 x2_11 x2_12) = f24S2  (f24W0 G0) (f24W1 G1) (f24W2 G) x2_0 x2_1 x2_2 x2_3 x2_4 x2_5 x2_6 x2_7 x2_8 x2_9 x2_10 x2_11 x2_12 := by kernel_rfl
theorem f24W2_ev (n : Nat) (G0 : St → Option Lf) (G1 : St → Option Lf) : ∀ m, (f24W2 (lp C40 f24h n Lf (codeOf f24f) [1, 1, 1, 1, 1, 1, 0, 0, 0, 1, 0, 1, 1, 1, 1, 0, 0, 1, 1, 0, 0, 1, 1, 0] [G0, G1] (endK C40 f24h f24f) m)) = f24L2 n (f24W0 G0) (f24W1 G1) m := by
  intro m
  induction m with
  | zero => funext x2_0 x2_1 x2_2 x2_3 x2_4 x2_5 x2_6 x2_7 x2_8 x2_9 x2_10 x2_11 x2_12; exact lp_zero _
  | succ m ih =>
    funext x2_0 x2_1 x2_2 x2_3 x2_4 x2_5 x2_6 x2_7 x2_8 x2_9 x2_10 x2_11 x2_12
    show lp C40 f24h n Lf (codeOf f24f) [1, 1, 1, 1, 1, 1, 0, 0, 0, 1, 0, 1, 1, 1, 1, 0, 0, 1, 1, 0, 0, 1, 1, 0] [G0, G1] (endK C40 f24h f24f) (m + 1) (f24H2 x2_0 x2_1 x2_2 x2_3 x2_4 x2_5 x2_6 x2_7 x2_8 x2_9 x2_10 x2_11 x2_12) = f24S2  (f24W0 G0) (f24W1 G1) (f24L2 n (f24W0 G0) (f24W1 G1) m) x2_0 x2_1 x2_2 x2_3 x2_4 x2_5 x2_6 x2_7 x2_8 x2_9 x2_10 x2_11 x2_12
    rw [lp_succ, f24S2_ev, ih]
noncomputable def f24S1 (l2 : f24G2) (g0 : f24G0) (g1 : f24G1) (x1_0 : List (ByteArray × List (Int × Int × Unit) × Unit)) (x1_1 : Int) (x1_2 : Int) (x1_3 : Int) (x1_4 : List (List (ByteArray × List (Int × Int × Unit) × Unit))) (x1_5 : List ByteArray) (x1_6 : List (List Int)) (x1_7 : List Bool) (x1_8 : List Int) (x1_9 : List Int) : Option Lf :=
 bif decide (x1_2 < x1_1) then
  bif inb x1_2 x1_0.length then
   l2 (x1_0 : List (ByteArray × List (Int × Int × Unit) × Unit)) (x1_1 : Int) (x1_2 : Int) ((x1_0.getD x1_2.toNat ({ data := #[] }, [], ())).snd.fst : List (Int × Int × Unit)) (zn (x1_0.getD x1_2.toNat ({ data := #[] }, [], ())).snd.fst.length : Int) (0 : Int) (x1_3 : Int) (x1_4 : List (List (ByteArray × List (Int × Int × Unit) × Unit))) (x1_5 : List ByteArray) (x1_6 : List (List Int)) (x1_7 : List Bool) (x1_8 : List Int) (x1_9 : List Int)
  else
   none
 else
  g0 (x1_3 : Int) (x1_4 : List (List (ByteArray × List (Int × Int × Unit) × Unit))) (x1_5 : List ByteArray) (x1_6 : List (List Int)) (x1_7 : List Bool) (x1_8 : List Int) (x1_9 : List Int)
noncomputable def f24L1 (n : Nat) (g0 : f24G0) : Nat → f24G1
  | 0 => fun _ _ _ _ _ _ _ _ _ _ => none
  | m + 1 => fun x1_0 x1_1 x1_2 x1_3 x1_4 x1_5 x1_6 x1_7 x1_8 x1_9 => f24S1 (f24L2 n g0 (f24L1 n g0 m) n) g0 (f24L1 n g0 m) x1_0 x1_1 x1_2 x1_3 x1_4 x1_5 x1_6 x1_7 x1_8 x1_9
theorem f24S1_ev (n : Nat) (G0 : St → Option Lf) (G : St → Option Lf) (x1_0 : List (ByteArray × List (Int × Int × Unit) × Unit)) (x1_1 : Int) (x1_2 : Int) (x1_3 : Int) (x1_4 : List (List (ByteArray × List (Int × Int × Unit) × Unit))) (x1_5 : List ByteArray) (x1_6 : List (List Int)) (x1_7 : List Bool) (x1_8 : List Int) (x1_9 : List Int) : rnd C40 f24h n Lf (codeOf f24f) [1, 1, 1, 1, 1, 1, 0, 0, 0, 1, 0, 1, 1, 1, 1, 0] [G0] (endK C40 f24h f24f) G (f24H1 x1_0 x1_1 x1_2 x1_3 x1_4 x1_5 x1_6 x1_7 x1_8 x1_9) = f24S1 (f24W2 (lp C40 f24h n Lf (codeOf f24f) [1, 1, 1, 1, 1, 1, 0, 0, 0, 1, 0, 1, 1, 1, 1, 0, 0, 1, 1, 0, 0, 1, 1, 0] [G0, G] (endK C40 f24h f24f) n)) (f24W0 G0) (f24W1 G) x1_0 x1_1 x1_2 x1_3 x1_4 x1_5 x1_6 x1_7 x1_8 x1_9 := by kernel_rfl
theorem f24W1_ev (n : Nat) (G0 : St → Option Lf) : ∀ m, (f24W1 (lp C40 f24h n Lf (codeOf f24f) [1, 1, 1, 1, 1, 1, 0, 0, 0, 1, 0, 1, 1, 1, 1, 0] [G0] (endK C40 f24h f24f) m)) = f24L1 n (f24W0 G0) m := by
  intro m
  induction m with
  | zero => funext x1_0 x1_1 x1_2 x1_3 x1_4 x1_5 x1_6 x1_7 x1_8 x1_9; exact lp_zero _
  | succ m ih =>
    have e2 : (f24W2 (lp C40 f24h n Lf (codeOf f24f) [1, 1, 1, 1, 1, 1, 0, 0, 0, 1, 0, 1, 1, 1, 1, 0, 0, 1, 1, 0, 0, 1, 1, 0] [G0, (lp C40 f24h n Lf (codeOf f24f) [1, 1, 1, 1, 1, 1, 0, 0, 0, 1, 0, 1, 1, 1, 1, 0] [G0] (endK C40 f24h f24f) m)] (endK C40 f24h f24f) n)) = (f24L2 n (f24W0 G0) (f24L1 n (f24W0 G0) m) n) := by
      rw [f24W2_ev, ih]
    funext x1_0 x1_1 x1_2 x1_3 x1_4 x1_5 x1_6 x1_7 x1_8 x1_9
    show lp C40 f24h n Lf (codeOf f24f) [1, 1, 1, 1, 1, 1, 0, 0, 0, 1, 0, 1, 1, 1, 1, 0] [G0] (endK C40 f24h f24f) (m + 1) (f24H1 x1_0 x1_1 x1_2 x1_3 x1_4 x1_5 x1_6 x1_7 x1_8 x1_9) = f24S1 (f24L2 n (f24W0 G0) (f24L1 n (f24W0 G0) m) n) (f24W0 G0) (f24L1 n (f24W0 G0) m) x1_0 x1_1 x1_2 x1_3 x1_4 x1_5 x1_6 x1_7 x1_8 x1_9
    rw [lp_succ, f24S1_ev, ih, e2]
noncomputable def f24S0 (l1 : f24G1) (g0 : f24G0) (x0_0 : Int) (x0_1 : List (List (ByteArray × List (Int × Int × Unit) × Unit))) (x0_2 : List ByteArray) (x0_3 : List (List Int)) (x0_4 : List Bool) (x0_5 : List Int) (x0_6 : List Int) : Option Lf :=
 bif decide (zn x0_5.length > 0) then
  bif inb (IntKind.i64.wrap (zn x0_5.length - 1)) x0_5.length then
   bif inb2 0 (IntKind.i64.wrap (zn x0_5.length - 1)) x0_5.length then
    bif decide ((x0_6.length + [x0_5.getD (IntKind.i64.wrap (zn x0_5.length - 1)).toNat 0].length) * 8 ≤ 140737488355328) then
     bif inb (x0_5.getD (IntKind.i64.wrap (zn x0_5.length - 1)).toNat 0) x0_1.length then
      l1 (x0_1.getD (x0_5.getD (IntKind.i64.wrap (zn x0_5.length - 1)).toNat 0).toNat [] : List (ByteArray × List (Int × Int × Unit) × Unit)) (zn (x0_1.getD (x0_5.getD (IntKind.i64.wrap (zn x0_5.length - 1)).toNat 0).toNat []).length : Int) (0 : Int) (x0_0 : Int) (x0_1 : List (List (ByteArray × List (Int × Int × Unit) × Unit))) (x0_2 : List ByteArray) (x0_3 : List (List Int)) (x0_4 : List Bool) (List.take ((IntKind.i64.wrap (zn x0_5.length - 1)).toNat - 0) x0_5 : List Int) (x0_6 ++ [x0_5.getD (IntKind.i64.wrap (zn x0_5.length - 1)).toNat 0] : List Int)
     else
      none
    else
     none
   else
    none
  else
   none
 else
  bif Nat.ble 1 x0_6.length && x0_6.length.ble 1000000 then
   some (Lf.mk [(Pt.one (L.rw (Id.mk 1 0)))] [] [(Ob.ro true 0 3 (Sh.i IntKind.i64) Ow.z (x0_6.mergeSort fun (x y : Int) => decide (x ≤ y) : List Int) Option.none)])
  else
   none
noncomputable def f24L0 (n : Nat)  : Nat → f24G0
  | 0 => fun _ _ _ _ _ _ _ => none
  | m + 1 => fun x0_0 x0_1 x0_2 x0_3 x0_4 x0_5 x0_6 => f24S0 (f24L1 n (f24L0 n  m) n)  (f24L0 n  m) x0_0 x0_1 x0_2 x0_3 x0_4 x0_5 x0_6
theorem f24S0_ev (n : Nat)  (G : St → Option Lf) (x0_0 : Int) (x0_1 : List (List (ByteArray × List (Int × Int × Unit) × Unit))) (x0_2 : List ByteArray) (x0_3 : List (List Int)) (x0_4 : List Bool) (x0_5 : List Int) (x0_6 : List Int) : rnd C40 f24h n Lf (codeOf f24f) [1, 1, 1, 1, 1, 1, 0, 0] [] (endK C40 f24h f24f) G (f24H0 x0_0 x0_1 x0_2 x0_3 x0_4 x0_5 x0_6) = f24S0 (f24W1 (lp C40 f24h n Lf (codeOf f24f) [1, 1, 1, 1, 1, 1, 0, 0, 0, 1, 0, 1, 1, 1, 1, 0] [G] (endK C40 f24h f24f) n))  (f24W0 G) x0_0 x0_1 x0_2 x0_3 x0_4 x0_5 x0_6 := by kernel_rfl
theorem f24W0_ev (n : Nat)  : ∀ m, (f24W0 (lp C40 f24h n Lf (codeOf f24f) [1, 1, 1, 1, 1, 1, 0, 0] [] (endK C40 f24h f24f) m)) = f24L0 n  m := by
  intro m
  induction m with
  | zero => funext x0_0 x0_1 x0_2 x0_3 x0_4 x0_5 x0_6; exact lp_zero _
  | succ m ih =>
    have e1 : (f24W1 (lp C40 f24h n Lf (codeOf f24f) [1, 1, 1, 1, 1, 1, 0, 0, 0, 1, 0, 1, 1, 1, 1, 0] [(lp C40 f24h n Lf (codeOf f24f) [1, 1, 1, 1, 1, 1, 0, 0] [] (endK C40 f24h f24f) m)] (endK C40 f24h f24f) n)) = (f24L1 n (f24L0 n  m) n) := by
      rw [f24W1_ev, ih]
    funext x0_0 x0_1 x0_2 x0_3 x0_4 x0_5 x0_6
    show lp C40 f24h n Lf (codeOf f24f) [1, 1, 1, 1, 1, 1, 0, 0] [] (endK C40 f24h f24f) (m + 1) (f24H0 x0_0 x0_1 x0_2 x0_3 x0_4 x0_5 x0_6) = f24S0 (f24L1 n (f24L0 n  m) n)  (f24L0 n  m) x0_0 x0_1 x0_2 x0_3 x0_4 x0_5 x0_6
    rw [lp_succ, f24S0_ev, ih, e1]
noncomputable def f24T (l0 : f24G0) (i : Int) (ch : List (List (ByteArray × List (Int × Int × Unit) × Unit))) (nm : List ByteArray) (ho : List (List Int)) : Option Lf :=
 bif mdG ch nm ho then
  bif !(er1 (mdOk i ch nm ho)).isNil then
   some (Lf.mk [(Pt.one (L.rw (Id.mk 1 0)))] [] [(Ob.ro true 0 3 (Sh.i IntKind.i64) Ow.z ([] : List Int) Option.none)])
  else
   bif decide (0 ≤ zn ch.length) && (decide (zn ch.length ≤ zn ch.length) && decide (1 * (zn ch.length).toNat ≤ 140737488355328)) then
    bif inb i (List.replicate (zn ch.length).toNat false).length then
     l0 (i : Int) (ch : List (List (ByteArray × List (Int × Int × Unit) × Unit))) (nm : List ByteArray) (ho : List (List Int)) ((List.replicate (zn ch.length).toNat false).set i.toNat true : List Bool) ([i] : List Int) ([] : List Int)
    else
     none
   else
    none
 else
  none
noncomputable def f24M (n : Nat) (i : Int) (ch : List (List (ByteArray × List (Int × Int × Unit) × Unit))) (nm : List ByteArray) (ho : List (List Int)) : Option Lf := f24T (f24L0 n n) i ch nm ho
theorem f24T_ev (n : Nat) (i : Int) (ch : List (List (ByteArray × List (Int × Int × Unit) × Unit))) (nm : List ByteArray) (ho : List (List Int)) : evF C40 f24h n f24f [(D.p (Pt.agg [(L.d (Pv.fz true) (Sh.i IntKind.i64) i), (L.d (Pv.fz false) (Sh.l (Sh.l (Sh.p Sh.s (Sh.p (Sh.l (Sh.p (Sh.i IntKind.i64) (Sh.p (Sh.i IntKind.i64) Sh.u))) Sh.u)))) ch), (L.d (Pv.fz false) (Sh.l Sh.s) nm), (L.d (Pv.fz false) (Sh.l (Sh.l (Sh.i IntKind.i64))) ho)]))] [] = f24T (f24W0 (lp C40 f24h n Lf (codeOf f24f) [1, 1, 1, 1, 1, 1, 0, 0] [] (endK C40 f24h f24f) n)) i ch nm ho := by kernel_rfl
theorem f24_ev (n : Nat) (i : Int) (ch : List (List (ByteArray × List (Int × Int × Unit) × Unit))) (nm : List ByteArray) (ho : List (List Int)) : evF C40 f24h n f24f [(D.p (Pt.agg [(L.d (Pv.fz true) (Sh.i IntKind.i64) i), (L.d (Pv.fz false) (Sh.l (Sh.l (Sh.p Sh.s (Sh.p (Sh.l (Sh.p (Sh.i IntKind.i64) (Sh.p (Sh.i IntKind.i64) Sh.u))) Sh.u)))) ch), (L.d (Pv.fz false) (Sh.l Sh.s) nm), (L.d (Pv.fz false) (Sh.l (Sh.l (Sh.i IntKind.i64))) ho)]))] [] = f24M n i ch nm ho := by
  rw [f24T_ev, f24W0_ev]
  rfl
end Go.S23
