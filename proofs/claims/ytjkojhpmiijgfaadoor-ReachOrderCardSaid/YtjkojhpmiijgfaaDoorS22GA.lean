/-
  Seat 22: the functional form of ReachOrder.
-/
import Derived.Test.YtjkojhpmiijgfaaDoorS22P
open Go Go.En Go.S22
namespace Go.S22


abbrev r5h : Hn := h5r
noncomputable abbrev r5f : Func := fn 5
abbrev r5G0 := (List Bool) → Int → Int → Int → Int → (List (List (ByteArray × List (Int × Int × Unit) × Unit))) → (List ByteArray) → (List (List Int)) → (List (List (ByteArray × List (Int × Int × Unit) × Unit))) → (List ByteArray) → (List (List Int)) → Option Lf
noncomputable def r5H0 (x0_0 : List Bool) (x0_1 : Int) (x0_2 : Int) (x0_3 : Int) (x0_4 : Int) (x0_5 : List (List (ByteArray × List (Int × Int × Unit) × Unit))) (x0_6 : List ByteArray) (x0_7 : List (List Int)) (x0_8 : List (List (ByteArray × List (Int × Int × Unit) × Unit))) (x0_9 : List ByteArray) (x0_10 : List (List Int)) : St := (St.mk [dead, (D.p (Pt.one (L.d (Pv.fz false) (Sh.l Sh.b) x0_0))), (D.p (Pt.one (L.d (Pv.fz true) (Sh.i IntKind.u16) x0_1))), dead, dead, dead, dead, (D.p (Pt.one (L.pv (Id.mk 1 0) 0))), (D.p (Pt.one (L.pv (Id.mk 1 1) 0))), (D.p (Pt.one (L.d (Pv.fz true) (Sh.i IntKind.i64) x0_2))), dead, dead, dead, dead, dead, dead, dead, dead, dead, dead, dead, dead, dead, dead, dead, dead, dead, dead, dead, dead, dead, dead, dead, dead, dead, dead, dead, dead, dead, dead, dead, dead, dead, dead, dead, dead, dead, dead, dead, dead, dead, dead, dead, dead, dead, dead, dead, dead, dead, dead, dead, dead, dead, dead, dead, dead, dead, dead, dead, dead, dead, dead, dead, dead, dead, dead, dead, dead, dead, dead, dead, dead, dead, dead, dead, dead, dead, dead, dead, dead, dead, dead, dead, dead, dead, dead, dead, dead, dead, dead, dead, dead, dead, dead, dead, dead, dead, dead, dead, dead, dead, dead, dead, dead, dead, dead, dead, dead, dead, dead, dead, dead, dead, dead, dead, dead, dead, dead, dead, dead, dead, dead, dead, dead, dead, dead, dead, dead, dead, dead, dead, dead, dead, dead, dead, dead, dead, dead, dead, dead, dead, dead, dead, dead, dead, dead, dead, dead, dead, dead, dead, dead, dead, dead, dead, dead, dead, dead, dead, dead, dead, dead, dead, dead, dead, dead, dead, dead, dead, dead, dead, dead, dead, dead, dead, dead, dead, dead, dead, dead, dead, dead, dead, dead, dead, dead, dead, dead, dead, dead, dead, dead, dead, dead, dead, dead, dead, dead, dead, dead, dead, dead, dead] [[], [(Ob.va [(L.d (Pv.fz true) (Sh.i IntKind.i64) x0_3), (L.rw (Id.mk 1 2)), (L.rw (Id.mk 1 3)), (L.rw (Id.mk 1 4))]), (Ob.va [(L.d (Pv.fz true) (Sh.i IntKind.i64) x0_4), (L.rw (Id.mk 1 5)), (L.rw (Id.mk 1 6)), (L.rw (Id.mk 1 7))]), (Ob.ro true 0 51 (Sh.l (Sh.p Sh.s (Sh.p (Sh.l (Sh.p (Sh.i IntKind.i64) (Sh.p (Sh.i IntKind.i64) Sh.u))) Sh.u))) (Ow.l 56 (Ow.p Ow.z (Ow.p (Ow.l 53 Ow.z) Ow.z))) x0_5 Option.none), (Ob.ro true 0 9 Sh.s Ow.z x0_6 Option.none), (Ob.ro true 0 34 (Sh.l (Sh.i IntKind.i64)) (Ow.l 3 Ow.z) x0_7 Option.none), (Ob.ro true 0 51 (Sh.l (Sh.p Sh.s (Sh.p (Sh.l (Sh.p (Sh.i IntKind.i64) (Sh.p (Sh.i IntKind.i64) Sh.u))) Sh.u))) (Ow.l 56 (Ow.p Ow.z (Ow.p (Ow.l 53 Ow.z) Ow.z))) x0_8 Option.none), (Ob.ro true 0 9 Sh.s Ow.z x0_9 Option.none), (Ob.ro true 0 34 (Sh.l (Sh.i IntKind.i64)) (Ow.l 3 Ow.z) x0_10 Option.none)]])
noncomputable def r5W0 (G : St → Option Lf) : r5G0 := fun x0_0 x0_1 x0_2 x0_3 x0_4 x0_5 x0_6 x0_7 x0_8 x0_9 x0_10 => G (r5H0 x0_0 x0_1 x0_2 x0_3 x0_4 x0_5 x0_6 x0_7 x0_8 x0_9 x0_10)
abbrev r5G1 := (List Bool) → Int → Int → Int → Int → Int → (List (List (ByteArray × List (Int × Int × Unit) × Unit))) → (List ByteArray) → (List (List Int)) → (List (List (ByteArray × List (Int × Int × Unit) × Unit))) → (List ByteArray) → (List (List Int)) → Option Lf
noncomputable def r5H1 (x1_0 : List Bool) (x1_1 : Int) (x1_2 : Int) (x1_3 : Int) (x1_4 : Int) (x1_5 : Int) (x1_6 : List (List (ByteArray × List (Int × Int × Unit) × Unit))) (x1_7 : List ByteArray) (x1_8 : List (List Int)) (x1_9 : List (List (ByteArray × List (Int × Int × Unit) × Unit))) (x1_10 : List ByteArray) (x1_11 : List (List Int)) : St := (St.mk [dead, (D.p (Pt.one (L.d (Pv.fz false) (Sh.l Sh.b) x1_0))), (D.p (Pt.one (L.d (Pv.fz true) (Sh.i IntKind.u16) x1_1))), dead, dead, dead, dead, (D.p (Pt.one (L.pv (Id.mk 1 0) 0))), (D.p (Pt.one (L.pv (Id.mk 1 1) 0))), (D.p (Pt.one (L.d (Pv.fz true) (Sh.i IntKind.i64) x1_2))), (D.p (Pt.one (L.d (Pv.fz true) (Sh.i IntKind.i64) x1_3))), dead, dead, dead, dead, dead, dead, dead, dead, dead, dead, dead, dead, dead, dead, dead, dead, dead, dead, dead, dead, dead, dead, dead, dead, dead, dead, dead, dead, dead, dead, dead, dead, dead, dead, dead, dead, dead, dead, dead, dead, dead, dead, dead, dead, dead, dead, dead, dead, dead, dead, dead, dead, dead, dead, dead, dead, dead, dead, dead, dead, dead, dead, dead, dead, dead, dead, dead, dead, dead, dead, dead, dead, dead, dead, dead, dead, dead, dead, dead, dead, dead, dead, dead, dead, dead, dead, dead, dead, dead, dead, dead, dead, dead, dead, dead, dead, dead, dead, dead, dead, dead, dead, dead, dead, dead, dead, dead, dead, dead, dead, dead, dead, dead, dead, dead, dead, dead, dead, dead, dead, dead, dead, dead, dead, dead, dead, dead, dead, dead, dead, dead, dead, dead, dead, dead, dead, dead, dead, dead, dead, dead, dead, dead, dead, dead, dead, dead, dead, dead, dead, dead, dead, dead, dead, dead, dead, dead, dead, dead, dead, dead, dead, dead, dead, dead, dead, dead, dead, dead, dead, dead, dead, dead, dead, dead, dead, dead, dead, dead, dead, dead, dead, dead, dead, dead, dead, dead, dead, dead, dead, dead, dead, dead, dead, dead, dead, dead, dead, dead, dead, dead, dead] [[], [(Ob.va [(L.d (Pv.fz true) (Sh.i IntKind.i64) x1_4), (L.rw (Id.mk 1 2)), (L.rw (Id.mk 1 3)), (L.rw (Id.mk 1 4))]), (Ob.va [(L.d (Pv.fz true) (Sh.i IntKind.i64) x1_5), (L.rw (Id.mk 1 5)), (L.rw (Id.mk 1 6)), (L.rw (Id.mk 1 7))]), (Ob.ro true 0 51 (Sh.l (Sh.p Sh.s (Sh.p (Sh.l (Sh.p (Sh.i IntKind.i64) (Sh.p (Sh.i IntKind.i64) Sh.u))) Sh.u))) (Ow.l 56 (Ow.p Ow.z (Ow.p (Ow.l 53 Ow.z) Ow.z))) x1_6 Option.none), (Ob.ro true 0 9 Sh.s Ow.z x1_7 Option.none), (Ob.ro true 0 34 (Sh.l (Sh.i IntKind.i64)) (Ow.l 3 Ow.z) x1_8 Option.none), (Ob.ro true 0 51 (Sh.l (Sh.p Sh.s (Sh.p (Sh.l (Sh.p (Sh.i IntKind.i64) (Sh.p (Sh.i IntKind.i64) Sh.u))) Sh.u))) (Ow.l 56 (Ow.p Ow.z (Ow.p (Ow.l 53 Ow.z) Ow.z))) x1_9 Option.none), (Ob.ro true 0 9 Sh.s Ow.z x1_10 Option.none), (Ob.ro true 0 34 (Sh.l (Sh.i IntKind.i64)) (Ow.l 3 Ow.z) x1_11 Option.none)]])
noncomputable def r5W1 (G : St → Option Lf) : r5G1 := fun x1_0 x1_1 x1_2 x1_3 x1_4 x1_5 x1_6 x1_7 x1_8 x1_9 x1_10 x1_11 => G (r5H1 x1_0 x1_1 x1_2 x1_3 x1_4 x1_5 x1_6 x1_7 x1_8 x1_9 x1_10 x1_11)
noncomputable def r5S1  (g0 : r5G0) (g1 : r5G1) (x1_0 : List Bool) (x1_1 : Int) (x1_2 : Int) (x1_3 : Int) (x1_4 : Int) (x1_5 : Int) (x1_6 : List (List (ByteArray × List (Int × Int × Unit) × Unit))) (x1_7 : List ByteArray) (x1_8 : List (List Int)) (x1_9 : List (List (ByteArray × List (Int × Int × Unit) × Unit))) (x1_10 : List ByteArray) (x1_11 : List (List Int)) : Option Lf :=
 bif inb x1_2 x1_9.length then
  bif decide (x1_3 < zn (x1_9.getD x1_2.toNat []).length) then
   bif inb x1_2 x1_9.length then
    bif inb x1_3 (x1_9.getD x1_2.toNat []).length then
     bif inb 0 ((x1_9.getD x1_2.toNat []).getD x1_3.toNat ({ data := #[] }, [], ())).snd.fst.length then
      g1 (x1_0 : List Bool) (x1_1 : Int) (x1_2 : Int) (IntKind.i64.wrap (x1_3 + 1) : Int) (x1_4 : Int) (x1_5 : Int) (x1_6 : List (List (ByteArray × List (Int × Int × Unit) × Unit))) (x1_7 : List ByteArray) (x1_8 : List (List Int)) (x1_9.set x1_2.toNat ((x1_9.getD x1_2.toNat []).set x1_3.toNat (((x1_9.getD x1_2.toNat []).getD x1_3.toNat ({ data := #[] }, [], ())).fst, ((x1_9.getD x1_2.toNat []).getD x1_3.toNat ({ data := #[] }, [], ())).snd.fst.set 0 ((((x1_9.getD x1_2.toNat []).getD x1_3.toNat ({ data := #[] }, [], ())).snd.fst.getD 0 (0, 0, ())).fst, IntKind.i64.wrap (1 + IntKind.i64.wrap x1_1), ()), ())) : List (List (ByteArray × List (Int × Int × Unit) × Unit))) (x1_10 : List ByteArray) (x1_11 : List (List Int))
     else
      none
    else
     none
   else
    none
  else
   g0 (x1_0 : List Bool) (x1_1 : Int) (IntKind.i64.wrap (x1_2 + 1) : Int) (x1_4 : Int) (x1_5 : Int) (x1_6 : List (List (ByteArray × List (Int × Int × Unit) × Unit))) (x1_7 : List ByteArray) (x1_8 : List (List Int)) (x1_9 : List (List (ByteArray × List (Int × Int × Unit) × Unit))) (x1_10 : List ByteArray) (x1_11 : List (List Int))
 else
  none
noncomputable def r5L1 (n : Nat) (g0 : r5G0) : Nat → r5G1
  | 0 => fun _ _ _ _ _ _ _ _ _ _ _ _ => none
  | m + 1 => fun x1_0 x1_1 x1_2 x1_3 x1_4 x1_5 x1_6 x1_7 x1_8 x1_9 x1_10 x1_11 => r5S1  g0 (r5L1 n g0 m) x1_0 x1_1 x1_2 x1_3 x1_4 x1_5 x1_6 x1_7 x1_8 x1_9 x1_10 x1_11
theorem r5S1_ev (n : Nat) (G0 : St → Option Lf) (G : St → Option Lf) (x1_0 : List Bool) (x1_1 : Int) (x1_2 : Int) (x1_3 : Int) (x1_4 : Int) (x1_5 : Int) (x1_6 : List (List (ByteArray × List (Int × Int × Unit) × Unit))) (x1_7 : List ByteArray) (x1_8 : List (List Int)) (x1_9 : List (List (ByteArray × List (Int × Int × Unit) × Unit))) (x1_10 : List ByteArray) (x1_11 : List (List Int)) : rnd C22 r5h n Lf (codeOf r5f) [1, 1, 1, 1, 1, 0, 1, 0, 0, 1, 0, 0, 1, 0] [G0] (endK C22 r5h r5f) G (r5H1 x1_0 x1_1 x1_2 x1_3 x1_4 x1_5 x1_6 x1_7 x1_8 x1_9 x1_10 x1_11) = r5S1  (r5W0 G0) (r5W1 G) x1_0 x1_1 x1_2 x1_3 x1_4 x1_5 x1_6 x1_7 x1_8 x1_9 x1_10 x1_11 := by kernel_rfl
theorem r5W1_ev (n : Nat) (G0 : St → Option Lf) : ∀ m, (r5W1 (lp C22 r5h n Lf (codeOf r5f) [1, 1, 1, 1, 1, 0, 1, 0, 0, 1, 0, 0, 1, 0] [G0] (endK C22 r5h r5f) m)) = r5L1 n (r5W0 G0) m := by
  intro m
  induction m with
  | zero => funext x1_0 x1_1 x1_2 x1_3 x1_4 x1_5 x1_6 x1_7 x1_8 x1_9 x1_10 x1_11; exact lp_zero _
  | succ m ih =>
    funext x1_0 x1_1 x1_2 x1_3 x1_4 x1_5 x1_6 x1_7 x1_8 x1_9 x1_10 x1_11
    show lp C22 r5h n Lf (codeOf r5f) [1, 1, 1, 1, 1, 0, 1, 0, 0, 1, 0, 0, 1, 0] [G0] (endK C22 r5h r5f) (m + 1) (r5H1 x1_0 x1_1 x1_2 x1_3 x1_4 x1_5 x1_6 x1_7 x1_8 x1_9 x1_10 x1_11) = r5S1  (r5W0 G0) (r5L1 n (r5W0 G0) m) x1_0 x1_1 x1_2 x1_3 x1_4 x1_5 x1_6 x1_7 x1_8 x1_9 x1_10 x1_11
    rw [lp_succ, r5S1_ev, ih]
abbrev r5G2 := (List Bool) → Int → (List Bool) → (List Bool) → (List Bool) → (List Bool) → Option Lf
noncomputable def r5H2 (x2_0 : List Bool) (x2_1 : Int) (x2_2 : List Bool) (x2_3 : List Bool) (x2_4 : List Bool) (x2_5 : List Bool) : St := (St.mk [dead, (D.p (Pt.one (L.d (Pv.fz false) (Sh.l Sh.b) x2_0))), dead, dead, dead, dead, dead, dead, dead, dead, dead, (D.p (Pt.one (L.rw (Id.mk 1 0)))), dead, dead, (D.p (Pt.one (L.rw (Id.mk 1 1)))), dead, dead, (D.p (Pt.one (L.rw (Id.mk 1 2)))), dead, (D.p (Pt.one (L.rw (Id.mk 1 3)))), dead, dead, dead, dead, dead, dead, dead, dead, dead, (D.p (Pt.one (L.d (Pv.fz true) (Sh.i IntKind.i64) x2_1))), dead, dead, dead, dead, dead, dead, dead, dead, dead, dead, dead, dead, dead, dead, dead, dead, dead, dead, dead, dead, dead, dead, dead, dead, dead, dead, dead, dead, dead, dead, dead, dead, dead, dead, dead, dead, dead, dead, dead, dead, dead, dead, dead, dead, dead, dead, dead, dead, dead, dead, dead, dead, dead, dead, dead, dead, dead, dead, dead, dead, dead, dead, dead, dead, dead, dead, dead, dead, dead, dead, dead, dead, dead, dead, dead, dead, dead, dead, dead, dead, dead, dead, dead, dead, dead, dead, dead, dead, dead, dead, dead, dead, dead, dead, dead, dead, dead, dead, dead, dead, dead, dead, dead, dead, dead, dead, dead, dead, dead, dead, dead, dead, dead, dead, dead, dead, dead, dead, dead, dead, dead, dead, dead, dead, dead, dead, dead, dead, dead, dead, dead, dead, dead, dead, dead, dead, dead, dead, dead, dead, dead, dead, dead, dead, dead, dead, dead, dead, dead, dead, dead, dead, dead, dead, dead, dead, dead, dead, dead, dead, dead, dead, dead, dead, dead, dead, dead, dead, dead, dead, dead, dead, dead, dead, dead, dead, dead, dead, dead, dead, dead, dead, dead] [[], [(Ob.ro true 0 4 Sh.b Ow.z x2_2 Option.none), (Ob.ro true 0 4 Sh.b Ow.z x2_3 Option.none), (Ob.ro true 0 4 Sh.b Ow.z x2_4 Option.none), (Ob.ro true 0 4 Sh.b Ow.z x2_5 Option.none)]])
noncomputable def r5W2 (G : St → Option Lf) : r5G2 := fun x2_0 x2_1 x2_2 x2_3 x2_4 x2_5 => G (r5H2 x2_0 x2_1 x2_2 x2_3 x2_4 x2_5)
noncomputable def r5S2  (g2 : r5G2) (x2_0 : List Bool) (x2_1 : Int) (x2_2 : List Bool) (x2_3 : List Bool) (x2_4 : List Bool) (x2_5 : List Bool) : Option Lf :=
 bif decide (x2_1 < zn x2_0.length) then
  bif Nat.beq 1 1 && (inb x2_1 x2_5.length && (Nat.beq 1 1 && bif x2_5.getD x2_1.toNat false then Nat.beq 1 1 && (inb x2_1 x2_3.length && (Nat.beq 1 1 && bif x2_3.getD x2_1.toNat false then Nat.beq 1 1 && (inb x2_1 x2_4.length && (Nat.beq 1 1 && (!x2_4.getD x2_1.toNat false || Nat.beq 1 1 && (inb x2_1 x2_3.length && (Nat.beq 1 1 && bif x2_3.getD x2_1.toNat false then Nat.beq 1 1 && (inb x2_1 x2_2.length && (Nat.beq 1 1 && (!x2_2.getD x2_1.toNat false || Nat.beq 1 1 && (inb x2_1 x2_0.length && (Nat.beq 1 1 && bif x2_0.getD x2_1.toNat false then Nat.beq 1 1 && (inb x2_1 x2_5.length && true) else true))))) else Nat.beq 1 1 && (inb x2_1 x2_4.length && (Nat.beq 1 1 && bif x2_4.getD x2_1.toNat false then Nat.beq 1 1 && (inb x2_1 x2_2.length && (Nat.beq 1 1 && (!x2_2.getD x2_1.toNat false || Nat.beq 1 1 && (inb x2_1 x2_0.length && (Nat.beq 1 1 && bif x2_0.getD x2_1.toNat false then Nat.beq 1 1 && (inb x2_1 x2_5.length && true) else true))))) else Nat.beq 1 1 && (inb x2_1 x2_0.length && (Nat.beq 1 1 && bif x2_0.getD x2_1.toNat false then Nat.beq 1 1 && (inb x2_1 x2_5.length && true) else true))))))))) else true)) else Nat.beq 1 1 && (inb x2_1 x2_3.length && (Nat.beq 1 1 && bif x2_3.getD x2_1.toNat false then Nat.beq 1 1 && (inb x2_1 x2_2.length && (Nat.beq 1 1 && (!x2_2.getD x2_1.toNat false || Nat.beq 1 1 && (inb x2_1 x2_0.length && (Nat.beq 1 1 && bif x2_0.getD x2_1.toNat false then Nat.beq 1 1 && (inb x2_1 x2_5.length && true) else true))))) else Nat.beq 1 1 && (inb x2_1 x2_4.length && (Nat.beq 1 1 && bif x2_4.getD x2_1.toNat false then Nat.beq 1 1 && (inb x2_1 x2_2.length && (Nat.beq 1 1 && (!x2_2.getD x2_1.toNat false || Nat.beq 1 1 && (inb x2_1 x2_0.length && (Nat.beq 1 1 && bif x2_0.getD x2_1.toNat false then Nat.beq 1 1 && (inb x2_1 x2_5.length && true) else true))))) else Nat.beq 1 1 && (inb x2_1 x2_0.length && (Nat.beq 1 1 && bif x2_0.getD x2_1.toNat false then Nat.beq 1 1 && (inb x2_1 x2_5.length && true) else true)))))))) then
   bif bif x2_5.getD x2_1.toNat false then bif x2_3.getD x2_1.toNat false then !x2_4.getD x2_1.toNat false || bif x2_3.getD x2_1.toNat false then !x2_2.getD x2_1.toNat false || x2_0.getD x2_1.toNat false && !x2_5.getD x2_1.toNat false else bif x2_4.getD x2_1.toNat false then !x2_2.getD x2_1.toNat false || x2_0.getD x2_1.toNat false && !x2_5.getD x2_1.toNat false else x2_0.getD x2_1.toNat false && !x2_5.getD x2_1.toNat false else true else bif x2_3.getD x2_1.toNat false then !x2_2.getD x2_1.toNat false || x2_0.getD x2_1.toNat false && !x2_5.getD x2_1.toNat false else bif x2_4.getD x2_1.toNat false then !x2_2.getD x2_1.toNat false || x2_0.getD x2_1.toNat false && !x2_5.getD x2_1.toNat false else x2_0.getD x2_1.toNat false && !x2_5.getD x2_1.toNat false then
    some (Lf.mk [(Pt.one (L.d (Pv.fz true) Sh.b (false : Bool)))] [] [])
   else
    g2 (x2_0 : List Bool) (IntKind.i64.wrap (x2_1 + 1) : Int) (x2_2 : List Bool) (x2_3 : List Bool) (x2_4 : List Bool) (x2_5 : List Bool)
  else
   none
 else
  some (Lf.mk [(Pt.one (L.d (Pv.fz true) Sh.b (true : Bool)))] [] [])
noncomputable def r5L2 (n : Nat)  : Nat → r5G2
  | 0 => fun _ _ _ _ _ _ => none
  | m + 1 => fun x2_0 x2_1 x2_2 x2_3 x2_4 x2_5 => r5S2   (r5L2 n  m) x2_0 x2_1 x2_2 x2_3 x2_4 x2_5
theorem r5S2_ev (n : Nat)  (G : St → Option Lf) (x2_0 : List Bool) (x2_1 : Int) (x2_2 : List Bool) (x2_3 : List Bool) (x2_4 : List Bool) (x2_5 : List Bool) : rnd C22 r5h n Lf (codeOf r5f) [1, 1, 1, 1, 1, 1, 1, 1, 1, 1, 1, 1, 1, 1, 0, 1, 0] [] (endK C22 r5h r5f) G (r5H2 x2_0 x2_1 x2_2 x2_3 x2_4 x2_5) = r5S2   (r5W2 G) x2_0 x2_1 x2_2 x2_3 x2_4 x2_5 := by kernel_rfl
theorem r5W2_ev (n : Nat)  : ∀ m, (r5W2 (lp C22 r5h n Lf (codeOf r5f) [1, 1, 1, 1, 1, 1, 1, 1, 1, 1, 1, 1, 1, 1, 0, 1, 0] [] (endK C22 r5h r5f) m)) = r5L2 n  m := by
  intro m
  induction m with
  | zero => funext x2_0 x2_1 x2_2 x2_3 x2_4 x2_5; exact lp_zero _
  | succ m ih =>
    funext x2_0 x2_1 x2_2 x2_3 x2_4 x2_5
    show lp C22 r5h n Lf (codeOf r5f) [1, 1, 1, 1, 1, 1, 1, 1, 1, 1, 1, 1, 1, 1, 0, 1, 0] [] (endK C22 r5h r5f) (m + 1) (r5H2 x2_0 x2_1 x2_2 x2_3 x2_4 x2_5) = r5S2   (r5L2 n  m) x2_0 x2_1 x2_2 x2_3 x2_4 x2_5
    rw [lp_succ, r5S2_ev, ih]
noncomputable def r5S0 (l1 : r5G1) (l2 : r5G2) (g0 : r5G0) (x0_0 : List Bool) (x0_1 : Int) (x0_2 : Int) (x0_3 : Int) (x0_4 : Int) (x0_5 : List (List (ByteArray × List (Int × Int × Unit) × Unit))) (x0_6 : List ByteArray) (x0_7 : List (List Int)) (x0_8 : List (List (ByteArray × List (Int × Int × Unit) × Unit))) (x0_9 : List ByteArray) (x0_10 : List (List Int)) : Option Lf :=
 bif decide (x0_2 < zn x0_8.length) then
  l1 (x0_0 : List Bool) (x0_1 : Int) (x0_2 : Int) (0 : Int) (x0_3 : Int) (x0_4 : Int) (x0_5 : List (List (ByteArray × List (Int × Int × Unit) × Unit))) (x0_6 : List ByteArray) (x0_7 : List (List Int)) (x0_8 : List (List (ByteArray × List (Int × Int × Unit) × Unit))) (x0_9 : List ByteArray) (x0_10 : List (List Int))
 else
  bif ofMG x0_5 x0_6 x0_7 then
   bif ofMG x0_5 x0_6 x0_7 then
    bif ofMG x0_5 x0_6 x0_7 then
     bif ofMG x0_5 x0_6 x0_7 then
      bif ofMG x0_8 x0_9 x0_10 then
       bif ofMG x0_8 x0_9 x0_10 then
        bif ofMG x0_8 x0_9 x0_10 then
         bif !(mustSureV x0_3 x0_5 x0_6 x0_7 x0_0).snd.isNil then
          some (Lf.mk [(Pt.one (L.d (Pv.fz true) Sh.b (false : Bool)))] [] [])
         else
          bif (mayV x0_3 x0_5 x0_6 x0_7 x0_0).fst.length.ble 1000000 && (mayV x0_4 x0_8 x0_9 x0_10 x0_0).fst.length.ble 1000000 then
           bif !sameB (mayV x0_3 x0_5 x0_6 x0_7 x0_0).fst (mayV x0_4 x0_8 x0_9 x0_10 x0_0).fst then
            some (Lf.mk [(Pt.one (L.d (Pv.fz true) Sh.b (false : Bool)))] [] [])
           else
            bif (sureV x0_3 x0_5 x0_6 x0_7 x0_0).fst.length.ble 1000000 && (sureV x0_4 x0_8 x0_9 x0_10 x0_0).fst.length.ble 1000000 then
             bif !sameB (sureV x0_3 x0_5 x0_6 x0_7 x0_0).fst (sureV x0_4 x0_8 x0_9 x0_10 x0_0).fst then
              some (Lf.mk [(Pt.one (L.d (Pv.fz true) Sh.b (false : Bool)))] [] [])
             else
              bif (mustSureV x0_3 x0_5 x0_6 x0_7 x0_0).fst.length.ble 1000000 && (mustSureV x0_4 x0_8 x0_9 x0_10 x0_0).fst.length.ble 1000000 then
               bif !sameB (mustSureV x0_3 x0_5 x0_6 x0_7 x0_0).fst (mustSureV x0_4 x0_8 x0_9 x0_10 x0_0).fst then
                some (Lf.mk [(Pt.one (L.d (Pv.fz true) Sh.b (false : Bool)))] [] [])
               else
                bif iiG [(mayV x0_3 x0_5 x0_6 x0_7 x0_0).snd.fst, (sureV x0_3 x0_5 x0_6 x0_7 x0_0).snd.fst] then
                 bif !sameII [(mayV x0_3 x0_5 x0_6 x0_7 x0_0).snd.fst, (sureV x0_3 x0_5 x0_6 x0_7 x0_0).snd.fst] [(mayV x0_4 x0_8 x0_9 x0_10 x0_0).snd.fst, (sureV x0_4 x0_8 x0_9 x0_10 x0_0).snd.fst] then
                  some (Lf.mk [(Pt.one (L.d (Pv.fz true) Sh.b (false : Bool)))] [] [])
                 else
                  l2 (x0_0 : List Bool) (0 : Int) ((mayV x0_3 x0_5 x0_6 x0_7 x0_0).fst : List Bool) ((sureV x0_3 x0_5 x0_6 x0_7 x0_0).fst : List Bool) ((mustMayV x0_3 x0_5 x0_6 x0_7 x0_0).fst : List Bool) ((mustSureV x0_3 x0_5 x0_6 x0_7 x0_0).fst : List Bool)
                else
                 none
              else
               none
            else
             none
          else
           none
        else
         none
       else
        none
      else
       none
     else
      none
    else
     none
   else
    none
  else
   none
noncomputable def r5L0 (n : Nat)  : Nat → r5G0
  | 0 => fun _ _ _ _ _ _ _ _ _ _ _ => none
  | m + 1 => fun x0_0 x0_1 x0_2 x0_3 x0_4 x0_5 x0_6 x0_7 x0_8 x0_9 x0_10 => r5S0 (r5L1 n (r5L0 n  m) n) (r5L2 n  n)  (r5L0 n  m) x0_0 x0_1 x0_2 x0_3 x0_4 x0_5 x0_6 x0_7 x0_8 x0_9 x0_10
theorem r5S0_ev (n : Nat)  (G : St → Option Lf) (x0_0 : List Bool) (x0_1 : Int) (x0_2 : Int) (x0_3 : Int) (x0_4 : Int) (x0_5 : List (List (ByteArray × List (Int × Int × Unit) × Unit))) (x0_6 : List ByteArray) (x0_7 : List (List Int)) (x0_8 : List (List (ByteArray × List (Int × Int × Unit) × Unit))) (x0_9 : List ByteArray) (x0_10 : List (List Int)) : rnd C22 r5h n Lf (codeOf r5f) [1, 1, 1, 1, 1, 0, 1, 0] [] (endK C22 r5h r5f) G (r5H0 x0_0 x0_1 x0_2 x0_3 x0_4 x0_5 x0_6 x0_7 x0_8 x0_9 x0_10) = r5S0 (r5W1 (lp C22 r5h n Lf (codeOf r5f) [1, 1, 1, 1, 1, 0, 1, 0, 0, 1, 0, 0, 1, 0] [G] (endK C22 r5h r5f) n)) (r5W2 (lp C22 r5h n Lf (codeOf r5f) [1, 1, 1, 1, 1, 1, 1, 1, 1, 1, 1, 1, 1, 1, 0, 1, 0] [] (endK C22 r5h r5f) n))  (r5W0 G) x0_0 x0_1 x0_2 x0_3 x0_4 x0_5 x0_6 x0_7 x0_8 x0_9 x0_10 := by kernel_rfl
theorem r5W0_ev (n : Nat)  : ∀ m, (r5W0 (lp C22 r5h n Lf (codeOf r5f) [1, 1, 1, 1, 1, 0, 1, 0] [] (endK C22 r5h r5f) m)) = r5L0 n  m := by
  intro m
  induction m with
  | zero => funext x0_0 x0_1 x0_2 x0_3 x0_4 x0_5 x0_6 x0_7 x0_8 x0_9 x0_10; exact lp_zero _
  | succ m ih =>
    have e1 : (r5W1 (lp C22 r5h n Lf (codeOf r5f) [1, 1, 1, 1, 1, 0, 1, 0, 0, 1, 0, 0, 1, 0] [(lp C22 r5h n Lf (codeOf r5f) [1, 1, 1, 1, 1, 0, 1, 0] [] (endK C22 r5h r5f) m)] (endK C22 r5h r5f) n)) = (r5L1 n (r5L0 n  m) n) := by
      rw [r5W1_ev, ih]
    have e2 : (r5W2 (lp C22 r5h n Lf (codeOf r5f) [1, 1, 1, 1, 1, 1, 1, 1, 1, 1, 1, 1, 1, 1, 0, 1, 0] [] (endK C22 r5h r5f) n)) = (r5L2 n  n) := by
      rw [r5W2_ev]
    funext x0_0 x0_1 x0_2 x0_3 x0_4 x0_5 x0_6 x0_7 x0_8 x0_9 x0_10
    show lp C22 r5h n Lf (codeOf r5f) [1, 1, 1, 1, 1, 0, 1, 0] [] (endK C22 r5h r5f) (m + 1) (r5H0 x0_0 x0_1 x0_2 x0_3 x0_4 x0_5 x0_6 x0_7 x0_8 x0_9 x0_10) = r5S0 (r5L1 n (r5L0 n  m) n) (r5L2 n  n)  (r5L0 n  m) x0_0 x0_1 x0_2 x0_3 x0_4 x0_5 x0_6 x0_7 x0_8 x0_9 x0_10
    rw [lp_succ, r5S0_ev, ih, e1, e2]
noncomputable def r5T (l0 : r5G0) (i : Int) (ch : List (List (ByteArray × List (Int × Int × Unit) × Unit))) (nm : List ByteArray) (ho : List (List Int)) (set : List Bool) (w : Int) : Option Lf :=
 bif farM ch nm ho || mdG ch nm ho && (!mdOk i ch nm ho || true) then
  bif farM ch nm ho || (!mdOk i ch nm ho || zn set.length != zn ch.length) then
   some (Lf.mk [(Pt.one (L.d (Pv.fz true) Sh.b (true : Bool)))] [] [])
  else
   bif ofMG ch nm ho then
    bif ofMG ch nm ho then
     l0 (set : List Bool) (w : Int) (0 : Int) (i : Int) (i : Int) (ch : List (List (ByteArray × List (Int × Int × Unit) × Unit))) (nm : List ByteArray) (ho : List (List Int)) (ch : List (List (ByteArray × List (Int × Int × Unit) × Unit))) (nm : List ByteArray) (ho : List (List Int))
    else
     none
   else
    none
 else
  none
noncomputable def r5M (n : Nat) (i : Int) (ch : List (List (ByteArray × List (Int × Int × Unit) × Unit))) (nm : List ByteArray) (ho : List (List Int)) (set : List Bool) (w : Int) : Option Lf := r5T (r5L0 n n) i ch nm ho set w
theorem r5T_ev (n : Nat) (i : Int) (ch : List (List (ByteArray × List (Int × Int × Unit) × Unit))) (nm : List ByteArray) (ho : List (List Int)) (set : List Bool) (w : Int) : evF C22 r5h n r5f [(D.p (Pt.agg [(L.d (Pv.fz true) (Sh.i IntKind.i64) i), (L.d (Pv.fz false) (Sh.l (Sh.l (Sh.p Sh.s (Sh.p (Sh.l (Sh.p (Sh.i IntKind.i64) (Sh.p (Sh.i IntKind.i64) Sh.u))) Sh.u)))) ch), (L.d (Pv.fz false) (Sh.l Sh.s) nm), (L.d (Pv.fz false) (Sh.l (Sh.l (Sh.i IntKind.i64))) ho)])), (D.p (Pt.one (L.d (Pv.fz false) (Sh.l Sh.b) set))), (D.p (Pt.one (L.d (Pv.fz true) (Sh.i IntKind.u16) w)))] [] = r5T (r5W0 (lp C22 r5h n Lf (codeOf r5f) [1, 1, 1, 1, 1, 0, 1, 0] [] (endK C22 r5h r5f) n)) i ch nm ho set w := by kernel_rfl
theorem r5_ev (n : Nat) (i : Int) (ch : List (List (ByteArray × List (Int × Int × Unit) × Unit))) (nm : List ByteArray) (ho : List (List Int)) (set : List Bool) (w : Int) : evF C22 r5h n r5f [(D.p (Pt.agg [(L.d (Pv.fz true) (Sh.i IntKind.i64) i), (L.d (Pv.fz false) (Sh.l (Sh.l (Sh.p Sh.s (Sh.p (Sh.l (Sh.p (Sh.i IntKind.i64) (Sh.p (Sh.i IntKind.i64) Sh.u))) Sh.u)))) ch), (L.d (Pv.fz false) (Sh.l Sh.s) nm), (L.d (Pv.fz false) (Sh.l (Sh.l (Sh.i IntKind.i64))) ho)])), (D.p (Pt.one (L.d (Pv.fz false) (Sh.l Sh.b) set))), (D.p (Pt.one (L.d (Pv.fz true) (Sh.i IntKind.u16) w)))] [] = r5M n i ch nm ho set w := by
  rw [r5T_ev, r5W0_ev]
  rfl
end Go.S22
