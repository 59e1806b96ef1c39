/-
  Seat 11: functional forms: MdpGrows
-/
import Derived.Test.YtoghhokbakphlaaDoorS11J
open Go Go.En Go.S11
namespace Go.S11


abbrev f103h : Hn := h3
noncomputable abbrev f103f : Func := fn 3
abbrev f103G0 := Int → (List (List (ByteArray × List (Int × Int × Unit) × Unit))) → (List ByteArray) → (List (List Int)) → Int → Int → (List (List (ByteArray × List (Int × Int × Unit) × Unit))) → (List ByteArray) → (List (List Int)) → (List (List (ByteArray × List (Int × Int × Unit) × Unit))) → (List ByteArray) → (List (List Int)) → Option Lf
noncomputable def f103H0 (x0_0 : Int) (x0_1 : List (List (ByteArray × List (Int × Int × Unit) × Unit))) (x0_2 : List ByteArray) (x0_3 : List (List Int)) (x0_4 : Int) (x0_5 : Int) (x0_6 : List (List (ByteArray × List (Int × Int × Unit) × Unit))) (x0_7 : List ByteArray) (x0_8 : List (List Int)) (x0_9 : List (List (ByteArray × List (Int × Int × Unit) × Unit))) (x0_10 : List ByteArray) (x0_11 : List (List Int)) : St := (St.mk [dead, dead, dead, (D.p (Pt.one (L.pv (Id.mk 1 0) 0))), dead, dead, dead, (D.p (Pt.one (L.pv (Id.mk 1 1) 0))), (D.p (Pt.one (L.pv (Id.mk 1 2) 0))), dead, dead, dead, dead, dead, dead, dead, dead, dead, dead, dead, dead, dead, dead, dead, dead, dead, dead, dead, dead, dead, dead, dead, dead, dead, dead, dead, dead, dead, dead, dead, dead, dead, dead, dead, dead, dead, dead, dead, dead, dead, dead, dead, dead, dead, dead, dead, dead, dead, dead, dead, dead, dead, dead, dead, dead, dead, dead, dead, dead, dead, dead, dead, dead, dead, dead, dead, dead, dead, dead, dead, dead, dead, dead, dead, dead, dead, dead, dead, dead, dead, dead, dead, dead, dead, dead, dead, dead, dead, dead, dead, dead, dead, dead, dead, dead, dead, dead, dead, dead, dead, dead, dead, dead, dead, dead, dead, dead, dead, dead, dead, dead, dead, dead, dead, dead, dead, dead, dead, dead, dead, dead, dead, dead, dead, dead, dead, dead, dead, dead, dead, dead, dead, dead, dead, dead, dead, dead, dead, dead, dead, dead, dead, dead, dead, dead, dead, dead, dead, dead, dead, dead, dead, dead, dead, dead, dead, dead, dead, dead, dead, dead, dead, dead, dead, dead, dead, dead, dead, dead, dead, dead, dead, dead, dead, dead, dead, dead] [[], [(Ob.va [(L.d (Pv.fz true) (Sh.i IntKind.i64) x0_0), (L.d (Pv.fz false) (Sh.l (Sh.l (Sh.p Sh.s (Sh.p (Sh.l (Sh.p (Sh.i IntKind.i64) (Sh.p (Sh.i IntKind.i64) Sh.u))) Sh.u)))) x0_1), (L.d (Pv.fz false) (Sh.l Sh.s) x0_2), (L.d (Pv.fz false) (Sh.l (Sh.l (Sh.i IntKind.i64))) x0_3)]), (Ob.va [(L.d (Pv.fz true) (Sh.i IntKind.i64) x0_4), (L.rw (Id.mk 1 3)), (L.rw (Id.mk 1 4)), (L.rw (Id.mk 1 5))]), (Ob.va [(L.d (Pv.fz true) (Sh.i IntKind.i64) x0_5), (L.rw (Id.mk 1 6)), (L.rw (Id.mk 1 7)), (L.rw (Id.mk 1 8))]), (Ob.ro true 0 34 (Sh.l (Sh.p Sh.s (Sh.p (Sh.l (Sh.p (Sh.i IntKind.i64) (Sh.p (Sh.i IntKind.i64) Sh.u))) Sh.u))) (Ow.l 39 (Ow.p Ow.z (Ow.p (Ow.l 36 Ow.z) Ow.z))) x0_6 Option.none), (Ob.ro true 0 9 Sh.s Ow.z x0_7 Option.none), (Ob.ro true 0 40 (Sh.l (Sh.i IntKind.i64)) (Ow.l 3 Ow.z) x0_8 Option.none), (Ob.ro true 0 34 (Sh.l (Sh.p Sh.s (Sh.p (Sh.l (Sh.p (Sh.i IntKind.i64) (Sh.p (Sh.i IntKind.i64) Sh.u))) Sh.u))) (Ow.l 39 (Ow.p Ow.z (Ow.p (Ow.l 36 Ow.z) Ow.z))) x0_9 Option.none), (Ob.ro true 0 9 Sh.s Ow.z x0_10 Option.none), (Ob.ro true 0 40 (Sh.l (Sh.i IntKind.i64)) (Ow.l 3 Ow.z) x0_11 Option.none)]])
noncomputable def f103W0 (G : St → Option Lf) : f103G0 := fun x0_0 x0_1 x0_2 x0_3 x0_4 x0_5 x0_6 x0_7 x0_8 x0_9 x0_10 x0_11 => G (f103H0 x0_0 x0_1 x0_2 x0_3 x0_4 x0_5 x0_6 x0_7 x0_8 x0_9 x0_10 x0_11)
abbrev f103G1 := Int → Int → (List (List (ByteArray × List (Int × Int × Unit) × Unit))) → (List ByteArray) → (List (List Int)) → Int → (List Int) → (List Int) → (List (List (ByteArray × List (Int × Int × Unit) × Unit))) → (List ByteArray) → (List (List Int)) → Option Lf
noncomputable def f103H1 (x1_0 : Int) (x1_1 : Int) (x1_2 : List (List (ByteArray × List (Int × Int × Unit) × Unit))) (x1_3 : List ByteArray) (x1_4 : List (List Int)) (x1_5 : Int) (x1_6 : List Int) (x1_7 : List Int) (x1_8 : List (List (ByteArray × List (Int × Int × Unit) × Unit))) (x1_9 : List ByteArray) (x1_10 : List (List Int)) : St := (St.mk [dead, dead, dead, (D.p (Pt.one (L.pv (Id.mk 1 0) 0))), dead, dead, dead, (D.p (Pt.one (L.pv (Id.mk 1 1) 0))), dead, dead, (D.p (Pt.one (L.rw (Id.mk 1 2)))), (D.p (Pt.one (L.rw (Id.mk 1 3)))), (D.p (Pt.one (L.d (Pv.fz true) (Sh.i IntKind.i64) x1_0))), dead, dead, dead, dead, dead, dead, dead, dead, dead, dead, dead, dead, dead, dead, dead, dead, dead, dead, dead, dead, dead, dead, dead, dead, dead, dead, dead, dead, dead, dead, dead, dead, dead, dead, dead, dead, dead, dead, dead, dead, dead, dead, dead, dead, dead, dead, dead, dead, dead, dead, dead, dead, dead, dead, dead, dead, dead, dead, dead, dead, dead, dead, dead, dead, dead, dead, dead, dead, dead, dead, dead, dead, dead, dead, dead, dead, dead, dead, dead, dead, dead, dead, dead, dead, dead, dead, dead, dead, dead, dead, dead, dead, dead, dead, dead, dead, dead, dead, dead, dead, dead, dead, dead, dead, dead, dead, dead, dead, dead, dead, dead, dead, dead, dead, dead, dead, dead, dead, dead, dead, dead, dead, dead, dead, dead, dead, dead, dead, dead, dead, dead, dead, dead, dead, dead, dead, dead, dead, dead, dead, dead, dead, dead, dead, dead, dead, dead, dead, dead, dead, dead, dead, dead, dead, dead, dead, dead, dead, dead, dead, dead, dead, dead, dead, dead, dead, dead, dead, dead, dead, dead, dead, dead, dead] [[], [(Ob.va [(L.d (Pv.fz true) (Sh.i IntKind.i64) x1_1), (L.d (Pv.fz false) (Sh.l (Sh.l (Sh.p Sh.s (Sh.p (Sh.l (Sh.p (Sh.i IntKind.i64) (Sh.p (Sh.i IntKind.i64) Sh.u))) Sh.u)))) x1_2), (L.d (Pv.fz false) (Sh.l Sh.s) x1_3), (L.d (Pv.fz false) (Sh.l (Sh.l (Sh.i IntKind.i64))) x1_4)]), (Ob.va [(L.d (Pv.fz true) (Sh.i IntKind.i64) x1_5), (L.rw (Id.mk 1 4)), (L.rw (Id.mk 1 5)), (L.rw (Id.mk 1 6))]), (Ob.ro true 0 3 (Sh.i IntKind.i64) Ow.z x1_6 Option.none), (Ob.ro true 0 3 (Sh.i IntKind.i64) Ow.z x1_7 Option.none), (Ob.ro true 0 34 (Sh.l (Sh.p Sh.s (Sh.p (Sh.l (Sh.p (Sh.i IntKind.i64) (Sh.p (Sh.i IntKind.i64) Sh.u))) Sh.u))) (Ow.l 39 (Ow.p Ow.z (Ow.p (Ow.l 36 Ow.z) Ow.z))) x1_8 Option.none), (Ob.ro true 0 9 Sh.s Ow.z x1_9 Option.none), (Ob.ro true 0 40 (Sh.l (Sh.i IntKind.i64)) (Ow.l 3 Ow.z) x1_10 Option.none)]])
noncomputable def f103W1 (G : St → Option Lf) : f103G1 := fun x1_0 x1_1 x1_2 x1_3 x1_4 x1_5 x1_6 x1_7 x1_8 x1_9 x1_10 => G (f103H1 x1_0 x1_1 x1_2 x1_3 x1_4 x1_5 x1_6 x1_7 x1_8 x1_9 x1_10)
abbrev f103G2 := Int → Bool → Int → Int → (List (List (ByteArray × List (Int × Int × Unit) × Unit))) → (List ByteArray) → (List (List Int)) → Int → (List Int) → (List Int) → (List (List (ByteArray × List (Int × Int × Unit) × Unit))) → (List ByteArray) → (List (List Int)) → Option Lf
noncomputable def f103H2 (x2_0 : Int) (x2_1 : Bool) (x2_2 : Int) (x2_3 : Int) (x2_4 : List (List (ByteArray × List (Int × Int × Unit) × Unit))) (x2_5 : List ByteArray) (x2_6 : List (List Int)) (x2_7 : Int) (x2_8 : List Int) (x2_9 : List Int) (x2_10 : List (List (ByteArray × List (Int × Int × Unit) × Unit))) (x2_11 : List ByteArray) (x2_12 : List (List Int)) : St := (St.mk [dead, dead, dead, (D.p (Pt.one (L.pv (Id.mk 1 0) 0))), dead, dead, dead, (D.p (Pt.one (L.pv (Id.mk 1 1) 0))), dead, dead, (D.p (Pt.one (L.rw (Id.mk 1 2)))), (D.p (Pt.one (L.rw (Id.mk 1 3)))), (D.p (Pt.one (L.d (Pv.fz true) (Sh.i IntKind.i64) x2_0))), (D.p (Pt.one (L.d (Pv.fz true) Sh.b x2_1))), (D.p (Pt.one (L.d (Pv.fz true) (Sh.i IntKind.i64) x2_2))), dead, dead, dead, dead, dead, dead, dead, dead, dead, dead, dead, dead, dead, dead, dead, dead, dead, dead, dead, dead, dead, dead, dead, dead, dead, dead, dead, dead, dead, dead, dead, dead, dead, dead, dead, dead, dead, dead, dead, dead, dead, dead, dead, dead, dead, dead, dead, dead, dead, dead, dead, dead, dead, dead, dead, dead, dead, dead, dead, dead, dead, dead, dead, dead, dead, dead, dead, dead, dead, dead, dead, dead, dead, dead, dead, dead, dead, dead, dead, dead, dead, dead, dead, dead, dead, dead, dead, dead, dead, dead, dead, dead, dead, dead, dead, dead, dead, dead, dead, dead, dead, dead, dead, dead, dead, dead, dead, dead, dead, dead, dead, dead, dead, dead, dead, dead, dead, dead, dead, dead, dead, dead, dead, dead, dead, dead, dead, dead, dead, dead, dead, dead, dead, dead, dead, dead, dead, dead, dead, dead, dead, dead, dead, dead, dead, dead, dead, dead, dead, dead, dead, dead, dead, dead, dead, dead, dead, dead, dead, dead, dead, dead, dead, dead, dead, dead, dead, dead, dead, dead, dead, dead] [[], [(Ob.va [(L.d (Pv.fz true) (Sh.i IntKind.i64) x2_3), (L.d (Pv.fz false) (Sh.l (Sh.l (Sh.p Sh.s (Sh.p (Sh.l (Sh.p (Sh.i IntKind.i64) (Sh.p (Sh.i IntKind.i64) Sh.u))) Sh.u)))) x2_4), (L.d (Pv.fz false) (Sh.l Sh.s) x2_5), (L.d (Pv.fz false) (Sh.l (Sh.l (Sh.i IntKind.i64))) x2_6)]), (Ob.va [(L.d (Pv.fz true) (Sh.i IntKind.i64) x2_7), (L.rw (Id.mk 1 4)), (L.rw (Id.mk 1 5)), (L.rw (Id.mk 1 6))]), (Ob.ro true 0 3 (Sh.i IntKind.i64) Ow.z x2_8 Option.none), (Ob.ro true 0 3 (Sh.i IntKind.i64) Ow.z x2_9 Option.none), (Ob.ro true 0 34 (Sh.l (Sh.p Sh.s (Sh.p (Sh.l (Sh.p (Sh.i IntKind.i64) (Sh.p (Sh.i IntKind.i64) Sh.u))) Sh.u))) (Ow.l 39 (Ow.p Ow.z (Ow.p (Ow.l 36 Ow.z) Ow.z))) x2_10 Option.none), (Ob.ro true 0 9 Sh.s Ow.z x2_11 Option.none), (Ob.ro true 0 40 (Sh.l (Sh.i IntKind.i64)) (Ow.l 3 Ow.z) x2_12 Option.none)]])
noncomputable def f103W2 (G : St → Option Lf) : f103G2 := fun x2_0 x2_1 x2_2 x2_3 x2_4 x2_5 x2_6 x2_7 x2_8 x2_9 x2_10 x2_11 x2_12 => G (f103H2 x2_0 x2_1 x2_2 x2_3 x2_4 x2_5 x2_6 x2_7 x2_8 x2_9 x2_10 x2_11 x2_12)
noncomputable def f103S2  (g1 : f103G1) (g2 : f103G2) (x2_0 : Int) (x2_1 : Bool) (x2_2 : Int) (x2_3 : Int) (x2_4 : List (List (ByteArray × List (Int × Int × Unit) × Unit))) (x2_5 : List ByteArray) (x2_6 : List (List Int)) (x2_7 : Int) (x2_8 : List Int) (x2_9 : List Int) (x2_10 : List (List (ByteArray × List (Int × Int × Unit) × Unit))) (x2_11 : List ByteArray) (x2_12 : List (List Int)) : Option Lf :=
 bif decide (x2_2 < zn x2_9.length) then
  bif x2_1 || Nat.beq 1 1 && (inb x2_0 x2_8.length && (Nat.beq 1 1 && (Nat.beq 1 1 && (inb x2_2 x2_9.length && true)))) then
   g2 (x2_0 : Int) (x2_1 || x2_8.getD x2_0.toNat 0 == x2_9.getD x2_2.toNat 0 : Bool) (IntKind.i64.wrap (x2_2 + 1) : Int) (x2_3 : Int) (x2_4 : List (List (ByteArray × List (Int × Int × Unit) × Unit))) (x2_5 : List ByteArray) (x2_6 : List (List Int)) (x2_7 : Int) (x2_8 : List Int) (x2_9 : List Int) (x2_10 : List (List (ByteArray × List (Int × Int × Unit) × Unit))) (x2_11 : List ByteArray) (x2_12 : List (List Int))
  else
   none
 else
  bif !x2_1 then
   some (Lf.mk [(Pt.one (L.d (Pv.fz true) Sh.b (false : Bool)))] [] [])
  else
   g1 (IntKind.i64.wrap (x2_0 + 1) : Int) (x2_3 : Int) (x2_4 : List (List (ByteArray × List (Int × Int × Unit) × Unit))) (x2_5 : List ByteArray) (x2_6 : List (List Int)) (x2_7 : Int) (x2_8 : List Int) (x2_9 : List Int) (x2_10 : List (List (ByteArray × List (Int × Int × Unit) × Unit))) (x2_11 : List ByteArray) (x2_12 : List (List Int))
noncomputable def f103L2 (n : Nat) (g1 : f103G1) : Nat → f103G2
  | 0 => fun _ _ _ _ _ _ _ _ _ _ _ _ _ => none
  | m + 1 => fun x2_0 x2_1 x2_2 x2_3 x2_4 x2_5 x2_6 x2_7 x2_8 x2_9 x2_10 x2_11 x2_12 => f103S2  g1 (f103L2 n g1 m) x2_0 x2_1 x2_2 x2_3 x2_4 x2_5 x2_6 x2_7 x2_8 x2_9 x2_10 x2_11 x2_12
theorem f103S2_ev (n : Nat) (G1 : St → Option Lf) (G : St → Option Lf) (x2_0 : Int) (x2_1 : Bool) (x2_2 : Int) (x2_3 : Int) (x2_4 : List (List (ByteArray × List (Int × Int × Unit) × Unit))) (x2_5 : List ByteArray) (x2_6 : List (List Int)) (x2_7 : Int) (x2_8 : List Int) (x2_9 : List Int) (x2_10 : List (List (ByteArray × List (Int × Int × Unit) × Unit))) (x2_11 : List ByteArray) (x2_12 : List (List Int)) : rnd C13 f103h n Lf (codeOf f103f) [1, 1, 1, 1, 1, 1, 1, 1, 1, 0, 1, 0, 0, 1, 0, 0, 1, 0, 1, 0] [G1] (endK C13 f103h f103f) G (f103H2 x2_0 x2_1 x2_2 x2_3 x2_4 x2_5 x2_6 x2_7 x2_8 x2_9 x2_10 x2_11 x2_12) = f103S2  (f103W1 G1) (f103W2 G) x2_0 x2_1 x2_2 x2_3 x2_4 x2_5 x2_6 x2_7 x2_8 x2_9 x2_10 x2_11 x2_12 := by kernel_rfl
theorem f103W2_ev (n : Nat) (G1 : St → Option Lf) : ∀ m, (f103W2 (lp C13 f103h n Lf (codeOf f103f) [1, 1, 1, 1, 1, 1, 1, 1, 1, 0, 1, 0, 0, 1, 0, 0, 1, 0, 1, 0] [G1] (endK C13 f103h f103f) m)) = f103L2 n (f103W1 G1) m := by
  intro m
  induction m with
  | zero => funext x2_0 x2_1 x2_2 x2_3 x2_4 x2_5 x2_6 x2_7 x2_8 x2_9 x2_10 x2_11 x2_12; exact lp_zero _
  | succ m ih =>
    funext x2_0 x2_1 x2_2 x2_3 x2_4 x2_5 x2_6 x2_7 x2_8 x2_9 x2_10 x2_11 x2_12
    show lp C13 f103h n Lf (codeOf f103f) [1, 1, 1, 1, 1, 1, 1, 1, 1, 0, 1, 0, 0, 1, 0, 0, 1, 0, 1, 0] [G1] (endK C13 f103h f103f) (m + 1) (f103H2 x2_0 x2_1 x2_2 x2_3 x2_4 x2_5 x2_6 x2_7 x2_8 x2_9 x2_10 x2_11 x2_12) = f103S2  (f103W1 G1) (f103L2 n (f103W1 G1) m) x2_0 x2_1 x2_2 x2_3 x2_4 x2_5 x2_6 x2_7 x2_8 x2_9 x2_10 x2_11 x2_12
    rw [lp_succ, f103S2_ev, ih]
abbrev f103G3 := Int → (List Int) → (List Int) → Option Lf
noncomputable def f103H3 (x3_0 : Int) (x3_1 : List Int) (x3_2 : List Int) : St := (St.mk [dead, dead, dead, dead, dead, dead, dead, dead, dead, dead, dead, dead, dead, dead, dead, (D.p (Pt.one (L.rw (Id.mk 1 0)))), dead, (D.p (Pt.one (L.rw (Id.mk 1 1)))), dead, (D.p (Pt.one (L.d (Pv.fz true) (Sh.i IntKind.i64) x3_0))), dead, dead, dead, dead, dead, dead, dead, dead, dead, dead, dead, dead, dead, dead, dead, dead, dead, dead, dead, dead, dead, dead, dead, dead, dead, dead, dead, dead, dead, dead, dead, dead, dead, dead, dead, dead, dead, dead, dead, dead, dead, dead, dead, dead, dead, dead, dead, dead, dead, dead, dead, dead, dead, dead, dead, dead, dead, dead, dead, dead, dead, dead, dead, dead, dead, dead, dead, dead, dead, dead, dead, dead, dead, dead, dead, dead, dead, dead, dead, dead, dead, dead, dead, dead, dead, dead, dead, dead, dead, dead, dead, dead, dead, dead, dead, dead, dead, dead, dead, dead, dead, dead, dead, dead, dead, dead, dead, dead, dead, dead, dead, dead, dead, dead, dead, dead, dead, dead, dead, dead, dead, dead, dead, dead, dead, dead, dead, dead, dead, dead, dead, dead, dead, dead, dead, dead, dead, dead, dead, dead, dead, dead, dead, dead, dead, dead, dead, dead, dead, dead, dead, dead, dead, dead, dead, dead, dead, dead, dead, dead, dead, dead, dead, dead, dead, dead, dead] [[], [(Ob.ro true 0 3 (Sh.i IntKind.i64) Ow.z x3_1 Option.none), (Ob.ro true 0 3 (Sh.i IntKind.i64) Ow.z x3_2 Option.none)]])
noncomputable def f103W3 (G : St → Option Lf) : f103G3 := fun x3_0 x3_1 x3_2 => G (f103H3 x3_0 x3_1 x3_2)
noncomputable def f103S3  (g3 : f103G3) (x3_0 : Int) (x3_1 : List Int) (x3_2 : List Int) : Option Lf :=
 bif decide (x3_0 < zn x3_1.length) then
  bif Nat.beq 1 1 && (inb x3_0 x3_1.length && (Nat.beq 1 1 && (Nat.beq 1 1 && (inb x3_0 x3_2.length && (Nat.beq 1 1 && ((x3_1.getD x3_0.toNat 0).tmod 2 != IntKind.i64.wrap ((x3_2.getD x3_0.toNat 0).tdiv 2) || Nat.beq 1 1 && (inb x3_0 x3_1.length && (Nat.beq 1 1 && (Nat.beq 1 1 && (inb x3_0 x3_2.length && true)))))))))) then
   bif (x3_1.getD x3_0.toNat 0).tmod 2 != IntKind.i64.wrap ((x3_2.getD x3_0.toNat 0).tdiv 2) || IntKind.i64.wrap ((x3_1.getD x3_0.toNat 0).tdiv 2) != (x3_2.getD x3_0.toNat 0).tmod 2 then
    some (Lf.mk [(Pt.one (L.d (Pv.fz true) Sh.b (false : Bool)))] [] [])
   else
    g3 (IntKind.i64.wrap (x3_0 + 1) : Int) (x3_1 : List Int) (x3_2 : List Int)
  else
   none
 else
  some (Lf.mk [(Pt.one (L.d (Pv.fz true) Sh.b (true : Bool)))] [] [])
noncomputable def f103L3 (n : Nat)  : Nat → f103G3
  | 0 => fun _ _ _ => none
  | m + 1 => fun x3_0 x3_1 x3_2 => f103S3   (f103L3 n  m) x3_0 x3_1 x3_2
theorem f103S3_ev (n : Nat)  (G : St → Option Lf) (x3_0 : Int) (x3_1 : List Int) (x3_2 : List Int) : rnd C13 f103h n Lf (codeOf f103f) [1, 1, 1, 1, 1, 1, 1, 1, 1, 1, 1, 1, 1, 0, 1, 0] [] (endK C13 f103h f103f) G (f103H3 x3_0 x3_1 x3_2) = f103S3   (f103W3 G) x3_0 x3_1 x3_2 := by kernel_rfl
theorem f103W3_ev (n : Nat)  : ∀ m, (f103W3 (lp C13 f103h n Lf (codeOf f103f) [1, 1, 1, 1, 1, 1, 1, 1, 1, 1, 1, 1, 1, 0, 1, 0] [] (endK C13 f103h f103f) m)) = f103L3 n  m := by
  intro m
  induction m with
  | zero => funext x3_0 x3_1 x3_2; exact lp_zero _
  | succ m ih =>
    funext x3_0 x3_1 x3_2
    show lp C13 f103h n Lf (codeOf f103f) [1, 1, 1, 1, 1, 1, 1, 1, 1, 1, 1, 1, 1, 0, 1, 0] [] (endK C13 f103h f103f) (m + 1) (f103H3 x3_0 x3_1 x3_2) = f103S3   (f103L3 n  m) x3_0 x3_1 x3_2
    rw [lp_succ, f103S3_ev, ih]
noncomputable def f103S1 (l2 : f103G2) (l3 : f103G3) (g1 : f103G1) (x1_0 : Int) (x1_1 : Int) (x1_2 : List (List (ByteArray × List (Int × Int × Unit) × Unit))) (x1_3 : List ByteArray) (x1_4 : List (List Int)) (x1_5 : Int) (x1_6 : List Int) (x1_7 : List Int) (x1_8 : List (List (ByteArray × List (Int × Int × Unit) × Unit))) (x1_9 : List ByteArray) (x1_10 : List (List Int)) : Option Lf :=
 bif decide (x1_0 < zn x1_6.length) then
  l2 (x1_0 : Int) (false : Bool) (0 : Int) (x1_1 : Int) (x1_2 : List (List (ByteArray × List (Int × Int × Unit) × Unit))) (x1_3 : List ByteArray) (x1_4 : List (List Int)) (x1_5 : Int) (x1_6 : List Int) (x1_7 : List Int) (x1_8 : List (List (ByteArray × List (Int × Int × Unit) × Unit))) (x1_9 : List ByteArray) (x1_10 : List (List Int))
 else
  bif inb 0 x1_3.length then
   bif inb 1 x1_3.length then
    bif ofMG x1_8 x1_9 x1_10 && m6 [x1_3.getD 0 (⟨#[]⟩ : ByteArray), x1_3.getD 1 (⟨#[]⟩ : ByteArray)].length then
     bif inb 1 x1_3.length then
      bif inb 0 x1_3.length then
       bif ofMG x1_8 x1_9 x1_10 && m6 [x1_3.getD 1 (⟨#[]⟩ : ByteArray), x1_3.getD 0 (⟨#[]⟩ : ByteArray)].length then
        bif !(lettersV x1_5 x1_8 x1_9 x1_10 [x1_3.getD 0 (⟨#[]⟩ : ByteArray), x1_3.getD 1 (⟨#[]⟩ : ByteArray)]).e.isNil || !(lettersV x1_5 x1_8 x1_9 x1_10 [x1_3.getD 1 (⟨#[]⟩ : ByteArray), x1_3.getD 0 (⟨#[]⟩ : ByteArray)]).e.isNil then
         some (Lf.mk [(Pt.one (L.d (Pv.fz true) Sh.b (false : Bool)))] [] [])
        else
         l3 (0 : Int) ((lettersV x1_5 x1_8 x1_9 x1_10 [x1_3.getD 0 (⟨#[]⟩ : ByteArray), x1_3.getD 1 (⟨#[]⟩ : ByteArray)]).l : List Int) ((lettersV x1_5 x1_8 x1_9 x1_10 [x1_3.getD 1 (⟨#[]⟩ : ByteArray), x1_3.getD 0 (⟨#[]⟩ : ByteArray)]).l : List Int)
       else
        none
      else
       none
     else
      none
    else
     none
   else
    none
  else
   none
noncomputable def f103L1 (n : Nat)  : Nat → f103G1
  | 0 => fun _ _ _ _ _ _ _ _ _ _ _ => none
  | m + 1 => fun x1_0 x1_1 x1_2 x1_3 x1_4 x1_5 x1_6 x1_7 x1_8 x1_9 x1_10 => f103S1 (f103L2 n (f103L1 n  m) n) (f103L3 n  n)  (f103L1 n  m) x1_0 x1_1 x1_2 x1_3 x1_4 x1_5 x1_6 x1_7 x1_8 x1_9 x1_10
theorem f103S1_ev (n : Nat)  (G : St → Option Lf) (x1_0 : Int) (x1_1 : Int) (x1_2 : List (List (ByteArray × List (Int × Int × Unit) × Unit))) (x1_3 : List ByteArray) (x1_4 : List (List Int)) (x1_5 : Int) (x1_6 : List Int) (x1_7 : List Int) (x1_8 : List (List (ByteArray × List (Int × Int × Unit) × Unit))) (x1_9 : List ByteArray) (x1_10 : List (List Int)) : rnd C13 f103h n Lf (codeOf f103f) [1, 1, 1, 1, 1, 1, 1, 1, 1, 0, 1, 0] [] (endK C13 f103h f103f) G (f103H1 x1_0 x1_1 x1_2 x1_3 x1_4 x1_5 x1_6 x1_7 x1_8 x1_9 x1_10) = f103S1 (f103W2 (lp C13 f103h n Lf (codeOf f103f) [1, 1, 1, 1, 1, 1, 1, 1, 1, 0, 1, 0, 0, 1, 0, 0, 1, 0, 1, 0] [G] (endK C13 f103h f103f) n)) (f103W3 (lp C13 f103h n Lf (codeOf f103f) [1, 1, 1, 1, 1, 1, 1, 1, 1, 1, 1, 1, 1, 0, 1, 0] [] (endK C13 f103h f103f) n))  (f103W1 G) x1_0 x1_1 x1_2 x1_3 x1_4 x1_5 x1_6 x1_7 x1_8 x1_9 x1_10 := by kernel_rfl
theorem f103W1_ev (n : Nat)  : ∀ m, (f103W1 (lp C13 f103h n Lf (codeOf f103f) [1, 1, 1, 1, 1, 1, 1, 1, 1, 0, 1, 0] [] (endK C13 f103h f103f) m)) = f103L1 n  m := by
  intro m
  induction m with
  | zero => funext x1_0 x1_1 x1_2 x1_3 x1_4 x1_5 x1_6 x1_7 x1_8 x1_9 x1_10; exact lp_zero _
  | succ m ih =>
    have e2 : (f103W2 (lp C13 f103h n Lf (codeOf f103f) [1, 1, 1, 1, 1, 1, 1, 1, 1, 0, 1, 0, 0, 1, 0, 0, 1, 0, 1, 0] [(lp C13 f103h n Lf (codeOf f103f) [1, 1, 1, 1, 1, 1, 1, 1, 1, 0, 1, 0] [] (endK C13 f103h f103f) m)] (endK C13 f103h f103f) n)) = (f103L2 n (f103L1 n  m) n) := by
      rw [f103W2_ev, ih]
    have e3 : (f103W3 (lp C13 f103h n Lf (codeOf f103f) [1, 1, 1, 1, 1, 1, 1, 1, 1, 1, 1, 1, 1, 0, 1, 0] [] (endK C13 f103h f103f) n)) = (f103L3 n  n) := by
      rw [f103W3_ev]
    funext x1_0 x1_1 x1_2 x1_3 x1_4 x1_5 x1_6 x1_7 x1_8 x1_9 x1_10
    show lp C13 f103h n Lf (codeOf f103f) [1, 1, 1, 1, 1, 1, 1, 1, 1, 0, 1, 0] [] (endK C13 f103h f103f) (m + 1) (f103H1 x1_0 x1_1 x1_2 x1_3 x1_4 x1_5 x1_6 x1_7 x1_8 x1_9 x1_10) = f103S1 (f103L2 n (f103L1 n  m) n) (f103L3 n  n)  (f103L1 n  m) x1_0 x1_1 x1_2 x1_3 x1_4 x1_5 x1_6 x1_7 x1_8 x1_9 x1_10
    rw [lp_succ, f103S1_ev, ih, e2, e3]
noncomputable def f103S0 (l1 : f103G1) (g0 : f103G0) (x0_0 : Int) (x0_1 : List (List (ByteArray × List (Int × Int × Unit) × Unit))) (x0_2 : List ByteArray) (x0_3 : List (List Int)) (x0_4 : Int) (x0_5 : Int) (x0_6 : List (List (ByteArray × List (Int × Int × Unit) × Unit))) (x0_7 : List ByteArray) (x0_8 : List (List Int)) (x0_9 : List (List (ByteArray × List (Int × Int × Unit) × Unit))) (x0_10 : List ByteArray) (x0_11 : List (List Int)) : Option Lf :=
 bif ofMG x0_6 x0_7 x0_8 then
  bif ofMG x0_9 x0_10 x0_11 then
   bif Nat.beq 0 0 && (Nat.beq 0 0 && (Nat.beq 0 0 && (mdG x0_9 x0_10 x0_11 && true))) then
    bif !(er1 (mdOk x0_5 x0_9 x0_10 x0_11)).isNil || decide (zn (reachL x0_5 x0_9 x0_10 x0_11).length < zn (reachL x0_4 x0_6 x0_7 x0_8).length) then
     some (Lf.mk [(Pt.one (L.d (Pv.fz true) Sh.b (false : Bool)))] [] [])
    else
     l1 (0 : Int) (x0_0 : Int) (x0_1 : List (List (ByteArray × List (Int × Int × Unit) × Unit))) (x0_2 : List ByteArray) (x0_3 : List (List Int)) (x0_4 : Int) (reachL x0_4 x0_6 x0_7 x0_8 : List Int) (reachL x0_5 x0_9 x0_10 x0_11 : List Int) (x0_6 : List (List (ByteArray × List (Int × Int × Unit) × Unit))) (x0_7 : List ByteArray) (x0_8 : List (List Int))
   else
    none
  else
   none
 else
  none
noncomputable def f103L0 (n : Nat)  : Nat → f103G0
  | 0 => fun _ _ _ _ _ _ _ _ _ _ _ _ => none
  | m + 1 => fun x0_0 x0_1 x0_2 x0_3 x0_4 x0_5 x0_6 x0_7 x0_8 x0_9 x0_10 x0_11 => f103S0 (f103L1 n  n)  (f103L0 n  m) x0_0 x0_1 x0_2 x0_3 x0_4 x0_5 x0_6 x0_7 x0_8 x0_9 x0_10 x0_11
theorem f103S0_ev (n : Nat)  (G : St → Option Lf) (x0_0 : Int) (x0_1 : List (List (ByteArray × List (Int × Int × Unit) × Unit))) (x0_2 : List ByteArray) (x0_3 : List (List Int)) (x0_4 : Int) (x0_5 : Int) (x0_6 : List (List (ByteArray × List (Int × Int × Unit) × Unit))) (x0_7 : List ByteArray) (x0_8 : List (List Int)) (x0_9 : List (List (ByteArray × List (Int × Int × Unit) × Unit))) (x0_10 : List ByteArray) (x0_11 : List (List Int)) : rnd C13 f103h n Lf (codeOf f103f) [1, 1, 1, 1, 1, 1] [] (endK C13 f103h f103f) G (f103H0 x0_0 x0_1 x0_2 x0_3 x0_4 x0_5 x0_6 x0_7 x0_8 x0_9 x0_10 x0_11) = f103S0 (f103W1 (lp C13 f103h n Lf (codeOf f103f) [1, 1, 1, 1, 1, 1, 1, 1, 1, 0, 1, 0] [] (endK C13 f103h f103f) n))  (f103W0 G) x0_0 x0_1 x0_2 x0_3 x0_4 x0_5 x0_6 x0_7 x0_8 x0_9 x0_10 x0_11 := by kernel_rfl
theorem f103W0_ev (n : Nat)  : ∀ m, (f103W0 (lp C13 f103h n Lf (codeOf f103f) [1, 1, 1, 1, 1, 1] [] (endK C13 f103h f103f) m)) = f103L0 n  m := by
  intro m
  induction m with
  | zero => funext x0_0 x0_1 x0_2 x0_3 x0_4 x0_5 x0_6 x0_7 x0_8 x0_9 x0_10 x0_11; exact lp_zero _
  | succ m ih =>
    have e1 : (f103W1 (lp C13 f103h n Lf (codeOf f103f) [1, 1, 1, 1, 1, 1, 1, 1, 1, 0, 1, 0] [] (endK C13 f103h f103f) n)) = (f103L1 n  n) := by
      rw [f103W1_ev]
    funext x0_0 x0_1 x0_2 x0_3 x0_4 x0_5 x0_6 x0_7 x0_8 x0_9 x0_10 x0_11
    show lp C13 f103h n Lf (codeOf f103f) [1, 1, 1, 1, 1, 1] [] (endK C13 f103h f103f) (m + 1) (f103H0 x0_0 x0_1 x0_2 x0_3 x0_4 x0_5 x0_6 x0_7 x0_8 x0_9 x0_10 x0_11) = f103S0 (f103L1 n  n)  (f103L0 n  m) x0_0 x0_1 x0_2 x0_3 x0_4 x0_5 x0_6 x0_7 x0_8 x0_9 x0_10 x0_11
    rw [lp_succ, f103S0_ev, ih, e1]
noncomputable def f103T (l0 : f103G0) (i : Int) (ch : List (List (ByteArray × List (Int × Int × Unit) × Unit))) (nm : List ByteArray) (ho : List (List Int)) (s : Int) (to : List Int) : Option Lf :=
 bif farM ch nm ho || mdG ch nm ho && (!mdOk i ch nm ho || (zn to.length == 0 || (decide (zn to.length > 10) || Nat.beq 1 1 && (decide (zn nm.length < 2) || true)))) then
  bif farM ch nm ho || (!mdOk i ch nm ho || (zn to.length == 0 || (decide (zn to.length > 10) || (decide (zn nm.length < 2) || decide (zn nm.length > 6))))) then
   some (Lf.mk [(Pt.one (L.d (Pv.fz true) Sh.b (true : Bool)))] [] [])
  else
   bif ofMG ch nm ho then
    bif ofMG ch nm ho then
     bif decide (zn ch.length ≠ 0) then
      bif inb ((IntKind.i64.wrap s).tmod (zn ch.length)) ch.length then
       bif inb 0 to.length then
        bif decide (zn ch.length ≠ 0) then
         bif decide (((ch.getD ((IntKind.i64.wrap s).tmod (zn ch.length)).toNat []).length + [((⟨#[]⟩ : ByteArray), [((IntKind.i64.wrap (to.getD 0 0)).tmod (zn ch.length), 3, ())], ())].length) * 40 ≤ 140737488355328) then
          bif inb ((IntKind.i64.wrap s).tmod (zn ch.length)) ch.length then
           bif ((IntKind.i64.wrap s).tmod (zn ch.length)).toNat == ((IntKind.i64.wrap s).tmod (zn ch.length)).toNat then
            l0 (i : Int) (ch : List (List (ByteArray × List (Int × Int × Unit) × Unit))) (nm : List ByteArray) (ho : List (List Int)) (i : Int) (i : Int) (ch : List (List (ByteArray × List (Int × Int × Unit) × Unit))) (nm : List ByteArray) (ho : List (List Int)) (ch.set ((IntKind.i64.wrap s).tmod (zn ch.length)).toNat (ch.getD ((IntKind.i64.wrap s).tmod (zn ch.length)).toNat [] ++ [((⟨#[]⟩ : ByteArray), [((IntKind.i64.wrap (to.getD 0 0)).tmod (zn ch.length), 3, ())], ())]) : List (List (ByteArray × List (Int × Int × Unit) × Unit))) (nm : List ByteArray) (ho : List (List Int))
           else
            none
          else
           none
         else
          none
        else
         none
       else
        none
      else
       none
     else
      none
    else
     none
   else
    none
 else
  none
noncomputable def f103M (n : Nat) (i : Int) (ch : List (List (ByteArray × List (Int × Int × Unit) × Unit))) (nm : List ByteArray) (ho : List (List Int)) (s : Int) (to : List Int) : Option Lf := f103T (f103L0 n n) i ch nm ho s to
theorem f103T_ev (n : Nat) (i : Int) (ch : List (List (ByteArray × List (Int × Int × Unit) × Unit))) (nm : List ByteArray) (ho : List (List Int)) (s : Int) (to : List Int) : evF C13 f103h n f103f [(D.p (Pt.agg [(L.d (Pv.fz true) (Sh.i IntKind.i64) i), (L.d (Pv.fz false) (Sh.l (Sh.l (Sh.p Sh.s (Sh.p (Sh.l (Sh.p (Sh.i IntKind.i64) (Sh.p (Sh.i IntKind.i64) Sh.u))) Sh.u)))) ch), (L.d (Pv.fz false) (Sh.l Sh.s) nm), (L.d (Pv.fz false) (Sh.l (Sh.l (Sh.i IntKind.i64))) ho)])), (D.p (Pt.one (L.d (Pv.fz true) (Sh.i IntKind.u8) s))), (D.p (Pt.one (L.d (Pv.fz false) (Sh.l (Sh.i IntKind.u8)) to)))] [] = f103T (f103W0 (lp C13 f103h n Lf (codeOf f103f) [1, 1, 1, 1, 1, 1] [] (endK C13 f103h f103f) n)) i ch nm ho s to := by kernel_rfl
theorem f103_ev (n : Nat) (i : Int) (ch : List (List (ByteArray × List (Int × Int × Unit) × Unit))) (nm : List ByteArray) (ho : List (List Int)) (s : Int) (to : List Int) : evF C13 f103h n f103f [(D.p (Pt.agg [(L.d (Pv.fz true) (Sh.i IntKind.i64) i), (L.d (Pv.fz false) (Sh.l (Sh.l (Sh.p Sh.s (Sh.p (Sh.l (Sh.p (Sh.i IntKind.i64) (Sh.p (Sh.i IntKind.i64) Sh.u))) Sh.u)))) ch), (L.d (Pv.fz false) (Sh.l Sh.s) nm), (L.d (Pv.fz false) (Sh.l (Sh.l (Sh.i IntKind.i64))) ho)])), (D.p (Pt.one (L.d (Pv.fz true) (Sh.i IntKind.u8) s))), (D.p (Pt.one (L.d (Pv.fz false) (Sh.l (Sh.i IntKind.u8)) to)))] [] = f103M n i ch nm ho s to := by
  rw [f103T_ev, f103W0_ev]
  rfl
end Go.S11
