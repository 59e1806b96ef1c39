/-
  Seat 22: functional forms of laws (i).
-/
import Derived.Test.YtjkojhpmiijgfaaDoorS22P
open Go Go.En Go.S22
namespace Go.S22


abbrev r7h : Hn := h7r
noncomputable abbrev r7f : Func := fn 7
abbrev r7G0 := (List Bool) → (List Int) → Int → Int → (List (List (ByteArray × List (Int × Int × Unit) × Unit))) → (List ByteArray) → (List (List Int)) → Int → (List Int) → (List (List (ByteArray × List (Int × Int × Unit) × Unit))) → (List ByteArray) → (List (List Int)) → Option Lf
noncomputable def r7H0 (x0_0 : List Bool) (x0_1 : List Int) (x0_2 : Int) (x0_3 : Int) (x0_4 : List (List (ByteArray × List (Int × Int × Unit) × Unit))) (x0_5 : List ByteArray) (x0_6 : List (List Int)) (x0_7 : Int) (x0_8 : List Int) (x0_9 : List (List (ByteArray × List (Int × Int × Unit) × Unit))) (x0_10 : List ByteArray) (x0_11 : List (List Int)) : St := (St.mk [dead, (D.p (Pt.one (L.d (Pv.fz false) (Sh.l Sh.b) x0_0))), (D.p (Pt.one (L.d (Pv.fz false) (Sh.l (Sh.i IntKind.u8)) x0_1))), (D.p (Pt.one (L.pv (Id.mk 1 0) 0))), dead, dead, dead, (D.p (Pt.one (L.pv (Id.mk 1 1) 0))), (D.p (Pt.one (L.rw (Id.mk 1 2)))), (D.p (Pt.one (L.d (Pv.fz true) (Sh.i IntKind.i64) x0_2))), dead, dead, dead, dead, dead, dead, dead, dead, dead, dead, dead, dead, dead, dead, dead, dead, dead, dead, dead, dead, dead, dead, dead, dead, dead, dead, dead, dead, dead, dead, dead, dead, dead, dead, dead, dead, dead, dead, dead, dead, dead, dead, dead, dead, dead, dead, dead, dead, dead, dead, dead, dead, dead, dead, dead, dead, dead, dead, dead, dead, dead, dead, dead, dead, dead, dead, dead, dead, dead, dead, dead, dead, dead, dead, dead, dead, dead, dead, dead, dead, dead, dead, dead, dead, dead, dead, dead, dead, dead, dead, dead, dead, dead, dead, dead, dead, dead, dead, dead, dead, dead, dead, dead, dead, dead, dead, dead, dead, dead, dead, dead, dead, dead, dead, dead, dead, dead, dead, dead, dead, dead, dead, dead, dead, dead, dead, dead, dead, dead, dead, dead, dead, dead, dead, dead, dead, dead, dead, dead, dead, dead, dead, dead, dead, dead, dead, dead, dead, dead, dead, dead, dead, dead, dead, dead, dead, dead, dead, dead, dead, dead, dead, dead, dead, dead] [[], [(Ob.va [(L.d (Pv.fz true) (Sh.i IntKind.i64) x0_3), (L.d (Pv.fz false) (Sh.l (Sh.l (Sh.p Sh.s (Sh.p (Sh.l (Sh.p (Sh.i IntKind.i64) (Sh.p (Sh.i IntKind.i64) Sh.u))) Sh.u)))) x0_4), (L.d (Pv.fz false) (Sh.l Sh.s) x0_5), (L.d (Pv.fz false) (Sh.l (Sh.l (Sh.i IntKind.i64))) x0_6)]), (Ob.va [(L.d (Pv.fz true) (Sh.i IntKind.i64) x0_7), (L.rw (Id.mk 1 3)), (L.rw (Id.mk 1 4)), (L.rw (Id.mk 1 5))]), (Ob.ro true 0 3 (Sh.i IntKind.i64) Ow.z x0_8 Option.none), (Ob.ro true 0 51 (Sh.l (Sh.p Sh.s (Sh.p (Sh.l (Sh.p (Sh.i IntKind.i64) (Sh.p (Sh.i IntKind.i64) Sh.u))) Sh.u))) (Ow.l 56 (Ow.p Ow.z (Ow.p (Ow.l 53 Ow.z) Ow.z))) x0_9 Option.none), (Ob.ro true 0 9 Sh.s Ow.z x0_10 Option.none), (Ob.ro true 0 34 (Sh.l (Sh.i IntKind.i64)) (Ow.l 3 Ow.z) x0_11 Option.none)]])
noncomputable def r7W0 (G : St → Option Lf) : r7G0 := fun x0_0 x0_1 x0_2 x0_3 x0_4 x0_5 x0_6 x0_7 x0_8 x0_9 x0_10 x0_11 => G (r7H0 x0_0 x0_1 x0_2 x0_3 x0_4 x0_5 x0_6 x0_7 x0_8 x0_9 x0_10 x0_11)
abbrev r7G1 := (List Bool) → Int → (List Bool) → (List Bool) → (List Bool) → (List Bool) → (List Bool) → (List Bool) → Option Lf
noncomputable def r7H1 (x1_0 : List Bool) (x1_1 : Int) (x1_2 : List Bool) (x1_3 : List Bool) (x1_4 : List Bool) (x1_5 : List Bool) (x1_6 : List Bool) (x1_7 : List Bool) : St := (St.mk [dead, (D.p (Pt.one (L.d (Pv.fz false) (Sh.l Sh.b) x1_0))), dead, dead, dead, dead, dead, dead, dead, dead, (D.p (Pt.one (L.rw (Id.mk 1 0)))), (D.p (Pt.one (L.rw (Id.mk 1 1)))), (D.p (Pt.one (L.rw (Id.mk 1 2)))), dead, dead, (D.p (Pt.one (L.rw (Id.mk 1 3)))), dead, dead, (D.p (Pt.one (L.rw (Id.mk 1 4)))), dead, (D.p (Pt.one (L.rw (Id.mk 1 5)))), dead, (D.p (Pt.one (L.d (Pv.fz true) (Sh.i IntKind.i64) x1_1))), dead, dead, dead, dead, dead, dead, dead, dead, dead, dead, dead, dead, dead, dead, dead, dead, dead, dead, dead, dead, dead, dead, dead, dead, dead, dead, dead, dead, dead, dead, dead, dead, dead, dead, dead, dead, dead, dead, dead, dead, dead, dead, dead, dead, dead, dead, dead, dead, dead, dead, dead, dead, dead, dead, dead, dead, dead, dead, dead, dead, dead, dead, dead, dead, dead, dead, dead, dead, dead, dead, dead, dead, dead, dead, dead, dead, dead, dead, dead, dead, dead, dead, dead, dead, dead, dead, dead, dead, dead, dead, dead, dead, dead, dead, dead, dead, dead, dead, dead, dead, dead, dead, dead, dead, dead, dead, dead, dead, dead, dead, dead, dead, dead, dead, dead, dead, dead, dead, dead, dead, dead, dead, dead, dead, dead, dead, dead, dead, dead, dead, dead, dead, dead, dead, dead, dead, dead, dead, dead, dead, dead, dead, dead, dead, dead, dead, dead, dead, dead, dead, dead, dead] [[], [(Ob.ro true 0 4 Sh.b Ow.z x1_2 Option.none), (Ob.ro true 0 4 Sh.b Ow.z x1_3 Option.none), (Ob.ro true 0 4 Sh.b Ow.z x1_4 Option.none), (Ob.ro true 0 4 Sh.b Ow.z x1_5 Option.none), (Ob.ro true 0 4 Sh.b Ow.z x1_6 Option.none), (Ob.ro true 0 4 Sh.b Ow.z x1_7 Option.none)]])
noncomputable def r7W1 (G : St → Option Lf) : r7G1 := fun x1_0 x1_1 x1_2 x1_3 x1_4 x1_5 x1_6 x1_7 => G (r7H1 x1_0 x1_1 x1_2 x1_3 x1_4 x1_5 x1_6 x1_7)
noncomputable def r7S1  (g1 : r7G1) (x1_0 : List Bool) (x1_1 : Int) (x1_2 : List Bool) (x1_3 : List Bool) (x1_4 : List Bool) (x1_5 : List Bool) (x1_6 : List Bool) (x1_7 : List Bool) : Option Lf :=
 bif decide (x1_1 < zn x1_0.length) then
  bif Nat.beq 1 1 && (inb x1_1 x1_2.length && (Nat.beq 1 1 && bif x1_2.getD x1_1.toNat false then Nat.beq 1 1 && (inb x1_1 x1_4.length && (Nat.beq 1 1 && (!x1_4.getD x1_1.toNat false || Nat.beq 1 1 && (inb x1_1 x1_3.length && (Nat.beq 1 1 && bif x1_3.getD x1_1.toNat false then Nat.beq 1 1 && (inb x1_1 x1_5.length && (Nat.beq 1 1 && (!x1_5.getD x1_1.toNat false || Nat.beq 1 1 && (inb x1_1 x1_6.length && (Nat.beq 1 1 && bif x1_6.getD x1_1.toNat false then Nat.beq 1 1 && (inb x1_1 x1_2.length && (Nat.beq 1 1 && (!x1_2.getD x1_1.toNat false || Nat.beq 1 1 && (inb x1_1 x1_7.length && (Nat.beq 1 1 && bif x1_7.getD x1_1.toNat false then Nat.beq 1 1 && (inb x1_1 x1_3.length && true) else true))))) else Nat.beq 1 1 && (inb x1_1 x1_7.length && (Nat.beq 1 1 && bif x1_7.getD x1_1.toNat false then Nat.beq 1 1 && (inb x1_1 x1_3.length && true) else true))))))) else Nat.beq 1 1 && (inb x1_1 x1_6.length && (Nat.beq 1 1 && bif x1_6.getD x1_1.toNat false then Nat.beq 1 1 && (inb x1_1 x1_2.length && (Nat.beq 1 1 && (!x1_2.getD x1_1.toNat false || Nat.beq 1 1 && (inb x1_1 x1_7.length && (Nat.beq 1 1 && bif x1_7.getD x1_1.toNat false then Nat.beq 1 1 && (inb x1_1 x1_3.length && true) else true))))) else Nat.beq 1 1 && (inb x1_1 x1_7.length && (Nat.beq 1 1 && bif x1_7.getD x1_1.toNat false then Nat.beq 1 1 && (inb x1_1 x1_3.length && true) else true))))))))) else Nat.beq 1 1 && (inb x1_1 x1_3.length && (Nat.beq 1 1 && bif x1_3.getD x1_1.toNat false then Nat.beq 1 1 && (inb x1_1 x1_5.length && (Nat.beq 1 1 && (!x1_5.getD x1_1.toNat false || Nat.beq 1 1 && (inb x1_1 x1_6.length && (Nat.beq 1 1 && bif x1_6.getD x1_1.toNat false then Nat.beq 1 1 && (inb x1_1 x1_2.length && (Nat.beq 1 1 && (!x1_2.getD x1_1.toNat false || Nat.beq 1 1 && (inb x1_1 x1_7.length && (Nat.beq 1 1 && bif x1_7.getD x1_1.toNat false then Nat.beq 1 1 && (inb x1_1 x1_3.length && true) else true))))) else Nat.beq 1 1 && (inb x1_1 x1_7.length && (Nat.beq 1 1 && bif x1_7.getD x1_1.toNat false then Nat.beq 1 1 && (inb x1_1 x1_3.length && true) else true))))))) else Nat.beq 1 1 && (inb x1_1 x1_6.length && (Nat.beq 1 1 && bif x1_6.getD x1_1.toNat false then Nat.beq 1 1 && (inb x1_1 x1_2.length && (Nat.beq 1 1 && (!x1_2.getD x1_1.toNat false || Nat.beq 1 1 && (inb x1_1 x1_7.length && (Nat.beq 1 1 && bif x1_7.getD x1_1.toNat false then Nat.beq 1 1 && (inb x1_1 x1_3.length && true) else true))))) else Nat.beq 1 1 && (inb x1_1 x1_7.length && (Nat.beq 1 1 && bif x1_7.getD x1_1.toNat false then Nat.beq 1 1 && (inb x1_1 x1_3.length && true) else true)))))))) then
   bif bif x1_2.getD x1_1.toNat false then !x1_4.getD x1_1.toNat false || bif x1_3.getD x1_1.toNat false then !x1_5.getD x1_1.toNat false || bif x1_6.getD x1_1.toNat false then !x1_2.getD x1_1.toNat false || x1_7.getD x1_1.toNat false && !x1_3.getD x1_1.toNat false else x1_7.getD x1_1.toNat false && !x1_3.getD x1_1.toNat false else bif x1_6.getD x1_1.toNat false then !x1_2.getD x1_1.toNat false || x1_7.getD x1_1.toNat false && !x1_3.getD x1_1.toNat false else x1_7.getD x1_1.toNat false && !x1_3.getD x1_1.toNat false else bif x1_3.getD x1_1.toNat false then !x1_5.getD x1_1.toNat false || bif x1_6.getD x1_1.toNat false then !x1_2.getD x1_1.toNat false || x1_7.getD x1_1.toNat false && !x1_3.getD x1_1.toNat false else x1_7.getD x1_1.toNat false && !x1_3.getD x1_1.toNat false else bif x1_6.getD x1_1.toNat false then !x1_2.getD x1_1.toNat false || x1_7.getD x1_1.toNat false && !x1_3.getD x1_1.toNat false else x1_7.getD x1_1.toNat false && !x1_3.getD x1_1.toNat false then
    some (Lf.mk [(Pt.one (L.d (Pv.fz true) Sh.b (false : Bool)))] [] [])
   else
    g1 (x1_0 : List Bool) (IntKind.i64.wrap (x1_1 + 1) : Int) (x1_2 : List Bool) (x1_3 : List Bool) (x1_4 : List Bool) (x1_5 : List Bool) (x1_6 : List Bool) (x1_7 : List Bool)
  else
   none
 else
  some (Lf.mk [(Pt.one (L.d (Pv.fz true) Sh.b (true : Bool)))] [] [])
noncomputable def r7L1 (n : Nat)  : Nat → r7G1
  | 0 => fun _ _ _ _ _ _ _ _ => none
  | m + 1 => fun x1_0 x1_1 x1_2 x1_3 x1_4 x1_5 x1_6 x1_7 => r7S1   (r7L1 n  m) x1_0 x1_1 x1_2 x1_3 x1_4 x1_5 x1_6 x1_7
theorem r7S1_ev (n : Nat)  (G : St → Option Lf) (x1_0 : List Bool) (x1_1 : Int) (x1_2 : List Bool) (x1_3 : List Bool) (x1_4 : List Bool) (x1_5 : List Bool) (x1_6 : List Bool) (x1_7 : List Bool) : rnd C22 r7h n Lf (codeOf r7f) [1, 1, 1, 1, 1, 1, 1, 1, 1, 1, 1, 1, 0, 1, 0] [] (endK C22 r7h r7f) G (r7H1 x1_0 x1_1 x1_2 x1_3 x1_4 x1_5 x1_6 x1_7) = r7S1   (r7W1 G) x1_0 x1_1 x1_2 x1_3 x1_4 x1_5 x1_6 x1_7 := by kernel_rfl
theorem r7W1_ev (n : Nat)  : ∀ m, (r7W1 (lp C22 r7h n Lf (codeOf r7f) [1, 1, 1, 1, 1, 1, 1, 1, 1, 1, 1, 1, 0, 1, 0] [] (endK C22 r7h r7f) m)) = r7L1 n  m := by
  intro m
  induction m with
  | zero => funext x1_0 x1_1 x1_2 x1_3 x1_4 x1_5 x1_6 x1_7; exact lp_zero _
  | succ m ih =>
    funext x1_0 x1_1 x1_2 x1_3 x1_4 x1_5 x1_6 x1_7
    show lp C22 r7h n Lf (codeOf r7f) [1, 1, 1, 1, 1, 1, 1, 1, 1, 1, 1, 1, 0, 1, 0] [] (endK C22 r7h r7f) (m + 1) (r7H1 x1_0 x1_1 x1_2 x1_3 x1_4 x1_5 x1_6 x1_7) = r7S1   (r7L1 n  m) x1_0 x1_1 x1_2 x1_3 x1_4 x1_5 x1_6 x1_7
    rw [lp_succ, r7S1_ev, ih]
noncomputable def r7S0 (l1 : r7G1) (g0 : r7G0) (x0_0 : List Bool) (x0_1 : List Int) (x0_2 : Int) (x0_3 : Int) (x0_4 : List (List (ByteArray × List (Int × Int × Unit) × Unit))) (x0_5 : List ByteArray) (x0_6 : List (List Int)) (x0_7 : Int) (x0_8 : List Int) (x0_9 : List (List (ByteArray × List (Int × Int × Unit) × Unit))) (x0_10 : List ByteArray) (x0_11 : List (List Int)) : Option Lf :=
 bif decide (x0_2 < zn x0_8.length) && decide (x0_2 < zn x0_1.length) then
  bif inb x0_2 x0_1.length then
   bif inb x0_2 x0_4.length then
    bif decide (zn (x0_4.getD x0_2.toNat []).length ≠ 0) then
     bif inb x0_2 x0_8.length then
      g0 (x0_0 : List Bool) (x0_1 : List Int) (IntKind.i64.wrap (x0_2 + 1) : Int) (x0_3 : Int) (x0_4 : List (List (ByteArray × List (Int × Int × Unit) × Unit))) (x0_5 : List ByteArray) (x0_6 : List (List Int)) (x0_7 : Int) (x0_8.set x0_2.toNat ((IntKind.i64.wrap (x0_1.getD x0_2.toNat 0)).tmod (zn (x0_4.getD x0_2.toNat []).length)) : List Int) (x0_9 : List (List (ByteArray × List (Int × Int × Unit) × Unit))) (x0_10 : List ByteArray) (x0_11 : List (List Int))
     else
      none
    else
     none
   else
    none
  else
   none
 else
  bif comeG x0_4 x0_5 x0_6 x0_0 x0_8 then
   bif ofMG x0_9 x0_10 x0_11 then
    bif ofMG x0_9 x0_10 x0_11 then
     bif ofMG x0_9 x0_10 x0_11 then
      bif ofMG x0_9 x0_10 x0_11 then
       bif !(mayV x0_7 x0_9 x0_10 x0_11 x0_0).snd.snd.isNil || (!(sureV x0_7 x0_9 x0_10 x0_11 x0_0).snd.snd.isNil || (!(mustMayV x0_7 x0_9 x0_10 x0_11 x0_0).snd.isNil || !(mustSureV x0_7 x0_9 x0_10 x0_11 x0_0).snd.isNil)) then
        some (Lf.mk [(Pt.one (L.d (Pv.fz true) Sh.b (false : Bool)))] [] [])
       else
        l1 (x0_0 : List Bool) (0 : Int) (mayP x0_4 x0_0 x0_8 : List Bool) (sureP x0_4 x0_0 x0_8 : List Bool) ((mayV x0_7 x0_9 x0_10 x0_11 x0_0).fst : List Bool) ((sureV x0_7 x0_9 x0_10 x0_11 x0_0).fst : List Bool) ((mustMayV x0_7 x0_9 x0_10 x0_11 x0_0).fst : List Bool) ((mustSureV x0_7 x0_9 x0_10 x0_11 x0_0).fst : List Bool)
      else
       none
     else
      none
    else
     none
   else
    none
  else
   none
noncomputable def r7L0 (n : Nat)  : Nat → r7G0
  | 0 => fun _ _ _ _ _ _ _ _ _ _ _ _ => none
  | m + 1 => fun x0_0 x0_1 x0_2 x0_3 x0_4 x0_5 x0_6 x0_7 x0_8 x0_9 x0_10 x0_11 => r7S0 (r7L1 n  n)  (r7L0 n  m) x0_0 x0_1 x0_2 x0_3 x0_4 x0_5 x0_6 x0_7 x0_8 x0_9 x0_10 x0_11
theorem r7S0_ev (n : Nat)  (G : St → Option Lf) (x0_0 : List Bool) (x0_1 : List Int) (x0_2 : Int) (x0_3 : Int) (x0_4 : List (List (ByteArray × List (Int × Int × Unit) × Unit))) (x0_5 : List ByteArray) (x0_6 : List (List Int)) (x0_7 : Int) (x0_8 : List Int) (x0_9 : List (List (ByteArray × List (Int × Int × Unit) × Unit))) (x0_10 : List ByteArray) (x0_11 : List (List Int)) : rnd C22 r7h n Lf (codeOf r7f) [1, 1, 1, 1, 1, 0, 1, 0] [] (endK C22 r7h r7f) G (r7H0 x0_0 x0_1 x0_2 x0_3 x0_4 x0_5 x0_6 x0_7 x0_8 x0_9 x0_10 x0_11) = r7S0 (r7W1 (lp C22 r7h n Lf (codeOf r7f) [1, 1, 1, 1, 1, 1, 1, 1, 1, 1, 1, 1, 0, 1, 0] [] (endK C22 r7h r7f) n))  (r7W0 G) x0_0 x0_1 x0_2 x0_3 x0_4 x0_5 x0_6 x0_7 x0_8 x0_9 x0_10 x0_11 := by kernel_rfl
theorem r7W0_ev (n : Nat)  : ∀ m, (r7W0 (lp C22 r7h n Lf (codeOf r7f) [1, 1, 1, 1, 1, 0, 1, 0] [] (endK C22 r7h r7f) m)) = r7L0 n  m := by
  intro m
  induction m with
  | zero => funext x0_0 x0_1 x0_2 x0_3 x0_4 x0_5 x0_6 x0_7 x0_8 x0_9 x0_10 x0_11; exact lp_zero _
  | succ m ih =>
    have e1 : (r7W1 (lp C22 r7h n Lf (codeOf r7f) [1, 1, 1, 1, 1, 1, 1, 1, 1, 1, 1, 1, 0, 1, 0] [] (endK C22 r7h r7f) n)) = (r7L1 n  n) := by
      rw [r7W1_ev]
    funext x0_0 x0_1 x0_2 x0_3 x0_4 x0_5 x0_6 x0_7 x0_8 x0_9 x0_10 x0_11
    show lp C22 r7h n Lf (codeOf r7f) [1, 1, 1, 1, 1, 0, 1, 0] [] (endK C22 r7h r7f) (m + 1) (r7H0 x0_0 x0_1 x0_2 x0_3 x0_4 x0_5 x0_6 x0_7 x0_8 x0_9 x0_10 x0_11) = r7S0 (r7L1 n  n)  (r7L0 n  m) x0_0 x0_1 x0_2 x0_3 x0_4 x0_5 x0_6 x0_7 x0_8 x0_9 x0_10 x0_11
    rw [lp_succ, r7S0_ev, ih, e1]
noncomputable def r7T (l0 : r7G0) (i : Int) (ch : List (List (ByteArray × List (Int × Int × Unit) × Unit))) (nm : List ByteArray) (ho : List (List Int)) (set : List Bool) (picks : List Int) : Option Lf :=
 bif farM ch nm ho || mdG ch nm ho && (!mdOk i ch nm ho || true) then
  bif farM ch nm ho || (!mdOk i ch nm ho || zn set.length != zn ch.length) then
   some (Lf.mk [(Pt.one (L.d (Pv.fz true) Sh.b (true : Bool)))] [] [])
  else
   bif ofMG ch nm ho then
    bif decide (0 ≤ zn set.length) && (decide (zn set.length ≤ zn set.length) && decide (8 * (zn set.length).toNat ≤ 140737488355328)) then
     l0 (set : List Bool) (picks : List Int) (0 : Int) (i : Int) (ch : List (List (ByteArray × List (Int × Int × Unit) × Unit))) (nm : List ByteArray) (ho : List (List Int)) (i : Int) (List.replicate (zn set.length).toNat 0 : List Int) (ch : List (List (ByteArray × List (Int × Int × Unit) × Unit))) (nm : List ByteArray) (ho : List (List Int))
    else
     none
   else
    none
 else
  none
noncomputable def r7M (n : Nat) (i : Int) (ch : List (List (ByteArray × List (Int × Int × Unit) × Unit))) (nm : List ByteArray) (ho : List (List Int)) (set : List Bool) (picks : List Int) : Option Lf := r7T (r7L0 n n) i ch nm ho set picks
theorem r7T_ev (n : Nat) (i : Int) (ch : List (List (ByteArray × List (Int × Int × Unit) × Unit))) (nm : List ByteArray) (ho : List (List Int)) (set : List Bool) (picks : List Int) : evF C22 r7h n r7f [(D.p (Pt.agg [(L.d (Pv.fz true) (Sh.i IntKind.i64) i), (L.d (Pv.fz false) (Sh.l (Sh.l (Sh.p Sh.s (Sh.p (Sh.l (Sh.p (Sh.i IntKind.i64) (Sh.p (Sh.i IntKind.i64) Sh.u))) Sh.u)))) ch), (L.d (Pv.fz false) (Sh.l Sh.s) nm), (L.d (Pv.fz false) (Sh.l (Sh.l (Sh.i IntKind.i64))) ho)])), (D.p (Pt.one (L.d (Pv.fz false) (Sh.l Sh.b) set))), (D.p (Pt.one (L.d (Pv.fz false) (Sh.l (Sh.i IntKind.u8)) picks)))] [] = r7T (r7W0 (lp C22 r7h n Lf (codeOf r7f) [1, 1, 1, 1, 1, 0, 1, 0] [] (endK C22 r7h r7f) n)) i ch nm ho set picks := by kernel_rfl
theorem r7_ev (n : Nat) (i : Int) (ch : List (List (ByteArray × List (Int × Int × Unit) × Unit))) (nm : List ByteArray) (ho : List (List Int)) (set : List Bool) (picks : List Int) : evF C22 r7h n r7f [(D.p (Pt.agg [(L.d (Pv.fz true) (Sh.i IntKind.i64) i), (L.d (Pv.fz false) (Sh.l (Sh.l (Sh.p Sh.s (Sh.p (Sh.l (Sh.p (Sh.i IntKind.i64) (Sh.p (Sh.i IntKind.i64) Sh.u))) Sh.u)))) ch), (L.d (Pv.fz false) (Sh.l Sh.s) nm), (L.d (Pv.fz false) (Sh.l (Sh.l (Sh.i IntKind.i64))) ho)])), (D.p (Pt.one (L.d (Pv.fz false) (Sh.l Sh.b) set))), (D.p (Pt.one (L.d (Pv.fz false) (Sh.l (Sh.i IntKind.u8)) picks)))] [] = r7M n i ch nm ho set picks := by
  rw [r7T_ev, r7W0_ev]
  rfl
end Go.S22
