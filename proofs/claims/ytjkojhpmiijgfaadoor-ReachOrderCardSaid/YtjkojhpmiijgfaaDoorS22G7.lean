/-
  Seat 22: functional forms of laws (g).
-/
import Derived.Test.YtjkojhpmiijgfaaDoorS22P
open Go Go.En Go.S22
namespace Go.S22


abbrev r4h : Hn := h4r
noncomputable abbrev r4f : Func := fn 4
abbrev r4G0 := (List Bool) → Int → Int → (List (List (ByteArray × List (Int × Int × Unit) × Unit))) → (List ByteArray) → (List (List Int)) → (List Bool) → (List Int) → (List Bool) → (List Int) → Option Lf
noncomputable def r4H0 (x0_0 : List Bool) (x0_1 : Int) (x0_2 : Int) (x0_3 : List (List (ByteArray × List (Int × Int × Unit) × Unit))) (x0_4 : List ByteArray) (x0_5 : List (List Int)) (x0_6 : List Bool) (x0_7 : List Int) (x0_8 : List Bool) (x0_9 : List Int) : St := (St.mk [dead, (D.p (Pt.one (L.d (Pv.fz false) (Sh.l Sh.b) x0_0))), (D.p (Pt.one (L.pv (Id.mk 1 0) 0))), dead, dead, dead, (D.p (Pt.one (L.rw (Id.mk 1 1)))), (D.p (Pt.one (L.rw (Id.mk 1 2)))), dead, (D.p (Pt.one (L.rw (Id.mk 1 3)))), (D.p (Pt.one (L.rw (Id.mk 1 4)))), dead, (D.p (Pt.one (L.d (Pv.fz true) (Sh.i IntKind.i64) x0_1))), dead, dead, dead, dead, dead, dead, dead, dead, dead, dead, dead, dead, dead, dead, dead, dead, dead, dead, dead, dead, dead, dead, dead, dead, dead, dead, dead, dead, dead, dead, dead, dead, dead, dead, dead, dead, dead, dead, dead, dead, dead, dead, dead, dead, dead, dead, dead, dead, dead, dead, dead, dead, dead, dead, dead, dead, dead, dead, dead, dead, dead, dead, dead, dead, dead, dead, dead, dead, dead, dead, dead, dead, dead, dead, dead, dead, dead, dead, dead, dead, dead, dead, dead, dead, dead, dead, dead, dead, dead, dead, dead, dead, dead, dead, dead, dead, dead, dead, dead, dead, dead, dead, dead, dead, dead, dead, dead, dead, dead, dead, dead, dead, dead, dead, dead, dead, dead, dead, dead, dead, dead, dead, dead, dead, dead, dead, dead, dead, dead, dead, dead, dead, dead, dead, dead, dead, dead, dead, dead, dead, dead, dead, dead, dead, dead, dead, dead, dead, dead, dead, dead, dead, dead, dead, dead, dead, dead, dead, dead, dead, dead, dead, dead, dead, dead, dead, dead, dead, dead, dead, dead, dead, dead, dead, dead, dead, dead, dead, dead, dead, dead, dead, dead, dead, dead, dead] [[], [(Ob.va [(L.d (Pv.fz true) (Sh.i IntKind.i64) x0_2), (L.d (Pv.fz false) (Sh.l (Sh.l (Sh.p Sh.s (Sh.p (Sh.l (Sh.p (Sh.i IntKind.i64) (Sh.p (Sh.i IntKind.i64) Sh.u))) Sh.u)))) x0_3), (L.d (Pv.fz false) (Sh.l Sh.s) x0_4), (L.d (Pv.fz false) (Sh.l (Sh.l (Sh.i IntKind.i64))) x0_5)]), (Ob.ro true 0 4 Sh.b Ow.z x0_6 Option.none), (Ob.ro true 0 3 (Sh.i IntKind.i64) Ow.z x0_7 Option.none), (Ob.ro true 0 4 Sh.b Ow.z x0_8 Option.none), (Ob.ro true 0 3 (Sh.i IntKind.i64) Ow.z x0_9 Option.none)]])
noncomputable def r4W0 (G : St → Option Lf) : r4G0 := fun x0_0 x0_1 x0_2 x0_3 x0_4 x0_5 x0_6 x0_7 x0_8 x0_9 => G (r4H0 x0_0 x0_1 x0_2 x0_3 x0_4 x0_5 x0_6 x0_7 x0_8 x0_9)
abbrev r4G1 := (List Bool) → Int → (List Bool) → (List Bool) → (List Bool) → (List Bool) → Option Lf
noncomputable def r4H1 (x1_0 : List Bool) (x1_1 : Int) (x1_2 : List Bool) (x1_3 : List Bool) (x1_4 : List Bool) (x1_5 : List Bool) : St := (St.mk [dead, (D.p (Pt.one (L.d (Pv.fz false) (Sh.l Sh.b) x1_0))), dead, dead, dead, dead, (D.p (Pt.one (L.rw (Id.mk 1 0)))), dead, dead, (D.p (Pt.one (L.rw (Id.mk 1 1)))), dead, dead, dead, (D.p (Pt.one (L.rw (Id.mk 1 2)))), dead, dead, (D.p (Pt.one (L.rw (Id.mk 1 3)))), (D.p (Pt.one (L.d (Pv.fz true) (Sh.i IntKind.i64) x1_1))), dead, dead, dead, dead, dead, dead, dead, dead, dead, dead, dead, dead, dead, dead, dead, dead, dead, dead, dead, dead, dead, dead, dead, dead, dead, dead, dead, dead, dead, dead, dead, dead, dead, dead, dead, dead, dead, dead, dead, dead, dead, dead, dead, dead, dead, dead, dead, dead, dead, dead, dead, dead, dead, dead, dead, dead, dead, dead, dead, dead, dead, dead, dead, dead, dead, dead, dead, dead, dead, dead, dead, dead, dead, dead, dead, dead, dead, dead, dead, dead, dead, dead, dead, dead, dead, dead, dead, dead, dead, dead, dead, dead, dead, dead, dead, dead, dead, dead, dead, dead, dead, dead, dead, dead, dead, dead, dead, dead, dead, dead, dead, dead, dead, dead, dead, dead, dead, dead, dead, dead, dead, dead, dead, dead, dead, dead, dead, dead, dead, dead, dead, dead, dead, dead, dead, dead, dead, dead, dead, dead, dead, dead, dead, dead, dead, dead, dead, dead, dead, dead, dead, dead, dead, dead, dead, dead, dead, dead, dead, dead, dead, dead, dead, dead, dead, dead, dead, dead, dead, dead, dead, dead, dead, dead, dead, dead, dead, dead, dead, dead, dead] [[], [(Ob.ro true 0 4 Sh.b Ow.z x1_2 Option.none), (Ob.ro true 0 4 Sh.b Ow.z x1_3 Option.none), (Ob.ro true 0 4 Sh.b Ow.z x1_4 Option.none), (Ob.ro true 0 4 Sh.b Ow.z x1_5 Option.none)]])
noncomputable def r4W1 (G : St → Option Lf) : r4G1 := fun x1_0 x1_1 x1_2 x1_3 x1_4 x1_5 => G (r4H1 x1_0 x1_1 x1_2 x1_3 x1_4 x1_5)
noncomputable def r4S1  (g1 : r4G1) (x1_0 : List Bool) (x1_1 : Int) (x1_2 : List Bool) (x1_3 : List Bool) (x1_4 : List Bool) (x1_5 : List Bool) : Option Lf :=
 bif decide (x1_1 < zn x1_0.length) then
  bif Nat.beq 1 1 && (inb x1_1 x1_2.length && (Nat.beq 1 1 && bif x1_2.getD x1_1.toNat false then Nat.beq 1 1 && (inb x1_1 x1_4.length && (Nat.beq 1 1 && (!x1_4.getD x1_1.toNat false || Nat.beq 1 1 && (inb x1_1 x1_3.length && (Nat.beq 1 1 && bif x1_3.getD x1_1.toNat false then Nat.beq 1 1 && (inb x1_1 x1_5.length && true) else true))))) else Nat.beq 1 1 && (inb x1_1 x1_3.length && (Nat.beq 1 1 && bif x1_3.getD x1_1.toNat false then Nat.beq 1 1 && (inb x1_1 x1_5.length && true) else true)))) then
   bif bif x1_2.getD x1_1.toNat false then !x1_4.getD x1_1.toNat false || x1_3.getD x1_1.toNat false && !x1_5.getD x1_1.toNat false else x1_3.getD x1_1.toNat false && !x1_5.getD x1_1.toNat false then
    some (Lf.mk [(Pt.one (L.d (Pv.fz true) Sh.b (false : Bool)))] [] [])
   else
    g1 (x1_0 : List Bool) (IntKind.i64.wrap (x1_1 + 1) : Int) (x1_2 : List Bool) (x1_3 : List Bool) (x1_4 : List Bool) (x1_5 : List Bool)
  else
   none
 else
  some (Lf.mk [(Pt.one (L.d (Pv.fz true) Sh.b (true : Bool)))] [] [])
noncomputable def r4L1 (n : Nat)  : Nat → r4G1
  | 0 => fun _ _ _ _ _ _ => none
  | m + 1 => fun x1_0 x1_1 x1_2 x1_3 x1_4 x1_5 => r4S1   (r4L1 n  m) x1_0 x1_1 x1_2 x1_3 x1_4 x1_5
theorem r4S1_ev (n : Nat)  (G : St → Option Lf) (x1_0 : List Bool) (x1_1 : Int) (x1_2 : List Bool) (x1_3 : List Bool) (x1_4 : List Bool) (x1_5 : List Bool) : rnd C22 r4h n Lf (codeOf r4f) [1, 1, 1, 1, 1, 1, 1, 1, 1, 1, 0, 1, 0] [] (endK C22 r4h r4f) G (r4H1 x1_0 x1_1 x1_2 x1_3 x1_4 x1_5) = r4S1   (r4W1 G) x1_0 x1_1 x1_2 x1_3 x1_4 x1_5 := by kernel_rfl
theorem r4W1_ev (n : Nat)  : ∀ m, (r4W1 (lp C22 r4h n Lf (codeOf r4f) [1, 1, 1, 1, 1, 1, 1, 1, 1, 1, 0, 1, 0] [] (endK C22 r4h r4f) m)) = r4L1 n  m := by
  intro m
  induction m with
  | zero => funext x1_0 x1_1 x1_2 x1_3 x1_4 x1_5; exact lp_zero _
  | succ m ih =>
    funext x1_0 x1_1 x1_2 x1_3 x1_4 x1_5
    show lp C22 r4h n Lf (codeOf r4f) [1, 1, 1, 1, 1, 1, 1, 1, 1, 1, 0, 1, 0] [] (endK C22 r4h r4f) (m + 1) (r4H1 x1_0 x1_1 x1_2 x1_3 x1_4 x1_5) = r4S1   (r4L1 n  m) x1_0 x1_1 x1_2 x1_3 x1_4 x1_5
    rw [lp_succ, r4S1_ev, ih]
noncomputable def r4S0 (l1 : r4G1) (g0 : r4G0) (x0_0 : List Bool) (x0_1 : Int) (x0_2 : Int) (x0_3 : List (List (ByteArray × List (Int × Int × Unit) × Unit))) (x0_4 : List ByteArray) (x0_5 : List (List Int)) (x0_6 : List Bool) (x0_7 : List Int) (x0_8 : List Bool) (x0_9 : List Int) : Option Lf :=
 bif decide (x0_1 < zn x0_0.length) then
  bif Nat.beq 1 1 && (inb x0_1 x0_7.length && (Nat.beq 1 1 && (decide (x0_7.getD x0_1.toNat 0 < 0) || Nat.beq 1 1 && (inb x0_1 x0_7.length && (Nat.beq 1 1 && (Nat.beq 1 1 && (Nat.beq 1 1 && (inb x0_1 x0_3.length && (Nat.beq 1 1 && (decide (x0_7.getD x0_1.toNat 0 ≥ zn (x0_3.getD x0_1.toNat []).length) || Nat.beq 1 1 && (inb x0_1 x0_9.length && (Nat.beq 1 1 && (decide (x0_9.getD x0_1.toNat 0 < 0) || Nat.beq 1 1 && (inb x0_1 x0_9.length && (Nat.beq 1 1 && (Nat.beq 1 1 && (Nat.beq 1 1 && (inb x0_1 x0_3.length && (Nat.beq 1 1 && (decide (x0_9.getD x0_1.toNat 0 ≥ zn (x0_3.getD x0_1.toNat []).length) || Nat.beq 1 1 && (inb x0_1 x0_0.length && (Nat.beq 1 1 && bif x0_0.getD x0_1.toNat false then Nat.beq 1 1 && (inb x0_1 x0_7.length && (Nat.beq 1 1 && (x0_7.getD x0_1.toNat 0 != 0 || Nat.beq 1 1 && (inb x0_1 x0_0.length && (Nat.beq 1 1 && bif x0_0.getD x0_1.toNat false then Nat.beq 1 1 && (inb x0_1 x0_9.length && true) else Nat.beq 1 1 && (inb x0_1 x0_8.length && (Nat.beq 1 1 && bif !x0_8.getD x0_1.toNat false then Nat.beq 1 1 && (inb x0_1 x0_9.length && true) else true))))))) else Nat.beq 1 1 && (inb x0_1 x0_6.length && (Nat.beq 1 1 && bif !x0_6.getD x0_1.toNat false then Nat.beq 1 1 && (inb x0_1 x0_7.length && (Nat.beq 1 1 && (x0_7.getD x0_1.toNat 0 != 0 || Nat.beq 1 1 && (inb x0_1 x0_0.length && (Nat.beq 1 1 && bif x0_0.getD x0_1.toNat false then Nat.beq 1 1 && (inb x0_1 x0_9.length && true) else Nat.beq 1 1 && (inb x0_1 x0_8.length && (Nat.beq 1 1 && bif !x0_8.getD x0_1.toNat false then Nat.beq 1 1 && (inb x0_1 x0_9.length && true) else true))))))) else Nat.beq 1 1 && (inb x0_1 x0_0.length && (Nat.beq 1 1 && bif x0_0.getD x0_1.toNat false then Nat.beq 1 1 && (inb x0_1 x0_9.length && true) else Nat.beq 1 1 && (inb x0_1 x0_8.length && (Nat.beq 1 1 && bif !x0_8.getD x0_1.toNat false then Nat.beq 1 1 && (inb x0_1 x0_9.length && true) else true)))))))))))))))))))))))))))) then
   bif decide (x0_7.getD x0_1.toNat 0 < 0) || (decide (x0_7.getD x0_1.toNat 0 ≥ zn (x0_3.getD x0_1.toNat []).length) || (decide (x0_9.getD x0_1.toNat 0 < 0) || (decide (x0_9.getD x0_1.toNat 0 ≥ zn (x0_3.getD x0_1.toNat []).length) || bif x0_0.getD x0_1.toNat false then x0_7.getD x0_1.toNat 0 != 0 || bif x0_0.getD x0_1.toNat false then x0_9.getD x0_1.toNat 0 != 0 else !x0_8.getD x0_1.toNat false && x0_9.getD x0_1.toNat 0 != 0 else bif !x0_6.getD x0_1.toNat false then x0_7.getD x0_1.toNat 0 != 0 || bif x0_0.getD x0_1.toNat false then x0_9.getD x0_1.toNat 0 != 0 else !x0_8.getD x0_1.toNat false && x0_9.getD x0_1.toNat 0 != 0 else bif x0_0.getD x0_1.toNat false then x0_9.getD x0_1.toNat 0 != 0 else !x0_8.getD x0_1.toNat false && x0_9.getD x0_1.toNat 0 != 0))) then
    some (Lf.mk [(Pt.one (L.d (Pv.fz true) Sh.b (false : Bool)))] [] [])
   else
    g0 (x0_0 : List Bool) (IntKind.i64.wrap (x0_1 + 1) : Int) (x0_2 : Int) (x0_3 : List (List (ByteArray × List (Int × Int × Unit) × Unit))) (x0_4 : List ByteArray) (x0_5 : List (List Int)) (x0_6 : List Bool) (x0_7 : List Int) (x0_8 : List Bool) (x0_9 : List Int)
  else
   none
 else
  bif comeG x0_3 x0_4 x0_5 x0_0 x0_7 then
   bif comeG x0_3 x0_4 x0_5 x0_0 x0_9 then
    l1 (x0_0 : List Bool) (0 : Int) (x0_6 : List Bool) (x0_8 : List Bool) (mayP x0_3 x0_0 x0_7 : List Bool) (sureP x0_3 x0_0 x0_9 : List Bool)
   else
    none
  else
   none
noncomputable def r4L0 (n : Nat)  : Nat → r4G0
  | 0 => fun _ _ _ _ _ _ _ _ _ _ => none
  | m + 1 => fun x0_0 x0_1 x0_2 x0_3 x0_4 x0_5 x0_6 x0_7 x0_8 x0_9 => r4S0 (r4L1 n  n)  (r4L0 n  m) x0_0 x0_1 x0_2 x0_3 x0_4 x0_5 x0_6 x0_7 x0_8 x0_9
theorem r4S0_ev (n : Nat)  (G : St → Option Lf) (x0_0 : List Bool) (x0_1 : Int) (x0_2 : Int) (x0_3 : List (List (ByteArray × List (Int × Int × Unit) × Unit))) (x0_4 : List ByteArray) (x0_5 : List (List Int)) (x0_6 : List Bool) (x0_7 : List Int) (x0_8 : List Bool) (x0_9 : List Int) : rnd C22 r4h n Lf (codeOf r4f) [1, 1, 1, 1, 1, 1, 1, 0, 1, 0] [] (endK C22 r4h r4f) G (r4H0 x0_0 x0_1 x0_2 x0_3 x0_4 x0_5 x0_6 x0_7 x0_8 x0_9) = r4S0 (r4W1 (lp C22 r4h n Lf (codeOf r4f) [1, 1, 1, 1, 1, 1, 1, 1, 1, 1, 0, 1, 0] [] (endK C22 r4h r4f) n))  (r4W0 G) x0_0 x0_1 x0_2 x0_3 x0_4 x0_5 x0_6 x0_7 x0_8 x0_9 := by kernel_rfl
theorem r4W0_ev (n : Nat)  : ∀ m, (r4W0 (lp C22 r4h n Lf (codeOf r4f) [1, 1, 1, 1, 1, 1, 1, 0, 1, 0] [] (endK C22 r4h r4f) m)) = r4L0 n  m := by
  intro m
  induction m with
  | zero => funext x0_0 x0_1 x0_2 x0_3 x0_4 x0_5 x0_6 x0_7 x0_8 x0_9; exact lp_zero _
  | succ m ih =>
    have e1 : (r4W1 (lp C22 r4h n Lf (codeOf r4f) [1, 1, 1, 1, 1, 1, 1, 1, 1, 1, 0, 1, 0] [] (endK C22 r4h r4f) n)) = (r4L1 n  n) := by
      rw [r4W1_ev]
    funext x0_0 x0_1 x0_2 x0_3 x0_4 x0_5 x0_6 x0_7 x0_8 x0_9
    show lp C22 r4h n Lf (codeOf r4f) [1, 1, 1, 1, 1, 1, 1, 0, 1, 0] [] (endK C22 r4h r4f) (m + 1) (r4H0 x0_0 x0_1 x0_2 x0_3 x0_4 x0_5 x0_6 x0_7 x0_8 x0_9) = r4S0 (r4L1 n  n)  (r4L0 n  m) x0_0 x0_1 x0_2 x0_3 x0_4 x0_5 x0_6 x0_7 x0_8 x0_9
    rw [lp_succ, r4S0_ev, ih, e1]
noncomputable def r4T (l0 : r4G0) (i : Int) (ch : List (List (ByteArray × List (Int × Int × Unit) × Unit))) (nm : List ByteArray) (ho : List (List Int)) (set : List Bool) : Option Lf :=
 bif farM ch nm ho || mdG ch nm ho && (!mdOk i ch nm ho || true) then
  bif farM ch nm ho || (!mdOk i ch nm ho || zn set.length != zn ch.length) then
   some (Lf.mk [(Pt.one (L.d (Pv.fz true) Sh.b (true : Bool)))] [] [])
  else
   bif ofMG ch nm ho then
    bif ofMG ch nm ho then
     bif ofMG ch nm ho then
      bif !(mayV i ch nm ho set).snd.snd.isNil || (!(sureV i ch nm ho set).snd.snd.isNil || (zn (mayV i ch nm ho set).snd.fst.length != zn set.length || zn (sureV i ch nm ho set).snd.fst.length != zn set.length)) then
       some (Lf.mk [(Pt.one (L.d (Pv.fz true) Sh.b (false : Bool)))] [] [])
      else
       l0 (set : List Bool) (0 : Int) (i : Int) (ch : List (List (ByteArray × List (Int × Int × Unit) × Unit))) (nm : List ByteArray) (ho : List (List Int)) ((mayV i ch nm ho set).fst : List Bool) ((mayV i ch nm ho set).snd.fst : List Int) ((sureV i ch nm ho set).fst : List Bool) ((sureV i ch nm ho set).snd.fst : List Int)
     else
      none
    else
     none
   else
    none
 else
  none
noncomputable def r4M (n : Nat) (i : Int) (ch : List (List (ByteArray × List (Int × Int × Unit) × Unit))) (nm : List ByteArray) (ho : List (List Int)) (set : List Bool) : Option Lf := r4T (r4L0 n n) i ch nm ho set
theorem r4T_ev (n : Nat) (i : Int) (ch : List (List (ByteArray × List (Int × Int × Unit) × Unit))) (nm : List ByteArray) (ho : List (List Int)) (set : List Bool) : evF C22 r4h n r4f [(D.p (Pt.agg [(L.d (Pv.fz true) (Sh.i IntKind.i64) i), (L.d (Pv.fz false) (Sh.l (Sh.l (Sh.p Sh.s (Sh.p (Sh.l (Sh.p (Sh.i IntKind.i64) (Sh.p (Sh.i IntKind.i64) Sh.u))) Sh.u)))) ch), (L.d (Pv.fz false) (Sh.l Sh.s) nm), (L.d (Pv.fz false) (Sh.l (Sh.l (Sh.i IntKind.i64))) ho)])), (D.p (Pt.one (L.d (Pv.fz false) (Sh.l Sh.b) set)))] [] = r4T (r4W0 (lp C22 r4h n Lf (codeOf r4f) [1, 1, 1, 1, 1, 1, 1, 0, 1, 0] [] (endK C22 r4h r4f) n)) i ch nm ho set := by kernel_rfl
theorem r4_ev (n : Nat) (i : Int) (ch : List (List (ByteArray × List (Int × Int × Unit) × Unit))) (nm : List ByteArray) (ho : List (List Int)) (set : List Bool) : evF C22 r4h n r4f [(D.p (Pt.agg [(L.d (Pv.fz true) (Sh.i IntKind.i64) i), (L.d (Pv.fz false) (Sh.l (Sh.l (Sh.p Sh.s (Sh.p (Sh.l (Sh.p (Sh.i IntKind.i64) (Sh.p (Sh.i IntKind.i64) Sh.u))) Sh.u)))) ch), (L.d (Pv.fz false) (Sh.l Sh.s) nm), (L.d (Pv.fz false) (Sh.l (Sh.l (Sh.i IntKind.i64))) ho)])), (D.p (Pt.one (L.d (Pv.fz false) (Sh.l Sh.b) set)))] [] = r4M n i ch nm ho set := by
  rw [r4T_ev, r4W0_ev]
  rfl
end Go.S22
