/-
  Seat 01: functional form of BitsPlays.
-/
import Derived.Test.YtjmpbpggbkkhpaaDoorS01GE
open Go Go.En Go.S1
namespace Go.S1


abbrev f5h : Hn := h5
noncomputable abbrev f5f : Func := fn 5
abbrev f5G0 := Int → (List (Int × Int × Int × List Int × PUnit)) → Int → Int → (List Int) → (List Bool) → Option Lf
noncomputable def f5H0 (x0_0 : Int) (x0_1 : List (Int × Int × Int × List Int × PUnit)) (x0_2 : Int) (x0_3 : Int) (x0_4 : List Int) (x0_5 : List Bool) : St := (St.mk [(D.p (Pt.one (L.d (Pv.fz true) (Sh.i IntKind.i64) x0_0))), dead, (D.p (Pt.one (L.d (Pv.fz false) (Sh.l (Sh.p (Sh.i IntKind.i64) (Sh.p (Sh.i IntKind.i64) (Sh.p (Sh.i IntKind.i64) (Sh.p (Sh.l (Sh.i IntKind.i64)) Sh.u))))) x0_1))), dead, dead, dead, dead, (D.p (Pt.one (L.pv (Id.mk 1 0) 0))), dead, (D.p (Pt.one (L.pv (Id.mk 1 1) 0))), dead, (D.p (Pt.one (L.d (Pv.fz true) (Sh.i IntKind.i64) x0_2))), dead, dead, dead, dead, dead, dead, dead, dead, dead, dead, dead, dead, dead, dead, dead, dead, dead, dead, dead, dead, dead, dead, dead, dead, dead, dead, dead, dead, dead, dead, dead, dead, dead, dead, dead, dead, dead, dead, dead, dead, dead, dead, dead, dead, dead, dead, dead, dead, dead, dead, dead, dead, dead, dead, dead, dead, dead, dead, dead, dead, dead, dead, dead, dead, dead, dead, dead, dead, dead, dead, dead, dead, dead, dead, dead, dead, dead, dead, dead, dead, dead, dead, dead, dead, dead, dead, dead, dead, dead, dead, dead, dead, dead, dead, dead, dead, dead, dead, dead, dead, dead, dead, dead, dead, dead, dead, dead, dead, dead, dead, dead, dead, dead, dead, dead, dead, dead, dead, dead, dead, dead, dead, dead, dead, dead, dead, dead, dead, dead, dead, dead, dead, dead, dead, dead, dead, dead, dead, dead, dead, dead, dead, dead, dead, dead, dead, dead, dead, dead, dead, dead, dead, dead, dead, dead, dead, dead, dead, dead, dead, dead, dead, dead, dead, dead, dead, dead, dead, dead, dead, dead, dead, dead, dead, dead, dead, dead, dead, dead, dead, dead, dead, dead, dead, dead, dead, dead, dead, dead, dead, dead, dead, dead, dead, dead, dead, dead, dead, dead, dead, dead, dead, dead, dead, dead, dead, dead, dead, dead, dead, dead, dead, dead, dead, dead, dead] [[], [(Ob.va [(L.d (Pv.fz true) (Sh.i IntKind.i64) x0_3), (L.rw (Id.mk 1 2))]), (Ob.va [(L.rw (Id.mk 1 3))]), (Ob.ro true 0 60 (Sh.i IntKind.u64) Ow.z x0_4 Option.none), (Ob.ro true 0 4 Sh.b Ow.z x0_5 Option.none)]])
noncomputable def f5W0 (G : St → Option Lf) : f5G0 := fun x0_0 x0_1 x0_2 x0_3 x0_4 x0_5 => G (f5H0 x0_0 x0_1 x0_2 x0_3 x0_4 x0_5)
abbrev f5G1 := Int → (List (Int × Int × Int × List Int × PUnit)) → Int → Bool → Bool → Int → Int → Int → Int → (List Int) → (List Int) → (List Bool) → Option Lf
noncomputable def f5H1 (x1_0 : Int) (x1_1 : List (Int × Int × Int × List Int × PUnit)) (x1_2 : Int) (x1_3 : Bool) (x1_4 : Bool) (x1_5 : Int) (x1_6 : Int) (x1_7 : Int) (x1_8 : Int) (x1_9 : List Int) (x1_10 : List Int) (x1_11 : List Bool) : St := (St.mk [(D.p (Pt.one (L.d (Pv.fz true) (Sh.i IntKind.i64) x1_0))), dead, (D.p (Pt.one (L.d (Pv.fz false) (Sh.l (Sh.p (Sh.i IntKind.i64) (Sh.p (Sh.i IntKind.i64) (Sh.p (Sh.i IntKind.i64) (Sh.p (Sh.l (Sh.i IntKind.i64)) Sh.u))))) x1_1))), dead, dead, dead, dead, (D.p (Pt.one (L.pv (Id.mk 1 0) 0))), dead, (D.p (Pt.one (L.pv (Id.mk 1 1) 0))), dead, (D.p (Pt.one (L.d (Pv.fz true) (Sh.i IntKind.i64) x1_2))), (D.p (Pt.one (L.pv (Id.mk 1 2) 0))), (D.p (Pt.one (L.d (Pv.fz true) Sh.b x1_3))), (D.p (Pt.one (L.d (Pv.fz true) Sh.b x1_4))), dead, dead, dead, dead, dead, dead, dead, dead, dead, dead, dead, dead, dead, dead, dead, dead, dead, dead, dead, dead, dead, dead, dead, dead, dead, dead, dead, dead, dead, dead, dead, dead, dead, dead, dead, dead, dead, dead, dead, dead, dead, dead, dead, dead, dead, dead, dead, dead, dead, dead, dead, dead, dead, dead, dead, dead, dead, dead, dead, dead, dead, dead, dead, dead, dead, dead, dead, dead, dead, dead, dead, dead, dead, dead, dead, dead, dead, dead, dead, dead, dead, dead, dead, dead, dead, dead, dead, dead, dead, dead, dead, dead, dead, dead, dead, dead, dead, dead, dead, dead, dead, dead, dead, dead, dead, dead, dead, dead, dead, dead, dead, dead, dead, dead, dead, dead, dead, dead, dead, dead, dead, dead, dead, dead, dead, dead, dead, dead, dead, dead, dead, dead, dead, dead, dead, dead, dead, dead, dead, dead, dead, dead, dead, dead, dead, dead, dead, dead, dead, dead, dead, dead, dead, dead, dead, dead, dead, dead, dead, dead, dead, dead, dead, dead, dead, dead, dead, dead, dead, dead, dead, dead, dead, dead, dead, dead, dead, dead, dead, dead, dead, dead, dead, dead, dead, dead, dead, dead, dead, dead, dead, dead, dead, dead, dead, dead, dead, dead, dead, dead, dead, dead, dead, dead, dead, dead, dead, dead, dead, dead, dead, dead, dead] [[], [(Ob.va [(L.d (Pv.fz true) (Sh.i IntKind.i64) x1_5), (L.rw (Id.mk 1 3))]), (Ob.va [(L.rw (Id.mk 1 4))]), (Ob.va [(L.d (Pv.fz true) (Sh.i IntKind.i64) x1_6), (L.d (Pv.fz true) (Sh.i IntKind.i64) x1_7), (L.d (Pv.fz true) (Sh.i IntKind.i64) x1_8), (L.d (Pv.fz false) (Sh.l (Sh.i IntKind.i64)) x1_9)]), (Ob.ro true 0 60 (Sh.i IntKind.u64) Ow.z x1_10 Option.none), (Ob.ro true 0 4 Sh.b Ow.z x1_11 Option.none)]])
noncomputable def f5W1 (G : St → Option Lf) : f5G1 := fun x1_0 x1_1 x1_2 x1_3 x1_4 x1_5 x1_6 x1_7 x1_8 x1_9 x1_10 x1_11 => G (f5H1 x1_0 x1_1 x1_2 x1_3 x1_4 x1_5 x1_6 x1_7 x1_8 x1_9 x1_10 x1_11)
noncomputable def f5S1  (g0 : f5G0) (g1 : f5G1) (x1_0 : Int) (x1_1 : List (Int × Int × Int × List Int × PUnit)) (x1_2 : Int) (x1_3 : Bool) (x1_4 : Bool) (x1_5 : Int) (x1_6 : Int) (x1_7 : Int) (x1_8 : Int) (x1_9 : List Int) (x1_10 : List Int) (x1_11 : List Bool) : Option Lf :=
 bif !x1_3 == x1_4 then
  some (Lf.mk [(Pt.one (L.d (Pv.fz true) Sh.b (false : Bool)))] [] [])
 else
  bif okS x1_5 x1_10 then
   bif x1_11.length.ble 4096 then
    bif zn (cnt x1_10) != zn (rItems x1_11).length then
     some (Lf.mk [(Pt.one (L.d (Pv.fz true) Sh.b (false : Bool)))] [] [])
    else
     bif okS x1_5 x1_10 then
      bif x1_11.length.ble 4096 then
       bif !hasF x1_5 x1_10 x1_7 == rHasF x1_11 x1_7 then
        some (Lf.mk [(Pt.one (L.d (Pv.fz true) Sh.b (false : Bool)))] [] [])
       else
        bif x1_5 != x1_0 then
         some (Lf.mk [(Pt.one (L.d (Pv.fz true) Sh.b (false : Bool)))] [] [])
        else
         bif okS x1_5 x1_10 then
          bif x1_11.length.ble 4096 then
           bif (items x1_5 x1_10).length.ble 9223372036854775806 && (rItems x1_11).length.ble 9223372036854775806 then
            bif !sameI (items x1_5 x1_10) (rItems x1_11) then
             some (Lf.mk [(Pt.one (L.d (Pv.fz true) Sh.b (false : Bool)))] [] [])
            else
             g0 (x1_0 : Int) (x1_1 : List (Int × Int × Int × List Int × PUnit)) (IntKind.i64.wrap (x1_2 + 1) : Int) (x1_5 : Int) (x1_10 : List Int) (x1_11 : List Bool)
           else
            none
          else
           none
         else
          none
      else
       none
     else
      none
   else
    none
  else
   none
noncomputable def f5L1 (n : Nat) (g0 : f5G0) : Nat → f5G1
  | 0 => fun _ _ _ _ _ _ _ _ _ _ _ _ => none
  | m + 1 => fun x1_0 x1_1 x1_2 x1_3 x1_4 x1_5 x1_6 x1_7 x1_8 x1_9 x1_10 x1_11 => f5S1  g0 (f5L1 n g0 m) x1_0 x1_1 x1_2 x1_3 x1_4 x1_5 x1_6 x1_7 x1_8 x1_9 x1_10 x1_11
theorem f5S1_ev (n : Nat) (G0 : St → Option Lf) (G : St → Option Lf) (x1_0 : Int) (x1_1 : List (Int × Int × Int × List Int × PUnit)) (x1_2 : Int) (x1_3 : Bool) (x1_4 : Bool) (x1_5 : Int) (x1_6 : Int) (x1_7 : Int) (x1_8 : Int) (x1_9 : List Int) (x1_10 : List Int) (x1_11 : List Bool) : rnd C15 f5h n Lf (codeOf f5f) [1, 1, 1, 1, 1, 1, 1, 0, 1, 0, 0, 1, 0, 0, 1, 1] [G0] (endK C15 f5h f5f) G (f5H1 x1_0 x1_1 x1_2 x1_3 x1_4 x1_5 x1_6 x1_7 x1_8 x1_9 x1_10 x1_11) = f5S1  (f5W0 G0) (f5W1 G) x1_0 x1_1 x1_2 x1_3 x1_4 x1_5 x1_6 x1_7 x1_8 x1_9 x1_10 x1_11 := by kernel_rfl
theorem f5W1_ev (n : Nat) (G0 : St → Option Lf) : ∀ m, (f5W1 (lp C15 f5h n Lf (codeOf f5f) [1, 1, 1, 1, 1, 1, 1, 0, 1, 0, 0, 1, 0, 0, 1, 1] [G0] (endK C15 f5h f5f) m)) = f5L1 n (f5W0 G0) m := by
  intro m
  induction m with
  | zero => funext x1_0 x1_1 x1_2 x1_3 x1_4 x1_5 x1_6 x1_7 x1_8 x1_9 x1_10 x1_11; exact lp_zero _
  | succ m ih =>
    funext x1_0 x1_1 x1_2 x1_3 x1_4 x1_5 x1_6 x1_7 x1_8 x1_9 x1_10 x1_11
    show lp C15 f5h n Lf (codeOf f5f) [1, 1, 1, 1, 1, 1, 1, 0, 1, 0, 0, 1, 0, 0, 1, 1] [G0] (endK C15 f5h f5f) (m + 1) (f5H1 x1_0 x1_1 x1_2 x1_3 x1_4 x1_5 x1_6 x1_7 x1_8 x1_9 x1_10 x1_11) = f5S1  (f5W0 G0) (f5L1 n (f5W0 G0) m) x1_0 x1_1 x1_2 x1_3 x1_4 x1_5 x1_6 x1_7 x1_8 x1_9 x1_10 x1_11
    rw [lp_succ, f5S1_ev, ih]
abbrev f5G2 := Int → (List (Int × Int × Int × List Int × PUnit)) → Int → Bool → Bool → Int → Bool → Int → Bool → Int → Int → Int → Int → Int → (List Int) → (List Int) → (List Bool) → Option Lf
noncomputable def f5H2 (x2_0 : Int) (x2_1 : List (Int × Int × Int × List Int × PUnit)) (x2_2 : Int) (x2_3 : Bool) (x2_4 : Bool) (x2_5 : Int) (x2_6 : Bool) (x2_7 : Int) (x2_8 : Bool) (x2_9 : Int) (x2_10 : Int) (x2_11 : Int) (x2_12 : Int) (x2_13 : Int) (x2_14 : List Int) (x2_15 : List Int) (x2_16 : List Bool) : St := (St.mk [(D.p (Pt.one (L.d (Pv.fz true) (Sh.i IntKind.i64) x2_0))), dead, (D.p (Pt.one (L.d (Pv.fz false) (Sh.l (Sh.p (Sh.i IntKind.i64) (Sh.p (Sh.i IntKind.i64) (Sh.p (Sh.i IntKind.i64) (Sh.p (Sh.l (Sh.i IntKind.i64)) Sh.u))))) x2_1))), dead, dead, dead, dead, (D.p (Pt.one (L.pv (Id.mk 1 0) 0))), dead, (D.p (Pt.one (L.pv (Id.mk 1 1) 0))), dead, (D.p (Pt.one (L.d (Pv.fz true) (Sh.i IntKind.i64) x2_2))), (D.p (Pt.one (L.pv (Id.mk 1 2) 0))), (D.p (Pt.one (L.d (Pv.fz true) Sh.b x2_3))), (D.p (Pt.one (L.d (Pv.fz true) Sh.b x2_4))), dead, dead, dead, dead, (D.p (Pt.one (L.d (Pv.fz true) (Sh.i IntKind.i64) x2_5))), (D.p (Pt.one (L.d (Pv.fz true) Sh.b x2_6))), (D.p (Pt.one (L.d (Pv.fz true) (Sh.i IntKind.i64) x2_7))), (D.p (Pt.one (L.d (Pv.fz true) Sh.b x2_8))), (D.p (Pt.one (L.d (Pv.fz true) (Sh.i IntKind.i64) x2_9))), dead, dead, dead, dead, dead, dead, dead, dead, dead, dead, dead, dead, dead, dead, dead, dead, dead, dead, dead, dead, dead, dead, dead, dead, dead, dead, dead, dead, dead, dead, dead, dead, dead, dead, dead, dead, dead, dead, dead, dead, dead, dead, dead, dead, dead, dead, dead, dead, dead, dead, dead, dead, dead, dead, dead, dead, dead, dead, dead, dead, dead, dead, dead, dead, dead, dead, dead, dead, dead, dead, dead, dead, dead, dead, dead, dead, dead, dead, dead, dead, dead, dead, dead, dead, dead, dead, dead, dead, dead, dead, dead, dead, dead, dead, dead, dead, dead, dead, dead, dead, dead, dead, dead, dead, dead, dead, dead, dead, dead, dead, dead, dead, dead, dead, dead, dead, dead, dead, dead, dead, dead, dead, dead, dead, dead, dead, dead, dead, dead, dead, dead, dead, dead, dead, dead, dead, dead, dead, dead, dead, dead, dead, dead, dead, dead, dead, dead, dead, dead, dead, dead, dead, dead, dead, dead, dead, dead, dead, dead, dead, dead, dead, dead, dead, dead, dead, dead, dead, dead, dead, dead, dead, dead, dead, dead, dead, dead, dead, dead, dead, dead, dead, dead, dead, dead, dead, dead, dead, dead, dead, dead, dead, dead, dead, dead, dead, dead, dead, dead, dead, dead, dead, dead, dead] [[], [(Ob.va [(L.d (Pv.fz true) (Sh.i IntKind.i64) x2_10), (L.rw (Id.mk 1 3))]), (Ob.va [(L.rw (Id.mk 1 4))]), (Ob.va [(L.d (Pv.fz true) (Sh.i IntKind.i64) x2_11), (L.d (Pv.fz true) (Sh.i IntKind.i64) x2_12), (L.d (Pv.fz true) (Sh.i IntKind.i64) x2_13), (L.d (Pv.fz false) (Sh.l (Sh.i IntKind.i64)) x2_14)]), (Ob.ro true 0 60 (Sh.i IntKind.u64) Ow.z x2_15 Option.none), (Ob.ro true 0 4 Sh.b Ow.z x2_16 Option.none)]])
noncomputable def f5W2 (G : St → Option Lf) : f5G2 := fun x2_0 x2_1 x2_2 x2_3 x2_4 x2_5 x2_6 x2_7 x2_8 x2_9 x2_10 x2_11 x2_12 x2_13 x2_14 x2_15 x2_16 => G (f5H2 x2_0 x2_1 x2_2 x2_3 x2_4 x2_5 x2_6 x2_7 x2_8 x2_9 x2_10 x2_11 x2_12 x2_13 x2_14 x2_15 x2_16)
noncomputable def f5S2 (l1 : f5G1) (g0 : f5G0) (g2 : f5G2) (x2_0 : Int) (x2_1 : List (Int × Int × Int × List Int × PUnit)) (x2_2 : Int) (x2_3 : Bool) (x2_4 : Bool) (x2_5 : Int) (x2_6 : Bool) (x2_7 : Int) (x2_8 : Bool) (x2_9 : Int) (x2_10 : Int) (x2_11 : Int) (x2_12 : Int) (x2_13 : Int) (x2_14 : List Int) (x2_15 : List Int) (x2_16 : List Bool) : Option Lf :=
 bif decide (x2_9 < x2_0) && !x2_8 then
  bif Nat.beq 1 1 && bif decide (x2_9 ≥ x2_12) then Nat.beq 0 0 && (x2_16.length.ble 4096 && true) else true then
   bif decide (x2_9 ≥ x2_12) && rHasF x2_16 x2_9 then
    g2 (x2_0 : Int) (x2_1 : List (Int × Int × Int × List Int × PUnit)) (x2_2 : Int) (x2_3 : Bool) (x2_4 : Bool) (x2_5 : Int) (x2_6 : Bool) (x2_9 : Int) (true : Bool) (IntKind.i64.wrap (x2_9 + 1) : Int) (x2_10 : Int) (x2_11 : Int) (x2_12 : Int) (x2_13 : Int) (x2_14 : List Int) (x2_15 : List Int) (x2_16 : List Bool)
   else
    g2 (x2_0 : Int) (x2_1 : List (Int × Int × Int × List Int × PUnit)) (x2_2 : Int) (x2_3 : Bool) (x2_4 : Bool) (x2_5 : Int) (x2_6 : Bool) (x2_7 : Int) (x2_8 : Bool) (IntKind.i64.wrap (x2_9 + 1) : Int) (x2_10 : Int) (x2_11 : Int) (x2_12 : Int) (x2_13 : Int) (x2_14 : List Int) (x2_15 : List Int) (x2_16 : List Bool)
  else
   none
 else
  bif x2_5 != x2_7 || !x2_6 == x2_8 then
   some (Lf.mk [(Pt.one (L.d (Pv.fz true) Sh.b (false : Bool)))] [] [])
  else
   l1 (x2_0 : Int) (x2_1 : List (Int × Int × Int × List Int × PUnit)) (x2_2 : Int) (x2_3 : Bool) (x2_4 : Bool) (x2_10 : Int) (x2_11 : Int) (x2_12 : Int) (x2_13 : Int) (x2_14 : List Int) (x2_15 : List Int) (x2_16 : List Bool)
noncomputable def f5L2 (n : Nat) (g0 : f5G0) : Nat → f5G2
  | 0 => fun _ _ _ _ _ _ _ _ _ _ _ _ _ _ _ _ _ => none
  | m + 1 => fun x2_0 x2_1 x2_2 x2_3 x2_4 x2_5 x2_6 x2_7 x2_8 x2_9 x2_10 x2_11 x2_12 x2_13 x2_14 x2_15 x2_16 => f5S2 (f5L1 n g0 n) g0 (f5L2 n g0 m) x2_0 x2_1 x2_2 x2_3 x2_4 x2_5 x2_6 x2_7 x2_8 x2_9 x2_10 x2_11 x2_12 x2_13 x2_14 x2_15 x2_16
theorem f5S2_ev (n : Nat) (G0 : St → Option Lf) (G : St → Option Lf) (x2_0 : Int) (x2_1 : List (Int × Int × Int × List Int × PUnit)) (x2_2 : Int) (x2_3 : Bool) (x2_4 : Bool) (x2_5 : Int) (x2_6 : Bool) (x2_7 : Int) (x2_8 : Bool) (x2_9 : Int) (x2_10 : Int) (x2_11 : Int) (x2_12 : Int) (x2_13 : Int) (x2_14 : List Int) (x2_15 : List Int) (x2_16 : List Bool) : rnd C15 f5h n Lf (codeOf f5f) [1, 1, 1, 1, 1, 1, 1, 0, 1, 0, 0, 1, 0, 0, 1, 1, 0, 1, 0, 1, 1, 1, 1, 1, 1, 1, 0, 1, 1, 0, 1, 0] [G0] (endK C15 f5h f5f) G (f5H2 x2_0 x2_1 x2_2 x2_3 x2_4 x2_5 x2_6 x2_7 x2_8 x2_9 x2_10 x2_11 x2_12 x2_13 x2_14 x2_15 x2_16) = f5S2 (f5W1 (lp C15 f5h n Lf (codeOf f5f) [1, 1, 1, 1, 1, 1, 1, 0, 1, 0, 0, 1, 0, 0, 1, 1] [G0] (endK C15 f5h f5f) n)) (f5W0 G0) (f5W2 G) x2_0 x2_1 x2_2 x2_3 x2_4 x2_5 x2_6 x2_7 x2_8 x2_9 x2_10 x2_11 x2_12 x2_13 x2_14 x2_15 x2_16 := by kernel_rfl
theorem f5W2_ev (n : Nat) (G0 : St → Option Lf) : ∀ m, (f5W2 (lp C15 f5h n Lf (codeOf f5f) [1, 1, 1, 1, 1, 1, 1, 0, 1, 0, 0, 1, 0, 0, 1, 1, 0, 1, 0, 1, 1, 1, 1, 1, 1, 1, 0, 1, 1, 0, 1, 0] [G0] (endK C15 f5h f5f) m)) = f5L2 n (f5W0 G0) m := by
  intro m
  induction m with
  | zero => funext x2_0 x2_1 x2_2 x2_3 x2_4 x2_5 x2_6 x2_7 x2_8 x2_9 x2_10 x2_11 x2_12 x2_13 x2_14 x2_15 x2_16; exact lp_zero _
  | succ m ih =>
    have e1 : (f5W1 (lp C15 f5h n Lf (codeOf f5f) [1, 1, 1, 1, 1, 1, 1, 0, 1, 0, 0, 1, 0, 0, 1, 1] [G0] (endK C15 f5h f5f) n)) = (f5L1 n (f5W0 G0) n) := by
      rw [f5W1_ev]
    funext x2_0 x2_1 x2_2 x2_3 x2_4 x2_5 x2_6 x2_7 x2_8 x2_9 x2_10 x2_11 x2_12 x2_13 x2_14 x2_15 x2_16
    show lp C15 f5h n Lf (codeOf f5f) [1, 1, 1, 1, 1, 1, 1, 0, 1, 0, 0, 1, 0, 0, 1, 1, 0, 1, 0, 1, 1, 1, 1, 1, 1, 1, 0, 1, 1, 0, 1, 0] [G0] (endK C15 f5h f5f) (m + 1) (f5H2 x2_0 x2_1 x2_2 x2_3 x2_4 x2_5 x2_6 x2_7 x2_8 x2_9 x2_10 x2_11 x2_12 x2_13 x2_14 x2_15 x2_16) = f5S2 (f5L1 n (f5W0 G0) n) (f5W0 G0) (f5L2 n (f5W0 G0) m) x2_0 x2_1 x2_2 x2_3 x2_4 x2_5 x2_6 x2_7 x2_8 x2_9 x2_10 x2_11 x2_12 x2_13 x2_14 x2_15 x2_16
    rw [lp_succ, f5S2_ev, ih, e1]
noncomputable def f5S0 (l1 : f5G1) (l2 : f5G2) (g0 : f5G0) (x0_0 : Int) (x0_1 : List (Int × Int × Int × List Int × PUnit)) (x0_2 : Int) (x0_3 : Int) (x0_4 : List Int) (x0_5 : List Bool) : Option Lf :=
 bif decide (x0_2 < zn x0_1.length) then
  bif inb x0_2 x0_1.length then
   bif (x0_1.getD x0_2.toNat (0, 0, 0, [], PUnit.unit)).fst == 0 then
    bif (x0_1.getD x0_2.toNat (0, 0, 0, [], PUnit.unit)).fst == 0 then
     bif (x0_1.getD x0_2.toNat (0, 0, 0, [], PUnit.unit)).snd.snd.snd.fst.length.ble 9223372036854775806 then
      bif rOk (x0_1.getD x0_2.toNat (0, 0, 0, [], PUnit.unit)).snd.snd.fst (x0_1.getD x0_2.toNat (0, 0, 0, [], PUnit.unit)).snd.snd.snd.fst then
       bif (x0_1.getD x0_2.toNat (0, 0, 0, [], PUnit.unit)).snd.snd.snd.fst.length.ble 9223372036854775806 then
        bif !rOk (x0_1.getD x0_2.toNat (0, 0, 0, [], PUnit.unit)).snd.snd.fst (x0_1.getD x0_2.toNat (0, 0, 0, [], PUnit.unit)).snd.snd.snd.fst == Er.nil.isNil || true then
         bif !rOk (x0_1.getD x0_2.toNat (0, 0, 0, [], PUnit.unit)).snd.snd.fst (x0_1.getD x0_2.toNat (0, 0, 0, [], PUnit.unit)).snd.snd.snd.fst == Er.nil.isNil || decide ((x0_1.getD x0_2.toNat (0, 0, 0, [], PUnit.unit)).snd.snd.fst > 300) then
          bif !rOk (x0_1.getD x0_2.toNat (0, 0, 0, [], PUnit.unit)).snd.snd.fst (x0_1.getD x0_2.toNat (0, 0, 0, [], PUnit.unit)).snd.snd.snd.fst || true then
           some (Lf.mk [(Pt.one (L.d (Pv.fz true) Sh.b (bif !rOk (x0_1.getD x0_2.toNat (0, 0, 0, [], PUnit.unit)).snd.snd.fst (x0_1.getD x0_2.toNat (0, 0, 0, [], PUnit.unit)).snd.snd.snd.fst then decide ((x0_1.getD x0_2.toNat (0, 0, 0, [], PUnit.unit)).snd.snd.fst > 300) else decide ((x0_1.getD x0_2.toNat (0, 0, 0, [], PUnit.unit)).snd.snd.fst > 300) : Bool)))] [] [])
          else
           none
         else
          bif x0_5.length.ble 4096 && (rOf (x0_1.getD x0_2.toNat (0, 0, 0, [], PUnit.unit)).snd.snd.fst (x0_1.getD x0_2.toNat (0, 0, 0, [], PUnit.unit)).snd.snd.snd.fst).length.ble 4096 then
           bif (x0_1.getD x0_2.toNat (0, 0, 0, [], PUnit.unit)).fst == 0 then
            bif okS x0_3 x0_4 then
             l1 (x0_0 : Int) (x0_1 : List (Int × Int × Int × List Int × PUnit)) (x0_2 : Int) (turnB BinOp.or x0_3 x0_4 (ofW (x0_1.getD x0_2.toNat (0, 0, 0, [], PUnit.unit)).snd.snd.fst (x0_1.getD x0_2.toNat (0, 0, 0, [], PUnit.unit)).snd.snd.snd.fst) : Bool) (rWithB (x0_1.getD x0_2.toNat (0, 0, 0, [], PUnit.unit)).fst x0_5 (rOf (x0_1.getD x0_2.toNat (0, 0, 0, [], PUnit.unit)).snd.snd.fst (x0_1.getD x0_2.toNat (0, 0, 0, [], PUnit.unit)).snd.snd.snd.fst) : Bool) (x0_3 : Int) ((x0_1.getD x0_2.toNat (0, 0, 0, [], PUnit.unit)).fst : Int) ((x0_1.getD x0_2.toNat (0, 0, 0, [], PUnit.unit)).snd.fst : Int) ((x0_1.getD x0_2.toNat (0, 0, 0, [], PUnit.unit)).snd.snd.fst : Int) ((x0_1.getD x0_2.toNat (0, 0, 0, [], PUnit.unit)).snd.snd.snd.fst : List Int) (turnW BinOp.or x0_3 x0_4 (ofW (x0_1.getD x0_2.toNat (0, 0, 0, [], PUnit.unit)).snd.snd.fst (x0_1.getD x0_2.toNat (0, 0, 0, [], PUnit.unit)).snd.snd.snd.fst) : List Int) (rWithL (x0_1.getD x0_2.toNat (0, 0, 0, [], PUnit.unit)).fst x0_5 (rOf (x0_1.getD x0_2.toNat (0, 0, 0, [], PUnit.unit)).snd.snd.fst (x0_1.getD x0_2.toNat (0, 0, 0, [], PUnit.unit)).snd.snd.snd.fst) : List Bool)
            else
             none
           else
            bif (x0_1.getD x0_2.toNat (0, 0, 0, [], PUnit.unit)).fst == 1 then
             bif okS x0_3 x0_4 then
              l1 (x0_0 : Int) (x0_1 : List (Int × Int × Int × List Int × PUnit)) (x0_2 : Int) (turnB BinOp.andNot x0_3 x0_4 (ofW (x0_1.getD x0_2.toNat (0, 0, 0, [], PUnit.unit)).snd.snd.fst (x0_1.getD x0_2.toNat (0, 0, 0, [], PUnit.unit)).snd.snd.snd.fst) : Bool) (rWithB (x0_1.getD x0_2.toNat (0, 0, 0, [], PUnit.unit)).fst x0_5 (rOf (x0_1.getD x0_2.toNat (0, 0, 0, [], PUnit.unit)).snd.snd.fst (x0_1.getD x0_2.toNat (0, 0, 0, [], PUnit.unit)).snd.snd.snd.fst) : Bool) (x0_3 : Int) ((x0_1.getD x0_2.toNat (0, 0, 0, [], PUnit.unit)).fst : Int) ((x0_1.getD x0_2.toNat (0, 0, 0, [], PUnit.unit)).snd.fst : Int) ((x0_1.getD x0_2.toNat (0, 0, 0, [], PUnit.unit)).snd.snd.fst : Int) ((x0_1.getD x0_2.toNat (0, 0, 0, [], PUnit.unit)).snd.snd.snd.fst : List Int) (turnW BinOp.andNot x0_3 x0_4 (ofW (x0_1.getD x0_2.toNat (0, 0, 0, [], PUnit.unit)).snd.snd.fst (x0_1.getD x0_2.toNat (0, 0, 0, [], PUnit.unit)).snd.snd.snd.fst) : List Int) (rWithL (x0_1.getD x0_2.toNat (0, 0, 0, [], PUnit.unit)).fst x0_5 (rOf (x0_1.getD x0_2.toNat (0, 0, 0, [], PUnit.unit)).snd.snd.fst (x0_1.getD x0_2.toNat (0, 0, 0, [], PUnit.unit)).snd.snd.snd.fst) : List Bool)
             else
              none
            else
             bif okS x0_3 x0_4 then
              l1 (x0_0 : Int) (x0_1 : List (Int × Int × Int × List Int × PUnit)) (x0_2 : Int) (turnB BinOp.and x0_3 x0_4 (ofW (x0_1.getD x0_2.toNat (0, 0, 0, [], PUnit.unit)).snd.snd.fst (x0_1.getD x0_2.toNat (0, 0, 0, [], PUnit.unit)).snd.snd.snd.fst) : Bool) (rWithB (x0_1.getD x0_2.toNat (0, 0, 0, [], PUnit.unit)).fst x0_5 (rOf (x0_1.getD x0_2.toNat (0, 0, 0, [], PUnit.unit)).snd.snd.fst (x0_1.getD x0_2.toNat (0, 0, 0, [], PUnit.unit)).snd.snd.snd.fst) : Bool) (x0_3 : Int) ((x0_1.getD x0_2.toNat (0, 0, 0, [], PUnit.unit)).fst : Int) ((x0_1.getD x0_2.toNat (0, 0, 0, [], PUnit.unit)).snd.fst : Int) ((x0_1.getD x0_2.toNat (0, 0, 0, [], PUnit.unit)).snd.snd.fst : Int) ((x0_1.getD x0_2.toNat (0, 0, 0, [], PUnit.unit)).snd.snd.snd.fst : List Int) (turnW BinOp.and x0_3 x0_4 (ofW (x0_1.getD x0_2.toNat (0, 0, 0, [], PUnit.unit)).snd.snd.fst (x0_1.getD x0_2.toNat (0, 0, 0, [], PUnit.unit)).snd.snd.snd.fst) : List Int) (rWithL (x0_1.getD x0_2.toNat (0, 0, 0, [], PUnit.unit)).fst x0_5 (rOf (x0_1.getD x0_2.toNat (0, 0, 0, [], PUnit.unit)).snd.snd.fst (x0_1.getD x0_2.toNat (0, 0, 0, [], PUnit.unit)).snd.snd.snd.fst) : List Bool)
             else
              none
          else
           none
        else
         none
       else
        none
      else
       bif (x0_1.getD x0_2.toNat (0, 0, 0, [], PUnit.unit)).snd.snd.snd.fst.length.ble 9223372036854775806 then
        bif !rOk (x0_1.getD x0_2.toNat (0, 0, 0, [], PUnit.unit)).snd.snd.fst (x0_1.getD x0_2.toNat (0, 0, 0, [], PUnit.unit)).snd.snd.snd.fst == (Er.no 1).isNil || true then
         bif !rOk (x0_1.getD x0_2.toNat (0, 0, 0, [], PUnit.unit)).snd.snd.fst (x0_1.getD x0_2.toNat (0, 0, 0, [], PUnit.unit)).snd.snd.snd.fst == (Er.no 1).isNil || decide ((x0_1.getD x0_2.toNat (0, 0, 0, [], PUnit.unit)).snd.snd.fst > 300) then
          bif !rOk (x0_1.getD x0_2.toNat (0, 0, 0, [], PUnit.unit)).snd.snd.fst (x0_1.getD x0_2.toNat (0, 0, 0, [], PUnit.unit)).snd.snd.snd.fst || true then
           some (Lf.mk [(Pt.one (L.d (Pv.fz true) Sh.b (!rOk (x0_1.getD x0_2.toNat (0, 0, 0, [], PUnit.unit)).snd.snd.fst (x0_1.getD x0_2.toNat (0, 0, 0, [], PUnit.unit)).snd.snd.snd.fst || decide ((x0_1.getD x0_2.toNat (0, 0, 0, [], PUnit.unit)).snd.snd.fst > 300) : Bool)))] [] [])
          else
           none
         else
          bif x0_5.length.ble 4096 && (rOf (x0_1.getD x0_2.toNat (0, 0, 0, [], PUnit.unit)).snd.snd.fst (x0_1.getD x0_2.toNat (0, 0, 0, [], PUnit.unit)).snd.snd.snd.fst).length.ble 4096 then
           bif (x0_1.getD x0_2.toNat (0, 0, 0, [], PUnit.unit)).fst == 0 then
            bif okS x0_3 x0_4 then
             l1 (x0_0 : Int) (x0_1 : List (Int × Int × Int × List Int × PUnit)) (x0_2 : Int) (turnB BinOp.or x0_3 x0_4 [] : Bool) (rWithB (x0_1.getD x0_2.toNat (0, 0, 0, [], PUnit.unit)).fst x0_5 (rOf (x0_1.getD x0_2.toNat (0, 0, 0, [], PUnit.unit)).snd.snd.fst (x0_1.getD x0_2.toNat (0, 0, 0, [], PUnit.unit)).snd.snd.snd.fst) : Bool) (x0_3 : Int) ((x0_1.getD x0_2.toNat (0, 0, 0, [], PUnit.unit)).fst : Int) ((x0_1.getD x0_2.toNat (0, 0, 0, [], PUnit.unit)).snd.fst : Int) ((x0_1.getD x0_2.toNat (0, 0, 0, [], PUnit.unit)).snd.snd.fst : Int) ((x0_1.getD x0_2.toNat (0, 0, 0, [], PUnit.unit)).snd.snd.snd.fst : List Int) (turnW BinOp.or x0_3 x0_4 [] : List Int) (rWithL (x0_1.getD x0_2.toNat (0, 0, 0, [], PUnit.unit)).fst x0_5 (rOf (x0_1.getD x0_2.toNat (0, 0, 0, [], PUnit.unit)).snd.snd.fst (x0_1.getD x0_2.toNat (0, 0, 0, [], PUnit.unit)).snd.snd.snd.fst) : List Bool)
            else
             none
           else
            bif (x0_1.getD x0_2.toNat (0, 0, 0, [], PUnit.unit)).fst == 1 then
             bif okS x0_3 x0_4 then
              l1 (x0_0 : Int) (x0_1 : List (Int × Int × Int × List Int × PUnit)) (x0_2 : Int) (turnB BinOp.andNot x0_3 x0_4 [] : Bool) (rWithB (x0_1.getD x0_2.toNat (0, 0, 0, [], PUnit.unit)).fst x0_5 (rOf (x0_1.getD x0_2.toNat (0, 0, 0, [], PUnit.unit)).snd.snd.fst (x0_1.getD x0_2.toNat (0, 0, 0, [], PUnit.unit)).snd.snd.snd.fst) : Bool) (x0_3 : Int) ((x0_1.getD x0_2.toNat (0, 0, 0, [], PUnit.unit)).fst : Int) ((x0_1.getD x0_2.toNat (0, 0, 0, [], PUnit.unit)).snd.fst : Int) ((x0_1.getD x0_2.toNat (0, 0, 0, [], PUnit.unit)).snd.snd.fst : Int) ((x0_1.getD x0_2.toNat (0, 0, 0, [], PUnit.unit)).snd.snd.snd.fst : List Int) (turnW BinOp.andNot x0_3 x0_4 [] : List Int) (rWithL (x0_1.getD x0_2.toNat (0, 0, 0, [], PUnit.unit)).fst x0_5 (rOf (x0_1.getD x0_2.toNat (0, 0, 0, [], PUnit.unit)).snd.snd.fst (x0_1.getD x0_2.toNat (0, 0, 0, [], PUnit.unit)).snd.snd.snd.fst) : List Bool)
             else
              none
            else
             bif okS x0_3 x0_4 then
              l1 (x0_0 : Int) (x0_1 : List (Int × Int × Int × List Int × PUnit)) (x0_2 : Int) (turnB BinOp.and x0_3 x0_4 [] : Bool) (rWithB (x0_1.getD x0_2.toNat (0, 0, 0, [], PUnit.unit)).fst x0_5 (rOf (x0_1.getD x0_2.toNat (0, 0, 0, [], PUnit.unit)).snd.snd.fst (x0_1.getD x0_2.toNat (0, 0, 0, [], PUnit.unit)).snd.snd.snd.fst) : Bool) (x0_3 : Int) ((x0_1.getD x0_2.toNat (0, 0, 0, [], PUnit.unit)).fst : Int) ((x0_1.getD x0_2.toNat (0, 0, 0, [], PUnit.unit)).snd.fst : Int) ((x0_1.getD x0_2.toNat (0, 0, 0, [], PUnit.unit)).snd.snd.fst : Int) ((x0_1.getD x0_2.toNat (0, 0, 0, [], PUnit.unit)).snd.snd.snd.fst : List Int) (turnW BinOp.and x0_3 x0_4 [] : List Int) (rWithL (x0_1.getD x0_2.toNat (0, 0, 0, [], PUnit.unit)).fst x0_5 (rOf (x0_1.getD x0_2.toNat (0, 0, 0, [], PUnit.unit)).snd.snd.fst (x0_1.getD x0_2.toNat (0, 0, 0, [], PUnit.unit)).snd.snd.snd.fst) : List Bool)
             else
              none
          else
           none
        else
         none
       else
        none
     else
      none
    else
     bif (x0_1.getD x0_2.toNat (0, 0, 0, [], PUnit.unit)).fst == 3 then
      bif okS x0_3 x0_4 then
       l1 (x0_0 : Int) (x0_1 : List (Int × Int × Int × List Int × PUnit)) (x0_2 : Int) (addB x0_3 x0_4 (x0_1.getD x0_2.toNat (0, 0, 0, [], PUnit.unit)).snd.fst : Bool) (rPutB x0_5 (x0_1.getD x0_2.toNat (0, 0, 0, [], PUnit.unit)).snd.fst true : Bool) (x0_3 : Int) ((x0_1.getD x0_2.toNat (0, 0, 0, [], PUnit.unit)).fst : Int) ((x0_1.getD x0_2.toNat (0, 0, 0, [], PUnit.unit)).snd.fst : Int) ((x0_1.getD x0_2.toNat (0, 0, 0, [], PUnit.unit)).snd.snd.fst : Int) ((x0_1.getD x0_2.toNat (0, 0, 0, [], PUnit.unit)).snd.snd.snd.fst : List Int) (addW x0_3 x0_4 (x0_1.getD x0_2.toNat (0, 0, 0, [], PUnit.unit)).snd.fst : List Int) (rPut x0_5 (x0_1.getD x0_2.toNat (0, 0, 0, [], PUnit.unit)).snd.fst true : List Bool)
      else
       none
     else
      bif (x0_1.getD x0_2.toNat (0, 0, 0, [], PUnit.unit)).fst == 4 then
       bif okS x0_3 x0_4 then
        l1 (x0_0 : Int) (x0_1 : List (Int × Int × Int × List Int × PUnit)) (x0_2 : Int) (hasF x0_3 x0_4 (x0_1.getD x0_2.toNat (0, 0, 0, [], PUnit.unit)).snd.fst : Bool) (rPutB x0_5 (x0_1.getD x0_2.toNat (0, 0, 0, [], PUnit.unit)).snd.fst false : Bool) (x0_3 : Int) ((x0_1.getD x0_2.toNat (0, 0, 0, [], PUnit.unit)).fst : Int) ((x0_1.getD x0_2.toNat (0, 0, 0, [], PUnit.unit)).snd.fst : Int) ((x0_1.getD x0_2.toNat (0, 0, 0, [], PUnit.unit)).snd.snd.fst : Int) ((x0_1.getD x0_2.toNat (0, 0, 0, [], PUnit.unit)).snd.snd.snd.fst : List Int) (delW x0_3 x0_4 (x0_1.getD x0_2.toNat (0, 0, 0, [], PUnit.unit)).snd.fst : List Int) (rPut x0_5 (x0_1.getD x0_2.toNat (0, 0, 0, [], PUnit.unit)).snd.fst false : List Bool)
       else
        none
      else
       bif (x0_1.getD x0_2.toNat (0, 0, 0, [], PUnit.unit)).fst == 5 then
        bif okS x0_3 x0_4 then
         l2 (x0_0 : Int) (x0_1 : List (Int × Int × Int × List Int × PUnit)) (x0_2 : Int) (false : Bool) (false : Bool) ((nextF x0_3 x0_4 (x0_1.getD x0_2.toNat (0, 0, 0, [], PUnit.unit)).snd.fst).fst : Int) ((nextF x0_3 x0_4 (x0_1.getD x0_2.toNat (0, 0, 0, [], PUnit.unit)).snd.fst).snd : Bool) (0 : Int) (false : Bool) (0 : Int) (x0_3 : Int) ((x0_1.getD x0_2.toNat (0, 0, 0, [], PUnit.unit)).fst : Int) ((x0_1.getD x0_2.toNat (0, 0, 0, [], PUnit.unit)).snd.fst : Int) ((x0_1.getD x0_2.toNat (0, 0, 0, [], PUnit.unit)).snd.snd.fst : Int) ((x0_1.getD x0_2.toNat (0, 0, 0, [], PUnit.unit)).snd.snd.snd.fst : List Int) (x0_4 : List Int) (x0_5 : List Bool)
        else
         none
       else
        l1 (x0_0 : Int) (x0_1 : List (Int × Int × Int × List Int × PUnit)) (x0_2 : Int) (false : Bool) (false : Bool) (x0_3 : Int) ((x0_1.getD x0_2.toNat (0, 0, 0, [], PUnit.unit)).fst : Int) ((x0_1.getD x0_2.toNat (0, 0, 0, [], PUnit.unit)).snd.fst : Int) ((x0_1.getD x0_2.toNat (0, 0, 0, [], PUnit.unit)).snd.snd.fst : Int) ((x0_1.getD x0_2.toNat (0, 0, 0, [], PUnit.unit)).snd.snd.snd.fst : List Int) (x0_4 : List Int) (x0_5 : List Bool)
   else
    bif (x0_1.getD x0_2.toNat (0, 0, 0, [], PUnit.unit)).fst == 1 then
     bif (x0_1.getD x0_2.toNat (0, 0, 0, [], PUnit.unit)).fst == 1 then
      bif (x0_1.getD x0_2.toNat (0, 0, 0, [], PUnit.unit)).snd.snd.snd.fst.length.ble 9223372036854775806 then
       bif rOk (x0_1.getD x0_2.toNat (0, 0, 0, [], PUnit.unit)).snd.snd.fst (x0_1.getD x0_2.toNat (0, 0, 0, [], PUnit.unit)).snd.snd.snd.fst then
        bif (x0_1.getD x0_2.toNat (0, 0, 0, [], PUnit.unit)).snd.snd.snd.fst.length.ble 9223372036854775806 then
         bif !rOk (x0_1.getD x0_2.toNat (0, 0, 0, [], PUnit.unit)).snd.snd.fst (x0_1.getD x0_2.toNat (0, 0, 0, [], PUnit.unit)).snd.snd.snd.fst == Er.nil.isNil || true then
          bif !rOk (x0_1.getD x0_2.toNat (0, 0, 0, [], PUnit.unit)).snd.snd.fst (x0_1.getD x0_2.toNat (0, 0, 0, [], PUnit.unit)).snd.snd.snd.fst == Er.nil.isNil || decide ((x0_1.getD x0_2.toNat (0, 0, 0, [], PUnit.unit)).snd.snd.fst > 300) then
           bif !rOk (x0_1.getD x0_2.toNat (0, 0, 0, [], PUnit.unit)).snd.snd.fst (x0_1.getD x0_2.toNat (0, 0, 0, [], PUnit.unit)).snd.snd.snd.fst || true then
            some (Lf.mk [(Pt.one (L.d (Pv.fz true) Sh.b (bif !rOk (x0_1.getD x0_2.toNat (0, 0, 0, [], PUnit.unit)).snd.snd.fst (x0_1.getD x0_2.toNat (0, 0, 0, [], PUnit.unit)).snd.snd.snd.fst then decide ((x0_1.getD x0_2.toNat (0, 0, 0, [], PUnit.unit)).snd.snd.fst > 300) else decide ((x0_1.getD x0_2.toNat (0, 0, 0, [], PUnit.unit)).snd.snd.fst > 300) : Bool)))] [] [])
           else
            none
          else
           bif x0_5.length.ble 4096 && (rOf (x0_1.getD x0_2.toNat (0, 0, 0, [], PUnit.unit)).snd.snd.fst (x0_1.getD x0_2.toNat (0, 0, 0, [], PUnit.unit)).snd.snd.snd.fst).length.ble 4096 then
            bif (x0_1.getD x0_2.toNat (0, 0, 0, [], PUnit.unit)).fst == 0 then
             bif okS x0_3 x0_4 then
              l1 (x0_0 : Int) (x0_1 : List (Int × Int × Int × List Int × PUnit)) (x0_2 : Int) (turnB BinOp.or x0_3 x0_4 (ofW (x0_1.getD x0_2.toNat (0, 0, 0, [], PUnit.unit)).snd.snd.fst (x0_1.getD x0_2.toNat (0, 0, 0, [], PUnit.unit)).snd.snd.snd.fst) : Bool) (rWithB (x0_1.getD x0_2.toNat (0, 0, 0, [], PUnit.unit)).fst x0_5 (rOf (x0_1.getD x0_2.toNat (0, 0, 0, [], PUnit.unit)).snd.snd.fst (x0_1.getD x0_2.toNat (0, 0, 0, [], PUnit.unit)).snd.snd.snd.fst) : Bool) (x0_3 : Int) ((x0_1.getD x0_2.toNat (0, 0, 0, [], PUnit.unit)).fst : Int) ((x0_1.getD x0_2.toNat (0, 0, 0, [], PUnit.unit)).snd.fst : Int) ((x0_1.getD x0_2.toNat (0, 0, 0, [], PUnit.unit)).snd.snd.fst : Int) ((x0_1.getD x0_2.toNat (0, 0, 0, [], PUnit.unit)).snd.snd.snd.fst : List Int) (turnW BinOp.or x0_3 x0_4 (ofW (x0_1.getD x0_2.toNat (0, 0, 0, [], PUnit.unit)).snd.snd.fst (x0_1.getD x0_2.toNat (0, 0, 0, [], PUnit.unit)).snd.snd.snd.fst) : List Int) (rWithL (x0_1.getD x0_2.toNat (0, 0, 0, [], PUnit.unit)).fst x0_5 (rOf (x0_1.getD x0_2.toNat (0, 0, 0, [], PUnit.unit)).snd.snd.fst (x0_1.getD x0_2.toNat (0, 0, 0, [], PUnit.unit)).snd.snd.snd.fst) : List Bool)
             else
              none
            else
             bif (x0_1.getD x0_2.toNat (0, 0, 0, [], PUnit.unit)).fst == 1 then
              bif okS x0_3 x0_4 then
               l1 (x0_0 : Int) (x0_1 : List (Int × Int × Int × List Int × PUnit)) (x0_2 : Int) (turnB BinOp.andNot x0_3 x0_4 (ofW (x0_1.getD x0_2.toNat (0, 0, 0, [], PUnit.unit)).snd.snd.fst (x0_1.getD x0_2.toNat (0, 0, 0, [], PUnit.unit)).snd.snd.snd.fst) : Bool) (rWithB (x0_1.getD x0_2.toNat (0, 0, 0, [], PUnit.unit)).fst x0_5 (rOf (x0_1.getD x0_2.toNat (0, 0, 0, [], PUnit.unit)).snd.snd.fst (x0_1.getD x0_2.toNat (0, 0, 0, [], PUnit.unit)).snd.snd.snd.fst) : Bool) (x0_3 : Int) ((x0_1.getD x0_2.toNat (0, 0, 0, [], PUnit.unit)).fst : Int) ((x0_1.getD x0_2.toNat (0, 0, 0, [], PUnit.unit)).snd.fst : Int) ((x0_1.getD x0_2.toNat (0, 0, 0, [], PUnit.unit)).snd.snd.fst : Int) ((x0_1.getD x0_2.toNat (0, 0, 0, [], PUnit.unit)).snd.snd.snd.fst : List Int) (turnW BinOp.andNot x0_3 x0_4 (ofW (x0_1.getD x0_2.toNat (0, 0, 0, [], PUnit.unit)).snd.snd.fst (x0_1.getD x0_2.toNat (0, 0, 0, [], PUnit.unit)).snd.snd.snd.fst) : List Int) (rWithL (x0_1.getD x0_2.toNat (0, 0, 0, [], PUnit.unit)).fst x0_5 (rOf (x0_1.getD x0_2.toNat (0, 0, 0, [], PUnit.unit)).snd.snd.fst (x0_1.getD x0_2.toNat (0, 0, 0, [], PUnit.unit)).snd.snd.snd.fst) : List Bool)
              else
               none
             else
              bif okS x0_3 x0_4 then
               l1 (x0_0 : Int) (x0_1 : List (Int × Int × Int × List Int × PUnit)) (x0_2 : Int) (turnB BinOp.and x0_3 x0_4 (ofW (x0_1.getD x0_2.toNat (0, 0, 0, [], PUnit.unit)).snd.snd.fst (x0_1.getD x0_2.toNat (0, 0, 0, [], PUnit.unit)).snd.snd.snd.fst) : Bool) (rWithB (x0_1.getD x0_2.toNat (0, 0, 0, [], PUnit.unit)).fst x0_5 (rOf (x0_1.getD x0_2.toNat (0, 0, 0, [], PUnit.unit)).snd.snd.fst (x0_1.getD x0_2.toNat (0, 0, 0, [], PUnit.unit)).snd.snd.snd.fst) : Bool) (x0_3 : Int) ((x0_1.getD x0_2.toNat (0, 0, 0, [], PUnit.unit)).fst : Int) ((x0_1.getD x0_2.toNat (0, 0, 0, [], PUnit.unit)).snd.fst : Int) ((x0_1.getD x0_2.toNat (0, 0, 0, [], PUnit.unit)).snd.snd.fst : Int) ((x0_1.getD x0_2.toNat (0, 0, 0, [], PUnit.unit)).snd.snd.snd.fst : List Int) (turnW BinOp.and x0_3 x0_4 (ofW (x0_1.getD x0_2.toNat (0, 0, 0, [], PUnit.unit)).snd.snd.fst (x0_1.getD x0_2.toNat (0, 0, 0, [], PUnit.unit)).snd.snd.snd.fst) : List Int) (rWithL (x0_1.getD x0_2.toNat (0, 0, 0, [], PUnit.unit)).fst x0_5 (rOf (x0_1.getD x0_2.toNat (0, 0, 0, [], PUnit.unit)).snd.snd.fst (x0_1.getD x0_2.toNat (0, 0, 0, [], PUnit.unit)).snd.snd.snd.fst) : List Bool)
              else
               none
           else
            none
         else
          none
        else
         none
       else
        bif (x0_1.getD x0_2.toNat (0, 0, 0, [], PUnit.unit)).snd.snd.snd.fst.length.ble 9223372036854775806 then
         bif !rOk (x0_1.getD x0_2.toNat (0, 0, 0, [], PUnit.unit)).snd.snd.fst (x0_1.getD x0_2.toNat (0, 0, 0, [], PUnit.unit)).snd.snd.snd.fst == (Er.no 1).isNil || true then
          bif !rOk (x0_1.getD x0_2.toNat (0, 0, 0, [], PUnit.unit)).snd.snd.fst (x0_1.getD x0_2.toNat (0, 0, 0, [], PUnit.unit)).snd.snd.snd.fst == (Er.no 1).isNil || decide ((x0_1.getD x0_2.toNat (0, 0, 0, [], PUnit.unit)).snd.snd.fst > 300) then
           bif !rOk (x0_1.getD x0_2.toNat (0, 0, 0, [], PUnit.unit)).snd.snd.fst (x0_1.getD x0_2.toNat (0, 0, 0, [], PUnit.unit)).snd.snd.snd.fst || true then
            some (Lf.mk [(Pt.one (L.d (Pv.fz true) Sh.b (!rOk (x0_1.getD x0_2.toNat (0, 0, 0, [], PUnit.unit)).snd.snd.fst (x0_1.getD x0_2.toNat (0, 0, 0, [], PUnit.unit)).snd.snd.snd.fst || decide ((x0_1.getD x0_2.toNat (0, 0, 0, [], PUnit.unit)).snd.snd.fst > 300) : Bool)))] [] [])
           else
            none
          else
           bif x0_5.length.ble 4096 && (rOf (x0_1.getD x0_2.toNat (0, 0, 0, [], PUnit.unit)).snd.snd.fst (x0_1.getD x0_2.toNat (0, 0, 0, [], PUnit.unit)).snd.snd.snd.fst).length.ble 4096 then
            bif (x0_1.getD x0_2.toNat (0, 0, 0, [], PUnit.unit)).fst == 0 then
             bif okS x0_3 x0_4 then
              l1 (x0_0 : Int) (x0_1 : List (Int × Int × Int × List Int × PUnit)) (x0_2 : Int) (turnB BinOp.or x0_3 x0_4 [] : Bool) (rWithB (x0_1.getD x0_2.toNat (0, 0, 0, [], PUnit.unit)).fst x0_5 (rOf (x0_1.getD x0_2.toNat (0, 0, 0, [], PUnit.unit)).snd.snd.fst (x0_1.getD x0_2.toNat (0, 0, 0, [], PUnit.unit)).snd.snd.snd.fst) : Bool) (x0_3 : Int) ((x0_1.getD x0_2.toNat (0, 0, 0, [], PUnit.unit)).fst : Int) ((x0_1.getD x0_2.toNat (0, 0, 0, [], PUnit.unit)).snd.fst : Int) ((x0_1.getD x0_2.toNat (0, 0, 0, [], PUnit.unit)).snd.snd.fst : Int) ((x0_1.getD x0_2.toNat (0, 0, 0, [], PUnit.unit)).snd.snd.snd.fst : List Int) (turnW BinOp.or x0_3 x0_4 [] : List Int) (rWithL (x0_1.getD x0_2.toNat (0, 0, 0, [], PUnit.unit)).fst x0_5 (rOf (x0_1.getD x0_2.toNat (0, 0, 0, [], PUnit.unit)).snd.snd.fst (x0_1.getD x0_2.toNat (0, 0, 0, [], PUnit.unit)).snd.snd.snd.fst) : List Bool)
             else
              none
            else
             bif (x0_1.getD x0_2.toNat (0, 0, 0, [], PUnit.unit)).fst == 1 then
              bif okS x0_3 x0_4 then
               l1 (x0_0 : Int) (x0_1 : List (Int × Int × Int × List Int × PUnit)) (x0_2 : Int) (turnB BinOp.andNot x0_3 x0_4 [] : Bool) (rWithB (x0_1.getD x0_2.toNat (0, 0, 0, [], PUnit.unit)).fst x0_5 (rOf (x0_1.getD x0_2.toNat (0, 0, 0, [], PUnit.unit)).snd.snd.fst (x0_1.getD x0_2.toNat (0, 0, 0, [], PUnit.unit)).snd.snd.snd.fst) : Bool) (x0_3 : Int) ((x0_1.getD x0_2.toNat (0, 0, 0, [], PUnit.unit)).fst : Int) ((x0_1.getD x0_2.toNat (0, 0, 0, [], PUnit.unit)).snd.fst : Int) ((x0_1.getD x0_2.toNat (0, 0, 0, [], PUnit.unit)).snd.snd.fst : Int) ((x0_1.getD x0_2.toNat (0, 0, 0, [], PUnit.unit)).snd.snd.snd.fst : List Int) (turnW BinOp.andNot x0_3 x0_4 [] : List Int) (rWithL (x0_1.getD x0_2.toNat (0, 0, 0, [], PUnit.unit)).fst x0_5 (rOf (x0_1.getD x0_2.toNat (0, 0, 0, [], PUnit.unit)).snd.snd.fst (x0_1.getD x0_2.toNat (0, 0, 0, [], PUnit.unit)).snd.snd.snd.fst) : List Bool)
              else
               none
             else
              bif okS x0_3 x0_4 then
               l1 (x0_0 : Int) (x0_1 : List (Int × Int × Int × List Int × PUnit)) (x0_2 : Int) (turnB BinOp.and x0_3 x0_4 [] : Bool) (rWithB (x0_1.getD x0_2.toNat (0, 0, 0, [], PUnit.unit)).fst x0_5 (rOf (x0_1.getD x0_2.toNat (0, 0, 0, [], PUnit.unit)).snd.snd.fst (x0_1.getD x0_2.toNat (0, 0, 0, [], PUnit.unit)).snd.snd.snd.fst) : Bool) (x0_3 : Int) ((x0_1.getD x0_2.toNat (0, 0, 0, [], PUnit.unit)).fst : Int) ((x0_1.getD x0_2.toNat (0, 0, 0, [], PUnit.unit)).snd.fst : Int) ((x0_1.getD x0_2.toNat (0, 0, 0, [], PUnit.unit)).snd.snd.fst : Int) ((x0_1.getD x0_2.toNat (0, 0, 0, [], PUnit.unit)).snd.snd.snd.fst : List Int) (turnW BinOp.and x0_3 x0_4 [] : List Int) (rWithL (x0_1.getD x0_2.toNat (0, 0, 0, [], PUnit.unit)).fst x0_5 (rOf (x0_1.getD x0_2.toNat (0, 0, 0, [], PUnit.unit)).snd.snd.fst (x0_1.getD x0_2.toNat (0, 0, 0, [], PUnit.unit)).snd.snd.snd.fst) : List Bool)
              else
               none
           else
            none
         else
          none
        else
         none
      else
       none
     else
      bif (x0_1.getD x0_2.toNat (0, 0, 0, [], PUnit.unit)).fst == 3 then
       bif okS x0_3 x0_4 then
        l1 (x0_0 : Int) (x0_1 : List (Int × Int × Int × List Int × PUnit)) (x0_2 : Int) (addB x0_3 x0_4 (x0_1.getD x0_2.toNat (0, 0, 0, [], PUnit.unit)).snd.fst : Bool) (rPutB x0_5 (x0_1.getD x0_2.toNat (0, 0, 0, [], PUnit.unit)).snd.fst true : Bool) (x0_3 : Int) ((x0_1.getD x0_2.toNat (0, 0, 0, [], PUnit.unit)).fst : Int) ((x0_1.getD x0_2.toNat (0, 0, 0, [], PUnit.unit)).snd.fst : Int) ((x0_1.getD x0_2.toNat (0, 0, 0, [], PUnit.unit)).snd.snd.fst : Int) ((x0_1.getD x0_2.toNat (0, 0, 0, [], PUnit.unit)).snd.snd.snd.fst : List Int) (addW x0_3 x0_4 (x0_1.getD x0_2.toNat (0, 0, 0, [], PUnit.unit)).snd.fst : List Int) (rPut x0_5 (x0_1.getD x0_2.toNat (0, 0, 0, [], PUnit.unit)).snd.fst true : List Bool)
       else
        none
      else
       bif (x0_1.getD x0_2.toNat (0, 0, 0, [], PUnit.unit)).fst == 4 then
        bif okS x0_3 x0_4 then
         l1 (x0_0 : Int) (x0_1 : List (Int × Int × Int × List Int × PUnit)) (x0_2 : Int) (hasF x0_3 x0_4 (x0_1.getD x0_2.toNat (0, 0, 0, [], PUnit.unit)).snd.fst : Bool) (rPutB x0_5 (x0_1.getD x0_2.toNat (0, 0, 0, [], PUnit.unit)).snd.fst false : Bool) (x0_3 : Int) ((x0_1.getD x0_2.toNat (0, 0, 0, [], PUnit.unit)).fst : Int) ((x0_1.getD x0_2.toNat (0, 0, 0, [], PUnit.unit)).snd.fst : Int) ((x0_1.getD x0_2.toNat (0, 0, 0, [], PUnit.unit)).snd.snd.fst : Int) ((x0_1.getD x0_2.toNat (0, 0, 0, [], PUnit.unit)).snd.snd.snd.fst : List Int) (delW x0_3 x0_4 (x0_1.getD x0_2.toNat (0, 0, 0, [], PUnit.unit)).snd.fst : List Int) (rPut x0_5 (x0_1.getD x0_2.toNat (0, 0, 0, [], PUnit.unit)).snd.fst false : List Bool)
        else
         none
       else
        bif (x0_1.getD x0_2.toNat (0, 0, 0, [], PUnit.unit)).fst == 5 then
         bif okS x0_3 x0_4 then
          l2 (x0_0 : Int) (x0_1 : List (Int × Int × Int × List Int × PUnit)) (x0_2 : Int) (false : Bool) (false : Bool) ((nextF x0_3 x0_4 (x0_1.getD x0_2.toNat (0, 0, 0, [], PUnit.unit)).snd.fst).fst : Int) ((nextF x0_3 x0_4 (x0_1.getD x0_2.toNat (0, 0, 0, [], PUnit.unit)).snd.fst).snd : Bool) (0 : Int) (false : Bool) (0 : Int) (x0_3 : Int) ((x0_1.getD x0_2.toNat (0, 0, 0, [], PUnit.unit)).fst : Int) ((x0_1.getD x0_2.toNat (0, 0, 0, [], PUnit.unit)).snd.fst : Int) ((x0_1.getD x0_2.toNat (0, 0, 0, [], PUnit.unit)).snd.snd.fst : Int) ((x0_1.getD x0_2.toNat (0, 0, 0, [], PUnit.unit)).snd.snd.snd.fst : List Int) (x0_4 : List Int) (x0_5 : List Bool)
         else
          none
        else
         l1 (x0_0 : Int) (x0_1 : List (Int × Int × Int × List Int × PUnit)) (x0_2 : Int) (false : Bool) (false : Bool) (x0_3 : Int) ((x0_1.getD x0_2.toNat (0, 0, 0, [], PUnit.unit)).fst : Int) ((x0_1.getD x0_2.toNat (0, 0, 0, [], PUnit.unit)).snd.fst : Int) ((x0_1.getD x0_2.toNat (0, 0, 0, [], PUnit.unit)).snd.snd.fst : Int) ((x0_1.getD x0_2.toNat (0, 0, 0, [], PUnit.unit)).snd.snd.snd.fst : List Int) (x0_4 : List Int) (x0_5 : List Bool)
    else
     bif (x0_1.getD x0_2.toNat (0, 0, 0, [], PUnit.unit)).fst == 2 then
      bif (x0_1.getD x0_2.toNat (0, 0, 0, [], PUnit.unit)).snd.snd.snd.fst.length.ble 9223372036854775806 then
       bif rOk (x0_1.getD x0_2.toNat (0, 0, 0, [], PUnit.unit)).snd.snd.fst (x0_1.getD x0_2.toNat (0, 0, 0, [], PUnit.unit)).snd.snd.snd.fst then
        bif (x0_1.getD x0_2.toNat (0, 0, 0, [], PUnit.unit)).snd.snd.snd.fst.length.ble 9223372036854775806 then
         bif !rOk (x0_1.getD x0_2.toNat (0, 0, 0, [], PUnit.unit)).snd.snd.fst (x0_1.getD x0_2.toNat (0, 0, 0, [], PUnit.unit)).snd.snd.snd.fst == Er.nil.isNil || true then
          bif !rOk (x0_1.getD x0_2.toNat (0, 0, 0, [], PUnit.unit)).snd.snd.fst (x0_1.getD x0_2.toNat (0, 0, 0, [], PUnit.unit)).snd.snd.snd.fst == Er.nil.isNil || decide ((x0_1.getD x0_2.toNat (0, 0, 0, [], PUnit.unit)).snd.snd.fst > 300) then
           bif !rOk (x0_1.getD x0_2.toNat (0, 0, 0, [], PUnit.unit)).snd.snd.fst (x0_1.getD x0_2.toNat (0, 0, 0, [], PUnit.unit)).snd.snd.snd.fst || true then
            some (Lf.mk [(Pt.one (L.d (Pv.fz true) Sh.b (bif !rOk (x0_1.getD x0_2.toNat (0, 0, 0, [], PUnit.unit)).snd.snd.fst (x0_1.getD x0_2.toNat (0, 0, 0, [], PUnit.unit)).snd.snd.snd.fst then decide ((x0_1.getD x0_2.toNat (0, 0, 0, [], PUnit.unit)).snd.snd.fst > 300) else decide ((x0_1.getD x0_2.toNat (0, 0, 0, [], PUnit.unit)).snd.snd.fst > 300) : Bool)))] [] [])
           else
            none
          else
           bif x0_5.length.ble 4096 && (rOf (x0_1.getD x0_2.toNat (0, 0, 0, [], PUnit.unit)).snd.snd.fst (x0_1.getD x0_2.toNat (0, 0, 0, [], PUnit.unit)).snd.snd.snd.fst).length.ble 4096 then
            bif (x0_1.getD x0_2.toNat (0, 0, 0, [], PUnit.unit)).fst == 0 then
             bif okS x0_3 x0_4 then
              l1 (x0_0 : Int) (x0_1 : List (Int × Int × Int × List Int × PUnit)) (x0_2 : Int) (turnB BinOp.or x0_3 x0_4 (ofW (x0_1.getD x0_2.toNat (0, 0, 0, [], PUnit.unit)).snd.snd.fst (x0_1.getD x0_2.toNat (0, 0, 0, [], PUnit.unit)).snd.snd.snd.fst) : Bool) (rWithB (x0_1.getD x0_2.toNat (0, 0, 0, [], PUnit.unit)).fst x0_5 (rOf (x0_1.getD x0_2.toNat (0, 0, 0, [], PUnit.unit)).snd.snd.fst (x0_1.getD x0_2.toNat (0, 0, 0, [], PUnit.unit)).snd.snd.snd.fst) : Bool) (x0_3 : Int) ((x0_1.getD x0_2.toNat (0, 0, 0, [], PUnit.unit)).fst : Int) ((x0_1.getD x0_2.toNat (0, 0, 0, [], PUnit.unit)).snd.fst : Int) ((x0_1.getD x0_2.toNat (0, 0, 0, [], PUnit.unit)).snd.snd.fst : Int) ((x0_1.getD x0_2.toNat (0, 0, 0, [], PUnit.unit)).snd.snd.snd.fst : List Int) (turnW BinOp.or x0_3 x0_4 (ofW (x0_1.getD x0_2.toNat (0, 0, 0, [], PUnit.unit)).snd.snd.fst (x0_1.getD x0_2.toNat (0, 0, 0, [], PUnit.unit)).snd.snd.snd.fst) : List Int) (rWithL (x0_1.getD x0_2.toNat (0, 0, 0, [], PUnit.unit)).fst x0_5 (rOf (x0_1.getD x0_2.toNat (0, 0, 0, [], PUnit.unit)).snd.snd.fst (x0_1.getD x0_2.toNat (0, 0, 0, [], PUnit.unit)).snd.snd.snd.fst) : List Bool)
             else
              none
            else
             bif (x0_1.getD x0_2.toNat (0, 0, 0, [], PUnit.unit)).fst == 1 then
              bif okS x0_3 x0_4 then
               l1 (x0_0 : Int) (x0_1 : List (Int × Int × Int × List Int × PUnit)) (x0_2 : Int) (turnB BinOp.andNot x0_3 x0_4 (ofW (x0_1.getD x0_2.toNat (0, 0, 0, [], PUnit.unit)).snd.snd.fst (x0_1.getD x0_2.toNat (0, 0, 0, [], PUnit.unit)).snd.snd.snd.fst) : Bool) (rWithB (x0_1.getD x0_2.toNat (0, 0, 0, [], PUnit.unit)).fst x0_5 (rOf (x0_1.getD x0_2.toNat (0, 0, 0, [], PUnit.unit)).snd.snd.fst (x0_1.getD x0_2.toNat (0, 0, 0, [], PUnit.unit)).snd.snd.snd.fst) : Bool) (x0_3 : Int) ((x0_1.getD x0_2.toNat (0, 0, 0, [], PUnit.unit)).fst : Int) ((x0_1.getD x0_2.toNat (0, 0, 0, [], PUnit.unit)).snd.fst : Int) ((x0_1.getD x0_2.toNat (0, 0, 0, [], PUnit.unit)).snd.snd.fst : Int) ((x0_1.getD x0_2.toNat (0, 0, 0, [], PUnit.unit)).snd.snd.snd.fst : List Int) (turnW BinOp.andNot x0_3 x0_4 (ofW (x0_1.getD x0_2.toNat (0, 0, 0, [], PUnit.unit)).snd.snd.fst (x0_1.getD x0_2.toNat (0, 0, 0, [], PUnit.unit)).snd.snd.snd.fst) : List Int) (rWithL (x0_1.getD x0_2.toNat (0, 0, 0, [], PUnit.unit)).fst x0_5 (rOf (x0_1.getD x0_2.toNat (0, 0, 0, [], PUnit.unit)).snd.snd.fst (x0_1.getD x0_2.toNat (0, 0, 0, [], PUnit.unit)).snd.snd.snd.fst) : List Bool)
              else
               none
             else
              bif okS x0_3 x0_4 then
               l1 (x0_0 : Int) (x0_1 : List (Int × Int × Int × List Int × PUnit)) (x0_2 : Int) (turnB BinOp.and x0_3 x0_4 (ofW (x0_1.getD x0_2.toNat (0, 0, 0, [], PUnit.unit)).snd.snd.fst (x0_1.getD x0_2.toNat (0, 0, 0, [], PUnit.unit)).snd.snd.snd.fst) : Bool) (rWithB (x0_1.getD x0_2.toNat (0, 0, 0, [], PUnit.unit)).fst x0_5 (rOf (x0_1.getD x0_2.toNat (0, 0, 0, [], PUnit.unit)).snd.snd.fst (x0_1.getD x0_2.toNat (0, 0, 0, [], PUnit.unit)).snd.snd.snd.fst) : Bool) (x0_3 : Int) ((x0_1.getD x0_2.toNat (0, 0, 0, [], PUnit.unit)).fst : Int) ((x0_1.getD x0_2.toNat (0, 0, 0, [], PUnit.unit)).snd.fst : Int) ((x0_1.getD x0_2.toNat (0, 0, 0, [], PUnit.unit)).snd.snd.fst : Int) ((x0_1.getD x0_2.toNat (0, 0, 0, [], PUnit.unit)).snd.snd.snd.fst : List Int) (turnW BinOp.and x0_3 x0_4 (ofW (x0_1.getD x0_2.toNat (0, 0, 0, [], PUnit.unit)).snd.snd.fst (x0_1.getD x0_2.toNat (0, 0, 0, [], PUnit.unit)).snd.snd.snd.fst) : List Int) (rWithL (x0_1.getD x0_2.toNat (0, 0, 0, [], PUnit.unit)).fst x0_5 (rOf (x0_1.getD x0_2.toNat (0, 0, 0, [], PUnit.unit)).snd.snd.fst (x0_1.getD x0_2.toNat (0, 0, 0, [], PUnit.unit)).snd.snd.snd.fst) : List Bool)
              else
               none
           else
            none
         else
          none
        else
         none
       else
        bif (x0_1.getD x0_2.toNat (0, 0, 0, [], PUnit.unit)).snd.snd.snd.fst.length.ble 9223372036854775806 then
         bif !rOk (x0_1.getD x0_2.toNat (0, 0, 0, [], PUnit.unit)).snd.snd.fst (x0_1.getD x0_2.toNat (0, 0, 0, [], PUnit.unit)).snd.snd.snd.fst == (Er.no 1).isNil || true then
          bif !rOk (x0_1.getD x0_2.toNat (0, 0, 0, [], PUnit.unit)).snd.snd.fst (x0_1.getD x0_2.toNat (0, 0, 0, [], PUnit.unit)).snd.snd.snd.fst == (Er.no 1).isNil || decide ((x0_1.getD x0_2.toNat (0, 0, 0, [], PUnit.unit)).snd.snd.fst > 300) then
           bif !rOk (x0_1.getD x0_2.toNat (0, 0, 0, [], PUnit.unit)).snd.snd.fst (x0_1.getD x0_2.toNat (0, 0, 0, [], PUnit.unit)).snd.snd.snd.fst || true then
            some (Lf.mk [(Pt.one (L.d (Pv.fz true) Sh.b (!rOk (x0_1.getD x0_2.toNat (0, 0, 0, [], PUnit.unit)).snd.snd.fst (x0_1.getD x0_2.toNat (0, 0, 0, [], PUnit.unit)).snd.snd.snd.fst || decide ((x0_1.getD x0_2.toNat (0, 0, 0, [], PUnit.unit)).snd.snd.fst > 300) : Bool)))] [] [])
           else
            none
          else
           bif x0_5.length.ble 4096 && (rOf (x0_1.getD x0_2.toNat (0, 0, 0, [], PUnit.unit)).snd.snd.fst (x0_1.getD x0_2.toNat (0, 0, 0, [], PUnit.unit)).snd.snd.snd.fst).length.ble 4096 then
            bif (x0_1.getD x0_2.toNat (0, 0, 0, [], PUnit.unit)).fst == 0 then
             bif okS x0_3 x0_4 then
              l1 (x0_0 : Int) (x0_1 : List (Int × Int × Int × List Int × PUnit)) (x0_2 : Int) (turnB BinOp.or x0_3 x0_4 [] : Bool) (rWithB (x0_1.getD x0_2.toNat (0, 0, 0, [], PUnit.unit)).fst x0_5 (rOf (x0_1.getD x0_2.toNat (0, 0, 0, [], PUnit.unit)).snd.snd.fst (x0_1.getD x0_2.toNat (0, 0, 0, [], PUnit.unit)).snd.snd.snd.fst) : Bool) (x0_3 : Int) ((x0_1.getD x0_2.toNat (0, 0, 0, [], PUnit.unit)).fst : Int) ((x0_1.getD x0_2.toNat (0, 0, 0, [], PUnit.unit)).snd.fst : Int) ((x0_1.getD x0_2.toNat (0, 0, 0, [], PUnit.unit)).snd.snd.fst : Int) ((x0_1.getD x0_2.toNat (0, 0, 0, [], PUnit.unit)).snd.snd.snd.fst : List Int) (turnW BinOp.or x0_3 x0_4 [] : List Int) (rWithL (x0_1.getD x0_2.toNat (0, 0, 0, [], PUnit.unit)).fst x0_5 (rOf (x0_1.getD x0_2.toNat (0, 0, 0, [], PUnit.unit)).snd.snd.fst (x0_1.getD x0_2.toNat (0, 0, 0, [], PUnit.unit)).snd.snd.snd.fst) : List Bool)
             else
              none
            else
             bif (x0_1.getD x0_2.toNat (0, 0, 0, [], PUnit.unit)).fst == 1 then
              bif okS x0_3 x0_4 then
               l1 (x0_0 : Int) (x0_1 : List (Int × Int × Int × List Int × PUnit)) (x0_2 : Int) (turnB BinOp.andNot x0_3 x0_4 [] : Bool) (rWithB (x0_1.getD x0_2.toNat (0, 0, 0, [], PUnit.unit)).fst x0_5 (rOf (x0_1.getD x0_2.toNat (0, 0, 0, [], PUnit.unit)).snd.snd.fst (x0_1.getD x0_2.toNat (0, 0, 0, [], PUnit.unit)).snd.snd.snd.fst) : Bool) (x0_3 : Int) ((x0_1.getD x0_2.toNat (0, 0, 0, [], PUnit.unit)).fst : Int) ((x0_1.getD x0_2.toNat (0, 0, 0, [], PUnit.unit)).snd.fst : Int) ((x0_1.getD x0_2.toNat (0, 0, 0, [], PUnit.unit)).snd.snd.fst : Int) ((x0_1.getD x0_2.toNat (0, 0, 0, [], PUnit.unit)).snd.snd.snd.fst : List Int) (turnW BinOp.andNot x0_3 x0_4 [] : List Int) (rWithL (x0_1.getD x0_2.toNat (0, 0, 0, [], PUnit.unit)).fst x0_5 (rOf (x0_1.getD x0_2.toNat (0, 0, 0, [], PUnit.unit)).snd.snd.fst (x0_1.getD x0_2.toNat (0, 0, 0, [], PUnit.unit)).snd.snd.snd.fst) : List Bool)
              else
               none
             else
              bif okS x0_3 x0_4 then
               l1 (x0_0 : Int) (x0_1 : List (Int × Int × Int × List Int × PUnit)) (x0_2 : Int) (turnB BinOp.and x0_3 x0_4 [] : Bool) (rWithB (x0_1.getD x0_2.toNat (0, 0, 0, [], PUnit.unit)).fst x0_5 (rOf (x0_1.getD x0_2.toNat (0, 0, 0, [], PUnit.unit)).snd.snd.fst (x0_1.getD x0_2.toNat (0, 0, 0, [], PUnit.unit)).snd.snd.snd.fst) : Bool) (x0_3 : Int) ((x0_1.getD x0_2.toNat (0, 0, 0, [], PUnit.unit)).fst : Int) ((x0_1.getD x0_2.toNat (0, 0, 0, [], PUnit.unit)).snd.fst : Int) ((x0_1.getD x0_2.toNat (0, 0, 0, [], PUnit.unit)).snd.snd.fst : Int) ((x0_1.getD x0_2.toNat (0, 0, 0, [], PUnit.unit)).snd.snd.snd.fst : List Int) (turnW BinOp.and x0_3 x0_4 [] : List Int) (rWithL (x0_1.getD x0_2.toNat (0, 0, 0, [], PUnit.unit)).fst x0_5 (rOf (x0_1.getD x0_2.toNat (0, 0, 0, [], PUnit.unit)).snd.snd.fst (x0_1.getD x0_2.toNat (0, 0, 0, [], PUnit.unit)).snd.snd.snd.fst) : List Bool)
              else
               none
           else
            none
         else
          none
        else
         none
      else
       none
     else
      bif (x0_1.getD x0_2.toNat (0, 0, 0, [], PUnit.unit)).fst == 3 then
       bif okS x0_3 x0_4 then
        l1 (x0_0 : Int) (x0_1 : List (Int × Int × Int × List Int × PUnit)) (x0_2 : Int) (addB x0_3 x0_4 (x0_1.getD x0_2.toNat (0, 0, 0, [], PUnit.unit)).snd.fst : Bool) (rPutB x0_5 (x0_1.getD x0_2.toNat (0, 0, 0, [], PUnit.unit)).snd.fst true : Bool) (x0_3 : Int) ((x0_1.getD x0_2.toNat (0, 0, 0, [], PUnit.unit)).fst : Int) ((x0_1.getD x0_2.toNat (0, 0, 0, [], PUnit.unit)).snd.fst : Int) ((x0_1.getD x0_2.toNat (0, 0, 0, [], PUnit.unit)).snd.snd.fst : Int) ((x0_1.getD x0_2.toNat (0, 0, 0, [], PUnit.unit)).snd.snd.snd.fst : List Int) (addW x0_3 x0_4 (x0_1.getD x0_2.toNat (0, 0, 0, [], PUnit.unit)).snd.fst : List Int) (rPut x0_5 (x0_1.getD x0_2.toNat (0, 0, 0, [], PUnit.unit)).snd.fst true : List Bool)
       else
        none
      else
       bif (x0_1.getD x0_2.toNat (0, 0, 0, [], PUnit.unit)).fst == 4 then
        bif okS x0_3 x0_4 then
         l1 (x0_0 : Int) (x0_1 : List (Int × Int × Int × List Int × PUnit)) (x0_2 : Int) (hasF x0_3 x0_4 (x0_1.getD x0_2.toNat (0, 0, 0, [], PUnit.unit)).snd.fst : Bool) (rPutB x0_5 (x0_1.getD x0_2.toNat (0, 0, 0, [], PUnit.unit)).snd.fst false : Bool) (x0_3 : Int) ((x0_1.getD x0_2.toNat (0, 0, 0, [], PUnit.unit)).fst : Int) ((x0_1.getD x0_2.toNat (0, 0, 0, [], PUnit.unit)).snd.fst : Int) ((x0_1.getD x0_2.toNat (0, 0, 0, [], PUnit.unit)).snd.snd.fst : Int) ((x0_1.getD x0_2.toNat (0, 0, 0, [], PUnit.unit)).snd.snd.snd.fst : List Int) (delW x0_3 x0_4 (x0_1.getD x0_2.toNat (0, 0, 0, [], PUnit.unit)).snd.fst : List Int) (rPut x0_5 (x0_1.getD x0_2.toNat (0, 0, 0, [], PUnit.unit)).snd.fst false : List Bool)
        else
         none
       else
        bif (x0_1.getD x0_2.toNat (0, 0, 0, [], PUnit.unit)).fst == 5 then
         bif okS x0_3 x0_4 then
          l2 (x0_0 : Int) (x0_1 : List (Int × Int × Int × List Int × PUnit)) (x0_2 : Int) (false : Bool) (false : Bool) ((nextF x0_3 x0_4 (x0_1.getD x0_2.toNat (0, 0, 0, [], PUnit.unit)).snd.fst).fst : Int) ((nextF x0_3 x0_4 (x0_1.getD x0_2.toNat (0, 0, 0, [], PUnit.unit)).snd.fst).snd : Bool) (0 : Int) (false : Bool) (0 : Int) (x0_3 : Int) ((x0_1.getD x0_2.toNat (0, 0, 0, [], PUnit.unit)).fst : Int) ((x0_1.getD x0_2.toNat (0, 0, 0, [], PUnit.unit)).snd.fst : Int) ((x0_1.getD x0_2.toNat (0, 0, 0, [], PUnit.unit)).snd.snd.fst : Int) ((x0_1.getD x0_2.toNat (0, 0, 0, [], PUnit.unit)).snd.snd.snd.fst : List Int) (x0_4 : List Int) (x0_5 : List Bool)
         else
          none
        else
         l1 (x0_0 : Int) (x0_1 : List (Int × Int × Int × List Int × PUnit)) (x0_2 : Int) (false : Bool) (false : Bool) (x0_3 : Int) ((x0_1.getD x0_2.toNat (0, 0, 0, [], PUnit.unit)).fst : Int) ((x0_1.getD x0_2.toNat (0, 0, 0, [], PUnit.unit)).snd.fst : Int) ((x0_1.getD x0_2.toNat (0, 0, 0, [], PUnit.unit)).snd.snd.fst : Int) ((x0_1.getD x0_2.toNat (0, 0, 0, [], PUnit.unit)).snd.snd.snd.fst : List Int) (x0_4 : List Int) (x0_5 : List Bool)
  else
   none
 else
  some (Lf.mk [(Pt.one (L.d (Pv.fz true) Sh.b (true : Bool)))] [] [])
noncomputable def f5L0 (n : Nat)  : Nat → f5G0
  | 0 => fun _ _ _ _ _ _ => none
  | m + 1 => fun x0_0 x0_1 x0_2 x0_3 x0_4 x0_5 => f5S0 (f5L1 n (f5L0 n  m) n) (f5L2 n (f5L0 n  m) n)  (f5L0 n  m) x0_0 x0_1 x0_2 x0_3 x0_4 x0_5
theorem f5S0_ev (n : Nat)  (G : St → Option Lf) (x0_0 : Int) (x0_1 : List (Int × Int × Int × List Int × PUnit)) (x0_2 : Int) (x0_3 : Int) (x0_4 : List Int) (x0_5 : List Bool) : rnd C15 f5h n Lf (codeOf f5f) [1, 1, 1, 1, 1, 1, 1, 0, 1, 0] [] (endK C15 f5h f5f) G (f5H0 x0_0 x0_1 x0_2 x0_3 x0_4 x0_5) = f5S0 (f5W1 (lp C15 f5h n Lf (codeOf f5f) [1, 1, 1, 1, 1, 1, 1, 0, 1, 0, 0, 1, 0, 0, 1, 1] [G] (endK C15 f5h f5f) n)) (f5W2 (lp C15 f5h n Lf (codeOf f5f) [1, 1, 1, 1, 1, 1, 1, 0, 1, 0, 0, 1, 0, 0, 1, 1, 0, 1, 0, 1, 1, 1, 1, 1, 1, 1, 0, 1, 1, 0, 1, 0] [G] (endK C15 f5h f5f) n))  (f5W0 G) x0_0 x0_1 x0_2 x0_3 x0_4 x0_5 := by kernel_rfl
theorem f5W0_ev (n : Nat)  : ∀ m, (f5W0 (lp C15 f5h n Lf (codeOf f5f) [1, 1, 1, 1, 1, 1, 1, 0, 1, 0] [] (endK C15 f5h f5f) m)) = f5L0 n  m := by
  intro m
  induction m with
  | zero => funext x0_0 x0_1 x0_2 x0_3 x0_4 x0_5; exact lp_zero _
  | succ m ih =>
    have e1 : (f5W1 (lp C15 f5h n Lf (codeOf f5f) [1, 1, 1, 1, 1, 1, 1, 0, 1, 0, 0, 1, 0, 0, 1, 1] [(lp C15 f5h n Lf (codeOf f5f) [1, 1, 1, 1, 1, 1, 1, 0, 1, 0] [] (endK C15 f5h f5f) m)] (endK C15 f5h f5f) n)) = (f5L1 n (f5L0 n  m) n) := by
      rw [f5W1_ev, ih]
    have e2 : (f5W2 (lp C15 f5h n Lf (codeOf f5f) [1, 1, 1, 1, 1, 1, 1, 0, 1, 0, 0, 1, 0, 0, 1, 1, 0, 1, 0, 1, 1, 1, 1, 1, 1, 1, 0, 1, 1, 0, 1, 0] [(lp C15 f5h n Lf (codeOf f5f) [1, 1, 1, 1, 1, 1, 1, 0, 1, 0] [] (endK C15 f5h f5f) m)] (endK C15 f5h f5f) n)) = (f5L2 n (f5L0 n  m) n) := by
      rw [f5W2_ev, ih]
    funext x0_0 x0_1 x0_2 x0_3 x0_4 x0_5
    show lp C15 f5h n Lf (codeOf f5f) [1, 1, 1, 1, 1, 1, 1, 0, 1, 0] [] (endK C15 f5h f5f) (m + 1) (f5H0 x0_0 x0_1 x0_2 x0_3 x0_4 x0_5) = f5S0 (f5L1 n (f5L0 n  m) n) (f5L2 n (f5L0 n  m) n)  (f5L0 n  m) x0_0 x0_1 x0_2 x0_3 x0_4 x0_5
    rw [lp_succ, f5S0_ev, ih, e1, e2]
noncomputable def f5T (l0 : f5G0) (z : Int) (fs : List Int) (l : List (Int × Int × Int × List Int × PUnit)) : Option Lf :=
 bif farF l || (decide (zn fs.length > 200) || decide (z > 300) && decide (z ≤ 4096)) then
  some (Lf.mk [(Pt.one (L.d (Pv.fz true) Sh.b (true : Bool)))] [] [])
 else
  bif fs.length.ble 9223372036854775806 then
   bif rOk z fs then
    bif fs.length.ble 9223372036854775806 then
     bif !rOk z fs then
      some (Lf.mk [(Pt.one (L.d (Pv.fz true) Sh.b (false : Bool)))] [] [])
     else
      l0 (z : Int) (l : List (Int × Int × Int × List Int × PUnit)) (0 : Int) (z : Int) (ofW z fs : List Int) (rOf z fs : List Bool)
    else
     none
   else
    bif fs.length.ble 9223372036854775806 then
     bif !rOk z fs then
      bif plain (Er.no 1) then
       some (Lf.mk [(Pt.one (L.d (Pv.fz true) Sh.b (true : Bool)))] [] [])
      else
       none
     else
      some (Lf.mk [(Pt.one (L.d (Pv.fz true) Sh.b (false : Bool)))] [] [])
    else
     none
  else
   none
noncomputable def f5M (n : Nat) (z : Int) (fs : List Int) (l : List (Int × Int × Int × List Int × PUnit)) : Option Lf := f5T (f5L0 n n) z fs l
theorem f5T_ev (n : Nat) (z : Int) (fs : List Int) (l : List (Int × Int × Int × List Int × PUnit)) : evF C15 f5h n f5f [(D.p (Pt.one (L.d (Pv.fz true) (Sh.i IntKind.i64) z))), (D.p (Pt.one (L.d (Pv.fz false) (Sh.l (Sh.i IntKind.i64)) fs))), (D.p (Pt.one (L.d (Pv.fz false) (Sh.l (Sh.p (Sh.i IntKind.i64) (Sh.p (Sh.i IntKind.i64) (Sh.p (Sh.i IntKind.i64) (Sh.p (Sh.l (Sh.i IntKind.i64)) Sh.u))))) l)))] [] = f5T (f5W0 (lp C15 f5h n Lf (codeOf f5f) [1, 1, 1, 1, 1, 1, 1, 0, 1, 0] [] (endK C15 f5h f5f) n)) z fs l := by kernel_rfl
theorem f5_ev (n : Nat) (z : Int) (fs : List Int) (l : List (Int × Int × Int × List Int × PUnit)) : evF C15 f5h n f5f [(D.p (Pt.one (L.d (Pv.fz true) (Sh.i IntKind.i64) z))), (D.p (Pt.one (L.d (Pv.fz false) (Sh.l (Sh.i IntKind.i64)) fs))), (D.p (Pt.one (L.d (Pv.fz false) (Sh.l (Sh.p (Sh.i IntKind.i64) (Sh.p (Sh.i IntKind.i64) (Sh.p (Sh.i IntKind.i64) (Sh.p (Sh.l (Sh.i IntKind.i64)) Sh.u))))) l)))] [] = f5M n z fs l := by
  rw [f5T_ev, f5W0_ev]
  rfl
end Go.S1
