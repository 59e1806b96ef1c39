/-
  Seat 22: functional forms of the document's picks.
-/
import Derived.Test.YtjkojhpmiijgfaaDoorS22J
open Go Go.En Go.S22
namespace Go.S22


abbrev r17h : Hn := h17r
noncomputable abbrev r17f : Func := fn 17
abbrev r17G0 := Int → Int → Int → (List (List (ByteArray × List (Int × Int × Unit) × Unit))) → (List ByteArray) → (List (List Int)) → Option Lf
noncomputable def r17H0 (x0_0 : Int) (x0_1 : Int) (x0_2 : Int) (x0_3 : List (List (ByteArray × List (Int × Int × Unit) × Unit))) (x0_4 : List ByteArray) (x0_5 : List (List Int)) : St := (St.mk [dead, (D.p (Pt.one (L.pv (Id.mk 1 0) 0))), dead, (D.p (Pt.one (L.d (Pv.fz true) (Sh.i IntKind.i64) x0_0))), (D.p (Pt.one (L.d (Pv.fz true) (Sh.i IntKind.i64) x0_1))), dead, dead, dead, dead, dead, dead, dead, dead, dead, dead, dead, dead, dead, dead, dead, dead, dead, dead] [[], [(Ob.va [(L.d (Pv.fz true) (Sh.i IntKind.i64) x0_2), (L.d (Pv.fz false) (Sh.l (Sh.l (Sh.p Sh.s (Sh.p (Sh.l (Sh.p (Sh.i IntKind.i64) (Sh.p (Sh.i IntKind.i64) Sh.u))) Sh.u)))) x0_3), (L.d (Pv.fz false) (Sh.l Sh.s) x0_4), (L.d (Pv.fz false) (Sh.l (Sh.l (Sh.i IntKind.i64))) x0_5)])]])
noncomputable def r17W0 (G : St → Option Lf) : r17G0 := fun x0_0 x0_1 x0_2 x0_3 x0_4 x0_5 => G (r17H0 x0_0 x0_1 x0_2 x0_3 x0_4 x0_5)
noncomputable def r17S0  (g0 : r17G0) (x0_0 : Int) (x0_1 : Int) (x0_2 : Int) (x0_3 : List (List (ByteArray × List (Int × Int × Unit) × Unit))) (x0_4 : List ByteArray) (x0_5 : List (List Int)) : Option Lf :=
 bif decide (x0_1 < zn x0_3.length) then
  bif inb x0_1 x0_3.length then
   bif decide (IntKind.i64.wrap (x0_0 * zn (x0_3.getD x0_1.toNat []).length) > 100000) then
    some (Lf.mk [(Pt.one (L.d (Pv.fz true) (Sh.i IntKind.i64) (100000 : Int)))] [] [])
   else
    g0 (IntKind.i64.wrap (x0_0 * zn (x0_3.getD x0_1.toNat []).length) : Int) (IntKind.i64.wrap (x0_1 + 1) : Int) (x0_2 : Int) (x0_3 : List (List (ByteArray × List (Int × Int × Unit) × Unit))) (x0_4 : List ByteArray) (x0_5 : List (List Int))
  else
   none
 else
  some (Lf.mk [(Pt.one (L.d (Pv.fz true) (Sh.i IntKind.i64) (x0_0 : Int)))] [] [])
noncomputable def r17L0 (n : Nat)  : Nat → r17G0
  | 0 => fun _ _ _ _ _ _ => none
  | m + 1 => fun x0_0 x0_1 x0_2 x0_3 x0_4 x0_5 => r17S0   (r17L0 n  m) x0_0 x0_1 x0_2 x0_3 x0_4 x0_5
theorem r17S0_ev (n : Nat)  (G : St → Option Lf) (x0_0 : Int) (x0_1 : Int) (x0_2 : Int) (x0_3 : List (List (ByteArray × List (Int × Int × Unit) × Unit))) (x0_4 : List ByteArray) (x0_5 : List (List Int)) : rnd C1 r17h n Lf (codeOf r17f) [1, 1, 0, 1, 0] [] (endK C1 r17h r17f) G (r17H0 x0_0 x0_1 x0_2 x0_3 x0_4 x0_5) = r17S0   (r17W0 G) x0_0 x0_1 x0_2 x0_3 x0_4 x0_5 := by kernel_rfl
theorem r17W0_ev (n : Nat)  : ∀ m, (r17W0 (lp C1 r17h n Lf (codeOf r17f) [1, 1, 0, 1, 0] [] (endK C1 r17h r17f) m)) = r17L0 n  m := by
  intro m
  induction m with
  | zero => funext x0_0 x0_1 x0_2 x0_3 x0_4 x0_5; exact lp_zero _
  | succ m ih =>
    funext x0_0 x0_1 x0_2 x0_3 x0_4 x0_5
    show lp C1 r17h n Lf (codeOf r17f) [1, 1, 0, 1, 0] [] (endK C1 r17h r17f) (m + 1) (r17H0 x0_0 x0_1 x0_2 x0_3 x0_4 x0_5) = r17S0   (r17L0 n  m) x0_0 x0_1 x0_2 x0_3 x0_4 x0_5
    rw [lp_succ, r17S0_ev, ih]
noncomputable def r17T (l0 : r17G0) (i : Int) (ch : List (List (ByteArray × List (Int × Int × Unit) × Unit))) (nm : List ByteArray) (ho : List (List Int)) : Option Lf :=
 l0 (1 : Int) (0 : Int) (i : Int) (ch : List (List (ByteArray × List (Int × Int × Unit) × Unit))) (nm : List ByteArray) (ho : List (List Int))
noncomputable def r17M (n : Nat) (i : Int) (ch : List (List (ByteArray × List (Int × Int × Unit) × Unit))) (nm : List ByteArray) (ho : List (List Int)) : Option Lf := r17T (r17L0 n n) i ch nm ho
theorem r17T_ev (n : Nat) (i : Int) (ch : List (List (ByteArray × List (Int × Int × Unit) × Unit))) (nm : List ByteArray) (ho : List (List Int)) : evF C1 r17h n r17f [(D.p (Pt.agg [(L.d (Pv.fz true) (Sh.i IntKind.i64) i), (L.d (Pv.fz false) (Sh.l (Sh.l (Sh.p Sh.s (Sh.p (Sh.l (Sh.p (Sh.i IntKind.i64) (Sh.p (Sh.i IntKind.i64) Sh.u))) Sh.u)))) ch), (L.d (Pv.fz false) (Sh.l Sh.s) nm), (L.d (Pv.fz false) (Sh.l (Sh.l (Sh.i IntKind.i64))) ho)]))] [] = r17T (r17W0 (lp C1 r17h n Lf (codeOf r17f) [1, 1, 0, 1, 0] [] (endK C1 r17h r17f) n)) i ch nm ho := by kernel_rfl
theorem r17_ev (n : Nat) (i : Int) (ch : List (List (ByteArray × List (Int × Int × Unit) × Unit))) (nm : List ByteArray) (ho : List (List Int)) : evF C1 r17h n r17f [(D.p (Pt.agg [(L.d (Pv.fz true) (Sh.i IntKind.i64) i), (L.d (Pv.fz false) (Sh.l (Sh.l (Sh.p Sh.s (Sh.p (Sh.l (Sh.p (Sh.i IntKind.i64) (Sh.p (Sh.i IntKind.i64) Sh.u))) Sh.u)))) ch), (L.d (Pv.fz false) (Sh.l Sh.s) nm), (L.d (Pv.fz false) (Sh.l (Sh.l (Sh.i IntKind.i64))) ho)]))] [] = r17M n i ch nm ho := by
  rw [r17T_ev, r17W0_ev]
  rfl

abbrev r33h : Hn := h33r
noncomputable abbrev r33f : Func := fn 33
abbrev r33G0 := Int → Int → Int → (List (List (ByteArray × List (Int × Int × Unit) × Unit))) → (List ByteArray) → (List (List Int)) → (List Int) → Option Lf
noncomputable def r33H0 (x0_0 : Int) (x0_1 : Int) (x0_2 : Int) (x0_3 : List (List (ByteArray × List (Int × Int × Unit) × Unit))) (x0_4 : List ByteArray) (x0_5 : List (List Int)) (x0_6 : List Int) : St := (St.mk [dead, (D.p (Pt.one (L.d (Pv.fz true) (Sh.i IntKind.i64) x0_0))), (D.p (Pt.one (L.pv (Id.mk 1 0) 0))), dead, dead, (D.p (Pt.one (L.rw (Id.mk 1 1)))), (D.p (Pt.one (L.d (Pv.fz true) (Sh.i IntKind.i64) x0_1))), dead, dead, dead, dead, dead, dead, dead, dead, dead, dead, dead, dead, dead, dead, dead, dead, dead, dead, dead, dead, dead, dead, dead, dead, dead, dead, dead] [[], [(Ob.va [(L.d (Pv.fz true) (Sh.i IntKind.i64) x0_2), (L.d (Pv.fz false) (Sh.l (Sh.l (Sh.p Sh.s (Sh.p (Sh.l (Sh.p (Sh.i IntKind.i64) (Sh.p (Sh.i IntKind.i64) Sh.u))) Sh.u)))) x0_3), (L.d (Pv.fz false) (Sh.l Sh.s) x0_4), (L.d (Pv.fz false) (Sh.l (Sh.l (Sh.i IntKind.i64))) x0_5)]), (Ob.ro true 0 3 (Sh.i IntKind.i64) Ow.z x0_6 Option.none)]])
noncomputable def r33W0 (G : St → Option Lf) : r33G0 := fun x0_0 x0_1 x0_2 x0_3 x0_4 x0_5 x0_6 => G (r33H0 x0_0 x0_1 x0_2 x0_3 x0_4 x0_5 x0_6)
noncomputable def r33S0  (g0 : r33G0) (x0_0 : Int) (x0_1 : Int) (x0_2 : Int) (x0_3 : List (List (ByteArray × List (Int × Int × Unit) × Unit))) (x0_4 : List ByteArray) (x0_5 : List (List Int)) (x0_6 : List Int) : Option Lf :=
 bif decide (x0_1 < zn x0_3.length) then
  bif inb x0_1 x0_3.length then
   bif decide (zn (x0_3.getD x0_1.toNat []).length ≠ 0) then
    bif decide ((x0_6.length + [x0_0.tmod (zn (x0_3.getD x0_1.toNat []).length)].length) * 8 ≤ 140737488355328) then
     bif inb x0_1 x0_3.length then
      bif decide (zn (x0_3.getD x0_1.toNat []).length ≠ 0) then
       g0 (IntKind.i64.wrap (x0_0.tdiv (zn (x0_3.getD x0_1.toNat []).length)) : Int) (IntKind.i64.wrap (x0_1 + 1) : Int) (x0_2 : Int) (x0_3 : List (List (ByteArray × List (Int × Int × Unit) × Unit))) (x0_4 : List ByteArray) (x0_5 : List (List Int)) (x0_6 ++ [x0_0.tmod (zn (x0_3.getD x0_1.toNat []).length)] : List Int)
      else
       none
     else
      none
    else
     none
   else
    none
  else
   none
 else
  some (Lf.mk [(Pt.one (L.rw (Id.mk 1 0)))] [] [(Ob.ro true 0 3 (Sh.i IntKind.i64) Ow.z (x0_6 : List Int) Option.none)])
noncomputable def r33L0 (n : Nat)  : Nat → r33G0
  | 0 => fun _ _ _ _ _ _ _ => none
  | m + 1 => fun x0_0 x0_1 x0_2 x0_3 x0_4 x0_5 x0_6 => r33S0   (r33L0 n  m) x0_0 x0_1 x0_2 x0_3 x0_4 x0_5 x0_6
theorem r33S0_ev (n : Nat)  (G : St → Option Lf) (x0_0 : Int) (x0_1 : Int) (x0_2 : Int) (x0_3 : List (List (ByteArray × List (Int × Int × Unit) × Unit))) (x0_4 : List ByteArray) (x0_5 : List (List Int)) (x0_6 : List Int) : rnd C1 r33h n Lf (codeOf r33f) [1, 1, 0, 1, 0] [] (endK C1 r33h r33f) G (r33H0 x0_0 x0_1 x0_2 x0_3 x0_4 x0_5 x0_6) = r33S0   (r33W0 G) x0_0 x0_1 x0_2 x0_3 x0_4 x0_5 x0_6 := by kernel_rfl
theorem r33W0_ev (n : Nat)  : ∀ m, (r33W0 (lp C1 r33h n Lf (codeOf r33f) [1, 1, 0, 1, 0] [] (endK C1 r33h r33f) m)) = r33L0 n  m := by
  intro m
  induction m with
  | zero => funext x0_0 x0_1 x0_2 x0_3 x0_4 x0_5 x0_6; exact lp_zero _
  | succ m ih =>
    funext x0_0 x0_1 x0_2 x0_3 x0_4 x0_5 x0_6
    show lp C1 r33h n Lf (codeOf r33f) [1, 1, 0, 1, 0] [] (endK C1 r33h r33f) (m + 1) (r33H0 x0_0 x0_1 x0_2 x0_3 x0_4 x0_5 x0_6) = r33S0   (r33L0 n  m) x0_0 x0_1 x0_2 x0_3 x0_4 x0_5 x0_6
    rw [lp_succ, r33S0_ev, ih]
noncomputable def r33T (l0 : r33G0) (i : Int) (ch : List (List (ByteArray × List (Int × Int × Unit) × Unit))) (nm : List ByteArray) (ho : List (List Int)) (k : Int) : Option Lf :=
 l0 (k : Int) (0 : Int) (i : Int) (ch : List (List (ByteArray × List (Int × Int × Unit) × Unit))) (nm : List ByteArray) (ho : List (List Int)) ([] : List Int)
noncomputable def r33M (n : Nat) (i : Int) (ch : List (List (ByteArray × List (Int × Int × Unit) × Unit))) (nm : List ByteArray) (ho : List (List Int)) (k : Int) : Option Lf := r33T (r33L0 n n) i ch nm ho k
theorem r33T_ev (n : Nat) (i : Int) (ch : List (List (ByteArray × List (Int × Int × Unit) × Unit))) (nm : List ByteArray) (ho : List (List Int)) (k : Int) : evF C1 r33h n r33f [(D.p (Pt.agg [(L.d (Pv.fz true) (Sh.i IntKind.i64) i), (L.d (Pv.fz false) (Sh.l (Sh.l (Sh.p Sh.s (Sh.p (Sh.l (Sh.p (Sh.i IntKind.i64) (Sh.p (Sh.i IntKind.i64) Sh.u))) Sh.u)))) ch), (L.d (Pv.fz false) (Sh.l Sh.s) nm), (L.d (Pv.fz false) (Sh.l (Sh.l (Sh.i IntKind.i64))) ho)])), (D.p (Pt.one (L.d (Pv.fz true) (Sh.i IntKind.i64) k)))] [] = r33T (r33W0 (lp C1 r33h n Lf (codeOf r33f) [1, 1, 0, 1, 0] [] (endK C1 r33h r33f) n)) i ch nm ho k := by kernel_rfl
theorem r33_ev (n : Nat) (i : Int) (ch : List (List (ByteArray × List (Int × Int × Unit) × Unit))) (nm : List ByteArray) (ho : List (List Int)) (k : Int) : evF C1 r33h n r33f [(D.p (Pt.agg [(L.d (Pv.fz true) (Sh.i IntKind.i64) i), (L.d (Pv.fz false) (Sh.l (Sh.l (Sh.p Sh.s (Sh.p (Sh.l (Sh.p (Sh.i IntKind.i64) (Sh.p (Sh.i IntKind.i64) Sh.u))) Sh.u)))) ch), (L.d (Pv.fz false) (Sh.l Sh.s) nm), (L.d (Pv.fz false) (Sh.l (Sh.l (Sh.i IntKind.i64))) ho)])), (D.p (Pt.one (L.d (Pv.fz true) (Sh.i IntKind.i64) k)))] [] = r33M n i ch nm ho k := by
  rw [r33T_ev, r33W0_ev]
  rfl

abbrev r20h : Hn := h20r
noncomputable abbrev r20f : Func := fn 20
abbrev r20G0 := (List Bool) → (List Int) → Int → Bool → Int → (List (List (ByteArray × List (Int × Int × Unit) × Unit))) → (List ByteArray) → (List (List Int)) → (List Bool) → Option Lf
noncomputable def r20H0 (x0_0 : List Bool) (x0_1 : List Int) (x0_2 : Int) (x0_3 : Bool) (x0_4 : Int) (x0_5 : List (List (ByteArray × List (Int × Int × Unit) × Unit))) (x0_6 : List ByteArray) (x0_7 : List (List Int)) (x0_8 : List Bool) : St := (St.mk [dead, (D.p (Pt.one (L.d (Pv.fz false) (Sh.l Sh.b) x0_0))), (D.p (Pt.one (L.d (Pv.fz false) (Sh.l (Sh.i IntKind.i64)) x0_1))), (D.p (Pt.one (L.pv (Id.mk 1 0) 0))), dead, dead, dead, dead, (D.p (Pt.one (L.d (Pv.fz true) (Sh.i IntKind.i64) x0_2))), (D.p (Pt.one (L.rw (Id.mk 1 1)))), (D.p (Pt.one (L.d (Pv.fz true) Sh.b x0_3))), dead, dead, dead, dead, dead, dead, dead, dead, dead, dead, dead, dead, dead, dead, dead, dead, dead, dead, dead, dead, dead, dead, dead, dead, dead, dead, dead, dead, dead, dead, dead, dead, dead, dead, dead, dead, dead, dead, dead, dead, dead, dead, dead, dead, dead, dead, dead, dead, dead, dead, dead, dead, dead, dead, dead, dead, dead, dead, dead, dead, dead, dead, dead, dead, dead, dead, dead, dead, dead, dead, dead, dead, dead, dead, dead, dead, dead, dead, dead, dead, dead, dead, dead, dead, dead, dead, dead, dead, dead, dead, dead, dead, dead, dead, dead, dead, dead, dead, dead, dead, dead, dead, dead, dead, dead, dead, dead, dead, dead] [[], [(Ob.va [(L.d (Pv.fz true) (Sh.i IntKind.i64) x0_4), (L.d (Pv.fz false) (Sh.l (Sh.l (Sh.p Sh.s (Sh.p (Sh.l (Sh.p (Sh.i IntKind.i64) (Sh.p (Sh.i IntKind.i64) Sh.u))) Sh.u)))) x0_5), (L.d (Pv.fz false) (Sh.l Sh.s) x0_6), (L.d (Pv.fz false) (Sh.l (Sh.l (Sh.i IntKind.i64))) x0_7)]), (Ob.ro true 0 4 Sh.b Ow.z x0_8 Option.none)]])
noncomputable def r20W0 (G : St → Option Lf) : r20G0 := fun x0_0 x0_1 x0_2 x0_3 x0_4 x0_5 x0_6 x0_7 x0_8 => G (r20H0 x0_0 x0_1 x0_2 x0_3 x0_4 x0_5 x0_6 x0_7 x0_8)
abbrev r20G1 := (List Bool) → (List Int) → Int → Bool → Int → Int → (List (List (ByteArray × List (Int × Int × Unit) × Unit))) → (List ByteArray) → (List (List Int)) → (List Bool) → Option Lf
noncomputable def r20H1 (x1_0 : List Bool) (x1_1 : List Int) (x1_2 : Int) (x1_3 : Bool) (x1_4 : Int) (x1_5 : Int) (x1_6 : List (List (ByteArray × List (Int × Int × Unit) × Unit))) (x1_7 : List ByteArray) (x1_8 : List (List Int)) (x1_9 : List Bool) : St := (St.mk [dead, (D.p (Pt.one (L.d (Pv.fz false) (Sh.l Sh.b) x1_0))), (D.p (Pt.one (L.d (Pv.fz false) (Sh.l (Sh.i IntKind.i64)) x1_1))), (D.p (Pt.one (L.pv (Id.mk 1 0) 0))), dead, dead, dead, dead, (D.p (Pt.one (L.d (Pv.fz true) (Sh.i IntKind.i64) x1_2))), (D.p (Pt.one (L.rw (Id.mk 1 1)))), (D.p (Pt.one (L.d (Pv.fz true) Sh.b x1_3))), (D.p (Pt.one (L.d (Pv.fz true) (Sh.i IntKind.i64) x1_4))), dead, dead, dead, dead, dead, dead, dead, dead, dead, dead, dead, dead, dead, dead, dead, dead, dead, dead, dead, dead, dead, dead, dead, dead, dead, dead, dead, dead, dead, dead, dead, dead, dead, dead, dead, dead, dead, dead, dead, dead, dead, dead, dead, dead, dead, dead, dead, dead, dead, dead, dead, dead, dead, dead, dead, dead, dead, dead, dead, dead, dead, dead, dead, dead, dead, dead, dead, dead, dead, dead, dead, dead, dead, dead, dead, dead, dead, dead, dead, dead, dead, dead, dead, dead, dead, dead, dead, dead, dead, dead, dead, dead, dead, dead, dead, dead, dead, dead, dead, dead, dead, dead, dead, dead, dead, dead, dead, dead] [[], [(Ob.va [(L.d (Pv.fz true) (Sh.i IntKind.i64) x1_5), (L.d (Pv.fz false) (Sh.l (Sh.l (Sh.p Sh.s (Sh.p (Sh.l (Sh.p (Sh.i IntKind.i64) (Sh.p (Sh.i IntKind.i64) Sh.u))) Sh.u)))) x1_6), (L.d (Pv.fz false) (Sh.l Sh.s) x1_7), (L.d (Pv.fz false) (Sh.l (Sh.l (Sh.i IntKind.i64))) x1_8)]), (Ob.ro true 0 4 Sh.b Ow.z x1_9 Option.none)]])
noncomputable def r20W1 (G : St → Option Lf) : r20G1 := fun x1_0 x1_1 x1_2 x1_3 x1_4 x1_5 x1_6 x1_7 x1_8 x1_9 => G (r20H1 x1_0 x1_1 x1_2 x1_3 x1_4 x1_5 x1_6 x1_7 x1_8 x1_9)
abbrev r20G2 := (List Bool) → (List Int) → Int → Bool → Int → (List (Int × Int × Unit)) → Int → Int → (List (List (ByteArray × List (Int × Int × Unit) × Unit))) → (List ByteArray) → (List (List Int)) → (List Bool) → Option Lf
noncomputable def r20H2 (x2_0 : List Bool) (x2_1 : List Int) (x2_2 : Int) (x2_3 : Bool) (x2_4 : Int) (x2_5 : List (Int × Int × Unit)) (x2_6 : Int) (x2_7 : Int) (x2_8 : List (List (ByteArray × List (Int × Int × Unit) × Unit))) (x2_9 : List ByteArray) (x2_10 : List (List Int)) (x2_11 : List Bool) : St := (St.mk [dead, (D.p (Pt.one (L.d (Pv.fz false) (Sh.l Sh.b) x2_0))), (D.p (Pt.one (L.d (Pv.fz false) (Sh.l (Sh.i IntKind.i64)) x2_1))), (D.p (Pt.one (L.pv (Id.mk 1 0) 0))), dead, dead, dead, dead, (D.p (Pt.one (L.d (Pv.fz true) (Sh.i IntKind.i64) x2_2))), (D.p (Pt.one (L.rw (Id.mk 1 1)))), (D.p (Pt.one (L.d (Pv.fz true) Sh.b x2_3))), (D.p (Pt.one (L.d (Pv.fz true) (Sh.i IntKind.i64) x2_4))), (D.p (Pt.one (L.d (Pv.fz false) (Sh.l (Sh.p (Sh.i IntKind.i64) (Sh.p (Sh.i IntKind.i64) Sh.u))) x2_5))), (D.p (Pt.one (L.d (Pv.fz true) (Sh.i IntKind.i64) x2_6))), dead, dead, dead, dead, dead, dead, dead, dead, dead, dead, dead, dead, dead, dead, dead, dead, dead, dead, dead, dead, dead, dead, dead, dead, dead, dead, dead, dead, dead, dead, dead, dead, dead, dead, dead, dead, dead, dead, dead, dead, dead, dead, dead, dead, dead, dead, dead, dead, dead, dead, dead, dead, dead, dead, dead, dead, dead, dead, dead, dead, dead, dead, dead, dead, dead, dead, dead, dead, dead, dead, dead, dead, dead, dead, dead, dead, dead, dead, dead, dead, dead, dead, dead, dead, dead, dead, dead, dead, dead, dead, dead, dead, dead, dead, dead, dead, dead, dead, dead, dead, dead, dead, dead, dead, dead, dead] [[], [(Ob.va [(L.d (Pv.fz true) (Sh.i IntKind.i64) x2_7), (L.d (Pv.fz false) (Sh.l (Sh.l (Sh.p Sh.s (Sh.p (Sh.l (Sh.p (Sh.i IntKind.i64) (Sh.p (Sh.i IntKind.i64) Sh.u))) Sh.u)))) x2_8), (L.d (Pv.fz false) (Sh.l Sh.s) x2_9), (L.d (Pv.fz false) (Sh.l (Sh.l (Sh.i IntKind.i64))) x2_10)]), (Ob.ro true 0 4 Sh.b Ow.z x2_11 Option.none)]])
noncomputable def r20W2 (G : St → Option Lf) : r20G2 := fun x2_0 x2_1 x2_2 x2_3 x2_4 x2_5 x2_6 x2_7 x2_8 x2_9 x2_10 x2_11 => G (r20H2 x2_0 x2_1 x2_2 x2_3 x2_4 x2_5 x2_6 x2_7 x2_8 x2_9 x2_10 x2_11)
noncomputable def r20S2  (g0 : r20G0) (g1 : r20G1) (g2 : r20G2) (x2_0 : List Bool) (x2_1 : List Int) (x2_2 : Int) (x2_3 : Bool) (x2_4 : Int) (x2_5 : List (Int × Int × Unit)) (x2_6 : Int) (x2_7 : Int) (x2_8 : List (List (ByteArray × List (Int × Int × Unit) × Unit))) (x2_9 : List ByteArray) (x2_10 : List (List Int)) (x2_11 : List Bool) : Option Lf :=
 bif bif decide (x2_6 < zn x2_5.length) then Nat.beq 1 1 && (inb x2_4 x2_11.length && true) else true then
  bif decide (x2_6 < zn x2_5.length) && !x2_11.getD x2_4.toNat false then
   bif inb x2_6 x2_5.length then
    bif inb (x2_5.getD x2_6.toNat (0, 0, ())).fst x2_11.length then
     bif x2_11.getD (x2_5.getD x2_6.toNat (0, 0, ())).fst.toNat false then
      bif inb x2_4 x2_11.length then
       g2 (x2_0 : List Bool) (x2_1 : List Int) (x2_2 : Int) (true : Bool) (x2_4 : Int) (x2_5 : List (Int × Int × Unit)) (IntKind.i64.wrap (x2_6 + 1) : Int) (x2_7 : Int) (x2_8 : List (List (ByteArray × List (Int × Int × Unit) × Unit))) (x2_9 : List ByteArray) (x2_10 : List (List Int)) (x2_11.set x2_4.toNat true : List Bool)
      else
       none
     else
      g2 (x2_0 : List Bool) (x2_1 : List Int) (x2_2 : Int) (x2_3 : Bool) (x2_4 : Int) (x2_5 : List (Int × Int × Unit)) (IntKind.i64.wrap (x2_6 + 1) : Int) (x2_7 : Int) (x2_8 : List (List (ByteArray × List (Int × Int × Unit) × Unit))) (x2_9 : List ByteArray) (x2_10 : List (List Int)) (x2_11 : List Bool)
    else
     none
   else
    none
  else
   g1 (x2_0 : List Bool) (x2_1 : List Int) (x2_2 : Int) (x2_3 : Bool) (IntKind.i64.wrap (x2_4 + 1) : Int) (x2_7 : Int) (x2_8 : List (List (ByteArray × List (Int × Int × Unit) × Unit))) (x2_9 : List ByteArray) (x2_10 : List (List Int)) (x2_11 : List Bool)
 else
  none
noncomputable def r20L2 (n : Nat) (g0 : r20G0) (g1 : r20G1) : Nat → r20G2
  | 0 => fun _ _ _ _ _ _ _ _ _ _ _ _ => none
  | m + 1 => fun x2_0 x2_1 x2_2 x2_3 x2_4 x2_5 x2_6 x2_7 x2_8 x2_9 x2_10 x2_11 => r20S2  g0 g1 (r20L2 n g0 g1 m) x2_0 x2_1 x2_2 x2_3 x2_4 x2_5 x2_6 x2_7 x2_8 x2_9 x2_10 x2_11
theorem r20S2_ev (n : Nat) (G0 : St → Option Lf) (G1 : St → Option Lf) (G : St → Option Lf) (x2_0 : List Bool) (x2_1 : List Int) (x2_2 : Int) (x2_3 : Bool) (x2_4 : Int) (x2_5 : List (Int × Int × Unit)) (x2_6 : Int) (x2_7 : Int) (x2_8 : List (List (ByteArray × List (Int × Int × Unit) × Unit))) (x2_9 : List ByteArray) (x2_10 : List (List Int)) (x2_11 : List Bool) : rnd C1 r20h n Lf (codeOf r20f) [1, 1, 1, 0, 1, 0, 0, 1, 0, 1, 1, 0, 0, 1, 0, 0, 1, 1, 0] [G0, G1] (endK C1 r20h r20f) G (r20H2 x2_0 x2_1 x2_2 x2_3 x2_4 x2_5 x2_6 x2_7 x2_8 x2_9 x2_10 x2_11) = r20S2  (r20W0 G0) (r20W1 G1) (r20W2 G) x2_0 x2_1 x2_2 x2_3 x2_4 x2_5 x2_6 x2_7 x2_8 x2_9 x2_10 x2_11 := by kernel_rfl
theorem r20W2_ev (n : Nat) (G0 : St → Option Lf) (G1 : St → Option Lf) : ∀ m, (r20W2 (lp C1 r20h n Lf (codeOf r20f) [1, 1, 1, 0, 1, 0, 0, 1, 0, 1, 1, 0, 0, 1, 0, 0, 1, 1, 0] [G0, G1] (endK C1 r20h r20f) m)) = r20L2 n (r20W0 G0) (r20W1 G1) m := by
  intro m
  induction m with
  | zero => funext x2_0 x2_1 x2_2 x2_3 x2_4 x2_5 x2_6 x2_7 x2_8 x2_9 x2_10 x2_11; exact lp_zero _
  | succ m ih =>
    funext x2_0 x2_1 x2_2 x2_3 x2_4 x2_5 x2_6 x2_7 x2_8 x2_9 x2_10 x2_11
    show lp C1 r20h n Lf (codeOf r20f) [1, 1, 1, 0, 1, 0, 0, 1, 0, 1, 1, 0, 0, 1, 0, 0, 1, 1, 0] [G0, G1] (endK C1 r20h r20f) (m + 1) (r20H2 x2_0 x2_1 x2_2 x2_3 x2_4 x2_5 x2_6 x2_7 x2_8 x2_9 x2_10 x2_11) = r20S2  (r20W0 G0) (r20W1 G1) (r20L2 n (r20W0 G0) (r20W1 G1) m) x2_0 x2_1 x2_2 x2_3 x2_4 x2_5 x2_6 x2_7 x2_8 x2_9 x2_10 x2_11
    rw [lp_succ, r20S2_ev, ih]
noncomputable def r20S1 (l2 : r20G2) (g0 : r20G0) (g1 : r20G1) (x1_0 : List Bool) (x1_1 : List Int) (x1_2 : Int) (x1_3 : Bool) (x1_4 : Int) (x1_5 : Int) (x1_6 : List (List (ByteArray × List (Int × Int × Unit) × Unit))) (x1_7 : List ByteArray) (x1_8 : List (List Int)) (x1_9 : List Bool) : Option Lf :=
 bif decide (x1_4 < x1_2) then
  bif inb x1_4 x1_6.length then
   bif inb x1_4 x1_1.length then
    bif inb (x1_1.getD x1_4.toNat 0) (x1_6.getD x1_4.toNat []).length then
     l2 (x1_0 : List Bool) (x1_1 : List Int) (x1_2 : Int) (x1_3 : Bool) (x1_4 : Int) (((x1_6.getD x1_4.toNat []).getD (x1_1.getD x1_4.toNat 0).toNat ({ data := #[] }, [], ())).snd.fst : List (Int × Int × Unit)) (0 : Int) (x1_5 : Int) (x1_6 : List (List (ByteArray × List (Int × Int × Unit) × Unit))) (x1_7 : List ByteArray) (x1_8 : List (List Int)) (x1_9 : List Bool)
    else
     none
   else
    none
  else
   none
 else
  g0 (x1_0 : List Bool) (x1_1 : List Int) (x1_2 : Int) (x1_3 : Bool) (x1_5 : Int) (x1_6 : List (List (ByteArray × List (Int × Int × Unit) × Unit))) (x1_7 : List ByteArray) (x1_8 : List (List Int)) (x1_9 : List Bool)
noncomputable def r20L1 (n : Nat) (g0 : r20G0) : Nat → r20G1
  | 0 => fun _ _ _ _ _ _ _ _ _ _ => none
  | m + 1 => fun x1_0 x1_1 x1_2 x1_3 x1_4 x1_5 x1_6 x1_7 x1_8 x1_9 => r20S1 (r20L2 n g0 (r20L1 n g0 m) n) g0 (r20L1 n g0 m) x1_0 x1_1 x1_2 x1_3 x1_4 x1_5 x1_6 x1_7 x1_8 x1_9
theorem r20S1_ev (n : Nat) (G0 : St → Option Lf) (G : St → Option Lf) (x1_0 : List Bool) (x1_1 : List Int) (x1_2 : Int) (x1_3 : Bool) (x1_4 : Int) (x1_5 : Int) (x1_6 : List (List (ByteArray × List (Int × Int × Unit) × Unit))) (x1_7 : List ByteArray) (x1_8 : List (List Int)) (x1_9 : List Bool) : rnd C1 r20h n Lf (codeOf r20f) [1, 1, 1, 0, 1, 0, 0, 1, 0, 1, 1, 0] [G0] (endK C1 r20h r20f) G (r20H1 x1_0 x1_1 x1_2 x1_3 x1_4 x1_5 x1_6 x1_7 x1_8 x1_9) = r20S1 (r20W2 (lp C1 r20h n Lf (codeOf r20f) [1, 1, 1, 0, 1, 0, 0, 1, 0, 1, 1, 0, 0, 1, 0, 0, 1, 1, 0] [G0, G] (endK C1 r20h r20f) n)) (r20W0 G0) (r20W1 G) x1_0 x1_1 x1_2 x1_3 x1_4 x1_5 x1_6 x1_7 x1_8 x1_9 := by kernel_rfl
theorem r20W1_ev (n : Nat) (G0 : St → Option Lf) : ∀ m, (r20W1 (lp C1 r20h n Lf (codeOf r20f) [1, 1, 1, 0, 1, 0, 0, 1, 0, 1, 1, 0] [G0] (endK C1 r20h r20f) m)) = r20L1 n (r20W0 G0) m := by
  intro m
  induction m with
  | zero => funext x1_0 x1_1 x1_2 x1_3 x1_4 x1_5 x1_6 x1_7 x1_8 x1_9; exact lp_zero _
  | succ m ih =>
    have e2 : (r20W2 (lp C1 r20h n Lf (codeOf r20f) [1, 1, 1, 0, 1, 0, 0, 1, 0, 1, 1, 0, 0, 1, 0, 0, 1, 1, 0] [G0, (lp C1 r20h n Lf (codeOf r20f) [1, 1, 1, 0, 1, 0, 0, 1, 0, 1, 1, 0] [G0] (endK C1 r20h r20f) m)] (endK C1 r20h r20f) n)) = (r20L2 n (r20W0 G0) (r20L1 n (r20W0 G0) m) n) := by
      rw [r20W2_ev, ih]
    funext x1_0 x1_1 x1_2 x1_3 x1_4 x1_5 x1_6 x1_7 x1_8 x1_9
    show lp C1 r20h n Lf (codeOf r20f) [1, 1, 1, 0, 1, 0, 0, 1, 0, 1, 1, 0] [G0] (endK C1 r20h r20f) (m + 1) (r20H1 x1_0 x1_1 x1_2 x1_3 x1_4 x1_5 x1_6 x1_7 x1_8 x1_9) = r20S1 (r20L2 n (r20W0 G0) (r20L1 n (r20W0 G0) m) n) (r20W0 G0) (r20L1 n (r20W0 G0) m) x1_0 x1_1 x1_2 x1_3 x1_4 x1_5 x1_6 x1_7 x1_8 x1_9
    rw [lp_succ, r20S1_ev, ih, e2]
abbrev r20G3 := (List Bool) → (List Int) → Int → Bool → Int → (List (List (ByteArray × List (Int × Int × Unit) × Unit))) → (List ByteArray) → (List (List Int)) → (List Bool) → (List Bool) → Option Lf
noncomputable def r20H3 (x3_0 : List Bool) (x3_1 : List Int) (x3_2 : Int) (x3_3 : Bool) (x3_4 : Int) (x3_5 : List (List (ByteArray × List (Int × Int × Unit) × Unit))) (x3_6 : List ByteArray) (x3_7 : List (List Int)) (x3_8 : List Bool) (x3_9 : List Bool) : St := (St.mk [dead, (D.p (Pt.one (L.d (Pv.fz false) (Sh.l Sh.b) x3_0))), (D.p (Pt.one (L.d (Pv.fz false) (Sh.l (Sh.i IntKind.i64)) x3_1))), (D.p (Pt.one (L.pv (Id.mk 1 0) 0))), dead, dead, dead, dead, (D.p (Pt.one (L.d (Pv.fz true) (Sh.i IntKind.i64) x3_2))), (D.p (Pt.one (L.rw (Id.mk 1 1)))), dead, dead, dead, dead, (D.p (Pt.one (L.rw (Id.mk 1 2)))), (D.p (Pt.one (L.d (Pv.fz true) Sh.b x3_3))), dead, dead, dead, dead, dead, dead, dead, dead, dead, dead, dead, dead, dead, dead, dead, dead, dead, dead, dead, dead, dead, dead, dead, dead, dead, dead, dead, dead, dead, dead, dead, dead, dead, dead, dead, dead, dead, dead, dead, dead, dead, dead, dead, dead, dead, dead, dead, dead, dead, dead, dead, dead, dead, dead, dead, dead, dead, dead, dead, dead, dead, dead, dead, dead, dead, dead, dead, dead, dead, dead, dead, dead, dead, dead, dead, dead, dead, dead, dead, dead, dead, dead, dead, dead, dead, dead, dead, dead, dead, dead, dead, dead, dead, dead, dead, dead, dead, dead, dead, dead, dead, dead, dead, dead] [[], [(Ob.va [(L.d (Pv.fz true) (Sh.i IntKind.i64) x3_4), (L.d (Pv.fz false) (Sh.l (Sh.l (Sh.p Sh.s (Sh.p (Sh.l (Sh.p (Sh.i IntKind.i64) (Sh.p (Sh.i IntKind.i64) Sh.u))) Sh.u)))) x3_5), (L.d (Pv.fz false) (Sh.l Sh.s) x3_6), (L.d (Pv.fz false) (Sh.l (Sh.l (Sh.i IntKind.i64))) x3_7)]), (Ob.ro true 0 4 Sh.b Ow.z x3_8 Option.none), (Ob.ro true 0 4 Sh.b Ow.z x3_9 Option.none)]])
noncomputable def r20W3 (G : St → Option Lf) : r20G3 := fun x3_0 x3_1 x3_2 x3_3 x3_4 x3_5 x3_6 x3_7 x3_8 x3_9 => G (r20H3 x3_0 x3_1 x3_2 x3_3 x3_4 x3_5 x3_6 x3_7 x3_8 x3_9)
abbrev r20G4 := (List Bool) → (List Int) → Int → Bool → Int → Int → (List (List (ByteArray × List (Int × Int × Unit) × Unit))) → (List ByteArray) → (List (List Int)) → (List Bool) → (List Bool) → Option Lf
noncomputable def r20H4 (x4_0 : List Bool) (x4_1 : List Int) (x4_2 : Int) (x4_3 : Bool) (x4_4 : Int) (x4_5 : Int) (x4_6 : List (List (ByteArray × List (Int × Int × Unit) × Unit))) (x4_7 : List ByteArray) (x4_8 : List (List Int)) (x4_9 : List Bool) (x4_10 : List Bool) : St := (St.mk [dead, (D.p (Pt.one (L.d (Pv.fz false) (Sh.l Sh.b) x4_0))), (D.p (Pt.one (L.d (Pv.fz false) (Sh.l (Sh.i IntKind.i64)) x4_1))), (D.p (Pt.one (L.pv (Id.mk 1 0) 0))), dead, dead, dead, dead, (D.p (Pt.one (L.d (Pv.fz true) (Sh.i IntKind.i64) x4_2))), (D.p (Pt.one (L.rw (Id.mk 1 1)))), dead, dead, dead, dead, (D.p (Pt.one (L.rw (Id.mk 1 2)))), (D.p (Pt.one (L.d (Pv.fz true) Sh.b x4_3))), (D.p (Pt.one (L.d (Pv.fz true) (Sh.i IntKind.i64) x4_4))), dead, dead, dead, dead, dead, dead, dead, dead, dead, dead, dead, dead, dead, dead, dead, dead, dead, dead, dead, dead, dead, dead, dead, dead, dead, dead, dead, dead, dead, dead, dead, dead, dead, dead, dead, dead, dead, dead, dead, dead, dead, dead, dead, dead, dead, dead, dead, dead, dead, dead, dead, dead, dead, dead, dead, dead, dead, dead, dead, dead, dead, dead, dead, dead, dead, dead, dead, dead, dead, dead, dead, dead, dead, dead, dead, dead, dead, dead, dead, dead, dead, dead, dead, dead, dead, dead, dead, dead, dead, dead, dead, dead, dead, dead, dead, dead, dead, dead, dead, dead, dead, dead, dead] [[], [(Ob.va [(L.d (Pv.fz true) (Sh.i IntKind.i64) x4_5), (L.d (Pv.fz false) (Sh.l (Sh.l (Sh.p Sh.s (Sh.p (Sh.l (Sh.p (Sh.i IntKind.i64) (Sh.p (Sh.i IntKind.i64) Sh.u))) Sh.u)))) x4_6), (L.d (Pv.fz false) (Sh.l Sh.s) x4_7), (L.d (Pv.fz false) (Sh.l (Sh.l (Sh.i IntKind.i64))) x4_8)]), (Ob.ro true 0 4 Sh.b Ow.z x4_9 Option.none), (Ob.ro true 0 4 Sh.b Ow.z x4_10 Option.none)]])
noncomputable def r20W4 (G : St → Option Lf) : r20G4 := fun x4_0 x4_1 x4_2 x4_3 x4_4 x4_5 x4_6 x4_7 x4_8 x4_9 x4_10 => G (r20H4 x4_0 x4_1 x4_2 x4_3 x4_4 x4_5 x4_6 x4_7 x4_8 x4_9 x4_10)
abbrev r20G5 := (List Bool) → (List Int) → Int → Bool → Int → (List (Int × Int × Unit)) → Int → Int → (List (List (ByteArray × List (Int × Int × Unit) × Unit))) → (List ByteArray) → (List (List Int)) → (List Bool) → (List Bool) → Option Lf
noncomputable def r20H5 (x5_0 : List Bool) (x5_1 : List Int) (x5_2 : Int) (x5_3 : Bool) (x5_4 : Int) (x5_5 : List (Int × Int × Unit)) (x5_6 : Int) (x5_7 : Int) (x5_8 : List (List (ByteArray × List (Int × Int × Unit) × Unit))) (x5_9 : List ByteArray) (x5_10 : List (List Int)) (x5_11 : List Bool) (x5_12 : List Bool) : St := (St.mk [dead, (D.p (Pt.one (L.d (Pv.fz false) (Sh.l Sh.b) x5_0))), (D.p (Pt.one (L.d (Pv.fz false) (Sh.l (Sh.i IntKind.i64)) x5_1))), (D.p (Pt.one (L.pv (Id.mk 1 0) 0))), dead, dead, dead, dead, (D.p (Pt.one (L.d (Pv.fz true) (Sh.i IntKind.i64) x5_2))), (D.p (Pt.one (L.rw (Id.mk 1 1)))), dead, dead, dead, dead, (D.p (Pt.one (L.rw (Id.mk 1 2)))), (D.p (Pt.one (L.d (Pv.fz true) Sh.b x5_3))), (D.p (Pt.one (L.d (Pv.fz true) (Sh.i IntKind.i64) x5_4))), (D.p (Pt.one (L.d (Pv.fz false) (Sh.l (Sh.p (Sh.i IntKind.i64) (Sh.p (Sh.i IntKind.i64) Sh.u))) x5_5))), (D.p (Pt.one (L.d (Pv.fz true) (Sh.i IntKind.i64) x5_6))), dead, dead, dead, dead, dead, dead, dead, dead, dead, dead, dead, dead, dead, dead, dead, dead, dead, dead, dead, dead, dead, dead, dead, dead, dead, dead, dead, dead, dead, dead, dead, dead, dead, dead, dead, dead, dead, dead, dead, dead, dead, dead, dead, dead, dead, dead, dead, dead, dead, dead, dead, dead, dead, dead, dead, dead, dead, dead, dead, dead, dead, dead, dead, dead, dead, dead, dead, dead, dead, dead, dead, dead, dead, dead, dead, dead, dead, dead, dead, dead, dead, dead, dead, dead, dead, dead, dead, dead, dead, dead, dead, dead, dead, dead, dead, dead, dead, dead, dead, dead, dead] [[], [(Ob.va [(L.d (Pv.fz true) (Sh.i IntKind.i64) x5_7), (L.d (Pv.fz false) (Sh.l (Sh.l (Sh.p Sh.s (Sh.p (Sh.l (Sh.p (Sh.i IntKind.i64) (Sh.p (Sh.i IntKind.i64) Sh.u))) Sh.u)))) x5_8), (L.d (Pv.fz false) (Sh.l Sh.s) x5_9), (L.d (Pv.fz false) (Sh.l (Sh.l (Sh.i IntKind.i64))) x5_10)]), (Ob.ro true 0 4 Sh.b Ow.z x5_11 Option.none), (Ob.ro true 0 4 Sh.b Ow.z x5_12 Option.none)]])
noncomputable def r20W5 (G : St → Option Lf) : r20G5 := fun x5_0 x5_1 x5_2 x5_3 x5_4 x5_5 x5_6 x5_7 x5_8 x5_9 x5_10 x5_11 x5_12 => G (r20H5 x5_0 x5_1 x5_2 x5_3 x5_4 x5_5 x5_6 x5_7 x5_8 x5_9 x5_10 x5_11 x5_12)
noncomputable def r20S5  (g3 : r20G3) (g4 : r20G4) (g5 : r20G5) (x5_0 : List Bool) (x5_1 : List Int) (x5_2 : Int) (x5_3 : Bool) (x5_4 : Int) (x5_5 : List (Int × Int × Unit)) (x5_6 : Int) (x5_7 : Int) (x5_8 : List (List (ByteArray × List (Int × Int × Unit) × Unit))) (x5_9 : List ByteArray) (x5_10 : List (List Int)) (x5_11 : List Bool) (x5_12 : List Bool) : Option Lf :=
 bif bif decide (x5_6 < zn x5_5.length) then Nat.beq 1 1 && (inb x5_4 x5_12.length && (Nat.beq 1 1 && bif x5_12.getD x5_4.toNat false then Nat.beq 1 1 && (inb x5_4 x5_0.length && true) else true)) else true then
  bif decide (x5_6 < zn x5_5.length) && (x5_12.getD x5_4.toNat false && !x5_0.getD x5_4.toNat false) then
   bif inb x5_6 x5_5.length then
    bif inb (x5_5.getD x5_6.toNat (0, 0, ())).fst x5_12.length then
     bif !x5_12.getD (x5_5.getD x5_6.toNat (0, 0, ())).fst.toNat false then
      bif inb x5_4 x5_12.length then
       g5 (x5_0 : List Bool) (x5_1 : List Int) (x5_2 : Int) (true : Bool) (x5_4 : Int) (x5_5 : List (Int × Int × Unit)) (IntKind.i64.wrap (x5_6 + 1) : Int) (x5_7 : Int) (x5_8 : List (List (ByteArray × List (Int × Int × Unit) × Unit))) (x5_9 : List ByteArray) (x5_10 : List (List Int)) (x5_11 : List Bool) (x5_12.set x5_4.toNat false : List Bool)
      else
       none
     else
      g5 (x5_0 : List Bool) (x5_1 : List Int) (x5_2 : Int) (x5_3 : Bool) (x5_4 : Int) (x5_5 : List (Int × Int × Unit)) (IntKind.i64.wrap (x5_6 + 1) : Int) (x5_7 : Int) (x5_8 : List (List (ByteArray × List (Int × Int × Unit) × Unit))) (x5_9 : List ByteArray) (x5_10 : List (List Int)) (x5_11 : List Bool) (x5_12 : List Bool)
    else
     none
   else
    none
  else
   g4 (x5_0 : List Bool) (x5_1 : List Int) (x5_2 : Int) (x5_3 : Bool) (IntKind.i64.wrap (x5_4 + 1) : Int) (x5_7 : Int) (x5_8 : List (List (ByteArray × List (Int × Int × Unit) × Unit))) (x5_9 : List ByteArray) (x5_10 : List (List Int)) (x5_11 : List Bool) (x5_12 : List Bool)
 else
  none
noncomputable def r20L5 (n : Nat) (g3 : r20G3) (g4 : r20G4) : Nat → r20G5
  | 0 => fun _ _ _ _ _ _ _ _ _ _ _ _ _ => none
  | m + 1 => fun x5_0 x5_1 x5_2 x5_3 x5_4 x5_5 x5_6 x5_7 x5_8 x5_9 x5_10 x5_11 x5_12 => r20S5  g3 g4 (r20L5 n g3 g4 m) x5_0 x5_1 x5_2 x5_3 x5_4 x5_5 x5_6 x5_7 x5_8 x5_9 x5_10 x5_11 x5_12
theorem r20S5_ev (n : Nat) (G3 : St → Option Lf) (G4 : St → Option Lf) (G : St → Option Lf) (x5_0 : List Bool) (x5_1 : List Int) (x5_2 : Int) (x5_3 : Bool) (x5_4 : Int) (x5_5 : List (Int × Int × Unit)) (x5_6 : Int) (x5_7 : Int) (x5_8 : List (List (ByteArray × List (Int × Int × Unit) × Unit))) (x5_9 : List ByteArray) (x5_10 : List (List Int)) (x5_11 : List Bool) (x5_12 : List Bool) : rnd C1 r20h n Lf (codeOf r20f) [1, 1, 1, 1, 1, 0, 1, 0, 0, 1, 0, 1, 1, 0, 0, 1, 0, 0, 1, 1, 0] [G3, G4] (endK C1 r20h r20f) G (r20H5 x5_0 x5_1 x5_2 x5_3 x5_4 x5_5 x5_6 x5_7 x5_8 x5_9 x5_10 x5_11 x5_12) = r20S5  (r20W3 G3) (r20W4 G4) (r20W5 G) x5_0 x5_1 x5_2 x5_3 x5_4 x5_5 x5_6 x5_7 x5_8 x5_9 x5_10 x5_11 x5_12 := by kernel_rfl
theorem r20W5_ev (n : Nat) (G3 : St → Option Lf) (G4 : St → Option Lf) : ∀ m, (r20W5 (lp C1 r20h n Lf (codeOf r20f) [1, 1, 1, 1, 1, 0, 1, 0, 0, 1, 0, 1, 1, 0, 0, 1, 0, 0, 1, 1, 0] [G3, G4] (endK C1 r20h r20f) m)) = r20L5 n (r20W3 G3) (r20W4 G4) m := by
  intro m
  induction m with
  | zero => funext x5_0 x5_1 x5_2 x5_3 x5_4 x5_5 x5_6 x5_7 x5_8 x5_9 x5_10 x5_11 x5_12; exact lp_zero _
  | succ m ih =>
    funext x5_0 x5_1 x5_2 x5_3 x5_4 x5_5 x5_6 x5_7 x5_8 x5_9 x5_10 x5_11 x5_12
    show lp C1 r20h n Lf (codeOf r20f) [1, 1, 1, 1, 1, 0, 1, 0, 0, 1, 0, 1, 1, 0, 0, 1, 0, 0, 1, 1, 0] [G3, G4] (endK C1 r20h r20f) (m + 1) (r20H5 x5_0 x5_1 x5_2 x5_3 x5_4 x5_5 x5_6 x5_7 x5_8 x5_9 x5_10 x5_11 x5_12) = r20S5  (r20W3 G3) (r20W4 G4) (r20L5 n (r20W3 G3) (r20W4 G4) m) x5_0 x5_1 x5_2 x5_3 x5_4 x5_5 x5_6 x5_7 x5_8 x5_9 x5_10 x5_11 x5_12
    rw [lp_succ, r20S5_ev, ih]
noncomputable def r20S4 (l5 : r20G5) (g3 : r20G3) (g4 : r20G4) (x4_0 : List Bool) (x4_1 : List Int) (x4_2 : Int) (x4_3 : Bool) (x4_4 : Int) (x4_5 : Int) (x4_6 : List (List (ByteArray × List (Int × Int × Unit) × Unit))) (x4_7 : List ByteArray) (x4_8 : List (List Int)) (x4_9 : List Bool) (x4_10 : List Bool) : Option Lf :=
 bif decide (x4_4 < x4_2) then
  bif inb x4_4 x4_6.length then
   bif inb x4_4 x4_1.length then
    bif inb (x4_1.getD x4_4.toNat 0) (x4_6.getD x4_4.toNat []).length then
     l5 (x4_0 : List Bool) (x4_1 : List Int) (x4_2 : Int) (x4_3 : Bool) (x4_4 : Int) (((x4_6.getD x4_4.toNat []).getD (x4_1.getD x4_4.toNat 0).toNat ({ data := #[] }, [], ())).snd.fst : List (Int × Int × Unit)) (0 : Int) (x4_5 : Int) (x4_6 : List (List (ByteArray × List (Int × Int × Unit) × Unit))) (x4_7 : List ByteArray) (x4_8 : List (List Int)) (x4_9 : List Bool) (x4_10 : List Bool)
    else
     none
   else
    none
  else
   none
 else
  g3 (x4_0 : List Bool) (x4_1 : List Int) (x4_2 : Int) (x4_3 : Bool) (x4_5 : Int) (x4_6 : List (List (ByteArray × List (Int × Int × Unit) × Unit))) (x4_7 : List ByteArray) (x4_8 : List (List Int)) (x4_9 : List Bool) (x4_10 : List Bool)
noncomputable def r20L4 (n : Nat) (g3 : r20G3) : Nat → r20G4
  | 0 => fun _ _ _ _ _ _ _ _ _ _ _ => none
  | m + 1 => fun x4_0 x4_1 x4_2 x4_3 x4_4 x4_5 x4_6 x4_7 x4_8 x4_9 x4_10 => r20S4 (r20L5 n g3 (r20L4 n g3 m) n) g3 (r20L4 n g3 m) x4_0 x4_1 x4_2 x4_3 x4_4 x4_5 x4_6 x4_7 x4_8 x4_9 x4_10
theorem r20S4_ev (n : Nat) (G3 : St → Option Lf) (G : St → Option Lf) (x4_0 : List Bool) (x4_1 : List Int) (x4_2 : Int) (x4_3 : Bool) (x4_4 : Int) (x4_5 : Int) (x4_6 : List (List (ByteArray × List (Int × Int × Unit) × Unit))) (x4_7 : List ByteArray) (x4_8 : List (List Int)) (x4_9 : List Bool) (x4_10 : List Bool) : rnd C1 r20h n Lf (codeOf r20f) [1, 1, 1, 1, 1, 0, 1, 0, 0, 1, 0, 1, 1, 0] [G3] (endK C1 r20h r20f) G (r20H4 x4_0 x4_1 x4_2 x4_3 x4_4 x4_5 x4_6 x4_7 x4_8 x4_9 x4_10) = r20S4 (r20W5 (lp C1 r20h n Lf (codeOf r20f) [1, 1, 1, 1, 1, 0, 1, 0, 0, 1, 0, 1, 1, 0, 0, 1, 0, 0, 1, 1, 0] [G3, G] (endK C1 r20h r20f) n)) (r20W3 G3) (r20W4 G) x4_0 x4_1 x4_2 x4_3 x4_4 x4_5 x4_6 x4_7 x4_8 x4_9 x4_10 := by kernel_rfl
theorem r20W4_ev (n : Nat) (G3 : St → Option Lf) : ∀ m, (r20W4 (lp C1 r20h n Lf (codeOf r20f) [1, 1, 1, 1, 1, 0, 1, 0, 0, 1, 0, 1, 1, 0] [G3] (endK C1 r20h r20f) m)) = r20L4 n (r20W3 G3) m := by
  intro m
  induction m with
  | zero => funext x4_0 x4_1 x4_2 x4_3 x4_4 x4_5 x4_6 x4_7 x4_8 x4_9 x4_10; exact lp_zero _
  | succ m ih =>
    have e5 : (r20W5 (lp C1 r20h n Lf (codeOf r20f) [1, 1, 1, 1, 1, 0, 1, 0, 0, 1, 0, 1, 1, 0, 0, 1, 0, 0, 1, 1, 0] [G3, (lp C1 r20h n Lf (codeOf r20f) [1, 1, 1, 1, 1, 0, 1, 0, 0, 1, 0, 1, 1, 0] [G3] (endK C1 r20h r20f) m)] (endK C1 r20h r20f) n)) = (r20L5 n (r20W3 G3) (r20L4 n (r20W3 G3) m) n) := by
      rw [r20W5_ev, ih]
    funext x4_0 x4_1 x4_2 x4_3 x4_4 x4_5 x4_6 x4_7 x4_8 x4_9 x4_10
    show lp C1 r20h n Lf (codeOf r20f) [1, 1, 1, 1, 1, 0, 1, 0, 0, 1, 0, 1, 1, 0] [G3] (endK C1 r20h r20f) (m + 1) (r20H4 x4_0 x4_1 x4_2 x4_3 x4_4 x4_5 x4_6 x4_7 x4_8 x4_9 x4_10) = r20S4 (r20L5 n (r20W3 G3) (r20L4 n (r20W3 G3) m) n) (r20W3 G3) (r20L4 n (r20W3 G3) m) x4_0 x4_1 x4_2 x4_3 x4_4 x4_5 x4_6 x4_7 x4_8 x4_9 x4_10
    rw [lp_succ, r20S4_ev, ih, e5]
noncomputable def r20S3 (l4 : r20G4) (g3 : r20G3) (x3_0 : List Bool) (x3_1 : List Int) (x3_2 : Int) (x3_3 : Bool) (x3_4 : Int) (x3_5 : List (List (ByteArray × List (Int × Int × Unit) × Unit))) (x3_6 : List ByteArray) (x3_7 : List (List Int)) (x3_8 : List Bool) (x3_9 : List Bool) : Option Lf :=
 bif x3_3 then
  l4 (x3_0 : List Bool) (x3_1 : List Int) (x3_2 : Int) (false : Bool) (0 : Int) (x3_4 : Int) (x3_5 : List (List (ByteArray × List (Int × Int × Unit) × Unit))) (x3_6 : List ByteArray) (x3_7 : List (List Int)) (x3_8 : List Bool) (x3_9 : List Bool)
 else
  some (Lf.mk [(Pt.one (L.rw (Id.mk 1 0))), (Pt.one (L.rw (Id.mk 1 1)))] [] [(Ob.ro true 0 4 Sh.b Ow.z (x3_8 : List Bool) Option.none), (Ob.ro true 0 4 Sh.b Ow.z (x3_9 : List Bool) Option.none)])
noncomputable def r20L3 (n : Nat)  : Nat → r20G3
  | 0 => fun _ _ _ _ _ _ _ _ _ _ => none
  | m + 1 => fun x3_0 x3_1 x3_2 x3_3 x3_4 x3_5 x3_6 x3_7 x3_8 x3_9 => r20S3 (r20L4 n (r20L3 n  m) n)  (r20L3 n  m) x3_0 x3_1 x3_2 x3_3 x3_4 x3_5 x3_6 x3_7 x3_8 x3_9
theorem r20S3_ev (n : Nat)  (G : St → Option Lf) (x3_0 : List Bool) (x3_1 : List Int) (x3_2 : Int) (x3_3 : Bool) (x3_4 : Int) (x3_5 : List (List (ByteArray × List (Int × Int × Unit) × Unit))) (x3_6 : List ByteArray) (x3_7 : List (List Int)) (x3_8 : List Bool) (x3_9 : List Bool) : rnd C1 r20h n Lf (codeOf r20f) [1, 1, 1, 1, 1, 0, 1, 0] [] (endK C1 r20h r20f) G (r20H3 x3_0 x3_1 x3_2 x3_3 x3_4 x3_5 x3_6 x3_7 x3_8 x3_9) = r20S3 (r20W4 (lp C1 r20h n Lf (codeOf r20f) [1, 1, 1, 1, 1, 0, 1, 0, 0, 1, 0, 1, 1, 0] [G] (endK C1 r20h r20f) n))  (r20W3 G) x3_0 x3_1 x3_2 x3_3 x3_4 x3_5 x3_6 x3_7 x3_8 x3_9 := by kernel_rfl
theorem r20W3_ev (n : Nat)  : ∀ m, (r20W3 (lp C1 r20h n Lf (codeOf r20f) [1, 1, 1, 1, 1, 0, 1, 0] [] (endK C1 r20h r20f) m)) = r20L3 n  m := by
  intro m
  induction m with
  | zero => funext x3_0 x3_1 x3_2 x3_3 x3_4 x3_5 x3_6 x3_7 x3_8 x3_9; exact lp_zero _
  | succ m ih =>
    have e4 : (r20W4 (lp C1 r20h n Lf (codeOf r20f) [1, 1, 1, 1, 1, 0, 1, 0, 0, 1, 0, 1, 1, 0] [(lp C1 r20h n Lf (codeOf r20f) [1, 1, 1, 1, 1, 0, 1, 0] [] (endK C1 r20h r20f) m)] (endK C1 r20h r20f) n)) = (r20L4 n (r20L3 n  m) n) := by
      rw [r20W4_ev, ih]
    funext x3_0 x3_1 x3_2 x3_3 x3_4 x3_5 x3_6 x3_7 x3_8 x3_9
    show lp C1 r20h n Lf (codeOf r20f) [1, 1, 1, 1, 1, 0, 1, 0] [] (endK C1 r20h r20f) (m + 1) (r20H3 x3_0 x3_1 x3_2 x3_3 x3_4 x3_5 x3_6 x3_7 x3_8 x3_9) = r20S3 (r20L4 n (r20L3 n  m) n)  (r20L3 n  m) x3_0 x3_1 x3_2 x3_3 x3_4 x3_5 x3_6 x3_7 x3_8 x3_9
    rw [lp_succ, r20S3_ev, ih, e4]
noncomputable def r20S0 (l1 : r20G1) (l3 : r20G3) (g0 : r20G0) (x0_0 : List Bool) (x0_1 : List Int) (x0_2 : Int) (x0_3 : Bool) (x0_4 : Int) (x0_5 : List (List (ByteArray × List (Int × Int × Unit) × Unit))) (x0_6 : List ByteArray) (x0_7 : List (List Int)) (x0_8 : List Bool) : Option Lf :=
 bif x0_3 then
  l1 (x0_0 : List Bool) (x0_1 : List Int) (x0_2 : Int) (false : Bool) (0 : Int) (x0_4 : Int) (x0_5 : List (List (ByteArray × List (Int × Int × Unit) × Unit))) (x0_6 : List ByteArray) (x0_7 : List (List Int)) (x0_8 : List Bool)
 else
  bif decide ((0 + x0_8.length) * 1 ≤ 140737488355328) then
   l3 (x0_0 : List Bool) (x0_1 : List Int) (x0_2 : Int) (true : Bool) (x0_4 : Int) (x0_5 : List (List (ByteArray × List (Int × Int × Unit) × Unit))) (x0_6 : List ByteArray) (x0_7 : List (List Int)) (x0_8 : List Bool) (x0_8 : List Bool)
  else
   none
noncomputable def r20L0 (n : Nat)  : Nat → r20G0
  | 0 => fun _ _ _ _ _ _ _ _ _ => none
  | m + 1 => fun x0_0 x0_1 x0_2 x0_3 x0_4 x0_5 x0_6 x0_7 x0_8 => r20S0 (r20L1 n (r20L0 n  m) n) (r20L3 n  n)  (r20L0 n  m) x0_0 x0_1 x0_2 x0_3 x0_4 x0_5 x0_6 x0_7 x0_8
theorem r20S0_ev (n : Nat)  (G : St → Option Lf) (x0_0 : List Bool) (x0_1 : List Int) (x0_2 : Int) (x0_3 : Bool) (x0_4 : Int) (x0_5 : List (List (ByteArray × List (Int × Int × Unit) × Unit))) (x0_6 : List ByteArray) (x0_7 : List (List Int)) (x0_8 : List Bool) : rnd C1 r20h n Lf (codeOf r20f) [1, 1, 1, 0, 1, 0] [] (endK C1 r20h r20f) G (r20H0 x0_0 x0_1 x0_2 x0_3 x0_4 x0_5 x0_6 x0_7 x0_8) = r20S0 (r20W1 (lp C1 r20h n Lf (codeOf r20f) [1, 1, 1, 0, 1, 0, 0, 1, 0, 1, 1, 0] [G] (endK C1 r20h r20f) n)) (r20W3 (lp C1 r20h n Lf (codeOf r20f) [1, 1, 1, 1, 1, 0, 1, 0] [] (endK C1 r20h r20f) n))  (r20W0 G) x0_0 x0_1 x0_2 x0_3 x0_4 x0_5 x0_6 x0_7 x0_8 := by kernel_rfl
theorem r20W0_ev (n : Nat)  : ∀ m, (r20W0 (lp C1 r20h n Lf (codeOf r20f) [1, 1, 1, 0, 1, 0] [] (endK C1 r20h r20f) m)) = r20L0 n  m := by
  intro m
  induction m with
  | zero => funext x0_0 x0_1 x0_2 x0_3 x0_4 x0_5 x0_6 x0_7 x0_8; exact lp_zero _
  | succ m ih =>
    have e1 : (r20W1 (lp C1 r20h n Lf (codeOf r20f) [1, 1, 1, 0, 1, 0, 0, 1, 0, 1, 1, 0] [(lp C1 r20h n Lf (codeOf r20f) [1, 1, 1, 0, 1, 0] [] (endK C1 r20h r20f) m)] (endK C1 r20h r20f) n)) = (r20L1 n (r20L0 n  m) n) := by
      rw [r20W1_ev, ih]
    have e3 : (r20W3 (lp C1 r20h n Lf (codeOf r20f) [1, 1, 1, 1, 1, 0, 1, 0] [] (endK C1 r20h r20f) n)) = (r20L3 n  n) := by
      rw [r20W3_ev]
    funext x0_0 x0_1 x0_2 x0_3 x0_4 x0_5 x0_6 x0_7 x0_8
    show lp C1 r20h n Lf (codeOf r20f) [1, 1, 1, 0, 1, 0] [] (endK C1 r20h r20f) (m + 1) (r20H0 x0_0 x0_1 x0_2 x0_3 x0_4 x0_5 x0_6 x0_7 x0_8) = r20S0 (r20L1 n (r20L0 n  m) n) (r20L3 n  n)  (r20L0 n  m) x0_0 x0_1 x0_2 x0_3 x0_4 x0_5 x0_6 x0_7 x0_8
    rw [lp_succ, r20S0_ev, ih, e1, e3]
noncomputable def r20T (l0 : r20G0) (i : Int) (ch : List (List (ByteArray × List (Int × Int × Unit) × Unit))) (nm : List ByteArray) (ho : List (List Int)) (set : List Bool) (pk : List Int) : Option Lf :=
 bif decide ((0 + set.length) * 1 ≤ 140737488355328) then
  l0 (set : List Bool) (pk : List Int) (zn set.length : Int) (true : Bool) (i : Int) (ch : List (List (ByteArray × List (Int × Int × Unit) × Unit))) (nm : List ByteArray) (ho : List (List Int)) (set : List Bool)
 else
  none
noncomputable def r20M (n : Nat) (i : Int) (ch : List (List (ByteArray × List (Int × Int × Unit) × Unit))) (nm : List ByteArray) (ho : List (List Int)) (set : List Bool) (pk : List Int) : Option Lf := r20T (r20L0 n n) i ch nm ho set pk
theorem r20T_ev (n : Nat) (i : Int) (ch : List (List (ByteArray × List (Int × Int × Unit) × Unit))) (nm : List ByteArray) (ho : List (List Int)) (set : List Bool) (pk : List Int) : evF C1 r20h n r20f [(D.p (Pt.agg [(L.d (Pv.fz true) (Sh.i IntKind.i64) i), (L.d (Pv.fz false) (Sh.l (Sh.l (Sh.p Sh.s (Sh.p (Sh.l (Sh.p (Sh.i IntKind.i64) (Sh.p (Sh.i IntKind.i64) Sh.u))) Sh.u)))) ch), (L.d (Pv.fz false) (Sh.l Sh.s) nm), (L.d (Pv.fz false) (Sh.l (Sh.l (Sh.i IntKind.i64))) ho)])), (D.p (Pt.one (L.d (Pv.fz false) (Sh.l Sh.b) set))), (D.p (Pt.one (L.d (Pv.fz false) (Sh.l (Sh.i IntKind.i64)) pk)))] [] = r20T (r20W0 (lp C1 r20h n Lf (codeOf r20f) [1, 1, 1, 0, 1, 0] [] (endK C1 r20h r20f) n)) i ch nm ho set pk := by kernel_rfl
theorem r20_ev (n : Nat) (i : Int) (ch : List (List (ByteArray × List (Int × Int × Unit) × Unit))) (nm : List ByteArray) (ho : List (List Int)) (set : List Bool) (pk : List Int) : evF C1 r20h n r20f [(D.p (Pt.agg [(L.d (Pv.fz true) (Sh.i IntKind.i64) i), (L.d (Pv.fz false) (Sh.l (Sh.l (Sh.p Sh.s (Sh.p (Sh.l (Sh.p (Sh.i IntKind.i64) (Sh.p (Sh.i IntKind.i64) Sh.u))) Sh.u)))) ch), (L.d (Pv.fz false) (Sh.l Sh.s) nm), (L.d (Pv.fz false) (Sh.l (Sh.l (Sh.i IntKind.i64))) ho)])), (D.p (Pt.one (L.d (Pv.fz false) (Sh.l Sh.b) set))), (D.p (Pt.one (L.d (Pv.fz false) (Sh.l (Sh.i IntKind.i64)) pk)))] [] = r20M n i ch nm ho set pk := by
  rw [r20T_ev, r20W0_ev]
  rfl

abbrev r18h : Hn := h18r
noncomputable abbrev r18f : Func := fn 18
abbrev r18G0 := (List Bool) → Int → Int → Int → (List (List (ByteArray × List (Int × Int × Unit) × Unit))) → (List ByteArray) → (List (List Int)) → (List Bool) → (List Bool) → (List Bool) → (List Bool) → Option Lf
noncomputable def r18H0 (x0_0 : List Bool) (x0_1 : Int) (x0_2 : Int) (x0_3 : Int) (x0_4 : List (List (ByteArray × List (Int × Int × Unit) × Unit))) (x0_5 : List ByteArray) (x0_6 : List (List Int)) (x0_7 : List Bool) (x0_8 : List Bool) (x0_9 : List Bool) (x0_10 : List Bool) : St := (St.mk [dead, (D.p (Pt.one (L.d (Pv.fz false) (Sh.l Sh.b) x0_0))), (D.p (Pt.one (L.pv (Id.mk 1 0) 0))), dead, dead, dead, dead, dead, (D.p (Pt.one (L.d (Pv.fz true) (Sh.i IntKind.i64) x0_1))), (D.p (Pt.one (L.rw (Id.mk 1 1)))), (D.p (Pt.one (L.rw (Id.mk 1 2)))), (D.p (Pt.one (L.rw (Id.mk 1 3)))), (D.p (Pt.one (L.rw (Id.mk 1 4)))), (D.p (Pt.one (L.d (Pv.fz true) (Sh.i IntKind.i64) x0_2))), dead, dead, dead, dead, dead, dead, dead, dead, dead, dead, dead, dead, dead, dead, dead, dead, dead, dead, dead, dead, dead, dead, dead, dead, dead, dead, dead, dead, dead, dead, dead, dead, dead, dead, dead, dead, dead, dead, dead, dead, dead, dead, dead, dead, dead, dead, dead, dead, dead, dead, dead, dead, dead, dead, dead, dead, dead, dead, dead, dead, dead, dead, dead, dead, dead, dead, dead, dead, dead, dead, dead, dead, dead, dead, dead, dead, dead, dead, dead, dead, dead, dead, dead, dead, dead, dead, dead, dead, dead, dead, dead, dead, dead, dead, dead, dead, dead, dead, dead, dead, dead] [[], [(Ob.va [(L.d (Pv.fz true) (Sh.i IntKind.i64) x0_3), (L.d (Pv.fz false) (Sh.l (Sh.l (Sh.p Sh.s (Sh.p (Sh.l (Sh.p (Sh.i IntKind.i64) (Sh.p (Sh.i IntKind.i64) Sh.u))) Sh.u)))) x0_4), (L.d (Pv.fz false) (Sh.l Sh.s) x0_5), (L.d (Pv.fz false) (Sh.l (Sh.l (Sh.i IntKind.i64))) x0_6)]), (Ob.ro true 0 4 Sh.b Ow.z x0_7 Option.none), (Ob.ro true 0 4 Sh.b Ow.z x0_8 Option.none), (Ob.ro true 0 4 Sh.b Ow.z x0_9 Option.none), (Ob.ro true 0 4 Sh.b Ow.z x0_10 Option.none)]])
noncomputable def r18W0 (G : St → Option Lf) : r18G0 := fun x0_0 x0_1 x0_2 x0_3 x0_4 x0_5 x0_6 x0_7 x0_8 x0_9 x0_10 => G (r18H0 x0_0 x0_1 x0_2 x0_3 x0_4 x0_5 x0_6 x0_7 x0_8 x0_9 x0_10)
abbrev r18G1 := (List Bool) → Int → Int → Int → (List (List (ByteArray × List (Int × Int × Unit) × Unit))) → (List ByteArray) → (List (List Int)) → (List Bool) → (List Bool) → (List Bool) → (List Bool) → Option Lf
noncomputable def r18H1 (x1_0 : List Bool) (x1_1 : Int) (x1_2 : Int) (x1_3 : Int) (x1_4 : List (List (ByteArray × List (Int × Int × Unit) × Unit))) (x1_5 : List ByteArray) (x1_6 : List (List Int)) (x1_7 : List Bool) (x1_8 : List Bool) (x1_9 : List Bool) (x1_10 : List Bool) : St := (St.mk [dead, (D.p (Pt.one (L.d (Pv.fz false) (Sh.l Sh.b) x1_0))), (D.p (Pt.one (L.pv (Id.mk 1 0) 0))), dead, dead, dead, dead, dead, (D.p (Pt.one (L.d (Pv.fz true) (Sh.i IntKind.i64) x1_1))), (D.p (Pt.one (L.rw (Id.mk 1 1)))), (D.p (Pt.one (L.rw (Id.mk 1 2)))), (D.p (Pt.one (L.rw (Id.mk 1 3)))), (D.p (Pt.one (L.rw (Id.mk 1 4)))), dead, (D.p (Pt.one (L.d (Pv.fz true) (Sh.i IntKind.i64) x1_2))), dead, dead, dead, dead, dead, dead, dead, dead, dead, dead, dead, dead, dead, dead, dead, dead, dead, dead, dead, dead, dead, dead, dead, dead, dead, dead, dead, dead, dead, dead, dead, dead, dead, dead, dead, dead, dead, dead, dead, dead, dead, dead, dead, dead, dead, dead, dead, dead, dead, dead, dead, dead, dead, dead, dead, dead, dead, dead, dead, dead, dead, dead, dead, dead, dead, dead, dead, dead, dead, dead, dead, dead, dead, dead, dead, dead, dead, dead, dead, dead, dead, dead, dead, dead, dead, dead, dead, dead, dead, dead, dead, dead, dead, dead, dead, dead, dead, dead, dead, dead] [[], [(Ob.va [(L.d (Pv.fz true) (Sh.i IntKind.i64) x1_3), (L.d (Pv.fz false) (Sh.l (Sh.l (Sh.p Sh.s (Sh.p (Sh.l (Sh.p (Sh.i IntKind.i64) (Sh.p (Sh.i IntKind.i64) Sh.u))) Sh.u)))) x1_4), (L.d (Pv.fz false) (Sh.l Sh.s) x1_5), (L.d (Pv.fz false) (Sh.l (Sh.l (Sh.i IntKind.i64))) x1_6)]), (Ob.ro true 0 4 Sh.b Ow.z x1_7 Option.none), (Ob.ro true 0 4 Sh.b Ow.z x1_8 Option.none), (Ob.ro true 0 4 Sh.b Ow.z x1_9 Option.none), (Ob.ro true 0 4 Sh.b Ow.z x1_10 Option.none)]])
noncomputable def r18W1 (G : St → Option Lf) : r18G1 := fun x1_0 x1_1 x1_2 x1_3 x1_4 x1_5 x1_6 x1_7 x1_8 x1_9 x1_10 => G (r18H1 x1_0 x1_1 x1_2 x1_3 x1_4 x1_5 x1_6 x1_7 x1_8 x1_9 x1_10)
abbrev r18G2 := (List Bool) → Int → Int → Int → Int → (List (List (ByteArray × List (Int × Int × Unit) × Unit))) → (List ByteArray) → (List (List Int)) → (List Bool) → (List Bool) → (List Bool) → (List Bool) → (List Bool) → (List Bool) → Option Lf
noncomputable def r18H2 (x2_0 : List Bool) (x2_1 : Int) (x2_2 : Int) (x2_3 : Int) (x2_4 : Int) (x2_5 : List (List (ByteArray × List (Int × Int × Unit) × Unit))) (x2_6 : List ByteArray) (x2_7 : List (List Int)) (x2_8 : List Bool) (x2_9 : List Bool) (x2_10 : List Bool) (x2_11 : List Bool) (x2_12 : List Bool) (x2_13 : List Bool) : St := (St.mk [dead, (D.p (Pt.one (L.d (Pv.fz false) (Sh.l Sh.b) x2_0))), (D.p (Pt.one (L.pv (Id.mk 1 0) 0))), dead, dead, dead, dead, dead, (D.p (Pt.one (L.d (Pv.fz true) (Sh.i IntKind.i64) x2_1))), (D.p (Pt.one (L.rw (Id.mk 1 1)))), (D.p (Pt.one (L.rw (Id.mk 1 2)))), (D.p (Pt.one (L.rw (Id.mk 1 3)))), (D.p (Pt.one (L.rw (Id.mk 1 4)))), dead, (D.p (Pt.one (L.d (Pv.fz true) (Sh.i IntKind.i64) x2_2))), (D.p (Pt.one (L.rw (Id.mk 1 5)))), (D.p (Pt.one (L.rw (Id.mk 1 6)))), (D.p (Pt.one (L.d (Pv.fz true) (Sh.i IntKind.i64) x2_3))), dead, dead, dead, dead, dead, dead, dead, dead, dead, dead, dead, dead, dead, dead, dead, dead, dead, dead, dead, dead, dead, dead, dead, dead, dead, dead, dead, dead, dead, dead, dead, dead, dead, dead, dead, dead, dead, dead, dead, dead, dead, dead, dead, dead, dead, dead, dead, dead, dead, dead, dead, dead, dead, dead, dead, dead, dead, dead, dead, dead, dead, dead, dead, dead, dead, dead, dead, dead, dead, dead, dead, dead, dead, dead, dead, dead, dead, dead, dead, dead, dead, dead, dead, dead, dead, dead, dead, dead, dead, dead, dead, dead, dead, dead, dead, dead, dead] [[], [(Ob.va [(L.d (Pv.fz true) (Sh.i IntKind.i64) x2_4), (L.d (Pv.fz false) (Sh.l (Sh.l (Sh.p Sh.s (Sh.p (Sh.l (Sh.p (Sh.i IntKind.i64) (Sh.p (Sh.i IntKind.i64) Sh.u))) Sh.u)))) x2_5), (L.d (Pv.fz false) (Sh.l Sh.s) x2_6), (L.d (Pv.fz false) (Sh.l (Sh.l (Sh.i IntKind.i64))) x2_7)]), (Ob.ro true 0 4 Sh.b Ow.z x2_8 Option.none), (Ob.ro true 0 4 Sh.b Ow.z x2_9 Option.none), (Ob.ro true 0 4 Sh.b Ow.z x2_10 Option.none), (Ob.ro true 0 4 Sh.b Ow.z x2_11 Option.none), (Ob.ro true 0 4 Sh.b Ow.z x2_12 Option.none), (Ob.ro true 0 4 Sh.b Ow.z x2_13 Option.none)]])
noncomputable def r18W2 (G : St → Option Lf) : r18G2 := fun x2_0 x2_1 x2_2 x2_3 x2_4 x2_5 x2_6 x2_7 x2_8 x2_9 x2_10 x2_11 x2_12 x2_13 => G (r18H2 x2_0 x2_1 x2_2 x2_3 x2_4 x2_5 x2_6 x2_7 x2_8 x2_9 x2_10 x2_11 x2_12 x2_13)
noncomputable def r18S2  (g1 : r18G1) (g2 : r18G2) (x2_0 : List Bool) (x2_1 : Int) (x2_2 : Int) (x2_3 : Int) (x2_4 : Int) (x2_5 : List (List (ByteArray × List (Int × Int × Unit) × Unit))) (x2_6 : List ByteArray) (x2_7 : List (List Int)) (x2_8 : List Bool) (x2_9 : List Bool) (x2_10 : List Bool) (x2_11 : List Bool) (x2_12 : List Bool) (x2_13 : List Bool) : Option Lf :=
 bif decide (x2_3 < x2_1) then
  bif inb x2_3 x2_8.length then
   bif x2_8.getD x2_3.toNat false then
    bif inb x2_3 x2_8.length then
     bif inb x2_3 x2_9.length then
      bif x2_9.getD x2_3.toNat false then
       bif inb x2_3 x2_9.length then
        bif inb x2_3 x2_10.length then
         bif x2_10.getD x2_3.toNat false then
          bif inb x2_3 x2_12.length then
           bif inb x2_3 x2_10.length then
            bif inb x2_3 x2_11.length then
             bif x2_11.getD x2_3.toNat false then
              bif inb x2_3 x2_13.length then
               bif inb x2_3 x2_11.length then
                g2 (x2_0 : List Bool) (x2_1 : Int) (x2_2 : Int) (IntKind.i64.wrap (x2_3 + 1) : Int) (x2_4 : Int) (x2_5 : List (List (ByteArray × List (Int × Int × Unit) × Unit))) (x2_6 : List ByteArray) (x2_7 : List (List Int)) (x2_8.set x2_3.toNat true : List Bool) (x2_9.set x2_3.toNat true : List Bool) (x2_10.set x2_3.toNat (x2_12.getD x2_3.toNat false) : List Bool) (x2_11.set x2_3.toNat (x2_13.getD x2_3.toNat false) : List Bool) (x2_12 : List Bool) (x2_13 : List Bool)
               else
                none
              else
               none
             else
              bif inb x2_3 x2_11.length then
               g2 (x2_0 : List Bool) (x2_1 : Int) (x2_2 : Int) (IntKind.i64.wrap (x2_3 + 1) : Int) (x2_4 : Int) (x2_5 : List (List (ByteArray × List (Int × Int × Unit) × Unit))) (x2_6 : List ByteArray) (x2_7 : List (List Int)) (x2_8.set x2_3.toNat true : List Bool) (x2_9.set x2_3.toNat true : List Bool) (x2_10.set x2_3.toNat (x2_12.getD x2_3.toNat false) : List Bool) (x2_11.set x2_3.toNat false : List Bool) (x2_12 : List Bool) (x2_13 : List Bool)
              else
               none
            else
             none
           else
            none
          else
           none
         else
          bif inb x2_3 x2_10.length then
           bif inb x2_3 x2_11.length then
            bif x2_11.getD x2_3.toNat false then
             bif inb x2_3 x2_13.length then
              bif inb x2_3 x2_11.length then
               g2 (x2_0 : List Bool) (x2_1 : Int) (x2_2 : Int) (IntKind.i64.wrap (x2_3 + 1) : Int) (x2_4 : Int) (x2_5 : List (List (ByteArray × List (Int × Int × Unit) × Unit))) (x2_6 : List ByteArray) (x2_7 : List (List Int)) (x2_8.set x2_3.toNat true : List Bool) (x2_9.set x2_3.toNat true : List Bool) (x2_10.set x2_3.toNat false : List Bool) (x2_11.set x2_3.toNat (x2_13.getD x2_3.toNat false) : List Bool) (x2_12 : List Bool) (x2_13 : List Bool)
              else
               none
             else
              none
            else
             bif inb x2_3 x2_11.length then
              g2 (x2_0 : List Bool) (x2_1 : Int) (x2_2 : Int) (IntKind.i64.wrap (x2_3 + 1) : Int) (x2_4 : Int) (x2_5 : List (List (ByteArray × List (Int × Int × Unit) × Unit))) (x2_6 : List ByteArray) (x2_7 : List (List Int)) (x2_8.set x2_3.toNat true : List Bool) (x2_9.set x2_3.toNat true : List Bool) (x2_10.set x2_3.toNat false : List Bool) (x2_11.set x2_3.toNat false : List Bool) (x2_12 : List Bool) (x2_13 : List Bool)
             else
              none
           else
            none
          else
           none
        else
         none
       else
        none
      else
       bif inb x2_3 x2_13.length then
        bif inb x2_3 x2_9.length then
         bif inb x2_3 x2_10.length then
          bif x2_10.getD x2_3.toNat false then
           bif inb x2_3 x2_12.length then
            bif inb x2_3 x2_10.length then
             bif inb x2_3 x2_11.length then
              bif x2_11.getD x2_3.toNat false then
               bif inb x2_3 x2_13.length then
                bif inb x2_3 x2_11.length then
                 g2 (x2_0 : List Bool) (x2_1 : Int) (x2_2 : Int) (IntKind.i64.wrap (x2_3 + 1) : Int) (x2_4 : Int) (x2_5 : List (List (ByteArray × List (Int × Int × Unit) × Unit))) (x2_6 : List ByteArray) (x2_7 : List (List Int)) (x2_8.set x2_3.toNat true : List Bool) (x2_9.set x2_3.toNat (x2_13.getD x2_3.toNat false) : List Bool) (x2_10.set x2_3.toNat (x2_12.getD x2_3.toNat false) : List Bool) (x2_11.set x2_3.toNat (x2_13.getD x2_3.toNat false) : List Bool) (x2_12 : List Bool) (x2_13 : List Bool)
                else
                 none
               else
                none
              else
               bif inb x2_3 x2_11.length then
                g2 (x2_0 : List Bool) (x2_1 : Int) (x2_2 : Int) (IntKind.i64.wrap (x2_3 + 1) : Int) (x2_4 : Int) (x2_5 : List (List (ByteArray × List (Int × Int × Unit) × Unit))) (x2_6 : List ByteArray) (x2_7 : List (List Int)) (x2_8.set x2_3.toNat true : List Bool) (x2_9.set x2_3.toNat (x2_13.getD x2_3.toNat false) : List Bool) (x2_10.set x2_3.toNat (x2_12.getD x2_3.toNat false) : List Bool) (x2_11.set x2_3.toNat false : List Bool) (x2_12 : List Bool) (x2_13 : List Bool)
               else
                none
             else
              none
            else
             none
           else
            none
          else
           bif inb x2_3 x2_10.length then
            bif inb x2_3 x2_11.length then
             bif x2_11.getD x2_3.toNat false then
              bif inb x2_3 x2_13.length then
               bif inb x2_3 x2_11.length then
                g2 (x2_0 : List Bool) (x2_1 : Int) (x2_2 : Int) (IntKind.i64.wrap (x2_3 + 1) : Int) (x2_4 : Int) (x2_5 : List (List (ByteArray × List (Int × Int × Unit) × Unit))) (x2_6 : List ByteArray) (x2_7 : List (List Int)) (x2_8.set x2_3.toNat true : List Bool) (x2_9.set x2_3.toNat (x2_13.getD x2_3.toNat false) : List Bool) (x2_10.set x2_3.toNat false : List Bool) (x2_11.set x2_3.toNat (x2_13.getD x2_3.toNat false) : List Bool) (x2_12 : List Bool) (x2_13 : List Bool)
               else
                none
              else
               none
             else
              bif inb x2_3 x2_11.length then
               g2 (x2_0 : List Bool) (x2_1 : Int) (x2_2 : Int) (IntKind.i64.wrap (x2_3 + 1) : Int) (x2_4 : Int) (x2_5 : List (List (ByteArray × List (Int × Int × Unit) × Unit))) (x2_6 : List ByteArray) (x2_7 : List (List Int)) (x2_8.set x2_3.toNat true : List Bool) (x2_9.set x2_3.toNat (x2_13.getD x2_3.toNat false) : List Bool) (x2_10.set x2_3.toNat false : List Bool) (x2_11.set x2_3.toNat false : List Bool) (x2_12 : List Bool) (x2_13 : List Bool)
              else
               none
            else
             none
           else
            none
         else
          none
        else
         none
       else
        none
     else
      none
    else
     none
   else
    bif inb x2_3 x2_12.length then
     bif inb x2_3 x2_8.length then
      bif inb x2_3 x2_9.length then
       bif x2_9.getD x2_3.toNat false then
        bif inb x2_3 x2_9.length then
         bif inb x2_3 x2_10.length then
          bif x2_10.getD x2_3.toNat false then
           bif inb x2_3 x2_12.length then
            bif inb x2_3 x2_10.length then
             bif inb x2_3 x2_11.length then
              bif x2_11.getD x2_3.toNat false then
               bif inb x2_3 x2_13.length then
                bif inb x2_3 x2_11.length then
                 g2 (x2_0 : List Bool) (x2_1 : Int) (x2_2 : Int) (IntKind.i64.wrap (x2_3 + 1) : Int) (x2_4 : Int) (x2_5 : List (List (ByteArray × List (Int × Int × Unit) × Unit))) (x2_6 : List ByteArray) (x2_7 : List (List Int)) (x2_8.set x2_3.toNat (x2_12.getD x2_3.toNat false) : List Bool) (x2_9.set x2_3.toNat true : List Bool) (x2_10.set x2_3.toNat (x2_12.getD x2_3.toNat false) : List Bool) (x2_11.set x2_3.toNat (x2_13.getD x2_3.toNat false) : List Bool) (x2_12 : List Bool) (x2_13 : List Bool)
                else
                 none
               else
                none
              else
               bif inb x2_3 x2_11.length then
                g2 (x2_0 : List Bool) (x2_1 : Int) (x2_2 : Int) (IntKind.i64.wrap (x2_3 + 1) : Int) (x2_4 : Int) (x2_5 : List (List (ByteArray × List (Int × Int × Unit) × Unit))) (x2_6 : List ByteArray) (x2_7 : List (List Int)) (x2_8.set x2_3.toNat (x2_12.getD x2_3.toNat false) : List Bool) (x2_9.set x2_3.toNat true : List Bool) (x2_10.set x2_3.toNat (x2_12.getD x2_3.toNat false) : List Bool) (x2_11.set x2_3.toNat false : List Bool) (x2_12 : List Bool) (x2_13 : List Bool)
               else
                none
             else
              none
            else
             none
           else
            none
          else
           bif inb x2_3 x2_10.length then
            bif inb x2_3 x2_11.length then
             bif x2_11.getD x2_3.toNat false then
              bif inb x2_3 x2_13.length then
               bif inb x2_3 x2_11.length then
                g2 (x2_0 : List Bool) (x2_1 : Int) (x2_2 : Int) (IntKind.i64.wrap (x2_3 + 1) : Int) (x2_4 : Int) (x2_5 : List (List (ByteArray × List (Int × Int × Unit) × Unit))) (x2_6 : List ByteArray) (x2_7 : List (List Int)) (x2_8.set x2_3.toNat (x2_12.getD x2_3.toNat false) : List Bool) (x2_9.set x2_3.toNat true : List Bool) (x2_10.set x2_3.toNat false : List Bool) (x2_11.set x2_3.toNat (x2_13.getD x2_3.toNat false) : List Bool) (x2_12 : List Bool) (x2_13 : List Bool)
               else
                none
              else
               none
             else
              bif inb x2_3 x2_11.length then
               g2 (x2_0 : List Bool) (x2_1 : Int) (x2_2 : Int) (IntKind.i64.wrap (x2_3 + 1) : Int) (x2_4 : Int) (x2_5 : List (List (ByteArray × List (Int × Int × Unit) × Unit))) (x2_6 : List ByteArray) (x2_7 : List (List Int)) (x2_8.set x2_3.toNat (x2_12.getD x2_3.toNat false) : List Bool) (x2_9.set x2_3.toNat true : List Bool) (x2_10.set x2_3.toNat false : List Bool) (x2_11.set x2_3.toNat false : List Bool) (x2_12 : List Bool) (x2_13 : List Bool)
              else
               none
            else
             none
           else
            none
         else
          none
        else
         none
       else
        bif inb x2_3 x2_13.length then
         bif inb x2_3 x2_9.length then
          bif inb x2_3 x2_10.length then
           bif x2_10.getD x2_3.toNat false then
            bif inb x2_3 x2_12.length then
             bif inb x2_3 x2_10.length then
              bif inb x2_3 x2_11.length then
               bif x2_11.getD x2_3.toNat false then
                bif inb x2_3 x2_13.length then
                 bif inb x2_3 x2_11.length then
                  g2 (x2_0 : List Bool) (x2_1 : Int) (x2_2 : Int) (IntKind.i64.wrap (x2_3 + 1) : Int) (x2_4 : Int) (x2_5 : List (List (ByteArray × List (Int × Int × Unit) × Unit))) (x2_6 : List ByteArray) (x2_7 : List (List Int)) (x2_8.set x2_3.toNat (x2_12.getD x2_3.toNat false) : List Bool) (x2_9.set x2_3.toNat (x2_13.getD x2_3.toNat false) : List Bool) (x2_10.set x2_3.toNat (x2_12.getD x2_3.toNat false) : List Bool) (x2_11.set x2_3.toNat (x2_13.getD x2_3.toNat false) : List Bool) (x2_12 : List Bool) (x2_13 : List Bool)
                 else
                  none
                else
                 none
               else
                bif inb x2_3 x2_11.length then
                 g2 (x2_0 : List Bool) (x2_1 : Int) (x2_2 : Int) (IntKind.i64.wrap (x2_3 + 1) : Int) (x2_4 : Int) (x2_5 : List (List (ByteArray × List (Int × Int × Unit) × Unit))) (x2_6 : List ByteArray) (x2_7 : List (List Int)) (x2_8.set x2_3.toNat (x2_12.getD x2_3.toNat false) : List Bool) (x2_9.set x2_3.toNat (x2_13.getD x2_3.toNat false) : List Bool) (x2_10.set x2_3.toNat (x2_12.getD x2_3.toNat false) : List Bool) (x2_11.set x2_3.toNat false : List Bool) (x2_12 : List Bool) (x2_13 : List Bool)
                else
                 none
              else
               none
             else
              none
            else
             none
           else
            bif inb x2_3 x2_10.length then
             bif inb x2_3 x2_11.length then
              bif x2_11.getD x2_3.toNat false then
               bif inb x2_3 x2_13.length then
                bif inb x2_3 x2_11.length then
                 g2 (x2_0 : List Bool) (x2_1 : Int) (x2_2 : Int) (IntKind.i64.wrap (x2_3 + 1) : Int) (x2_4 : Int) (x2_5 : List (List (ByteArray × List (Int × Int × Unit) × Unit))) (x2_6 : List ByteArray) (x2_7 : List (List Int)) (x2_8.set x2_3.toNat (x2_12.getD x2_3.toNat false) : List Bool) (x2_9.set x2_3.toNat (x2_13.getD x2_3.toNat false) : List Bool) (x2_10.set x2_3.toNat false : List Bool) (x2_11.set x2_3.toNat (x2_13.getD x2_3.toNat false) : List Bool) (x2_12 : List Bool) (x2_13 : List Bool)
                else
                 none
               else
                none
              else
               bif inb x2_3 x2_11.length then
                g2 (x2_0 : List Bool) (x2_1 : Int) (x2_2 : Int) (IntKind.i64.wrap (x2_3 + 1) : Int) (x2_4 : Int) (x2_5 : List (List (ByteArray × List (Int × Int × Unit) × Unit))) (x2_6 : List ByteArray) (x2_7 : List (List Int)) (x2_8.set x2_3.toNat (x2_12.getD x2_3.toNat false) : List Bool) (x2_9.set x2_3.toNat (x2_13.getD x2_3.toNat false) : List Bool) (x2_10.set x2_3.toNat false : List Bool) (x2_11.set x2_3.toNat false : List Bool) (x2_12 : List Bool) (x2_13 : List Bool)
               else
                none
             else
              none
            else
             none
          else
           none
         else
          none
        else
         none
      else
       none
     else
      none
    else
     none
  else
   none
 else
  g1 (x2_0 : List Bool) (x2_1 : Int) (IntKind.i64.wrap (x2_2 + 1) : Int) (x2_4 : Int) (x2_5 : List (List (ByteArray × List (Int × Int × Unit) × Unit))) (x2_6 : List ByteArray) (x2_7 : List (List Int)) (x2_8 : List Bool) (x2_9 : List Bool) (x2_10 : List Bool) (x2_11 : List Bool)
noncomputable def r18L2 (n : Nat) (g1 : r18G1) : Nat → r18G2
  | 0 => fun _ _ _ _ _ _ _ _ _ _ _ _ _ _ => none
  | m + 1 => fun x2_0 x2_1 x2_2 x2_3 x2_4 x2_5 x2_6 x2_7 x2_8 x2_9 x2_10 x2_11 x2_12 x2_13 => r18S2  g1 (r18L2 n g1 m) x2_0 x2_1 x2_2 x2_3 x2_4 x2_5 x2_6 x2_7 x2_8 x2_9 x2_10 x2_11 x2_12 x2_13
theorem r18S2_ev (n : Nat) (G1 : St → Option Lf) (G : St → Option Lf) (x2_0 : List Bool) (x2_1 : Int) (x2_2 : Int) (x2_3 : Int) (x2_4 : Int) (x2_5 : List (List (ByteArray × List (Int × Int × Unit) × Unit))) (x2_6 : List ByteArray) (x2_7 : List (List Int)) (x2_8 : List Bool) (x2_9 : List Bool) (x2_10 : List Bool) (x2_11 : List Bool) (x2_12 : List Bool) (x2_13 : List Bool) : rnd C20 r18h n Lf (codeOf r18f) [1, 1, 1, 1, 1, 0, 1, 0, 0, 1, 0, 0, 1, 1, 0] [G1] (endK C20 r18h r18f) G (r18H2 x2_0 x2_1 x2_2 x2_3 x2_4 x2_5 x2_6 x2_7 x2_8 x2_9 x2_10 x2_11 x2_12 x2_13) = r18S2  (r18W1 G1) (r18W2 G) x2_0 x2_1 x2_2 x2_3 x2_4 x2_5 x2_6 x2_7 x2_8 x2_9 x2_10 x2_11 x2_12 x2_13 := by kernel_rfl
theorem r18W2_ev (n : Nat) (G1 : St → Option Lf) : ∀ m, (r18W2 (lp C20 r18h n Lf (codeOf r18f) [1, 1, 1, 1, 1, 0, 1, 0, 0, 1, 0, 0, 1, 1, 0] [G1] (endK C20 r18h r18f) m)) = r18L2 n (r18W1 G1) m := by
  intro m
  induction m with
  | zero => funext x2_0 x2_1 x2_2 x2_3 x2_4 x2_5 x2_6 x2_7 x2_8 x2_9 x2_10 x2_11 x2_12 x2_13; exact lp_zero _
  | succ m ih =>
    funext x2_0 x2_1 x2_2 x2_3 x2_4 x2_5 x2_6 x2_7 x2_8 x2_9 x2_10 x2_11 x2_12 x2_13
    show lp C20 r18h n Lf (codeOf r18f) [1, 1, 1, 1, 1, 0, 1, 0, 0, 1, 0, 0, 1, 1, 0] [G1] (endK C20 r18h r18f) (m + 1) (r18H2 x2_0 x2_1 x2_2 x2_3 x2_4 x2_5 x2_6 x2_7 x2_8 x2_9 x2_10 x2_11 x2_12 x2_13) = r18S2  (r18W1 G1) (r18L2 n (r18W1 G1) m) x2_0 x2_1 x2_2 x2_3 x2_4 x2_5 x2_6 x2_7 x2_8 x2_9 x2_10 x2_11 x2_12 x2_13
    rw [lp_succ, r18S2_ev, ih]
noncomputable def r18S1 (l2 : r18G2) (g1 : r18G1) (x1_0 : List Bool) (x1_1 : Int) (x1_2 : Int) (x1_3 : Int) (x1_4 : List (List (ByteArray × List (Int × Int × Unit) × Unit))) (x1_5 : List ByteArray) (x1_6 : List (List Int)) (x1_7 : List Bool) (x1_8 : List Bool) (x1_9 : List Bool) (x1_10 : List Bool) : Option Lf :=
 bif ofMG x1_4 x1_5 x1_6 then
  bif decide (x1_2 < picksF 1 x1_4) then
   bif ofMG x1_4 x1_5 x1_6 && (full x1_4 && (decide (0 ≤ x1_2) && decide (x1_2 ≤ 1000000))) then
    bif comeG x1_4 x1_5 x1_6 x1_0 (pickF x1_2.toNat x1_4) then
     l2 (x1_0 : List Bool) (x1_1 : Int) (x1_2 : Int) (0 : Int) (x1_3 : Int) (x1_4 : List (List (ByteArray × List (Int × Int × Unit) × Unit))) (x1_5 : List ByteArray) (x1_6 : List (List Int)) (x1_7 : List Bool) (x1_8 : List Bool) (x1_9 : List Bool) (x1_10 : List Bool) (mayP x1_4 x1_0 (pickF x1_2.toNat x1_4) : List Bool) (sureP x1_4 x1_0 (pickF x1_2.toNat x1_4) : List Bool)
    else
     none
   else
    none
  else
   some (Lf.mk [(Pt.one (L.rw (Id.mk 1 0))), (Pt.one (L.rw (Id.mk 1 1))), (Pt.one (L.rw (Id.mk 1 2))), (Pt.one (L.rw (Id.mk 1 3)))] [] [(Ob.ro true 0 4 Sh.b Ow.z (x1_7 : List Bool) Option.none), (Ob.ro true 0 4 Sh.b Ow.z (x1_8 : List Bool) Option.none), (Ob.ro true 0 4 Sh.b Ow.z (x1_9 : List Bool) Option.none), (Ob.ro true 0 4 Sh.b Ow.z (x1_10 : List Bool) Option.none)])
 else
  none
noncomputable def r18L1 (n : Nat)  : Nat → r18G1
  | 0 => fun _ _ _ _ _ _ _ _ _ _ _ => none
  | m + 1 => fun x1_0 x1_1 x1_2 x1_3 x1_4 x1_5 x1_6 x1_7 x1_8 x1_9 x1_10 => r18S1 (r18L2 n (r18L1 n  m) n)  (r18L1 n  m) x1_0 x1_1 x1_2 x1_3 x1_4 x1_5 x1_6 x1_7 x1_8 x1_9 x1_10
theorem r18S1_ev (n : Nat)  (G : St → Option Lf) (x1_0 : List Bool) (x1_1 : Int) (x1_2 : Int) (x1_3 : Int) (x1_4 : List (List (ByteArray × List (Int × Int × Unit) × Unit))) (x1_5 : List ByteArray) (x1_6 : List (List Int)) (x1_7 : List Bool) (x1_8 : List Bool) (x1_9 : List Bool) (x1_10 : List Bool) : rnd C20 r18h n Lf (codeOf r18f) [1, 1, 1, 1, 1, 0, 1, 0] [] (endK C20 r18h r18f) G (r18H1 x1_0 x1_1 x1_2 x1_3 x1_4 x1_5 x1_6 x1_7 x1_8 x1_9 x1_10) = r18S1 (r18W2 (lp C20 r18h n Lf (codeOf r18f) [1, 1, 1, 1, 1, 0, 1, 0, 0, 1, 0, 0, 1, 1, 0] [G] (endK C20 r18h r18f) n))  (r18W1 G) x1_0 x1_1 x1_2 x1_3 x1_4 x1_5 x1_6 x1_7 x1_8 x1_9 x1_10 := by kernel_rfl
theorem r18W1_ev (n : Nat)  : ∀ m, (r18W1 (lp C20 r18h n Lf (codeOf r18f) [1, 1, 1, 1, 1, 0, 1, 0] [] (endK C20 r18h r18f) m)) = r18L1 n  m := by
  intro m
  induction m with
  | zero => funext x1_0 x1_1 x1_2 x1_3 x1_4 x1_5 x1_6 x1_7 x1_8 x1_9 x1_10; exact lp_zero _
  | succ m ih =>
    have e2 : (r18W2 (lp C20 r18h n Lf (codeOf r18f) [1, 1, 1, 1, 1, 0, 1, 0, 0, 1, 0, 0, 1, 1, 0] [(lp C20 r18h n Lf (codeOf r18f) [1, 1, 1, 1, 1, 0, 1, 0] [] (endK C20 r18h r18f) m)] (endK C20 r18h r18f) n)) = (r18L2 n (r18L1 n  m) n) := by
      rw [r18W2_ev, ih]
    funext x1_0 x1_1 x1_2 x1_3 x1_4 x1_5 x1_6 x1_7 x1_8 x1_9 x1_10
    show lp C20 r18h n Lf (codeOf r18f) [1, 1, 1, 1, 1, 0, 1, 0] [] (endK C20 r18h r18f) (m + 1) (r18H1 x1_0 x1_1 x1_2 x1_3 x1_4 x1_5 x1_6 x1_7 x1_8 x1_9 x1_10) = r18S1 (r18L2 n (r18L1 n  m) n)  (r18L1 n  m) x1_0 x1_1 x1_2 x1_3 x1_4 x1_5 x1_6 x1_7 x1_8 x1_9 x1_10
    rw [lp_succ, r18S1_ev, ih, e2]
noncomputable def r18S0 (l1 : r18G1) (g0 : r18G0) (x0_0 : List Bool) (x0_1 : Int) (x0_2 : Int) (x0_3 : Int) (x0_4 : List (List (ByteArray × List (Int × Int × Unit) × Unit))) (x0_5 : List ByteArray) (x0_6 : List (List Int)) (x0_7 : List Bool) (x0_8 : List Bool) (x0_9 : List Bool) (x0_10 : List Bool) : Option Lf :=
 bif decide (x0_2 < x0_1) then
  bif inb x0_2 x0_9.length then
   bif inb x0_2 x0_10.length then
    g0 (x0_0 : List Bool) (x0_1 : Int) (IntKind.i64.wrap (x0_2 + 1) : Int) (x0_3 : Int) (x0_4 : List (List (ByteArray × List (Int × Int × Unit) × Unit))) (x0_5 : List ByteArray) (x0_6 : List (List Int)) (x0_7 : List Bool) (x0_8 : List Bool) (x0_9.set x0_2.toNat true : List Bool) (x0_10.set x0_2.toNat true : List Bool)
   else
    none
  else
   none
 else
  l1 (x0_0 : List Bool) (x0_1 : Int) (0 : Int) (x0_3 : Int) (x0_4 : List (List (ByteArray × List (Int × Int × Unit) × Unit))) (x0_5 : List ByteArray) (x0_6 : List (List Int)) (x0_7 : List Bool) (x0_8 : List Bool) (x0_9 : List Bool) (x0_10 : List Bool)
noncomputable def r18L0 (n : Nat)  : Nat → r18G0
  | 0 => fun _ _ _ _ _ _ _ _ _ _ _ => none
  | m + 1 => fun x0_0 x0_1 x0_2 x0_3 x0_4 x0_5 x0_6 x0_7 x0_8 x0_9 x0_10 => r18S0 (r18L1 n  n)  (r18L0 n  m) x0_0 x0_1 x0_2 x0_3 x0_4 x0_5 x0_6 x0_7 x0_8 x0_9 x0_10
theorem r18S0_ev (n : Nat)  (G : St → Option Lf) (x0_0 : List Bool) (x0_1 : Int) (x0_2 : Int) (x0_3 : Int) (x0_4 : List (List (ByteArray × List (Int × Int × Unit) × Unit))) (x0_5 : List ByteArray) (x0_6 : List (List Int)) (x0_7 : List Bool) (x0_8 : List Bool) (x0_9 : List Bool) (x0_10 : List Bool) : rnd C20 r18h n Lf (codeOf r18f) [1, 1, 1, 1, 0, 1, 0] [] (endK C20 r18h r18f) G (r18H0 x0_0 x0_1 x0_2 x0_3 x0_4 x0_5 x0_6 x0_7 x0_8 x0_9 x0_10) = r18S0 (r18W1 (lp C20 r18h n Lf (codeOf r18f) [1, 1, 1, 1, 1, 0, 1, 0] [] (endK C20 r18h r18f) n))  (r18W0 G) x0_0 x0_1 x0_2 x0_3 x0_4 x0_5 x0_6 x0_7 x0_8 x0_9 x0_10 := by kernel_rfl
theorem r18W0_ev (n : Nat)  : ∀ m, (r18W0 (lp C20 r18h n Lf (codeOf r18f) [1, 1, 1, 1, 0, 1, 0] [] (endK C20 r18h r18f) m)) = r18L0 n  m := by
  intro m
  induction m with
  | zero => funext x0_0 x0_1 x0_2 x0_3 x0_4 x0_5 x0_6 x0_7 x0_8 x0_9 x0_10; exact lp_zero _
  | succ m ih =>
    have e1 : (r18W1 (lp C20 r18h n Lf (codeOf r18f) [1, 1, 1, 1, 1, 0, 1, 0] [] (endK C20 r18h r18f) n)) = (r18L1 n  n) := by
      rw [r18W1_ev]
    funext x0_0 x0_1 x0_2 x0_3 x0_4 x0_5 x0_6 x0_7 x0_8 x0_9 x0_10
    show lp C20 r18h n Lf (codeOf r18f) [1, 1, 1, 1, 0, 1, 0] [] (endK C20 r18h r18f) (m + 1) (r18H0 x0_0 x0_1 x0_2 x0_3 x0_4 x0_5 x0_6 x0_7 x0_8 x0_9 x0_10) = r18S0 (r18L1 n  n)  (r18L0 n  m) x0_0 x0_1 x0_2 x0_3 x0_4 x0_5 x0_6 x0_7 x0_8 x0_9 x0_10
    rw [lp_succ, r18S0_ev, ih, e1]
noncomputable def r18T (l0 : r18G0) (i : Int) (ch : List (List (ByteArray × List (Int × Int × Unit) × Unit))) (nm : List ByteArray) (ho : List (List Int)) (set : List Bool) : Option Lf :=
 bif decide (0 ≤ zn set.length) && (decide (zn set.length ≤ zn set.length) && decide (1 * (zn set.length).toNat ≤ 140737488355328)) then
  bif decide (0 ≤ zn set.length) && (decide (zn set.length ≤ zn set.length) && decide (1 * (zn set.length).toNat ≤ 140737488355328)) then
   bif decide (0 ≤ zn set.length) && (decide (zn set.length ≤ zn set.length) && decide (1 * (zn set.length).toNat ≤ 140737488355328)) then
    bif decide (0 ≤ zn set.length) && (decide (zn set.length ≤ zn set.length) && decide (1 * (zn set.length).toNat ≤ 140737488355328)) then
     l0 (set : List Bool) (zn set.length : Int) (0 : Int) (i : Int) (ch : List (List (ByteArray × List (Int × Int × Unit) × Unit))) (nm : List ByteArray) (ho : List (List Int)) (List.replicate (zn set.length).toNat false : List Bool) (List.replicate (zn set.length).toNat false : List Bool) (List.replicate (zn set.length).toNat false : List Bool) (List.replicate (zn set.length).toNat false : List Bool)
    else
     none
   else
    none
  else
   none
 else
  none
noncomputable def r18M (n : Nat) (i : Int) (ch : List (List (ByteArray × List (Int × Int × Unit) × Unit))) (nm : List ByteArray) (ho : List (List Int)) (set : List Bool) : Option Lf := r18T (r18L0 n n) i ch nm ho set
theorem r18T_ev (n : Nat) (i : Int) (ch : List (List (ByteArray × List (Int × Int × Unit) × Unit))) (nm : List ByteArray) (ho : List (List Int)) (set : List Bool) : evF C20 r18h n r18f [(D.p (Pt.agg [(L.d (Pv.fz true) (Sh.i IntKind.i64) i), (L.d (Pv.fz false) (Sh.l (Sh.l (Sh.p Sh.s (Sh.p (Sh.l (Sh.p (Sh.i IntKind.i64) (Sh.p (Sh.i IntKind.i64) Sh.u))) Sh.u)))) ch), (L.d (Pv.fz false) (Sh.l Sh.s) nm), (L.d (Pv.fz false) (Sh.l (Sh.l (Sh.i IntKind.i64))) ho)])), (D.p (Pt.one (L.d (Pv.fz false) (Sh.l Sh.b) set)))] [] = r18T (r18W0 (lp C20 r18h n Lf (codeOf r18f) [1, 1, 1, 1, 0, 1, 0] [] (endK C20 r18h r18f) n)) i ch nm ho set := by kernel_rfl
theorem r18_ev (n : Nat) (i : Int) (ch : List (List (ByteArray × List (Int × Int × Unit) × Unit))) (nm : List ByteArray) (ho : List (List Int)) (set : List Bool) : evF C20 r18h n r18f [(D.p (Pt.agg [(L.d (Pv.fz true) (Sh.i IntKind.i64) i), (L.d (Pv.fz false) (Sh.l (Sh.l (Sh.p Sh.s (Sh.p (Sh.l (Sh.p (Sh.i IntKind.i64) (Sh.p (Sh.i IntKind.i64) Sh.u))) Sh.u)))) ch), (L.d (Pv.fz false) (Sh.l Sh.s) nm), (L.d (Pv.fz false) (Sh.l (Sh.l (Sh.i IntKind.i64))) ho)])), (D.p (Pt.one (L.d (Pv.fz false) (Sh.l Sh.b) set)))] [] = r18M n i ch nm ho set := by
  rw [r18T_ev, r18W0_ev]
  rfl

abbrev r21h : Hn := h21r
noncomputable abbrev r21f : Func := fn 21
abbrev r21G0 := (List (List Int)) → (List (List Int)) → Int → Option Lf
noncomputable def r21H0 (x0_0 : List (List Int)) (x0_1 : List (List Int)) (x0_2 : Int) : St := (St.mk [(D.p (Pt.one (L.d (Pv.fz false) (Sh.l (Sh.l (Sh.i IntKind.i64))) x0_0))), (D.p (Pt.one (L.d (Pv.fz false) (Sh.l (Sh.l (Sh.i IntKind.i64))) x0_1))), dead, dead, dead, (D.p (Pt.one (L.d (Pv.fz true) (Sh.i IntKind.i64) x0_2))), dead, dead, dead, dead, dead, dead, dead, dead, dead, dead, dead, dead, dead, dead, dead, dead, dead, dead, dead, dead, dead, dead, dead, dead, dead, dead, dead, dead, dead, dead, dead, dead, dead, dead, dead, dead, dead, dead, dead, dead, dead, dead, dead, dead, dead, dead, dead] [[], []])
noncomputable def r21W0 (G : St → Option Lf) : r21G0 := fun x0_0 x0_1 x0_2 => G (r21H0 x0_0 x0_1 x0_2)
abbrev r21G1 := (List (List Int)) → (List (List Int)) → Int → Int → Option Lf
noncomputable def r21H1 (x1_0 : List (List Int)) (x1_1 : List (List Int)) (x1_2 : Int) (x1_3 : Int) : St := (St.mk [(D.p (Pt.one (L.d (Pv.fz false) (Sh.l (Sh.l (Sh.i IntKind.i64))) x1_0))), (D.p (Pt.one (L.d (Pv.fz false) (Sh.l (Sh.l (Sh.i IntKind.i64))) x1_1))), dead, dead, dead, (D.p (Pt.one (L.d (Pv.fz true) (Sh.i IntKind.i64) x1_2))), (D.p (Pt.one (L.d (Pv.fz true) (Sh.i IntKind.i64) x1_3))), dead, dead, dead, dead, dead, dead, dead, dead, dead, dead, dead, dead, dead, dead, dead, dead, dead, dead, dead, dead, dead, dead, dead, dead, dead, dead, dead, dead, dead, dead, dead, dead, dead, dead, dead, dead, dead, dead, dead, dead, dead, dead, dead, dead, dead, dead] [[], []])
noncomputable def r21W1 (G : St → Option Lf) : r21G1 := fun x1_0 x1_1 x1_2 x1_3 => G (r21H1 x1_0 x1_1 x1_2 x1_3)
noncomputable def r21S1  (g0 : r21G0) (g1 : r21G1) (x1_0 : List (List Int)) (x1_1 : List (List Int)) (x1_2 : Int) (x1_3 : Int) : Option Lf :=
 bif inb x1_2 x1_0.length then
  bif decide (x1_3 < zn (x1_0.getD x1_2.toNat []).length) then
   bif inb x1_2 x1_0.length then
    bif inb x1_3 (x1_0.getD x1_2.toNat []).length then
     bif inb x1_2 x1_1.length then
      bif inb x1_3 (x1_1.getD x1_2.toNat []).length then
       bif (x1_0.getD x1_2.toNat []).getD x1_3.toNat 0 != (x1_1.getD x1_2.toNat []).getD x1_3.toNat 0 then
        some (Lf.mk [(Pt.one (L.d (Pv.fz true) Sh.b (false : Bool)))] [] [])
       else
        g1 (x1_0 : List (List Int)) (x1_1 : List (List Int)) (x1_2 : Int) (IntKind.i64.wrap (x1_3 + 1) : Int)
      else
       none
     else
      none
    else
     none
   else
    none
  else
   g0 (x1_0 : List (List Int)) (x1_1 : List (List Int)) (IntKind.i64.wrap (x1_2 + 1) : Int)
 else
  none
noncomputable def r21L1 (n : Nat) (g0 : r21G0) : Nat → r21G1
  | 0 => fun _ _ _ _ => none
  | m + 1 => fun x1_0 x1_1 x1_2 x1_3 => r21S1  g0 (r21L1 n g0 m) x1_0 x1_1 x1_2 x1_3
theorem r21S1_ev (n : Nat) (G0 : St → Option Lf) (G : St → Option Lf) (x1_0 : List (List Int)) (x1_1 : List (List Int)) (x1_2 : Int) (x1_3 : Int) : rnd C1 r21h n Lf (codeOf r21f) [1, 1, 0, 1, 0, 0, 1, 0, 0, 1, 1, 0] [G0] (endK C1 r21h r21f) G (r21H1 x1_0 x1_1 x1_2 x1_3) = r21S1  (r21W0 G0) (r21W1 G) x1_0 x1_1 x1_2 x1_3 := by kernel_rfl
theorem r21W1_ev (n : Nat) (G0 : St → Option Lf) : ∀ m, (r21W1 (lp C1 r21h n Lf (codeOf r21f) [1, 1, 0, 1, 0, 0, 1, 0, 0, 1, 1, 0] [G0] (endK C1 r21h r21f) m)) = r21L1 n (r21W0 G0) m := by
  intro m
  induction m with
  | zero => funext x1_0 x1_1 x1_2 x1_3; exact lp_zero _
  | succ m ih =>
    funext x1_0 x1_1 x1_2 x1_3
    show lp C1 r21h n Lf (codeOf r21f) [1, 1, 0, 1, 0, 0, 1, 0, 0, 1, 1, 0] [G0] (endK C1 r21h r21f) (m + 1) (r21H1 x1_0 x1_1 x1_2 x1_3) = r21S1  (r21W0 G0) (r21L1 n (r21W0 G0) m) x1_0 x1_1 x1_2 x1_3
    rw [lp_succ, r21S1_ev, ih]
noncomputable def r21S0 (l1 : r21G1) (g0 : r21G0) (x0_0 : List (List Int)) (x0_1 : List (List Int)) (x0_2 : Int) : Option Lf :=
 bif decide (x0_2 < zn x0_0.length) then
  bif inb x0_2 x0_0.length then
   bif inb x0_2 x0_1.length then
    bif zn (x0_0.getD x0_2.toNat []).length != zn (x0_1.getD x0_2.toNat []).length then
     some (Lf.mk [(Pt.one (L.d (Pv.fz true) Sh.b (false : Bool)))] [] [])
    else
     l1 (x0_0 : List (List Int)) (x0_1 : List (List Int)) (x0_2 : Int) (0 : Int)
   else
    none
  else
   none
 else
  some (Lf.mk [(Pt.one (L.d (Pv.fz true) Sh.b (true : Bool)))] [] [])
noncomputable def r21L0 (n : Nat)  : Nat → r21G0
  | 0 => fun _ _ _ => none
  | m + 1 => fun x0_0 x0_1 x0_2 => r21S0 (r21L1 n (r21L0 n  m) n)  (r21L0 n  m) x0_0 x0_1 x0_2
theorem r21S0_ev (n : Nat)  (G : St → Option Lf) (x0_0 : List (List Int)) (x0_1 : List (List Int)) (x0_2 : Int) : rnd C1 r21h n Lf (codeOf r21f) [1, 1, 0, 1, 0] [] (endK C1 r21h r21f) G (r21H0 x0_0 x0_1 x0_2) = r21S0 (r21W1 (lp C1 r21h n Lf (codeOf r21f) [1, 1, 0, 1, 0, 0, 1, 0, 0, 1, 1, 0] [G] (endK C1 r21h r21f) n))  (r21W0 G) x0_0 x0_1 x0_2 := by kernel_rfl
theorem r21W0_ev (n : Nat)  : ∀ m, (r21W0 (lp C1 r21h n Lf (codeOf r21f) [1, 1, 0, 1, 0] [] (endK C1 r21h r21f) m)) = r21L0 n  m := by
  intro m
  induction m with
  | zero => funext x0_0 x0_1 x0_2; exact lp_zero _
  | succ m ih =>
    have e1 : (r21W1 (lp C1 r21h n Lf (codeOf r21f) [1, 1, 0, 1, 0, 0, 1, 0, 0, 1, 1, 0] [(lp C1 r21h n Lf (codeOf r21f) [1, 1, 0, 1, 0] [] (endK C1 r21h r21f) m)] (endK C1 r21h r21f) n)) = (r21L1 n (r21L0 n  m) n) := by
      rw [r21W1_ev, ih]
    funext x0_0 x0_1 x0_2
    show lp C1 r21h n Lf (codeOf r21f) [1, 1, 0, 1, 0] [] (endK C1 r21h r21f) (m + 1) (r21H0 x0_0 x0_1 x0_2) = r21S0 (r21L1 n (r21L0 n  m) n)  (r21L0 n  m) x0_0 x0_1 x0_2
    rw [lp_succ, r21S0_ev, ih, e1]
noncomputable def r21T (l0 : r21G0) (a : List (List Int)) (b : List (List Int)) : Option Lf :=
 bif zn a.length != zn b.length then
  some (Lf.mk [(Pt.one (L.d (Pv.fz true) Sh.b (false : Bool)))] [] [])
 else
  l0 (a : List (List Int)) (b : List (List Int)) (0 : Int)
noncomputable def r21M (n : Nat) (a : List (List Int)) (b : List (List Int)) : Option Lf := r21T (r21L0 n n) a b
theorem r21T_ev (n : Nat) (a : List (List Int)) (b : List (List Int)) : evF C1 r21h n r21f [(D.p (Pt.one (L.d (Pv.fz false) (Sh.l (Sh.l (Sh.i IntKind.i64))) a))), (D.p (Pt.one (L.d (Pv.fz false) (Sh.l (Sh.l (Sh.i IntKind.i64))) b)))] [] = r21T (r21W0 (lp C1 r21h n Lf (codeOf r21f) [1, 1, 0, 1, 0] [] (endK C1 r21h r21f) n)) a b := by kernel_rfl
theorem r21_ev (n : Nat) (a : List (List Int)) (b : List (List Int)) : evF C1 r21h n r21f [(D.p (Pt.one (L.d (Pv.fz false) (Sh.l (Sh.l (Sh.i IntKind.i64))) a))), (D.p (Pt.one (L.d (Pv.fz false) (Sh.l (Sh.l (Sh.i IntKind.i64))) b)))] [] = r21M n a b := by
  rw [r21T_ev, r21W0_ev]
  rfl
end Go.S22
