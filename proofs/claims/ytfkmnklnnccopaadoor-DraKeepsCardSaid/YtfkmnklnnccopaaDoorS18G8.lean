/-
  Seat 18: Trim: the form.
-/
import Derived.Test.YtfkmnklnnccopaaDoorS18W
open Go Go.En Go.S18
namespace Go.S18
noncomputable def C18 : Ctx := ctxOf C0 [(11, checkS), (39, partS)]
def h22 : Hn := ⟨fun | 9 => [1, 2, 5, 6, 7, 8] | 13 => [1, 2, 5, 6, 7, 8, 9, 48, 49, 50] | 22 => [2, 5, 7, 84, 85, 86] | _ => [], fun | 9 => [⟨7, some 2, 26, .l 3 .z⟩, ⟨7, some 3, 63, .p (.l 3 .z) (.p (.l 3 .z) .z)⟩] | 13 => [⟨9, none, 3, .z⟩] | _ => [], fun _ => false⟩

abbrev f22h : Hn := h22
noncomputable abbrev f22f : Func := fn 22
abbrev f22G0 := Int → Int → Int → (List (List Int)) → (List (List Int × List Int × Unit)) → Int → Int → (List Int) → (List Int) → Int → Int → (List (List Int)) → (List (List Int × List Int × Unit)) → Option Lf
noncomputable def f22H0 (x0_0 : Int) (x0_1 : Int) (x0_2 : Int) (x0_3 : List (List Int)) (x0_4 : List (List Int × List Int × Unit)) (x0_5 : Int) (x0_6 : Int) (x0_7 : List Int) (x0_8 : List Int) (x0_9 : Int) (x0_10 : Int) (x0_11 : List (List Int)) (x0_12 : List (List Int × List Int × Unit)) : St := (St.mk [dead, (D.p (Pt.one (L.pv (Id.mk 1 0) 0))), (D.p (Pt.one (L.pv (Id.mk 1 1) 0))), dead, dead, (D.p (Pt.one (L.rw (Id.mk 1 2)))), (D.p (Pt.one (L.rw (Id.mk 1 3)))), (D.p (Pt.one (L.pv (Id.mk 1 4) 0))), (D.p (Pt.one (L.d (Pv.fz true) (Sh.i IntKind.i64) x0_0))), dead, dead, dead, dead, dead, dead, dead, dead, dead, dead, dead, dead, dead, dead, dead, dead, dead, dead, dead, dead, dead, dead, dead, dead, dead, dead, dead, dead, dead, dead, dead, dead, dead, dead, dead, dead, dead, dead, dead, dead, dead, dead, dead, dead, dead, dead, dead, dead, dead, dead, dead, dead, dead, dead, dead, dead, dead, dead, dead, dead, dead, dead, dead, dead, dead, dead, dead, dead, dead, dead, dead, dead, dead, dead, dead, dead, dead, dead, dead, dead, dead, dead, dead, dead, dead, dead, dead, dead, dead, dead, dead, dead, dead, dead, dead, dead, dead, dead, dead, dead, dead, dead] [[], [(Ob.va [(L.d (Pv.fz true) (Sh.i IntKind.i64) x0_1), (L.d (Pv.fz true) (Sh.i IntKind.i64) x0_2), (L.d (Pv.fz false) (Sh.l (Sh.l (Sh.i IntKind.i64))) x0_3), (L.d (Pv.fz false) (Sh.l (Sh.p (Sh.l (Sh.i IntKind.i64)) (Sh.p (Sh.l (Sh.i IntKind.i64)) Sh.u))) x0_4)]), (Ob.va [(L.d (Pv.fz true) (Sh.i IntKind.i64) x0_5), (L.d (Pv.fz true) (Sh.i IntKind.i64) x0_6), L.nl, L.nl]), (Ob.ro true 0 3 (Sh.i IntKind.i64) Ow.z x0_7 Option.none), (Ob.ro true 0 3 (Sh.i IntKind.i64) Ow.z x0_8 Option.none), (Ob.va [(L.d (Pv.fz true) (Sh.i IntKind.i64) x0_9), (L.d (Pv.fz true) (Sh.i IntKind.i64) x0_10), (L.rw (Id.mk 1 5)), (L.rw (Id.mk 1 6))]), (Ob.ro true 0 26 (Sh.l (Sh.i IntKind.i64)) (Ow.l 3 Ow.z) x0_11 Option.none), (Ob.ro true 0 63 (Sh.p (Sh.l (Sh.i IntKind.i64)) (Sh.p (Sh.l (Sh.i IntKind.i64)) Sh.u)) (Ow.p (Ow.l 3 Ow.z) (Ow.p (Ow.l 3 Ow.z) Ow.z)) x0_12 Option.none)]])
noncomputable def f22W0 (G : St → Option Lf) : f22G0 := fun x0_0 x0_1 x0_2 x0_3 x0_4 x0_5 x0_6 x0_7 x0_8 x0_9 x0_10 x0_11 x0_12 => G (f22H0 x0_0 x0_1 x0_2 x0_3 x0_4 x0_5 x0_6 x0_7 x0_8 x0_9 x0_10 x0_11 x0_12)
abbrev f22G1 := Int → (List Int) → Int → Int → Int → Int → (List (List Int)) → (List (List Int × List Int × Unit)) → Int → Int → (List Int) → (List Int) → Int → Int → (List Int) → (List (List Int)) → (List (List Int × List Int × Unit)) → Option Lf
noncomputable def f22H1 (x1_0 : Int) (x1_1 : List Int) (x1_2 : Int) (x1_3 : Int) (x1_4 : Int) (x1_5 : Int) (x1_6 : List (List Int)) (x1_7 : List (List Int × List Int × Unit)) (x1_8 : Int) (x1_9 : Int) (x1_10 : List Int) (x1_11 : List Int) (x1_12 : Int) (x1_13 : Int) (x1_14 : List Int) (x1_15 : List (List Int)) (x1_16 : List (List Int × List Int × Unit)) : St := (St.mk [dead, (D.p (Pt.one (L.pv (Id.mk 1 0) 0))), (D.p (Pt.one (L.pv (Id.mk 1 1) 0))), dead, dead, (D.p (Pt.one (L.rw (Id.mk 1 2)))), (D.p (Pt.one (L.rw (Id.mk 1 3)))), (D.p (Pt.one (L.pv (Id.mk 1 4) 0))), (D.p (Pt.one (L.d (Pv.fz true) (Sh.i IntKind.i64) x1_0))), (D.p (Pt.one (L.rw (Id.mk 1 5)))), dead, dead, dead, dead, dead, dead, dead, dead, dead, dead, dead, dead, dead, dead, dead, dead, dead, dead, dead, dead, dead, dead, dead, dead, dead, dead, dead, dead, dead, dead, dead, dead, dead, dead, dead, dead, dead, dead, (D.p (Pt.one (L.d (Pv.fz false) (Sh.l (Sh.i IntKind.i64)) x1_1))), (D.p (Pt.one (L.d (Pv.fz true) (Sh.i IntKind.i64) x1_2))), (D.p (Pt.one (L.d (Pv.fz true) (Sh.i IntKind.i64) x1_3))), dead, dead, dead, dead, dead, dead, dead, dead, dead, dead, dead, dead, dead, dead, dead, dead, dead, dead, dead, dead, dead, dead, dead, dead, dead, dead, dead, dead, dead, dead, dead, dead, dead, dead, dead, dead, dead, dead, dead, dead, dead, dead, dead, dead, dead, dead, dead, dead, dead, dead, dead, dead, dead, dead, dead, dead, dead, dead, dead, dead] [[], [(Ob.va [(L.d (Pv.fz true) (Sh.i IntKind.i64) x1_4), (L.d (Pv.fz true) (Sh.i IntKind.i64) x1_5), (L.d (Pv.fz false) (Sh.l (Sh.l (Sh.i IntKind.i64))) x1_6), (L.d (Pv.fz false) (Sh.l (Sh.p (Sh.l (Sh.i IntKind.i64)) (Sh.p (Sh.l (Sh.i IntKind.i64)) Sh.u))) x1_7)]), (Ob.va [(L.d (Pv.fz true) (Sh.i IntKind.i64) x1_8), (L.d (Pv.fz true) (Sh.i IntKind.i64) x1_9), L.nl, L.nl]), (Ob.ro true 0 3 (Sh.i IntKind.i64) Ow.z x1_10 Option.none), (Ob.ro true 0 3 (Sh.i IntKind.i64) Ow.z x1_11 Option.none), (Ob.va [(L.d (Pv.fz true) (Sh.i IntKind.i64) x1_12), (L.d (Pv.fz true) (Sh.i IntKind.i64) x1_13), (L.rw (Id.mk 1 6)), (L.rw (Id.mk 1 7))]), (Ob.ro true 0 3 (Sh.i IntKind.i64) Ow.z x1_14 Option.none), (Ob.ro true 0 26 (Sh.l (Sh.i IntKind.i64)) (Ow.l 3 Ow.z) x1_15 Option.none), (Ob.ro true 0 63 (Sh.p (Sh.l (Sh.i IntKind.i64)) (Sh.p (Sh.l (Sh.i IntKind.i64)) Sh.u)) (Ow.p (Ow.l 3 Ow.z) (Ow.p (Ow.l 3 Ow.z) Ow.z)) x1_16 Option.none)]])
noncomputable def f22W1 (G : St → Option Lf) : f22G1 := fun x1_0 x1_1 x1_2 x1_3 x1_4 x1_5 x1_6 x1_7 x1_8 x1_9 x1_10 x1_11 x1_12 x1_13 x1_14 x1_15 x1_16 => G (f22H1 x1_0 x1_1 x1_2 x1_3 x1_4 x1_5 x1_6 x1_7 x1_8 x1_9 x1_10 x1_11 x1_12 x1_13 x1_14 x1_15 x1_16)
noncomputable def f22S1  (g0 : f22G0) (g1 : f22G1) (x1_0 : Int) (x1_1 : List Int) (x1_2 : Int) (x1_3 : Int) (x1_4 : Int) (x1_5 : Int) (x1_6 : List (List Int)) (x1_7 : List (List Int × List Int × Unit)) (x1_8 : Int) (x1_9 : Int) (x1_10 : List Int) (x1_11 : List Int) (x1_12 : Int) (x1_13 : Int) (x1_14 : List Int) (x1_15 : List (List Int)) (x1_16 : List (List Int × List Int × Unit)) : Option Lf :=
 bif decide (x1_3 < x1_2) then
  bif inb x1_3 x1_1.length then
   bif inb (x1_1.getD x1_3.toNat 0) x1_10.length then
    bif x1_10.getD (x1_1.getD x1_3.toNat 0).toNat 0 == 0 then
     bif decide ((x1_11.length + [x1_1.getD x1_3.toNat 0].length) * 8 ≤ 140737488355328) then
      bif inb (x1_1.getD x1_3.toNat 0) x1_10.length then
       bif inb (x1_1.getD x1_3.toNat 0) (x1_10.set (x1_1.getD x1_3.toNat 0).toNat (zn (x1_11 ++ [x1_1.getD x1_3.toNat 0]).length)).length then
        bif decide ((x1_14.length + [IntKind.i64.wrap ((x1_10.set (x1_1.getD x1_3.toNat 0).toNat (zn (x1_11 ++ [x1_1.getD x1_3.toNat 0]).length)).getD (x1_1.getD x1_3.toNat 0).toNat 0 - 1)].length) * 8 ≤ 140737488355328) then
         g1 (x1_0 : Int) (x1_1 : List Int) (x1_2 : Int) (IntKind.i64.wrap (x1_3 + 1) : Int) (x1_4 : Int) (x1_5 : Int) (x1_6 : List (List Int)) (x1_7 : List (List Int × List Int × Unit)) (x1_8 : Int) (x1_9 : Int) (x1_10.set (x1_1.getD x1_3.toNat 0).toNat (zn (x1_11 ++ [x1_1.getD x1_3.toNat 0]).length) : List Int) (x1_11 ++ [x1_1.getD x1_3.toNat 0] : List Int) (x1_12 : Int) (x1_13 : Int) (x1_14 ++ [IntKind.i64.wrap ((x1_10.set (x1_1.getD x1_3.toNat 0).toNat (zn (x1_11 ++ [x1_1.getD x1_3.toNat 0]).length)).getD (x1_1.getD x1_3.toNat 0).toNat 0 - 1)] : List Int) (x1_15 : List (List Int)) (x1_16 : List (List Int × List Int × Unit))
        else
         none
       else
        none
      else
       none
     else
      none
    else
     bif inb (x1_1.getD x1_3.toNat 0) x1_10.length then
      bif decide ((x1_14.length + [IntKind.i64.wrap (x1_10.getD (x1_1.getD x1_3.toNat 0).toNat 0 - 1)].length) * 8 ≤ 140737488355328) then
       g1 (x1_0 : Int) (x1_1 : List Int) (x1_2 : Int) (IntKind.i64.wrap (x1_3 + 1) : Int) (x1_4 : Int) (x1_5 : Int) (x1_6 : List (List Int)) (x1_7 : List (List Int × List Int × Unit)) (x1_8 : Int) (x1_9 : Int) (x1_10 : List Int) (x1_11 : List Int) (x1_12 : Int) (x1_13 : Int) (x1_14 ++ [IntKind.i64.wrap (x1_10.getD (x1_1.getD x1_3.toNat 0).toNat 0 - 1)] : List Int) (x1_15 : List (List Int)) (x1_16 : List (List Int × List Int × Unit))
      else
       none
     else
      none
   else
    none
  else
   none
 else
  bif decide ((x1_15.length + [x1_14].length) * 24 ≤ 140737488355328) then
   g0 (IntKind.i64.wrap (x1_0 + 1) : Int) (x1_4 : Int) (x1_5 : Int) (x1_6 : List (List Int)) (x1_7 : List (List Int × List Int × Unit)) (x1_8 : Int) (x1_9 : Int) (x1_10 : List Int) (x1_11 : List Int) (x1_12 : Int) (x1_13 : Int) (x1_15 ++ [x1_14] : List (List Int)) (x1_16 : List (List Int × List Int × Unit))
  else
   none
noncomputable def f22L1 (n : Nat) (g0 : f22G0) : Nat → f22G1
  | 0 => fun _ _ _ _ _ _ _ _ _ _ _ _ _ _ _ _ _ => none
  | m + 1 => fun x1_0 x1_1 x1_2 x1_3 x1_4 x1_5 x1_6 x1_7 x1_8 x1_9 x1_10 x1_11 x1_12 x1_13 x1_14 x1_15 x1_16 => f22S1  g0 (f22L1 n g0 m) x1_0 x1_1 x1_2 x1_3 x1_4 x1_5 x1_6 x1_7 x1_8 x1_9 x1_10 x1_11 x1_12 x1_13 x1_14 x1_15 x1_16
theorem f22S1_ev (n : Nat) (G0 : St → Option Lf) (G : St → Option Lf) (x1_0 : Int) (x1_1 : List Int) (x1_2 : Int) (x1_3 : Int) (x1_4 : Int) (x1_5 : Int) (x1_6 : List (List Int)) (x1_7 : List (List Int × List Int × Unit)) (x1_8 : Int) (x1_9 : Int) (x1_10 : List Int) (x1_11 : List Int) (x1_12 : Int) (x1_13 : Int) (x1_14 : List Int) (x1_15 : List (List Int)) (x1_16 : List (List Int × List Int × Unit)) : rnd C18 f22h n Lf (codeOf f22f) [1, 1, 1, 1, 1, 1, 0, 1, 0, 0, 1, 0, 0, 1, 0, 1, 0] [G0] (endK C18 f22h f22f) G (f22H1 x1_0 x1_1 x1_2 x1_3 x1_4 x1_5 x1_6 x1_7 x1_8 x1_9 x1_10 x1_11 x1_12 x1_13 x1_14 x1_15 x1_16) = f22S1  (f22W0 G0) (f22W1 G) x1_0 x1_1 x1_2 x1_3 x1_4 x1_5 x1_6 x1_7 x1_8 x1_9 x1_10 x1_11 x1_12 x1_13 x1_14 x1_15 x1_16 := by kernel_rfl
theorem f22W1_ev (n : Nat) (G0 : St → Option Lf) : ∀ m, (f22W1 (lp C18 f22h n Lf (codeOf f22f) [1, 1, 1, 1, 1, 1, 0, 1, 0, 0, 1, 0, 0, 1, 0, 1, 0] [G0] (endK C18 f22h f22f) m)) = f22L1 n (f22W0 G0) m := by
  intro m
  induction m with
  | zero => funext x1_0 x1_1 x1_2 x1_3 x1_4 x1_5 x1_6 x1_7 x1_8 x1_9 x1_10 x1_11 x1_12 x1_13 x1_14 x1_15 x1_16; exact lp_zero _
  | succ m ih =>
    funext x1_0 x1_1 x1_2 x1_3 x1_4 x1_5 x1_6 x1_7 x1_8 x1_9 x1_10 x1_11 x1_12 x1_13 x1_14 x1_15 x1_16
    show lp C18 f22h n Lf (codeOf f22f) [1, 1, 1, 1, 1, 1, 0, 1, 0, 0, 1, 0, 0, 1, 0, 1, 0] [G0] (endK C18 f22h f22f) (m + 1) (f22H1 x1_0 x1_1 x1_2 x1_3 x1_4 x1_5 x1_6 x1_7 x1_8 x1_9 x1_10 x1_11 x1_12 x1_13 x1_14 x1_15 x1_16) = f22S1  (f22W0 G0) (f22L1 n (f22W0 G0) m) x1_0 x1_1 x1_2 x1_3 x1_4 x1_5 x1_6 x1_7 x1_8 x1_9 x1_10 x1_11 x1_12 x1_13 x1_14 x1_15 x1_16
    rw [lp_succ, f22S1_ev, ih]
abbrev f22G2 := (List (List Int × List Int × Unit)) → Int → Int → Int → Int → (List Int) → Int → Int → (List (List Int)) → (List (List Int × List Int × Unit)) → Option Lf
noncomputable def f22H2 (x2_0 : List (List Int × List Int × Unit)) (x2_1 : Int) (x2_2 : Int) (x2_3 : Int) (x2_4 : Int) (x2_5 : List Int) (x2_6 : Int) (x2_7 : Int) (x2_8 : List (List Int)) (x2_9 : List (List Int × List Int × Unit)) : St := (St.mk [dead, dead, (D.p (Pt.one (L.pv (Id.mk 1 0) 0))), dead, dead, (D.p (Pt.one (L.rw (Id.mk 1 1)))), dead, (D.p (Pt.one (L.pv (Id.mk 1 2) 0))), dead, dead, dead, dead, dead, dead, dead, dead, dead, dead, dead, dead, dead, dead, dead, dead, dead, dead, dead, dead, dead, dead, dead, dead, dead, dead, dead, dead, dead, dead, dead, dead, dead, dead, dead, dead, dead, dead, dead, dead, dead, dead, dead, dead, dead, dead, dead, dead, dead, dead, dead, dead, dead, dead, dead, dead, dead, dead, dead, dead, dead, dead, dead, dead, dead, dead, dead, dead, dead, dead, dead, dead, dead, dead, dead, dead, (D.p (Pt.one (L.d (Pv.fz false) (Sh.l (Sh.p (Sh.l (Sh.i IntKind.i64)) (Sh.p (Sh.l (Sh.i IntKind.i64)) Sh.u))) x2_0))), (D.p (Pt.one (L.d (Pv.fz true) (Sh.i IntKind.i64) x2_1))), (D.p (Pt.one (L.d (Pv.fz true) (Sh.i IntKind.i64) x2_2))), dead, dead, dead, dead, dead, dead, dead, dead, dead, dead, dead, dead, dead, dead, dead, dead, dead, dead, dead, dead, dead, dead, dead, dead] [[], [(Ob.va [(L.d (Pv.fz true) (Sh.i IntKind.i64) x2_3), (L.d (Pv.fz true) (Sh.i IntKind.i64) x2_4), L.nl, L.nl]), (Ob.ro true 0 3 (Sh.i IntKind.i64) Ow.z x2_5 Option.none), (Ob.va [(L.d (Pv.fz true) (Sh.i IntKind.i64) x2_6), (L.d (Pv.fz true) (Sh.i IntKind.i64) x2_7), (L.rw (Id.mk 1 3)), (L.rw (Id.mk 1 4))]), (Ob.ro true 0 26 (Sh.l (Sh.i IntKind.i64)) (Ow.l 3 Ow.z) x2_8 Option.none), (Ob.ro true 0 63 (Sh.p (Sh.l (Sh.i IntKind.i64)) (Sh.p (Sh.l (Sh.i IntKind.i64)) Sh.u)) (Ow.p (Ow.l 3 Ow.z) (Ow.p (Ow.l 3 Ow.z) Ow.z)) x2_9 Option.none)]])
noncomputable def f22W2 (G : St → Option Lf) : f22G2 := fun x2_0 x2_1 x2_2 x2_3 x2_4 x2_5 x2_6 x2_7 x2_8 x2_9 => G (f22H2 x2_0 x2_1 x2_2 x2_3 x2_4 x2_5 x2_6 x2_7 x2_8 x2_9)
noncomputable def f22S2  (g2 : f22G2) (x2_0 : List (List Int × List Int × Unit)) (x2_1 : Int) (x2_2 : Int) (x2_3 : Int) (x2_4 : Int) (x2_5 : List Int) (x2_6 : Int) (x2_7 : Int) (x2_8 : List (List Int)) (x2_9 : List (List Int × List Int × Unit)) : Option Lf :=
 bif decide (x2_2 < x2_1) then
  bif inb x2_2 x2_0.length then
   bif partG x2_5 (x2_0.getD x2_2.toNat ([], [], ())).fst then
    bif partG x2_5 (x2_0.getD x2_2.toNat ([], [], ())).snd.fst then
     bif decide (zn ((partT x2_5 (x2_0.getD x2_2.toNat ([], [], ())).snd.fst).mergeSort fun (x y : Int) => decide (x ≤ y)).length > 0) then
      bif decide ((x2_9.length + [((partT x2_5 (x2_0.getD x2_2.toNat ([], [], ())).fst).mergeSort fun (x y : Int) => decide (x ≤ y), (partT x2_5 (x2_0.getD x2_2.toNat ([], [], ())).snd.fst).mergeSort fun (x y : Int) => decide (x ≤ y), ())].length) * 48 ≤ 140737488355328) then
       g2 (x2_0 : List (List Int × List Int × Unit)) (x2_1 : Int) (IntKind.i64.wrap (x2_2 + 1) : Int) (x2_3 : Int) (x2_4 : Int) (x2_5 : List Int) (x2_6 : Int) (x2_7 : Int) (x2_8 : List (List Int)) (x2_9 ++ [((partT x2_5 (x2_0.getD x2_2.toNat ([], [], ())).fst).mergeSort fun (x y : Int) => decide (x ≤ y), (partT x2_5 (x2_0.getD x2_2.toNat ([], [], ())).snd.fst).mergeSort fun (x y : Int) => decide (x ≤ y), ())] : List (List Int × List Int × Unit))
      else
       none
     else
      g2 (x2_0 : List (List Int × List Int × Unit)) (x2_1 : Int) (IntKind.i64.wrap (x2_2 + 1) : Int) (x2_3 : Int) (x2_4 : Int) (x2_5 : List Int) (x2_6 : Int) (x2_7 : Int) (x2_8 : List (List Int)) (x2_9 : List (List Int × List Int × Unit))
    else
     none
   else
    none
  else
   none
 else
  some (Lf.mk [(Pt.agg [(L.d (Pv.fz true) (Sh.i IntKind.i64) (x2_6 : Int)), (L.d (Pv.fz true) (Sh.i IntKind.i64) (x2_7 : Int)), (L.rw (Id.mk 1 0)), (L.rw (Id.mk 1 1))]), (Pt.one (L.d (Pv.fz true) Sh.e (Er.nil : Er)))] [] [(Ob.ro true 0 26 (Sh.l (Sh.i IntKind.i64)) (Ow.l 3 Ow.z) (x2_8 : List (List Int)) Option.none), (Ob.ro true 0 63 (Sh.p (Sh.l (Sh.i IntKind.i64)) (Sh.p (Sh.l (Sh.i IntKind.i64)) Sh.u)) (Ow.p (Ow.l 3 Ow.z) (Ow.p (Ow.l 3 Ow.z) Ow.z)) (x2_9 : List (List Int × List Int × Unit)) Option.none)])
noncomputable def f22L2 (n : Nat)  : Nat → f22G2
  | 0 => fun _ _ _ _ _ _ _ _ _ _ => none
  | m + 1 => fun x2_0 x2_1 x2_2 x2_3 x2_4 x2_5 x2_6 x2_7 x2_8 x2_9 => f22S2   (f22L2 n  m) x2_0 x2_1 x2_2 x2_3 x2_4 x2_5 x2_6 x2_7 x2_8 x2_9
theorem f22S2_ev (n : Nat)  (G : St → Option Lf) (x2_0 : List (List Int × List Int × Unit)) (x2_1 : Int) (x2_2 : Int) (x2_3 : Int) (x2_4 : Int) (x2_5 : List Int) (x2_6 : Int) (x2_7 : Int) (x2_8 : List (List Int)) (x2_9 : List (List Int × List Int × Unit)) : rnd C18 f22h n Lf (codeOf f22f) [1, 1, 1, 1, 1, 1, 1, 0, 1, 0] [] (endK C18 f22h f22f) G (f22H2 x2_0 x2_1 x2_2 x2_3 x2_4 x2_5 x2_6 x2_7 x2_8 x2_9) = f22S2   (f22W2 G) x2_0 x2_1 x2_2 x2_3 x2_4 x2_5 x2_6 x2_7 x2_8 x2_9 := by kernel_rfl
theorem f22W2_ev (n : Nat)  : ∀ m, (f22W2 (lp C18 f22h n Lf (codeOf f22f) [1, 1, 1, 1, 1, 1, 1, 0, 1, 0] [] (endK C18 f22h f22f) m)) = f22L2 n  m := by
  intro m
  induction m with
  | zero => funext x2_0 x2_1 x2_2 x2_3 x2_4 x2_5 x2_6 x2_7 x2_8 x2_9; exact lp_zero _
  | succ m ih =>
    funext x2_0 x2_1 x2_2 x2_3 x2_4 x2_5 x2_6 x2_7 x2_8 x2_9
    show lp C18 f22h n Lf (codeOf f22f) [1, 1, 1, 1, 1, 1, 1, 0, 1, 0] [] (endK C18 f22h f22f) (m + 1) (f22H2 x2_0 x2_1 x2_2 x2_3 x2_4 x2_5 x2_6 x2_7 x2_8 x2_9) = f22S2   (f22L2 n  m) x2_0 x2_1 x2_2 x2_3 x2_4 x2_5 x2_6 x2_7 x2_8 x2_9
    rw [lp_succ, f22S2_ev, ih]
noncomputable def f22S0 (l1 : f22G1) (l2 : f22G2) (g0 : f22G0) (x0_0 : Int) (x0_1 : Int) (x0_2 : Int) (x0_3 : List (List Int)) (x0_4 : List (List Int × List Int × Unit)) (x0_5 : Int) (x0_6 : Int) (x0_7 : List Int) (x0_8 : List Int) (x0_9 : Int) (x0_10 : Int) (x0_11 : List (List Int)) (x0_12 : List (List Int × List Int × Unit)) : Option Lf :=
 bif decide (x0_0 < zn x0_8.length) then
  bif inb x0_0 x0_8.length then
   bif inb (x0_8.getD x0_0.toNat 0) x0_3.length then
    l1 (x0_0 : Int) (x0_3.getD (x0_8.getD x0_0.toNat 0).toNat [] : List Int) (zn (x0_3.getD (x0_8.getD x0_0.toNat 0).toNat []).length : Int) (0 : Int) (x0_1 : Int) (x0_2 : Int) (x0_3 : List (List Int)) (x0_4 : List (List Int × List Int × Unit)) (x0_5 : Int) (x0_6 : Int) (x0_7 : List Int) (x0_8 : List Int) (x0_9 : Int) (x0_10 : Int) ([] : List Int) (x0_11 : List (List Int)) (x0_12 : List (List Int × List Int × Unit))
   else
    none
  else
   none
 else
  l2 (x0_4 : List (List Int × List Int × Unit)) (zn x0_4.length : Int) (0 : Int) (x0_5 : Int) (x0_6 : Int) (x0_7 : List Int) (x0_9 : Int) (x0_10 : Int) (x0_11 : List (List Int)) (x0_12 : List (List Int × List Int × Unit))
noncomputable def f22L0 (n : Nat)  : Nat → f22G0
  | 0 => fun _ _ _ _ _ _ _ _ _ _ _ _ _ => none
  | m + 1 => fun x0_0 x0_1 x0_2 x0_3 x0_4 x0_5 x0_6 x0_7 x0_8 x0_9 x0_10 x0_11 x0_12 => f22S0 (f22L1 n (f22L0 n  m) n) (f22L2 n  n)  (f22L0 n  m) x0_0 x0_1 x0_2 x0_3 x0_4 x0_5 x0_6 x0_7 x0_8 x0_9 x0_10 x0_11 x0_12
theorem f22S0_ev (n : Nat)  (G : St → Option Lf) (x0_0 : Int) (x0_1 : Int) (x0_2 : Int) (x0_3 : List (List Int)) (x0_4 : List (List Int × List Int × Unit)) (x0_5 : Int) (x0_6 : Int) (x0_7 : List Int) (x0_8 : List Int) (x0_9 : Int) (x0_10 : Int) (x0_11 : List (List Int)) (x0_12 : List (List Int × List Int × Unit)) : rnd C18 f22h n Lf (codeOf f22f) [1, 1, 1, 1, 1, 1, 0, 1, 0] [] (endK C18 f22h f22f) G (f22H0 x0_0 x0_1 x0_2 x0_3 x0_4 x0_5 x0_6 x0_7 x0_8 x0_9 x0_10 x0_11 x0_12) = f22S0 (f22W1 (lp C18 f22h n Lf (codeOf f22f) [1, 1, 1, 1, 1, 1, 0, 1, 0, 0, 1, 0, 0, 1, 0, 1, 0] [G] (endK C18 f22h f22f) n)) (f22W2 (lp C18 f22h n Lf (codeOf f22f) [1, 1, 1, 1, 1, 1, 1, 0, 1, 0] [] (endK C18 f22h f22f) n))  (f22W0 G) x0_0 x0_1 x0_2 x0_3 x0_4 x0_5 x0_6 x0_7 x0_8 x0_9 x0_10 x0_11 x0_12 := by kernel_rfl
theorem f22W0_ev (n : Nat)  : ∀ m, (f22W0 (lp C18 f22h n Lf (codeOf f22f) [1, 1, 1, 1, 1, 1, 0, 1, 0] [] (endK C18 f22h f22f) m)) = f22L0 n  m := by
  intro m
  induction m with
  | zero => funext x0_0 x0_1 x0_2 x0_3 x0_4 x0_5 x0_6 x0_7 x0_8 x0_9 x0_10 x0_11 x0_12; exact lp_zero _
  | succ m ih =>
    have e1 : (f22W1 (lp C18 f22h n Lf (codeOf f22f) [1, 1, 1, 1, 1, 1, 0, 1, 0, 0, 1, 0, 0, 1, 0, 1, 0] [(lp C18 f22h n Lf (codeOf f22f) [1, 1, 1, 1, 1, 1, 0, 1, 0] [] (endK C18 f22h f22f) m)] (endK C18 f22h f22f) n)) = (f22L1 n (f22L0 n  m) n) := by
      rw [f22W1_ev, ih]
    have e2 : (f22W2 (lp C18 f22h n Lf (codeOf f22f) [1, 1, 1, 1, 1, 1, 1, 0, 1, 0] [] (endK C18 f22h f22f) n)) = (f22L2 n  n) := by
      rw [f22W2_ev]
    funext x0_0 x0_1 x0_2 x0_3 x0_4 x0_5 x0_6 x0_7 x0_8 x0_9 x0_10 x0_11 x0_12
    show lp C18 f22h n Lf (codeOf f22f) [1, 1, 1, 1, 1, 1, 0, 1, 0] [] (endK C18 f22h f22f) (m + 1) (f22H0 x0_0 x0_1 x0_2 x0_3 x0_4 x0_5 x0_6 x0_7 x0_8 x0_9 x0_10 x0_11 x0_12) = f22S0 (f22L1 n (f22L0 n  m) n) (f22L2 n  n)  (f22L0 n  m) x0_0 x0_1 x0_2 x0_3 x0_4 x0_5 x0_6 x0_7 x0_8 x0_9 x0_10 x0_11 x0_12
    rw [lp_succ, f22S0_ev, ih, e1, e2]
noncomputable def f22T (l0 : f22G0) (p : Int) (i : Int) (nx : List (List Int)) (ps : List (List Int × List Int × Unit)) : Option Lf :=
 bif drG nx ps then
  bif !(er1 (drOk p i nx ps)).isNil then
   some (Lf.mk [(Pt.agg [(L.d (Pv.fz true) (Sh.i IntKind.i64) (0 : Int)), (L.d (Pv.fz true) (Sh.i IntKind.i64) (0 : Int)), (L.d (Pv.fz true) (Sh.l (Sh.l (Sh.i IntKind.i64))) ([] : List (List Int))), (L.d (Pv.fz true) (Sh.l (Sh.p (Sh.l (Sh.i IntKind.i64)) (Sh.p (Sh.l (Sh.i IntKind.i64)) Sh.u))) ([] : List (List Int × List Int × Unit)))]), (Pt.one (L.d (Pv.fz true) Sh.e (er1 (drOk p i nx ps) : Er)))] [] [])
  else
   bif decide (0 ≤ zn nx.length) && (decide (zn nx.length ≤ zn nx.length) && decide (8 * (zn nx.length).toNat ≤ 140737488355328)) then
    bif inb i (List.replicate (zn nx.length).toNat (0 : Int)).length then
     l0 (0 : Int) (p : Int) (i : Int) (nx : List (List Int)) (ps : List (List Int × List Int × Unit)) (0 : Int) (0 : Int) ((List.replicate (zn nx.length).toNat (0 : Int)).set i.toNat 1 : List Int) ([i] : List Int) (p : Int) (0 : Int) ([] : List (List Int)) ([] : List (List Int × List Int × Unit))
    else
     none
   else
    none
 else
  none
noncomputable def f22M (n : Nat) (p : Int) (i : Int) (nx : List (List Int)) (ps : List (List Int × List Int × Unit)) : Option Lf := f22T (f22L0 n n) p i nx ps
theorem f22T_ev (n : Nat) (p : Int) (i : Int) (nx : List (List Int)) (ps : List (List Int × List Int × Unit)) : evF C18 f22h n f22f [(D.p (Pt.agg [(L.d (Pv.fz true) (Sh.i IntKind.i64) p), (L.d (Pv.fz true) (Sh.i IntKind.i64) i), (L.d (Pv.fz false) (Sh.l (Sh.l (Sh.i IntKind.i64))) nx), (L.d (Pv.fz false) (Sh.l (Sh.p (Sh.l (Sh.i IntKind.i64)) (Sh.p (Sh.l (Sh.i IntKind.i64)) Sh.u))) ps)]))] [] = f22T (f22W0 (lp C18 f22h n Lf (codeOf f22f) [1, 1, 1, 1, 1, 1, 0, 1, 0] [] (endK C18 f22h f22f) n)) p i nx ps := by kernel_rfl
theorem f22_ev (n : Nat) (p : Int) (i : Int) (nx : List (List Int)) (ps : List (List Int × List Int × Unit)) : evF C18 f22h n f22f [(D.p (Pt.agg [(L.d (Pv.fz true) (Sh.i IntKind.i64) p), (L.d (Pv.fz true) (Sh.i IntKind.i64) i), (L.d (Pv.fz false) (Sh.l (Sh.l (Sh.i IntKind.i64))) nx), (L.d (Pv.fz false) (Sh.l (Sh.p (Sh.l (Sh.i IntKind.i64)) (Sh.p (Sh.l (Sh.i IntKind.i64)) Sh.u))) ps)]))] [] = f22M n p i nx ps := by
  rw [f22T_ev, f22W0_ev]
  rfl
end Go.S18
