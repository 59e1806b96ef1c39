/-
  Seat 18: functional forms of DraTells, DraMore and DraSees.
-/
import Derived.Test.YtfkmnklnnccopaaDoorS18F
open Go Go.En Go.S18
namespace Go.S18
noncomputable def l16 : List (Nat × En.Spec) := (8, aliveS) :: (9, farS) :: (10, ofS) :: (11, checkS) :: (12, rightS) :: (13, numS) :: (14, goodS) :: (15, rgoodS) :: (16, seenS) :: (17, acceptsS) :: (18, right14S) :: (19, rseenS) :: (20, intsS) :: (21, wordS) :: []
noncomputable def C16 : Ctx := ctxOf C0 l16
def h3 : Hn := hn0
def h4 : Hn := ⟨fun | 14 => [4, 5, 9, 11, 15, 16, 17] | _ => [], fun | 14 => [⟨16, some 1, 3, .z⟩] | _ => [], fun _ => false⟩
def h5 : Hn := ⟨fun | 11 => [3, 7, 8, 12] | 15 => [3, 7, 8, 12, 13, 14] | 19 => [3, 7, 8, 12, 13, 14, 15, 16] | _ => [], fun _ => [], fun _ => false⟩

abbrev f3h : Hn := h3
noncomputable abbrev f3f : Func := fn 3
noncomputable def f3T  (p : Int) (i : Int) (nx : List (List Int)) (ps : List (List Int × List Int × Unit)) (s : List Int) (l : List Int) (set : List Int) : Option Lf :=
 bif farF nx ps || true then
  bif farF nx ps || (decide (IntKind.i64.wrap (zn s.length + zn l.length) > 80) || decide (zn set.length > 60)) then
   some (Lf.mk [(Pt.one (L.d (Pv.fz true) Sh.b (true : Bool)))] [] [])
  else
   bif ofG nx ps then
    bif drG nx ps then
     bif drG nx ps then
      bif !(er1 (drOk p i nx ps)).isNil == drOk p i nx ps || bif !(er1 (drOk p i nx ps)).isNil then plain (er1 (drOk p i nx ps)) && true else true then
       bif !(er1 (drOk p i nx ps)).isNil == drOk p i nx ps || !(er1 (drOk p i nx ps)).isNil && numOf (er1 (drOk p i nx ps)) != 1 then
        some (Lf.mk [(Pt.one (L.d (Pv.fz true) Sh.b (false : Bool)))] [] [])
       else
        bif drG nx ps && big set.length then
         bif drOk p i nx ps then
          bif big ps.length && (ps.all pairG && big set.length) then
           bif !(drOk p i nx ps && decide (goodI set ps ≥ 0)) == decide (goodI set ps ≥ 0) || (bif drOk p i nx ps && decide (goodI set ps ≥ 0) then goodI set ps else 0) != if 0 > goodI set ps then 0 else goodI set ps then
            some (Lf.mk [(Pt.one (L.d (Pv.fz true) Sh.b (false : Bool)))] [] [])
           else
            bif drG nx ps && (m6 s.length && m6 l.length) then
             bif drG nx ps && (m6 s.length && m6 l.length) then
              bif !drOk p i nx ps || Nat.beq 1 1 && (Nat.beq 1 1 && (inb2 0 p 6 && (Nat.beq 0 0 && (m6 s.length && m6 l.length && true)))) then
               bif !drOk p i nx ps || !right14F (List.take (p.toNat - 0) (List.drop 0 [{ data := #[{ toBitVec := 49#8 }] }, { data := #[{ toBitVec := 50#8 }] }, { data := #[{ toBitVec := 51#8 }] }, { data := #[{ toBitVec := 52#8 }] }, { data := #[{ toBitVec := 53#8 }] }, { data := #[{ toBitVec := 54#8 }] }])) s l then
                bif plain (er1 (seenOk p i nx ps s l)) && bif numOf (er1 (seenOk p i nx ps s l)) == 1 then plain (er1 (seenOk p i nx ps s l)) && true else true then
                 some (Lf.mk [(Pt.one (L.d (Pv.fz true) Sh.b (numOf (er1 (seenOk p i nx ps s l)) == 1 && (numOf (er1 (seenOk p i nx ps s l)) == 1 && (zn (bif seenOk p i nx ps s l then seenF i nx s l else []).length == 0 && !(seenOk p i nx ps s l && decide (goodI (seenF i nx s l) ps ≥ 0)))) : Bool)))] [] [])
                else
                 none
               else
                bif seenOk p i nx ps s l then
                 bif bif (er1 (seenOk p i nx ps s l)).isNil then bif (er1 (seenOk p i nx ps s l)).isNil then Nat.beq 1 1 && (Nat.beq 1 1 && (big (bif seenOk p i nx ps s l then seenF i nx s l else []).length && bif sameI (bif seenOk p i nx ps s l then seenF i nx s l else []) (seenF i nx s l) then Nat.beq 1 1 && (big ps.length && (ps.all pairG && big (seenF i nx s l).length) && true) else true)) else true else true then
                  some (Lf.mk [(Pt.one (L.d (Pv.fz true) Sh.b ((er1 (seenOk p i nx ps s l)).isNil && ((er1 (seenOk p i nx ps s l)).isNil && (sameI (bif seenOk p i nx ps s l then seenF i nx s l else []) (seenF i nx s l) && (seenOk p i nx ps s l && decide (goodI (seenF i nx s l) ps ≥ 0)) == decide (goodI (seenF i nx s l) ps ≥ 0))) : Bool)))] [] [])
                 else
                  none
                else
                 none
              else
               none
             else
              none
            else
             none
          else
           none
         else
          bif !(drOk p i nx ps && decide (goodI set ps ≥ 0)) == false || (bif drOk p i nx ps && decide (goodI set ps ≥ 0) then goodI set ps else 0) != if 0 > -1 then 0 else -1 then
           some (Lf.mk [(Pt.one (L.d (Pv.fz true) Sh.b (false : Bool)))] [] [])
          else
           bif drG nx ps && (m6 s.length && m6 l.length) then
            bif drG nx ps && (m6 s.length && m6 l.length) then
             bif !drOk p i nx ps || Nat.beq 1 1 && (Nat.beq 1 1 && (inb2 0 p 6 && (Nat.beq 0 0 && (m6 s.length && m6 l.length && true)))) then
              bif !drOk p i nx ps || !right14F (List.take (p.toNat - 0) (List.drop 0 [{ data := #[{ toBitVec := 49#8 }] }, { data := #[{ toBitVec := 50#8 }] }, { data := #[{ toBitVec := 51#8 }] }, { data := #[{ toBitVec := 52#8 }] }, { data := #[{ toBitVec := 53#8 }] }, { data := #[{ toBitVec := 54#8 }] }])) s l then
               bif plain (er1 (seenOk p i nx ps s l)) && bif numOf (er1 (seenOk p i nx ps s l)) == 1 then plain (er1 (seenOk p i nx ps s l)) && true else true then
                some (Lf.mk [(Pt.one (L.d (Pv.fz true) Sh.b (numOf (er1 (seenOk p i nx ps s l)) == 1 && (numOf (er1 (seenOk p i nx ps s l)) == 1 && (zn (bif seenOk p i nx ps s l then seenF i nx s l else []).length == 0 && !(seenOk p i nx ps s l && decide (goodI (seenF i nx s l) ps ≥ 0)))) : Bool)))] [] [])
               else
                none
              else
               bif seenOk p i nx ps s l then
                bif bif (er1 (seenOk p i nx ps s l)).isNil then bif (er1 (seenOk p i nx ps s l)).isNil then Nat.beq 1 1 && (Nat.beq 1 1 && (big (bif seenOk p i nx ps s l then seenF i nx s l else []).length && bif sameI (bif seenOk p i nx ps s l then seenF i nx s l else []) (seenF i nx s l) then Nat.beq 1 1 && (big ps.length && (ps.all pairG && big (seenF i nx s l).length) && true) else true)) else true else true then
                 some (Lf.mk [(Pt.one (L.d (Pv.fz true) Sh.b ((er1 (seenOk p i nx ps s l)).isNil && ((er1 (seenOk p i nx ps s l)).isNil && (sameI (bif seenOk p i nx ps s l then seenF i nx s l else []) (seenF i nx s l) && (seenOk p i nx ps s l && decide (goodI (seenF i nx s l) ps ≥ 0)) == decide (goodI (seenF i nx s l) ps ≥ 0))) : Bool)))] [] [])
                else
                 none
               else
                none
             else
              none
            else
             none
           else
            none
        else
         none
      else
       none
     else
      none
    else
     none
   else
    none
 else
  none
noncomputable def f3M (_ : Nat) (p : Int) (i : Int) (nx : List (List Int)) (ps : List (List Int × List Int × Unit)) (s : List Int) (l : List Int) (set : List Int) : Option Lf := f3T  p i nx ps s l set
theorem f3T_ev (n : Nat) (p : Int) (i : Int) (nx : List (List Int)) (ps : List (List Int × List Int × Unit)) (s : List Int) (l : List Int) (set : List Int) : evF C16 f3h n f3f [(D.p (Pt.agg [(L.d (Pv.fz true) (Sh.i IntKind.i64) p), (L.d (Pv.fz true) (Sh.i IntKind.i64) i), (L.d (Pv.fz false) (Sh.l (Sh.l (Sh.i IntKind.i64))) nx), (L.d (Pv.fz false) (Sh.l (Sh.p (Sh.l (Sh.i IntKind.i64)) (Sh.p (Sh.l (Sh.i IntKind.i64)) Sh.u))) ps)])), (D.p (Pt.agg [(L.d (Pv.fz false) (Sh.l (Sh.i IntKind.i64)) s), (L.d (Pv.fz false) (Sh.l (Sh.i IntKind.i64)) l)])), (D.p (Pt.one (L.d (Pv.fz false) (Sh.l (Sh.i IntKind.i64)) set)))] [] = f3T  p i nx ps s l set := by kernel_rfl
theorem f3_ev (n : Nat) (p : Int) (i : Int) (nx : List (List Int)) (ps : List (List Int × List Int × Unit)) (s : List Int) (l : List Int) (set : List Int) : evF C16 f3h n f3f [(D.p (Pt.agg [(L.d (Pv.fz true) (Sh.i IntKind.i64) p), (L.d (Pv.fz true) (Sh.i IntKind.i64) i), (L.d (Pv.fz false) (Sh.l (Sh.l (Sh.i IntKind.i64))) nx), (L.d (Pv.fz false) (Sh.l (Sh.p (Sh.l (Sh.i IntKind.i64)) (Sh.p (Sh.l (Sh.i IntKind.i64)) Sh.u))) ps)])), (D.p (Pt.agg [(L.d (Pv.fz false) (Sh.l (Sh.i IntKind.i64)) s), (L.d (Pv.fz false) (Sh.l (Sh.i IntKind.i64)) l)])), (D.p (Pt.one (L.d (Pv.fz false) (Sh.l (Sh.i IntKind.i64)) set)))] [] = f3M n p i nx ps s l set := by
  rw [f3T_ev]
  rfl

abbrev f4h : Hn := h4
noncomputable abbrev f4f : Func := fn 4
abbrev f4G0 := Bool → Int → Int → Int → (List (List Int)) → (List (List Int × List Int × Unit)) → (List Int) → (List Int) → Int → Int → (List (List Int)) → (List (List Int × List Int × Unit)) → (List Int) → (List Int) → (List Int) → Option Lf
noncomputable def f4H0 (x0_0 : Bool) (x0_1 : Int) (x0_2 : Int) (x0_3 : Int) (x0_4 : List (List Int)) (x0_5 : List (List Int × List Int × Unit)) (x0_6 : List Int) (x0_7 : List Int) (x0_8 : Int) (x0_9 : Int) (x0_10 : List (List Int)) (x0_11 : List (List Int × List Int × Unit)) (x0_12 : List Int) (x0_13 : List Int) (x0_14 : List Int) : St := (St.mk [dead, dead, dead, dead, (D.p (Pt.one (L.pv (Id.mk 1 0) 0))), (D.p (Pt.one (L.pv (Id.mk 1 1) 0))), dead, dead, dead, (D.p (Pt.one (L.pv (Id.mk 1 2) 0))), dead, (D.p (Pt.one (L.d (Pv.fz true) Sh.b x0_0))), dead, dead, dead, (D.p (Pt.one (L.pv (Id.mk 1 3) 0))), (D.p (Pt.one (L.pv (Id.mk 1 4) 0))), (D.p (Pt.one (L.d (Pv.fz true) (Sh.i IntKind.i64) x0_1))), dead, dead, dead, dead, dead, dead, dead, dead, dead, dead, dead, dead, dead, dead, dead, dead, dead, dead, dead, dead, dead, dead, dead, dead, dead, dead, dead, dead, dead, dead, dead, dead, dead, dead, dead, dead, dead, dead, dead, dead, dead, dead, dead, dead, dead, dead, dead, dead, dead, dead, dead, dead, dead, dead, dead, dead, dead, dead, dead, dead, dead, dead, dead, dead, dead, dead, dead, dead, dead, dead, dead, dead, dead, dead, dead, dead, dead, dead, dead, dead, dead, dead, dead, dead, dead, dead, dead, dead, dead, dead, dead, dead, dead, dead, dead, dead, dead, dead, dead, dead, dead, dead, dead, dead, dead, dead, dead, dead, dead, dead, dead, dead, dead, dead, dead, dead, dead, dead, dead, dead, dead, dead, dead, dead, dead, dead, dead, dead, dead, dead, dead, dead] [[], [(Ob.va [(L.d (Pv.fz true) (Sh.i IntKind.i64) x0_2), (L.d (Pv.fz true) (Sh.i IntKind.i64) x0_3), (L.d (Pv.fz false) (Sh.l (Sh.l (Sh.i IntKind.i64))) x0_4), (L.d (Pv.fz false) (Sh.l (Sh.p (Sh.l (Sh.i IntKind.i64)) (Sh.p (Sh.l (Sh.i IntKind.i64)) Sh.u))) x0_5)]), (Ob.va [(L.d (Pv.fz false) (Sh.l (Sh.i IntKind.i64)) x0_6), (L.d (Pv.fz false) (Sh.l (Sh.i IntKind.i64)) x0_7)]), (Ob.va [(L.rw (Id.mk 1 5)), (L.rw (Id.mk 1 6))]), (Ob.va [(L.d (Pv.fz true) (Sh.i IntKind.i64) x0_8), (L.d (Pv.fz true) (Sh.i IntKind.i64) x0_9), (L.d (Pv.fz false) (Sh.l (Sh.l (Sh.i IntKind.i64))) x0_10), (L.d (Pv.fz false) (Sh.l (Sh.p (Sh.l (Sh.i IntKind.i64)) (Sh.p (Sh.l (Sh.i IntKind.i64)) Sh.u))) x0_11)]), (Ob.va [L.nl, (L.rw (Id.mk 1 7))]), (Ob.ro true 0 3 (Sh.i IntKind.i64) Ow.z x0_12 Option.none), (Ob.ro true 0 3 (Sh.i IntKind.i64) Ow.z x0_13 Option.none), (Ob.ro true 0 3 (Sh.i IntKind.i64) Ow.z x0_14 Option.none)]])
noncomputable def f4W0 (G : St → Option Lf) : f4G0 := fun x0_0 x0_1 x0_2 x0_3 x0_4 x0_5 x0_6 x0_7 x0_8 x0_9 x0_10 x0_11 x0_12 x0_13 x0_14 => G (f4H0 x0_0 x0_1 x0_2 x0_3 x0_4 x0_5 x0_6 x0_7 x0_8 x0_9 x0_10 x0_11 x0_12 x0_13 x0_14)
noncomputable def f4S0  (g0 : f4G0) (x0_0 : Bool) (x0_1 : Int) (x0_2 : Int) (x0_3 : Int) (x0_4 : List (List Int)) (x0_5 : List (List Int × List Int × Unit)) (x0_6 : List Int) (x0_7 : List Int) (x0_8 : Int) (x0_9 : Int) (x0_10 : List (List Int)) (x0_11 : List (List Int × List Int × Unit)) (x0_12 : List Int) (x0_13 : List Int) (x0_14 : List Int) : Option Lf :=
 bif decide (x0_1 < zn x0_4.length) then
  bif decide ((x0_14.length + [x0_1].length) * 8 ≤ 140737488355328) then
   g0 (x0_0 : Bool) (IntKind.i64.wrap (x0_1 + 1) : Int) (x0_2 : Int) (x0_3 : Int) (x0_4 : List (List Int)) (x0_5 : List (List Int × List Int × Unit)) (x0_6 : List Int) (x0_7 : List Int) (x0_8 : Int) (x0_9 : Int) (x0_10 : List (List Int)) (x0_11 : List (List Int × List Int × Unit)) (x0_12 : List Int) (x0_13 : List Int) (x0_14 ++ [x0_1] : List Int)
  else
   none
 else
  bif decide ((0 + x0_5.length) * 48 ≤ 140737488355328) then
   bif decide ((x0_5.length + [(([] : List Int), x0_14, ())].length) * 48 ≤ 140737488355328) then
    bif ofG x0_10 (x0_5 ++ [([], x0_14, ())]) then
     bif drG x0_10 (x0_5 ++ [([], x0_14, ())]) && (m6 x0_12.length && m6 x0_13.length) then
      bif decide ((0 + x0_5.length) * 48 ≤ 140737488355328) then
       bif decide ((x0_5.length + [(x0_6, x0_7, ())].length) * 48 ≤ 140737488355328) then
        bif !(er1 (seenOk x0_8 x0_9 x0_10 (x0_5 ++ [([], x0_14, ())]) x0_12 x0_13)).isNil || !(seenOk x0_8 x0_9 x0_10 (x0_5 ++ [([], x0_14, ())]) x0_12 x0_13 && decide (goodI (seenF x0_9 x0_10 x0_12 x0_13) (x0_5 ++ [([], x0_14, ())]) ≥ 0)) then
         some (Lf.mk [(Pt.one (L.d (Pv.fz true) Sh.b (false : Bool)))] [] [])
        else
         bif ofG x0_4 (x0_5 ++ [(x0_6, x0_7, ())]) then
          bif drG x0_4 (x0_5 ++ [(x0_6, x0_7, ())]) && (m6 x0_12.length && m6 x0_13.length) then
           some (Lf.mk [(Pt.one (L.d (Pv.fz true) Sh.b (!(er1 (seenOk x0_2 x0_3 x0_4 (x0_5 ++ [(x0_6, x0_7, ())]) x0_12 x0_13)).isNil || (!x0_0 || seenOk x0_2 x0_3 x0_4 (x0_5 ++ [(x0_6, x0_7, ())]) x0_12 x0_13 && decide (goodI (seenF x0_3 x0_4 x0_12 x0_13) (x0_5 ++ [(x0_6, x0_7, ())]) ≥ 0)) : Bool)))] [] [])
          else
           none
         else
          none
       else
        none
      else
       none
     else
      none
    else
     none
   else
    none
  else
   none
noncomputable def f4L0 (n : Nat)  : Nat → f4G0
  | 0 => fun _ _ _ _ _ _ _ _ _ _ _ _ _ _ _ => none
  | m + 1 => fun x0_0 x0_1 x0_2 x0_3 x0_4 x0_5 x0_6 x0_7 x0_8 x0_9 x0_10 x0_11 x0_12 x0_13 x0_14 => f4S0   (f4L0 n  m) x0_0 x0_1 x0_2 x0_3 x0_4 x0_5 x0_6 x0_7 x0_8 x0_9 x0_10 x0_11 x0_12 x0_13 x0_14
theorem f4S0_ev (n : Nat)  (G : St → Option Lf) (x0_0 : Bool) (x0_1 : Int) (x0_2 : Int) (x0_3 : Int) (x0_4 : List (List Int)) (x0_5 : List (List Int × List Int × Unit)) (x0_6 : List Int) (x0_7 : List Int) (x0_8 : Int) (x0_9 : Int) (x0_10 : List (List Int)) (x0_11 : List (List Int × List Int × Unit)) (x0_12 : List Int) (x0_13 : List Int) (x0_14 : List Int) : rnd C16 f4h n Lf (codeOf f4f) [1, 1, 1, 1, 1, 1, 1, 1, 1, 1, 0, 1, 0] [] (endK C16 f4h f4f) G (f4H0 x0_0 x0_1 x0_2 x0_3 x0_4 x0_5 x0_6 x0_7 x0_8 x0_9 x0_10 x0_11 x0_12 x0_13 x0_14) = f4S0   (f4W0 G) x0_0 x0_1 x0_2 x0_3 x0_4 x0_5 x0_6 x0_7 x0_8 x0_9 x0_10 x0_11 x0_12 x0_13 x0_14 := by kernel_rfl
theorem f4W0_ev (n : Nat)  : ∀ m, (f4W0 (lp C16 f4h n Lf (codeOf f4f) [1, 1, 1, 1, 1, 1, 1, 1, 1, 1, 0, 1, 0] [] (endK C16 f4h f4f) m)) = f4L0 n  m := by
  intro m
  induction m with
  | zero => funext x0_0 x0_1 x0_2 x0_3 x0_4 x0_5 x0_6 x0_7 x0_8 x0_9 x0_10 x0_11 x0_12 x0_13 x0_14; exact lp_zero _
  | succ m ih =>
    funext x0_0 x0_1 x0_2 x0_3 x0_4 x0_5 x0_6 x0_7 x0_8 x0_9 x0_10 x0_11 x0_12 x0_13 x0_14
    show lp C16 f4h n Lf (codeOf f4f) [1, 1, 1, 1, 1, 1, 1, 1, 1, 1, 0, 1, 0] [] (endK C16 f4h f4f) (m + 1) (f4H0 x0_0 x0_1 x0_2 x0_3 x0_4 x0_5 x0_6 x0_7 x0_8 x0_9 x0_10 x0_11 x0_12 x0_13 x0_14) = f4S0   (f4L0 n  m) x0_0 x0_1 x0_2 x0_3 x0_4 x0_5 x0_6 x0_7 x0_8 x0_9 x0_10 x0_11 x0_12 x0_13 x0_14
    rw [lp_succ, f4S0_ev, ih]
noncomputable def f4T (l0 : f4G0) (p : Int) (i : Int) (nx : List (List Int)) (ps : List (List Int × List Int × Unit)) (a : List Int) (b : List Int) (s : List Int) (l : List Int) : Option Lf :=
 bif farF nx ps || drG nx ps && (!drOk p i nx ps || Nat.beq 1 1 && (decide (zn a.length > 60) || true)) then
  bif farF nx ps || (!drOk p i nx ps || (decide (zn a.length > 60) || decide (zn b.length > 60))) then
   some (Lf.mk [(Pt.one (L.d (Pv.fz true) Sh.b (true : Bool)))] [] [])
  else
   bif decide (0 ≤ p) && decide (p ≤ 6) && (u8 s && u8 l) then
    bif decide ((0 + (lettersF p s).length) * 8 ≤ 140737488355328) then
     bif decide ((([] ++ lettersF p s).length + (loopF p l).length) * 8 ≤ 140737488355328) then
      bif decide ((0 + (loopF p l).length) * 8 ≤ 140737488355328) then
       bif decide ((([] ++ loopF p l).length + (loopF p l).length) * 8 ≤ 140737488355328) then
        bif ofG nx ps then
         bif drG nx ps && (m6 (lettersF p s).length && m6 (loopF p l).length) then
          bif ofG nx ps then
           bif drG nx ps && (m6 ([] ++ lettersF p s ++ loopF p l).length && m6 ([] ++ loopF p l ++ loopF p l).length) then
            bif !(er1 (seenOk p i nx ps (lettersF p s) (loopF p l))).isNil || (!(er1 (seenOk p i nx ps ([] ++ lettersF p s ++ loopF p l) ([] ++ loopF p l ++ loopF p l))).isNil || !(seenOk p i nx ps (lettersF p s) (loopF p l) && decide (goodI (seenF i nx (lettersF p s) (loopF p l)) ps ≥ 0)) == (seenOk p i nx ps ([] ++ lettersF p s ++ loopF p l) ([] ++ loopF p l ++ loopF p l) && decide (goodI (seenF i nx ([] ++ lettersF p s ++ loopF p l) ([] ++ loopF p l ++ loopF p l)) ps ≥ 0))) then
             some (Lf.mk [(Pt.one (L.d (Pv.fz true) Sh.b (false : Bool)))] [] [])
            else
             l0 (seenOk p i nx ps (lettersF p s) (loopF p l) && decide (goodI (seenF i nx (lettersF p s) (loopF p l)) ps ≥ 0) : Bool) (0 : Int) (p : Int) (i : Int) (nx : List (List Int)) (ps : List (List Int × List Int × Unit)) (a : List Int) (b : List Int) (p : Int) (i : Int) (nx : List (List Int)) (ps : List (List Int × List Int × Unit)) (lettersF p s : List Int) (loopF p l : List Int) ([] : List Int)
           else
            none
          else
           none
         else
          none
        else
         none
       else
        none
      else
       none
     else
      none
    else
     none
   else
    none
 else
  none
noncomputable def f4M (n : Nat) (p : Int) (i : Int) (nx : List (List Int)) (ps : List (List Int × List Int × Unit)) (a : List Int) (b : List Int) (s : List Int) (l : List Int) : Option Lf := f4T (f4L0 n n) p i nx ps a b s l
theorem f4T_ev (n : Nat) (p : Int) (i : Int) (nx : List (List Int)) (ps : List (List Int × List Int × Unit)) (a : List Int) (b : List Int) (s : List Int) (l : List Int) : evF C16 f4h n f4f [(D.p (Pt.agg [(L.d (Pv.fz true) (Sh.i IntKind.i64) p), (L.d (Pv.fz true) (Sh.i IntKind.i64) i), (L.d (Pv.fz false) (Sh.l (Sh.l (Sh.i IntKind.i64))) nx), (L.d (Pv.fz false) (Sh.l (Sh.p (Sh.l (Sh.i IntKind.i64)) (Sh.p (Sh.l (Sh.i IntKind.i64)) Sh.u))) ps)])), (D.p (Pt.agg [(L.d (Pv.fz false) (Sh.l (Sh.i IntKind.i64)) a), (L.d (Pv.fz false) (Sh.l (Sh.i IntKind.i64)) b)])), (D.p (Pt.one (L.d (Pv.fz false) (Sh.l (Sh.i IntKind.u8)) s))), (D.p (Pt.one (L.d (Pv.fz false) (Sh.l (Sh.i IntKind.u8)) l)))] [] = f4T (f4W0 (lp C16 f4h n Lf (codeOf f4f) [1, 1, 1, 1, 1, 1, 1, 1, 1, 1, 0, 1, 0] [] (endK C16 f4h f4f) n)) p i nx ps a b s l := by kernel_rfl
theorem f4_ev (n : Nat) (p : Int) (i : Int) (nx : List (List Int)) (ps : List (List Int × List Int × Unit)) (a : List Int) (b : List Int) (s : List Int) (l : List Int) : evF C16 f4h n f4f [(D.p (Pt.agg [(L.d (Pv.fz true) (Sh.i IntKind.i64) p), (L.d (Pv.fz true) (Sh.i IntKind.i64) i), (L.d (Pv.fz false) (Sh.l (Sh.l (Sh.i IntKind.i64))) nx), (L.d (Pv.fz false) (Sh.l (Sh.p (Sh.l (Sh.i IntKind.i64)) (Sh.p (Sh.l (Sh.i IntKind.i64)) Sh.u))) ps)])), (D.p (Pt.agg [(L.d (Pv.fz false) (Sh.l (Sh.i IntKind.i64)) a), (L.d (Pv.fz false) (Sh.l (Sh.i IntKind.i64)) b)])), (D.p (Pt.one (L.d (Pv.fz false) (Sh.l (Sh.i IntKind.u8)) s))), (D.p (Pt.one (L.d (Pv.fz false) (Sh.l (Sh.i IntKind.u8)) l)))] [] = f4M n p i nx ps a b s l := by
  rw [f4T_ev, f4W0_ev]
  rfl

abbrev f5h : Hn := h5
noncomputable abbrev f5f : Func := fn 5
abbrev f5G0 := Int → Int → Int → (List (List Int)) → (List (List Int × List Int × Unit)) → (List Int) → (List Int) → (List Int) → Option Lf
noncomputable def f5H0 (x0_0 : Int) (x0_1 : Int) (x0_2 : Int) (x0_3 : List (List Int)) (x0_4 : List (List Int × List Int × Unit)) (x0_5 : List Int) (x0_6 : List Int) (x0_7 : List Int) : St := (St.mk [dead, dead, dead, (D.p (Pt.one (L.pv (Id.mk 1 0) 0))), dead, dead, dead, (D.p (Pt.one (L.pv (Id.mk 1 1) 0))), (D.p (Pt.one (L.rw (Id.mk 1 2)))), dead, dead, dead, (D.p (Pt.one (L.d (Pv.fz true) (Sh.i IntKind.i64) x0_0))), dead, dead, dead, dead, dead, dead, dead, dead, dead, dead, dead, dead, dead, dead, dead, dead, dead, dead, dead, dead, dead, dead, dead, dead, dead, dead, dead, dead, dead, dead, dead, dead, dead, dead, dead, dead, dead, dead, dead, dead, dead, dead, dead, dead, dead, dead, dead, dead, dead, dead, dead, dead, dead, dead, dead, dead, dead, dead, dead, dead, dead, dead, dead, dead, dead, dead, dead, dead, dead, dead, dead, dead, dead, dead, dead, dead, dead, dead, dead, dead, dead, dead, dead, dead, dead, dead, dead, dead, dead, dead, dead, dead, dead, dead, dead, dead, dead, dead, dead, dead, dead, dead, dead, dead, dead, dead, dead, dead, dead, dead, dead, dead, dead, dead, dead, dead, dead, dead, dead] [[], [(Ob.va [(L.d (Pv.fz true) (Sh.i IntKind.i64) x0_1), (L.d (Pv.fz true) (Sh.i IntKind.i64) x0_2), (L.d (Pv.fz false) (Sh.l (Sh.l (Sh.i IntKind.i64))) x0_3), (L.d (Pv.fz false) (Sh.l (Sh.p (Sh.l (Sh.i IntKind.i64)) (Sh.p (Sh.l (Sh.i IntKind.i64)) Sh.u))) x0_4)]), (Ob.va [(L.rw (Id.mk 1 3)), (L.rw (Id.mk 1 4))]), (Ob.ro true 0 3 (Sh.i IntKind.i64) Ow.z x0_5 Option.none), (Ob.ro true 0 3 (Sh.i IntKind.i64) Ow.z x0_6 Option.none), (Ob.ro true 0 3 (Sh.i IntKind.i64) Ow.z x0_7 Option.none)]])
noncomputable def f5W0 (G : St → Option Lf) : f5G0 := fun x0_0 x0_1 x0_2 x0_3 x0_4 x0_5 x0_6 x0_7 => G (f5H0 x0_0 x0_1 x0_2 x0_3 x0_4 x0_5 x0_6 x0_7)
abbrev f5G1 := Int → Bool → Int → Int → Int → (List (List Int)) → (List (List Int × List Int × Unit)) → (List Int) → (List Int) → (List Int) → Option Lf
noncomputable def f5H1 (x1_0 : Int) (x1_1 : Bool) (x1_2 : Int) (x1_3 : Int) (x1_4 : Int) (x1_5 : List (List Int)) (x1_6 : List (List Int × List Int × Unit)) (x1_7 : List Int) (x1_8 : List Int) (x1_9 : List Int) : St := (St.mk [dead, dead, dead, (D.p (Pt.one (L.pv (Id.mk 1 0) 0))), dead, dead, dead, (D.p (Pt.one (L.pv (Id.mk 1 1) 0))), (D.p (Pt.one (L.rw (Id.mk 1 2)))), dead, dead, dead, (D.p (Pt.one (L.d (Pv.fz true) (Sh.i IntKind.i64) x1_0))), (D.p (Pt.one (L.d (Pv.fz true) Sh.b x1_1))), (D.p (Pt.one (L.d (Pv.fz true) (Sh.i IntKind.i64) x1_2))), dead, dead, dead, dead, dead, dead, dead, dead, dead, dead, dead, dead, dead, dead, dead, dead, dead, dead, dead, dead, dead, dead, dead, dead, dead, dead, dead, dead, dead, dead, dead, dead, dead, dead, dead, dead, dead, dead, dead, dead, dead, dead, dead, dead, dead, dead, dead, dead, dead, dead, dead, dead, dead, dead, dead, dead, dead, dead, dead, dead, dead, dead, dead, dead, dead, dead, dead, dead, dead, dead, dead, dead, dead, dead, dead, dead, dead, dead, dead, dead, dead, dead, dead, dead, dead, dead, dead, dead, dead, dead, dead, dead, dead, dead, dead, dead, dead, dead, dead, dead, dead, dead, dead, dead, dead, dead, dead, dead, dead, dead, dead, dead, dead, dead, dead, dead, dead] [[], [(Ob.va [(L.d (Pv.fz true) (Sh.i IntKind.i64) x1_3), (L.d (Pv.fz true) (Sh.i IntKind.i64) x1_4), (L.d (Pv.fz false) (Sh.l (Sh.l (Sh.i IntKind.i64))) x1_5), (L.d (Pv.fz false) (Sh.l (Sh.p (Sh.l (Sh.i IntKind.i64)) (Sh.p (Sh.l (Sh.i IntKind.i64)) Sh.u))) x1_6)]), (Ob.va [(L.rw (Id.mk 1 3)), (L.rw (Id.mk 1 4))]), (Ob.ro true 0 3 (Sh.i IntKind.i64) Ow.z x1_7 Option.none), (Ob.ro true 0 3 (Sh.i IntKind.i64) Ow.z x1_8 Option.none), (Ob.ro true 0 3 (Sh.i IntKind.i64) Ow.z x1_9 Option.none)]])
noncomputable def f5W1 (G : St → Option Lf) : f5G1 := fun x1_0 x1_1 x1_2 x1_3 x1_4 x1_5 x1_6 x1_7 x1_8 x1_9 => G (f5H1 x1_0 x1_1 x1_2 x1_3 x1_4 x1_5 x1_6 x1_7 x1_8 x1_9)
abbrev f5G2 := Int → Bool → Int → Int → Int → Int → Int → (List (List Int)) → (List (List Int × List Int × Unit)) → (List Int) → (List Int) → (List Int) → Option Lf
noncomputable def f5H2 (x2_0 : Int) (x2_1 : Bool) (x2_2 : Int) (x2_3 : Int) (x2_4 : Int) (x2_5 : Int) (x2_6 : Int) (x2_7 : List (List Int)) (x2_8 : List (List Int × List Int × Unit)) (x2_9 : List Int) (x2_10 : List Int) (x2_11 : List Int) : St := (St.mk [dead, dead, dead, (D.p (Pt.one (L.pv (Id.mk 1 0) 0))), dead, dead, dead, (D.p (Pt.one (L.pv (Id.mk 1 1) 0))), (D.p (Pt.one (L.rw (Id.mk 1 2)))), dead, dead, dead, (D.p (Pt.one (L.d (Pv.fz true) (Sh.i IntKind.i64) x2_0))), (D.p (Pt.one (L.d (Pv.fz true) Sh.b x2_1))), (D.p (Pt.one (L.d (Pv.fz true) (Sh.i IntKind.i64) x2_2))), (D.p (Pt.one (L.d (Pv.fz true) (Sh.i IntKind.i64) x2_3))), (D.p (Pt.one (L.d (Pv.fz true) (Sh.i IntKind.i64) x2_4))), dead, dead, dead, dead, dead, dead, dead, dead, dead, dead, dead, dead, dead, dead, dead, dead, dead, dead, dead, dead, dead, dead, dead, dead, dead, dead, dead, dead, dead, dead, dead, dead, dead, dead, dead, dead, dead, dead, dead, dead, dead, dead, dead, dead, dead, dead, dead, dead, dead, dead, dead, dead, dead, dead, dead, dead, dead, dead, dead, dead, dead, dead, dead, dead, dead, dead, dead, dead, dead, dead, dead, dead, dead, dead, dead, dead, dead, dead, dead, dead, dead, dead, dead, dead, dead, dead, dead, dead, dead, dead, dead, dead, dead, dead, dead, dead, dead, dead, dead, dead, dead, dead, dead, dead, dead, dead, dead, dead, dead, dead, dead, dead, dead, dead, dead] [[], [(Ob.va [(L.d (Pv.fz true) (Sh.i IntKind.i64) x2_5), (L.d (Pv.fz true) (Sh.i IntKind.i64) x2_6), (L.d (Pv.fz false) (Sh.l (Sh.l (Sh.i IntKind.i64))) x2_7), (L.d (Pv.fz false) (Sh.l (Sh.p (Sh.l (Sh.i IntKind.i64)) (Sh.p (Sh.l (Sh.i IntKind.i64)) Sh.u))) x2_8)]), (Ob.va [(L.rw (Id.mk 1 3)), (L.rw (Id.mk 1 4))]), (Ob.ro true 0 3 (Sh.i IntKind.i64) Ow.z x2_9 Option.none), (Ob.ro true 0 3 (Sh.i IntKind.i64) Ow.z x2_10 Option.none), (Ob.ro true 0 3 (Sh.i IntKind.i64) Ow.z x2_11 Option.none)]])
noncomputable def f5W2 (G : St → Option Lf) : f5G2 := fun x2_0 x2_1 x2_2 x2_3 x2_4 x2_5 x2_6 x2_7 x2_8 x2_9 x2_10 x2_11 => G (f5H2 x2_0 x2_1 x2_2 x2_3 x2_4 x2_5 x2_6 x2_7 x2_8 x2_9 x2_10 x2_11)
noncomputable def f5S2  (g0 : f5G0) (g1 : f5G1) (g2 : f5G2) (x2_0 : Int) (x2_1 : Bool) (x2_2 : Int) (x2_3 : Int) (x2_4 : Int) (x2_5 : Int) (x2_6 : Int) (x2_7 : List (List Int)) (x2_8 : List (List Int × List Int × Unit)) (x2_9 : List Int) (x2_10 : List Int) (x2_11 : List Int) : Option Lf :=
 bif decide (x2_4 < zn x2_9.length) then
  bif x2_1 || Nat.beq 1 1 && (inb x2_4 x2_9.length && true) then
   g2 (x2_0 : Int) (x2_1 || x2_9.getD x2_4.toNat 0 == x2_3 : Bool) (x2_2 : Int) (x2_3 : Int) (IntKind.i64.wrap (x2_4 + 1) : Int) (x2_5 : Int) (x2_6 : Int) (x2_7 : List (List Int)) (x2_8 : List (List Int × List Int × Unit)) (x2_9 : List Int) (x2_10 : List Int) (x2_11 : List Int)
  else
   none
 else
  g1 (x2_0 : Int) (x2_1 : Bool) (IntKind.i64.wrap (x2_2 + 1) : Int) (x2_5 : Int) (x2_6 : Int) (x2_7 : List (List Int)) (x2_8 : List (List Int × List Int × Unit)) (x2_9 : List Int) (x2_10 : List Int) (x2_11 : List Int)
noncomputable def f5L2 (n : Nat) (g0 : f5G0) (g1 : f5G1) : Nat → f5G2
  | 0 => fun _ _ _ _ _ _ _ _ _ _ _ _ => none
  | m + 1 => fun x2_0 x2_1 x2_2 x2_3 x2_4 x2_5 x2_6 x2_7 x2_8 x2_9 x2_10 x2_11 => f5S2  g0 g1 (f5L2 n g0 g1 m) x2_0 x2_1 x2_2 x2_3 x2_4 x2_5 x2_6 x2_7 x2_8 x2_9 x2_10 x2_11
theorem f5S2_ev (n : Nat) (G0 : St → Option Lf) (G1 : St → Option Lf) (G : St → Option Lf) (x2_0 : Int) (x2_1 : Bool) (x2_2 : Int) (x2_3 : Int) (x2_4 : Int) (x2_5 : Int) (x2_6 : Int) (x2_7 : List (List Int)) (x2_8 : List (List Int × List Int × Unit)) (x2_9 : List Int) (x2_10 : List Int) (x2_11 : List Int) : rnd C16 f5h n Lf (codeOf f5f) [1, 1, 1, 1, 1, 1, 1, 0, 1, 0, 0, 1, 0, 0, 1, 0, 1, 0, 0, 1, 0, 0, 1, 1, 0] [G0, G1] (endK C16 f5h f5f) G (f5H2 x2_0 x2_1 x2_2 x2_3 x2_4 x2_5 x2_6 x2_7 x2_8 x2_9 x2_10 x2_11) = f5S2  (f5W0 G0) (f5W1 G1) (f5W2 G) x2_0 x2_1 x2_2 x2_3 x2_4 x2_5 x2_6 x2_7 x2_8 x2_9 x2_10 x2_11 := by kernel_rfl
theorem f5W2_ev (n : Nat) (G0 : St → Option Lf) (G1 : St → Option Lf) : ∀ m, (f5W2 (lp C16 f5h n Lf (codeOf f5f) [1, 1, 1, 1, 1, 1, 1, 0, 1, 0, 0, 1, 0, 0, 1, 0, 1, 0, 0, 1, 0, 0, 1, 1, 0] [G0, G1] (endK C16 f5h f5f) m)) = f5L2 n (f5W0 G0) (f5W1 G1) m := by
  intro m
  induction m with
  | zero => funext x2_0 x2_1 x2_2 x2_3 x2_4 x2_5 x2_6 x2_7 x2_8 x2_9 x2_10 x2_11; exact lp_zero _
  | succ m ih =>
    funext x2_0 x2_1 x2_2 x2_3 x2_4 x2_5 x2_6 x2_7 x2_8 x2_9 x2_10 x2_11
    show lp C16 f5h n Lf (codeOf f5f) [1, 1, 1, 1, 1, 1, 1, 0, 1, 0, 0, 1, 0, 0, 1, 0, 1, 0, 0, 1, 0, 0, 1, 1, 0] [G0, G1] (endK C16 f5h f5f) (m + 1) (f5H2 x2_0 x2_1 x2_2 x2_3 x2_4 x2_5 x2_6 x2_7 x2_8 x2_9 x2_10 x2_11) = f5S2  (f5W0 G0) (f5W1 G1) (f5L2 n (f5W0 G0) (f5W1 G1) m) x2_0 x2_1 x2_2 x2_3 x2_4 x2_5 x2_6 x2_7 x2_8 x2_9 x2_10 x2_11
    rw [lp_succ, f5S2_ev, ih]
noncomputable def f5S1 (l2 : f5G2) (g0 : f5G0) (g1 : f5G1) (x1_0 : Int) (x1_1 : Bool) (x1_2 : Int) (x1_3 : Int) (x1_4 : Int) (x1_5 : List (List Int)) (x1_6 : List (List Int × List Int × Unit)) (x1_7 : List Int) (x1_8 : List Int) (x1_9 : List Int) : Option Lf :=
 bif decide (x1_2 < zn x1_9.length) then
  bif inb x1_0 x1_7.length then
   bif inb (x1_7.getD x1_0.toNat 0) x1_5.length then
    bif inb x1_2 x1_9.length then
     bif inb (x1_9.getD x1_2.toNat 0) (x1_5.getD (x1_7.getD x1_0.toNat 0).toNat []).length then
      l2 (x1_0 : Int) (x1_1 : Bool) (x1_2 : Int) ((x1_5.getD (x1_7.getD x1_0.toNat 0).toNat []).getD (x1_9.getD x1_2.toNat 0).toNat 0 : Int) (0 : Int) (x1_3 : Int) (x1_4 : Int) (x1_5 : List (List Int)) (x1_6 : List (List Int × List Int × Unit)) (x1_7 : List Int) (x1_8 : List Int) (x1_9 : List Int)
     else
      none
    else
     none
   else
    none
  else
   none
 else
  bif !x1_1 || bif decide (x1_0 > 0) then Nat.beq 1 1 && (inb x1_0 x1_7.length && (Nat.beq 1 1 && (Nat.beq 1 1 && (inb (IntKind.i64.wrap (x1_0 - 1)) x1_7.length && true)))) else true then
   bif !x1_1 || decide (x1_0 > 0) && decide (x1_7.getD x1_0.toNat 0 ≤ x1_7.getD (IntKind.i64.wrap (x1_0 - 1)).toNat 0) then
    some (Lf.mk [(Pt.one (L.d (Pv.fz true) Sh.b (false : Bool)))] [] [])
   else
    g0 (IntKind.i64.wrap (x1_0 + 1) : Int) (x1_3 : Int) (x1_4 : Int) (x1_5 : List (List Int)) (x1_6 : List (List Int × List Int × Unit)) (x1_7 : List Int) (x1_8 : List Int) (x1_9 : List Int)
  else
   none
noncomputable def f5L1 (n : Nat) (g0 : f5G0) : Nat → f5G1
  | 0 => fun _ _ _ _ _ _ _ _ _ _ => none
  | m + 1 => fun x1_0 x1_1 x1_2 x1_3 x1_4 x1_5 x1_6 x1_7 x1_8 x1_9 => f5S1 (f5L2 n g0 (f5L1 n g0 m) n) g0 (f5L1 n g0 m) x1_0 x1_1 x1_2 x1_3 x1_4 x1_5 x1_6 x1_7 x1_8 x1_9
theorem f5S1_ev (n : Nat) (G0 : St → Option Lf) (G : St → Option Lf) (x1_0 : Int) (x1_1 : Bool) (x1_2 : Int) (x1_3 : Int) (x1_4 : Int) (x1_5 : List (List Int)) (x1_6 : List (List Int × List Int × Unit)) (x1_7 : List Int) (x1_8 : List Int) (x1_9 : List Int) : rnd C16 f5h n Lf (codeOf f5f) [1, 1, 1, 1, 1, 1, 1, 0, 1, 0, 0, 1, 0, 0, 1, 0, 1, 0] [G0] (endK C16 f5h f5f) G (f5H1 x1_0 x1_1 x1_2 x1_3 x1_4 x1_5 x1_6 x1_7 x1_8 x1_9) = f5S1 (f5W2 (lp C16 f5h n Lf (codeOf f5f) [1, 1, 1, 1, 1, 1, 1, 0, 1, 0, 0, 1, 0, 0, 1, 0, 1, 0, 0, 1, 0, 0, 1, 1, 0] [G0, G] (endK C16 f5h f5f) n)) (f5W0 G0) (f5W1 G) x1_0 x1_1 x1_2 x1_3 x1_4 x1_5 x1_6 x1_7 x1_8 x1_9 := by kernel_rfl
theorem f5W1_ev (n : Nat) (G0 : St → Option Lf) : ∀ m, (f5W1 (lp C16 f5h n Lf (codeOf f5f) [1, 1, 1, 1, 1, 1, 1, 0, 1, 0, 0, 1, 0, 0, 1, 0, 1, 0] [G0] (endK C16 f5h f5f) m)) = f5L1 n (f5W0 G0) m := by
  intro m
  induction m with
  | zero => funext x1_0 x1_1 x1_2 x1_3 x1_4 x1_5 x1_6 x1_7 x1_8 x1_9; exact lp_zero _
  | succ m ih =>
    have e2 : (f5W2 (lp C16 f5h n Lf (codeOf f5f) [1, 1, 1, 1, 1, 1, 1, 0, 1, 0, 0, 1, 0, 0, 1, 0, 1, 0, 0, 1, 0, 0, 1, 1, 0] [G0, (lp C16 f5h n Lf (codeOf f5f) [1, 1, 1, 1, 1, 1, 1, 0, 1, 0, 0, 1, 0, 0, 1, 0, 1, 0] [G0] (endK C16 f5h f5f) m)] (endK C16 f5h f5f) n)) = (f5L2 n (f5W0 G0) (f5L1 n (f5W0 G0) m) n) := by
      rw [f5W2_ev, ih]
    funext x1_0 x1_1 x1_2 x1_3 x1_4 x1_5 x1_6 x1_7 x1_8 x1_9
    show lp C16 f5h n Lf (codeOf f5f) [1, 1, 1, 1, 1, 1, 1, 0, 1, 0, 0, 1, 0, 0, 1, 0, 1, 0] [G0] (endK C16 f5h f5f) (m + 1) (f5H1 x1_0 x1_1 x1_2 x1_3 x1_4 x1_5 x1_6 x1_7 x1_8 x1_9) = f5S1 (f5L2 n (f5W0 G0) (f5L1 n (f5W0 G0) m) n) (f5W0 G0) (f5L1 n (f5W0 G0) m) x1_0 x1_1 x1_2 x1_3 x1_4 x1_5 x1_6 x1_7 x1_8 x1_9
    rw [lp_succ, f5S1_ev, ih, e2]
noncomputable def f5S0 (l1 : f5G1) (g0 : f5G0) (x0_0 : Int) (x0_1 : Int) (x0_2 : Int) (x0_3 : List (List Int)) (x0_4 : List (List Int × List Int × Unit)) (x0_5 : List Int) (x0_6 : List Int) (x0_7 : List Int) : Option Lf :=
 bif decide (x0_0 < zn x0_5.length) then
  l1 (x0_0 : Int) (false : Bool) (0 : Int) (x0_1 : Int) (x0_2 : Int) (x0_3 : List (List Int)) (x0_4 : List (List Int × List Int × Unit)) (x0_5 : List Int) (x0_6 : List Int) (x0_7 : List Int)
 else
  some (Lf.mk [(Pt.one (L.d (Pv.fz true) Sh.b (true : Bool)))] [] [])
noncomputable def f5L0 (n : Nat)  : Nat → f5G0
  | 0 => fun _ _ _ _ _ _ _ _ => none
  | m + 1 => fun x0_0 x0_1 x0_2 x0_3 x0_4 x0_5 x0_6 x0_7 => f5S0 (f5L1 n (f5L0 n  m) n)  (f5L0 n  m) x0_0 x0_1 x0_2 x0_3 x0_4 x0_5 x0_6 x0_7
theorem f5S0_ev (n : Nat)  (G : St → Option Lf) (x0_0 : Int) (x0_1 : Int) (x0_2 : Int) (x0_3 : List (List Int)) (x0_4 : List (List Int × List Int × Unit)) (x0_5 : List Int) (x0_6 : List Int) (x0_7 : List Int) : rnd C16 f5h n Lf (codeOf f5f) [1, 1, 1, 1, 1, 1, 1, 0, 1, 0] [] (endK C16 f5h f5f) G (f5H0 x0_0 x0_1 x0_2 x0_3 x0_4 x0_5 x0_6 x0_7) = f5S0 (f5W1 (lp C16 f5h n Lf (codeOf f5f) [1, 1, 1, 1, 1, 1, 1, 0, 1, 0, 0, 1, 0, 0, 1, 0, 1, 0] [G] (endK C16 f5h f5f) n))  (f5W0 G) x0_0 x0_1 x0_2 x0_3 x0_4 x0_5 x0_6 x0_7 := by kernel_rfl
theorem f5W0_ev (n : Nat)  : ∀ m, (f5W0 (lp C16 f5h n Lf (codeOf f5f) [1, 1, 1, 1, 1, 1, 1, 0, 1, 0] [] (endK C16 f5h f5f) m)) = f5L0 n  m := by
  intro m
  induction m with
  | zero => funext x0_0 x0_1 x0_2 x0_3 x0_4 x0_5 x0_6 x0_7; exact lp_zero _
  | succ m ih =>
    have e1 : (f5W1 (lp C16 f5h n Lf (codeOf f5f) [1, 1, 1, 1, 1, 1, 1, 0, 1, 0, 0, 1, 0, 0, 1, 0, 1, 0] [(lp C16 f5h n Lf (codeOf f5f) [1, 1, 1, 1, 1, 1, 1, 0, 1, 0] [] (endK C16 f5h f5f) m)] (endK C16 f5h f5f) n)) = (f5L1 n (f5L0 n  m) n) := by
      rw [f5W1_ev, ih]
    funext x0_0 x0_1 x0_2 x0_3 x0_4 x0_5 x0_6 x0_7
    show lp C16 f5h n Lf (codeOf f5f) [1, 1, 1, 1, 1, 1, 1, 0, 1, 0] [] (endK C16 f5h f5f) (m + 1) (f5H0 x0_0 x0_1 x0_2 x0_3 x0_4 x0_5 x0_6 x0_7) = f5S0 (f5L1 n (f5L0 n  m) n)  (f5L0 n  m) x0_0 x0_1 x0_2 x0_3 x0_4 x0_5 x0_6 x0_7
    rw [lp_succ, f5S0_ev, ih, e1]
noncomputable def f5T (l0 : f5G0) (p : Int) (i : Int) (nx : List (List Int)) (ps : List (List Int × List Int × Unit)) (s : List Int) (l : List Int) : Option Lf :=
 bif farF nx ps || drG nx ps && true then
  bif farF nx ps || !drOk p i nx ps then
   some (Lf.mk [(Pt.one (L.d (Pv.fz true) Sh.b (true : Bool)))] [] [])
  else
   bif decide (0 ≤ p) && decide (p ≤ 6) && (u8 s && u8 l) then
    bif ofG nx ps then
     bif drG nx ps && (m6 (lettersF p s).length && m6 (loopF p l).length) then
      bif ofG nx ps then
       bif decide ((0 + (lettersF p s).length) * 8 ≤ 140737488355328) then
        bif decide ((([] ++ lettersF p s).length + (loopF p l).length) * 8 ≤ 140737488355328) then
         bif drG nx ps && (m6 ([] ++ lettersF p s ++ loopF p l).length && m6 (loopF p l).length) then
          bif !(er1 (seenOk p i nx ps (lettersF p s) (loopF p l))).isNil || (!(er1 (seenOk p i nx ps ([] ++ lettersF p s ++ loopF p l) (loopF p l))).isNil || (zn (bif seenOk p i nx ps (lettersF p s) (loopF p l) then seenF i nx (lettersF p s) (loopF p l) else []).length == 0 || Nat.beq 1 1 && (Nat.beq 1 1 && (big (bif seenOk p i nx ps (lettersF p s) (loopF p l) then seenF i nx (lettersF p s) (loopF p l) else []).length && true)))) then
           bif !(er1 (seenOk p i nx ps (lettersF p s) (loopF p l))).isNil || (!(er1 (seenOk p i nx ps ([] ++ lettersF p s ++ loopF p l) (loopF p l))).isNil || (zn (bif seenOk p i nx ps (lettersF p s) (loopF p l) then seenF i nx (lettersF p s) (loopF p l) else []).length == 0 || !sameI (bif seenOk p i nx ps (lettersF p s) (loopF p l) then seenF i nx (lettersF p s) (loopF p l) else []) (bif seenOk p i nx ps ([] ++ lettersF p s ++ loopF p l) (loopF p l) then seenF i nx ([] ++ lettersF p s ++ loopF p l) (loopF p l) else []))) then
            some (Lf.mk [(Pt.one (L.d (Pv.fz true) Sh.b (false : Bool)))] [] [])
           else
            l0 (0 : Int) (p : Int) (i : Int) (nx : List (List Int)) (ps : List (List Int × List Int × Unit)) (bif seenOk p i nx ps (lettersF p s) (loopF p l) then seenF i nx (lettersF p s) (loopF p l) else [] : List Int) (lettersF p s : List Int) (loopF p l : List Int)
          else
           none
         else
          none
        else
         none
       else
        none
      else
       none
     else
      none
    else
     none
   else
    none
 else
  none
noncomputable def f5M (n : Nat) (p : Int) (i : Int) (nx : List (List Int)) (ps : List (List Int × List Int × Unit)) (s : List Int) (l : List Int) : Option Lf := f5T (f5L0 n n) p i nx ps s l
theorem f5T_ev (n : Nat) (p : Int) (i : Int) (nx : List (List Int)) (ps : List (List Int × List Int × Unit)) (s : List Int) (l : List Int) : evF C16 f5h n f5f [(D.p (Pt.agg [(L.d (Pv.fz true) (Sh.i IntKind.i64) p), (L.d (Pv.fz true) (Sh.i IntKind.i64) i), (L.d (Pv.fz false) (Sh.l (Sh.l (Sh.i IntKind.i64))) nx), (L.d (Pv.fz false) (Sh.l (Sh.p (Sh.l (Sh.i IntKind.i64)) (Sh.p (Sh.l (Sh.i IntKind.i64)) Sh.u))) ps)])), (D.p (Pt.one (L.d (Pv.fz false) (Sh.l (Sh.i IntKind.u8)) s))), (D.p (Pt.one (L.d (Pv.fz false) (Sh.l (Sh.i IntKind.u8)) l)))] [] = f5T (f5W0 (lp C16 f5h n Lf (codeOf f5f) [1, 1, 1, 1, 1, 1, 1, 0, 1, 0] [] (endK C16 f5h f5f) n)) p i nx ps s l := by kernel_rfl
theorem f5_ev (n : Nat) (p : Int) (i : Int) (nx : List (List Int)) (ps : List (List Int × List Int × Unit)) (s : List Int) (l : List Int) : evF C16 f5h n f5f [(D.p (Pt.agg [(L.d (Pv.fz true) (Sh.i IntKind.i64) p), (L.d (Pv.fz true) (Sh.i IntKind.i64) i), (L.d (Pv.fz false) (Sh.l (Sh.l (Sh.i IntKind.i64))) nx), (L.d (Pv.fz false) (Sh.l (Sh.p (Sh.l (Sh.i IntKind.i64)) (Sh.p (Sh.l (Sh.i IntKind.i64)) Sh.u))) ps)])), (D.p (Pt.one (L.d (Pv.fz false) (Sh.l (Sh.i IntKind.u8)) s))), (D.p (Pt.one (L.d (Pv.fz false) (Sh.l (Sh.i IntKind.u8)) l)))] [] = f5M n p i nx ps s l := by
  rw [f5T_ev, f5W0_ev]
  rfl
end Go.S18
