/-
  Seat 18: functional forms: DraKeeps
-/
import Derived.Test.YtfkmnklnnccopaaDoorS18GA
import Derived.Test.YtfkmnklnnccopaaDoorS18ZF
open Go Go.En Go.S18
namespace Go.S18
noncomputable def l21 : List (Nat × En.Spec) := (8, aliveS) :: (9, farS) :: (10, ofS) :: (11, checkS) :: (12, rightS) :: (17, acceptsS) :: (21, wordS) :: (22, trimS) :: (23, sameS) :: (24, toS) :: []
noncomputable def C21 : Ctx := ctxOf C0 l21
def h7 : Hn := ⟨fun | 10007 => [3, 7, 8, 9] | 10008 => [3, 7, 8, 9, 10, 11] | _ => [], fun | 10007 => [⟨8, some 1000, 0, .z⟩] | 10008 => [⟨10, some 1000, 0, .z⟩] | _ => [], fun | 6 => true | 7 => true | _ => false⟩

abbrev f7h : Hn := h7
noncomputable abbrev f7f : Func := fn 7
abbrev f7G0 := Er → Int → Int → (List (List Int)) → (List (List Int × List Int × Unit)) → Int → Int → (List (List Int)) → (List (List Int × List Int × Unit)) → (List Int) → (List Int) → Option Lf
noncomputable def f7H0 (x0_0 : Er) (x0_1 : Int) (x0_2 : Int) (x0_3 : List (List Int)) (x0_4 : List (List Int × List Int × Unit)) (x0_5 : Int) (x0_6 : Int) (x0_7 : List (List Int)) (x0_8 : List (List Int × List Int × Unit)) (x0_9 : List Int) (x0_10 : List Int) : St := (St.mk [dead, dead, dead, (D.p (Pt.one (L.pv (Id.mk 1 0) 0))), dead, dead, dead, (D.p (Pt.one (L.pv (Id.mk 1 1) 0))), (D.p (Pt.one (L.pv (Id.mk 1 2) 0))), (D.p (Pt.one (L.d (Pv.fz true) Sh.e x0_0))), dead, dead, dead, dead, dead, dead, dead, dead, dead, dead, dead, dead, dead, dead, dead, dead, dead, dead, dead, dead, dead, dead, dead, dead, dead, dead, dead, dead, dead, dead, dead, dead, dead, dead, dead, dead, dead, dead, dead, dead, dead, dead, dead, dead, dead, dead, dead, dead, dead, dead, dead, dead, dead, dead, dead, dead, dead, dead, dead, dead, dead, dead, dead, dead, dead, dead, dead, dead, dead, dead, dead, dead, dead, dead, dead, dead, dead, dead, dead, dead, dead, dead, dead, dead] [[], [(Ob.va [(L.d (Pv.fz true) (Sh.i IntKind.i64) x0_1), (L.d (Pv.fz true) (Sh.i IntKind.i64) x0_2), (L.d (Pv.fz false) (Sh.l (Sh.l (Sh.i IntKind.i64))) x0_3), (L.d (Pv.fz false) (Sh.l (Sh.p (Sh.l (Sh.i IntKind.i64)) (Sh.p (Sh.l (Sh.i IntKind.i64)) Sh.u))) x0_4)]), (Ob.va [(L.rw (Id.mk 1 3)), (L.rw (Id.mk 1 4))]), (Ob.va [(L.d (Pv.fz true) (Sh.i IntKind.i64) x0_5), (L.d (Pv.fz true) (Sh.i IntKind.i64) x0_6), (L.d (Pv.fz true) (Sh.l (Sh.l (Sh.i IntKind.i64))) x0_7), (L.d (Pv.fz true) (Sh.l (Sh.p (Sh.l (Sh.i IntKind.i64)) (Sh.p (Sh.l (Sh.i IntKind.i64)) Sh.u))) x0_8)]), (Ob.ro true 0 3 (Sh.i IntKind.i64) Ow.z x0_9 Option.none), (Ob.ro true 0 3 (Sh.i IntKind.i64) Ow.z x0_10 Option.none)]])
noncomputable def f7W0 (G : St → Option Lf) : f7G0 := fun x0_0 x0_1 x0_2 x0_3 x0_4 x0_5 x0_6 x0_7 x0_8 x0_9 x0_10 => G (f7H0 x0_0 x0_1 x0_2 x0_3 x0_4 x0_5 x0_6 x0_7 x0_8 x0_9 x0_10)
abbrev f7G1 := Er → Er → Int → Int → (List (List Int)) → (List (List Int × List Int × Unit)) → Int → Int → (List (List Int)) → (List (List Int × List Int × Unit)) → Int → Int → (List (List Int)) → (List (List Int × List Int × Unit)) → (List Int) → (List Int) → Option Lf
noncomputable def f7H1 (x1_0 : Er) (x1_1 : Er) (x1_2 : Int) (x1_3 : Int) (x1_4 : List (List Int)) (x1_5 : List (List Int × List Int × Unit)) (x1_6 : Int) (x1_7 : Int) (x1_8 : List (List Int)) (x1_9 : List (List Int × List Int × Unit)) (x1_10 : Int) (x1_11 : Int) (x1_12 : List (List Int)) (x1_13 : List (List Int × List Int × Unit)) (x1_14 : List Int) (x1_15 : List Int) : St := (St.mk [dead, dead, dead, (D.p (Pt.one (L.pv (Id.mk 1 0) 0))), dead, dead, dead, (D.p (Pt.one (L.pv (Id.mk 1 1) 0))), (D.p (Pt.one (L.pv (Id.mk 1 2) 0))), (D.p (Pt.one (L.d (Pv.fz true) Sh.e x1_0))), (D.p (Pt.one (L.pv (Id.mk 1 3) 0))), (D.p (Pt.one (L.d (Pv.fz true) Sh.e x1_1))), dead, dead, dead, dead, dead, dead, dead, dead, dead, dead, dead, dead, dead, dead, dead, dead, dead, dead, dead, dead, dead, dead, dead, dead, dead, dead, dead, dead, dead, dead, dead, dead, dead, dead, dead, dead, dead, dead, dead, dead, dead, dead, dead, dead, dead, dead, dead, dead, dead, dead, dead, dead, dead, dead, dead, dead, dead, dead, dead, dead, dead, dead, dead, dead, dead, dead, dead, dead, dead, dead, dead, dead, dead, dead, dead, dead, dead, dead, dead, dead, dead, dead] [[], [(Ob.va [(L.d (Pv.fz true) (Sh.i IntKind.i64) x1_2), (L.d (Pv.fz true) (Sh.i IntKind.i64) x1_3), (L.d (Pv.fz false) (Sh.l (Sh.l (Sh.i IntKind.i64))) x1_4), (L.d (Pv.fz false) (Sh.l (Sh.p (Sh.l (Sh.i IntKind.i64)) (Sh.p (Sh.l (Sh.i IntKind.i64)) Sh.u))) x1_5)]), (Ob.va [(L.rw (Id.mk 1 4)), (L.rw (Id.mk 1 5))]), (Ob.va [(L.d (Pv.fz true) (Sh.i IntKind.i64) x1_6), (L.d (Pv.fz true) (Sh.i IntKind.i64) x1_7), (L.d (Pv.fz true) (Sh.l (Sh.l (Sh.i IntKind.i64))) x1_8), (L.d (Pv.fz true) (Sh.l (Sh.p (Sh.l (Sh.i IntKind.i64)) (Sh.p (Sh.l (Sh.i IntKind.i64)) Sh.u))) x1_9)]), (Ob.va [(L.d (Pv.fz true) (Sh.i IntKind.i64) x1_10), (L.d (Pv.fz true) (Sh.i IntKind.i64) x1_11), (L.d (Pv.fz true) (Sh.l (Sh.l (Sh.i IntKind.i64))) x1_12), (L.d (Pv.fz true) (Sh.l (Sh.p (Sh.l (Sh.i IntKind.i64)) (Sh.p (Sh.l (Sh.i IntKind.i64)) Sh.u))) x1_13)]), (Ob.ro true 0 3 (Sh.i IntKind.i64) Ow.z x1_14 Option.none), (Ob.ro true 0 3 (Sh.i IntKind.i64) Ow.z x1_15 Option.none)]])
noncomputable def f7W1 (G : St → Option Lf) : f7G1 := fun x1_0 x1_1 x1_2 x1_3 x1_4 x1_5 x1_6 x1_7 x1_8 x1_9 x1_10 x1_11 x1_12 x1_13 x1_14 x1_15 => G (f7H1 x1_0 x1_1 x1_2 x1_3 x1_4 x1_5 x1_6 x1_7 x1_8 x1_9 x1_10 x1_11 x1_12 x1_13 x1_14 x1_15)
noncomputable def f7S1  (g1 : f7G1) (x1_0 : Er) (x1_1 : Er) (x1_2 : Int) (x1_3 : Int) (x1_4 : List (List Int)) (x1_5 : List (List Int × List Int × Unit)) (x1_6 : Int) (x1_7 : Int) (x1_8 : List (List Int)) (x1_9 : List (List Int × List Int × Unit)) (x1_10 : Int) (x1_11 : Int) (x1_12 : List (List Int)) (x1_13 : List (List Int × List Int × Unit)) (x1_14 : List Int) (x1_15 : List Int) : Option Lf :=
 bif ofG x1_4 x1_5 then
  bif drG x1_4 x1_5 && (m6 x1_14.length && m6 x1_15.length) then
   bif drG x1_8 x1_9 && (m6 x1_14.length && m6 x1_15.length) then
    bif bif x1_0.isNil then bif x1_1.isNil then bif (er1 (seenOk x1_2 x1_3 x1_4 x1_5 x1_14 x1_15)).isNil then bif (er1 (seenOk x1_6 x1_7 x1_8 x1_9 x1_14 x1_15)).isNil then bif (seenOk x1_2 x1_3 x1_4 x1_5 x1_14 x1_15 && decide (goodI (seenF x1_3 x1_4 x1_14 x1_15) x1_5 ≥ 0)) == (seenOk x1_6 x1_7 x1_8 x1_9 x1_14 x1_15 && decide (goodI (seenF x1_7 x1_8 x1_14 x1_15) x1_9 ≥ 0)) then drG x1_8 x1_9 && bif (er1 (drOk x1_6 x1_7 x1_8 x1_9)).isNil then Nat.beq 1 1 && (Nat.beq 1 1 && bif decide (zn x1_8.length ≤ zn x1_4.length) then m6 x1_9.length && (m6 x1_13.length && (Nat.beq 1 1 && (Nat.beq 1 1 && (sameG x1_6 x1_7 x1_8 x1_9 x1_10 x1_11 x1_12 x1_13 && true)))) else true) else true else true else true else true else true else true then
     some (Lf.mk [(Pt.one (L.d (Pv.fz true) Sh.b (x1_0.isNil && (x1_1.isNil && ((er1 (seenOk x1_2 x1_3 x1_4 x1_5 x1_14 x1_15)).isNil && ((er1 (seenOk x1_6 x1_7 x1_8 x1_9 x1_14 x1_15)).isNil && ((seenOk x1_2 x1_3 x1_4 x1_5 x1_14 x1_15 && decide (goodI (seenF x1_3 x1_4 x1_14 x1_15) x1_5 ≥ 0)) == (seenOk x1_6 x1_7 x1_8 x1_9 x1_14 x1_15 && decide (goodI (seenF x1_7 x1_8 x1_14 x1_15) x1_9 ≥ 0)) && ((er1 (drOk x1_6 x1_7 x1_8 x1_9)).isNil && (decide (zn x1_8.length ≤ zn x1_4.length) && true)))))) : Bool)))] [] [])
    else
     none
   else
    none
  else
   none
 else
  none
noncomputable def f7L1 (n : Nat)  : Nat → f7G1
  | 0 => fun _ _ _ _ _ _ _ _ _ _ _ _ _ _ _ _ => none
  | m + 1 => fun x1_0 x1_1 x1_2 x1_3 x1_4 x1_5 x1_6 x1_7 x1_8 x1_9 x1_10 x1_11 x1_12 x1_13 x1_14 x1_15 => f7S1   (f7L1 n  m) x1_0 x1_1 x1_2 x1_3 x1_4 x1_5 x1_6 x1_7 x1_8 x1_9 x1_10 x1_11 x1_12 x1_13 x1_14 x1_15
theorem f7S1_ev (n : Nat)  (G : St → Option Lf) (x1_0 : Er) (x1_1 : Er) (x1_2 : Int) (x1_3 : Int) (x1_4 : List (List Int)) (x1_5 : List (List Int × List Int × Unit)) (x1_6 : Int) (x1_7 : Int) (x1_8 : List (List Int)) (x1_9 : List (List Int × List Int × Unit)) (x1_10 : Int) (x1_11 : Int) (x1_12 : List (List Int)) (x1_13 : List (List Int × List Int × Unit)) (x1_14 : List Int) (x1_15 : List Int) : rnd C21 f7h n Lf (codeOf f7f) [1, 1, 1, 1, 1] [] (endK C21 f7h f7f) G (f7H1 x1_0 x1_1 x1_2 x1_3 x1_4 x1_5 x1_6 x1_7 x1_8 x1_9 x1_10 x1_11 x1_12 x1_13 x1_14 x1_15) = f7S1   (f7W1 G) x1_0 x1_1 x1_2 x1_3 x1_4 x1_5 x1_6 x1_7 x1_8 x1_9 x1_10 x1_11 x1_12 x1_13 x1_14 x1_15 := by kernel_rfl
theorem f7W1_ev (n : Nat)  : ∀ m, (f7W1 (lp C21 f7h n Lf (codeOf f7f) [1, 1, 1, 1, 1] [] (endK C21 f7h f7f) m)) = f7L1 n  m := by
  intro m
  induction m with
  | zero => funext x1_0 x1_1 x1_2 x1_3 x1_4 x1_5 x1_6 x1_7 x1_8 x1_9 x1_10 x1_11 x1_12 x1_13 x1_14 x1_15; exact lp_zero _
  | succ m ih =>
    funext x1_0 x1_1 x1_2 x1_3 x1_4 x1_5 x1_6 x1_7 x1_8 x1_9 x1_10 x1_11 x1_12 x1_13 x1_14 x1_15
    show lp C21 f7h n Lf (codeOf f7f) [1, 1, 1, 1, 1] [] (endK C21 f7h f7f) (m + 1) (f7H1 x1_0 x1_1 x1_2 x1_3 x1_4 x1_5 x1_6 x1_7 x1_8 x1_9 x1_10 x1_11 x1_12 x1_13 x1_14 x1_15) = f7S1   (f7L1 n  m) x1_0 x1_1 x1_2 x1_3 x1_4 x1_5 x1_6 x1_7 x1_8 x1_9 x1_10 x1_11 x1_12 x1_13 x1_14 x1_15
    rw [lp_succ, f7S1_ev, ih]
noncomputable def f7S0 (l1 : f7G1) (g0 : f7G0) (x0_0 : Er) (x0_1 : Int) (x0_2 : Int) (x0_3 : List (List Int)) (x0_4 : List (List Int × List Int × Unit)) (x0_5 : Int) (x0_6 : Int) (x0_7 : List (List Int)) (x0_8 : List (List Int × List Int × Unit)) (x0_9 : List Int) (x0_10 : List Int) : Option Lf :=
 bif drG x0_7 x0_8 then
  bif drOk x0_5 x0_6 x0_7 x0_8 then
   l1 (x0_0 : Er) (Er.nil : Er) (x0_1 : Int) (x0_2 : Int) (x0_3 : List (List Int)) (x0_4 : List (List Int × List Int × Unit)) (x0_5 : Int) (x0_6 : Int) (x0_7 : List (List Int)) (x0_8 : List (List Int × List Int × Unit)) (x0_5 : Int) (0 : Int) ((trimO x0_6 x0_7).snd : List (List Int)) (keepP (trimO x0_6 x0_7).fst x0_8 : List (List Int × List Int × Unit)) (x0_9 : List Int) (x0_10 : List Int)
  else
   l1 (x0_0 : Er) (Er.no 1 : Er) (x0_1 : Int) (x0_2 : Int) (x0_3 : List (List Int)) (x0_4 : List (List Int × List Int × Unit)) (x0_5 : Int) (x0_6 : Int) (x0_7 : List (List Int)) (x0_8 : List (List Int × List Int × Unit)) (0 : Int) (0 : Int) ([] : List (List Int)) ([] : List (List Int × List Int × Unit)) (x0_9 : List Int) (x0_10 : List Int)
 else
  none
noncomputable def f7L0 (n : Nat)  : Nat → f7G0
  | 0 => fun _ _ _ _ _ _ _ _ _ _ _ => none
  | m + 1 => fun x0_0 x0_1 x0_2 x0_3 x0_4 x0_5 x0_6 x0_7 x0_8 x0_9 x0_10 => f7S0 (f7L1 n  n)  (f7L0 n  m) x0_0 x0_1 x0_2 x0_3 x0_4 x0_5 x0_6 x0_7 x0_8 x0_9 x0_10
theorem f7S0_ev (n : Nat)  (G : St → Option Lf) (x0_0 : Er) (x0_1 : Int) (x0_2 : Int) (x0_3 : List (List Int)) (x0_4 : List (List Int × List Int × Unit)) (x0_5 : Int) (x0_6 : Int) (x0_7 : List (List Int)) (x0_8 : List (List Int × List Int × Unit)) (x0_9 : List Int) (x0_10 : List Int) : rnd C21 f7h n Lf (codeOf f7f) [1, 1, 1, 1] [] (endK C21 f7h f7f) G (f7H0 x0_0 x0_1 x0_2 x0_3 x0_4 x0_5 x0_6 x0_7 x0_8 x0_9 x0_10) = f7S0 (f7W1 (lp C21 f7h n Lf (codeOf f7f) [1, 1, 1, 1, 1] [] (endK C21 f7h f7f) n))  (f7W0 G) x0_0 x0_1 x0_2 x0_3 x0_4 x0_5 x0_6 x0_7 x0_8 x0_9 x0_10 := by kernel_rfl
theorem f7W0_ev (n : Nat)  : ∀ m, (f7W0 (lp C21 f7h n Lf (codeOf f7f) [1, 1, 1, 1] [] (endK C21 f7h f7f) m)) = f7L0 n  m := by
  intro m
  induction m with
  | zero => funext x0_0 x0_1 x0_2 x0_3 x0_4 x0_5 x0_6 x0_7 x0_8 x0_9 x0_10; exact lp_zero _
  | succ m ih =>
    have e1 : (f7W1 (lp C21 f7h n Lf (codeOf f7f) [1, 1, 1, 1, 1] [] (endK C21 f7h f7f) n)) = (f7L1 n  n) := by
      rw [f7W1_ev]
    funext x0_0 x0_1 x0_2 x0_3 x0_4 x0_5 x0_6 x0_7 x0_8 x0_9 x0_10
    show lp C21 f7h n Lf (codeOf f7f) [1, 1, 1, 1] [] (endK C21 f7h f7f) (m + 1) (f7H0 x0_0 x0_1 x0_2 x0_3 x0_4 x0_5 x0_6 x0_7 x0_8 x0_9 x0_10) = f7S0 (f7L1 n  n)  (f7L0 n  m) x0_0 x0_1 x0_2 x0_3 x0_4 x0_5 x0_6 x0_7 x0_8 x0_9 x0_10
    rw [lp_succ, f7S0_ev, ih, e1]
noncomputable def f7T (l0 : f7G0) (p : Int) (i : Int) (nx : List (List Int)) (ps : List (List Int × List Int × Unit)) (s : List Int) (l : List Int) : Option Lf :=
 bif farF nx ps || drG nx ps && true then
  bif farF nx ps || !drOk p i nx ps then
   some (Lf.mk [(Pt.one (L.d (Pv.fz true) Sh.b (true : Bool)))] [] [])
  else
   bif decide (0 ≤ p) && decide (p ≤ 6) && (u8 s && u8 l) then
    bif ofG nx ps then
     bif drG nx ps then
      bif drOk p i nx ps then
       l0 (Er.nil : Er) (p : Int) (i : Int) (nx : List (List Int)) (ps : List (List Int × List Int × Unit)) (p : Int) (0 : Int) ((trimO i nx).snd : List (List Int)) (keepP (trimO i nx).fst ps : List (List Int × List Int × Unit)) (lettersF p s : List Int) (loopF p l : List Int)
      else
       l0 (Er.no 1 : Er) (p : Int) (i : Int) (nx : List (List Int)) (ps : List (List Int × List Int × Unit)) (0 : Int) (0 : Int) ([] : List (List Int)) ([] : List (List Int × List Int × Unit)) (lettersF p s : List Int) (loopF p l : List Int)
     else
      none
    else
     none
   else
    none
 else
  none
noncomputable def f7M (n : Nat) (p : Int) (i : Int) (nx : List (List Int)) (ps : List (List Int × List Int × Unit)) (s : List Int) (l : List Int) : Option Lf := f7T (f7L0 n n) p i nx ps s l
theorem f7T_ev (n : Nat) (p : Int) (i : Int) (nx : List (List Int)) (ps : List (List Int × List Int × Unit)) (s : List Int) (l : List Int) : evF C21 f7h n f7f [(D.p (Pt.agg [(L.d (Pv.fz true) (Sh.i IntKind.i64) p), (L.d (Pv.fz true) (Sh.i IntKind.i64) i), (L.d (Pv.fz false) (Sh.l (Sh.l (Sh.i IntKind.i64))) nx), (L.d (Pv.fz false) (Sh.l (Sh.p (Sh.l (Sh.i IntKind.i64)) (Sh.p (Sh.l (Sh.i IntKind.i64)) Sh.u))) ps)])), (D.p (Pt.one (L.d (Pv.fz false) (Sh.l (Sh.i IntKind.u8)) s))), (D.p (Pt.one (L.d (Pv.fz false) (Sh.l (Sh.i IntKind.u8)) l)))] [] = f7T (f7W0 (lp C21 f7h n Lf (codeOf f7f) [1, 1, 1, 1] [] (endK C21 f7h f7f) n)) p i nx ps s l := by kernel_rfl
theorem f7_ev (n : Nat) (p : Int) (i : Int) (nx : List (List Int)) (ps : List (List Int × List Int × Unit)) (s : List Int) (l : List Int) : evF C21 f7h n f7f [(D.p (Pt.agg [(L.d (Pv.fz true) (Sh.i IntKind.i64) p), (L.d (Pv.fz true) (Sh.i IntKind.i64) i), (L.d (Pv.fz false) (Sh.l (Sh.l (Sh.i IntKind.i64))) nx), (L.d (Pv.fz false) (Sh.l (Sh.p (Sh.l (Sh.i IntKind.i64)) (Sh.p (Sh.l (Sh.i IntKind.i64)) Sh.u))) ps)])), (D.p (Pt.one (L.d (Pv.fz false) (Sh.l (Sh.i IntKind.u8)) s))), (D.p (Pt.one (L.d (Pv.fz false) (Sh.l (Sh.i IntKind.u8)) l)))] [] = f7M n p i nx ps s l := by
  rw [f7T_ev, f7W0_ev]
  rfl
end Go.S18
