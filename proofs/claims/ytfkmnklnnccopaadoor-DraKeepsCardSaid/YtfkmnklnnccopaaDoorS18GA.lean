/-
  Seat 18: functional forms: DraTrims
-/
import Derived.Test.YtfkmnklnnccopaaDoorS18ZF
open Go Go.En Go.S18
namespace Go.S18
noncomputable def l20 : List (Nat × En.Spec) := (8, aliveS) :: (9, farS) :: (10, ofS) :: (12, rightS) :: (13, numS) :: (22, trimS) :: (23, sameS) :: (24, toS) :: (25, rtrimS) :: []
noncomputable def C20 : Ctx := ctxOf C0 l20
def h6 : Hn := ⟨fun | 10006 => [1, 3, 4] | _ => [], fun | 10006 => [⟨3, some 1000, 0, .z⟩] | _ => [], fun | 5 => true | _ => false⟩

abbrev f6h : Hn := h6
noncomputable abbrev f6f : Func := fn 6
abbrev f6G0 := Er → Int → Int → (List (List Int)) → (List (List Int × List Int × Unit)) → Int → Int → (List (List Int)) → (List (List Int × List Int × Unit)) → Option Lf
noncomputable def f6H0 (x0_0 : Er) (x0_1 : Int) (x0_2 : Int) (x0_3 : List (List Int)) (x0_4 : List (List Int × List Int × Unit)) (x0_5 : Int) (x0_6 : Int) (x0_7 : List (List Int)) (x0_8 : List (List Int × List Int × Unit)) : St := (St.mk [dead, (D.p (Pt.one (L.pv (Id.mk 1 0) 0))), dead, (D.p (Pt.one (L.pv (Id.mk 1 1) 0))), (D.p (Pt.one (L.d (Pv.fz true) Sh.e x0_0))), dead, dead, dead, dead, dead, dead, dead, dead, dead, dead, dead, dead, dead, dead, dead, dead, dead, dead, dead, dead, dead, dead, dead, dead, dead, dead, dead, dead, dead, dead, dead] [[], [(Ob.va [(L.d (Pv.fz true) (Sh.i IntKind.i64) x0_1), (L.d (Pv.fz true) (Sh.i IntKind.i64) x0_2), (L.d (Pv.fz false) (Sh.l (Sh.l (Sh.i IntKind.i64))) x0_3), (L.d (Pv.fz false) (Sh.l (Sh.p (Sh.l (Sh.i IntKind.i64)) (Sh.p (Sh.l (Sh.i IntKind.i64)) Sh.u))) x0_4)]), (Ob.va [(L.d (Pv.fz true) (Sh.i IntKind.i64) x0_5), (L.d (Pv.fz true) (Sh.i IntKind.i64) x0_6), (L.d (Pv.fz true) (Sh.l (Sh.l (Sh.i IntKind.i64))) x0_7), (L.d (Pv.fz true) (Sh.l (Sh.p (Sh.l (Sh.i IntKind.i64)) (Sh.p (Sh.l (Sh.i IntKind.i64)) Sh.u))) x0_8)])]])
noncomputable def f6W0 (G : St → Option Lf) : f6G0 := fun x0_0 x0_1 x0_2 x0_3 x0_4 x0_5 x0_6 x0_7 x0_8 => G (f6H0 x0_0 x0_1 x0_2 x0_3 x0_4 x0_5 x0_6 x0_7 x0_8)
noncomputable def f6S0  (g0 : f6G0) (x0_0 : Er) (x0_1 : Int) (x0_2 : Int) (x0_3 : List (List Int)) (x0_4 : List (List Int × List Int × Unit)) (x0_5 : Int) (x0_6 : Int) (x0_7 : List (List Int)) (x0_8 : List (List Int × List Int × Unit)) : Option Lf :=
 bif drG x0_3 x0_4 then
  bif !drOk x0_1 x0_2 x0_3 x0_4 then
   bif plain x0_0 && (numOf x0_0 == 1 || true) then
    some (Lf.mk [(Pt.one (L.d (Pv.fz true) Sh.b (numOf x0_0 == 1 && zn x0_7.length == 0 : Bool)))] [] [])
   else
    none
  else
   bif bif x0_0.isNil then m6 x0_8.length && (drOk x0_1 x0_2 x0_3 x0_4 && (Nat.beq 1 1 && (Nat.beq 1 1 && (Nat.beq 1 1 && (sameG x0_5 x0_6 x0_7 x0_8 x0_1 0 (trimO x0_2 x0_3).snd (keepR (trimO x0_2 x0_3).fst x0_4) && true))))) else true then
    some (Lf.mk [(Pt.one (L.d (Pv.fz true) Sh.b (x0_0.isNil && true : Bool)))] [] [])
   else
    none
 else
  none
noncomputable def f6L0 (n : Nat)  : Nat → f6G0
  | 0 => fun _ _ _ _ _ _ _ _ _ => none
  | m + 1 => fun x0_0 x0_1 x0_2 x0_3 x0_4 x0_5 x0_6 x0_7 x0_8 => f6S0   (f6L0 n  m) x0_0 x0_1 x0_2 x0_3 x0_4 x0_5 x0_6 x0_7 x0_8
theorem f6S0_ev (n : Nat)  (G : St → Option Lf) (x0_0 : Er) (x0_1 : Int) (x0_2 : Int) (x0_3 : List (List Int)) (x0_4 : List (List Int × List Int × Unit)) (x0_5 : Int) (x0_6 : Int) (x0_7 : List (List Int)) (x0_8 : List (List Int × List Int × Unit)) : rnd C20 f6h n Lf (codeOf f6f) [1, 1, 1] [] (endK C20 f6h f6f) G (f6H0 x0_0 x0_1 x0_2 x0_3 x0_4 x0_5 x0_6 x0_7 x0_8) = f6S0   (f6W0 G) x0_0 x0_1 x0_2 x0_3 x0_4 x0_5 x0_6 x0_7 x0_8 := by kernel_rfl
theorem f6W0_ev (n : Nat)  : ∀ m, (f6W0 (lp C20 f6h n Lf (codeOf f6f) [1, 1, 1] [] (endK C20 f6h f6f) m)) = f6L0 n  m := by
  intro m
  induction m with
  | zero => funext x0_0 x0_1 x0_2 x0_3 x0_4 x0_5 x0_6 x0_7 x0_8; exact lp_zero _
  | succ m ih =>
    funext x0_0 x0_1 x0_2 x0_3 x0_4 x0_5 x0_6 x0_7 x0_8
    show lp C20 f6h n Lf (codeOf f6f) [1, 1, 1] [] (endK C20 f6h f6f) (m + 1) (f6H0 x0_0 x0_1 x0_2 x0_3 x0_4 x0_5 x0_6 x0_7 x0_8) = f6S0   (f6L0 n  m) x0_0 x0_1 x0_2 x0_3 x0_4 x0_5 x0_6 x0_7 x0_8
    rw [lp_succ, f6S0_ev, ih]
noncomputable def f6T (l0 : f6G0) (p : Int) (i : Int) (nx : List (List Int)) (ps : List (List Int × List Int × Unit)) : Option Lf :=
 bif farF nx ps then
  some (Lf.mk [(Pt.one (L.d (Pv.fz true) Sh.b (true : Bool)))] [] [])
 else
  bif ofG nx ps then
   bif drG nx ps then
    bif drOk p i nx ps then
     l0 (Er.nil : Er) (p : Int) (i : Int) (nx : List (List Int)) (ps : List (List Int × List Int × Unit)) (p : Int) (0 : Int) ((trimO i nx).snd : List (List Int)) (keepP (trimO i nx).fst ps : List (List Int × List Int × Unit))
    else
     l0 (Er.no 1 : Er) (p : Int) (i : Int) (nx : List (List Int)) (ps : List (List Int × List Int × Unit)) (0 : Int) (0 : Int) ([] : List (List Int)) ([] : List (List Int × List Int × Unit))
   else
    none
  else
   none
noncomputable def f6M (n : Nat) (p : Int) (i : Int) (nx : List (List Int)) (ps : List (List Int × List Int × Unit)) : Option Lf := f6T (f6L0 n n) p i nx ps
theorem f6T_ev (n : Nat) (p : Int) (i : Int) (nx : List (List Int)) (ps : List (List Int × List Int × Unit)) : evF C20 f6h n f6f [(D.p (Pt.agg [(L.d (Pv.fz true) (Sh.i IntKind.i64) p), (L.d (Pv.fz true) (Sh.i IntKind.i64) i), (L.d (Pv.fz false) (Sh.l (Sh.l (Sh.i IntKind.i64))) nx), (L.d (Pv.fz false) (Sh.l (Sh.p (Sh.l (Sh.i IntKind.i64)) (Sh.p (Sh.l (Sh.i IntKind.i64)) Sh.u))) ps)]))] [] = f6T (f6W0 (lp C20 f6h n Lf (codeOf f6f) [1, 1, 1] [] (endK C20 f6h f6f) n)) p i nx ps := by kernel_rfl
theorem f6_ev (n : Nat) (p : Int) (i : Int) (nx : List (List Int)) (ps : List (List Int × List Int × Unit)) : evF C20 f6h n f6f [(D.p (Pt.agg [(L.d (Pv.fz true) (Sh.i IntKind.i64) p), (L.d (Pv.fz true) (Sh.i IntKind.i64) i), (L.d (Pv.fz false) (Sh.l (Sh.l (Sh.i IntKind.i64))) nx), (L.d (Pv.fz false) (Sh.l (Sh.p (Sh.l (Sh.i IntKind.i64)) (Sh.p (Sh.l (Sh.i IntKind.i64)) Sh.u))) ps)]))] [] = f6M n p i nx ps := by
  rw [f6T_ev, f6W0_ev]
  rfl
end Go.S18
