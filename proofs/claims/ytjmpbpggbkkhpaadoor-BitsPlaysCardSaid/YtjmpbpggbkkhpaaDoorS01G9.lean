/-
  Seat 01: functional form of BitsNext.
-/
import Derived.Test.YtjmpbpggbkkhpaaDoorS01L
open Go Go.En Go.S1
namespace Go.S1
noncomputable def l9 : List (Nat × En.Spec) := (8, aliveS) :: (13, joinS) :: (14, hasLS) :: l4
noncomputable def C9 : Ctx := ctxOf C0 l9
def h3 : Hn := ⟨fun | 10 => [0, 2, 3, 9, 11, 13] | 14 => [0, 3, 9, 11, 14] | 20 => [0, 9, 11, 15, 16, 17] | 28 => [0, 9, 11, 16, 20] | _ => [], fun _ => [], fun r => r.beq 5 || r.beq 6⟩
def d8 (v : Int) : D := one (.d (.fz true) (.i .u8) v)
def d8l (v : List Int) : D := one (.d (.fz false) (.l (.i .u8)) v)

abbrev f3h : Hn := h3
noncomputable abbrev f3f : Func := fn 3
abbrev f3G0 := Int → (List Int) → (List Int) → Int → Int → Int → (List Int) → (List Int) → Option Lf
noncomputable def f3H0 (x0_0 : Int) (x0_1 : List Int) (x0_2 : List Int) (x0_3 : Int) (x0_4 : Int) (x0_5 : Int) (x0_6 : List Int) (x0_7 : List Int) : St := (St.mk [(D.p (Pt.one (L.d (Pv.fz true) (Sh.i IntKind.u8) x0_0))), dead, (D.p (Pt.one (L.d (Pv.fz false) (Sh.l (Sh.i IntKind.u8)) x0_1))), (D.p (Pt.one (L.d (Pv.fz false) (Sh.l (Sh.i IntKind.u8)) x0_2))), dead, dead, dead, dead, dead, (D.p (Pt.one (L.pv (Id.mk 1 0) 0))), dead, (D.p (Pt.one (L.pv (Id.mk 1 1) 0))), dead, (D.p (Pt.one (L.d (Pv.fz true) (Sh.i IntKind.i64) x0_3))), dead, dead, dead, dead, dead, dead, dead, dead, dead, dead, dead, dead, dead, dead, dead, dead, dead, dead, dead, dead, dead, dead, dead, dead, dead, dead, dead, dead, dead, dead, dead, dead, dead, dead, dead, dead, dead, dead, dead, dead, dead, dead, dead, dead, dead, dead, dead, dead, dead, dead, dead, dead, dead, dead, dead, dead, dead, dead, dead, dead, dead, dead, dead, dead, dead, dead, dead, dead, dead, dead, dead, dead, dead, dead, dead, dead, dead, dead, dead, dead, dead, dead, dead, dead, dead, dead, dead, dead, dead, dead, dead, dead, dead, dead, dead, dead, dead, dead, dead, dead, dead, dead, dead, dead, dead, dead, dead, dead, dead, dead, dead, dead, dead, dead, dead, dead, dead, dead, dead, dead, dead, dead, dead, dead, dead, dead] [[], [(Ob.va [(L.d (Pv.fz true) (Sh.i IntKind.i64) x0_4), (L.rw (Id.mk 1 2))]), (Ob.va [(L.d (Pv.fz true) (Sh.i IntKind.i64) x0_5), (L.rw (Id.mk 1 3))]), (Ob.ro true 0 60 (Sh.i IntKind.u64) Ow.z x0_6 Option.none), (Ob.ro true 0 60 (Sh.i IntKind.u64) Ow.z x0_7 Option.none)]])
noncomputable def f3W0 (G : St → Option Lf) : f3G0 := fun x0_0 x0_1 x0_2 x0_3 x0_4 x0_5 x0_6 x0_7 => G (f3H0 x0_0 x0_1 x0_2 x0_3 x0_4 x0_5 x0_6 x0_7)
abbrev f3G1 := Int → (List Int) → Int → Int → Int → (List Int) → (List Int) → Option Lf
noncomputable def f3H1 (x1_0 : Int) (x1_1 : List Int) (x1_2 : Int) (x1_3 : Int) (x1_4 : Int) (x1_5 : List Int) (x1_6 : List Int) : St := (St.mk [(D.p (Pt.one (L.d (Pv.fz true) (Sh.i IntKind.u8) x1_0))), dead, dead, (D.p (Pt.one (L.d (Pv.fz false) (Sh.l (Sh.i IntKind.u8)) x1_1))), dead, dead, dead, dead, dead, (D.p (Pt.one (L.pv (Id.mk 1 0) 0))), dead, (D.p (Pt.one (L.pv (Id.mk 1 1) 0))), dead, dead, (D.p (Pt.one (L.d (Pv.fz true) (Sh.i IntKind.i64) x1_2))), dead, dead, dead, dead, dead, dead, dead, dead, dead, dead, dead, dead, dead, dead, dead, dead, dead, dead, dead, dead, dead, dead, dead, dead, dead, dead, dead, dead, dead, dead, dead, dead, dead, dead, dead, dead, dead, dead, dead, dead, dead, dead, dead, dead, dead, dead, dead, dead, dead, dead, dead, dead, dead, dead, dead, dead, dead, dead, dead, dead, dead, dead, dead, dead, dead, dead, dead, dead, dead, dead, dead, dead, dead, dead, dead, dead, dead, dead, dead, dead, dead, dead, dead, dead, dead, dead, dead, dead, dead, dead, dead, dead, dead, dead, dead, dead, dead, dead, dead, dead, dead, dead, dead, dead, dead, dead, dead, dead, dead, dead, dead, dead, dead, dead, dead, dead, dead, dead, dead, dead, dead, dead, dead, dead, dead] [[], [(Ob.va [(L.d (Pv.fz true) (Sh.i IntKind.i64) x1_3), (L.rw (Id.mk 1 2))]), (Ob.va [(L.d (Pv.fz true) (Sh.i IntKind.i64) x1_4), (L.rw (Id.mk 1 3))]), (Ob.ro true 0 60 (Sh.i IntKind.u64) Ow.z x1_5 Option.none), (Ob.ro true 0 60 (Sh.i IntKind.u64) Ow.z x1_6 Option.none)]])
noncomputable def f3W1 (G : St → Option Lf) : f3G1 := fun x1_0 x1_1 x1_2 x1_3 x1_4 x1_5 x1_6 => G (f3H1 x1_0 x1_1 x1_2 x1_3 x1_4 x1_5 x1_6)
abbrev f3G2 := Int → Int → Int → Int → Int → (List Int) → (List Int) → (List Int) → Option Lf
noncomputable def f3H2 (x2_0 : Int) (x2_1 : Int) (x2_2 : Int) (x2_3 : Int) (x2_4 : Int) (x2_5 : List Int) (x2_6 : List Int) (x2_7 : List Int) : St := (St.mk [(D.p (Pt.one (L.d (Pv.fz true) (Sh.i IntKind.u8) x2_0))), dead, dead, dead, dead, dead, dead, dead, dead, (D.p (Pt.one (L.pv (Id.mk 1 0) 0))), dead, (D.p (Pt.one (L.pv (Id.mk 1 1) 0))), dead, dead, dead, (D.p (Pt.one (L.d (Pv.fz true) (Sh.i IntKind.i64) x2_1))), (D.p (Pt.one (L.rw (Id.mk 1 2)))), (D.p (Pt.one (L.d (Pv.fz true) (Sh.i IntKind.i64) x2_2))), dead, dead, dead, dead, dead, dead, dead, dead, dead, dead, dead, dead, dead, dead, dead, dead, dead, dead, dead, dead, dead, dead, dead, dead, dead, dead, dead, dead, dead, dead, dead, dead, dead, dead, dead, dead, dead, dead, dead, dead, dead, dead, dead, dead, dead, dead, dead, dead, dead, dead, dead, dead, dead, dead, dead, dead, dead, dead, dead, dead, dead, dead, dead, dead, dead, dead, dead, dead, dead, dead, dead, dead, dead, dead, dead, dead, dead, dead, dead, dead, dead, dead, dead, dead, dead, dead, dead, dead, dead, dead, dead, dead, dead, dead, dead, dead, dead, dead, dead, dead, dead, dead, dead, dead, dead, dead, dead, dead, dead, dead, dead, dead, dead, dead, dead, dead, dead, dead, dead, dead, dead, dead] [[], [(Ob.va [(L.d (Pv.fz true) (Sh.i IntKind.i64) x2_3), (L.rw (Id.mk 1 3))]), (Ob.va [(L.d (Pv.fz true) (Sh.i IntKind.i64) x2_4), (L.rw (Id.mk 1 4))]), (Ob.ro true 0 3 (Sh.i IntKind.i64) Ow.z x2_5 Option.none), (Ob.ro true 0 60 (Sh.i IntKind.u64) Ow.z x2_6 Option.none), (Ob.ro true 0 60 (Sh.i IntKind.u64) Ow.z x2_7 Option.none)]])
noncomputable def f3W2 (G : St → Option Lf) : f3G2 := fun x2_0 x2_1 x2_2 x2_3 x2_4 x2_5 x2_6 x2_7 => G (f3H2 x2_0 x2_1 x2_2 x2_3 x2_4 x2_5 x2_6 x2_7)
abbrev f3G3 := Int → Int → Int → Int → (List Int) → (List Int) → (List Int) → Option Lf
noncomputable def f3H3 (x3_0 : Int) (x3_1 : Int) (x3_2 : Int) (x3_3 : Int) (x3_4 : List Int) (x3_5 : List Int) (x3_6 : List Int) : St := (St.mk [(D.p (Pt.one (L.d (Pv.fz true) (Sh.i IntKind.u8) x3_0))), dead, dead, dead, dead, dead, dead, dead, dead, (D.p (Pt.one (L.pv (Id.mk 1 0) 0))), dead, (D.p (Pt.one (L.pv (Id.mk 1 1) 0))), dead, dead, dead, dead, (D.p (Pt.one (L.rw (Id.mk 1 2)))), dead, dead, dead, (D.p (Pt.one (L.d (Pv.fz true) (Sh.i IntKind.i64) x3_1))), dead, dead, dead, dead, dead, dead, dead, dead, dead, dead, dead, dead, dead, dead, dead, dead, dead, dead, dead, dead, dead, dead, dead, dead, dead, dead, dead, dead, dead, dead, dead, dead, dead, dead, dead, dead, dead, dead, dead, dead, dead, dead, dead, dead, dead, dead, dead, dead, dead, dead, dead, dead, dead, dead, dead, dead, dead, dead, dead, dead, dead, dead, dead, dead, dead, dead, dead, dead, dead, dead, dead, dead, dead, dead, dead, dead, dead, dead, dead, dead, dead, dead, dead, dead, dead, dead, dead, dead, dead, dead, dead, dead, dead, dead, dead, dead, dead, dead, dead, dead, dead, dead, dead, dead, dead, dead, dead, dead, dead, dead, dead, dead, dead, dead, dead, dead, dead, dead, dead] [[], [(Ob.va [(L.d (Pv.fz true) (Sh.i IntKind.i64) x3_2), (L.rw (Id.mk 1 3))]), (Ob.va [(L.d (Pv.fz true) (Sh.i IntKind.i64) x3_3), (L.rw (Id.mk 1 4))]), (Ob.ro true 0 3 (Sh.i IntKind.i64) Ow.z x3_4 Option.none), (Ob.ro true 0 60 (Sh.i IntKind.u64) Ow.z x3_5 Option.none), (Ob.ro true 0 60 (Sh.i IntKind.u64) Ow.z x3_6 Option.none)]])
noncomputable def f3W3 (G : St → Option Lf) : f3G3 := fun x3_0 x3_1 x3_2 x3_3 x3_4 x3_5 x3_6 => G (f3H3 x3_0 x3_1 x3_2 x3_3 x3_4 x3_5 x3_6)
noncomputable def f3S3  (g3 : f3G3) (x3_0 : Int) (x3_1 : Int) (x3_2 : Int) (x3_3 : Int) (x3_4 : List Int) (x3_5 : List Int) (x3_6 : List Int) : Option Lf :=
 bif decide (x3_1 < 256) then
  bif decide (x3_1 < IntKind.i64.wrap x3_0) then
   bif x3_4.length.ble 9223372036854775806 then
    bif hasL x3_4 x3_1 then
     bif okS x3_2 x3_5 then
      bif !hasF x3_2 x3_5 x3_1 == true then
       some (Lf.mk [(Pt.one (L.d (Pv.fz true) Sh.b (false : Bool)))] [] [])
      else
       g3 (x3_0 : Int) (IntKind.i64.wrap (x3_1 + 1) : Int) (x3_2 : Int) (x3_3 : Int) (x3_4 : List Int) (x3_5 : List Int) (x3_6 : List Int)
     else
      none
    else
     bif okS x3_3 x3_6 then
      bif okS x3_2 x3_5 then
       bif !hasF x3_2 x3_5 x3_1 == hasF x3_3 x3_6 x3_1 then
        some (Lf.mk [(Pt.one (L.d (Pv.fz true) Sh.b (false : Bool)))] [] [])
       else
        g3 (x3_0 : Int) (IntKind.i64.wrap (x3_1 + 1) : Int) (x3_2 : Int) (x3_3 : Int) (x3_4 : List Int) (x3_5 : List Int) (x3_6 : List Int)
      else
       none
     else
      none
   else
    none
  else
   bif okS x3_2 x3_5 then
    bif !hasF x3_2 x3_5 x3_1 == false then
     some (Lf.mk [(Pt.one (L.d (Pv.fz true) Sh.b (false : Bool)))] [] [])
    else
     g3 (x3_0 : Int) (IntKind.i64.wrap (x3_1 + 1) : Int) (x3_2 : Int) (x3_3 : Int) (x3_4 : List Int) (x3_5 : List Int) (x3_6 : List Int)
   else
    none
 else
  some (Lf.mk [(Pt.one (L.d (Pv.fz true) Sh.b (x3_2 == IntKind.i64.wrap x3_0 : Bool)))] [] [])
noncomputable def f3L3 (n : Nat)  : Nat → f3G3
  | 0 => fun _ _ _ _ _ _ _ => none
  | m + 1 => fun x3_0 x3_1 x3_2 x3_3 x3_4 x3_5 x3_6 => f3S3   (f3L3 n  m) x3_0 x3_1 x3_2 x3_3 x3_4 x3_5 x3_6
theorem f3S3_ev (n : Nat)  (G : St → Option Lf) (x3_0 : Int) (x3_1 : Int) (x3_2 : Int) (x3_3 : Int) (x3_4 : List Int) (x3_5 : List Int) (x3_6 : List Int) : rnd C9 f3h n Lf (codeOf f3f) [1, 1, 1, 1, 1, 1, 1, 1, 1, 1, 1, 1, 0, 1, 0] [] (endK C9 f3h f3f) G (f3H3 x3_0 x3_1 x3_2 x3_3 x3_4 x3_5 x3_6) = f3S3   (f3W3 G) x3_0 x3_1 x3_2 x3_3 x3_4 x3_5 x3_6 := by kernel_rfl
theorem f3W3_ev (n : Nat)  : ∀ m, (f3W3 (lp C9 f3h n Lf (codeOf f3f) [1, 1, 1, 1, 1, 1, 1, 1, 1, 1, 1, 1, 0, 1, 0] [] (endK C9 f3h f3f) m)) = f3L3 n  m := by
  intro m
  induction m with
  | zero => funext x3_0 x3_1 x3_2 x3_3 x3_4 x3_5 x3_6; exact lp_zero _
  | succ m ih =>
    funext x3_0 x3_1 x3_2 x3_3 x3_4 x3_5 x3_6
    show lp C9 f3h n Lf (codeOf f3f) [1, 1, 1, 1, 1, 1, 1, 1, 1, 1, 1, 1, 0, 1, 0] [] (endK C9 f3h f3f) (m + 1) (f3H3 x3_0 x3_1 x3_2 x3_3 x3_4 x3_5 x3_6) = f3S3   (f3L3 n  m) x3_0 x3_1 x3_2 x3_3 x3_4 x3_5 x3_6
    rw [lp_succ, f3S3_ev, ih]
noncomputable def f3S2 (l3 : f3G3) (g2 : f3G2) (x2_0 : Int) (x2_1 : Int) (x2_2 : Int) (x2_3 : Int) (x2_4 : Int) (x2_5 : List Int) (x2_6 : List Int) (x2_7 : List Int) : Option Lf :=
 bif decide (x2_2 ≤ zn x2_5.length) then
  bif okS x2_3 x2_6 then
   bif !(nextF x2_3 x2_6 x2_1).snd == decide (x2_2 < zn x2_5.length) || bif (nextF x2_3 x2_6 x2_1).snd then Nat.beq 1 1 && (inb x2_2 x2_5.length && true) else true then
    bif !(nextF x2_3 x2_6 x2_1).snd == decide (x2_2 < zn x2_5.length) || (nextF x2_3 x2_6 x2_1).snd && (nextF x2_3 x2_6 x2_1).fst != x2_5.getD x2_2.toNat 0 then
     some (Lf.mk [(Pt.one (L.d (Pv.fz true) Sh.b (false : Bool)))] [] [])
    else
     g2 (x2_0 : Int) (IntKind.i64.wrap ((nextF x2_3 x2_6 x2_1).fst + 1) : Int) (IntKind.i64.wrap (x2_2 + 1) : Int) (x2_3 : Int) (x2_4 : Int) (x2_5 : List Int) (x2_6 : List Int) (x2_7 : List Int)
   else
    none
  else
   none
 else
  bif okS x2_3 x2_6 then
   l3 (x2_0 : Int) (0 : Int) (x2_3 : Int) (x2_4 : Int) (x2_5 : List Int) (turnW BinOp.or x2_3 x2_6 x2_7 : List Int) (x2_7 : List Int)
  else
   none
noncomputable def f3L2 (n : Nat)  : Nat → f3G2
  | 0 => fun _ _ _ _ _ _ _ _ => none
  | m + 1 => fun x2_0 x2_1 x2_2 x2_3 x2_4 x2_5 x2_6 x2_7 => f3S2 (f3L3 n  n)  (f3L2 n  m) x2_0 x2_1 x2_2 x2_3 x2_4 x2_5 x2_6 x2_7
theorem f3S2_ev (n : Nat)  (G : St → Option Lf) (x2_0 : Int) (x2_1 : Int) (x2_2 : Int) (x2_3 : Int) (x2_4 : Int) (x2_5 : List Int) (x2_6 : List Int) (x2_7 : List Int) : rnd C9 f3h n Lf (codeOf f3f) [1, 1, 1, 1, 1, 1, 1, 1, 1, 1, 0, 1, 0] [] (endK C9 f3h f3f) G (f3H2 x2_0 x2_1 x2_2 x2_3 x2_4 x2_5 x2_6 x2_7) = f3S2 (f3W3 (lp C9 f3h n Lf (codeOf f3f) [1, 1, 1, 1, 1, 1, 1, 1, 1, 1, 1, 1, 0, 1, 0] [] (endK C9 f3h f3f) n))  (f3W2 G) x2_0 x2_1 x2_2 x2_3 x2_4 x2_5 x2_6 x2_7 := by kernel_rfl
theorem f3W2_ev (n : Nat)  : ∀ m, (f3W2 (lp C9 f3h n Lf (codeOf f3f) [1, 1, 1, 1, 1, 1, 1, 1, 1, 1, 0, 1, 0] [] (endK C9 f3h f3f) m)) = f3L2 n  m := by
  intro m
  induction m with
  | zero => funext x2_0 x2_1 x2_2 x2_3 x2_4 x2_5 x2_6 x2_7; exact lp_zero _
  | succ m ih =>
    have e3 : (f3W3 (lp C9 f3h n Lf (codeOf f3f) [1, 1, 1, 1, 1, 1, 1, 1, 1, 1, 1, 1, 0, 1, 0] [] (endK C9 f3h f3f) n)) = (f3L3 n  n) := by
      rw [f3W3_ev]
    funext x2_0 x2_1 x2_2 x2_3 x2_4 x2_5 x2_6 x2_7
    show lp C9 f3h n Lf (codeOf f3f) [1, 1, 1, 1, 1, 1, 1, 1, 1, 1, 0, 1, 0] [] (endK C9 f3h f3f) (m + 1) (f3H2 x2_0 x2_1 x2_2 x2_3 x2_4 x2_5 x2_6 x2_7) = f3S2 (f3L3 n  n)  (f3L2 n  m) x2_0 x2_1 x2_2 x2_3 x2_4 x2_5 x2_6 x2_7
    rw [lp_succ, f3S2_ev, ih, e3]
noncomputable def f3S1 (l2 : f3G2) (g1 : f3G1) (x1_0 : Int) (x1_1 : List Int) (x1_2 : Int) (x1_3 : Int) (x1_4 : Int) (x1_5 : List Int) (x1_6 : List Int) : Option Lf :=
 bif decide (x1_2 < zn x1_1.length) then
  bif inb x1_2 x1_1.length then
   bif okS x1_4 x1_6 then
    g1 (x1_0 : Int) (x1_1 : List Int) (IntKind.i64.wrap (x1_2 + 1) : Int) (x1_3 : Int) (x1_4 : Int) (x1_5 : List Int) (addW x1_4 x1_6 (IntKind.i64.wrap (x1_1.getD x1_2.toNat 0)) : List Int)
   else
    none
  else
   none
 else
  bif okS x1_3 x1_5 then
   l2 (x1_0 : Int) (0 : Int) (0 : Int) (x1_3 : Int) (x1_4 : Int) (items x1_3 x1_5 : List Int) (x1_5 : List Int) (x1_6 : List Int)
  else
   none
noncomputable def f3L1 (n : Nat)  : Nat → f3G1
  | 0 => fun _ _ _ _ _ _ _ => none
  | m + 1 => fun x1_0 x1_1 x1_2 x1_3 x1_4 x1_5 x1_6 => f3S1 (f3L2 n  n)  (f3L1 n  m) x1_0 x1_1 x1_2 x1_3 x1_4 x1_5 x1_6
theorem f3S1_ev (n : Nat)  (G : St → Option Lf) (x1_0 : Int) (x1_1 : List Int) (x1_2 : Int) (x1_3 : Int) (x1_4 : Int) (x1_5 : List Int) (x1_6 : List Int) : rnd C9 f3h n Lf (codeOf f3f) [1, 1, 1, 1, 1, 1, 1, 0, 1, 0] [] (endK C9 f3h f3f) G (f3H1 x1_0 x1_1 x1_2 x1_3 x1_4 x1_5 x1_6) = f3S1 (f3W2 (lp C9 f3h n Lf (codeOf f3f) [1, 1, 1, 1, 1, 1, 1, 1, 1, 1, 0, 1, 0] [] (endK C9 f3h f3f) n))  (f3W1 G) x1_0 x1_1 x1_2 x1_3 x1_4 x1_5 x1_6 := by kernel_rfl
theorem f3W1_ev (n : Nat)  : ∀ m, (f3W1 (lp C9 f3h n Lf (codeOf f3f) [1, 1, 1, 1, 1, 1, 1, 0, 1, 0] [] (endK C9 f3h f3f) m)) = f3L1 n  m := by
  intro m
  induction m with
  | zero => funext x1_0 x1_1 x1_2 x1_3 x1_4 x1_5 x1_6; exact lp_zero _
  | succ m ih =>
    have e2 : (f3W2 (lp C9 f3h n Lf (codeOf f3f) [1, 1, 1, 1, 1, 1, 1, 1, 1, 1, 0, 1, 0] [] (endK C9 f3h f3f) n)) = (f3L2 n  n) := by
      rw [f3W2_ev]
    funext x1_0 x1_1 x1_2 x1_3 x1_4 x1_5 x1_6
    show lp C9 f3h n Lf (codeOf f3f) [1, 1, 1, 1, 1, 1, 1, 0, 1, 0] [] (endK C9 f3h f3f) (m + 1) (f3H1 x1_0 x1_1 x1_2 x1_3 x1_4 x1_5 x1_6) = f3S1 (f3L2 n  n)  (f3L1 n  m) x1_0 x1_1 x1_2 x1_3 x1_4 x1_5 x1_6
    rw [lp_succ, f3S1_ev, ih, e2]
noncomputable def f3S0 (l1 : f3G1) (g0 : f3G0) (x0_0 : Int) (x0_1 : List Int) (x0_2 : List Int) (x0_3 : Int) (x0_4 : Int) (x0_5 : Int) (x0_6 : List Int) (x0_7 : List Int) : Option Lf :=
 bif decide (x0_3 < zn x0_1.length) then
  bif inb x0_3 x0_1.length then
   bif okS x0_4 x0_6 then
    g0 (x0_0 : Int) (x0_1 : List Int) (x0_2 : List Int) (IntKind.i64.wrap (x0_3 + 1) : Int) (x0_4 : Int) (x0_5 : Int) (addW x0_4 x0_6 (IntKind.i64.wrap (x0_1.getD x0_3.toNat 0)) : List Int) (x0_7 : List Int)
   else
    none
  else
   none
 else
  l1 (x0_0 : Int) (x0_2 : List Int) (0 : Int) (x0_4 : Int) (x0_5 : Int) (x0_6 : List Int) (x0_7 : List Int)
noncomputable def f3L0 (n : Nat)  : Nat → f3G0
  | 0 => fun _ _ _ _ _ _ _ _ => none
  | m + 1 => fun x0_0 x0_1 x0_2 x0_3 x0_4 x0_5 x0_6 x0_7 => f3S0 (f3L1 n  n)  (f3L0 n  m) x0_0 x0_1 x0_2 x0_3 x0_4 x0_5 x0_6 x0_7
theorem f3S0_ev (n : Nat)  (G : St → Option Lf) (x0_0 : Int) (x0_1 : List Int) (x0_2 : List Int) (x0_3 : Int) (x0_4 : Int) (x0_5 : Int) (x0_6 : List Int) (x0_7 : List Int) : rnd C9 f3h n Lf (codeOf f3f) [1, 1, 1, 1, 1, 1, 0, 1, 0] [] (endK C9 f3h f3f) G (f3H0 x0_0 x0_1 x0_2 x0_3 x0_4 x0_5 x0_6 x0_7) = f3S0 (f3W1 (lp C9 f3h n Lf (codeOf f3f) [1, 1, 1, 1, 1, 1, 1, 0, 1, 0] [] (endK C9 f3h f3f) n))  (f3W0 G) x0_0 x0_1 x0_2 x0_3 x0_4 x0_5 x0_6 x0_7 := by kernel_rfl
theorem f3W0_ev (n : Nat)  : ∀ m, (f3W0 (lp C9 f3h n Lf (codeOf f3f) [1, 1, 1, 1, 1, 1, 0, 1, 0] [] (endK C9 f3h f3f) m)) = f3L0 n  m := by
  intro m
  induction m with
  | zero => funext x0_0 x0_1 x0_2 x0_3 x0_4 x0_5 x0_6 x0_7; exact lp_zero _
  | succ m ih =>
    have e1 : (f3W1 (lp C9 f3h n Lf (codeOf f3f) [1, 1, 1, 1, 1, 1, 1, 0, 1, 0] [] (endK C9 f3h f3f) n)) = (f3L1 n  n) := by
      rw [f3W1_ev]
    funext x0_0 x0_1 x0_2 x0_3 x0_4 x0_5 x0_6 x0_7
    show lp C9 f3h n Lf (codeOf f3f) [1, 1, 1, 1, 1, 1, 0, 1, 0] [] (endK C9 f3h f3f) (m + 1) (f3H0 x0_0 x0_1 x0_2 x0_3 x0_4 x0_5 x0_6 x0_7) = f3S0 (f3L1 n  n)  (f3L0 n  m) x0_0 x0_1 x0_2 x0_3 x0_4 x0_5 x0_6 x0_7
    rw [lp_succ, f3S0_ev, ih, e1]
noncomputable def f3T (l0 : f3G0) (z : Int) (y : Int) (l : List Int) (m : List Int) : Option Lf :=
 bif decide (zn l.length > 200) || decide (zn m.length > 200) then
  some (Lf.mk [(Pt.one (L.d (Pv.fz true) Sh.b (true : Bool)))] [] [])
 else
  bif decide (IntKind.i64.wrap z < 0) || decide (IntKind.i64.wrap z > 4096) then
   bif decide (IntKind.i64.wrap y < 0) || decide (IntKind.i64.wrap y > 4096) then
    some (Lf.mk [(Pt.one (L.d (Pv.fz true) Sh.b (false : Bool)))] [] [])
   else
    some (Lf.mk [(Pt.one (L.d (Pv.fz true) Sh.b (false : Bool)))] [] [])
  else
   bif decide (IntKind.i64.wrap y < 0) || decide (IntKind.i64.wrap y > 4096) then
    some (Lf.mk [(Pt.one (L.d (Pv.fz true) Sh.b (false : Bool)))] [] [])
   else
    l0 (z : Int) (l : List Int) (m : List Int) (0 : Int) (IntKind.i64.wrap z : Int) (IntKind.i64.wrap y : Int) (List.replicate (((IntKind.i64.wrap z).toNat + 63) / 64) 0 : List Int) (List.replicate (((IntKind.i64.wrap y).toNat + 63) / 64) 0 : List Int)
noncomputable def f3M (n : Nat) (z : Int) (y : Int) (l : List Int) (m : List Int) : Option Lf := f3T (f3L0 n n) z y l m
theorem f3T_ev (n : Nat) (z : Int) (y : Int) (l : List Int) (m : List Int) : evF C9 f3h n f3f [(D.p (Pt.one (L.d (Pv.fz true) (Sh.i IntKind.u8) z))), (D.p (Pt.one (L.d (Pv.fz true) (Sh.i IntKind.u8) y))), (D.p (Pt.one (L.d (Pv.fz false) (Sh.l (Sh.i IntKind.u8)) l))), (D.p (Pt.one (L.d (Pv.fz false) (Sh.l (Sh.i IntKind.u8)) m)))] [] = f3T (f3W0 (lp C9 f3h n Lf (codeOf f3f) [1, 1, 1, 1, 1, 1, 0, 1, 0] [] (endK C9 f3h f3f) n)) z y l m := by kernel_rfl
theorem f3_ev (n : Nat) (z : Int) (y : Int) (l : List Int) (m : List Int) : evF C9 f3h n f3f [(D.p (Pt.one (L.d (Pv.fz true) (Sh.i IntKind.u8) z))), (D.p (Pt.one (L.d (Pv.fz true) (Sh.i IntKind.u8) y))), (D.p (Pt.one (L.d (Pv.fz false) (Sh.l (Sh.i IntKind.u8)) l))), (D.p (Pt.one (L.d (Pv.fz false) (Sh.l (Sh.i IntKind.u8)) m)))] [] = f3M n z y l m := by
  rw [f3T_ev, f3W0_ev]
  rfl
end Go.S1
