/-
  Seat 18: Same, To, and the answer's Trim: the forms.
-/
import Derived.Test.YtfkmnklnnccopaaDoorS18ZA
open Go Go.En Go.S18
namespace Go.S18
noncomputable def C19 : Ctx := ctxOf C0 [(20, intsS), (35, hasS)]
def h23 : Hn := ⟨fun | 4 => [2, 3, 5] | 9 => [2, 3, 6] | _ => [], fun _ => [], fun _ => false⟩
def h24 : Hn := ⟨fun | 3 => [1, 2, 3, 4] | _ => [], fun | 3 => [⟨3, some 3, 53, .z⟩] | _ => [], fun _ => false⟩
def h25 : Hn := ⟨fun | 4 => [1, 2, 3, 4, 5] | 8 => [1, 2, 3, 4, 5, 6, 7] | 12 => [1, 2, 3, 4, 5, 6, 7, 8, 9] | 22 => [1, 2, 3, 4, 10] | 26 => [1, 2, 3, 4, 10, 11, 12] | _ => [], fun | 4 => [⟨4, some 2, 26, .l 3 .z⟩, ⟨4, some 3, 53, .p (.l 3 .z) (.p (.l 3 .z) .z)⟩] | 8 => [⟨6, none, 3, .z⟩] | 26 => [⟨11, some 0, 3, .z⟩, ⟨11, some 1, 3, .z⟩] | _ => [], fun _ => false⟩

abbrev f23h : Hn := h23
noncomputable abbrev f23f : Func := fn 23
abbrev f23G0 := Int → Int → Int → (List (List Int)) → (List (List Int × List Int × Unit)) → Int → Int → (List (List Int)) → (List (List Int × List Int × Unit)) → Option Lf
noncomputable def f23H0 (x0_0 : Int) (x0_1 : Int) (x0_2 : Int) (x0_3 : List (List Int)) (x0_4 : List (List Int × List Int × Unit)) (x0_5 : Int) (x0_6 : Int) (x0_7 : List (List Int)) (x0_8 : List (List Int × List Int × Unit)) : St := (St.mk [dead, dead, (D.p (Pt.one (L.pv (Id.mk 1 0) 0))), (D.p (Pt.one (L.pv (Id.mk 1 1) 0))), dead, (D.p (Pt.one (L.d (Pv.fz true) (Sh.i IntKind.i64) x0_0))), dead, dead, dead, dead, dead, dead, dead, dead, dead, dead, dead, dead, dead, dead, dead, dead, dead, dead, dead, dead, dead, dead, dead, dead, dead, dead, dead, dead, dead, dead, dead, dead, dead, dead, dead, dead, dead, dead, dead, dead, dead, dead, dead, dead, dead, dead, dead, dead, dead, dead, dead, dead, dead, dead, dead, dead, dead, dead, dead, dead, dead, dead, dead, dead, dead, dead, dead, dead, dead, dead, dead, dead, dead, dead, dead, dead, dead, dead, dead, dead, dead, dead, dead, dead, dead, dead, dead] [[], [(Ob.va [(L.d (Pv.fz true) (Sh.i IntKind.i64) x0_1), (L.d (Pv.fz true) (Sh.i IntKind.i64) x0_2), (L.d (Pv.fz false) (Sh.l (Sh.l (Sh.i IntKind.i64))) x0_3), (L.d (Pv.fz false) (Sh.l (Sh.p (Sh.l (Sh.i IntKind.i64)) (Sh.p (Sh.l (Sh.i IntKind.i64)) Sh.u))) x0_4)]), (Ob.va [(L.d (Pv.fz true) (Sh.i IntKind.i64) x0_5), (L.d (Pv.fz true) (Sh.i IntKind.i64) x0_6), (L.d (Pv.fz false) (Sh.l (Sh.l (Sh.i IntKind.i64))) x0_7), (L.d (Pv.fz false) (Sh.l (Sh.p (Sh.l (Sh.i IntKind.i64)) (Sh.p (Sh.l (Sh.i IntKind.i64)) Sh.u))) x0_8)])]])
noncomputable def f23W0 (G : St → Option Lf) : f23G0 := fun x0_0 x0_1 x0_2 x0_3 x0_4 x0_5 x0_6 x0_7 x0_8 => G (f23H0 x0_0 x0_1 x0_2 x0_3 x0_4 x0_5 x0_6 x0_7 x0_8)
abbrev f23G1 := Int → Int → Int → (List (List Int)) → (List (List Int × List Int × Unit)) → Int → Int → (List (List Int)) → (List (List Int × List Int × Unit)) → Option Lf
noncomputable def f23H1 (x1_0 : Int) (x1_1 : Int) (x1_2 : Int) (x1_3 : List (List Int)) (x1_4 : List (List Int × List Int × Unit)) (x1_5 : Int) (x1_6 : Int) (x1_7 : List (List Int)) (x1_8 : List (List Int × List Int × Unit)) : St := (St.mk [dead, dead, (D.p (Pt.one (L.pv (Id.mk 1 0) 0))), (D.p (Pt.one (L.pv (Id.mk 1 1) 0))), dead, dead, (D.p (Pt.one (L.d (Pv.fz true) (Sh.i IntKind.i64) x1_0))), dead, dead, dead, dead, dead, dead, dead, dead, dead, dead, dead, dead, dead, dead, dead, dead, dead, dead, dead, dead, dead, dead, dead, dead, dead, dead, dead, dead, dead, dead, dead, dead, dead, dead, dead, dead, dead, dead, dead, dead, dead, dead, dead, dead, dead, dead, dead, dead, dead, dead, dead, dead, dead, dead, dead, dead, dead, dead, dead, dead, dead, dead, dead, dead, dead, dead, dead, dead, dead, dead, dead, dead, dead, dead, dead, dead, dead, dead, dead, dead, dead, dead, dead, dead, dead, dead] [[], [(Ob.va [(L.d (Pv.fz true) (Sh.i IntKind.i64) x1_1), (L.d (Pv.fz true) (Sh.i IntKind.i64) x1_2), (L.d (Pv.fz false) (Sh.l (Sh.l (Sh.i IntKind.i64))) x1_3), (L.d (Pv.fz false) (Sh.l (Sh.p (Sh.l (Sh.i IntKind.i64)) (Sh.p (Sh.l (Sh.i IntKind.i64)) Sh.u))) x1_4)]), (Ob.va [(L.d (Pv.fz true) (Sh.i IntKind.i64) x1_5), (L.d (Pv.fz true) (Sh.i IntKind.i64) x1_6), (L.d (Pv.fz false) (Sh.l (Sh.l (Sh.i IntKind.i64))) x1_7), (L.d (Pv.fz false) (Sh.l (Sh.p (Sh.l (Sh.i IntKind.i64)) (Sh.p (Sh.l (Sh.i IntKind.i64)) Sh.u))) x1_8)])]])
noncomputable def f23W1 (G : St → Option Lf) : f23G1 := fun x1_0 x1_1 x1_2 x1_3 x1_4 x1_5 x1_6 x1_7 x1_8 => G (f23H1 x1_0 x1_1 x1_2 x1_3 x1_4 x1_5 x1_6 x1_7 x1_8)
noncomputable def f23S1  (g1 : f23G1) (x1_0 : Int) (x1_1 : Int) (x1_2 : Int) (x1_3 : List (List Int)) (x1_4 : List (List Int × List Int × Unit)) (x1_5 : Int) (x1_6 : Int) (x1_7 : List (List Int)) (x1_8 : List (List Int × List Int × Unit)) : Option Lf :=
 bif decide (x1_0 < zn x1_4.length) then
  bif Nat.beq 1 1 && (Nat.beq 2 2 && (inb x1_0 x1_4.length && (Nat.beq 1 1 && (Nat.beq 1 1 && (Nat.beq 2 2 && (inb x1_0 x1_8.length && (Nat.beq 1 1 && (big (x1_4.getD x1_0.toNat ([], [], ())).fst.length && (!sameI (x1_4.getD x1_0.toNat ([], [], ())).fst (x1_8.getD x1_0.toNat ([], [], ())).fst || Nat.beq 1 1 && (Nat.beq 2 2 && (inb x1_0 x1_4.length && (Nat.beq 1 1 && (Nat.beq 1 1 && (Nat.beq 2 2 && (inb x1_0 x1_8.length && (Nat.beq 1 1 && (big (x1_4.getD x1_0.toNat ([], [], ())).snd.fst.length && true))))))))))))))))) then
   bif !sameI (x1_4.getD x1_0.toNat ([], [], ())).fst (x1_8.getD x1_0.toNat ([], [], ())).fst || !sameI (x1_4.getD x1_0.toNat ([], [], ())).snd.fst (x1_8.getD x1_0.toNat ([], [], ())).snd.fst then
    some (Lf.mk [(Pt.one (L.d (Pv.fz true) Sh.b (false : Bool)))] [] [])
   else
    g1 (IntKind.i64.wrap (x1_0 + 1) : Int) (x1_1 : Int) (x1_2 : Int) (x1_3 : List (List Int)) (x1_4 : List (List Int × List Int × Unit)) (x1_5 : Int) (x1_6 : Int) (x1_7 : List (List Int)) (x1_8 : List (List Int × List Int × Unit))
  else
   none
 else
  some (Lf.mk [(Pt.one (L.d (Pv.fz true) Sh.b (true : Bool)))] [] [])
noncomputable def f23L1 (n : Nat)  : Nat → f23G1
  | 0 => fun _ _ _ _ _ _ _ _ _ => none
  | m + 1 => fun x1_0 x1_1 x1_2 x1_3 x1_4 x1_5 x1_6 x1_7 x1_8 => f23S1   (f23L1 n  m) x1_0 x1_1 x1_2 x1_3 x1_4 x1_5 x1_6 x1_7 x1_8
theorem f23S1_ev (n : Nat)  (G : St → Option Lf) (x1_0 : Int) (x1_1 : Int) (x1_2 : Int) (x1_3 : List (List Int)) (x1_4 : List (List Int × List Int × Unit)) (x1_5 : Int) (x1_6 : Int) (x1_7 : List (List Int)) (x1_8 : List (List Int × List Int × Unit)) : rnd C19 f23h n Lf (codeOf f23f) [1, 1, 1, 0, 1, 0] [] (endK C19 f23h f23f) G (f23H1 x1_0 x1_1 x1_2 x1_3 x1_4 x1_5 x1_6 x1_7 x1_8) = f23S1   (f23W1 G) x1_0 x1_1 x1_2 x1_3 x1_4 x1_5 x1_6 x1_7 x1_8 := by kernel_rfl
theorem f23W1_ev (n : Nat)  : ∀ m, (f23W1 (lp C19 f23h n Lf (codeOf f23f) [1, 1, 1, 0, 1, 0] [] (endK C19 f23h f23f) m)) = f23L1 n  m := by
  intro m
  induction m with
  | zero => funext x1_0 x1_1 x1_2 x1_3 x1_4 x1_5 x1_6 x1_7 x1_8; exact lp_zero _
  | succ m ih =>
    funext x1_0 x1_1 x1_2 x1_3 x1_4 x1_5 x1_6 x1_7 x1_8
    show lp C19 f23h n Lf (codeOf f23f) [1, 1, 1, 0, 1, 0] [] (endK C19 f23h f23f) (m + 1) (f23H1 x1_0 x1_1 x1_2 x1_3 x1_4 x1_5 x1_6 x1_7 x1_8) = f23S1   (f23L1 n  m) x1_0 x1_1 x1_2 x1_3 x1_4 x1_5 x1_6 x1_7 x1_8
    rw [lp_succ, f23S1_ev, ih]
noncomputable def f23S0 (l1 : f23G1) (g0 : f23G0) (x0_0 : Int) (x0_1 : Int) (x0_2 : Int) (x0_3 : List (List Int)) (x0_4 : List (List Int × List Int × Unit)) (x0_5 : Int) (x0_6 : Int) (x0_7 : List (List Int)) (x0_8 : List (List Int × List Int × Unit)) : Option Lf :=
 bif decide (x0_0 < zn x0_3.length) then
  bif inb x0_0 x0_3.length then
   bif inb x0_0 x0_7.length then
    bif big (x0_3.getD x0_0.toNat []).length then
     bif !sameI (x0_3.getD x0_0.toNat []) (x0_7.getD x0_0.toNat []) then
      some (Lf.mk [(Pt.one (L.d (Pv.fz true) Sh.b (false : Bool)))] [] [])
     else
      g0 (IntKind.i64.wrap (x0_0 + 1) : Int) (x0_1 : Int) (x0_2 : Int) (x0_3 : List (List Int)) (x0_4 : List (List Int × List Int × Unit)) (x0_5 : Int) (x0_6 : Int) (x0_7 : List (List Int)) (x0_8 : List (List Int × List Int × Unit))
    else
     none
   else
    none
  else
   none
 else
  l1 (0 : Int) (x0_1 : Int) (x0_2 : Int) (x0_3 : List (List Int)) (x0_4 : List (List Int × List Int × Unit)) (x0_5 : Int) (x0_6 : Int) (x0_7 : List (List Int)) (x0_8 : List (List Int × List Int × Unit))
noncomputable def f23L0 (n : Nat)  : Nat → f23G0
  | 0 => fun _ _ _ _ _ _ _ _ _ => none
  | m + 1 => fun x0_0 x0_1 x0_2 x0_3 x0_4 x0_5 x0_6 x0_7 x0_8 => f23S0 (f23L1 n  n)  (f23L0 n  m) x0_0 x0_1 x0_2 x0_3 x0_4 x0_5 x0_6 x0_7 x0_8
theorem f23S0_ev (n : Nat)  (G : St → Option Lf) (x0_0 : Int) (x0_1 : Int) (x0_2 : Int) (x0_3 : List (List Int)) (x0_4 : List (List Int × List Int × Unit)) (x0_5 : Int) (x0_6 : Int) (x0_7 : List (List Int)) (x0_8 : List (List Int × List Int × Unit)) : rnd C19 f23h n Lf (codeOf f23f) [1, 1, 0, 1, 0] [] (endK C19 f23h f23f) G (f23H0 x0_0 x0_1 x0_2 x0_3 x0_4 x0_5 x0_6 x0_7 x0_8) = f23S0 (f23W1 (lp C19 f23h n Lf (codeOf f23f) [1, 1, 1, 0, 1, 0] [] (endK C19 f23h f23f) n))  (f23W0 G) x0_0 x0_1 x0_2 x0_3 x0_4 x0_5 x0_6 x0_7 x0_8 := by kernel_rfl
theorem f23W0_ev (n : Nat)  : ∀ m, (f23W0 (lp C19 f23h n Lf (codeOf f23f) [1, 1, 0, 1, 0] [] (endK C19 f23h f23f) m)) = f23L0 n  m := by
  intro m
  induction m with
  | zero => funext x0_0 x0_1 x0_2 x0_3 x0_4 x0_5 x0_6 x0_7 x0_8; exact lp_zero _
  | succ m ih =>
    have e1 : (f23W1 (lp C19 f23h n Lf (codeOf f23f) [1, 1, 1, 0, 1, 0] [] (endK C19 f23h f23f) n)) = (f23L1 n  n) := by
      rw [f23W1_ev]
    funext x0_0 x0_1 x0_2 x0_3 x0_4 x0_5 x0_6 x0_7 x0_8
    show lp C19 f23h n Lf (codeOf f23f) [1, 1, 0, 1, 0] [] (endK C19 f23h f23f) (m + 1) (f23H0 x0_0 x0_1 x0_2 x0_3 x0_4 x0_5 x0_6 x0_7 x0_8) = f23S0 (f23L1 n  n)  (f23L0 n  m) x0_0 x0_1 x0_2 x0_3 x0_4 x0_5 x0_6 x0_7 x0_8
    rw [lp_succ, f23S0_ev, ih, e1]
noncomputable def f23T (l0 : f23G0) (p : Int) (i : Int) (nx : List (List Int)) (ps : List (List Int × List Int × Unit)) (q : Int) (j : Int) (ny : List (List Int)) (qs : List (List Int × List Int × Unit)) : Option Lf :=
 bif Nat.beq 1 1 && (Nat.beq 1 1 && (p != q || Nat.beq 1 1 && (Nat.beq 1 1 && (i != j || Nat.beq 1 1 && (Nat.beq 1 1 && (zn nx.length != zn ny.length || true)))))) then
  bif p != q || (i != j || (zn nx.length != zn ny.length || zn ps.length != zn qs.length)) then
   some (Lf.mk [(Pt.one (L.d (Pv.fz true) Sh.b (false : Bool)))] [] [])
  else
   l0 (0 : Int) (p : Int) (i : Int) (nx : List (List Int)) (ps : List (List Int × List Int × Unit)) (q : Int) (j : Int) (ny : List (List Int)) (qs : List (List Int × List Int × Unit))
 else
  none
noncomputable def f23M (n : Nat) (p : Int) (i : Int) (nx : List (List Int)) (ps : List (List Int × List Int × Unit)) (q : Int) (j : Int) (ny : List (List Int)) (qs : List (List Int × List Int × Unit)) : Option Lf := f23T (f23L0 n n) p i nx ps q j ny qs
theorem f23T_ev (n : Nat) (p : Int) (i : Int) (nx : List (List Int)) (ps : List (List Int × List Int × Unit)) (q : Int) (j : Int) (ny : List (List Int)) (qs : List (List Int × List Int × Unit)) : evF C19 f23h n f23f [(D.p (Pt.agg [(L.d (Pv.fz true) (Sh.i IntKind.i64) p), (L.d (Pv.fz true) (Sh.i IntKind.i64) i), (L.d (Pv.fz false) (Sh.l (Sh.l (Sh.i IntKind.i64))) nx), (L.d (Pv.fz false) (Sh.l (Sh.p (Sh.l (Sh.i IntKind.i64)) (Sh.p (Sh.l (Sh.i IntKind.i64)) Sh.u))) ps)])), (D.p (Pt.agg [(L.d (Pv.fz true) (Sh.i IntKind.i64) q), (L.d (Pv.fz true) (Sh.i IntKind.i64) j), (L.d (Pv.fz false) (Sh.l (Sh.l (Sh.i IntKind.i64))) ny), (L.d (Pv.fz false) (Sh.l (Sh.p (Sh.l (Sh.i IntKind.i64)) (Sh.p (Sh.l (Sh.i IntKind.i64)) Sh.u))) qs)]))] [] = f23T (f23W0 (lp C19 f23h n Lf (codeOf f23f) [1, 1, 0, 1, 0] [] (endK C19 f23h f23f) n)) p i nx ps q j ny qs := by kernel_rfl
theorem f23_ev (n : Nat) (p : Int) (i : Int) (nx : List (List Int)) (ps : List (List Int × List Int × Unit)) (q : Int) (j : Int) (ny : List (List Int)) (qs : List (List Int × List Int × Unit)) : evF C19 f23h n f23f [(D.p (Pt.agg [(L.d (Pv.fz true) (Sh.i IntKind.i64) p), (L.d (Pv.fz true) (Sh.i IntKind.i64) i), (L.d (Pv.fz false) (Sh.l (Sh.l (Sh.i IntKind.i64))) nx), (L.d (Pv.fz false) (Sh.l (Sh.p (Sh.l (Sh.i IntKind.i64)) (Sh.p (Sh.l (Sh.i IntKind.i64)) Sh.u))) ps)])), (D.p (Pt.agg [(L.d (Pv.fz true) (Sh.i IntKind.i64) q), (L.d (Pv.fz true) (Sh.i IntKind.i64) j), (L.d (Pv.fz false) (Sh.l (Sh.l (Sh.i IntKind.i64))) ny), (L.d (Pv.fz false) (Sh.l (Sh.p (Sh.l (Sh.i IntKind.i64)) (Sh.p (Sh.l (Sh.i IntKind.i64)) Sh.u))) qs)]))] [] = f23M n p i nx ps q j ny qs := by
  rw [f23T_ev, f23W0_ev]
  rfl

abbrev f24h : Hn := h24
noncomputable abbrev f24f : Func := fn 24
abbrev f24G0 := Int → Int → Int → (List (List Int)) → (List (List Int × List Int × Unit)) → Int → Int → Int → Int → (List (List Int)) → (List (List Int × List Int × Unit)) → Option Lf
noncomputable def f24H0 (x0_0 : Int) (x0_1 : Int) (x0_2 : Int) (x0_3 : List (List Int)) (x0_4 : List (List Int × List Int × Unit)) (x0_5 : Int) (x0_6 : Int) (x0_7 : Int) (x0_8 : Int) (x0_9 : List (List Int)) (x0_10 : List (List Int × List Int × Unit)) : St := (St.mk [dead, (D.p (Pt.one (L.pv (Id.mk 1 0) 0))), (D.p (Pt.one (L.pv (Id.mk 1 1) 0))), (D.p (Pt.one (L.pv (Id.mk 1 2) 0))), (D.p (Pt.one (L.d (Pv.fz true) (Sh.i IntKind.i64) x0_0))), dead, dead, dead, dead, dead, dead, dead, dead, dead, dead, dead, dead, dead, dead, dead, dead, dead, dead, dead, dead, dead, dead, dead, dead, dead] [[], [(Ob.va [(L.d (Pv.fz true) (Sh.i IntKind.i64) x0_1), (L.d (Pv.fz true) (Sh.i IntKind.i64) x0_2), (L.d (Pv.fz false) (Sh.l (Sh.l (Sh.i IntKind.i64))) x0_3), (L.d (Pv.fz false) (Sh.l (Sh.p (Sh.l (Sh.i IntKind.i64)) (Sh.p (Sh.l (Sh.i IntKind.i64)) Sh.u))) x0_4)]), (Ob.va [(L.d (Pv.fz true) (Sh.i IntKind.i64) x0_5), (L.d (Pv.fz true) (Sh.i IntKind.i64) x0_6), L.nl, L.nl]), (Ob.va [(L.d (Pv.fz true) (Sh.i IntKind.i64) x0_7), (L.d (Pv.fz true) (Sh.i IntKind.i64) x0_8), (L.d (Pv.fz false) (Sh.l (Sh.l (Sh.i IntKind.i64))) x0_9), (L.rw (Id.mk 1 3))]), (Ob.ro false 0 53 (Sh.p (Sh.l (Sh.i IntKind.i64)) (Sh.p (Sh.l (Sh.i IntKind.i64)) Sh.u)) Ow.z x0_10 Option.none)]])
noncomputable def f24W0 (G : St → Option Lf) : f24G0 := fun x0_0 x0_1 x0_2 x0_3 x0_4 x0_5 x0_6 x0_7 x0_8 x0_9 x0_10 => G (f24H0 x0_0 x0_1 x0_2 x0_3 x0_4 x0_5 x0_6 x0_7 x0_8 x0_9 x0_10)
noncomputable def f24S0  (g0 : f24G0) (x0_0 : Int) (x0_1 : Int) (x0_2 : Int) (x0_3 : List (List Int)) (x0_4 : List (List Int × List Int × Unit)) (x0_5 : Int) (x0_6 : Int) (x0_7 : Int) (x0_8 : Int) (x0_9 : List (List Int)) (x0_10 : List (List Int × List Int × Unit)) : Option Lf :=
 bif decide (x0_0 < zn x0_4.length) then
  bif inb x0_0 x0_4.length then
   bif decide ((x0_10.length + [((x0_4.getD x0_0.toNat ([], [], ())).fst, (x0_4.getD x0_0.toNat ([], [], ())).snd.fst, ())].length) * 48 ≤ 140737488355328) then
    g0 (IntKind.i64.wrap (x0_0 + 1) : Int) (x0_1 : Int) (x0_2 : Int) (x0_3 : List (List Int)) (x0_4 : List (List Int × List Int × Unit)) (x0_5 : Int) (x0_6 : Int) (x0_7 : Int) (x0_8 : Int) (x0_9 : List (List Int)) (x0_10 ++ [((x0_4.getD x0_0.toNat ([], [], ())).fst, (x0_4.getD x0_0.toNat ([], [], ())).snd.fst, ())] : List (List Int × List Int × Unit))
   else
    none
  else
   none
 else
  some (Lf.mk [(Pt.agg [(L.d (Pv.fz true) (Sh.i IntKind.i64) (x0_7 : Int)), (L.d (Pv.fz true) (Sh.i IntKind.i64) (x0_8 : Int)), (L.d (Pv.fz false) (Sh.l (Sh.l (Sh.i IntKind.i64))) (x0_9 : List (List Int))), (L.rw (Id.mk 1 0))])] [] [(Ob.ro false 0 53 (Sh.p (Sh.l (Sh.i IntKind.i64)) (Sh.p (Sh.l (Sh.i IntKind.i64)) Sh.u)) Ow.z (x0_10 : List (List Int × List Int × Unit)) Option.none)])
noncomputable def f24L0 (n : Nat)  : Nat → f24G0
  | 0 => fun _ _ _ _ _ _ _ _ _ _ _ => none
  | m + 1 => fun x0_0 x0_1 x0_2 x0_3 x0_4 x0_5 x0_6 x0_7 x0_8 x0_9 x0_10 => f24S0   (f24L0 n  m) x0_0 x0_1 x0_2 x0_3 x0_4 x0_5 x0_6 x0_7 x0_8 x0_9 x0_10
theorem f24S0_ev (n : Nat)  (G : St → Option Lf) (x0_0 : Int) (x0_1 : Int) (x0_2 : Int) (x0_3 : List (List Int)) (x0_4 : List (List Int × List Int × Unit)) (x0_5 : Int) (x0_6 : Int) (x0_7 : Int) (x0_8 : Int) (x0_9 : List (List Int)) (x0_10 : List (List Int × List Int × Unit)) : rnd C19 f24h n Lf (codeOf f24f) [1, 1, 0, 1, 0] [] (endK C19 f24h f24f) G (f24H0 x0_0 x0_1 x0_2 x0_3 x0_4 x0_5 x0_6 x0_7 x0_8 x0_9 x0_10) = f24S0   (f24W0 G) x0_0 x0_1 x0_2 x0_3 x0_4 x0_5 x0_6 x0_7 x0_8 x0_9 x0_10 := by kernel_rfl
theorem f24W0_ev (n : Nat)  : ∀ m, (f24W0 (lp C19 f24h n Lf (codeOf f24f) [1, 1, 0, 1, 0] [] (endK C19 f24h f24f) m)) = f24L0 n  m := by
  intro m
  induction m with
  | zero => funext x0_0 x0_1 x0_2 x0_3 x0_4 x0_5 x0_6 x0_7 x0_8 x0_9 x0_10; exact lp_zero _
  | succ m ih =>
    funext x0_0 x0_1 x0_2 x0_3 x0_4 x0_5 x0_6 x0_7 x0_8 x0_9 x0_10
    show lp C19 f24h n Lf (codeOf f24f) [1, 1, 0, 1, 0] [] (endK C19 f24h f24f) (m + 1) (f24H0 x0_0 x0_1 x0_2 x0_3 x0_4 x0_5 x0_6 x0_7 x0_8 x0_9 x0_10) = f24S0   (f24L0 n  m) x0_0 x0_1 x0_2 x0_3 x0_4 x0_5 x0_6 x0_7 x0_8 x0_9 x0_10
    rw [lp_succ, f24S0_ev, ih]
noncomputable def f24T (l0 : f24G0) (p : Int) (i : Int) (nx : List (List Int)) (ps : List (List Int × List Int × Unit)) : Option Lf :=
 l0 (0 : Int) (p : Int) (i : Int) (nx : List (List Int)) (ps : List (List Int × List Int × Unit)) (0 : Int) (0 : Int) (p : Int) (i : Int) (nx : List (List Int)) ([] : List (List Int × List Int × Unit))
noncomputable def f24M (n : Nat) (p : Int) (i : Int) (nx : List (List Int)) (ps : List (List Int × List Int × Unit)) : Option Lf := f24T (f24L0 n n) p i nx ps
theorem f24T_ev (n : Nat) (p : Int) (i : Int) (nx : List (List Int)) (ps : List (List Int × List Int × Unit)) : evF C19 f24h n f24f [(D.p (Pt.agg [(L.d (Pv.fz true) (Sh.i IntKind.i64) p), (L.d (Pv.fz true) (Sh.i IntKind.i64) i), (L.d (Pv.fz false) (Sh.l (Sh.l (Sh.i IntKind.i64))) nx), (L.d (Pv.fz false) (Sh.l (Sh.p (Sh.l (Sh.i IntKind.i64)) (Sh.p (Sh.l (Sh.i IntKind.i64)) Sh.u))) ps)]))] [] = f24T (f24W0 (lp C19 f24h n Lf (codeOf f24f) [1, 1, 0, 1, 0] [] (endK C19 f24h f24f) n)) p i nx ps := by kernel_rfl
theorem f24_ev (n : Nat) (p : Int) (i : Int) (nx : List (List Int)) (ps : List (List Int × List Int × Unit)) : evF C19 f24h n f24f [(D.p (Pt.agg [(L.d (Pv.fz true) (Sh.i IntKind.i64) p), (L.d (Pv.fz true) (Sh.i IntKind.i64) i), (L.d (Pv.fz false) (Sh.l (Sh.l (Sh.i IntKind.i64))) nx), (L.d (Pv.fz false) (Sh.l (Sh.p (Sh.l (Sh.i IntKind.i64)) (Sh.p (Sh.l (Sh.i IntKind.i64)) Sh.u))) ps)]))] [] = f24M n p i nx ps := by
  rw [f24T_ev, f24W0_ev]
  rfl

abbrev f25h : Hn := h25
noncomputable abbrev f25f : Func := fn 25
abbrev f25G0 := Int → Int → Int → (List (List Int)) → (List (List Int × List Int × Unit)) → Int → Int → (List Int) → Int → Int → (List (List Int)) → (List (List Int × List Int × Unit)) → Option Lf
noncomputable def f25H0 (x0_0 : Int) (x0_1 : Int) (x0_2 : Int) (x0_3 : List (List Int)) (x0_4 : List (List Int × List Int × Unit)) (x0_5 : Int) (x0_6 : Int) (x0_7 : List Int) (x0_8 : Int) (x0_9 : Int) (x0_10 : List (List Int)) (x0_11 : List (List Int × List Int × Unit)) : St := (St.mk [dead, (D.p (Pt.one (L.pv (Id.mk 1 0) 0))), (D.p (Pt.one (L.pv (Id.mk 1 1) 0))), (D.p (Pt.one (L.rw (Id.mk 1 2)))), (D.p (Pt.one (L.pv (Id.mk 1 3) 0))), (D.p (Pt.one (L.d (Pv.fz true) (Sh.i IntKind.i64) x0_0))), dead, dead, dead, dead, dead, dead, dead, dead, dead, dead, dead, dead, dead, dead, dead, dead, dead, dead, dead, dead, dead, dead, dead, dead, dead, dead, dead, dead, dead, dead, dead, dead, dead, dead, dead, dead, dead, dead, dead, dead, dead, dead, dead, dead, dead, dead, dead, dead, dead, dead, dead, dead, dead, dead, dead, dead, dead, dead, dead, dead, dead, dead, dead, dead, dead, dead, dead, dead, dead, dead, dead, dead, dead, dead, dead, dead, dead, dead, dead, dead, dead, dead, dead, dead, dead, dead, dead, dead, dead, dead, dead, dead, dead, dead, dead, dead, dead, dead, dead, dead, dead, dead, dead, dead, dead, dead, dead, dead, dead, dead, dead, dead, dead, dead, dead, dead, dead, dead, dead, dead, dead, dead, dead, dead, dead, dead, dead, dead, dead, dead, dead, dead, dead, dead, dead, dead, dead, dead, dead, dead, dead, dead] [[], [(Ob.va [(L.d (Pv.fz true) (Sh.i IntKind.i64) x0_1), (L.d (Pv.fz true) (Sh.i IntKind.i64) x0_2), (L.d (Pv.fz false) (Sh.l (Sh.l (Sh.i IntKind.i64))) x0_3), (L.d (Pv.fz false) (Sh.l (Sh.p (Sh.l (Sh.i IntKind.i64)) (Sh.p (Sh.l (Sh.i IntKind.i64)) Sh.u))) x0_4)]), (Ob.va [(L.d (Pv.fz true) (Sh.i IntKind.i64) x0_5), (L.d (Pv.fz true) (Sh.i IntKind.i64) x0_6), L.nl, L.nl]), (Ob.ro true 0 3 (Sh.i IntKind.i64) Ow.z x0_7 Option.none), (Ob.va [(L.d (Pv.fz true) (Sh.i IntKind.i64) x0_8), (L.d (Pv.fz true) (Sh.i IntKind.i64) x0_9), (L.rw (Id.mk 1 4)), (L.rw (Id.mk 1 5))]), (Ob.ro true 0 26 (Sh.l (Sh.i IntKind.i64)) (Ow.l 3 Ow.z) x0_10 Option.none), (Ob.ro true 0 53 (Sh.p (Sh.l (Sh.i IntKind.i64)) (Sh.p (Sh.l (Sh.i IntKind.i64)) Sh.u)) (Ow.p (Ow.l 3 Ow.z) (Ow.p (Ow.l 3 Ow.z) Ow.z)) x0_11 Option.none)]])
noncomputable def f25W0 (G : St → Option Lf) : f25G0 := fun x0_0 x0_1 x0_2 x0_3 x0_4 x0_5 x0_6 x0_7 x0_8 x0_9 x0_10 x0_11 => G (f25H0 x0_0 x0_1 x0_2 x0_3 x0_4 x0_5 x0_6 x0_7 x0_8 x0_9 x0_10 x0_11)
abbrev f25G1 := Int → Int → Int → Int → (List (List Int)) → (List (List Int × List Int × Unit)) → Int → Int → (List Int) → Int → Int → (List Int) → (List (List Int)) → (List (List Int × List Int × Unit)) → Option Lf
noncomputable def f25H1 (x1_0 : Int) (x1_1 : Int) (x1_2 : Int) (x1_3 : Int) (x1_4 : List (List Int)) (x1_5 : List (List Int × List Int × Unit)) (x1_6 : Int) (x1_7 : Int) (x1_8 : List Int) (x1_9 : Int) (x1_10 : Int) (x1_11 : List Int) (x1_12 : List (List Int)) (x1_13 : List (List Int × List Int × Unit)) : St := (St.mk [dead, (D.p (Pt.one (L.pv (Id.mk 1 0) 0))), (D.p (Pt.one (L.pv (Id.mk 1 1) 0))), (D.p (Pt.one (L.rw (Id.mk 1 2)))), (D.p (Pt.one (L.pv (Id.mk 1 3) 0))), (D.p (Pt.one (L.d (Pv.fz true) (Sh.i IntKind.i64) x1_0))), (D.p (Pt.one (L.rw (Id.mk 1 4)))), (D.p (Pt.one (L.d (Pv.fz true) (Sh.i IntKind.i64) x1_1))), dead, dead, dead, dead, dead, dead, dead, dead, dead, dead, dead, dead, dead, dead, dead, dead, dead, dead, dead, dead, dead, dead, dead, dead, dead, dead, dead, dead, dead, dead, dead, dead, dead, dead, dead, dead, dead, dead, dead, dead, dead, dead, dead, dead, dead, dead, dead, dead, dead, dead, dead, dead, dead, dead, dead, dead, dead, dead, dead, dead, dead, dead, dead, dead, dead, dead, dead, dead, dead, dead, dead, dead, dead, dead, dead, dead, dead, dead, dead, dead, dead, dead, dead, dead, dead, dead, dead, dead, dead, dead, dead, dead, dead, dead, dead, dead, dead, dead, dead, dead, dead, dead, dead, dead, dead, dead, dead, dead, dead, dead, dead, dead, dead, dead, dead, dead, dead, dead, dead, dead, dead, dead, dead, dead, dead, dead, dead, dead, dead, dead, dead, dead, dead, dead, dead, dead, dead, dead, dead, dead] [[], [(Ob.va [(L.d (Pv.fz true) (Sh.i IntKind.i64) x1_2), (L.d (Pv.fz true) (Sh.i IntKind.i64) x1_3), (L.d (Pv.fz false) (Sh.l (Sh.l (Sh.i IntKind.i64))) x1_4), (L.d (Pv.fz false) (Sh.l (Sh.p (Sh.l (Sh.i IntKind.i64)) (Sh.p (Sh.l (Sh.i IntKind.i64)) Sh.u))) x1_5)]), (Ob.va [(L.d (Pv.fz true) (Sh.i IntKind.i64) x1_6), (L.d (Pv.fz true) (Sh.i IntKind.i64) x1_7), L.nl, L.nl]), (Ob.ro true 0 3 (Sh.i IntKind.i64) Ow.z x1_8 Option.none), (Ob.va [(L.d (Pv.fz true) (Sh.i IntKind.i64) x1_9), (L.d (Pv.fz true) (Sh.i IntKind.i64) x1_10), (L.rw (Id.mk 1 5)), (L.rw (Id.mk 1 6))]), (Ob.ro true 0 3 (Sh.i IntKind.i64) Ow.z x1_11 Option.none), (Ob.ro true 0 26 (Sh.l (Sh.i IntKind.i64)) (Ow.l 3 Ow.z) x1_12 Option.none), (Ob.ro true 0 53 (Sh.p (Sh.l (Sh.i IntKind.i64)) (Sh.p (Sh.l (Sh.i IntKind.i64)) Sh.u)) (Ow.p (Ow.l 3 Ow.z) (Ow.p (Ow.l 3 Ow.z) Ow.z)) x1_13 Option.none)]])
noncomputable def f25W1 (G : St → Option Lf) : f25G1 := fun x1_0 x1_1 x1_2 x1_3 x1_4 x1_5 x1_6 x1_7 x1_8 x1_9 x1_10 x1_11 x1_12 x1_13 => G (f25H1 x1_0 x1_1 x1_2 x1_3 x1_4 x1_5 x1_6 x1_7 x1_8 x1_9 x1_10 x1_11 x1_12 x1_13)
abbrev f25G2 := Int → Int → Int → Int → Int → Int → (List (List Int)) → (List (List Int × List Int × Unit)) → Int → Int → (List Int) → Int → Int → (List Int) → (List (List Int)) → (List (List Int × List Int × Unit)) → Option Lf
noncomputable def f25H2 (x2_0 : Int) (x2_1 : Int) (x2_2 : Int) (x2_3 : Int) (x2_4 : Int) (x2_5 : Int) (x2_6 : List (List Int)) (x2_7 : List (List Int × List Int × Unit)) (x2_8 : Int) (x2_9 : Int) (x2_10 : List Int) (x2_11 : Int) (x2_12 : Int) (x2_13 : List Int) (x2_14 : List (List Int)) (x2_15 : List (List Int × List Int × Unit)) : St := (St.mk [dead, (D.p (Pt.one (L.pv (Id.mk 1 0) 0))), (D.p (Pt.one (L.pv (Id.mk 1 1) 0))), (D.p (Pt.one (L.rw (Id.mk 1 2)))), (D.p (Pt.one (L.pv (Id.mk 1 3) 0))), (D.p (Pt.one (L.d (Pv.fz true) (Sh.i IntKind.i64) x2_0))), (D.p (Pt.one (L.rw (Id.mk 1 4)))), (D.p (Pt.one (L.d (Pv.fz true) (Sh.i IntKind.i64) x2_1))), (D.p (Pt.one (L.d (Pv.fz true) (Sh.i IntKind.i64) x2_2))), (D.p (Pt.one (L.d (Pv.fz true) (Sh.i IntKind.i64) x2_3))), dead, dead, dead, dead, dead, dead, dead, dead, dead, dead, dead, dead, dead, dead, dead, dead, dead, dead, dead, dead, dead, dead, dead, dead, dead, dead, dead, dead, dead, dead, dead, dead, dead, dead, dead, dead, dead, dead, dead, dead, dead, dead, dead, dead, dead, dead, dead, dead, dead, dead, dead, dead, dead, dead, dead, dead, dead, dead, dead, dead, dead, dead, dead, dead, dead, dead, dead, dead, dead, dead, dead, dead, dead, dead, dead, dead, dead, dead, dead, dead, dead, dead, dead, dead, dead, dead, dead, dead, dead, dead, dead, dead, dead, dead, dead, dead, dead, dead, dead, dead, dead, dead, dead, dead, dead, dead, dead, dead, dead, dead, dead, dead, dead, dead, dead, dead, dead, dead, dead, dead, dead, dead, dead, dead, dead, dead, dead, dead, dead, dead, dead, dead, dead, dead, dead, dead, dead, dead] [[], [(Ob.va [(L.d (Pv.fz true) (Sh.i IntKind.i64) x2_4), (L.d (Pv.fz true) (Sh.i IntKind.i64) x2_5), (L.d (Pv.fz false) (Sh.l (Sh.l (Sh.i IntKind.i64))) x2_6), (L.d (Pv.fz false) (Sh.l (Sh.p (Sh.l (Sh.i IntKind.i64)) (Sh.p (Sh.l (Sh.i IntKind.i64)) Sh.u))) x2_7)]), (Ob.va [(L.d (Pv.fz true) (Sh.i IntKind.i64) x2_8), (L.d (Pv.fz true) (Sh.i IntKind.i64) x2_9), L.nl, L.nl]), (Ob.ro true 0 3 (Sh.i IntKind.i64) Ow.z x2_10 Option.none), (Ob.va [(L.d (Pv.fz true) (Sh.i IntKind.i64) x2_11), (L.d (Pv.fz true) (Sh.i IntKind.i64) x2_12), (L.rw (Id.mk 1 5)), (L.rw (Id.mk 1 6))]), (Ob.ro true 0 3 (Sh.i IntKind.i64) Ow.z x2_13 Option.none), (Ob.ro true 0 26 (Sh.l (Sh.i IntKind.i64)) (Ow.l 3 Ow.z) x2_14 Option.none), (Ob.ro true 0 53 (Sh.p (Sh.l (Sh.i IntKind.i64)) (Sh.p (Sh.l (Sh.i IntKind.i64)) Sh.u)) (Ow.p (Ow.l 3 Ow.z) (Ow.p (Ow.l 3 Ow.z) Ow.z)) x2_15 Option.none)]])
noncomputable def f25W2 (G : St → Option Lf) : f25G2 := fun x2_0 x2_1 x2_2 x2_3 x2_4 x2_5 x2_6 x2_7 x2_8 x2_9 x2_10 x2_11 x2_12 x2_13 x2_14 x2_15 => G (f25H2 x2_0 x2_1 x2_2 x2_3 x2_4 x2_5 x2_6 x2_7 x2_8 x2_9 x2_10 x2_11 x2_12 x2_13 x2_14 x2_15)
noncomputable def f25S2  (g0 : f25G0) (g1 : f25G1) (g2 : f25G2) (x2_0 : Int) (x2_1 : Int) (x2_2 : Int) (x2_3 : Int) (x2_4 : Int) (x2_5 : Int) (x2_6 : List (List Int)) (x2_7 : List (List Int × List Int × Unit)) (x2_8 : Int) (x2_9 : Int) (x2_10 : List Int) (x2_11 : Int) (x2_12 : Int) (x2_13 : List Int) (x2_14 : List (List Int)) (x2_15 : List (List Int × List Int × Unit)) : Option Lf :=
 bif decide (x2_3 < zn x2_10.length) then
  bif inb x2_3 x2_10.length then
   bif inb x2_0 x2_10.length then
    bif inb (x2_10.getD x2_0.toNat 0) x2_6.length then
     bif inb x2_1 (x2_6.getD (x2_10.getD x2_0.toNat 0).toNat []).length then
      bif x2_10.getD x2_3.toNat 0 == (x2_6.getD (x2_10.getD x2_0.toNat 0).toNat []).getD x2_1.toNat 0 then
       g2 (x2_0 : Int) (x2_1 : Int) (x2_3 : Int) (IntKind.i64.wrap (x2_3 + 1) : Int) (x2_4 : Int) (x2_5 : Int) (x2_6 : List (List Int)) (x2_7 : List (List Int × List Int × Unit)) (x2_8 : Int) (x2_9 : Int) (x2_10 : List Int) (x2_11 : Int) (x2_12 : Int) (x2_13 : List Int) (x2_14 : List (List Int)) (x2_15 : List (List Int × List Int × Unit))
      else
       g2 (x2_0 : Int) (x2_1 : Int) (x2_2 : Int) (IntKind.i64.wrap (x2_3 + 1) : Int) (x2_4 : Int) (x2_5 : Int) (x2_6 : List (List Int)) (x2_7 : List (List Int × List Int × Unit)) (x2_8 : Int) (x2_9 : Int) (x2_10 : List Int) (x2_11 : Int) (x2_12 : Int) (x2_13 : List Int) (x2_14 : List (List Int)) (x2_15 : List (List Int × List Int × Unit))
     else
      none
    else
     none
   else
    none
  else
   none
 else
  bif decide (x2_2 < 0) then
   bif inb x2_0 x2_10.length then
    bif inb (x2_10.getD x2_0.toNat 0) x2_6.length then
     bif inb x2_1 (x2_6.getD (x2_10.getD x2_0.toNat 0).toNat []).length then
      bif decide ((x2_10.length + [(x2_6.getD (x2_10.getD x2_0.toNat 0).toNat []).getD x2_1.toNat 0].length) * 8 ≤ 140737488355328) then
       bif decide ((x2_13.length + [zn x2_10.length].length) * 8 ≤ 140737488355328) then
        g1 (x2_0 : Int) (IntKind.i64.wrap (x2_1 + 1) : Int) (x2_4 : Int) (x2_5 : Int) (x2_6 : List (List Int)) (x2_7 : List (List Int × List Int × Unit)) (x2_8 : Int) (x2_9 : Int) (x2_10 ++ [(x2_6.getD (x2_10.getD x2_0.toNat 0).toNat []).getD x2_1.toNat 0] : List Int) (x2_11 : Int) (x2_12 : Int) (x2_13 ++ [zn x2_10.length] : List Int) (x2_14 : List (List Int)) (x2_15 : List (List Int × List Int × Unit))
       else
        none
      else
       none
     else
      none
    else
     none
   else
    none
  else
   bif decide ((x2_13.length + [x2_2].length) * 8 ≤ 140737488355328) then
    g1 (x2_0 : Int) (IntKind.i64.wrap (x2_1 + 1) : Int) (x2_4 : Int) (x2_5 : Int) (x2_6 : List (List Int)) (x2_7 : List (List Int × List Int × Unit)) (x2_8 : Int) (x2_9 : Int) (x2_10 : List Int) (x2_11 : Int) (x2_12 : Int) (x2_13 ++ [x2_2] : List Int) (x2_14 : List (List Int)) (x2_15 : List (List Int × List Int × Unit))
   else
    none
noncomputable def f25L2 (n : Nat) (g0 : f25G0) (g1 : f25G1) : Nat → f25G2
  | 0 => fun _ _ _ _ _ _ _ _ _ _ _ _ _ _ _ _ => none
  | m + 1 => fun x2_0 x2_1 x2_2 x2_3 x2_4 x2_5 x2_6 x2_7 x2_8 x2_9 x2_10 x2_11 x2_12 x2_13 x2_14 x2_15 => f25S2  g0 g1 (f25L2 n g0 g1 m) x2_0 x2_1 x2_2 x2_3 x2_4 x2_5 x2_6 x2_7 x2_8 x2_9 x2_10 x2_11 x2_12 x2_13 x2_14 x2_15
theorem f25S2_ev (n : Nat) (G0 : St → Option Lf) (G1 : St → Option Lf) (G : St → Option Lf) (x2_0 : Int) (x2_1 : Int) (x2_2 : Int) (x2_3 : Int) (x2_4 : Int) (x2_5 : Int) (x2_6 : List (List Int)) (x2_7 : List (List Int × List Int × Unit)) (x2_8 : Int) (x2_9 : Int) (x2_10 : List Int) (x2_11 : Int) (x2_12 : Int) (x2_13 : List Int) (x2_14 : List (List Int)) (x2_15 : List (List Int × List Int × Unit)) : rnd C19 f25h n Lf (codeOf f25f) [1, 1, 1, 0, 1, 0, 0, 1, 0, 0, 1, 0, 1, 0, 0, 1, 0, 0, 1, 0, 1, 0] [G0, G1] (endK C19 f25h f25f) G (f25H2 x2_0 x2_1 x2_2 x2_3 x2_4 x2_5 x2_6 x2_7 x2_8 x2_9 x2_10 x2_11 x2_12 x2_13 x2_14 x2_15) = f25S2  (f25W0 G0) (f25W1 G1) (f25W2 G) x2_0 x2_1 x2_2 x2_3 x2_4 x2_5 x2_6 x2_7 x2_8 x2_9 x2_10 x2_11 x2_12 x2_13 x2_14 x2_15 := by kernel_rfl
theorem f25W2_ev (n : Nat) (G0 : St → Option Lf) (G1 : St → Option Lf) : ∀ m, (f25W2 (lp C19 f25h n Lf (codeOf f25f) [1, 1, 1, 0, 1, 0, 0, 1, 0, 0, 1, 0, 1, 0, 0, 1, 0, 0, 1, 0, 1, 0] [G0, G1] (endK C19 f25h f25f) m)) = f25L2 n (f25W0 G0) (f25W1 G1) m := by
  intro m
  induction m with
  | zero => funext x2_0 x2_1 x2_2 x2_3 x2_4 x2_5 x2_6 x2_7 x2_8 x2_9 x2_10 x2_11 x2_12 x2_13 x2_14 x2_15; exact lp_zero _
  | succ m ih =>
    funext x2_0 x2_1 x2_2 x2_3 x2_4 x2_5 x2_6 x2_7 x2_8 x2_9 x2_10 x2_11 x2_12 x2_13 x2_14 x2_15
    show lp C19 f25h n Lf (codeOf f25f) [1, 1, 1, 0, 1, 0, 0, 1, 0, 0, 1, 0, 1, 0, 0, 1, 0, 0, 1, 0, 1, 0] [G0, G1] (endK C19 f25h f25f) (m + 1) (f25H2 x2_0 x2_1 x2_2 x2_3 x2_4 x2_5 x2_6 x2_7 x2_8 x2_9 x2_10 x2_11 x2_12 x2_13 x2_14 x2_15) = f25S2  (f25W0 G0) (f25W1 G1) (f25L2 n (f25W0 G0) (f25W1 G1) m) x2_0 x2_1 x2_2 x2_3 x2_4 x2_5 x2_6 x2_7 x2_8 x2_9 x2_10 x2_11 x2_12 x2_13 x2_14 x2_15
    rw [lp_succ, f25S2_ev, ih]
noncomputable def f25S1 (l2 : f25G2) (g0 : f25G0) (g1 : f25G1) (x1_0 : Int) (x1_1 : Int) (x1_2 : Int) (x1_3 : Int) (x1_4 : List (List Int)) (x1_5 : List (List Int × List Int × Unit)) (x1_6 : Int) (x1_7 : Int) (x1_8 : List Int) (x1_9 : Int) (x1_10 : Int) (x1_11 : List Int) (x1_12 : List (List Int)) (x1_13 : List (List Int × List Int × Unit)) : Option Lf :=
 bif inb x1_0 x1_8.length then
  bif inb (x1_8.getD x1_0.toNat 0) x1_4.length then
   bif decide (x1_1 < zn (x1_4.getD (x1_8.getD x1_0.toNat 0).toNat []).length) then
    l2 (x1_0 : Int) (x1_1 : Int) (-1 : Int) (0 : Int) (x1_2 : Int) (x1_3 : Int) (x1_4 : List (List Int)) (x1_5 : List (List Int × List Int × Unit)) (x1_6 : Int) (x1_7 : Int) (x1_8 : List Int) (x1_9 : Int) (x1_10 : Int) (x1_11 : List Int) (x1_12 : List (List Int)) (x1_13 : List (List Int × List Int × Unit))
   else
    bif decide ((x1_12.length + [x1_11].length) * 24 ≤ 140737488355328) then
     g0 (IntKind.i64.wrap (x1_0 + 1) : Int) (x1_2 : Int) (x1_3 : Int) (x1_4 : List (List Int)) (x1_5 : List (List Int × List Int × Unit)) (x1_6 : Int) (x1_7 : Int) (x1_8 : List Int) (x1_9 : Int) (x1_10 : Int) (x1_12 ++ [x1_11] : List (List Int)) (x1_13 : List (List Int × List Int × Unit))
    else
     none
  else
   none
 else
  none
noncomputable def f25L1 (n : Nat) (g0 : f25G0) : Nat → f25G1
  | 0 => fun _ _ _ _ _ _ _ _ _ _ _ _ _ _ => none
  | m + 1 => fun x1_0 x1_1 x1_2 x1_3 x1_4 x1_5 x1_6 x1_7 x1_8 x1_9 x1_10 x1_11 x1_12 x1_13 => f25S1 (f25L2 n g0 (f25L1 n g0 m) n) g0 (f25L1 n g0 m) x1_0 x1_1 x1_2 x1_3 x1_4 x1_5 x1_6 x1_7 x1_8 x1_9 x1_10 x1_11 x1_12 x1_13
theorem f25S1_ev (n : Nat) (G0 : St → Option Lf) (G : St → Option Lf) (x1_0 : Int) (x1_1 : Int) (x1_2 : Int) (x1_3 : Int) (x1_4 : List (List Int)) (x1_5 : List (List Int × List Int × Unit)) (x1_6 : Int) (x1_7 : Int) (x1_8 : List Int) (x1_9 : Int) (x1_10 : Int) (x1_11 : List Int) (x1_12 : List (List Int)) (x1_13 : List (List Int × List Int × Unit)) : rnd C19 f25h n Lf (codeOf f25f) [1, 1, 1, 0, 1, 0, 0, 1, 0, 0, 1, 0, 1, 0] [G0] (endK C19 f25h f25f) G (f25H1 x1_0 x1_1 x1_2 x1_3 x1_4 x1_5 x1_6 x1_7 x1_8 x1_9 x1_10 x1_11 x1_12 x1_13) = f25S1 (f25W2 (lp C19 f25h n Lf (codeOf f25f) [1, 1, 1, 0, 1, 0, 0, 1, 0, 0, 1, 0, 1, 0, 0, 1, 0, 0, 1, 0, 1, 0] [G0, G] (endK C19 f25h f25f) n)) (f25W0 G0) (f25W1 G) x1_0 x1_1 x1_2 x1_3 x1_4 x1_5 x1_6 x1_7 x1_8 x1_9 x1_10 x1_11 x1_12 x1_13 := by kernel_rfl
theorem f25W1_ev (n : Nat) (G0 : St → Option Lf) : ∀ m, (f25W1 (lp C19 f25h n Lf (codeOf f25f) [1, 1, 1, 0, 1, 0, 0, 1, 0, 0, 1, 0, 1, 0] [G0] (endK C19 f25h f25f) m)) = f25L1 n (f25W0 G0) m := by
  intro m
  induction m with
  | zero => funext x1_0 x1_1 x1_2 x1_3 x1_4 x1_5 x1_6 x1_7 x1_8 x1_9 x1_10 x1_11 x1_12 x1_13; exact lp_zero _
  | succ m ih =>
    have e2 : (f25W2 (lp C19 f25h n Lf (codeOf f25f) [1, 1, 1, 0, 1, 0, 0, 1, 0, 0, 1, 0, 1, 0, 0, 1, 0, 0, 1, 0, 1, 0] [G0, (lp C19 f25h n Lf (codeOf f25f) [1, 1, 1, 0, 1, 0, 0, 1, 0, 0, 1, 0, 1, 0] [G0] (endK C19 f25h f25f) m)] (endK C19 f25h f25f) n)) = (f25L2 n (f25W0 G0) (f25L1 n (f25W0 G0) m) n) := by
      rw [f25W2_ev, ih]
    funext x1_0 x1_1 x1_2 x1_3 x1_4 x1_5 x1_6 x1_7 x1_8 x1_9 x1_10 x1_11 x1_12 x1_13
    show lp C19 f25h n Lf (codeOf f25f) [1, 1, 1, 0, 1, 0, 0, 1, 0, 0, 1, 0, 1, 0] [G0] (endK C19 f25h f25f) (m + 1) (f25H1 x1_0 x1_1 x1_2 x1_3 x1_4 x1_5 x1_6 x1_7 x1_8 x1_9 x1_10 x1_11 x1_12 x1_13) = f25S1 (f25L2 n (f25W0 G0) (f25L1 n (f25W0 G0) m) n) (f25W0 G0) (f25L1 n (f25W0 G0) m) x1_0 x1_1 x1_2 x1_3 x1_4 x1_5 x1_6 x1_7 x1_8 x1_9 x1_10 x1_11 x1_12 x1_13
    rw [lp_succ, f25S1_ev, ih, e2]
abbrev f25G3 := Int → Int → Int → (List (List Int)) → (List (List Int × List Int × Unit)) → Int → Int → (List Int) → Int → Int → (List (List Int)) → (List (List Int × List Int × Unit)) → Option Lf
noncomputable def f25H3 (x3_0 : Int) (x3_1 : Int) (x3_2 : Int) (x3_3 : List (List Int)) (x3_4 : List (List Int × List Int × Unit)) (x3_5 : Int) (x3_6 : Int) (x3_7 : List Int) (x3_8 : Int) (x3_9 : Int) (x3_10 : List (List Int)) (x3_11 : List (List Int × List Int × Unit)) : St := (St.mk [dead, (D.p (Pt.one (L.pv (Id.mk 1 0) 0))), (D.p (Pt.one (L.pv (Id.mk 1 1) 0))), (D.p (Pt.one (L.rw (Id.mk 1 2)))), (D.p (Pt.one (L.pv (Id.mk 1 3) 0))), dead, dead, dead, dead, dead, (D.p (Pt.one (L.d (Pv.fz true) (Sh.i IntKind.i64) x3_0))), dead, dead, dead, dead, dead, dead, dead, dead, dead, dead, dead, dead, dead, dead, dead, dead, dead, dead, dead, dead, dead, dead, dead, dead, dead, dead, dead, dead, dead, dead, dead, dead, dead, dead, dead, dead, dead, dead, dead, dead, dead, dead, dead, dead, dead, dead, dead, dead, dead, dead, dead, dead, dead, dead, dead, dead, dead, dead, dead, dead, dead, dead, dead, dead, dead, dead, dead, dead, dead, dead, dead, dead, dead, dead, dead, dead, dead, dead, dead, dead, dead, dead, dead, dead, dead, dead, dead, dead, dead, dead, dead, dead, dead, dead, dead, dead, dead, dead, dead, dead, dead, dead, dead, dead, dead, dead, dead, dead, dead, dead, dead, dead, dead, dead, dead, dead, dead, dead, dead, dead, dead, dead, dead, dead, dead, dead, dead, dead, dead, dead, dead, dead, dead, dead, dead, dead, dead] [[], [(Ob.va [(L.d (Pv.fz true) (Sh.i IntKind.i64) x3_1), (L.d (Pv.fz true) (Sh.i IntKind.i64) x3_2), (L.d (Pv.fz false) (Sh.l (Sh.l (Sh.i IntKind.i64))) x3_3), (L.d (Pv.fz false) (Sh.l (Sh.p (Sh.l (Sh.i IntKind.i64)) (Sh.p (Sh.l (Sh.i IntKind.i64)) Sh.u))) x3_4)]), (Ob.va [(L.d (Pv.fz true) (Sh.i IntKind.i64) x3_5), (L.d (Pv.fz true) (Sh.i IntKind.i64) x3_6), L.nl, L.nl]), (Ob.ro true 0 3 (Sh.i IntKind.i64) Ow.z x3_7 Option.none), (Ob.va [(L.d (Pv.fz true) (Sh.i IntKind.i64) x3_8), (L.d (Pv.fz true) (Sh.i IntKind.i64) x3_9), (L.rw (Id.mk 1 4)), (L.rw (Id.mk 1 5))]), (Ob.ro true 0 26 (Sh.l (Sh.i IntKind.i64)) (Ow.l 3 Ow.z) x3_10 Option.none), (Ob.ro true 0 53 (Sh.p (Sh.l (Sh.i IntKind.i64)) (Sh.p (Sh.l (Sh.i IntKind.i64)) Sh.u)) (Ow.p (Ow.l 3 Ow.z) (Ow.p (Ow.l 3 Ow.z) Ow.z)) x3_11 Option.none)]])
noncomputable def f25W3 (G : St → Option Lf) : f25G3 := fun x3_0 x3_1 x3_2 x3_3 x3_4 x3_5 x3_6 x3_7 x3_8 x3_9 x3_10 x3_11 => G (f25H3 x3_0 x3_1 x3_2 x3_3 x3_4 x3_5 x3_6 x3_7 x3_8 x3_9 x3_10 x3_11)
abbrev f25G4 := Int → Int → Int → Int → (List (List Int)) → (List (List Int × List Int × Unit)) → Int → Int → (List Int) → Int → Int → (List (List Int)) → (List (List Int × List Int × Unit)) → (List Int) → (List Int) → Option Lf
noncomputable def f25H4 (x4_0 : Int) (x4_1 : Int) (x4_2 : Int) (x4_3 : Int) (x4_4 : List (List Int)) (x4_5 : List (List Int × List Int × Unit)) (x4_6 : Int) (x4_7 : Int) (x4_8 : List Int) (x4_9 : Int) (x4_10 : Int) (x4_11 : List (List Int)) (x4_12 : List (List Int × List Int × Unit)) (x4_13 : List Int) (x4_14 : List Int) : St := (St.mk [dead, (D.p (Pt.one (L.pv (Id.mk 1 0) 0))), (D.p (Pt.one (L.pv (Id.mk 1 1) 0))), (D.p (Pt.one (L.rw (Id.mk 1 2)))), (D.p (Pt.one (L.pv (Id.mk 1 3) 0))), dead, dead, dead, dead, dead, (D.p (Pt.one (L.d (Pv.fz true) (Sh.i IntKind.i64) x4_0))), (D.p (Pt.one (L.pv (Id.mk 1 4) 0))), (D.p (Pt.one (L.d (Pv.fz true) (Sh.i IntKind.i64) x4_1))), dead, dead, dead, dead, dead, dead, dead, dead, dead, dead, dead, dead, dead, dead, dead, dead, dead, dead, dead, dead, dead, dead, dead, dead, dead, dead, dead, dead, dead, dead, dead, dead, dead, dead, dead, dead, dead, dead, dead, dead, dead, dead, dead, dead, dead, dead, dead, dead, dead, dead, dead, dead, dead, dead, dead, dead, dead, dead, dead, dead, dead, dead, dead, dead, dead, dead, dead, dead, dead, dead, dead, dead, dead, dead, dead, dead, dead, dead, dead, dead, dead, dead, dead, dead, dead, dead, dead, dead, dead, dead, dead, dead, dead, dead, dead, dead, dead, dead, dead, dead, dead, dead, dead, dead, dead, dead, dead, dead, dead, dead, dead, dead, dead, dead, dead, dead, dead, dead, dead, dead, dead, dead, dead, dead, dead, dead, dead, dead, dead, dead, dead, dead, dead, dead, dead] [[], [(Ob.va [(L.d (Pv.fz true) (Sh.i IntKind.i64) x4_2), (L.d (Pv.fz true) (Sh.i IntKind.i64) x4_3), (L.d (Pv.fz false) (Sh.l (Sh.l (Sh.i IntKind.i64))) x4_4), (L.d (Pv.fz false) (Sh.l (Sh.p (Sh.l (Sh.i IntKind.i64)) (Sh.p (Sh.l (Sh.i IntKind.i64)) Sh.u))) x4_5)]), (Ob.va [(L.d (Pv.fz true) (Sh.i IntKind.i64) x4_6), (L.d (Pv.fz true) (Sh.i IntKind.i64) x4_7), L.nl, L.nl]), (Ob.ro true 0 3 (Sh.i IntKind.i64) Ow.z x4_8 Option.none), (Ob.va [(L.d (Pv.fz true) (Sh.i IntKind.i64) x4_9), (L.d (Pv.fz true) (Sh.i IntKind.i64) x4_10), (L.rw (Id.mk 1 5)), (L.rw (Id.mk 1 6))]), (Ob.va [(L.rw (Id.mk 1 7)), (L.rw (Id.mk 1 8))]), (Ob.ro true 0 26 (Sh.l (Sh.i IntKind.i64)) (Ow.l 3 Ow.z) x4_11 Option.none), (Ob.ro true 0 53 (Sh.p (Sh.l (Sh.i IntKind.i64)) (Sh.p (Sh.l (Sh.i IntKind.i64)) Sh.u)) (Ow.p (Ow.l 3 Ow.z) (Ow.p (Ow.l 3 Ow.z) Ow.z)) x4_12 Option.none), (Ob.ro true 0 3 (Sh.i IntKind.i64) Ow.z x4_13 Option.none), (Ob.ro true 0 3 (Sh.i IntKind.i64) Ow.z x4_14 Option.none)]])
noncomputable def f25W4 (G : St → Option Lf) : f25G4 := fun x4_0 x4_1 x4_2 x4_3 x4_4 x4_5 x4_6 x4_7 x4_8 x4_9 x4_10 x4_11 x4_12 x4_13 x4_14 => G (f25H4 x4_0 x4_1 x4_2 x4_3 x4_4 x4_5 x4_6 x4_7 x4_8 x4_9 x4_10 x4_11 x4_12 x4_13 x4_14)
noncomputable def f25S4  (g3 : f25G3) (g4 : f25G4) (x4_0 : Int) (x4_1 : Int) (x4_2 : Int) (x4_3 : Int) (x4_4 : List (List Int)) (x4_5 : List (List Int × List Int × Unit)) (x4_6 : Int) (x4_7 : Int) (x4_8 : List Int) (x4_9 : Int) (x4_10 : Int) (x4_11 : List (List Int)) (x4_12 : List (List Int × List Int × Unit)) (x4_13 : List Int) (x4_14 : List Int) : Option Lf :=
 bif decide (x4_1 < zn x4_8.length) then
  bif inb x4_0 x4_5.length then
   bif inb x4_1 x4_8.length then
    bif big (x4_5.getD x4_0.toNat ([], [], ())).fst.length then
     bif has (x4_5.getD x4_0.toNat ([], [], ())).fst (x4_8.getD x4_1.toNat 0) then
      bif decide ((x4_13.length + [x4_1].length) * 8 ≤ 140737488355328) then
       bif inb x4_0 x4_5.length then
        bif inb x4_1 x4_8.length then
         bif big (x4_5.getD x4_0.toNat ([], [], ())).snd.fst.length then
          bif has (x4_5.getD x4_0.toNat ([], [], ())).snd.fst (x4_8.getD x4_1.toNat 0) then
           bif decide ((x4_14.length + [x4_1].length) * 8 ≤ 140737488355328) then
            g4 (x4_0 : Int) (IntKind.i64.wrap (x4_1 + 1) : Int) (x4_2 : Int) (x4_3 : Int) (x4_4 : List (List Int)) (x4_5 : List (List Int × List Int × Unit)) (x4_6 : Int) (x4_7 : Int) (x4_8 : List Int) (x4_9 : Int) (x4_10 : Int) (x4_11 : List (List Int)) (x4_12 : List (List Int × List Int × Unit)) (x4_13 ++ [x4_1] : List Int) (x4_14 ++ [x4_1] : List Int)
           else
            none
          else
           g4 (x4_0 : Int) (IntKind.i64.wrap (x4_1 + 1) : Int) (x4_2 : Int) (x4_3 : Int) (x4_4 : List (List Int)) (x4_5 : List (List Int × List Int × Unit)) (x4_6 : Int) (x4_7 : Int) (x4_8 : List Int) (x4_9 : Int) (x4_10 : Int) (x4_11 : List (List Int)) (x4_12 : List (List Int × List Int × Unit)) (x4_13 ++ [x4_1] : List Int) (x4_14 : List Int)
         else
          none
        else
         none
       else
        none
      else
       none
     else
      bif inb x4_0 x4_5.length then
       bif inb x4_1 x4_8.length then
        bif big (x4_5.getD x4_0.toNat ([], [], ())).snd.fst.length then
         bif has (x4_5.getD x4_0.toNat ([], [], ())).snd.fst (x4_8.getD x4_1.toNat 0) then
          bif decide ((x4_14.length + [x4_1].length) * 8 ≤ 140737488355328) then
           g4 (x4_0 : Int) (IntKind.i64.wrap (x4_1 + 1) : Int) (x4_2 : Int) (x4_3 : Int) (x4_4 : List (List Int)) (x4_5 : List (List Int × List Int × Unit)) (x4_6 : Int) (x4_7 : Int) (x4_8 : List Int) (x4_9 : Int) (x4_10 : Int) (x4_11 : List (List Int)) (x4_12 : List (List Int × List Int × Unit)) (x4_13 : List Int) (x4_14 ++ [x4_1] : List Int)
          else
           none
         else
          g4 (x4_0 : Int) (IntKind.i64.wrap (x4_1 + 1) : Int) (x4_2 : Int) (x4_3 : Int) (x4_4 : List (List Int)) (x4_5 : List (List Int × List Int × Unit)) (x4_6 : Int) (x4_7 : Int) (x4_8 : List Int) (x4_9 : Int) (x4_10 : Int) (x4_11 : List (List Int)) (x4_12 : List (List Int × List Int × Unit)) (x4_13 : List Int) (x4_14 : List Int)
        else
         none
       else
        none
      else
       none
    else
     none
   else
    none
  else
   none
 else
  bif decide (zn x4_14.length > 0) then
   bif decide ((x4_12.length + [(x4_13, x4_14, ())].length) * 48 ≤ 140737488355328) then
    g3 (IntKind.i64.wrap (x4_0 + 1) : Int) (x4_2 : Int) (x4_3 : Int) (x4_4 : List (List Int)) (x4_5 : List (List Int × List Int × Unit)) (x4_6 : Int) (x4_7 : Int) (x4_8 : List Int) (x4_9 : Int) (x4_10 : Int) (x4_11 : List (List Int)) (x4_12 ++ [(x4_13, x4_14, ())] : List (List Int × List Int × Unit))
   else
    none
  else
   g3 (IntKind.i64.wrap (x4_0 + 1) : Int) (x4_2 : Int) (x4_3 : Int) (x4_4 : List (List Int)) (x4_5 : List (List Int × List Int × Unit)) (x4_6 : Int) (x4_7 : Int) (x4_8 : List Int) (x4_9 : Int) (x4_10 : Int) (x4_11 : List (List Int)) (x4_12 : List (List Int × List Int × Unit))
noncomputable def f25L4 (n : Nat) (g3 : f25G3) : Nat → f25G4
  | 0 => fun _ _ _ _ _ _ _ _ _ _ _ _ _ _ _ => none
  | m + 1 => fun x4_0 x4_1 x4_2 x4_3 x4_4 x4_5 x4_6 x4_7 x4_8 x4_9 x4_10 x4_11 x4_12 x4_13 x4_14 => f25S4  g3 (f25L4 n g3 m) x4_0 x4_1 x4_2 x4_3 x4_4 x4_5 x4_6 x4_7 x4_8 x4_9 x4_10 x4_11 x4_12 x4_13 x4_14
theorem f25S4_ev (n : Nat) (G3 : St → Option Lf) (G : St → Option Lf) (x4_0 : Int) (x4_1 : Int) (x4_2 : Int) (x4_3 : Int) (x4_4 : List (List Int)) (x4_5 : List (List Int × List Int × Unit)) (x4_6 : Int) (x4_7 : Int) (x4_8 : List Int) (x4_9 : Int) (x4_10 : Int) (x4_11 : List (List Int)) (x4_12 : List (List Int × List Int × Unit)) (x4_13 : List Int) (x4_14 : List Int) : rnd C19 f25h n Lf (codeOf f25f) [1, 1, 1, 1, 0, 1, 0, 0, 1, 0, 0, 1, 0, 1, 0] [G3] (endK C19 f25h f25f) G (f25H4 x4_0 x4_1 x4_2 x4_3 x4_4 x4_5 x4_6 x4_7 x4_8 x4_9 x4_10 x4_11 x4_12 x4_13 x4_14) = f25S4  (f25W3 G3) (f25W4 G) x4_0 x4_1 x4_2 x4_3 x4_4 x4_5 x4_6 x4_7 x4_8 x4_9 x4_10 x4_11 x4_12 x4_13 x4_14 := by kernel_rfl
theorem f25W4_ev (n : Nat) (G3 : St → Option Lf) : ∀ m, (f25W4 (lp C19 f25h n Lf (codeOf f25f) [1, 1, 1, 1, 0, 1, 0, 0, 1, 0, 0, 1, 0, 1, 0] [G3] (endK C19 f25h f25f) m)) = f25L4 n (f25W3 G3) m := by
  intro m
  induction m with
  | zero => funext x4_0 x4_1 x4_2 x4_3 x4_4 x4_5 x4_6 x4_7 x4_8 x4_9 x4_10 x4_11 x4_12 x4_13 x4_14; exact lp_zero _
  | succ m ih =>
    funext x4_0 x4_1 x4_2 x4_3 x4_4 x4_5 x4_6 x4_7 x4_8 x4_9 x4_10 x4_11 x4_12 x4_13 x4_14
    show lp C19 f25h n Lf (codeOf f25f) [1, 1, 1, 1, 0, 1, 0, 0, 1, 0, 0, 1, 0, 1, 0] [G3] (endK C19 f25h f25f) (m + 1) (f25H4 x4_0 x4_1 x4_2 x4_3 x4_4 x4_5 x4_6 x4_7 x4_8 x4_9 x4_10 x4_11 x4_12 x4_13 x4_14) = f25S4  (f25W3 G3) (f25L4 n (f25W3 G3) m) x4_0 x4_1 x4_2 x4_3 x4_4 x4_5 x4_6 x4_7 x4_8 x4_9 x4_10 x4_11 x4_12 x4_13 x4_14
    rw [lp_succ, f25S4_ev, ih]
noncomputable def f25S3 (l4 : f25G4) (g3 : f25G3) (x3_0 : Int) (x3_1 : Int) (x3_2 : Int) (x3_3 : List (List Int)) (x3_4 : List (List Int × List Int × Unit)) (x3_5 : Int) (x3_6 : Int) (x3_7 : List Int) (x3_8 : Int) (x3_9 : Int) (x3_10 : List (List Int)) (x3_11 : List (List Int × List Int × Unit)) : Option Lf :=
 bif decide (x3_0 < zn x3_4.length) then
  l4 (x3_0 : Int) (0 : Int) (x3_1 : Int) (x3_2 : Int) (x3_3 : List (List Int)) (x3_4 : List (List Int × List Int × Unit)) (x3_5 : Int) (x3_6 : Int) (x3_7 : List Int) (x3_8 : Int) (x3_9 : Int) (x3_10 : List (List Int)) (x3_11 : List (List Int × List Int × Unit)) ([] : List Int) ([] : List Int)
 else
  some (Lf.mk [(Pt.agg [(L.d (Pv.fz true) (Sh.i IntKind.i64) (x3_8 : Int)), (L.d (Pv.fz true) (Sh.i IntKind.i64) (x3_9 : Int)), (L.rw (Id.mk 1 0)), (L.rw (Id.mk 1 1))])] [] [(Ob.ro true 0 26 (Sh.l (Sh.i IntKind.i64)) (Ow.l 3 Ow.z) (x3_10 : List (List Int)) Option.none), (Ob.ro true 0 53 (Sh.p (Sh.l (Sh.i IntKind.i64)) (Sh.p (Sh.l (Sh.i IntKind.i64)) Sh.u)) (Ow.p (Ow.l 3 Ow.z) (Ow.p (Ow.l 3 Ow.z) Ow.z)) (x3_11 : List (List Int × List Int × Unit)) Option.none)])
noncomputable def f25L3 (n : Nat)  : Nat → f25G3
  | 0 => fun _ _ _ _ _ _ _ _ _ _ _ _ => none
  | m + 1 => fun x3_0 x3_1 x3_2 x3_3 x3_4 x3_5 x3_6 x3_7 x3_8 x3_9 x3_10 x3_11 => f25S3 (f25L4 n (f25L3 n  m) n)  (f25L3 n  m) x3_0 x3_1 x3_2 x3_3 x3_4 x3_5 x3_6 x3_7 x3_8 x3_9 x3_10 x3_11
theorem f25S3_ev (n : Nat)  (G : St → Option Lf) (x3_0 : Int) (x3_1 : Int) (x3_2 : Int) (x3_3 : List (List Int)) (x3_4 : List (List Int × List Int × Unit)) (x3_5 : Int) (x3_6 : Int) (x3_7 : List Int) (x3_8 : Int) (x3_9 : Int) (x3_10 : List (List Int)) (x3_11 : List (List Int × List Int × Unit)) : rnd C19 f25h n Lf (codeOf f25f) [1, 1, 1, 1, 0, 1, 0] [] (endK C19 f25h f25f) G (f25H3 x3_0 x3_1 x3_2 x3_3 x3_4 x3_5 x3_6 x3_7 x3_8 x3_9 x3_10 x3_11) = f25S3 (f25W4 (lp C19 f25h n Lf (codeOf f25f) [1, 1, 1, 1, 0, 1, 0, 0, 1, 0, 0, 1, 0, 1, 0] [G] (endK C19 f25h f25f) n))  (f25W3 G) x3_0 x3_1 x3_2 x3_3 x3_4 x3_5 x3_6 x3_7 x3_8 x3_9 x3_10 x3_11 := by kernel_rfl
theorem f25W3_ev (n : Nat)  : ∀ m, (f25W3 (lp C19 f25h n Lf (codeOf f25f) [1, 1, 1, 1, 0, 1, 0] [] (endK C19 f25h f25f) m)) = f25L3 n  m := by
  intro m
  induction m with
  | zero => funext x3_0 x3_1 x3_2 x3_3 x3_4 x3_5 x3_6 x3_7 x3_8 x3_9 x3_10 x3_11; exact lp_zero _
  | succ m ih =>
    have e4 : (f25W4 (lp C19 f25h n Lf (codeOf f25f) [1, 1, 1, 1, 0, 1, 0, 0, 1, 0, 0, 1, 0, 1, 0] [(lp C19 f25h n Lf (codeOf f25f) [1, 1, 1, 1, 0, 1, 0] [] (endK C19 f25h f25f) m)] (endK C19 f25h f25f) n)) = (f25L4 n (f25L3 n  m) n) := by
      rw [f25W4_ev, ih]
    funext x3_0 x3_1 x3_2 x3_3 x3_4 x3_5 x3_6 x3_7 x3_8 x3_9 x3_10 x3_11
    show lp C19 f25h n Lf (codeOf f25f) [1, 1, 1, 1, 0, 1, 0] [] (endK C19 f25h f25f) (m + 1) (f25H3 x3_0 x3_1 x3_2 x3_3 x3_4 x3_5 x3_6 x3_7 x3_8 x3_9 x3_10 x3_11) = f25S3 (f25L4 n (f25L3 n  m) n)  (f25L3 n  m) x3_0 x3_1 x3_2 x3_3 x3_4 x3_5 x3_6 x3_7 x3_8 x3_9 x3_10 x3_11
    rw [lp_succ, f25S3_ev, ih, e4]
noncomputable def f25S0 (l1 : f25G1) (l3 : f25G3) (g0 : f25G0) (x0_0 : Int) (x0_1 : Int) (x0_2 : Int) (x0_3 : List (List Int)) (x0_4 : List (List Int × List Int × Unit)) (x0_5 : Int) (x0_6 : Int) (x0_7 : List Int) (x0_8 : Int) (x0_9 : Int) (x0_10 : List (List Int)) (x0_11 : List (List Int × List Int × Unit)) : Option Lf :=
 bif decide (x0_0 < zn x0_7.length) then
  l1 (x0_0 : Int) (0 : Int) (x0_1 : Int) (x0_2 : Int) (x0_3 : List (List Int)) (x0_4 : List (List Int × List Int × Unit)) (x0_5 : Int) (x0_6 : Int) (x0_7 : List Int) (x0_8 : Int) (x0_9 : Int) ([] : List Int) (x0_10 : List (List Int)) (x0_11 : List (List Int × List Int × Unit))
 else
  l3 (0 : Int) (x0_1 : Int) (x0_2 : Int) (x0_3 : List (List Int)) (x0_4 : List (List Int × List Int × Unit)) (x0_5 : Int) (x0_6 : Int) (x0_7 : List Int) (x0_8 : Int) (x0_9 : Int) (x0_10 : List (List Int)) (x0_11 : List (List Int × List Int × Unit))
noncomputable def f25L0 (n : Nat)  : Nat → f25G0
  | 0 => fun _ _ _ _ _ _ _ _ _ _ _ _ => none
  | m + 1 => fun x0_0 x0_1 x0_2 x0_3 x0_4 x0_5 x0_6 x0_7 x0_8 x0_9 x0_10 x0_11 => f25S0 (f25L1 n (f25L0 n  m) n) (f25L3 n  n)  (f25L0 n  m) x0_0 x0_1 x0_2 x0_3 x0_4 x0_5 x0_6 x0_7 x0_8 x0_9 x0_10 x0_11
theorem f25S0_ev (n : Nat)  (G : St → Option Lf) (x0_0 : Int) (x0_1 : Int) (x0_2 : Int) (x0_3 : List (List Int)) (x0_4 : List (List Int × List Int × Unit)) (x0_5 : Int) (x0_6 : Int) (x0_7 : List Int) (x0_8 : Int) (x0_9 : Int) (x0_10 : List (List Int)) (x0_11 : List (List Int × List Int × Unit)) : rnd C19 f25h n Lf (codeOf f25f) [1, 1, 1, 0, 1, 0] [] (endK C19 f25h f25f) G (f25H0 x0_0 x0_1 x0_2 x0_3 x0_4 x0_5 x0_6 x0_7 x0_8 x0_9 x0_10 x0_11) = f25S0 (f25W1 (lp C19 f25h n Lf (codeOf f25f) [1, 1, 1, 0, 1, 0, 0, 1, 0, 0, 1, 0, 1, 0] [G] (endK C19 f25h f25f) n)) (f25W3 (lp C19 f25h n Lf (codeOf f25f) [1, 1, 1, 1, 0, 1, 0] [] (endK C19 f25h f25f) n))  (f25W0 G) x0_0 x0_1 x0_2 x0_3 x0_4 x0_5 x0_6 x0_7 x0_8 x0_9 x0_10 x0_11 := by kernel_rfl
theorem f25W0_ev (n : Nat)  : ∀ m, (f25W0 (lp C19 f25h n Lf (codeOf f25f) [1, 1, 1, 0, 1, 0] [] (endK C19 f25h f25f) m)) = f25L0 n  m := by
  intro m
  induction m with
  | zero => funext x0_0 x0_1 x0_2 x0_3 x0_4 x0_5 x0_6 x0_7 x0_8 x0_9 x0_10 x0_11; exact lp_zero _
  | succ m ih =>
    have e1 : (f25W1 (lp C19 f25h n Lf (codeOf f25f) [1, 1, 1, 0, 1, 0, 0, 1, 0, 0, 1, 0, 1, 0] [(lp C19 f25h n Lf (codeOf f25f) [1, 1, 1, 0, 1, 0] [] (endK C19 f25h f25f) m)] (endK C19 f25h f25f) n)) = (f25L1 n (f25L0 n  m) n) := by
      rw [f25W1_ev, ih]
    have e3 : (f25W3 (lp C19 f25h n Lf (codeOf f25f) [1, 1, 1, 1, 0, 1, 0] [] (endK C19 f25h f25f) n)) = (f25L3 n  n) := by
      rw [f25W3_ev]
    funext x0_0 x0_1 x0_2 x0_3 x0_4 x0_5 x0_6 x0_7 x0_8 x0_9 x0_10 x0_11
    show lp C19 f25h n Lf (codeOf f25f) [1, 1, 1, 0, 1, 0] [] (endK C19 f25h f25f) (m + 1) (f25H0 x0_0 x0_1 x0_2 x0_3 x0_4 x0_5 x0_6 x0_7 x0_8 x0_9 x0_10 x0_11) = f25S0 (f25L1 n (f25L0 n  m) n) (f25L3 n  n)  (f25L0 n  m) x0_0 x0_1 x0_2 x0_3 x0_4 x0_5 x0_6 x0_7 x0_8 x0_9 x0_10 x0_11
    rw [lp_succ, f25S0_ev, ih, e1, e3]
noncomputable def f25T (l0 : f25G0) (p : Int) (i : Int) (nx : List (List Int)) (ps : List (List Int × List Int × Unit)) : Option Lf :=
 l0 (0 : Int) (p : Int) (i : Int) (nx : List (List Int)) (ps : List (List Int × List Int × Unit)) (0 : Int) (0 : Int) ([i] : List Int) (p : Int) (0 : Int) ([] : List (List Int)) ([] : List (List Int × List Int × Unit))
noncomputable def f25M (n : Nat) (p : Int) (i : Int) (nx : List (List Int)) (ps : List (List Int × List Int × Unit)) : Option Lf := f25T (f25L0 n n) p i nx ps
theorem f25T_ev (n : Nat) (p : Int) (i : Int) (nx : List (List Int)) (ps : List (List Int × List Int × Unit)) : evF C19 f25h n f25f [(D.p (Pt.agg [(L.d (Pv.fz true) (Sh.i IntKind.i64) p), (L.d (Pv.fz true) (Sh.i IntKind.i64) i), (L.d (Pv.fz false) (Sh.l (Sh.l (Sh.i IntKind.i64))) nx), (L.d (Pv.fz false) (Sh.l (Sh.p (Sh.l (Sh.i IntKind.i64)) (Sh.p (Sh.l (Sh.i IntKind.i64)) Sh.u))) ps)]))] [] = f25T (f25W0 (lp C19 f25h n Lf (codeOf f25f) [1, 1, 1, 0, 1, 0] [] (endK C19 f25h f25f) n)) p i nx ps := by kernel_rfl
theorem f25_ev (n : Nat) (p : Int) (i : Int) (nx : List (List Int)) (ps : List (List Int × List Int × Unit)) : evF C19 f25h n f25f [(D.p (Pt.agg [(L.d (Pv.fz true) (Sh.i IntKind.i64) p), (L.d (Pv.fz true) (Sh.i IntKind.i64) i), (L.d (Pv.fz false) (Sh.l (Sh.l (Sh.i IntKind.i64))) nx), (L.d (Pv.fz false) (Sh.l (Sh.p (Sh.l (Sh.i IntKind.i64)) (Sh.p (Sh.l (Sh.i IntKind.i64)) Sh.u))) ps)]))] [] = f25M n p i nx ps := by
  rw [f25T_ev, f25W0_ev]
  rfl
end Go.S18
