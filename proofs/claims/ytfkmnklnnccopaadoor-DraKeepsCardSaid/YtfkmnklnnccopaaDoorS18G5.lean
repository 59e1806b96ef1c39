/-
  Seat 18: functional forms of alive and of the document's Right of words.
-/
import Derived.Test.YtfkmnklnnccopaaDoorS18E
open Go Go.En Go.S18
namespace Go.S18
noncomputable def C15 : Ctx := ctxOf C0 [(11, checkS), (13, numS), (17, acceptsS)]

abbrev f8h : Hn := hn0
noncomputable abbrev f8f : Func := fn 8
noncomputable def f8T   : Option Lf :=
 bif drG [[0]] [([], [0], ())] && (m6 0 && m6 1) then
  bif (er1 (seenOk 0 0 [[0]] [([], [0], ())] [] [0])).isNil || true then
   some (Lf.mk [(Pt.one (L.d (Pv.fz true) Sh.b ((er1 (seenOk 0 0 [[0]] [([], [0], ())] [] [0])).isNil && (seenOk 0 0 [[0]] [([], [0], ())] [] [0] && decide (goodI (seenF 0 [[0]] [] [0]) [([], [0], ())] ≥ 0) && ((er1 (drOk 0 0 [[0]] [([], [0], ())])).isNil && true)) : Bool)))] [] [])
  else
   none
 else
  none
noncomputable def f8M (_ : Nat)  : Option Lf := f8T  
theorem f8T_ev (n : Nat)  : evF C15 f8h n f8f [] [] = f8T   := by kernel_rfl
theorem f8_ev (n : Nat)  : evF C15 f8h n f8f [] [] = f8M n  := by
  rw [f8T_ev]
  rfl

abbrev f18h : Hn := h18
noncomputable abbrev f18f : Func := fn 18
abbrev f18G0 := (List ByteArray) → Int → Int → (List Int) → (List Int) → Option Lf
noncomputable def f18H0 (x0_0 : List ByteArray) (x0_1 : Int) (x0_2 : Int) (x0_3 : List Int) (x0_4 : List Int) : St := (St.mk [(D.p (Pt.one (L.d (Pv.fz false) (Sh.l Sh.s) x0_0))), dead, dead, (D.p (Pt.one (L.pv (Id.mk 1 0) 0))), dead, (D.p (Pt.one (L.d (Pv.fz true) (Sh.i IntKind.i64) x0_1))), (D.p (Pt.one (L.d (Pv.fz true) (Sh.i IntKind.i64) x0_2))), dead, dead, dead, dead, dead, dead, dead, dead, dead, dead, dead, dead, dead, dead, dead, dead, dead, dead, dead, dead, dead, dead, dead, dead, dead, dead, dead, dead, dead, dead, dead, dead, dead, dead, dead, dead, dead, dead, dead, dead, dead, dead, dead, dead, dead, dead, dead, dead, dead, dead, dead, dead, dead, dead, dead, dead, dead, dead, dead, dead, dead, dead, dead, dead, dead] [[], [(Ob.va [(L.d (Pv.fz false) (Sh.l (Sh.i IntKind.i64)) x0_3), (L.d (Pv.fz false) (Sh.l (Sh.i IntKind.i64)) x0_4)])]])
noncomputable def f18W0 (G : St → Option Lf) : f18G0 := fun x0_0 x0_1 x0_2 x0_3 x0_4 => G (f18H0 x0_0 x0_1 x0_2 x0_3 x0_4)
abbrev f18G1 := (List ByteArray) → Int → Int → Int → (List Int) → (List Int) → Option Lf
noncomputable def f18H1 (x1_0 : List ByteArray) (x1_1 : Int) (x1_2 : Int) (x1_3 : Int) (x1_4 : List Int) (x1_5 : List Int) : St := (St.mk [(D.p (Pt.one (L.d (Pv.fz false) (Sh.l Sh.s) x1_0))), dead, dead, (D.p (Pt.one (L.pv (Id.mk 1 0) 0))), dead, (D.p (Pt.one (L.d (Pv.fz true) (Sh.i IntKind.i64) x1_1))), (D.p (Pt.one (L.d (Pv.fz true) (Sh.i IntKind.i64) x1_2))), (D.p (Pt.one (L.d (Pv.fz true) (Sh.i IntKind.i64) x1_3))), dead, dead, dead, dead, dead, dead, dead, dead, dead, dead, dead, dead, dead, dead, dead, dead, dead, dead, dead, dead, dead, dead, dead, dead, dead, dead, dead, dead, dead, dead, dead, dead, dead, dead, dead, dead, dead, dead, dead, dead, dead, dead, dead, dead, dead, dead, dead, dead, dead, dead, dead, dead, dead, dead, dead, dead, dead, dead, dead, dead, dead, dead, dead, dead] [[], [(Ob.va [(L.d (Pv.fz false) (Sh.l (Sh.i IntKind.i64)) x1_4), (L.d (Pv.fz false) (Sh.l (Sh.i IntKind.i64)) x1_5)])]])
noncomputable def f18W1 (G : St → Option Lf) : f18G1 := fun x1_0 x1_1 x1_2 x1_3 x1_4 x1_5 => G (f18H1 x1_0 x1_1 x1_2 x1_3 x1_4 x1_5)
noncomputable def f18S1  (g0 : f18G0) (g1 : f18G1) (x1_0 : List ByteArray) (x1_1 : Int) (x1_2 : Int) (x1_3 : Int) (x1_4 : List Int) (x1_5 : List Int) : Option Lf :=
 bif decide (x1_3 < x1_2) then
  bif inb x1_2 x1_0.length then
   bif inb x1_3 x1_0.length then
    bif (x1_0.getD x1_2.toNat { data := #[] }).toList == (x1_0.getD x1_3.toNat { data := #[] }).toList then
     some (Lf.mk [(Pt.one (L.d (Pv.fz true) Sh.b (false : Bool)))] [] [])
    else
     g1 (x1_0 : List ByteArray) (x1_1 : Int) (x1_2 : Int) (IntKind.i64.wrap (x1_3 + 1) : Int) (x1_4 : List Int) (x1_5 : List Int)
   else
    none
  else
   none
 else
  g0 (x1_0 : List ByteArray) (x1_1 : Int) (IntKind.i64.wrap (x1_2 + 1) : Int) (x1_4 : List Int) (x1_5 : List Int)
noncomputable def f18L1 (n : Nat) (g0 : f18G0) : Nat → f18G1
  | 0 => fun _ _ _ _ _ _ => none
  | m + 1 => fun x1_0 x1_1 x1_2 x1_3 x1_4 x1_5 => f18S1  g0 (f18L1 n g0 m) x1_0 x1_1 x1_2 x1_3 x1_4 x1_5
theorem f18S1_ev (n : Nat) (G0 : St → Option Lf) (G : St → Option Lf) (x1_0 : List ByteArray) (x1_1 : Int) (x1_2 : Int) (x1_3 : Int) (x1_4 : List Int) (x1_5 : List Int) : rnd C10 f18h n Lf (codeOf f18f) [1, 1, 1, 0, 1, 0, 0, 1, 0, 0, 1, 1, 0] [G0] (endK C10 f18h f18f) G (f18H1 x1_0 x1_1 x1_2 x1_3 x1_4 x1_5) = f18S1  (f18W0 G0) (f18W1 G) x1_0 x1_1 x1_2 x1_3 x1_4 x1_5 := by kernel_rfl
theorem f18W1_ev (n : Nat) (G0 : St → Option Lf) : ∀ m, (f18W1 (lp C10 f18h n Lf (codeOf f18f) [1, 1, 1, 0, 1, 0, 0, 1, 0, 0, 1, 1, 0] [G0] (endK C10 f18h f18f) m)) = f18L1 n (f18W0 G0) m := by
  intro m
  induction m with
  | zero => funext x1_0 x1_1 x1_2 x1_3 x1_4 x1_5; exact lp_zero _
  | succ m ih =>
    funext x1_0 x1_1 x1_2 x1_3 x1_4 x1_5
    show lp C10 f18h n Lf (codeOf f18f) [1, 1, 1, 0, 1, 0, 0, 1, 0, 0, 1, 1, 0] [G0] (endK C10 f18h f18f) (m + 1) (f18H1 x1_0 x1_1 x1_2 x1_3 x1_4 x1_5) = f18S1  (f18W0 G0) (f18L1 n (f18W0 G0) m) x1_0 x1_1 x1_2 x1_3 x1_4 x1_5
    rw [lp_succ, f18S1_ev, ih]
abbrev f18G2 := Int → Int → (List Int) → (List Int) → Option Lf
noncomputable def f18H2 (x2_0 : Int) (x2_1 : Int) (x2_2 : List Int) (x2_3 : List Int) : St := (St.mk [dead, dead, dead, (D.p (Pt.one (L.pv (Id.mk 1 0) 0))), dead, (D.p (Pt.one (L.d (Pv.fz true) (Sh.i IntKind.i64) x2_0))), dead, dead, (D.p (Pt.one (L.d (Pv.fz true) (Sh.i IntKind.i64) x2_1))), dead, dead, dead, dead, dead, dead, dead, dead, dead, dead, dead, dead, dead, dead, dead, dead, dead, dead, dead, dead, dead, dead, dead, dead, dead, dead, dead, dead, dead, dead, dead, dead, dead, dead, dead, dead, dead, dead, dead, dead, dead, dead, dead, dead, dead, dead, dead, dead, dead, dead, dead, dead, dead, dead, dead, dead, dead, dead, dead, dead, dead, dead, dead] [[], [(Ob.va [(L.d (Pv.fz false) (Sh.l (Sh.i IntKind.i64)) x2_2), (L.d (Pv.fz false) (Sh.l (Sh.i IntKind.i64)) x2_3)])]])
noncomputable def f18W2 (G : St → Option Lf) : f18G2 := fun x2_0 x2_1 x2_2 x2_3 => G (f18H2 x2_0 x2_1 x2_2 x2_3)
noncomputable def f18S2  (g2 : f18G2) (x2_0 : Int) (x2_1 : Int) (x2_2 : List Int) (x2_3 : List Int) : Option Lf :=
 bif decide (x2_1 < IntKind.i64.wrap (zn x2_2.length + zn x2_3.length)) then
  bif big x2_2.length && (Nat.blt 0 x2_3.length && (big x2_3.length && (decide (0 ≤ x2_1) && decide (x2_1 ≤ 9223372036854775806)))) then
   bif decide (letF x2_2 x2_3 x2_1.toNat < 0) || decide (letF x2_2 x2_3 x2_1.toNat ≥ x2_0) then
    some (Lf.mk [(Pt.one (L.d (Pv.fz true) Sh.b (false : Bool)))] [] [])
   else
    g2 (x2_0 : Int) (IntKind.i64.wrap (x2_1 + 1) : Int) (x2_2 : List Int) (x2_3 : List Int)
  else
   none
 else
  some (Lf.mk [(Pt.one (L.d (Pv.fz true) Sh.b (true : Bool)))] [] [])
noncomputable def f18L2 (n : Nat)  : Nat → f18G2
  | 0 => fun _ _ _ _ => none
  | m + 1 => fun x2_0 x2_1 x2_2 x2_3 => f18S2   (f18L2 n  m) x2_0 x2_1 x2_2 x2_3
theorem f18S2_ev (n : Nat)  (G : St → Option Lf) (x2_0 : Int) (x2_1 : Int) (x2_2 : List Int) (x2_3 : List Int) : rnd C10 f18h n Lf (codeOf f18f) [1, 1, 1, 1, 0, 1, 0] [] (endK C10 f18h f18f) G (f18H2 x2_0 x2_1 x2_2 x2_3) = f18S2   (f18W2 G) x2_0 x2_1 x2_2 x2_3 := by kernel_rfl
theorem f18W2_ev (n : Nat)  : ∀ m, (f18W2 (lp C10 f18h n Lf (codeOf f18f) [1, 1, 1, 1, 0, 1, 0] [] (endK C10 f18h f18f) m)) = f18L2 n  m := by
  intro m
  induction m with
  | zero => funext x2_0 x2_1 x2_2 x2_3; exact lp_zero _
  | succ m ih =>
    funext x2_0 x2_1 x2_2 x2_3
    show lp C10 f18h n Lf (codeOf f18f) [1, 1, 1, 1, 0, 1, 0] [] (endK C10 f18h f18f) (m + 1) (f18H2 x2_0 x2_1 x2_2 x2_3) = f18S2   (f18L2 n  m) x2_0 x2_1 x2_2 x2_3
    rw [lp_succ, f18S2_ev, ih]
noncomputable def f18S0 (l1 : f18G1) (l2 : f18G2) (g0 : f18G0) (x0_0 : List ByteArray) (x0_1 : Int) (x0_2 : Int) (x0_3 : List Int) (x0_4 : List Int) : Option Lf :=
 bif decide (x0_2 < zn x0_0.length) then
  l1 (x0_0 : List ByteArray) (IntKind.i64.wrap (2 * x0_1) : Int) (x0_2 : Int) (0 : Int) (x0_3 : List Int) (x0_4 : List Int)
 else
  l2 (x0_1 : Int) (0 : Int) (x0_3 : List Int) (x0_4 : List Int)
noncomputable def f18L0 (n : Nat)  : Nat → f18G0
  | 0 => fun _ _ _ _ _ => none
  | m + 1 => fun x0_0 x0_1 x0_2 x0_3 x0_4 => f18S0 (f18L1 n (f18L0 n  m) n) (f18L2 n  n)  (f18L0 n  m) x0_0 x0_1 x0_2 x0_3 x0_4
theorem f18S0_ev (n : Nat)  (G : St → Option Lf) (x0_0 : List ByteArray) (x0_1 : Int) (x0_2 : Int) (x0_3 : List Int) (x0_4 : List Int) : rnd C10 f18h n Lf (codeOf f18f) [1, 1, 1, 0, 1, 0] [] (endK C10 f18h f18f) G (f18H0 x0_0 x0_1 x0_2 x0_3 x0_4) = f18S0 (f18W1 (lp C10 f18h n Lf (codeOf f18f) [1, 1, 1, 0, 1, 0, 0, 1, 0, 0, 1, 1, 0] [G] (endK C10 f18h f18f) n)) (f18W2 (lp C10 f18h n Lf (codeOf f18f) [1, 1, 1, 1, 0, 1, 0] [] (endK C10 f18h f18f) n))  (f18W0 G) x0_0 x0_1 x0_2 x0_3 x0_4 := by kernel_rfl
theorem f18W0_ev (n : Nat)  : ∀ m, (f18W0 (lp C10 f18h n Lf (codeOf f18f) [1, 1, 1, 0, 1, 0] [] (endK C10 f18h f18f) m)) = f18L0 n  m := by
  intro m
  induction m with
  | zero => funext x0_0 x0_1 x0_2 x0_3 x0_4; exact lp_zero _
  | succ m ih =>
    have e1 : (f18W1 (lp C10 f18h n Lf (codeOf f18f) [1, 1, 1, 0, 1, 0, 0, 1, 0, 0, 1, 1, 0] [(lp C10 f18h n Lf (codeOf f18f) [1, 1, 1, 0, 1, 0] [] (endK C10 f18h f18f) m)] (endK C10 f18h f18f) n)) = (f18L1 n (f18L0 n  m) n) := by
      rw [f18W1_ev, ih]
    have e2 : (f18W2 (lp C10 f18h n Lf (codeOf f18f) [1, 1, 1, 1, 0, 1, 0] [] (endK C10 f18h f18f) n)) = (f18L2 n  n) := by
      rw [f18W2_ev]
    funext x0_0 x0_1 x0_2 x0_3 x0_4
    show lp C10 f18h n Lf (codeOf f18f) [1, 1, 1, 0, 1, 0] [] (endK C10 f18h f18f) (m + 1) (f18H0 x0_0 x0_1 x0_2 x0_3 x0_4) = f18S0 (f18L1 n (f18L0 n  m) n) (f18L2 n  n)  (f18L0 n  m) x0_0 x0_1 x0_2 x0_3 x0_4
    rw [lp_succ, f18S0_ev, ih, e1, e2]
noncomputable def f18T (l0 : f18G0) (ns : List ByteArray) (s : List Int) (l : List Int) : Option Lf :=
 bif decide (zn ns.length > 6) || Nat.beq 1 1 && (zn l.length == 0 || true) then
  bif decide (zn ns.length > 6) || (zn l.length == 0 || decide (IntKind.i64.wrap (zn s.length + zn l.length) > 64)) then
   some (Lf.mk [(Pt.one (L.d (Pv.fz true) Sh.b (false : Bool)))] [] [])
  else
   l0 (ns : List ByteArray) (1 : Int) (0 : Int) (s : List Int) (l : List Int)
 else
  none
noncomputable def f18M (n : Nat) (ns : List ByteArray) (s : List Int) (l : List Int) : Option Lf := f18T (f18L0 n n) ns s l
theorem f18T_ev (n : Nat) (ns : List ByteArray) (s : List Int) (l : List Int) : evF C10 f18h n f18f [(D.p (Pt.one (L.d (Pv.fz false) (Sh.l Sh.s) ns))), (D.p (Pt.agg [(L.d (Pv.fz false) (Sh.l (Sh.i IntKind.i64)) s), (L.d (Pv.fz false) (Sh.l (Sh.i IntKind.i64)) l)]))] [] = f18T (f18W0 (lp C10 f18h n Lf (codeOf f18f) [1, 1, 1, 0, 1, 0] [] (endK C10 f18h f18f) n)) ns s l := by kernel_rfl
theorem f18_ev (n : Nat) (ns : List ByteArray) (s : List Int) (l : List Int) : evF C10 f18h n f18f [(D.p (Pt.one (L.d (Pv.fz false) (Sh.l Sh.s) ns))), (D.p (Pt.agg [(L.d (Pv.fz false) (Sh.l (Sh.i IntKind.i64)) s), (L.d (Pv.fz false) (Sh.l (Sh.i IntKind.i64)) l)]))] [] = f18M n ns s l := by
  rw [f18T_ev, f18W0_ev]
  rfl
end Go.S18
