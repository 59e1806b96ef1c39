/-
  Seat 18: functional forms of the least functions.
-/
import Derived.Test.YtfkmnklnnccopaaDoorS18A
open Go Go.En Go.S18
namespace Go.S18
noncomputable def C1 : Ctx := ctxOf C0 []
def h28 : Hn := ⟨fun | 3 => [1, 5, 8, 9, 10] | _ => [], fun _ => [], fun _ => false⟩
def h29 : Hn := ⟨fun | 3 => [0, 3, 4] | _ => [], fun _ => [], fun _ => false⟩
def h30 : Hn := ⟨fun | 2 => [0, 1, 5] | _ => [], fun _ => [], fun _ => false⟩
def h20 : Hn := ⟨fun | 4 => [0, 1, 5] | _ => [], fun _ => [], fun _ => false⟩
def h52 : Hn := ⟨fun | 2 => [0, 1, 7, 8] | _ => [], fun _ => [], fun _ => false⟩
def h9 : Hn := ⟨fun | 4 => [1, 3] | _ => [], fun _ => [], fun _ => false⟩
def dW (s l : List Int) : D := .p (.agg [.d (.fz false) (.l (.i .i64)) s, .d (.fz false) (.l (.i .i64)) l])

abbrev f27h : Hn := hn0
noncomputable abbrev f27f : Func := fn 27
noncomputable def f27T  (x : Int) (z : Int) : Option Lf :=
 bif decide (x < 0) || true then
  some (Lf.mk [(Pt.one (L.d (Pv.fz true) Sh.b (decide (x < 0) || decide (x ≥ z) : Bool)))] [(Ob.va [(L.d (Pv.fz true) (Sh.i IntKind.i64) (z : Int))])] [])
 else
  none
noncomputable def f27M (_ : Nat) (x : Int) (z : Int) : Option Lf := f27T  x z
theorem f27T_ev (n : Nat) (x : Int) (z : Int) : evF C1 f27h n f27f [(D.p (Pt.one (L.d (Pv.fz true) (Sh.i IntKind.i64) x))), (D.p (Pt.one (L.pv (Id.mk 0 0) 0)))] [(Ob.va [(L.d (Pv.fz true) (Sh.i IntKind.i64) z)])] = f27T  x z := by kernel_rfl
theorem f27_ev (n : Nat) (x : Int) (z : Int) : evF C1 f27h n f27f [(D.p (Pt.one (L.d (Pv.fz true) (Sh.i IntKind.i64) x))), (D.p (Pt.one (L.pv (Id.mk 0 0) 0)))] [(Ob.va [(L.d (Pv.fz true) (Sh.i IntKind.i64) z)])] = f27M n x z := by
  rw [f27T_ev]
  rfl

abbrev f37h : Hn := hn0
noncomputable abbrev f37f : Func := fn 37
noncomputable def f37T  (x : Int) (p : Int) (i : Int) (nx : List (List Int)) (ps : List (List Int × List Int × PUnit)) : Option Lf :=
 bif decide (x < 0) || Nat.beq 1 1 && (decide (0 ≤ p) && true) then
  some (Lf.mk [(Pt.one (L.d (Pv.fz true) Sh.b (decide (x < 0) || decide (x ≥ shlF IntKind.i64 1 p) : Bool)))] [(Ob.va [(L.d (Pv.fz true) (Sh.i IntKind.i64) (p : Int)), (L.d (Pv.fz true) (Sh.i IntKind.i64) (i : Int)), (L.d (Pv.fz false) (Sh.l (Sh.l (Sh.i IntKind.i64))) (nx : List (List Int))), (L.d (Pv.fz false) (Sh.l (Sh.p (Sh.l (Sh.i IntKind.i64)) (Sh.p (Sh.l (Sh.i IntKind.i64)) Sh.u))) (ps : List (List Int × List Int × PUnit)))])] [])
 else
  none
noncomputable def f37M (_ : Nat) (x : Int) (p : Int) (i : Int) (nx : List (List Int)) (ps : List (List Int × List Int × PUnit)) : Option Lf := f37T  x p i nx ps
theorem f37T_ev (n : Nat) (x : Int) (p : Int) (i : Int) (nx : List (List Int)) (ps : List (List Int × List Int × PUnit)) : evF C1 f37h n f37f [(D.p (Pt.one (L.d (Pv.fz true) (Sh.i IntKind.i64) x))), (D.p (Pt.one (L.pv (Id.mk 0 0) 0)))] [(Ob.va [(L.d (Pv.fz true) (Sh.i IntKind.i64) p), (L.d (Pv.fz true) (Sh.i IntKind.i64) i), (L.d (Pv.fz false) (Sh.l (Sh.l (Sh.i IntKind.i64))) nx), (L.d (Pv.fz false) (Sh.l (Sh.p (Sh.l (Sh.i IntKind.i64)) (Sh.p (Sh.l (Sh.i IntKind.i64)) Sh.u))) ps)])] = f37T  x p i nx ps := by kernel_rfl
theorem f37_ev (n : Nat) (x : Int) (p : Int) (i : Int) (nx : List (List Int)) (ps : List (List Int × List Int × PUnit)) : evF C1 f37h n f37f [(D.p (Pt.one (L.d (Pv.fz true) (Sh.i IntKind.i64) x))), (D.p (Pt.one (L.pv (Id.mk 0 0) 0)))] [(Ob.va [(L.d (Pv.fz true) (Sh.i IntKind.i64) p), (L.d (Pv.fz true) (Sh.i IntKind.i64) i), (L.d (Pv.fz false) (Sh.l (Sh.l (Sh.i IntKind.i64))) nx), (L.d (Pv.fz false) (Sh.l (Sh.p (Sh.l (Sh.i IntKind.i64)) (Sh.p (Sh.l (Sh.i IntKind.i64)) Sh.u))) ps)])] = f37M n x p i nx ps := by
  rw [f37T_ev]
  rfl

abbrev f28h : Hn := h28
noncomputable abbrev f28f : Func := fn 28
abbrev f28G0 := Int → Int → (List Int) → Int → Int → Option Lf
noncomputable def f28H0 (x0_0 : Int) (x0_1 : Int) (x0_2 : List Int) (x0_3 : Int) (x0_4 : Int) : St := (St.mk [dead, (D.p (Pt.one (L.d (Pv.fz true) (Sh.i IntKind.i64) x0_0))), dead, dead, dead, (D.p (Pt.one (L.d (Pv.fz true) (Sh.i IntKind.i64) x0_1))), dead, dead, (D.p (Pt.one (L.d (Pv.fz false) (Sh.l (Sh.i IntKind.i64)) x0_2))), (D.p (Pt.one (L.d (Pv.fz true) (Sh.i IntKind.i64) x0_3))), (D.p (Pt.one (L.d (Pv.fz true) (Sh.i IntKind.i64) x0_4))), dead, dead, dead, dead, dead, dead, dead, dead, dead, dead, dead, dead, dead] [[], []])
noncomputable def f28W0 (G : St → Option Lf) : f28G0 := fun x0_0 x0_1 x0_2 x0_3 x0_4 => G (f28H0 x0_0 x0_1 x0_2 x0_3 x0_4)
noncomputable def f28S0  (g0 : f28G0) (x0_0 : Int) (x0_1 : Int) (x0_2 : List Int) (x0_3 : Int) (x0_4 : Int) : Option Lf :=
 bif decide (x0_4 < x0_3) then
  bif inb x0_4 x0_2.length then
   bif decide (x0_2.getD x0_4.toNat 0 ≤ x0_1) || decide (x0_2.getD x0_4.toNat 0 ≥ x0_0) then
    some (Lf.mk [(Pt.one (L.d (Pv.fz true) Sh.b (false : Bool)))] [] [])
   else
    g0 (x0_0 : Int) (x0_2.getD x0_4.toNat 0 : Int) (x0_2 : List Int) (x0_3 : Int) (IntKind.i64.wrap (x0_4 + 1) : Int)
  else
   none
 else
  some (Lf.mk [(Pt.one (L.d (Pv.fz true) Sh.b (true : Bool)))] [] [])
noncomputable def f28L0 (n : Nat)  : Nat → f28G0
  | 0 => fun _ _ _ _ _ => none
  | m + 1 => fun x0_0 x0_1 x0_2 x0_3 x0_4 => f28S0   (f28L0 n  m) x0_0 x0_1 x0_2 x0_3 x0_4
theorem f28S0_ev (n : Nat)  (G : St → Option Lf) (x0_0 : Int) (x0_1 : Int) (x0_2 : List Int) (x0_3 : Int) (x0_4 : Int) : rnd C1 f28h n Lf (codeOf f28f) [1, 1, 0, 1, 0] [] (endK C1 f28h f28f) G (f28H0 x0_0 x0_1 x0_2 x0_3 x0_4) = f28S0   (f28W0 G) x0_0 x0_1 x0_2 x0_3 x0_4 := by kernel_rfl
theorem f28W0_ev (n : Nat)  : ∀ m, (f28W0 (lp C1 f28h n Lf (codeOf f28f) [1, 1, 0, 1, 0] [] (endK C1 f28h f28f) m)) = f28L0 n  m := by
  intro m
  induction m with
  | zero => funext x0_0 x0_1 x0_2 x0_3 x0_4; exact lp_zero _
  | succ m ih =>
    funext x0_0 x0_1 x0_2 x0_3 x0_4
    show lp C1 f28h n Lf (codeOf f28f) [1, 1, 0, 1, 0] [] (endK C1 f28h f28f) (m + 1) (f28H0 x0_0 x0_1 x0_2 x0_3 x0_4) = f28S0   (f28L0 n  m) x0_0 x0_1 x0_2 x0_3 x0_4
    rw [lp_succ, f28S0_ev, ih]
noncomputable def f28T (l0 : f28G0) (l : List Int) (z : Int) : Option Lf :=
 l0 (z : Int) (-1 : Int) (l : List Int) (zn l.length : Int) (0 : Int)
noncomputable def f28M (n : Nat) (l : List Int) (z : Int) : Option Lf := f28T (f28L0 n n) l z
theorem f28T_ev (n : Nat) (l : List Int) (z : Int) : evF C1 f28h n f28f [(D.p (Pt.one (L.d (Pv.fz false) (Sh.l (Sh.i IntKind.i64)) l))), (D.p (Pt.one (L.d (Pv.fz true) (Sh.i IntKind.i64) z)))] [] = f28T (f28W0 (lp C1 f28h n Lf (codeOf f28f) [1, 1, 0, 1, 0] [] (endK C1 f28h f28f) n)) l z := by kernel_rfl
theorem f28_ev (n : Nat) (l : List Int) (z : Int) : evF C1 f28h n f28f [(D.p (Pt.one (L.d (Pv.fz false) (Sh.l (Sh.i IntKind.i64)) l))), (D.p (Pt.one (L.d (Pv.fz true) (Sh.i IntKind.i64) z)))] [] = f28M n l z := by
  rw [f28T_ev, f28W0_ev]
  rfl

abbrev f29h : Hn := h29
noncomputable abbrev f29f : Func := fn 29
abbrev f29G0 := Int → Int → Int → Option Lf
noncomputable def f29H0 (x0_0 : Int) (x0_1 : Int) (x0_2 : Int) : St := (St.mk [(D.p (Pt.one (L.d (Pv.fz true) (Sh.i IntKind.i64) x0_0))), dead, dead, (D.p (Pt.one (L.d (Pv.fz true) (Sh.i IntKind.i64) x0_1))), (D.p (Pt.one (L.d (Pv.fz true) (Sh.i IntKind.i64) x0_2))), dead, dead, dead, dead, dead, dead, dead, dead] [[], []])
noncomputable def f29W0 (G : St → Option Lf) : f29G0 := fun x0_0 x0_1 x0_2 => G (f29H0 x0_0 x0_1 x0_2)
noncomputable def f29S0  (g0 : f29G0) (x0_0 : Int) (x0_1 : Int) (x0_2 : Int) : Option Lf :=
 bif decide (x0_2 < x0_0) then
  g0 (x0_0 : Int) (IntKind.i64.wrap (2 * x0_1) : Int) (IntKind.i64.wrap (x0_2 + 1) : Int)
 else
  some (Lf.mk [(Pt.one (L.d (Pv.fz true) (Sh.i IntKind.i64) (x0_1 : Int)))] [] [])
noncomputable def f29L0 (n : Nat)  : Nat → f29G0
  | 0 => fun _ _ _ => none
  | m + 1 => fun x0_0 x0_1 x0_2 => f29S0   (f29L0 n  m) x0_0 x0_1 x0_2
theorem f29S0_ev (n : Nat)  (G : St → Option Lf) (x0_0 : Int) (x0_1 : Int) (x0_2 : Int) : rnd C1 f29h n Lf (codeOf f29f) [1, 1, 0, 1, 0] [] (endK C1 f29h f29f) G (f29H0 x0_0 x0_1 x0_2) = f29S0   (f29W0 G) x0_0 x0_1 x0_2 := by kernel_rfl
theorem f29W0_ev (n : Nat)  : ∀ m, (f29W0 (lp C1 f29h n Lf (codeOf f29f) [1, 1, 0, 1, 0] [] (endK C1 f29h f29f) m)) = f29L0 n  m := by
  intro m
  induction m with
  | zero => funext x0_0 x0_1 x0_2; exact lp_zero _
  | succ m ih =>
    funext x0_0 x0_1 x0_2
    show lp C1 f29h n Lf (codeOf f29f) [1, 1, 0, 1, 0] [] (endK C1 f29h f29f) (m + 1) (f29H0 x0_0 x0_1 x0_2) = f29S0   (f29L0 n  m) x0_0 x0_1 x0_2
    rw [lp_succ, f29S0_ev, ih]
noncomputable def f29T (l0 : f29G0) (z : Int) : Option Lf :=
 l0 (z : Int) (1 : Int) (0 : Int)
noncomputable def f29M (n : Nat) (z : Int) : Option Lf := f29T (f29L0 n n) z
theorem f29T_ev (n : Nat) (z : Int) : evF C1 f29h n f29f [(D.p (Pt.one (L.d (Pv.fz true) (Sh.i IntKind.i64) z)))] [] = f29T (f29W0 (lp C1 f29h n Lf (codeOf f29f) [1, 1, 0, 1, 0] [] (endK C1 f29h f29f) n)) z := by kernel_rfl
theorem f29_ev (n : Nat) (z : Int) : evF C1 f29h n f29f [(D.p (Pt.one (L.d (Pv.fz true) (Sh.i IntKind.i64) z)))] [] = f29M n z := by
  rw [f29T_ev, f29W0_ev]
  rfl

abbrev f30h : Hn := h30
noncomputable abbrev f30f : Func := fn 30
abbrev f30G0 := (List Int) → Int → Int → Option Lf
noncomputable def f30H0 (x0_0 : List Int) (x0_1 : Int) (x0_2 : Int) : St := (St.mk [(D.p (Pt.one (L.d (Pv.fz false) (Sh.l (Sh.i IntKind.i64)) x0_0))), (D.p (Pt.one (L.d (Pv.fz true) (Sh.i IntKind.i64) x0_1))), dead, dead, dead, (D.p (Pt.one (L.d (Pv.fz true) (Sh.i IntKind.i64) x0_2))), dead, dead, dead, dead, dead, dead, dead, dead, dead, dead, dead, dead, dead, dead, dead, dead, dead, dead, dead, dead, dead, dead, dead, dead, dead, dead, dead, dead, dead, dead, dead, dead, dead, dead, dead] [[], []])
noncomputable def f30W0 (G : St → Option Lf) : f30G0 := fun x0_0 x0_1 x0_2 => G (f30H0 x0_0 x0_1 x0_2)
noncomputable def f30S0  (g0 : f30G0) (x0_0 : List Int) (x0_1 : Int) (x0_2 : Int) : Option Lf :=
 bif decide (x0_2 < zn x0_0.length) then
  bif Nat.beq 1 1 && (inb x0_2 x0_0.length && (Nat.beq 1 1 && (decide (x0_0.getD x0_2.toNat 0 < 0) || Nat.beq 1 1 && (inb x0_2 x0_0.length && (Nat.beq 1 1 && (decide (x0_0.getD x0_2.toNat 0 ≥ x0_1) || bif decide (x0_2 > 0) then Nat.beq 1 1 && (inb x0_2 x0_0.length && (Nat.beq 1 1 && (Nat.beq 1 1 && (inb (IntKind.i64.wrap (x0_2 - 1)) x0_0.length && true)))) else true)))))) then
   bif decide (x0_0.getD x0_2.toNat 0 < 0) || (decide (x0_0.getD x0_2.toNat 0 ≥ x0_1) || decide (x0_2 > 0) && decide (x0_0.getD x0_2.toNat 0 ≤ x0_0.getD (IntKind.i64.wrap (x0_2 - 1)).toNat 0)) then
    some (Lf.mk [(Pt.one (L.d (Pv.fz true) Sh.b (false : Bool)))] [] [])
   else
    g0 (x0_0 : List Int) (x0_1 : Int) (IntKind.i64.wrap (x0_2 + 1) : Int)
  else
   none
 else
  some (Lf.mk [(Pt.one (L.d (Pv.fz true) Sh.b (true : Bool)))] [] [])
noncomputable def f30L0 (n : Nat)  : Nat → f30G0
  | 0 => fun _ _ _ => none
  | m + 1 => fun x0_0 x0_1 x0_2 => f30S0   (f30L0 n  m) x0_0 x0_1 x0_2
theorem f30S0_ev (n : Nat)  (G : St → Option Lf) (x0_0 : List Int) (x0_1 : Int) (x0_2 : Int) : rnd C1 f30h n Lf (codeOf f30f) [1, 0, 1, 0] [] (endK C1 f30h f30f) G (f30H0 x0_0 x0_1 x0_2) = f30S0   (f30W0 G) x0_0 x0_1 x0_2 := by kernel_rfl
theorem f30W0_ev (n : Nat)  : ∀ m, (f30W0 (lp C1 f30h n Lf (codeOf f30f) [1, 0, 1, 0] [] (endK C1 f30h f30f) m)) = f30L0 n  m := by
  intro m
  induction m with
  | zero => funext x0_0 x0_1 x0_2; exact lp_zero _
  | succ m ih =>
    funext x0_0 x0_1 x0_2
    show lp C1 f30h n Lf (codeOf f30f) [1, 0, 1, 0] [] (endK C1 f30h f30f) (m + 1) (f30H0 x0_0 x0_1 x0_2) = f30S0   (f30L0 n  m) x0_0 x0_1 x0_2
    rw [lp_succ, f30S0_ev, ih]
noncomputable def f30T (l0 : f30G0) (l : List Int) (z : Int) : Option Lf :=
 l0 (l : List Int) (z : Int) (0 : Int)
noncomputable def f30M (n : Nat) (l : List Int) (z : Int) : Option Lf := f30T (f30L0 n n) l z
theorem f30T_ev (n : Nat) (l : List Int) (z : Int) : evF C1 f30h n f30f [(D.p (Pt.one (L.d (Pv.fz false) (Sh.l (Sh.i IntKind.i64)) l))), (D.p (Pt.one (L.d (Pv.fz true) (Sh.i IntKind.i64) z)))] [] = f30T (f30W0 (lp C1 f30h n Lf (codeOf f30f) [1, 0, 1, 0] [] (endK C1 f30h f30f) n)) l z := by kernel_rfl
theorem f30_ev (n : Nat) (l : List Int) (z : Int) : evF C1 f30h n f30f [(D.p (Pt.one (L.d (Pv.fz false) (Sh.l (Sh.i IntKind.i64)) l))), (D.p (Pt.one (L.d (Pv.fz true) (Sh.i IntKind.i64) z)))] [] = f30M n l z := by
  rw [f30T_ev, f30W0_ev]
  rfl

abbrev f35h : Hn := h30
noncomputable abbrev f35f : Func := fn 35
abbrev f35G0 := (List Int) → Int → Int → Option Lf
noncomputable def f35H0 (x0_0 : List Int) (x0_1 : Int) (x0_2 : Int) : St := (St.mk [(D.p (Pt.one (L.d (Pv.fz false) (Sh.l (Sh.i IntKind.i64)) x0_0))), (D.p (Pt.one (L.d (Pv.fz true) (Sh.i IntKind.i64) x0_1))), dead, dead, dead, (D.p (Pt.one (L.d (Pv.fz true) (Sh.i IntKind.i64) x0_2))), dead, dead, dead, dead, dead, dead, dead, dead, dead, dead, dead, dead] [[], []])
noncomputable def f35W0 (G : St → Option Lf) : f35G0 := fun x0_0 x0_1 x0_2 => G (f35H0 x0_0 x0_1 x0_2)
noncomputable def f35S0  (g0 : f35G0) (x0_0 : List Int) (x0_1 : Int) (x0_2 : Int) : Option Lf :=
 bif decide (x0_2 < zn x0_0.length) then
  bif inb x0_2 x0_0.length then
   bif x0_0.getD x0_2.toNat 0 == x0_1 then
    some (Lf.mk [(Pt.one (L.d (Pv.fz true) Sh.b (true : Bool)))] [] [])
   else
    g0 (x0_0 : List Int) (x0_1 : Int) (IntKind.i64.wrap (x0_2 + 1) : Int)
  else
   none
 else
  some (Lf.mk [(Pt.one (L.d (Pv.fz true) Sh.b (false : Bool)))] [] [])
noncomputable def f35L0 (n : Nat)  : Nat → f35G0
  | 0 => fun _ _ _ => none
  | m + 1 => fun x0_0 x0_1 x0_2 => f35S0   (f35L0 n  m) x0_0 x0_1 x0_2
theorem f35S0_ev (n : Nat)  (G : St → Option Lf) (x0_0 : List Int) (x0_1 : Int) (x0_2 : Int) : rnd C1 f35h n Lf (codeOf f35f) [1, 0, 1, 0] [] (endK C1 f35h f35f) G (f35H0 x0_0 x0_1 x0_2) = f35S0   (f35W0 G) x0_0 x0_1 x0_2 := by kernel_rfl
theorem f35W0_ev (n : Nat)  : ∀ m, (f35W0 (lp C1 f35h n Lf (codeOf f35f) [1, 0, 1, 0] [] (endK C1 f35h f35f) m)) = f35L0 n  m := by
  intro m
  induction m with
  | zero => funext x0_0 x0_1 x0_2; exact lp_zero _
  | succ m ih =>
    funext x0_0 x0_1 x0_2
    show lp C1 f35h n Lf (codeOf f35f) [1, 0, 1, 0] [] (endK C1 f35h f35f) (m + 1) (f35H0 x0_0 x0_1 x0_2) = f35S0   (f35L0 n  m) x0_0 x0_1 x0_2
    rw [lp_succ, f35S0_ev, ih]
noncomputable def f35T (l0 : f35G0) (l : List Int) (x : Int) : Option Lf :=
 l0 (l : List Int) (x : Int) (0 : Int)
noncomputable def f35M (n : Nat) (l : List Int) (x : Int) : Option Lf := f35T (f35L0 n n) l x
theorem f35T_ev (n : Nat) (l : List Int) (x : Int) : evF C1 f35h n f35f [(D.p (Pt.one (L.d (Pv.fz false) (Sh.l (Sh.i IntKind.i64)) l))), (D.p (Pt.one (L.d (Pv.fz true) (Sh.i IntKind.i64) x)))] [] = f35T (f35W0 (lp C1 f35h n Lf (codeOf f35f) [1, 0, 1, 0] [] (endK C1 f35h f35f) n)) l x := by kernel_rfl
theorem f35_ev (n : Nat) (l : List Int) (x : Int) : evF C1 f35h n f35f [(D.p (Pt.one (L.d (Pv.fz false) (Sh.l (Sh.i IntKind.i64)) l))), (D.p (Pt.one (L.d (Pv.fz true) (Sh.i IntKind.i64) x)))] [] = f35M n l x := by
  rw [f35T_ev, f35W0_ev]
  rfl

abbrev f52h : Hn := h52
noncomputable abbrev f52f : Func := fn 52
abbrev f52G0 := (List Int) → Int → Int → Int → Option Lf
noncomputable def f52H0 (x0_0 : List Int) (x0_1 : Int) (x0_2 : Int) (x0_3 : Int) : St := (St.mk [(D.p (Pt.one (L.d (Pv.fz false) (Sh.l (Sh.i IntKind.i64)) x0_0))), (D.p (Pt.one (L.d (Pv.fz true) (Sh.i IntKind.i64) x0_1))), dead, dead, dead, dead, dead, (D.p (Pt.one (L.d (Pv.fz true) (Sh.i IntKind.i64) x0_2))), (D.p (Pt.one (L.d (Pv.fz true) (Sh.i IntKind.i64) x0_3))), dead, dead, dead, dead, dead, dead, dead, dead, dead, dead] [[], []])
noncomputable def f52W0 (G : St → Option Lf) : f52G0 := fun x0_0 x0_1 x0_2 x0_3 => G (f52H0 x0_0 x0_1 x0_2 x0_3)
noncomputable def f52S0  (g0 : f52G0) (x0_0 : List Int) (x0_1 : Int) (x0_2 : Int) (x0_3 : Int) : Option Lf :=
 bif decide (x0_3 < x0_2) then
  bif inb x0_3 x0_0.length then
   bif x0_1 == x0_0.getD x0_3.toNat 0 then
    some (Lf.mk [(Pt.one (L.d (Pv.fz true) (Sh.i IntKind.i64) (x0_3 : Int)))] [] [])
   else
    g0 (x0_0 : List Int) (x0_1 : Int) (x0_2 : Int) (IntKind.i64.wrap (x0_3 + 1) : Int)
  else
   none
 else
  some (Lf.mk [(Pt.one (L.d (Pv.fz true) (Sh.i IntKind.i64) (-1 : Int)))] [] [])
noncomputable def f52L0 (n : Nat)  : Nat → f52G0
  | 0 => fun _ _ _ _ => none
  | m + 1 => fun x0_0 x0_1 x0_2 x0_3 => f52S0   (f52L0 n  m) x0_0 x0_1 x0_2 x0_3
theorem f52S0_ev (n : Nat)  (G : St → Option Lf) (x0_0 : List Int) (x0_1 : Int) (x0_2 : Int) (x0_3 : Int) : rnd C1 f52h n Lf (codeOf f52f) [1, 0, 1, 0] [] (endK C1 f52h f52f) G (f52H0 x0_0 x0_1 x0_2 x0_3) = f52S0   (f52W0 G) x0_0 x0_1 x0_2 x0_3 := by kernel_rfl
theorem f52W0_ev (n : Nat)  : ∀ m, (f52W0 (lp C1 f52h n Lf (codeOf f52f) [1, 0, 1, 0] [] (endK C1 f52h f52f) m)) = f52L0 n  m := by
  intro m
  induction m with
  | zero => funext x0_0 x0_1 x0_2 x0_3; exact lp_zero _
  | succ m ih =>
    funext x0_0 x0_1 x0_2 x0_3
    show lp C1 f52h n Lf (codeOf f52f) [1, 0, 1, 0] [] (endK C1 f52h f52f) (m + 1) (f52H0 x0_0 x0_1 x0_2 x0_3) = f52S0   (f52L0 n  m) x0_0 x0_1 x0_2 x0_3
    rw [lp_succ, f52S0_ev, ih]
noncomputable def f52T (l0 : f52G0) (l : List Int) (x : Int) : Option Lf :=
 l0 (l : List Int) (x : Int) (zn l.length : Int) (0 : Int)
noncomputable def f52M (n : Nat) (l : List Int) (x : Int) : Option Lf := f52T (f52L0 n n) l x
theorem f52T_ev (n : Nat) (l : List Int) (x : Int) : evF C1 f52h n f52f [(D.p (Pt.one (L.d (Pv.fz false) (Sh.l (Sh.i IntKind.i64)) l))), (D.p (Pt.one (L.d (Pv.fz true) (Sh.i IntKind.i64) x)))] [] = f52T (f52W0 (lp C1 f52h n Lf (codeOf f52f) [1, 0, 1, 0] [] (endK C1 f52h f52f) n)) l x := by kernel_rfl
theorem f52_ev (n : Nat) (l : List Int) (x : Int) : evF C1 f52h n f52f [(D.p (Pt.one (L.d (Pv.fz false) (Sh.l (Sh.i IntKind.i64)) l))), (D.p (Pt.one (L.d (Pv.fz true) (Sh.i IntKind.i64) x)))] [] = f52M n l x := by
  rw [f52T_ev, f52W0_ev]
  rfl

abbrev f20h : Hn := h20
noncomputable abbrev f20f : Func := fn 20
abbrev f20G0 := (List Int) → (List Int) → Int → Option Lf
noncomputable def f20H0 (x0_0 : List Int) (x0_1 : List Int) (x0_2 : Int) : St := (St.mk [(D.p (Pt.one (L.d (Pv.fz false) (Sh.l (Sh.i IntKind.i64)) x0_0))), (D.p (Pt.one (L.d (Pv.fz false) (Sh.l (Sh.i IntKind.i64)) x0_1))), dead, dead, dead, (D.p (Pt.one (L.d (Pv.fz true) (Sh.i IntKind.i64) x0_2))), dead, dead, dead, dead, dead, dead, dead, dead, dead, dead, dead, dead, dead, dead, dead, dead, dead, dead, dead, dead] [[], []])
noncomputable def f20W0 (G : St → Option Lf) : f20G0 := fun x0_0 x0_1 x0_2 => G (f20H0 x0_0 x0_1 x0_2)
noncomputable def f20S0  (g0 : f20G0) (x0_0 : List Int) (x0_1 : List Int) (x0_2 : Int) : Option Lf :=
 bif decide (x0_2 < zn x0_0.length) then
  bif inb x0_2 x0_0.length then
   bif inb x0_2 x0_1.length then
    bif x0_0.getD x0_2.toNat 0 != x0_1.getD x0_2.toNat 0 then
     some (Lf.mk [(Pt.one (L.d (Pv.fz true) Sh.b (false : Bool)))] [] [])
    else
     g0 (x0_0 : List Int) (x0_1 : List Int) (IntKind.i64.wrap (x0_2 + 1) : Int)
   else
    none
  else
   none
 else
  some (Lf.mk [(Pt.one (L.d (Pv.fz true) Sh.b (true : Bool)))] [] [])
noncomputable def f20L0 (n : Nat)  : Nat → f20G0
  | 0 => fun _ _ _ => none
  | m + 1 => fun x0_0 x0_1 x0_2 => f20S0   (f20L0 n  m) x0_0 x0_1 x0_2
theorem f20S0_ev (n : Nat)  (G : St → Option Lf) (x0_0 : List Int) (x0_1 : List Int) (x0_2 : Int) : rnd C1 f20h n Lf (codeOf f20f) [1, 1, 0, 1, 0] [] (endK C1 f20h f20f) G (f20H0 x0_0 x0_1 x0_2) = f20S0   (f20W0 G) x0_0 x0_1 x0_2 := by kernel_rfl
theorem f20W0_ev (n : Nat)  : ∀ m, (f20W0 (lp C1 f20h n Lf (codeOf f20f) [1, 1, 0, 1, 0] [] (endK C1 f20h f20f) m)) = f20L0 n  m := by
  intro m
  induction m with
  | zero => funext x0_0 x0_1 x0_2; exact lp_zero _
  | succ m ih =>
    funext x0_0 x0_1 x0_2
    show lp C1 f20h n Lf (codeOf f20f) [1, 1, 0, 1, 0] [] (endK C1 f20h f20f) (m + 1) (f20H0 x0_0 x0_1 x0_2) = f20S0   (f20L0 n  m) x0_0 x0_1 x0_2
    rw [lp_succ, f20S0_ev, ih]
noncomputable def f20T (l0 : f20G0) (a : List Int) (b : List Int) : Option Lf :=
 bif zn a.length != zn b.length then
  some (Lf.mk [(Pt.one (L.d (Pv.fz true) Sh.b (false : Bool)))] [] [])
 else
  l0 (a : List Int) (b : List Int) (0 : Int)
noncomputable def f20M (n : Nat) (a : List Int) (b : List Int) : Option Lf := f20T (f20L0 n n) a b
theorem f20T_ev (n : Nat) (a : List Int) (b : List Int) : evF C1 f20h n f20f [(D.p (Pt.one (L.d (Pv.fz false) (Sh.l (Sh.i IntKind.i64)) a))), (D.p (Pt.one (L.d (Pv.fz false) (Sh.l (Sh.i IntKind.i64)) b)))] [] = f20T (f20W0 (lp C1 f20h n Lf (codeOf f20f) [1, 1, 0, 1, 0] [] (endK C1 f20h f20f) n)) a b := by kernel_rfl
theorem f20_ev (n : Nat) (a : List Int) (b : List Int) : evF C1 f20h n f20f [(D.p (Pt.one (L.d (Pv.fz false) (Sh.l (Sh.i IntKind.i64)) a))), (D.p (Pt.one (L.d (Pv.fz false) (Sh.l (Sh.i IntKind.i64)) b)))] [] = f20M n a b := by
  rw [f20T_ev, f20W0_ev]
  rfl

abbrev f38h : Hn := hn0
noncomputable abbrev f38f : Func := fn 38
noncomputable def f38T  (s : List Int) (l : List Int) (i : Int) : Option Lf :=
 bif decide (i < zn s.length) then
  bif inb i s.length then
   some (Lf.mk [(Pt.one (L.d (Pv.fz true) (Sh.i IntKind.i64) (s.getD i.toNat 0 : Int)))] [] [])
  else
   none
 else
  bif decide (zn l.length ≠ 0) then
   bif inb ((IntKind.i64.wrap (i - zn s.length)).tmod (zn l.length)) l.length then
    some (Lf.mk [(Pt.one (L.d (Pv.fz true) (Sh.i IntKind.i64) (l.getD ((IntKind.i64.wrap (i - zn s.length)).tmod (zn l.length)).toNat 0 : Int)))] [] [])
   else
    none
  else
   none
noncomputable def f38M (_ : Nat) (s : List Int) (l : List Int) (i : Int) : Option Lf := f38T  s l i
theorem f38T_ev (n : Nat) (s : List Int) (l : List Int) (i : Int) : evF C1 f38h n f38f [(D.p (Pt.agg [(L.d (Pv.fz false) (Sh.l (Sh.i IntKind.i64)) s), (L.d (Pv.fz false) (Sh.l (Sh.i IntKind.i64)) l)])), (D.p (Pt.one (L.d (Pv.fz true) (Sh.i IntKind.i64) i)))] [] = f38T  s l i := by kernel_rfl
theorem f38_ev (n : Nat) (s : List Int) (l : List Int) (i : Int) : evF C1 f38h n f38f [(D.p (Pt.agg [(L.d (Pv.fz false) (Sh.l (Sh.i IntKind.i64)) s), (L.d (Pv.fz false) (Sh.l (Sh.i IntKind.i64)) l)])), (D.p (Pt.one (L.d (Pv.fz true) (Sh.i IntKind.i64) i)))] [] = f38M n s l i := by
  rw [f38T_ev]
  rfl

abbrev f9h : Hn := h9
noncomputable abbrev f9f : Func := fn 9
abbrev f9G0 := Int → Int → Int → (List (List Int)) → (List (List Int × List Int × PUnit)) → Option Lf
noncomputable def f9H0 (x0_0 : Int) (x0_1 : Int) (x0_2 : Int) (x0_3 : List (List Int)) (x0_4 : List (List Int × List Int × PUnit)) : St := (St.mk [dead, (D.p (Pt.one (L.pv (Id.mk 1 0) 0))), dead, (D.p (Pt.one (L.d (Pv.fz true) (Sh.i IntKind.i64) x0_0))), dead, dead, dead, dead, dead, dead, dead, dead, dead, dead, dead, dead, dead, dead, dead, dead, dead, dead, dead, dead, dead, dead, dead, dead] [[], [(Ob.va [(L.d (Pv.fz true) (Sh.i IntKind.i64) x0_1), (L.d (Pv.fz true) (Sh.i IntKind.i64) x0_2), (L.d (Pv.fz false) (Sh.l (Sh.l (Sh.i IntKind.i64))) x0_3), (L.d (Pv.fz false) (Sh.l (Sh.p (Sh.l (Sh.i IntKind.i64)) (Sh.p (Sh.l (Sh.i IntKind.i64)) Sh.u))) x0_4)])]])
noncomputable def f9W0 (G : St → Option Lf) : f9G0 := fun x0_0 x0_1 x0_2 x0_3 x0_4 => G (f9H0 x0_0 x0_1 x0_2 x0_3 x0_4)
noncomputable def f9S0  (g0 : f9G0) (x0_0 : Int) (x0_1 : Int) (x0_2 : Int) (x0_3 : List (List Int)) (x0_4 : List (List Int × List Int × PUnit)) : Option Lf :=
 bif decide (x0_0 < zn x0_3.length) then
  bif inb x0_0 x0_3.length then
   bif decide (zn (x0_3.getD x0_0.toNat []).length > 64) then
    some (Lf.mk [(Pt.one (L.d (Pv.fz true) Sh.b (true : Bool)))] [] [])
   else
    g0 (IntKind.i64.wrap (x0_0 + 1) : Int) (x0_1 : Int) (x0_2 : Int) (x0_3 : List (List Int)) (x0_4 : List (List Int × List Int × PUnit))
  else
   none
 else
  some (Lf.mk [(Pt.one (L.d (Pv.fz true) Sh.b (false : Bool)))] [] [])
noncomputable def f9L0 (n : Nat)  : Nat → f9G0
  | 0 => fun _ _ _ _ _ => none
  | m + 1 => fun x0_0 x0_1 x0_2 x0_3 x0_4 => f9S0   (f9L0 n  m) x0_0 x0_1 x0_2 x0_3 x0_4
theorem f9S0_ev (n : Nat)  (G : St → Option Lf) (x0_0 : Int) (x0_1 : Int) (x0_2 : Int) (x0_3 : List (List Int)) (x0_4 : List (List Int × List Int × PUnit)) : rnd C1 f9h n Lf (codeOf f9f) [1, 1, 0, 1, 0] [] (endK C1 f9h f9f) G (f9H0 x0_0 x0_1 x0_2 x0_3 x0_4) = f9S0   (f9W0 G) x0_0 x0_1 x0_2 x0_3 x0_4 := by kernel_rfl
theorem f9W0_ev (n : Nat)  : ∀ m, (f9W0 (lp C1 f9h n Lf (codeOf f9f) [1, 1, 0, 1, 0] [] (endK C1 f9h f9f) m)) = f9L0 n  m := by
  intro m
  induction m with
  | zero => funext x0_0 x0_1 x0_2 x0_3 x0_4; exact lp_zero _
  | succ m ih =>
    funext x0_0 x0_1 x0_2 x0_3 x0_4
    show lp C1 f9h n Lf (codeOf f9f) [1, 1, 0, 1, 0] [] (endK C1 f9h f9f) (m + 1) (f9H0 x0_0 x0_1 x0_2 x0_3 x0_4) = f9S0   (f9L0 n  m) x0_0 x0_1 x0_2 x0_3 x0_4
    rw [lp_succ, f9S0_ev, ih]
noncomputable def f9T (l0 : f9G0) (p : Int) (i : Int) (nx : List (List Int)) (ps : List (List Int × List Int × PUnit)) : Option Lf :=
 bif Nat.beq 1 1 && (decide (zn nx.length > 40) || true) then
  bif decide (zn nx.length > 40) || decide (zn ps.length > 20) then
   some (Lf.mk [(Pt.one (L.d (Pv.fz true) Sh.b (true : Bool)))] [] [])
  else
   l0 (0 : Int) (p : Int) (i : Int) (nx : List (List Int)) (ps : List (List Int × List Int × PUnit))
 else
  none
noncomputable def f9M (n : Nat) (p : Int) (i : Int) (nx : List (List Int)) (ps : List (List Int × List Int × PUnit)) : Option Lf := f9T (f9L0 n n) p i nx ps
theorem f9T_ev (n : Nat) (p : Int) (i : Int) (nx : List (List Int)) (ps : List (List Int × List Int × PUnit)) : evF C1 f9h n f9f [(D.p (Pt.agg [(L.d (Pv.fz true) (Sh.i IntKind.i64) p), (L.d (Pv.fz true) (Sh.i IntKind.i64) i), (L.d (Pv.fz false) (Sh.l (Sh.l (Sh.i IntKind.i64))) nx), (L.d (Pv.fz false) (Sh.l (Sh.p (Sh.l (Sh.i IntKind.i64)) (Sh.p (Sh.l (Sh.i IntKind.i64)) Sh.u))) ps)]))] [] = f9T (f9W0 (lp C1 f9h n Lf (codeOf f9f) [1, 1, 0, 1, 0] [] (endK C1 f9h f9f) n)) p i nx ps := by kernel_rfl
theorem f9_ev (n : Nat) (p : Int) (i : Int) (nx : List (List Int)) (ps : List (List Int × List Int × PUnit)) : evF C1 f9h n f9f [(D.p (Pt.agg [(L.d (Pv.fz true) (Sh.i IntKind.i64) p), (L.d (Pv.fz true) (Sh.i IntKind.i64) i), (L.d (Pv.fz false) (Sh.l (Sh.l (Sh.i IntKind.i64))) nx), (L.d (Pv.fz false) (Sh.l (Sh.p (Sh.l (Sh.i IntKind.i64)) (Sh.p (Sh.l (Sh.i IntKind.i64)) Sh.u))) ps)]))] [] = f9M n p i nx ps := by
  rw [f9T_ev, f9W0_ev]
  rfl
end Go.S18
