/-
  Seat 23: what the functions that call none compute.
-/
import Derived.Test.YtkbablmhgnpmmaaDoorS23A
open Go Go.En Go.S23
namespace Go.S23
noncomputable def C1 : Ctx := ctxOf C0 []
def h44 : Hn := ⟨fun | 3 => [1, 5, 8, 9, 10] | _ => [], fun _ => [], fun _ => false⟩
def h35 : Hn := ⟨fun | 3 => [0, 3, 4] | _ => [], fun _ => [], fun _ => false⟩
def h36 : Hn := ⟨fun | 2 => [0, 1, 5] | _ => [], fun _ => [], fun _ => false⟩
def h18 : Hn := ⟨fun | 4 => [0, 1, 5] | _ => [], fun _ => [], fun _ => false⟩
def h10 : Hn := ⟨fun | 4 => [1, 3] | _ => [], fun _ => [], fun _ => false⟩
def h9 : Hn := ⟨fun | 4 => [1, 3] | 9 => [1, 3, 4] | 14 => [1, 5] | _ => [], fun _ => [], fun _ => false⟩
def h37 : Hn := ⟨fun | 3 => [0, 3, 7, 8, 9] | _ => [], fun _ => [], fun _ => false⟩
def h41 : Hn := ⟨fun | 3 => [1, 2, 5, 10, 11, 12] | _ => [], fun _ => [], fun _ => false⟩
def h30 : Hn := ⟨fun | 2 => [1, 2, 3, 7] | _ => [], fun _ => [], fun _ => false⟩
def h34 : Hn := ⟨fun | 3 => [0, 1, 6, 7, 8] | _ => [], fun _ => [], fun _ => false⟩

abbrev f43h : Hn := hn0
noncomputable abbrev f43f : Func := fn 43
noncomputable def f43T  (x : Int) (z : Int) : Option Lf :=
 bif decide (x < 0) || true then
  some (Lf.mk [(Pt.one (L.d (Pv.fz true) Sh.b (decide (x < 0) || decide (x ≥ z) : Bool)))] [(Ob.va [(L.d (Pv.fz true) (Sh.i IntKind.i64) (z : Int))])] [])
 else
  none
noncomputable def f43M (_ : Nat) (x : Int) (z : Int) : Option Lf := f43T  x z
theorem f43T_ev (n : Nat) (x : Int) (z : Int) : evF C1 f43h n f43f [(D.p (Pt.one (L.d (Pv.fz true) (Sh.i IntKind.i64) x))), (D.p (Pt.one (L.pv (Id.mk 0 0) 0)))] [(Ob.va [(L.d (Pv.fz true) (Sh.i IntKind.i64) z)])] = f43T  x z := by kernel_rfl
theorem f43_ev (n : Nat) (x : Int) (z : Int) : evF C1 f43h n f43f [(D.p (Pt.one (L.d (Pv.fz true) (Sh.i IntKind.i64) x))), (D.p (Pt.one (L.pv (Id.mk 0 0) 0)))] [(Ob.va [(L.d (Pv.fz true) (Sh.i IntKind.i64) z)])] = f43M n x z := by
  rw [f43T_ev]
  rfl

abbrev f26h : Hn := hn0
noncomputable abbrev f26f : Func := fn 26
noncomputable def f26T  (x : Int) (p : Int) (i : Int) (nx : List (List Int)) (ps : List (List Int × List Int × Unit)) : Option Lf :=
 bif decide (x < 0) || Nat.beq 1 1 && (decide (0 ≤ p) && true) then
  some (Lf.mk [(Pt.one (L.d (Pv.fz true) Sh.b (decide (x < 0) || decide (x ≥ shlF IntKind.i64 1 p) : Bool)))] [(Ob.va [(L.d (Pv.fz true) (Sh.i IntKind.i64) (p : Int)), (L.d (Pv.fz true) (Sh.i IntKind.i64) (i : Int)), (L.d (Pv.fz false) (Sh.l (Sh.l (Sh.i IntKind.i64))) (nx : List (List Int))), (L.d (Pv.fz false) (Sh.l (Sh.p (Sh.l (Sh.i IntKind.i64)) (Sh.p (Sh.l (Sh.i IntKind.i64)) Sh.u))) (ps : List (List Int × List Int × Unit)))])] [])
 else
  none
noncomputable def f26M (_ : Nat) (x : Int) (p : Int) (i : Int) (nx : List (List Int)) (ps : List (List Int × List Int × Unit)) : Option Lf := f26T  x p i nx ps
theorem f26T_ev (n : Nat) (x : Int) (p : Int) (i : Int) (nx : List (List Int)) (ps : List (List Int × List Int × Unit)) : evF C1 f26h n f26f [(D.p (Pt.one (L.d (Pv.fz true) (Sh.i IntKind.i64) x))), (D.p (Pt.one (L.pv (Id.mk 0 0) 0)))] [(Ob.va [(L.d (Pv.fz true) (Sh.i IntKind.i64) p), (L.d (Pv.fz true) (Sh.i IntKind.i64) i), (L.d (Pv.fz false) (Sh.l (Sh.l (Sh.i IntKind.i64))) nx), (L.d (Pv.fz false) (Sh.l (Sh.p (Sh.l (Sh.i IntKind.i64)) (Sh.p (Sh.l (Sh.i IntKind.i64)) Sh.u))) ps)])] = f26T  x p i nx ps := by kernel_rfl
theorem f26_ev (n : Nat) (x : Int) (p : Int) (i : Int) (nx : List (List Int)) (ps : List (List Int × List Int × Unit)) : evF C1 f26h n f26f [(D.p (Pt.one (L.d (Pv.fz true) (Sh.i IntKind.i64) x))), (D.p (Pt.one (L.pv (Id.mk 0 0) 0)))] [(Ob.va [(L.d (Pv.fz true) (Sh.i IntKind.i64) p), (L.d (Pv.fz true) (Sh.i IntKind.i64) i), (L.d (Pv.fz false) (Sh.l (Sh.l (Sh.i IntKind.i64))) nx), (L.d (Pv.fz false) (Sh.l (Sh.p (Sh.l (Sh.i IntKind.i64)) (Sh.p (Sh.l (Sh.i IntKind.i64)) Sh.u))) ps)])] = f26M n x p i nx ps := by
  rw [f26T_ev]
  rfl

abbrev f33h : Hn := hn0
noncomputable abbrev f33f : Func := fn 33
noncomputable def f33T  (x : Int) (p : Int) (i : Int) (nx : List (List Int)) (ps : List (List Int × List Int × Unit)) : Option Lf :=
 bif decide (x < 0) || true then
  some (Lf.mk [(Pt.one (L.d (Pv.fz true) Sh.b (decide (x < 0) || decide (x ≥ zn nx.length) : Bool)))] [(Ob.va [(L.d (Pv.fz true) (Sh.i IntKind.i64) (p : Int)), (L.d (Pv.fz true) (Sh.i IntKind.i64) (i : Int)), (L.d (Pv.fz false) (Sh.l (Sh.l (Sh.i IntKind.i64))) (nx : List (List Int))), (L.d (Pv.fz false) (Sh.l (Sh.p (Sh.l (Sh.i IntKind.i64)) (Sh.p (Sh.l (Sh.i IntKind.i64)) Sh.u))) (ps : List (List Int × List Int × Unit)))])] [])
 else
  none
noncomputable def f33M (_ : Nat) (x : Int) (p : Int) (i : Int) (nx : List (List Int)) (ps : List (List Int × List Int × Unit)) : Option Lf := f33T  x p i nx ps
theorem f33T_ev (n : Nat) (x : Int) (p : Int) (i : Int) (nx : List (List Int)) (ps : List (List Int × List Int × Unit)) : evF C1 f33h n f33f [(D.p (Pt.one (L.d (Pv.fz true) (Sh.i IntKind.i64) x))), (D.p (Pt.one (L.pv (Id.mk 0 0) 0)))] [(Ob.va [(L.d (Pv.fz true) (Sh.i IntKind.i64) p), (L.d (Pv.fz true) (Sh.i IntKind.i64) i), (L.d (Pv.fz false) (Sh.l (Sh.l (Sh.i IntKind.i64))) nx), (L.d (Pv.fz false) (Sh.l (Sh.p (Sh.l (Sh.i IntKind.i64)) (Sh.p (Sh.l (Sh.i IntKind.i64)) Sh.u))) ps)])] = f33T  x p i nx ps := by kernel_rfl
theorem f33_ev (n : Nat) (x : Int) (p : Int) (i : Int) (nx : List (List Int)) (ps : List (List Int × List Int × Unit)) : evF C1 f33h n f33f [(D.p (Pt.one (L.d (Pv.fz true) (Sh.i IntKind.i64) x))), (D.p (Pt.one (L.pv (Id.mk 0 0) 0)))] [(Ob.va [(L.d (Pv.fz true) (Sh.i IntKind.i64) p), (L.d (Pv.fz true) (Sh.i IntKind.i64) i), (L.d (Pv.fz false) (Sh.l (Sh.l (Sh.i IntKind.i64))) nx), (L.d (Pv.fz false) (Sh.l (Sh.p (Sh.l (Sh.i IntKind.i64)) (Sh.p (Sh.l (Sh.i IntKind.i64)) Sh.u))) ps)])] = f33M n x p i nx ps := by
  rw [f33T_ev]
  rfl

abbrev f44h : Hn := h44
noncomputable abbrev f44f : Func := fn 44
abbrev f44G0 := Int → Int → (List Int) → Int → Int → Option Lf
noncomputable def f44H0 (x0_0 : Int) (x0_1 : Int) (x0_2 : List Int) (x0_3 : Int) (x0_4 : Int) : St := (St.mk [dead, (D.p (Pt.one (L.d (Pv.fz true) (Sh.i IntKind.i64) x0_0))), dead, dead, dead, (D.p (Pt.one (L.d (Pv.fz true) (Sh.i IntKind.i64) x0_1))), dead, dead, (D.p (Pt.one (L.d (Pv.fz false) (Sh.l (Sh.i IntKind.i64)) x0_2))), (D.p (Pt.one (L.d (Pv.fz true) (Sh.i IntKind.i64) x0_3))), (D.p (Pt.one (L.d (Pv.fz true) (Sh.i IntKind.i64) x0_4))), dead, dead, dead, dead, dead, dead, dead, dead, dead, dead, dead, dead, dead] [[], []])
noncomputable def f44W0 (G : St → Option Lf) : f44G0 := fun x0_0 x0_1 x0_2 x0_3 x0_4 => G (f44H0 x0_0 x0_1 x0_2 x0_3 x0_4)
noncomputable def f44S0  (g0 : f44G0) (x0_0 : Int) (x0_1 : Int) (x0_2 : List Int) (x0_3 : Int) (x0_4 : Int) : Option Lf :=
 bif decide (x0_4 < x0_3) then
  bif inb x0_4 x0_2.length then
   bif decide (x0_2.getD x0_4.toNat 0 ≤ x0_1) || decide (x0_2.getD x0_4.toNat 0 ≥ x0_0) then
    some (Lf.mk [(Pt.one (L.d (Pv.fz true) Sh.b (false : Bool)))] [] [])
   else
    g0 (x0_0 : Int) (x0_2.getD x0_4.toNat 0 : Int) (x0_2 : List Int) (x0_3 : Int) (IntKind.i64.wrap (x0_4 + 1) : Int)
  else
   none
 else
  some (Lf.mk [(Pt.one (L.d (Pv.fz true) Sh.b (true : Bool)))] [] [])
noncomputable def f44L0 (n : Nat)  : Nat → f44G0
  | 0 => fun _ _ _ _ _ => none
  | m + 1 => fun x0_0 x0_1 x0_2 x0_3 x0_4 => f44S0   (f44L0 n  m) x0_0 x0_1 x0_2 x0_3 x0_4
theorem f44S0_ev (n : Nat)  (G : St → Option Lf) (x0_0 : Int) (x0_1 : Int) (x0_2 : List Int) (x0_3 : Int) (x0_4 : Int) : rnd C1 f44h n Lf (codeOf f44f) [1, 1, 0, 1, 0] [] (endK C1 f44h f44f) G (f44H0 x0_0 x0_1 x0_2 x0_3 x0_4) = f44S0   (f44W0 G) x0_0 x0_1 x0_2 x0_3 x0_4 := by kernel_rfl
theorem f44W0_ev (n : Nat)  : ∀ m, (f44W0 (lp C1 f44h n Lf (codeOf f44f) [1, 1, 0, 1, 0] [] (endK C1 f44h f44f) m)) = f44L0 n  m := by
  intro m
  induction m with
  | zero => funext x0_0 x0_1 x0_2 x0_3 x0_4; exact lp_zero _
  | succ m ih =>
    funext x0_0 x0_1 x0_2 x0_3 x0_4
    show lp C1 f44h n Lf (codeOf f44f) [1, 1, 0, 1, 0] [] (endK C1 f44h f44f) (m + 1) (f44H0 x0_0 x0_1 x0_2 x0_3 x0_4) = f44S0   (f44L0 n  m) x0_0 x0_1 x0_2 x0_3 x0_4
    rw [lp_succ, f44S0_ev, ih]
noncomputable def f44T (l0 : f44G0) (l : List Int) (z : Int) : Option Lf :=
 l0 (z : Int) (-1 : Int) (l : List Int) (zn l.length : Int) (0 : Int)
noncomputable def f44M (n : Nat) (l : List Int) (z : Int) : Option Lf := f44T (f44L0 n n) l z
theorem f44T_ev (n : Nat) (l : List Int) (z : Int) : evF C1 f44h n f44f [(D.p (Pt.one (L.d (Pv.fz false) (Sh.l (Sh.i IntKind.i64)) l))), (D.p (Pt.one (L.d (Pv.fz true) (Sh.i IntKind.i64) z)))] [] = f44T (f44W0 (lp C1 f44h n Lf (codeOf f44f) [1, 1, 0, 1, 0] [] (endK C1 f44h f44f) n)) l z := by kernel_rfl
theorem f44_ev (n : Nat) (l : List Int) (z : Int) : evF C1 f44h n f44f [(D.p (Pt.one (L.d (Pv.fz false) (Sh.l (Sh.i IntKind.i64)) l))), (D.p (Pt.one (L.d (Pv.fz true) (Sh.i IntKind.i64) z)))] [] = f44M n l z := by
  rw [f44T_ev, f44W0_ev]
  rfl

abbrev f38h : Hn := h44
noncomputable abbrev f38f : Func := fn 38
abbrev f38G0 := Int → Int → (List Int) → Int → Int → Option Lf
noncomputable def f38H0 (x0_0 : Int) (x0_1 : Int) (x0_2 : List Int) (x0_3 : Int) (x0_4 : Int) : St := (St.mk [dead, (D.p (Pt.one (L.d (Pv.fz true) (Sh.i IntKind.i64) x0_0))), dead, dead, dead, (D.p (Pt.one (L.d (Pv.fz true) (Sh.i IntKind.i64) x0_1))), dead, dead, (D.p (Pt.one (L.d (Pv.fz false) (Sh.l (Sh.i IntKind.i64)) x0_2))), (D.p (Pt.one (L.d (Pv.fz true) (Sh.i IntKind.i64) x0_3))), (D.p (Pt.one (L.d (Pv.fz true) (Sh.i IntKind.i64) x0_4))), dead, dead, dead, dead, dead, dead, dead, dead, dead, dead, dead, dead, dead] [[], []])
noncomputable def f38W0 (G : St → Option Lf) : f38G0 := fun x0_0 x0_1 x0_2 x0_3 x0_4 => G (f38H0 x0_0 x0_1 x0_2 x0_3 x0_4)
noncomputable def f38S0  (g0 : f38G0) (x0_0 : Int) (x0_1 : Int) (x0_2 : List Int) (x0_3 : Int) (x0_4 : Int) : Option Lf :=
 bif decide (x0_4 < x0_3) then
  bif inb x0_4 x0_2.length then
   bif decide (x0_2.getD x0_4.toNat 0 ≤ x0_1) || decide (x0_2.getD x0_4.toNat 0 ≥ x0_0) then
    some (Lf.mk [(Pt.one (L.d (Pv.fz true) Sh.b (false : Bool)))] [] [])
   else
    g0 (x0_0 : Int) (x0_2.getD x0_4.toNat 0 : Int) (x0_2 : List Int) (x0_3 : Int) (IntKind.i64.wrap (x0_4 + 1) : Int)
  else
   none
 else
  some (Lf.mk [(Pt.one (L.d (Pv.fz true) Sh.b (true : Bool)))] [] [])
noncomputable def f38L0 (n : Nat)  : Nat → f38G0
  | 0 => fun _ _ _ _ _ => none
  | m + 1 => fun x0_0 x0_1 x0_2 x0_3 x0_4 => f38S0   (f38L0 n  m) x0_0 x0_1 x0_2 x0_3 x0_4
theorem f38S0_ev (n : Nat)  (G : St → Option Lf) (x0_0 : Int) (x0_1 : Int) (x0_2 : List Int) (x0_3 : Int) (x0_4 : Int) : rnd C1 f38h n Lf (codeOf f38f) [1, 1, 0, 1, 0] [] (endK C1 f38h f38f) G (f38H0 x0_0 x0_1 x0_2 x0_3 x0_4) = f38S0   (f38W0 G) x0_0 x0_1 x0_2 x0_3 x0_4 := by kernel_rfl
theorem f38W0_ev (n : Nat)  : ∀ m, (f38W0 (lp C1 f38h n Lf (codeOf f38f) [1, 1, 0, 1, 0] [] (endK C1 f38h f38f) m)) = f38L0 n  m := by
  intro m
  induction m with
  | zero => funext x0_0 x0_1 x0_2 x0_3 x0_4; exact lp_zero _
  | succ m ih =>
    funext x0_0 x0_1 x0_2 x0_3 x0_4
    show lp C1 f38h n Lf (codeOf f38f) [1, 1, 0, 1, 0] [] (endK C1 f38h f38f) (m + 1) (f38H0 x0_0 x0_1 x0_2 x0_3 x0_4) = f38S0   (f38L0 n  m) x0_0 x0_1 x0_2 x0_3 x0_4
    rw [lp_succ, f38S0_ev, ih]
noncomputable def f38T (l0 : f38G0) (l : List Int) (z : Int) : Option Lf :=
 l0 (z : Int) (-1 : Int) (l : List Int) (zn l.length : Int) (0 : Int)
noncomputable def f38M (n : Nat) (l : List Int) (z : Int) : Option Lf := f38T (f38L0 n n) l z
theorem f38T_ev (n : Nat) (l : List Int) (z : Int) : evF C1 f38h n f38f [(D.p (Pt.one (L.d (Pv.fz false) (Sh.l (Sh.i IntKind.i64)) l))), (D.p (Pt.one (L.d (Pv.fz true) (Sh.i IntKind.i64) z)))] [] = f38T (f38W0 (lp C1 f38h n Lf (codeOf f38f) [1, 1, 0, 1, 0] [] (endK C1 f38h f38f) n)) l z := by kernel_rfl
theorem f38_ev (n : Nat) (l : List Int) (z : Int) : evF C1 f38h n f38f [(D.p (Pt.one (L.d (Pv.fz false) (Sh.l (Sh.i IntKind.i64)) l))), (D.p (Pt.one (L.d (Pv.fz true) (Sh.i IntKind.i64) z)))] [] = f38M n l z := by
  rw [f38T_ev, f38W0_ev]
  rfl

abbrev f35h : Hn := h35
noncomputable abbrev f35f : Func := fn 35
abbrev f35G0 := Int → Int → Int → Option Lf
noncomputable def f35H0 (x0_0 : Int) (x0_1 : Int) (x0_2 : Int) : St := (St.mk [(D.p (Pt.one (L.d (Pv.fz true) (Sh.i IntKind.i64) x0_0))), dead, dead, (D.p (Pt.one (L.d (Pv.fz true) (Sh.i IntKind.i64) x0_1))), (D.p (Pt.one (L.d (Pv.fz true) (Sh.i IntKind.i64) x0_2))), dead, dead, dead, dead, dead, dead, dead, dead] [[], []])
noncomputable def f35W0 (G : St → Option Lf) : f35G0 := fun x0_0 x0_1 x0_2 => G (f35H0 x0_0 x0_1 x0_2)
noncomputable def f35S0  (g0 : f35G0) (x0_0 : Int) (x0_1 : Int) (x0_2 : Int) : Option Lf :=
 bif decide (x0_2 < x0_0) then
  g0 (x0_0 : Int) (IntKind.i64.wrap (2 * x0_1) : Int) (IntKind.i64.wrap (x0_2 + 1) : Int)
 else
  some (Lf.mk [(Pt.one (L.d (Pv.fz true) (Sh.i IntKind.i64) (x0_1 : Int)))] [] [])
noncomputable def f35L0 (n : Nat)  : Nat → f35G0
  | 0 => fun _ _ _ => none
  | m + 1 => fun x0_0 x0_1 x0_2 => f35S0   (f35L0 n  m) x0_0 x0_1 x0_2
theorem f35S0_ev (n : Nat)  (G : St → Option Lf) (x0_0 : Int) (x0_1 : Int) (x0_2 : Int) : rnd C1 f35h n Lf (codeOf f35f) [1, 1, 0, 1, 0] [] (endK C1 f35h f35f) G (f35H0 x0_0 x0_1 x0_2) = f35S0   (f35W0 G) x0_0 x0_1 x0_2 := by kernel_rfl
theorem f35W0_ev (n : Nat)  : ∀ m, (f35W0 (lp C1 f35h n Lf (codeOf f35f) [1, 1, 0, 1, 0] [] (endK C1 f35h f35f) m)) = f35L0 n  m := by
  intro m
  induction m with
  | zero => funext x0_0 x0_1 x0_2; exact lp_zero _
  | succ m ih =>
    funext x0_0 x0_1 x0_2
    show lp C1 f35h n Lf (codeOf f35f) [1, 1, 0, 1, 0] [] (endK C1 f35h f35f) (m + 1) (f35H0 x0_0 x0_1 x0_2) = f35S0   (f35L0 n  m) x0_0 x0_1 x0_2
    rw [lp_succ, f35S0_ev, ih]
noncomputable def f35T (l0 : f35G0) (z : Int) : Option Lf :=
 l0 (z : Int) (1 : Int) (0 : Int)
noncomputable def f35M (n : Nat) (z : Int) : Option Lf := f35T (f35L0 n n) z
theorem f35T_ev (n : Nat) (z : Int) : evF C1 f35h n f35f [(D.p (Pt.one (L.d (Pv.fz true) (Sh.i IntKind.i64) z)))] [] = f35T (f35W0 (lp C1 f35h n Lf (codeOf f35f) [1, 1, 0, 1, 0] [] (endK C1 f35h f35f) n)) z := by kernel_rfl
theorem f35_ev (n : Nat) (z : Int) : evF C1 f35h n f35f [(D.p (Pt.one (L.d (Pv.fz true) (Sh.i IntKind.i64) z)))] [] = f35M n z := by
  rw [f35T_ev, f35W0_ev]
  rfl

abbrev f36h : Hn := h36
noncomputable abbrev f36f : Func := fn 36
abbrev f36G0 := (List Int) → Int → Int → Option Lf
noncomputable def f36H0 (x0_0 : List Int) (x0_1 : Int) (x0_2 : Int) : St := (St.mk [(D.p (Pt.one (L.d (Pv.fz false) (Sh.l (Sh.i IntKind.i64)) x0_0))), (D.p (Pt.one (L.d (Pv.fz true) (Sh.i IntKind.i64) x0_1))), dead, dead, dead, (D.p (Pt.one (L.d (Pv.fz true) (Sh.i IntKind.i64) x0_2))), dead, dead, dead, dead, dead, dead, dead, dead, dead, dead, dead, dead, dead, dead, dead, dead, dead, dead, dead, dead, dead, dead, dead, dead, dead, dead, dead, dead, dead, dead, dead, dead, dead, dead, dead] [[], []])
noncomputable def f36W0 (G : St → Option Lf) : f36G0 := fun x0_0 x0_1 x0_2 => G (f36H0 x0_0 x0_1 x0_2)
noncomputable def f36S0  (g0 : f36G0) (x0_0 : List Int) (x0_1 : Int) (x0_2 : Int) : Option Lf :=
 bif decide (x0_2 < zn x0_0.length) then
  bif Nat.beq 1 1 && (inb x0_2 x0_0.length && (Nat.beq 1 1 && (decide (x0_0.getD x0_2.toNat 0 < 0) || Nat.beq 1 1 && (inb x0_2 x0_0.length && (Nat.beq 1 1 && (decide (x0_0.getD x0_2.toNat 0 ≥ x0_1) || bif decide (x0_2 > 0) then Nat.beq 1 1 && (inb x0_2 x0_0.length && (Nat.beq 1 1 && (Nat.beq 1 1 && (inb (IntKind.i64.wrap (x0_2 - 1)) x0_0.length && true)))) else true)))))) then
   bif decide (x0_0.getD x0_2.toNat 0 < 0) || (decide (x0_0.getD x0_2.toNat 0 ≥ x0_1) || decide (x0_2 > 0) && decide (x0_0.getD x0_2.toNat 0 ≤ x0_0.getD (IntKind.i64.wrap (x0_2 - 1)).toNat 0)) then
    some (Lf.mk [(Pt.one (L.d (Pv.fz true) Sh.b (false : Bool)))] [] [])
   else
    g0 (x0_0 : List Int) (x0_1 : Int) (IntKind.i64.wrap (x0_2 + 1) : Int)
  else
   none
 else
  some (Lf.mk [(Pt.one (L.d (Pv.fz true) Sh.b (true : Bool)))] [] [])
noncomputable def f36L0 (n : Nat)  : Nat → f36G0
  | 0 => fun _ _ _ => none
  | m + 1 => fun x0_0 x0_1 x0_2 => f36S0   (f36L0 n  m) x0_0 x0_1 x0_2
theorem f36S0_ev (n : Nat)  (G : St → Option Lf) (x0_0 : List Int) (x0_1 : Int) (x0_2 : Int) : rnd C1 f36h n Lf (codeOf f36f) [1, 0, 1, 0] [] (endK C1 f36h f36f) G (f36H0 x0_0 x0_1 x0_2) = f36S0   (f36W0 G) x0_0 x0_1 x0_2 := by kernel_rfl
theorem f36W0_ev (n : Nat)  : ∀ m, (f36W0 (lp C1 f36h n Lf (codeOf f36f) [1, 0, 1, 0] [] (endK C1 f36h f36f) m)) = f36L0 n  m := by
  intro m
  induction m with
  | zero => funext x0_0 x0_1 x0_2; exact lp_zero _
  | succ m ih =>
    funext x0_0 x0_1 x0_2
    show lp C1 f36h n Lf (codeOf f36f) [1, 0, 1, 0] [] (endK C1 f36h f36f) (m + 1) (f36H0 x0_0 x0_1 x0_2) = f36S0   (f36L0 n  m) x0_0 x0_1 x0_2
    rw [lp_succ, f36S0_ev, ih]
noncomputable def f36T (l0 : f36G0) (l : List Int) (z : Int) : Option Lf :=
 l0 (l : List Int) (z : Int) (0 : Int)
noncomputable def f36M (n : Nat) (l : List Int) (z : Int) : Option Lf := f36T (f36L0 n n) l z
theorem f36T_ev (n : Nat) (l : List Int) (z : Int) : evF C1 f36h n f36f [(D.p (Pt.one (L.d (Pv.fz false) (Sh.l (Sh.i IntKind.i64)) l))), (D.p (Pt.one (L.d (Pv.fz true) (Sh.i IntKind.i64) z)))] [] = f36T (f36W0 (lp C1 f36h n Lf (codeOf f36f) [1, 0, 1, 0] [] (endK C1 f36h f36f) n)) l z := by kernel_rfl
theorem f36_ev (n : Nat) (l : List Int) (z : Int) : evF C1 f36h n f36f [(D.p (Pt.one (L.d (Pv.fz false) (Sh.l (Sh.i IntKind.i64)) l))), (D.p (Pt.one (L.d (Pv.fz true) (Sh.i IntKind.i64) z)))] [] = f36M n l z := by
  rw [f36T_ev, f36W0_ev]
  rfl

abbrev f22h : Hn := h36
noncomputable abbrev f22f : Func := fn 22
abbrev f22G0 := (List Int) → Int → Int → Option Lf
noncomputable def f22H0 (x0_0 : List Int) (x0_1 : Int) (x0_2 : Int) : St := (St.mk [(D.p (Pt.one (L.d (Pv.fz false) (Sh.l (Sh.i IntKind.i64)) x0_0))), (D.p (Pt.one (L.d (Pv.fz true) (Sh.i IntKind.i64) x0_1))), dead, dead, dead, (D.p (Pt.one (L.d (Pv.fz true) (Sh.i IntKind.i64) x0_2))), dead, dead, dead, dead, dead, dead, dead, dead, dead, dead, dead, dead] [[], []])
noncomputable def f22W0 (G : St → Option Lf) : f22G0 := fun x0_0 x0_1 x0_2 => G (f22H0 x0_0 x0_1 x0_2)
noncomputable def f22S0  (g0 : f22G0) (x0_0 : List Int) (x0_1 : Int) (x0_2 : Int) : Option Lf :=
 bif decide (x0_2 < zn x0_0.length) then
  bif inb x0_2 x0_0.length then
   bif x0_0.getD x0_2.toNat 0 == x0_1 then
    some (Lf.mk [(Pt.one (L.d (Pv.fz true) Sh.b (true : Bool)))] [] [])
   else
    g0 (x0_0 : List Int) (x0_1 : Int) (IntKind.i64.wrap (x0_2 + 1) : Int)
  else
   none
 else
  some (Lf.mk [(Pt.one (L.d (Pv.fz true) Sh.b (false : Bool)))] [] [])
noncomputable def f22L0 (n : Nat)  : Nat → f22G0
  | 0 => fun _ _ _ => none
  | m + 1 => fun x0_0 x0_1 x0_2 => f22S0   (f22L0 n  m) x0_0 x0_1 x0_2
theorem f22S0_ev (n : Nat)  (G : St → Option Lf) (x0_0 : List Int) (x0_1 : Int) (x0_2 : Int) : rnd C1 f22h n Lf (codeOf f22f) [1, 0, 1, 0] [] (endK C1 f22h f22f) G (f22H0 x0_0 x0_1 x0_2) = f22S0   (f22W0 G) x0_0 x0_1 x0_2 := by kernel_rfl
theorem f22W0_ev (n : Nat)  : ∀ m, (f22W0 (lp C1 f22h n Lf (codeOf f22f) [1, 0, 1, 0] [] (endK C1 f22h f22f) m)) = f22L0 n  m := by
  intro m
  induction m with
  | zero => funext x0_0 x0_1 x0_2; exact lp_zero _
  | succ m ih =>
    funext x0_0 x0_1 x0_2
    show lp C1 f22h n Lf (codeOf f22f) [1, 0, 1, 0] [] (endK C1 f22h f22f) (m + 1) (f22H0 x0_0 x0_1 x0_2) = f22S0   (f22L0 n  m) x0_0 x0_1 x0_2
    rw [lp_succ, f22S0_ev, ih]
noncomputable def f22T (l0 : f22G0) (l : List Int) (x : Int) : Option Lf :=
 l0 (l : List Int) (x : Int) (0 : Int)
noncomputable def f22M (n : Nat) (l : List Int) (x : Int) : Option Lf := f22T (f22L0 n n) l x
theorem f22T_ev (n : Nat) (l : List Int) (x : Int) : evF C1 f22h n f22f [(D.p (Pt.one (L.d (Pv.fz false) (Sh.l (Sh.i IntKind.i64)) l))), (D.p (Pt.one (L.d (Pv.fz true) (Sh.i IntKind.i64) x)))] [] = f22T (f22W0 (lp C1 f22h n Lf (codeOf f22f) [1, 0, 1, 0] [] (endK C1 f22h f22f) n)) l x := by kernel_rfl
theorem f22_ev (n : Nat) (l : List Int) (x : Int) : evF C1 f22h n f22f [(D.p (Pt.one (L.d (Pv.fz false) (Sh.l (Sh.i IntKind.i64)) l))), (D.p (Pt.one (L.d (Pv.fz true) (Sh.i IntKind.i64) x)))] [] = f22M n l x := by
  rw [f22T_ev, f22W0_ev]
  rfl

abbrev f18h : Hn := h18
noncomputable abbrev f18f : Func := fn 18
abbrev f18G0 := (List Int) → (List Int) → Int → Option Lf
noncomputable def f18H0 (x0_0 : List Int) (x0_1 : List Int) (x0_2 : Int) : St := (St.mk [(D.p (Pt.one (L.d (Pv.fz false) (Sh.l (Sh.i IntKind.i64)) x0_0))), (D.p (Pt.one (L.d (Pv.fz false) (Sh.l (Sh.i IntKind.i64)) x0_1))), dead, dead, dead, (D.p (Pt.one (L.d (Pv.fz true) (Sh.i IntKind.i64) x0_2))), dead, dead, dead, dead, dead, dead, dead, dead, dead, dead, dead, dead, dead, dead, dead, dead, dead, dead, dead, dead] [[], []])
noncomputable def f18W0 (G : St → Option Lf) : f18G0 := fun x0_0 x0_1 x0_2 => G (f18H0 x0_0 x0_1 x0_2)
noncomputable def f18S0  (g0 : f18G0) (x0_0 : List Int) (x0_1 : List Int) (x0_2 : Int) : Option Lf :=
 bif decide (x0_2 < zn x0_0.length) then
  bif inb x0_2 x0_0.length then
   bif inb x0_2 x0_1.length then
    bif x0_0.getD x0_2.toNat 0 != x0_1.getD x0_2.toNat 0 then
     some (Lf.mk [(Pt.one (L.d (Pv.fz true) Sh.b (false : Bool)))] [] [])
    else
     g0 (x0_0 : List Int) (x0_1 : List Int) (IntKind.i64.wrap (x0_2 + 1) : Int)
   else
    none
  else
   none
 else
  some (Lf.mk [(Pt.one (L.d (Pv.fz true) Sh.b (true : Bool)))] [] [])
noncomputable def f18L0 (n : Nat)  : Nat → f18G0
  | 0 => fun _ _ _ => none
  | m + 1 => fun x0_0 x0_1 x0_2 => f18S0   (f18L0 n  m) x0_0 x0_1 x0_2
theorem f18S0_ev (n : Nat)  (G : St → Option Lf) (x0_0 : List Int) (x0_1 : List Int) (x0_2 : Int) : rnd C1 f18h n Lf (codeOf f18f) [1, 1, 0, 1, 0] [] (endK C1 f18h f18f) G (f18H0 x0_0 x0_1 x0_2) = f18S0   (f18W0 G) x0_0 x0_1 x0_2 := by kernel_rfl
theorem f18W0_ev (n : Nat)  : ∀ m, (f18W0 (lp C1 f18h n Lf (codeOf f18f) [1, 1, 0, 1, 0] [] (endK C1 f18h f18f) m)) = f18L0 n  m := by
  intro m
  induction m with
  | zero => funext x0_0 x0_1 x0_2; exact lp_zero _
  | succ m ih =>
    funext x0_0 x0_1 x0_2
    show lp C1 f18h n Lf (codeOf f18f) [1, 1, 0, 1, 0] [] (endK C1 f18h f18f) (m + 1) (f18H0 x0_0 x0_1 x0_2) = f18S0   (f18L0 n  m) x0_0 x0_1 x0_2
    rw [lp_succ, f18S0_ev, ih]
noncomputable def f18T (l0 : f18G0) (a : List Int) (b : List Int) : Option Lf :=
 bif zn a.length != zn b.length then
  some (Lf.mk [(Pt.one (L.d (Pv.fz true) Sh.b (false : Bool)))] [] [])
 else
  l0 (a : List Int) (b : List Int) (0 : Int)
noncomputable def f18M (n : Nat) (a : List Int) (b : List Int) : Option Lf := f18T (f18L0 n n) a b
theorem f18T_ev (n : Nat) (a : List Int) (b : List Int) : evF C1 f18h n f18f [(D.p (Pt.one (L.d (Pv.fz false) (Sh.l (Sh.i IntKind.i64)) a))), (D.p (Pt.one (L.d (Pv.fz false) (Sh.l (Sh.i IntKind.i64)) b)))] [] = f18T (f18W0 (lp C1 f18h n Lf (codeOf f18f) [1, 1, 0, 1, 0] [] (endK C1 f18h f18f) n)) a b := by kernel_rfl
theorem f18_ev (n : Nat) (a : List Int) (b : List Int) : evF C1 f18h n f18f [(D.p (Pt.one (L.d (Pv.fz false) (Sh.l (Sh.i IntKind.i64)) a))), (D.p (Pt.one (L.d (Pv.fz false) (Sh.l (Sh.i IntKind.i64)) b)))] [] = f18M n a b := by
  rw [f18T_ev, f18W0_ev]
  rfl

abbrev f10h : Hn := h10
noncomputable abbrev f10f : Func := fn 10
abbrev f10G0 := Int → Int → Int → (List (List Int)) → (List (List Int × List Int × Unit)) → Option Lf
noncomputable def f10H0 (x0_0 : Int) (x0_1 : Int) (x0_2 : Int) (x0_3 : List (List Int)) (x0_4 : List (List Int × List Int × Unit)) : St := (St.mk [dead, (D.p (Pt.one (L.pv (Id.mk 1 0) 0))), dead, (D.p (Pt.one (L.d (Pv.fz true) (Sh.i IntKind.i64) x0_0))), dead, dead, dead, dead, dead, dead, dead, dead, dead, dead, dead, dead, dead, dead, dead, dead, dead, dead, dead, dead, dead, dead, dead, dead] [[], [(Ob.va [(L.d (Pv.fz true) (Sh.i IntKind.i64) x0_1), (L.d (Pv.fz true) (Sh.i IntKind.i64) x0_2), (L.d (Pv.fz false) (Sh.l (Sh.l (Sh.i IntKind.i64))) x0_3), (L.d (Pv.fz false) (Sh.l (Sh.p (Sh.l (Sh.i IntKind.i64)) (Sh.p (Sh.l (Sh.i IntKind.i64)) Sh.u))) x0_4)])]])
noncomputable def f10W0 (G : St → Option Lf) : f10G0 := fun x0_0 x0_1 x0_2 x0_3 x0_4 => G (f10H0 x0_0 x0_1 x0_2 x0_3 x0_4)
noncomputable def f10S0  (g0 : f10G0) (x0_0 : Int) (x0_1 : Int) (x0_2 : Int) (x0_3 : List (List Int)) (x0_4 : List (List Int × List Int × Unit)) : Option Lf :=
 bif decide (x0_0 < zn x0_3.length) then
  bif inb x0_0 x0_3.length then
   bif decide (zn (x0_3.getD x0_0.toNat []).length > 64) then
    some (Lf.mk [(Pt.one (L.d (Pv.fz true) Sh.b (true : Bool)))] [] [])
   else
    g0 (IntKind.i64.wrap (x0_0 + 1) : Int) (x0_1 : Int) (x0_2 : Int) (x0_3 : List (List Int)) (x0_4 : List (List Int × List Int × Unit))
  else
   none
 else
  some (Lf.mk [(Pt.one (L.d (Pv.fz true) Sh.b (false : Bool)))] [] [])
noncomputable def f10L0 (n : Nat)  : Nat → f10G0
  | 0 => fun _ _ _ _ _ => none
  | m + 1 => fun x0_0 x0_1 x0_2 x0_3 x0_4 => f10S0   (f10L0 n  m) x0_0 x0_1 x0_2 x0_3 x0_4
theorem f10S0_ev (n : Nat)  (G : St → Option Lf) (x0_0 : Int) (x0_1 : Int) (x0_2 : Int) (x0_3 : List (List Int)) (x0_4 : List (List Int × List Int × Unit)) : rnd C1 f10h n Lf (codeOf f10f) [1, 1, 0, 1, 0] [] (endK C1 f10h f10f) G (f10H0 x0_0 x0_1 x0_2 x0_3 x0_4) = f10S0   (f10W0 G) x0_0 x0_1 x0_2 x0_3 x0_4 := by kernel_rfl
theorem f10W0_ev (n : Nat)  : ∀ m, (f10W0 (lp C1 f10h n Lf (codeOf f10f) [1, 1, 0, 1, 0] [] (endK C1 f10h f10f) m)) = f10L0 n  m := by
  intro m
  induction m with
  | zero => funext x0_0 x0_1 x0_2 x0_3 x0_4; exact lp_zero _
  | succ m ih =>
    funext x0_0 x0_1 x0_2 x0_3 x0_4
    show lp C1 f10h n Lf (codeOf f10f) [1, 1, 0, 1, 0] [] (endK C1 f10h f10f) (m + 1) (f10H0 x0_0 x0_1 x0_2 x0_3 x0_4) = f10S0   (f10L0 n  m) x0_0 x0_1 x0_2 x0_3 x0_4
    rw [lp_succ, f10S0_ev, ih]
noncomputable def f10T (l0 : f10G0) (p : Int) (i : Int) (nx : List (List Int)) (ps : List (List Int × List Int × Unit)) : Option Lf :=
 bif Nat.beq 1 1 && (decide (zn nx.length > 40) || true) then
  bif decide (zn nx.length > 40) || decide (zn ps.length > 20) then
   some (Lf.mk [(Pt.one (L.d (Pv.fz true) Sh.b (true : Bool)))] [] [])
  else
   l0 (0 : Int) (p : Int) (i : Int) (nx : List (List Int)) (ps : List (List Int × List Int × Unit))
 else
  none
noncomputable def f10M (n : Nat) (p : Int) (i : Int) (nx : List (List Int)) (ps : List (List Int × List Int × Unit)) : Option Lf := f10T (f10L0 n n) p i nx ps
theorem f10T_ev (n : Nat) (p : Int) (i : Int) (nx : List (List Int)) (ps : List (List Int × List Int × Unit)) : evF C1 f10h n f10f [(D.p (Pt.agg [(L.d (Pv.fz true) (Sh.i IntKind.i64) p), (L.d (Pv.fz true) (Sh.i IntKind.i64) i), (L.d (Pv.fz false) (Sh.l (Sh.l (Sh.i IntKind.i64))) nx), (L.d (Pv.fz false) (Sh.l (Sh.p (Sh.l (Sh.i IntKind.i64)) (Sh.p (Sh.l (Sh.i IntKind.i64)) Sh.u))) ps)]))] [] = f10T (f10W0 (lp C1 f10h n Lf (codeOf f10f) [1, 1, 0, 1, 0] [] (endK C1 f10h f10f) n)) p i nx ps := by kernel_rfl
theorem f10_ev (n : Nat) (p : Int) (i : Int) (nx : List (List Int)) (ps : List (List Int × List Int × Unit)) : evF C1 f10h n f10f [(D.p (Pt.agg [(L.d (Pv.fz true) (Sh.i IntKind.i64) p), (L.d (Pv.fz true) (Sh.i IntKind.i64) i), (L.d (Pv.fz false) (Sh.l (Sh.l (Sh.i IntKind.i64))) nx), (L.d (Pv.fz false) (Sh.l (Sh.p (Sh.l (Sh.i IntKind.i64)) (Sh.p (Sh.l (Sh.i IntKind.i64)) Sh.u))) ps)]))] [] = f10M n p i nx ps := by
  rw [f10T_ev, f10W0_ev]
  rfl

abbrev f9h : Hn := h9
noncomputable abbrev f9f : Func := fn 9
abbrev f9G0 := Int → Int → (List (List (ByteArray × List (Int × Int × Unit) × Unit))) → (List ByteArray) → (List (List Int)) → Option Lf
noncomputable def f9H0 (x0_0 : Int) (x0_1 : Int) (x0_2 : List (List (ByteArray × List (Int × Int × Unit) × Unit))) (x0_3 : List ByteArray) (x0_4 : List (List Int)) : St := (St.mk [dead, (D.p (Pt.one (L.pv (Id.mk 1 0) 0))), dead, (D.p (Pt.one (L.d (Pv.fz true) (Sh.i IntKind.i64) x0_0))), dead, dead, dead, dead, dead, dead, dead, dead, dead, dead, dead, dead, dead, dead, dead, dead, dead, dead, dead, dead, dead, dead, dead, dead, dead, dead, dead, dead, dead, dead, dead, dead, dead, dead, dead, dead, dead, dead, dead, dead, dead, dead, dead, dead, dead, dead, dead, dead, dead, dead, dead, dead, dead, dead, dead, dead, dead, dead, dead, dead, dead, dead, dead, dead, dead, dead, dead] [[], [(Ob.va [(L.d (Pv.fz true) (Sh.i IntKind.i64) x0_1), (L.d (Pv.fz false) (Sh.l (Sh.l (Sh.p Sh.s (Sh.p (Sh.l (Sh.p (Sh.i IntKind.i64) (Sh.p (Sh.i IntKind.i64) Sh.u))) Sh.u)))) x0_2), (L.d (Pv.fz false) (Sh.l Sh.s) x0_3), (L.d (Pv.fz false) (Sh.l (Sh.l (Sh.i IntKind.i64))) x0_4)])]])
noncomputable def f9W0 (G : St → Option Lf) : f9G0 := fun x0_0 x0_1 x0_2 x0_3 x0_4 => G (f9H0 x0_0 x0_1 x0_2 x0_3 x0_4)
abbrev f9G1 := Int → Int → Int → (List (List (ByteArray × List (Int × Int × Unit) × Unit))) → (List ByteArray) → (List (List Int)) → Option Lf
noncomputable def f9H1 (x1_0 : Int) (x1_1 : Int) (x1_2 : Int) (x1_3 : List (List (ByteArray × List (Int × Int × Unit) × Unit))) (x1_4 : List ByteArray) (x1_5 : List (List Int)) : St := (St.mk [dead, (D.p (Pt.one (L.pv (Id.mk 1 0) 0))), dead, (D.p (Pt.one (L.d (Pv.fz true) (Sh.i IntKind.i64) x1_0))), (D.p (Pt.one (L.d (Pv.fz true) (Sh.i IntKind.i64) x1_1))), dead, dead, dead, dead, dead, dead, dead, dead, dead, dead, dead, dead, dead, dead, dead, dead, dead, dead, dead, dead, dead, dead, dead, dead, dead, dead, dead, dead, dead, dead, dead, dead, dead, dead, dead, dead, dead, dead, dead, dead, dead, dead, dead, dead, dead, dead, dead, dead, dead, dead, dead, dead, dead, dead, dead, dead, dead, dead, dead, dead, dead, dead, dead, dead, dead, dead] [[], [(Ob.va [(L.d (Pv.fz true) (Sh.i IntKind.i64) x1_2), (L.d (Pv.fz false) (Sh.l (Sh.l (Sh.p Sh.s (Sh.p (Sh.l (Sh.p (Sh.i IntKind.i64) (Sh.p (Sh.i IntKind.i64) Sh.u))) Sh.u)))) x1_3), (L.d (Pv.fz false) (Sh.l Sh.s) x1_4), (L.d (Pv.fz false) (Sh.l (Sh.l (Sh.i IntKind.i64))) x1_5)])]])
noncomputable def f9W1 (G : St → Option Lf) : f9G1 := fun x1_0 x1_1 x1_2 x1_3 x1_4 x1_5 => G (f9H1 x1_0 x1_1 x1_2 x1_3 x1_4 x1_5)
noncomputable def f9S1  (g0 : f9G0) (g1 : f9G1) (x1_0 : Int) (x1_1 : Int) (x1_2 : Int) (x1_3 : List (List (ByteArray × List (Int × Int × Unit) × Unit))) (x1_4 : List ByteArray) (x1_5 : List (List Int)) : Option Lf :=
 bif inb x1_0 x1_3.length then
  bif decide (x1_1 < zn (x1_3.getD x1_0.toNat []).length) then
   bif inb x1_0 x1_3.length then
    bif inb x1_1 (x1_3.getD x1_0.toNat []).length then
     bif decide (zn ((x1_3.getD x1_0.toNat []).getD x1_1.toNat ({ data := #[] }, [], ())).snd.fst.length > 20) then
      some (Lf.mk [(Pt.one (L.d (Pv.fz true) Sh.b (true : Bool)))] [] [])
     else
      g1 (x1_0 : Int) (IntKind.i64.wrap (x1_1 + 1) : Int) (x1_2 : Int) (x1_3 : List (List (ByteArray × List (Int × Int × Unit) × Unit))) (x1_4 : List ByteArray) (x1_5 : List (List Int))
    else
     none
   else
    none
  else
   g0 (IntKind.i64.wrap (x1_0 + 1) : Int) (x1_2 : Int) (x1_3 : List (List (ByteArray × List (Int × Int × Unit) × Unit))) (x1_4 : List ByteArray) (x1_5 : List (List Int))
 else
  none
noncomputable def f9L1 (n : Nat) (g0 : f9G0) : Nat → f9G1
  | 0 => fun _ _ _ _ _ _ => none
  | m + 1 => fun x1_0 x1_1 x1_2 x1_3 x1_4 x1_5 => f9S1  g0 (f9L1 n g0 m) x1_0 x1_1 x1_2 x1_3 x1_4 x1_5
theorem f9S1_ev (n : Nat) (G0 : St → Option Lf) (G : St → Option Lf) (x1_0 : Int) (x1_1 : Int) (x1_2 : Int) (x1_3 : List (List (ByteArray × List (Int × Int × Unit) × Unit))) (x1_4 : List ByteArray) (x1_5 : List (List Int)) : rnd C1 f9h n Lf (codeOf f9f) [1, 1, 0, 1, 0, 0, 1, 0, 0, 1, 1, 0] [G0] (endK C1 f9h f9f) G (f9H1 x1_0 x1_1 x1_2 x1_3 x1_4 x1_5) = f9S1  (f9W0 G0) (f9W1 G) x1_0 x1_1 x1_2 x1_3 x1_4 x1_5 := by kernel_rfl
theorem f9W1_ev (n : Nat) (G0 : St → Option Lf) : ∀ m, (f9W1 (lp C1 f9h n Lf (codeOf f9f) [1, 1, 0, 1, 0, 0, 1, 0, 0, 1, 1, 0] [G0] (endK C1 f9h f9f) m)) = f9L1 n (f9W0 G0) m := by
  intro m
  induction m with
  | zero => funext x1_0 x1_1 x1_2 x1_3 x1_4 x1_5; exact lp_zero _
  | succ m ih =>
    funext x1_0 x1_1 x1_2 x1_3 x1_4 x1_5
    show lp C1 f9h n Lf (codeOf f9f) [1, 1, 0, 1, 0, 0, 1, 0, 0, 1, 1, 0] [G0] (endK C1 f9h f9f) (m + 1) (f9H1 x1_0 x1_1 x1_2 x1_3 x1_4 x1_5) = f9S1  (f9W0 G0) (f9L1 n (f9W0 G0) m) x1_0 x1_1 x1_2 x1_3 x1_4 x1_5
    rw [lp_succ, f9S1_ev, ih]
abbrev f9G2 := Int → Int → (List (List (ByteArray × List (Int × Int × Unit) × Unit))) → (List ByteArray) → (List (List Int)) → Option Lf
noncomputable def f9H2 (x2_0 : Int) (x2_1 : Int) (x2_2 : List (List (ByteArray × List (Int × Int × Unit) × Unit))) (x2_3 : List ByteArray) (x2_4 : List (List Int)) : St := (St.mk [dead, (D.p (Pt.one (L.pv (Id.mk 1 0) 0))), dead, dead, dead, (D.p (Pt.one (L.d (Pv.fz true) (Sh.i IntKind.i64) x2_0))), dead, dead, dead, dead, dead, dead, dead, dead, dead, dead, dead, dead, dead, dead, dead, dead, dead, dead, dead, dead, dead, dead, dead, dead, dead, dead, dead, dead, dead, dead, dead, dead, dead, dead, dead, dead, dead, dead, dead, dead, dead, dead, dead, dead, dead, dead, dead, dead, dead, dead, dead, dead, dead, dead, dead, dead, dead, dead, dead, dead, dead, dead, dead, dead, dead] [[], [(Ob.va [(L.d (Pv.fz true) (Sh.i IntKind.i64) x2_1), (L.d (Pv.fz false) (Sh.l (Sh.l (Sh.p Sh.s (Sh.p (Sh.l (Sh.p (Sh.i IntKind.i64) (Sh.p (Sh.i IntKind.i64) Sh.u))) Sh.u)))) x2_2), (L.d (Pv.fz false) (Sh.l Sh.s) x2_3), (L.d (Pv.fz false) (Sh.l (Sh.l (Sh.i IntKind.i64))) x2_4)])]])
noncomputable def f9W2 (G : St → Option Lf) : f9G2 := fun x2_0 x2_1 x2_2 x2_3 x2_4 => G (f9H2 x2_0 x2_1 x2_2 x2_3 x2_4)
noncomputable def f9S2  (g2 : f9G2) (x2_0 : Int) (x2_1 : Int) (x2_2 : List (List (ByteArray × List (Int × Int × Unit) × Unit))) (x2_3 : List ByteArray) (x2_4 : List (List Int)) : Option Lf :=
 bif decide (x2_0 < zn x2_4.length) then
  bif inb x2_0 x2_4.length then
   bif decide (zn (x2_4.getD x2_0.toNat []).length > 20) then
    some (Lf.mk [(Pt.one (L.d (Pv.fz true) Sh.b (true : Bool)))] [] [])
   else
    g2 (IntKind.i64.wrap (x2_0 + 1) : Int) (x2_1 : Int) (x2_2 : List (List (ByteArray × List (Int × Int × Unit) × Unit))) (x2_3 : List ByteArray) (x2_4 : List (List Int))
  else
   none
 else
  some (Lf.mk [(Pt.one (L.d (Pv.fz true) Sh.b (false : Bool)))] [] [])
noncomputable def f9L2 (n : Nat)  : Nat → f9G2
  | 0 => fun _ _ _ _ _ => none
  | m + 1 => fun x2_0 x2_1 x2_2 x2_3 x2_4 => f9S2   (f9L2 n  m) x2_0 x2_1 x2_2 x2_3 x2_4
theorem f9S2_ev (n : Nat)  (G : St → Option Lf) (x2_0 : Int) (x2_1 : Int) (x2_2 : List (List (ByteArray × List (Int × Int × Unit) × Unit))) (x2_3 : List ByteArray) (x2_4 : List (List Int)) : rnd C1 f9h n Lf (codeOf f9f) [1, 1, 1, 0, 1, 0] [] (endK C1 f9h f9f) G (f9H2 x2_0 x2_1 x2_2 x2_3 x2_4) = f9S2   (f9W2 G) x2_0 x2_1 x2_2 x2_3 x2_4 := by kernel_rfl
theorem f9W2_ev (n : Nat)  : ∀ m, (f9W2 (lp C1 f9h n Lf (codeOf f9f) [1, 1, 1, 0, 1, 0] [] (endK C1 f9h f9f) m)) = f9L2 n  m := by
  intro m
  induction m with
  | zero => funext x2_0 x2_1 x2_2 x2_3 x2_4; exact lp_zero _
  | succ m ih =>
    funext x2_0 x2_1 x2_2 x2_3 x2_4
    show lp C1 f9h n Lf (codeOf f9f) [1, 1, 1, 0, 1, 0] [] (endK C1 f9h f9f) (m + 1) (f9H2 x2_0 x2_1 x2_2 x2_3 x2_4) = f9S2   (f9L2 n  m) x2_0 x2_1 x2_2 x2_3 x2_4
    rw [lp_succ, f9S2_ev, ih]
noncomputable def f9S0 (l1 : f9G1) (l2 : f9G2) (g0 : f9G0) (x0_0 : Int) (x0_1 : Int) (x0_2 : List (List (ByteArray × List (Int × Int × Unit) × Unit))) (x0_3 : List ByteArray) (x0_4 : List (List Int)) : Option Lf :=
 bif decide (x0_0 < zn x0_2.length) then
  bif inb x0_0 x0_2.length then
   bif decide (zn (x0_2.getD x0_0.toNat []).length > 10) then
    some (Lf.mk [(Pt.one (L.d (Pv.fz true) Sh.b (true : Bool)))] [] [])
   else
    l1 (x0_0 : Int) (0 : Int) (x0_1 : Int) (x0_2 : List (List (ByteArray × List (Int × Int × Unit) × Unit))) (x0_3 : List ByteArray) (x0_4 : List (List Int))
  else
   none
 else
  l2 (0 : Int) (x0_1 : Int) (x0_2 : List (List (ByteArray × List (Int × Int × Unit) × Unit))) (x0_3 : List ByteArray) (x0_4 : List (List Int))
noncomputable def f9L0 (n : Nat)  : Nat → f9G0
  | 0 => fun _ _ _ _ _ => none
  | m + 1 => fun x0_0 x0_1 x0_2 x0_3 x0_4 => f9S0 (f9L1 n (f9L0 n  m) n) (f9L2 n  n)  (f9L0 n  m) x0_0 x0_1 x0_2 x0_3 x0_4
theorem f9S0_ev (n : Nat)  (G : St → Option Lf) (x0_0 : Int) (x0_1 : Int) (x0_2 : List (List (ByteArray × List (Int × Int × Unit) × Unit))) (x0_3 : List ByteArray) (x0_4 : List (List Int)) : rnd C1 f9h n Lf (codeOf f9f) [1, 1, 0, 1, 0] [] (endK C1 f9h f9f) G (f9H0 x0_0 x0_1 x0_2 x0_3 x0_4) = f9S0 (f9W1 (lp C1 f9h n Lf (codeOf f9f) [1, 1, 0, 1, 0, 0, 1, 0, 0, 1, 1, 0] [G] (endK C1 f9h f9f) n)) (f9W2 (lp C1 f9h n Lf (codeOf f9f) [1, 1, 1, 0, 1, 0] [] (endK C1 f9h f9f) n))  (f9W0 G) x0_0 x0_1 x0_2 x0_3 x0_4 := by kernel_rfl
theorem f9W0_ev (n : Nat)  : ∀ m, (f9W0 (lp C1 f9h n Lf (codeOf f9f) [1, 1, 0, 1, 0] [] (endK C1 f9h f9f) m)) = f9L0 n  m := by
  intro m
  induction m with
  | zero => funext x0_0 x0_1 x0_2 x0_3 x0_4; exact lp_zero _
  | succ m ih =>
    have e1 : (f9W1 (lp C1 f9h n Lf (codeOf f9f) [1, 1, 0, 1, 0, 0, 1, 0, 0, 1, 1, 0] [(lp C1 f9h n Lf (codeOf f9f) [1, 1, 0, 1, 0] [] (endK C1 f9h f9f) m)] (endK C1 f9h f9f) n)) = (f9L1 n (f9L0 n  m) n) := by
      rw [f9W1_ev, ih]
    have e2 : (f9W2 (lp C1 f9h n Lf (codeOf f9f) [1, 1, 1, 0, 1, 0] [] (endK C1 f9h f9f) n)) = (f9L2 n  n) := by
      rw [f9W2_ev]
    funext x0_0 x0_1 x0_2 x0_3 x0_4
    show lp C1 f9h n Lf (codeOf f9f) [1, 1, 0, 1, 0] [] (endK C1 f9h f9f) (m + 1) (f9H0 x0_0 x0_1 x0_2 x0_3 x0_4) = f9S0 (f9L1 n (f9L0 n  m) n) (f9L2 n  n)  (f9L0 n  m) x0_0 x0_1 x0_2 x0_3 x0_4
    rw [lp_succ, f9S0_ev, ih, e1, e2]
noncomputable def f9T (l0 : f9G0) (i : Int) (ch : List (List (ByteArray × List (Int × Int × Unit) × Unit))) (nm : List ByteArray) (ho : List (List Int)) : Option Lf :=
 bif Nat.beq 1 1 && (decide (zn ch.length > 40) || Nat.beq 1 1 && (decide (zn ho.length > 40) || true)) then
  bif decide (zn ch.length > 40) || (decide (zn ho.length > 40) || decide (zn nm.length > 12)) then
   some (Lf.mk [(Pt.one (L.d (Pv.fz true) Sh.b (true : Bool)))] [] [])
  else
   l0 (0 : Int) (i : Int) (ch : List (List (ByteArray × List (Int × Int × Unit) × Unit))) (nm : List ByteArray) (ho : List (List Int))
 else
  none
noncomputable def f9M (n : Nat) (i : Int) (ch : List (List (ByteArray × List (Int × Int × Unit) × Unit))) (nm : List ByteArray) (ho : List (List Int)) : Option Lf := f9T (f9L0 n n) i ch nm ho
theorem f9T_ev (n : Nat) (i : Int) (ch : List (List (ByteArray × List (Int × Int × Unit) × Unit))) (nm : List ByteArray) (ho : List (List Int)) : evF C1 f9h n f9f [(D.p (Pt.agg [(L.d (Pv.fz true) (Sh.i IntKind.i64) i), (L.d (Pv.fz false) (Sh.l (Sh.l (Sh.p Sh.s (Sh.p (Sh.l (Sh.p (Sh.i IntKind.i64) (Sh.p (Sh.i IntKind.i64) Sh.u))) Sh.u)))) ch), (L.d (Pv.fz false) (Sh.l Sh.s) nm), (L.d (Pv.fz false) (Sh.l (Sh.l (Sh.i IntKind.i64))) ho)]))] [] = f9T (f9W0 (lp C1 f9h n Lf (codeOf f9f) [1, 1, 0, 1, 0] [] (endK C1 f9h f9f) n)) i ch nm ho := by kernel_rfl
theorem f9_ev (n : Nat) (i : Int) (ch : List (List (ByteArray × List (Int × Int × Unit) × Unit))) (nm : List ByteArray) (ho : List (List Int)) : evF C1 f9h n f9f [(D.p (Pt.agg [(L.d (Pv.fz true) (Sh.i IntKind.i64) i), (L.d (Pv.fz false) (Sh.l (Sh.l (Sh.p Sh.s (Sh.p (Sh.l (Sh.p (Sh.i IntKind.i64) (Sh.p (Sh.i IntKind.i64) Sh.u))) Sh.u)))) ch), (L.d (Pv.fz false) (Sh.l Sh.s) nm), (L.d (Pv.fz false) (Sh.l (Sh.l (Sh.i IntKind.i64))) ho)]))] [] = f9M n i ch nm ho := by
  rw [f9T_ev, f9W0_ev]
  rfl

abbrev f37h : Hn := h37
noncomputable abbrev f37f : Func := fn 37
abbrev f37G0 := (List ByteArray) → (List ByteArray) → Int → Int → (List (ByteArray × Bool)) → Option Lf
noncomputable def f37H0 (x0_0 : List ByteArray) (x0_1 : List ByteArray) (x0_2 : Int) (x0_3 : Int) (x0_4 : List (ByteArray × Bool)) : St := (St.mk [(D.p (Pt.one (L.d (Pv.fz false) (Sh.l Sh.s) x0_0))), dead, dead, (D.p (Pt.one (L.mp (Id.mk 1 0)))), dead, dead, dead, (D.p (Pt.one (L.d (Pv.fz false) (Sh.l Sh.s) x0_1))), (D.p (Pt.one (L.d (Pv.fz true) (Sh.i IntKind.i64) x0_2))), (D.p (Pt.one (L.d (Pv.fz true) (Sh.i IntKind.i64) x0_3))), dead, dead, dead, dead, dead, dead, dead, dead, dead, dead, dead] [[], [(Ob.ma Sh.s Sh.b x0_4)]])
noncomputable def f37W0 (G : St → Option Lf) : f37G0 := fun x0_0 x0_1 x0_2 x0_3 x0_4 => G (f37H0 x0_0 x0_1 x0_2 x0_3 x0_4)
noncomputable def f37S0  (g0 : f37G0) (x0_0 : List ByteArray) (x0_1 : List ByteArray) (x0_2 : Int) (x0_3 : Int) (x0_4 : List (ByteArray × Bool)) : Option Lf :=
 bif decide (x0_3 < x0_2) then
  bif inb x0_3 x0_1.length then
   g0 (x0_0 : List ByteArray) (x0_1 : List ByteArray) (x0_2 : Int) (IntKind.i64.wrap (x0_3 + 1) : Int) (mapSet Sh.s Sh.b (x0_1.getD x0_3.toNat { data := #[] }) true x0_4 : List (ByteArray × Bool))
  else
   none
 else
  some (Lf.mk [(Pt.one (L.d (Pv.fz true) Sh.b (zn x0_4.length == zn x0_0.length : Bool)))] [] [])
noncomputable def f37L0 (n : Nat)  : Nat → f37G0
  | 0 => fun _ _ _ _ _ => none
  | m + 1 => fun x0_0 x0_1 x0_2 x0_3 x0_4 => f37S0   (f37L0 n  m) x0_0 x0_1 x0_2 x0_3 x0_4
theorem f37S0_ev (n : Nat)  (G : St → Option Lf) (x0_0 : List ByteArray) (x0_1 : List ByteArray) (x0_2 : Int) (x0_3 : Int) (x0_4 : List (ByteArray × Bool)) : rnd C1 f37h n Lf (codeOf f37f) [1, 1, 0, 1, 0] [] (endK C1 f37h f37f) G (f37H0 x0_0 x0_1 x0_2 x0_3 x0_4) = f37S0   (f37W0 G) x0_0 x0_1 x0_2 x0_3 x0_4 := by kernel_rfl
theorem f37W0_ev (n : Nat)  : ∀ m, (f37W0 (lp C1 f37h n Lf (codeOf f37f) [1, 1, 0, 1, 0] [] (endK C1 f37h f37f) m)) = f37L0 n  m := by
  intro m
  induction m with
  | zero => funext x0_0 x0_1 x0_2 x0_3 x0_4; exact lp_zero _
  | succ m ih =>
    funext x0_0 x0_1 x0_2 x0_3 x0_4
    show lp C1 f37h n Lf (codeOf f37f) [1, 1, 0, 1, 0] [] (endK C1 f37h f37f) (m + 1) (f37H0 x0_0 x0_1 x0_2 x0_3 x0_4) = f37S0   (f37L0 n  m) x0_0 x0_1 x0_2 x0_3 x0_4
    rw [lp_succ, f37S0_ev, ih]
noncomputable def f37T (l0 : f37G0) (l : List ByteArray) : Option Lf :=
 l0 (l : List ByteArray) (l : List ByteArray) (zn l.length : Int) (0 : Int) ([] : List (ByteArray × Bool))
noncomputable def f37M (n : Nat) (l : List ByteArray) : Option Lf := f37T (f37L0 n n) l
theorem f37T_ev (n : Nat) (l : List ByteArray) : evF C1 f37h n f37f [(D.p (Pt.one (L.d (Pv.fz false) (Sh.l Sh.s) l)))] [] = f37T (f37W0 (lp C1 f37h n Lf (codeOf f37f) [1, 1, 0, 1, 0] [] (endK C1 f37h f37f) n)) l := by kernel_rfl
theorem f37_ev (n : Nat) (l : List ByteArray) : evF C1 f37h n f37f [(D.p (Pt.one (L.d (Pv.fz false) (Sh.l Sh.s) l)))] [] = f37M n l := by
  rw [f37T_ev, f37W0_ev]
  rfl

abbrev f41h : Hn := h41
noncomputable abbrev f41f : Func := fn 41
abbrev f41G0 := Int → (List (Int × Int × Unit)) → Int → Int → ByteArray → (List (Int × Int × Unit)) → (List (Int × Bool)) → Option Lf
noncomputable def f41H0 (x0_0 : Int) (x0_1 : List (Int × Int × Unit)) (x0_2 : Int) (x0_3 : Int) (x0_4 : ByteArray) (x0_5 : List (Int × Int × Unit)) (x0_6 : List (Int × Bool)) : St := (St.mk [dead, (D.p (Pt.one (L.d (Pv.fz true) (Sh.i IntKind.i64) x0_0))), (D.p (Pt.one (L.pv (Id.mk 1 0) 0))), dead, dead, (D.p (Pt.one (L.mp (Id.mk 1 1)))), dead, dead, dead, dead, (D.p (Pt.one (L.d (Pv.fz false) (Sh.l (Sh.p (Sh.i IntKind.i64) (Sh.p (Sh.i IntKind.i64) Sh.u))) x0_1))), (D.p (Pt.one (L.d (Pv.fz true) (Sh.i IntKind.i64) x0_2))), (D.p (Pt.one (L.d (Pv.fz true) (Sh.i IntKind.i64) x0_3))), dead, dead, dead, dead, dead, dead, dead, dead, dead, dead, dead, dead, dead, dead, dead, dead, dead, dead, dead, dead, dead, dead, dead, dead, dead, dead, dead, dead, dead, dead, dead] [[], [(Ob.va [(L.d (Pv.fz true) Sh.s x0_4), (L.d (Pv.fz false) (Sh.l (Sh.p (Sh.i IntKind.i64) (Sh.p (Sh.i IntKind.i64) Sh.u))) x0_5)]), (Ob.ma (Sh.i IntKind.i64) Sh.b x0_6)]])
noncomputable def f41W0 (G : St → Option Lf) : f41G0 := fun x0_0 x0_1 x0_2 x0_3 x0_4 x0_5 x0_6 => G (f41H0 x0_0 x0_1 x0_2 x0_3 x0_4 x0_5 x0_6)
noncomputable def f41S0  (g0 : f41G0) (x0_0 : Int) (x0_1 : List (Int × Int × Unit)) (x0_2 : Int) (x0_3 : Int) (x0_4 : ByteArray) (x0_5 : List (Int × Int × Unit)) (x0_6 : List (Int × Bool)) : Option Lf :=
 bif decide (x0_3 < x0_2) then
  bif inb x0_3 x0_1.length then
   bif Nat.beq 1 1 && (decide ((x0_1.getD x0_3.toNat (0, 0, ())).fst < 0) || Nat.beq 1 1 && (decide ((x0_1.getD x0_3.toNat (0, 0, ())).fst ≥ x0_0) || Nat.beq 1 1 && (decide ((x0_1.getD x0_3.toNat (0, 0, ())).snd.fst < 1) || true))) then
    bif decide ((x0_1.getD x0_3.toNat (0, 0, ())).fst < 0) || (decide ((x0_1.getD x0_3.toNat (0, 0, ())).fst ≥ x0_0) || (decide ((x0_1.getD x0_3.toNat (0, 0, ())).snd.fst < 1) || Option.rec false (fun (val : Bool) => val) (mapGet (Sh.i IntKind.i64) Sh.b (x0_1.getD x0_3.toNat (0, 0, ())).fst x0_6))) then
     some (Lf.mk [(Pt.one (L.d (Pv.fz true) Sh.b (false : Bool)))] [] [])
    else
     g0 (x0_0 : Int) (x0_1 : List (Int × Int × Unit)) (x0_2 : Int) (IntKind.i64.wrap (x0_3 + 1) : Int) (x0_4 : ByteArray) (x0_5 : List (Int × Int × Unit)) (mapSet (Sh.i IntKind.i64) Sh.b (x0_1.getD x0_3.toNat (0, 0, ())).fst true x0_6 : List (Int × Bool))
   else
    none
  else
   none
 else
  some (Lf.mk [(Pt.one (L.d (Pv.fz true) Sh.b (decide (zn x0_5.length > 0) : Bool)))] [] [])
noncomputable def f41L0 (n : Nat)  : Nat → f41G0
  | 0 => fun _ _ _ _ _ _ _ => none
  | m + 1 => fun x0_0 x0_1 x0_2 x0_3 x0_4 x0_5 x0_6 => f41S0   (f41L0 n  m) x0_0 x0_1 x0_2 x0_3 x0_4 x0_5 x0_6
theorem f41S0_ev (n : Nat)  (G : St → Option Lf) (x0_0 : Int) (x0_1 : List (Int × Int × Unit)) (x0_2 : Int) (x0_3 : Int) (x0_4 : ByteArray) (x0_5 : List (Int × Int × Unit)) (x0_6 : List (Int × Bool)) : rnd C1 f41h n Lf (codeOf f41f) [1, 1, 0, 1, 0] [] (endK C1 f41h f41f) G (f41H0 x0_0 x0_1 x0_2 x0_3 x0_4 x0_5 x0_6) = f41S0   (f41W0 G) x0_0 x0_1 x0_2 x0_3 x0_4 x0_5 x0_6 := by kernel_rfl
theorem f41W0_ev (n : Nat)  : ∀ m, (f41W0 (lp C1 f41h n Lf (codeOf f41f) [1, 1, 0, 1, 0] [] (endK C1 f41h f41f) m)) = f41L0 n  m := by
  intro m
  induction m with
  | zero => funext x0_0 x0_1 x0_2 x0_3 x0_4 x0_5 x0_6; exact lp_zero _
  | succ m ih =>
    funext x0_0 x0_1 x0_2 x0_3 x0_4 x0_5 x0_6
    show lp C1 f41h n Lf (codeOf f41f) [1, 1, 0, 1, 0] [] (endK C1 f41h f41f) (m + 1) (f41H0 x0_0 x0_1 x0_2 x0_3 x0_4 x0_5 x0_6) = f41S0   (f41L0 n  m) x0_0 x0_1 x0_2 x0_3 x0_4 x0_5 x0_6
    rw [lp_succ, f41S0_ev, ih]
noncomputable def f41T (l0 : f41G0) (a : ByteArray) (mv : List (Int × Int × Unit)) (z : Int) : Option Lf :=
 l0 (z : Int) (mv : List (Int × Int × Unit)) (zn mv.length : Int) (0 : Int) (a : ByteArray) (mv : List (Int × Int × Unit)) ([] : List (Int × Bool))
noncomputable def f41M (n : Nat) (a : ByteArray) (mv : List (Int × Int × Unit)) (z : Int) : Option Lf := f41T (f41L0 n n) a mv z
theorem f41T_ev (n : Nat) (a : ByteArray) (mv : List (Int × Int × Unit)) (z : Int) : evF C1 f41h n f41f [(D.p (Pt.agg [(L.d (Pv.fz true) Sh.s a), (L.d (Pv.fz false) (Sh.l (Sh.p (Sh.i IntKind.i64) (Sh.p (Sh.i IntKind.i64) Sh.u))) mv)])), (D.p (Pt.one (L.d (Pv.fz true) (Sh.i IntKind.i64) z)))] [] = f41T (f41W0 (lp C1 f41h n Lf (codeOf f41f) [1, 1, 0, 1, 0] [] (endK C1 f41h f41f) n)) a mv z := by kernel_rfl
theorem f41_ev (n : Nat) (a : ByteArray) (mv : List (Int × Int × Unit)) (z : Int) : evF C1 f41h n f41f [(D.p (Pt.agg [(L.d (Pv.fz true) Sh.s a), (L.d (Pv.fz false) (Sh.l (Sh.p (Sh.i IntKind.i64) (Sh.p (Sh.i IntKind.i64) Sh.u))) mv)])), (D.p (Pt.one (L.d (Pv.fz true) (Sh.i IntKind.i64) z)))] [] = f41M n a mv z := by
  rw [f41T_ev, f41W0_ev]
  rfl
end Go.S23
