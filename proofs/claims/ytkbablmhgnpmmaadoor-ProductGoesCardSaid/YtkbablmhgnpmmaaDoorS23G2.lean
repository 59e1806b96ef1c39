/-
  Seat 23: what the functions that take closures compute; the document's Right.
-/
import Derived.Test.YtkbablmhgnpmmaaDoorS23B
open Go Go.En Go.S23
namespace Go.S23
/-! ### contracts of the functions that take closures -/
def gN (a g : Nat) (o : Out) : Out := bif g.beq a then o else .fail
def bad33S : En.Spec := ⟨[], fun ds os => match ds, os with
  | [.p (.one (.d (.fz true) (.i .i64) x)), .p (.one (.pv ⟨0, 0⟩ 0))], [.va [.d (.fz true) (.i .i64) p, .d (.fz true) (.i .i64) i, .d (.fz false) (.l (.l (.i .i64))) nx, .d (.fz false) (.l (.p (.l (.i .i64)) (.p (.l (.i .i64)) .u))) ps]] => .leaf [pB (nin (zn nx.length) x)] [vaD p i nx ps] []
  | _, _ => .fail⟩
def idx45S : En.Spec := ⟨[], fun ds os => match ds, os with
  | [.p (.one (.d (.fz false) (.l (.i .i64)) l)), .p (.one (.fn g [.b ⟨0, 0⟩]))], [.va [.d (.fz true) (.i .i64) n]] => gN 43 g <| .br (big l.length) (.leaf [pI (idxG (nin n) 0 l)] [vaI n] []) .fail
  | [.p (.one (.d (.fz false) (.l (.i .i64)) l)), .p (.one (.fn g [.b ⟨0, 0⟩]))], [.va [.d (.fz true) (.i .i64) p, .d (.fz true) (.i .i64) i, .d (.fz false) (.l (.l (.i .i64))) nx, .d (.fz false) (.l (.p (.l (.i .i64)) (.p (.l (.i .i64)) .u))) ps]] =>
    bif g.beq 26 then .br (big l.length && decide (0 ≤ p)) (.leaf [pI (idxG (nin (shlF .i64 1 p)) 0 l)] [vaD p i nx ps] []) .fail
    else gN 33 g <| .br (big l.length) (.leaf [pI (idxG (nin (zn nx.length)) 0 l)] [vaD p i nx ps] []) .fail
  | _, _ => .fail⟩
def con28S : En.Spec := ⟨[], fun ds os => match ds, os with
  | [.p (.one (.d (.fz false) (.l (.i .i64)) l)), .p (.one (.fn g [.b ⟨0, 0⟩]))], [.va [.d (.fz true) (.i .i64) n]] => gN 43 g <| .br (big l.length) (.leaf [pB (l.any (nin n))] [vaI n] []) .fail
  | [.p (.one (.d (.fz false) (.l (.i .i64)) l)), .p (.one (.fn g [.b ⟨0, 0⟩]))], [.va [.d (.fz true) (.i .i64) p, .d (.fz true) (.i .i64) i, .d (.fz false) (.l (.l (.i .i64))) nx, .d (.fz false) (.l (.p (.l (.i .i64)) (.p (.l (.i .i64)) .u))) ps]] =>
    bif g.beq 26 then .br (big l.length && decide (0 ≤ p)) (.leaf [pB (l.any (nin (shlF .i64 1 p)))] [vaD p i nx ps] []) .fail
    else gN 33 g <| .br (big l.length) (.leaf [pB (l.any (nin (zn nx.length)))] [vaD p i nx ps] []) .fail
  | _, _ => .fail⟩
def right40S : En.Spec := ⟨[], fun ds os => match ds, os with
  | [.p (.agg [.d (.fz true) .s a, .d (.fz false) (.l (.p (.i .i64) (.p (.i .i64) .u))) mv]), .p (.one (.pv ⟨0, 0⟩ 0))], [.va [.d (.fz true) (.i .i64) z]] => .br (big mv.length) (.leaf [pB (!rightV z (a, mv, ()))] [vaI z] []) .fail
  | _, _ => .fail⟩
def mvG (c : ChV) : Bool := big c.2.1.length
def idx52S : En.Spec := ⟨[], fun ds os => match ds, os with
  | [.p (.one (.d (.fz false) (.l (.p .s (.p (.l (.p (.i .i64) (.p (.i .i64) .u))) .u))) l)), .p (.one (.fn g [.b ⟨0, 0⟩]))], [.va [.d (.fz true) (.i .i64) z]] => gN 40 g <| .br (big l.length && l.all mvG) (.leaf [pI (idxG (fun c => !rightV z c) 0 l)] [vaI z] []) .fail
  | _, _ => .fail⟩
def con39S : En.Spec := ⟨[], fun ds os => match ds, os with
  | [.p (.one (.d (.fz false) (.l (.p .s (.p (.l (.p (.i .i64) (.p (.i .i64) .u))) .u))) l)), .p (.one (.fn g [.b ⟨0, 0⟩]))], [.va [.d (.fz true) (.i .i64) z]] => gN 40 g <| .br (big l.length && l.all mvG) (.leaf [pB (l.any fun c => !rightV z c)] [vaI z] []) .fail
  | _, _ => .fail⟩
noncomputable def C2 : Ctx := ctxOf C0 [(43, bad27S), (26, bad37S), (33, bad33S)]
noncomputable def C3 : Ctx := ctxOf C0 [(45, idx45S)]
noncomputable def C4 : Ctx := ctxOf C0 [(41, right41S)]
noncomputable def C5 : Ctx := ctxOf C0 [(40, right40S)]
noncomputable def C6 : Ctx := ctxOf C0 [(52, idx52S)]
def h45 : Hn := ⟨fun | 2 => [0, 1, 7, 8] | _ => [], fun _ => [], fun _ => false⟩
def h32 : Hn := ⟨fun | 5 => [1, 3, 4] | 8 => [1, 3, 4, 5] | 13 => [1, 3, 6] | 18 => [1, 3, 6, 7] | 23 => [1, 3, 6, 8] | 29 => [1, 3, 6, 8, 9, 10] | 34 => [1, 3, 6, 8, 9, 10, 11] | _ => [], fun _ => [], fun _ => false⟩
def dCh (l : List ChV) : D := one (.d (.fz false) (.l chSh) l)

abbrev f45ah : Hn := h45
noncomputable abbrev f45af : Func := fn 45
abbrev f45aG0 := (List Int) → Int → Int → Int → Option Lf
noncomputable def f45aH0 (x0_0 : List Int) (x0_1 : Int) (x0_2 : Int) (x0_3 : Int) : St := (St.mk [(D.p (Pt.one (L.d (Pv.fz false) (Sh.l (Sh.i IntKind.i64)) x0_0))), (D.p (Pt.one (L.fn 43 [(Cp.b (Id.mk 0 0))]))), dead, dead, dead, dead, dead, (D.p (Pt.one (L.d (Pv.fz true) (Sh.i IntKind.i64) x0_1))), (D.p (Pt.one (L.d (Pv.fz true) (Sh.i IntKind.i64) x0_2))), dead, dead, dead, dead, dead, dead, dead, dead, dead, dead] [[(Ob.va [(L.d (Pv.fz true) (Sh.i IntKind.i64) x0_3)])], []])
noncomputable def f45aW0 (G : St → Option Lf) : f45aG0 := fun x0_0 x0_1 x0_2 x0_3 => G (f45aH0 x0_0 x0_1 x0_2 x0_3)
noncomputable def f45aS0  (g0 : f45aG0) (x0_0 : List Int) (x0_1 : Int) (x0_2 : Int) (x0_3 : Int) : Option Lf :=
 bif decide (x0_2 < x0_1) then
  bif inb x0_2 x0_0.length then
   bif nin x0_3 (x0_0.getD x0_2.toNat 0) then
    some (Lf.mk [(Pt.one (L.d (Pv.fz true) (Sh.i IntKind.i64) (x0_2 : Int)))] [(Ob.va [(L.d (Pv.fz true) (Sh.i IntKind.i64) (x0_3 : Int))])] [])
   else
    g0 (x0_0 : List Int) (x0_1 : Int) (IntKind.i64.wrap (x0_2 + 1) : Int) (x0_3 : Int)
  else
   none
 else
  some (Lf.mk [(Pt.one (L.d (Pv.fz true) (Sh.i IntKind.i64) (-1 : Int)))] [(Ob.va [(L.d (Pv.fz true) (Sh.i IntKind.i64) (x0_3 : Int))])] [])
noncomputable def f45aL0 (n : Nat)  : Nat → f45aG0
  | 0 => fun _ _ _ _ => none
  | m + 1 => fun x0_0 x0_1 x0_2 x0_3 => f45aS0   (f45aL0 n  m) x0_0 x0_1 x0_2 x0_3
theorem f45aS0_ev (n : Nat)  (G : St → Option Lf) (x0_0 : List Int) (x0_1 : Int) (x0_2 : Int) (x0_3 : Int) : rnd C2 f45ah n Lf (codeOf f45af) [1, 0, 1, 0] [] (endK C2 f45ah f45af) G (f45aH0 x0_0 x0_1 x0_2 x0_3) = f45aS0   (f45aW0 G) x0_0 x0_1 x0_2 x0_3 := by kernel_rfl
theorem f45aW0_ev (n : Nat)  : ∀ m, (f45aW0 (lp C2 f45ah n Lf (codeOf f45af) [1, 0, 1, 0] [] (endK C2 f45ah f45af) m)) = f45aL0 n  m := by
  intro m
  induction m with
  | zero => funext x0_0 x0_1 x0_2 x0_3; exact lp_zero _
  | succ m ih =>
    funext x0_0 x0_1 x0_2 x0_3
    show lp C2 f45ah n Lf (codeOf f45af) [1, 0, 1, 0] [] (endK C2 f45ah f45af) (m + 1) (f45aH0 x0_0 x0_1 x0_2 x0_3) = f45aS0   (f45aL0 n  m) x0_0 x0_1 x0_2 x0_3
    rw [lp_succ, f45aS0_ev, ih]
noncomputable def f45aT (l0 : f45aG0) (l : List Int) (z : Int) : Option Lf :=
 l0 (l : List Int) (zn l.length : Int) (0 : Int) (z : Int)
noncomputable def f45aM (n : Nat) (l : List Int) (z : Int) : Option Lf := f45aT (f45aL0 n n) l z
theorem f45aT_ev (n : Nat) (l : List Int) (z : Int) : evF C2 f45ah n f45af [(D.p (Pt.one (L.d (Pv.fz false) (Sh.l (Sh.i IntKind.i64)) l))), (D.p (Pt.one (L.fn 43 [(Cp.b (Id.mk 0 0))])))] [(Ob.va [(L.d (Pv.fz true) (Sh.i IntKind.i64) z)])] = f45aT (f45aW0 (lp C2 f45ah n Lf (codeOf f45af) [1, 0, 1, 0] [] (endK C2 f45ah f45af) n)) l z := by kernel_rfl
theorem f45a_ev (n : Nat) (l : List Int) (z : Int) : evF C2 f45ah n f45af [(D.p (Pt.one (L.d (Pv.fz false) (Sh.l (Sh.i IntKind.i64)) l))), (D.p (Pt.one (L.fn 43 [(Cp.b (Id.mk 0 0))])))] [(Ob.va [(L.d (Pv.fz true) (Sh.i IntKind.i64) z)])] = f45aM n l z := by
  rw [f45aT_ev, f45aW0_ev]
  rfl

abbrev f45bh : Hn := h45
noncomputable abbrev f45bf : Func := fn 45
abbrev f45bG0 := (List Int) → Int → Int → Int → Int → (List (List Int)) → (List (List Int × List Int × Unit)) → Option Lf
noncomputable def f45bH0 (x0_0 : List Int) (x0_1 : Int) (x0_2 : Int) (x0_3 : Int) (x0_4 : Int) (x0_5 : List (List Int)) (x0_6 : List (List Int × List Int × Unit)) : St := (St.mk [(D.p (Pt.one (L.d (Pv.fz false) (Sh.l (Sh.i IntKind.i64)) x0_0))), (D.p (Pt.one (L.fn 26 [(Cp.b (Id.mk 0 0))]))), dead, dead, dead, dead, dead, (D.p (Pt.one (L.d (Pv.fz true) (Sh.i IntKind.i64) x0_1))), (D.p (Pt.one (L.d (Pv.fz true) (Sh.i IntKind.i64) x0_2))), dead, dead, dead, dead, dead, dead, dead, dead, dead, dead] [[(Ob.va [(L.d (Pv.fz true) (Sh.i IntKind.i64) x0_3), (L.d (Pv.fz true) (Sh.i IntKind.i64) x0_4), (L.d (Pv.fz false) (Sh.l (Sh.l (Sh.i IntKind.i64))) x0_5), (L.d (Pv.fz false) (Sh.l (Sh.p (Sh.l (Sh.i IntKind.i64)) (Sh.p (Sh.l (Sh.i IntKind.i64)) Sh.u))) x0_6)])], []])
noncomputable def f45bW0 (G : St → Option Lf) : f45bG0 := fun x0_0 x0_1 x0_2 x0_3 x0_4 x0_5 x0_6 => G (f45bH0 x0_0 x0_1 x0_2 x0_3 x0_4 x0_5 x0_6)
noncomputable def f45bS0  (g0 : f45bG0) (x0_0 : List Int) (x0_1 : Int) (x0_2 : Int) (x0_3 : Int) (x0_4 : Int) (x0_5 : List (List Int)) (x0_6 : List (List Int × List Int × Unit)) : Option Lf :=
 bif decide (x0_2 < x0_1) then
  bif inb x0_2 x0_0.length then
   bif decide (0 ≤ x0_3) then
    bif nin (shlF IntKind.i64 1 x0_3) (x0_0.getD x0_2.toNat 0) then
     some (Lf.mk [(Pt.one (L.d (Pv.fz true) (Sh.i IntKind.i64) (x0_2 : Int)))] [(Ob.va [(L.d (Pv.fz true) (Sh.i IntKind.i64) (x0_3 : Int)), (L.d (Pv.fz true) (Sh.i IntKind.i64) (x0_4 : Int)), (L.d (Pv.fz false) (Sh.l (Sh.l (Sh.i IntKind.i64))) (x0_5 : List (List Int))), (L.d (Pv.fz false) (Sh.l (Sh.p (Sh.l (Sh.i IntKind.i64)) (Sh.p (Sh.l (Sh.i IntKind.i64)) Sh.u))) (x0_6 : List (List Int × List Int × Unit)))])] [])
    else
     g0 (x0_0 : List Int) (x0_1 : Int) (IntKind.i64.wrap (x0_2 + 1) : Int) (x0_3 : Int) (x0_4 : Int) (x0_5 : List (List Int)) (x0_6 : List (List Int × List Int × Unit))
   else
    none
  else
   none
 else
  some (Lf.mk [(Pt.one (L.d (Pv.fz true) (Sh.i IntKind.i64) (-1 : Int)))] [(Ob.va [(L.d (Pv.fz true) (Sh.i IntKind.i64) (x0_3 : Int)), (L.d (Pv.fz true) (Sh.i IntKind.i64) (x0_4 : Int)), (L.d (Pv.fz false) (Sh.l (Sh.l (Sh.i IntKind.i64))) (x0_5 : List (List Int))), (L.d (Pv.fz false) (Sh.l (Sh.p (Sh.l (Sh.i IntKind.i64)) (Sh.p (Sh.l (Sh.i IntKind.i64)) Sh.u))) (x0_6 : List (List Int × List Int × Unit)))])] [])
noncomputable def f45bL0 (n : Nat)  : Nat → f45bG0
  | 0 => fun _ _ _ _ _ _ _ => none
  | m + 1 => fun x0_0 x0_1 x0_2 x0_3 x0_4 x0_5 x0_6 => f45bS0   (f45bL0 n  m) x0_0 x0_1 x0_2 x0_3 x0_4 x0_5 x0_6
theorem f45bS0_ev (n : Nat)  (G : St → Option Lf) (x0_0 : List Int) (x0_1 : Int) (x0_2 : Int) (x0_3 : Int) (x0_4 : Int) (x0_5 : List (List Int)) (x0_6 : List (List Int × List Int × Unit)) : rnd C2 f45bh n Lf (codeOf f45bf) [1, 0, 1, 0] [] (endK C2 f45bh f45bf) G (f45bH0 x0_0 x0_1 x0_2 x0_3 x0_4 x0_5 x0_6) = f45bS0   (f45bW0 G) x0_0 x0_1 x0_2 x0_3 x0_4 x0_5 x0_6 := by kernel_rfl
theorem f45bW0_ev (n : Nat)  : ∀ m, (f45bW0 (lp C2 f45bh n Lf (codeOf f45bf) [1, 0, 1, 0] [] (endK C2 f45bh f45bf) m)) = f45bL0 n  m := by
  intro m
  induction m with
  | zero => funext x0_0 x0_1 x0_2 x0_3 x0_4 x0_5 x0_6; exact lp_zero _
  | succ m ih =>
    funext x0_0 x0_1 x0_2 x0_3 x0_4 x0_5 x0_6
    show lp C2 f45bh n Lf (codeOf f45bf) [1, 0, 1, 0] [] (endK C2 f45bh f45bf) (m + 1) (f45bH0 x0_0 x0_1 x0_2 x0_3 x0_4 x0_5 x0_6) = f45bS0   (f45bL0 n  m) x0_0 x0_1 x0_2 x0_3 x0_4 x0_5 x0_6
    rw [lp_succ, f45bS0_ev, ih]
noncomputable def f45bT (l0 : f45bG0) (l : List Int) (p : Int) (i : Int) (nx : List (List Int)) (ps : List (List Int × List Int × Unit)) : Option Lf :=
 l0 (l : List Int) (zn l.length : Int) (0 : Int) (p : Int) (i : Int) (nx : List (List Int)) (ps : List (List Int × List Int × Unit))
noncomputable def f45bM (n : Nat) (l : List Int) (p : Int) (i : Int) (nx : List (List Int)) (ps : List (List Int × List Int × Unit)) : Option Lf := f45bT (f45bL0 n n) l p i nx ps
theorem f45bT_ev (n : Nat) (l : List Int) (p : Int) (i : Int) (nx : List (List Int)) (ps : List (List Int × List Int × Unit)) : evF C2 f45bh n f45bf [(D.p (Pt.one (L.d (Pv.fz false) (Sh.l (Sh.i IntKind.i64)) l))), (D.p (Pt.one (L.fn 26 [(Cp.b (Id.mk 0 0))])))] [(Ob.va [(L.d (Pv.fz true) (Sh.i IntKind.i64) p), (L.d (Pv.fz true) (Sh.i IntKind.i64) i), (L.d (Pv.fz false) (Sh.l (Sh.l (Sh.i IntKind.i64))) nx), (L.d (Pv.fz false) (Sh.l (Sh.p (Sh.l (Sh.i IntKind.i64)) (Sh.p (Sh.l (Sh.i IntKind.i64)) Sh.u))) ps)])] = f45bT (f45bW0 (lp C2 f45bh n Lf (codeOf f45bf) [1, 0, 1, 0] [] (endK C2 f45bh f45bf) n)) l p i nx ps := by kernel_rfl
theorem f45b_ev (n : Nat) (l : List Int) (p : Int) (i : Int) (nx : List (List Int)) (ps : List (List Int × List Int × Unit)) : evF C2 f45bh n f45bf [(D.p (Pt.one (L.d (Pv.fz false) (Sh.l (Sh.i IntKind.i64)) l))), (D.p (Pt.one (L.fn 26 [(Cp.b (Id.mk 0 0))])))] [(Ob.va [(L.d (Pv.fz true) (Sh.i IntKind.i64) p), (L.d (Pv.fz true) (Sh.i IntKind.i64) i), (L.d (Pv.fz false) (Sh.l (Sh.l (Sh.i IntKind.i64))) nx), (L.d (Pv.fz false) (Sh.l (Sh.p (Sh.l (Sh.i IntKind.i64)) (Sh.p (Sh.l (Sh.i IntKind.i64)) Sh.u))) ps)])] = f45bM n l p i nx ps := by
  rw [f45bT_ev, f45bW0_ev]
  rfl

abbrev f45ch : Hn := h45
noncomputable abbrev f45cf : Func := fn 45
abbrev f45cG0 := (List Int) → Int → Int → Int → Int → (List (List Int)) → (List (List Int × List Int × Unit)) → Option Lf
noncomputable def f45cH0 (x0_0 : List Int) (x0_1 : Int) (x0_2 : Int) (x0_3 : Int) (x0_4 : Int) (x0_5 : List (List Int)) (x0_6 : List (List Int × List Int × Unit)) : St := (St.mk [(D.p (Pt.one (L.d (Pv.fz false) (Sh.l (Sh.i IntKind.i64)) x0_0))), (D.p (Pt.one (L.fn 33 [(Cp.b (Id.mk 0 0))]))), dead, dead, dead, dead, dead, (D.p (Pt.one (L.d (Pv.fz true) (Sh.i IntKind.i64) x0_1))), (D.p (Pt.one (L.d (Pv.fz true) (Sh.i IntKind.i64) x0_2))), dead, dead, dead, dead, dead, dead, dead, dead, dead, dead] [[(Ob.va [(L.d (Pv.fz true) (Sh.i IntKind.i64) x0_3), (L.d (Pv.fz true) (Sh.i IntKind.i64) x0_4), (L.d (Pv.fz false) (Sh.l (Sh.l (Sh.i IntKind.i64))) x0_5), (L.d (Pv.fz false) (Sh.l (Sh.p (Sh.l (Sh.i IntKind.i64)) (Sh.p (Sh.l (Sh.i IntKind.i64)) Sh.u))) x0_6)])], []])
noncomputable def f45cW0 (G : St → Option Lf) : f45cG0 := fun x0_0 x0_1 x0_2 x0_3 x0_4 x0_5 x0_6 => G (f45cH0 x0_0 x0_1 x0_2 x0_3 x0_4 x0_5 x0_6)
noncomputable def f45cS0  (g0 : f45cG0) (x0_0 : List Int) (x0_1 : Int) (x0_2 : Int) (x0_3 : Int) (x0_4 : Int) (x0_5 : List (List Int)) (x0_6 : List (List Int × List Int × Unit)) : Option Lf :=
 bif decide (x0_2 < x0_1) then
  bif inb x0_2 x0_0.length then
   bif nin (zn x0_5.length) (x0_0.getD x0_2.toNat 0) then
    some (Lf.mk [(Pt.one (L.d (Pv.fz true) (Sh.i IntKind.i64) (x0_2 : Int)))] [(Ob.va [(L.d (Pv.fz true) (Sh.i IntKind.i64) (x0_3 : Int)), (L.d (Pv.fz true) (Sh.i IntKind.i64) (x0_4 : Int)), (L.d (Pv.fz false) (Sh.l (Sh.l (Sh.i IntKind.i64))) (x0_5 : List (List Int))), (L.d (Pv.fz false) (Sh.l (Sh.p (Sh.l (Sh.i IntKind.i64)) (Sh.p (Sh.l (Sh.i IntKind.i64)) Sh.u))) (x0_6 : List (List Int × List Int × Unit)))])] [])
   else
    g0 (x0_0 : List Int) (x0_1 : Int) (IntKind.i64.wrap (x0_2 + 1) : Int) (x0_3 : Int) (x0_4 : Int) (x0_5 : List (List Int)) (x0_6 : List (List Int × List Int × Unit))
  else
   none
 else
  some (Lf.mk [(Pt.one (L.d (Pv.fz true) (Sh.i IntKind.i64) (-1 : Int)))] [(Ob.va [(L.d (Pv.fz true) (Sh.i IntKind.i64) (x0_3 : Int)), (L.d (Pv.fz true) (Sh.i IntKind.i64) (x0_4 : Int)), (L.d (Pv.fz false) (Sh.l (Sh.l (Sh.i IntKind.i64))) (x0_5 : List (List Int))), (L.d (Pv.fz false) (Sh.l (Sh.p (Sh.l (Sh.i IntKind.i64)) (Sh.p (Sh.l (Sh.i IntKind.i64)) Sh.u))) (x0_6 : List (List Int × List Int × Unit)))])] [])
noncomputable def f45cL0 (n : Nat)  : Nat → f45cG0
  | 0 => fun _ _ _ _ _ _ _ => none
  | m + 1 => fun x0_0 x0_1 x0_2 x0_3 x0_4 x0_5 x0_6 => f45cS0   (f45cL0 n  m) x0_0 x0_1 x0_2 x0_3 x0_4 x0_5 x0_6
theorem f45cS0_ev (n : Nat)  (G : St → Option Lf) (x0_0 : List Int) (x0_1 : Int) (x0_2 : Int) (x0_3 : Int) (x0_4 : Int) (x0_5 : List (List Int)) (x0_6 : List (List Int × List Int × Unit)) : rnd C2 f45ch n Lf (codeOf f45cf) [1, 0, 1, 0] [] (endK C2 f45ch f45cf) G (f45cH0 x0_0 x0_1 x0_2 x0_3 x0_4 x0_5 x0_6) = f45cS0   (f45cW0 G) x0_0 x0_1 x0_2 x0_3 x0_4 x0_5 x0_6 := by kernel_rfl
theorem f45cW0_ev (n : Nat)  : ∀ m, (f45cW0 (lp C2 f45ch n Lf (codeOf f45cf) [1, 0, 1, 0] [] (endK C2 f45ch f45cf) m)) = f45cL0 n  m := by
  intro m
  induction m with
  | zero => funext x0_0 x0_1 x0_2 x0_3 x0_4 x0_5 x0_6; exact lp_zero _
  | succ m ih =>
    funext x0_0 x0_1 x0_2 x0_3 x0_4 x0_5 x0_6
    show lp C2 f45ch n Lf (codeOf f45cf) [1, 0, 1, 0] [] (endK C2 f45ch f45cf) (m + 1) (f45cH0 x0_0 x0_1 x0_2 x0_3 x0_4 x0_5 x0_6) = f45cS0   (f45cL0 n  m) x0_0 x0_1 x0_2 x0_3 x0_4 x0_5 x0_6
    rw [lp_succ, f45cS0_ev, ih]
noncomputable def f45cT (l0 : f45cG0) (l : List Int) (p : Int) (i : Int) (nx : List (List Int)) (ps : List (List Int × List Int × Unit)) : Option Lf :=
 l0 (l : List Int) (zn l.length : Int) (0 : Int) (p : Int) (i : Int) (nx : List (List Int)) (ps : List (List Int × List Int × Unit))
noncomputable def f45cM (n : Nat) (l : List Int) (p : Int) (i : Int) (nx : List (List Int)) (ps : List (List Int × List Int × Unit)) : Option Lf := f45cT (f45cL0 n n) l p i nx ps
theorem f45cT_ev (n : Nat) (l : List Int) (p : Int) (i : Int) (nx : List (List Int)) (ps : List (List Int × List Int × Unit)) : evF C2 f45ch n f45cf [(D.p (Pt.one (L.d (Pv.fz false) (Sh.l (Sh.i IntKind.i64)) l))), (D.p (Pt.one (L.fn 33 [(Cp.b (Id.mk 0 0))])))] [(Ob.va [(L.d (Pv.fz true) (Sh.i IntKind.i64) p), (L.d (Pv.fz true) (Sh.i IntKind.i64) i), (L.d (Pv.fz false) (Sh.l (Sh.l (Sh.i IntKind.i64))) nx), (L.d (Pv.fz false) (Sh.l (Sh.p (Sh.l (Sh.i IntKind.i64)) (Sh.p (Sh.l (Sh.i IntKind.i64)) Sh.u))) ps)])] = f45cT (f45cW0 (lp C2 f45ch n Lf (codeOf f45cf) [1, 0, 1, 0] [] (endK C2 f45ch f45cf) n)) l p i nx ps := by kernel_rfl
theorem f45c_ev (n : Nat) (l : List Int) (p : Int) (i : Int) (nx : List (List Int)) (ps : List (List Int × List Int × Unit)) : evF C2 f45ch n f45cf [(D.p (Pt.one (L.d (Pv.fz false) (Sh.l (Sh.i IntKind.i64)) l))), (D.p (Pt.one (L.fn 33 [(Cp.b (Id.mk 0 0))])))] [(Ob.va [(L.d (Pv.fz true) (Sh.i IntKind.i64) p), (L.d (Pv.fz true) (Sh.i IntKind.i64) i), (L.d (Pv.fz false) (Sh.l (Sh.l (Sh.i IntKind.i64))) nx), (L.d (Pv.fz false) (Sh.l (Sh.p (Sh.l (Sh.i IntKind.i64)) (Sh.p (Sh.l (Sh.i IntKind.i64)) Sh.u))) ps)])] = f45cM n l p i nx ps := by
  rw [f45cT_ev, f45cW0_ev]
  rfl

abbrev f28ah : Hn := hn0
noncomputable abbrev f28af : Func := fn 28
noncomputable def f28aT  (l : List Int) (z : Int) : Option Lf :=
 bif big l.length then
  some (Lf.mk [(Pt.one (L.d (Pv.fz true) Sh.b (decide (idxG (nin z) 0 l ≥ 0) : Bool)))] [(Ob.va [(L.d (Pv.fz true) (Sh.i IntKind.i64) (z : Int))])] [])
 else
  none
noncomputable def f28aM (_ : Nat) (l : List Int) (z : Int) : Option Lf := f28aT  l z
theorem f28aT_ev (n : Nat) (l : List Int) (z : Int) : evF C3 f28ah n f28af [(D.p (Pt.one (L.d (Pv.fz false) (Sh.l (Sh.i IntKind.i64)) l))), (D.p (Pt.one (L.fn 43 [(Cp.b (Id.mk 0 0))])))] [(Ob.va [(L.d (Pv.fz true) (Sh.i IntKind.i64) z)])] = f28aT  l z := by kernel_rfl
theorem f28a_ev (n : Nat) (l : List Int) (z : Int) : evF C3 f28ah n f28af [(D.p (Pt.one (L.d (Pv.fz false) (Sh.l (Sh.i IntKind.i64)) l))), (D.p (Pt.one (L.fn 43 [(Cp.b (Id.mk 0 0))])))] [(Ob.va [(L.d (Pv.fz true) (Sh.i IntKind.i64) z)])] = f28aM n l z := by
  rw [f28aT_ev]
  rfl

abbrev f28bh : Hn := hn0
noncomputable abbrev f28bf : Func := fn 28
noncomputable def f28bT  (l : List Int) (p : Int) (i : Int) (nx : List (List Int)) (ps : List (List Int × List Int × Unit)) : Option Lf :=
 bif big l.length && decide (0 ≤ p) then
  some (Lf.mk [(Pt.one (L.d (Pv.fz true) Sh.b (decide (idxG (nin (shlF IntKind.i64 1 p)) 0 l ≥ 0) : Bool)))] [(Ob.va [(L.d (Pv.fz true) (Sh.i IntKind.i64) (p : Int)), (L.d (Pv.fz true) (Sh.i IntKind.i64) (i : Int)), (L.d (Pv.fz false) (Sh.l (Sh.l (Sh.i IntKind.i64))) (nx : List (List Int))), (L.d (Pv.fz false) (Sh.l (Sh.p (Sh.l (Sh.i IntKind.i64)) (Sh.p (Sh.l (Sh.i IntKind.i64)) Sh.u))) (ps : List (List Int × List Int × Unit)))])] [])
 else
  none
noncomputable def f28bM (_ : Nat) (l : List Int) (p : Int) (i : Int) (nx : List (List Int)) (ps : List (List Int × List Int × Unit)) : Option Lf := f28bT  l p i nx ps
theorem f28bT_ev (n : Nat) (l : List Int) (p : Int) (i : Int) (nx : List (List Int)) (ps : List (List Int × List Int × Unit)) : evF C3 f28bh n f28bf [(D.p (Pt.one (L.d (Pv.fz false) (Sh.l (Sh.i IntKind.i64)) l))), (D.p (Pt.one (L.fn 26 [(Cp.b (Id.mk 0 0))])))] [(Ob.va [(L.d (Pv.fz true) (Sh.i IntKind.i64) p), (L.d (Pv.fz true) (Sh.i IntKind.i64) i), (L.d (Pv.fz false) (Sh.l (Sh.l (Sh.i IntKind.i64))) nx), (L.d (Pv.fz false) (Sh.l (Sh.p (Sh.l (Sh.i IntKind.i64)) (Sh.p (Sh.l (Sh.i IntKind.i64)) Sh.u))) ps)])] = f28bT  l p i nx ps := by kernel_rfl
theorem f28b_ev (n : Nat) (l : List Int) (p : Int) (i : Int) (nx : List (List Int)) (ps : List (List Int × List Int × Unit)) : evF C3 f28bh n f28bf [(D.p (Pt.one (L.d (Pv.fz false) (Sh.l (Sh.i IntKind.i64)) l))), (D.p (Pt.one (L.fn 26 [(Cp.b (Id.mk 0 0))])))] [(Ob.va [(L.d (Pv.fz true) (Sh.i IntKind.i64) p), (L.d (Pv.fz true) (Sh.i IntKind.i64) i), (L.d (Pv.fz false) (Sh.l (Sh.l (Sh.i IntKind.i64))) nx), (L.d (Pv.fz false) (Sh.l (Sh.p (Sh.l (Sh.i IntKind.i64)) (Sh.p (Sh.l (Sh.i IntKind.i64)) Sh.u))) ps)])] = f28bM n l p i nx ps := by
  rw [f28bT_ev]
  rfl

abbrev f28ch : Hn := hn0
noncomputable abbrev f28cf : Func := fn 28
noncomputable def f28cT  (l : List Int) (p : Int) (i : Int) (nx : List (List Int)) (ps : List (List Int × List Int × Unit)) : Option Lf :=
 bif big l.length then
  some (Lf.mk [(Pt.one (L.d (Pv.fz true) Sh.b (decide (idxG (nin (zn nx.length)) 0 l ≥ 0) : Bool)))] [(Ob.va [(L.d (Pv.fz true) (Sh.i IntKind.i64) (p : Int)), (L.d (Pv.fz true) (Sh.i IntKind.i64) (i : Int)), (L.d (Pv.fz false) (Sh.l (Sh.l (Sh.i IntKind.i64))) (nx : List (List Int))), (L.d (Pv.fz false) (Sh.l (Sh.p (Sh.l (Sh.i IntKind.i64)) (Sh.p (Sh.l (Sh.i IntKind.i64)) Sh.u))) (ps : List (List Int × List Int × Unit)))])] [])
 else
  none
noncomputable def f28cM (_ : Nat) (l : List Int) (p : Int) (i : Int) (nx : List (List Int)) (ps : List (List Int × List Int × Unit)) : Option Lf := f28cT  l p i nx ps
theorem f28cT_ev (n : Nat) (l : List Int) (p : Int) (i : Int) (nx : List (List Int)) (ps : List (List Int × List Int × Unit)) : evF C3 f28ch n f28cf [(D.p (Pt.one (L.d (Pv.fz false) (Sh.l (Sh.i IntKind.i64)) l))), (D.p (Pt.one (L.fn 33 [(Cp.b (Id.mk 0 0))])))] [(Ob.va [(L.d (Pv.fz true) (Sh.i IntKind.i64) p), (L.d (Pv.fz true) (Sh.i IntKind.i64) i), (L.d (Pv.fz false) (Sh.l (Sh.l (Sh.i IntKind.i64))) nx), (L.d (Pv.fz false) (Sh.l (Sh.p (Sh.l (Sh.i IntKind.i64)) (Sh.p (Sh.l (Sh.i IntKind.i64)) Sh.u))) ps)])] = f28cT  l p i nx ps := by kernel_rfl
theorem f28c_ev (n : Nat) (l : List Int) (p : Int) (i : Int) (nx : List (List Int)) (ps : List (List Int × List Int × Unit)) : evF C3 f28ch n f28cf [(D.p (Pt.one (L.d (Pv.fz false) (Sh.l (Sh.i IntKind.i64)) l))), (D.p (Pt.one (L.fn 33 [(Cp.b (Id.mk 0 0))])))] [(Ob.va [(L.d (Pv.fz true) (Sh.i IntKind.i64) p), (L.d (Pv.fz true) (Sh.i IntKind.i64) i), (L.d (Pv.fz false) (Sh.l (Sh.l (Sh.i IntKind.i64))) nx), (L.d (Pv.fz false) (Sh.l (Sh.p (Sh.l (Sh.i IntKind.i64)) (Sh.p (Sh.l (Sh.i IntKind.i64)) Sh.u))) ps)])] = f28cM n l p i nx ps := by
  rw [f28cT_ev]
  rfl

abbrev f40h : Hn := hn0
noncomputable abbrev f40f : Func := fn 40
noncomputable def f40T  (a : ByteArray) (mv : List (Int × Int × Unit)) (z : Int) : Option Lf :=
 bif big mv.length then
  some (Lf.mk [(Pt.one (L.d (Pv.fz true) Sh.b (!rightV z (a, mv, ()) : Bool)))] [(Ob.va [(L.d (Pv.fz true) (Sh.i IntKind.i64) (z : Int))])] [])
 else
  none
noncomputable def f40M (_ : Nat) (a : ByteArray) (mv : List (Int × Int × Unit)) (z : Int) : Option Lf := f40T  a mv z
theorem f40T_ev (n : Nat) (a : ByteArray) (mv : List (Int × Int × Unit)) (z : Int) : evF C4 f40h n f40f [(D.p (Pt.agg [(L.d (Pv.fz true) Sh.s a), (L.d (Pv.fz false) (Sh.l (Sh.p (Sh.i IntKind.i64) (Sh.p (Sh.i IntKind.i64) Sh.u))) mv)])), (D.p (Pt.one (L.pv (Id.mk 0 0) 0)))] [(Ob.va [(L.d (Pv.fz true) (Sh.i IntKind.i64) z)])] = f40T  a mv z := by kernel_rfl
theorem f40_ev (n : Nat) (a : ByteArray) (mv : List (Int × Int × Unit)) (z : Int) : evF C4 f40h n f40f [(D.p (Pt.agg [(L.d (Pv.fz true) Sh.s a), (L.d (Pv.fz false) (Sh.l (Sh.p (Sh.i IntKind.i64) (Sh.p (Sh.i IntKind.i64) Sh.u))) mv)])), (D.p (Pt.one (L.pv (Id.mk 0 0) 0)))] [(Ob.va [(L.d (Pv.fz true) (Sh.i IntKind.i64) z)])] = f40M n a mv z := by
  rw [f40T_ev]
  rfl

abbrev f52h : Hn := h45
noncomputable abbrev f52f : Func := fn 52
abbrev f52G0 := (List (ByteArray × List (Int × Int × Unit) × Unit)) → Int → Int → Int → Option Lf
noncomputable def f52H0 (x0_0 : List (ByteArray × List (Int × Int × Unit) × Unit)) (x0_1 : Int) (x0_2 : Int) (x0_3 : Int) : St := (St.mk [(D.p (Pt.one (L.d (Pv.fz false) (Sh.l (Sh.p Sh.s (Sh.p (Sh.l (Sh.p (Sh.i IntKind.i64) (Sh.p (Sh.i IntKind.i64) Sh.u))) Sh.u))) x0_0))), (D.p (Pt.one (L.fn 40 [(Cp.b (Id.mk 0 0))]))), dead, dead, dead, dead, dead, (D.p (Pt.one (L.d (Pv.fz true) (Sh.i IntKind.i64) x0_1))), (D.p (Pt.one (L.d (Pv.fz true) (Sh.i IntKind.i64) x0_2))), dead, dead, dead, dead, dead, dead, dead, dead, dead, dead] [[(Ob.va [(L.d (Pv.fz true) (Sh.i IntKind.i64) x0_3)])], []])
noncomputable def f52W0 (G : St → Option Lf) : f52G0 := fun x0_0 x0_1 x0_2 x0_3 => G (f52H0 x0_0 x0_1 x0_2 x0_3)
noncomputable def f52S0  (g0 : f52G0) (x0_0 : List (ByteArray × List (Int × Int × Unit) × Unit)) (x0_1 : Int) (x0_2 : Int) (x0_3 : Int) : Option Lf :=
 bif decide (x0_2 < x0_1) then
  bif inb x0_2 x0_0.length then
   bif big (x0_0.getD x0_2.toNat ({ data := #[] }, [], ())).snd.fst.length then
    bif !rightV x0_3 ((x0_0.getD x0_2.toNat ({ data := #[] }, [], ())).fst, (x0_0.getD x0_2.toNat ({ data := #[] }, [], ())).snd.fst, ()) then
     some (Lf.mk [(Pt.one (L.d (Pv.fz true) (Sh.i IntKind.i64) (x0_2 : Int)))] [(Ob.va [(L.d (Pv.fz true) (Sh.i IntKind.i64) (x0_3 : Int))])] [])
    else
     g0 (x0_0 : List (ByteArray × List (Int × Int × Unit) × Unit)) (x0_1 : Int) (IntKind.i64.wrap (x0_2 + 1) : Int) (x0_3 : Int)
   else
    none
  else
   none
 else
  some (Lf.mk [(Pt.one (L.d (Pv.fz true) (Sh.i IntKind.i64) (-1 : Int)))] [(Ob.va [(L.d (Pv.fz true) (Sh.i IntKind.i64) (x0_3 : Int))])] [])
noncomputable def f52L0 (n : Nat)  : Nat → f52G0
  | 0 => fun _ _ _ _ => none
  | m + 1 => fun x0_0 x0_1 x0_2 x0_3 => f52S0   (f52L0 n  m) x0_0 x0_1 x0_2 x0_3
theorem f52S0_ev (n : Nat)  (G : St → Option Lf) (x0_0 : List (ByteArray × List (Int × Int × Unit) × Unit)) (x0_1 : Int) (x0_2 : Int) (x0_3 : Int) : rnd C5 f52h n Lf (codeOf f52f) [1, 0, 1, 0] [] (endK C5 f52h f52f) G (f52H0 x0_0 x0_1 x0_2 x0_3) = f52S0   (f52W0 G) x0_0 x0_1 x0_2 x0_3 := by kernel_rfl
theorem f52W0_ev (n : Nat)  : ∀ m, (f52W0 (lp C5 f52h n Lf (codeOf f52f) [1, 0, 1, 0] [] (endK C5 f52h f52f) m)) = f52L0 n  m := by
  intro m
  induction m with
  | zero => funext x0_0 x0_1 x0_2 x0_3; exact lp_zero _
  | succ m ih =>
    funext x0_0 x0_1 x0_2 x0_3
    show lp C5 f52h n Lf (codeOf f52f) [1, 0, 1, 0] [] (endK C5 f52h f52f) (m + 1) (f52H0 x0_0 x0_1 x0_2 x0_3) = f52S0   (f52L0 n  m) x0_0 x0_1 x0_2 x0_3
    rw [lp_succ, f52S0_ev, ih]
noncomputable def f52T (l0 : f52G0) (l : List (ByteArray × List (Int × Int × Unit) × Unit)) (z : Int) : Option Lf :=
 l0 (l : List (ByteArray × List (Int × Int × Unit) × Unit)) (zn l.length : Int) (0 : Int) (z : Int)
noncomputable def f52M (n : Nat) (l : List (ByteArray × List (Int × Int × Unit) × Unit)) (z : Int) : Option Lf := f52T (f52L0 n n) l z
theorem f52T_ev (n : Nat) (l : List (ByteArray × List (Int × Int × Unit) × Unit)) (z : Int) : evF C5 f52h n f52f [(D.p (Pt.one (L.d (Pv.fz false) (Sh.l (Sh.p Sh.s (Sh.p (Sh.l (Sh.p (Sh.i IntKind.i64) (Sh.p (Sh.i IntKind.i64) Sh.u))) Sh.u))) l))), (D.p (Pt.one (L.fn 40 [(Cp.b (Id.mk 0 0))])))] [(Ob.va [(L.d (Pv.fz true) (Sh.i IntKind.i64) z)])] = f52T (f52W0 (lp C5 f52h n Lf (codeOf f52f) [1, 0, 1, 0] [] (endK C5 f52h f52f) n)) l z := by kernel_rfl
theorem f52_ev (n : Nat) (l : List (ByteArray × List (Int × Int × Unit) × Unit)) (z : Int) : evF C5 f52h n f52f [(D.p (Pt.one (L.d (Pv.fz false) (Sh.l (Sh.p Sh.s (Sh.p (Sh.l (Sh.p (Sh.i IntKind.i64) (Sh.p (Sh.i IntKind.i64) Sh.u))) Sh.u))) l))), (D.p (Pt.one (L.fn 40 [(Cp.b (Id.mk 0 0))])))] [(Ob.va [(L.d (Pv.fz true) (Sh.i IntKind.i64) z)])] = f52M n l z := by
  rw [f52T_ev, f52W0_ev]
  rfl

abbrev f39h : Hn := hn0
noncomputable abbrev f39f : Func := fn 39
noncomputable def f39T  (l : List (ByteArray × List (Int × Int × Unit) × Unit)) (z : Int) : Option Lf :=
 bif big l.length && l.all mvG then
  some (Lf.mk [(Pt.one (L.d (Pv.fz true) Sh.b (decide (idxG (fun (c : ChV) => !rightV z c) 0 l ≥ 0) : Bool)))] [(Ob.va [(L.d (Pv.fz true) (Sh.i IntKind.i64) (z : Int))])] [])
 else
  none
noncomputable def f39M (_ : Nat) (l : List (ByteArray × List (Int × Int × Unit) × Unit)) (z : Int) : Option Lf := f39T  l z
theorem f39T_ev (n : Nat) (l : List (ByteArray × List (Int × Int × Unit) × Unit)) (z : Int) : evF C6 f39h n f39f [(D.p (Pt.one (L.d (Pv.fz false) (Sh.l (Sh.p Sh.s (Sh.p (Sh.l (Sh.p (Sh.i IntKind.i64) (Sh.p (Sh.i IntKind.i64) Sh.u))) Sh.u))) l))), (D.p (Pt.one (L.fn 40 [(Cp.b (Id.mk 0 0))])))] [(Ob.va [(L.d (Pv.fz true) (Sh.i IntKind.i64) z)])] = f39T  l z := by kernel_rfl
theorem f39_ev (n : Nat) (l : List (ByteArray × List (Int × Int × Unit) × Unit)) (z : Int) : evF C6 f39h n f39f [(D.p (Pt.one (L.d (Pv.fz false) (Sh.l (Sh.p Sh.s (Sh.p (Sh.l (Sh.p (Sh.i IntKind.i64) (Sh.p (Sh.i IntKind.i64) Sh.u))) Sh.u))) l))), (D.p (Pt.one (L.fn 40 [(Cp.b (Id.mk 0 0))])))] [(Ob.va [(L.d (Pv.fz true) (Sh.i IntKind.i64) z)])] = f39M n l z := by
  rw [f39T_ev]
  rfl

abbrev f32h : Hn := h32
noncomputable abbrev f32f : Func := fn 32
abbrev f32G0 := Int → Int → Int → (List (List (ByteArray × List (Int × Int × Unit) × Unit))) → (List ByteArray) → (List (List Int)) → Option Lf
noncomputable def f32H0 (x0_0 : Int) (x0_1 : Int) (x0_2 : Int) (x0_3 : List (List (ByteArray × List (Int × Int × Unit) × Unit))) (x0_4 : List ByteArray) (x0_5 : List (List Int)) : St := (St.mk [dead, (D.p (Pt.one (L.pv (Id.mk 1 0) 0))), dead, (D.p (Pt.one (L.d (Pv.fz true) (Sh.i IntKind.i64) x0_0))), (D.p (Pt.one (L.d (Pv.fz true) (Sh.i IntKind.i64) x0_1))), dead, dead, dead, dead, dead, dead, dead, dead, dead, dead, dead, dead, dead, dead, dead, dead, dead, dead, dead, dead, dead, dead, dead, dead, dead, dead, dead, dead, dead, dead, dead, dead, dead, dead, dead, dead, dead, dead, dead, dead, dead, dead, dead, dead, dead, dead, dead, dead, dead, dead, dead, dead, dead, dead, dead, dead, dead, dead, dead, dead, dead, dead, dead, dead, dead, dead, dead, dead, dead, dead, dead, dead, dead, dead, dead, dead, dead, dead, dead, dead, dead, dead, dead, dead, dead, dead, dead, dead, dead, dead, dead, dead, dead, dead, dead, dead, dead, dead, dead, dead, dead, dead, dead, dead, dead, dead, dead, dead, dead, dead, dead, dead, dead, dead, dead, dead, dead, dead, dead, dead, dead, dead, dead, dead, dead, dead, dead, dead, dead, dead, dead, dead, dead, dead, dead, dead, dead, dead, dead, dead, dead, dead, dead, dead, dead, dead, dead, dead, dead, dead, dead, dead, dead, dead, dead, dead, dead, dead, dead, dead, dead, dead, dead, dead, dead, dead, dead, dead, dead, dead, dead, dead, dead, dead, dead, dead, dead, dead, dead, dead, dead, dead, dead, dead, dead, dead, dead, dead, dead, dead, dead, dead, dead] [[], [(Ob.va [(L.d (Pv.fz true) (Sh.i IntKind.i64) x0_2), (L.d (Pv.fz false) (Sh.l (Sh.l (Sh.p Sh.s (Sh.p (Sh.l (Sh.p (Sh.i IntKind.i64) (Sh.p (Sh.i IntKind.i64) Sh.u))) Sh.u)))) x0_3), (L.d (Pv.fz false) (Sh.l Sh.s) x0_4), (L.d (Pv.fz false) (Sh.l (Sh.l (Sh.i IntKind.i64))) x0_5)])]])
noncomputable def f32W0 (G : St → Option Lf) : f32G0 := fun x0_0 x0_1 x0_2 x0_3 x0_4 x0_5 => G (f32H0 x0_0 x0_1 x0_2 x0_3 x0_4 x0_5)
abbrev f32G1 := Int → Int → Int → Int → (List (List (ByteArray × List (Int × Int × Unit) × Unit))) → (List ByteArray) → (List (List Int)) → Option Lf
noncomputable def f32H1 (x1_0 : Int) (x1_1 : Int) (x1_2 : Int) (x1_3 : Int) (x1_4 : List (List (ByteArray × List (Int × Int × Unit) × Unit))) (x1_5 : List ByteArray) (x1_6 : List (List Int)) : St := (St.mk [dead, (D.p (Pt.one (L.pv (Id.mk 1 0) 0))), dead, (D.p (Pt.one (L.d (Pv.fz true) (Sh.i IntKind.i64) x1_0))), (D.p (Pt.one (L.d (Pv.fz true) (Sh.i IntKind.i64) x1_1))), (D.p (Pt.one (L.d (Pv.fz true) (Sh.i IntKind.i64) x1_2))), dead, dead, dead, dead, dead, dead, dead, dead, dead, dead, dead, dead, dead, dead, dead, dead, dead, dead, dead, dead, dead, dead, dead, dead, dead, dead, dead, dead, dead, dead, dead, dead, dead, dead, dead, dead, dead, dead, dead, dead, dead, dead, dead, dead, dead, dead, dead, dead, dead, dead, dead, dead, dead, dead, dead, dead, dead, dead, dead, dead, dead, dead, dead, dead, dead, dead, dead, dead, dead, dead, dead, dead, dead, dead, dead, dead, dead, dead, dead, dead, dead, dead, dead, dead, dead, dead, dead, dead, dead, dead, dead, dead, dead, dead, dead, dead, dead, dead, dead, dead, dead, dead, dead, dead, dead, dead, dead, dead, dead, dead, dead, dead, dead, dead, dead, dead, dead, dead, dead, dead, dead, dead, dead, dead, dead, dead, dead, dead, dead, dead, dead, dead, dead, dead, dead, dead, dead, dead, dead, dead, dead, dead, dead, dead, dead, dead, dead, dead, dead, dead, dead, dead, dead, dead, dead, dead, dead, dead, dead, dead, dead, dead, dead, dead, dead, dead, dead, dead, dead, dead, dead, dead, dead, dead, dead, dead, dead, dead, dead, dead, dead, dead, dead, dead, dead, dead, dead, dead, dead, dead, dead, dead] [[], [(Ob.va [(L.d (Pv.fz true) (Sh.i IntKind.i64) x1_3), (L.d (Pv.fz false) (Sh.l (Sh.l (Sh.p Sh.s (Sh.p (Sh.l (Sh.p (Sh.i IntKind.i64) (Sh.p (Sh.i IntKind.i64) Sh.u))) Sh.u)))) x1_4), (L.d (Pv.fz false) (Sh.l Sh.s) x1_5), (L.d (Pv.fz false) (Sh.l (Sh.l (Sh.i IntKind.i64))) x1_6)])]])
noncomputable def f32W1 (G : St → Option Lf) : f32G1 := fun x1_0 x1_1 x1_2 x1_3 x1_4 x1_5 x1_6 => G (f32H1 x1_0 x1_1 x1_2 x1_3 x1_4 x1_5 x1_6)
noncomputable def f32S1  (g0 : f32G0) (g1 : f32G1) (x1_0 : Int) (x1_1 : Int) (x1_2 : Int) (x1_3 : Int) (x1_4 : List (List (ByteArray × List (Int × Int × Unit) × Unit))) (x1_5 : List ByteArray) (x1_6 : List (List Int)) : Option Lf :=
 bif decide (x1_2 < x1_1) then
  bif inb x1_1 x1_5.length then
   bif inb x1_2 x1_5.length then
    bif (x1_5.getD x1_1.toNat { data := #[] }).toList == (x1_5.getD x1_2.toNat { data := #[] }).toList then
     some (Lf.mk [(Pt.one (L.d (Pv.fz true) Sh.b (false : Bool)))] [] [])
    else
     g1 (x1_0 : Int) (x1_1 : Int) (IntKind.i64.wrap (x1_2 + 1) : Int) (x1_3 : Int) (x1_4 : List (List (ByteArray × List (Int × Int × Unit) × Unit))) (x1_5 : List ByteArray) (x1_6 : List (List Int))
   else
    none
  else
   none
 else
  g0 (x1_0 : Int) (IntKind.i64.wrap (x1_1 + 1) : Int) (x1_3 : Int) (x1_4 : List (List (ByteArray × List (Int × Int × Unit) × Unit))) (x1_5 : List ByteArray) (x1_6 : List (List Int))
noncomputable def f32L1 (n : Nat) (g0 : f32G0) : Nat → f32G1
  | 0 => fun _ _ _ _ _ _ _ => none
  | m + 1 => fun x1_0 x1_1 x1_2 x1_3 x1_4 x1_5 x1_6 => f32S1  g0 (f32L1 n g0 m) x1_0 x1_1 x1_2 x1_3 x1_4 x1_5 x1_6
theorem f32S1_ev (n : Nat) (G0 : St → Option Lf) (G : St → Option Lf) (x1_0 : Int) (x1_1 : Int) (x1_2 : Int) (x1_3 : Int) (x1_4 : List (List (ByteArray × List (Int × Int × Unit) × Unit))) (x1_5 : List ByteArray) (x1_6 : List (List Int)) : rnd C1 f32h n Lf (codeOf f32f) [1, 1, 1, 0, 1, 0, 0, 1, 0, 0, 1, 0] [G0] (endK C1 f32h f32f) G (f32H1 x1_0 x1_1 x1_2 x1_3 x1_4 x1_5 x1_6) = f32S1  (f32W0 G0) (f32W1 G) x1_0 x1_1 x1_2 x1_3 x1_4 x1_5 x1_6 := by kernel_rfl
theorem f32W1_ev (n : Nat) (G0 : St → Option Lf) : ∀ m, (f32W1 (lp C1 f32h n Lf (codeOf f32f) [1, 1, 1, 0, 1, 0, 0, 1, 0, 0, 1, 0] [G0] (endK C1 f32h f32f) m)) = f32L1 n (f32W0 G0) m := by
  intro m
  induction m with
  | zero => funext x1_0 x1_1 x1_2 x1_3 x1_4 x1_5 x1_6; exact lp_zero _
  | succ m ih =>
    funext x1_0 x1_1 x1_2 x1_3 x1_4 x1_5 x1_6
    show lp C1 f32h n Lf (codeOf f32f) [1, 1, 1, 0, 1, 0, 0, 1, 0, 0, 1, 0] [G0] (endK C1 f32h f32f) (m + 1) (f32H1 x1_0 x1_1 x1_2 x1_3 x1_4 x1_5 x1_6) = f32S1  (f32W0 G0) (f32L1 n (f32W0 G0) m) x1_0 x1_1 x1_2 x1_3 x1_4 x1_5 x1_6
    rw [lp_succ, f32S1_ev, ih]
abbrev f32G2 := Int → Int → Int → (List (List (ByteArray × List (Int × Int × Unit) × Unit))) → (List ByteArray) → (List (List Int)) → Option Lf
noncomputable def f32H2 (x2_0 : Int) (x2_1 : Int) (x2_2 : Int) (x2_3 : List (List (ByteArray × List (Int × Int × Unit) × Unit))) (x2_4 : List ByteArray) (x2_5 : List (List Int)) : St := (St.mk [dead, (D.p (Pt.one (L.pv (Id.mk 1 0) 0))), dead, (D.p (Pt.one (L.d (Pv.fz true) (Sh.i IntKind.i64) x2_0))), dead, dead, (D.p (Pt.one (L.d (Pv.fz true) (Sh.i IntKind.i64) x2_1))), dead, dead, dead, dead, dead, dead, dead, dead, dead, dead, dead, dead, dead, dead, dead, dead, dead, dead, dead, dead, dead, dead, dead, dead, dead, dead, dead, dead, dead, dead, dead, dead, dead, dead, dead, dead, dead, dead, dead, dead, dead, dead, dead, dead, dead, dead, dead, dead, dead, dead, dead, dead, dead, dead, dead, dead, dead, dead, dead, dead, dead, dead, dead, dead, dead, dead, dead, dead, dead, dead, dead, dead, dead, dead, dead, dead, dead, dead, dead, dead, dead, dead, dead, dead, dead, dead, dead, dead, dead, dead, dead, dead, dead, dead, dead, dead, dead, dead, dead, dead, dead, dead, dead, dead, dead, dead, dead, dead, dead, dead, dead, dead, dead, dead, dead, dead, dead, dead, dead, dead, dead, dead, dead, dead, dead, dead, dead, dead, dead, dead, dead, dead, dead, dead, dead, dead, dead, dead, dead, dead, dead, dead, dead, dead, dead, dead, dead, dead, dead, dead, dead, dead, dead, dead, dead, dead, dead, dead, dead, dead, dead, dead, dead, dead, dead, dead, dead, dead, dead, dead, dead, dead, dead, dead, dead, dead, dead, dead, dead, dead, dead, dead, dead, dead, dead, dead, dead, dead, dead, dead, dead] [[], [(Ob.va [(L.d (Pv.fz true) (Sh.i IntKind.i64) x2_2), (L.d (Pv.fz false) (Sh.l (Sh.l (Sh.p Sh.s (Sh.p (Sh.l (Sh.p (Sh.i IntKind.i64) (Sh.p (Sh.i IntKind.i64) Sh.u))) Sh.u)))) x2_3), (L.d (Pv.fz false) (Sh.l Sh.s) x2_4), (L.d (Pv.fz false) (Sh.l (Sh.l (Sh.i IntKind.i64))) x2_5)])]])
noncomputable def f32W2 (G : St → Option Lf) : f32G2 := fun x2_0 x2_1 x2_2 x2_3 x2_4 x2_5 => G (f32H2 x2_0 x2_1 x2_2 x2_3 x2_4 x2_5)
abbrev f32G3 := Int → Int → Int → Int → (List (List (ByteArray × List (Int × Int × Unit) × Unit))) → (List ByteArray) → (List (List Int)) → Option Lf
noncomputable def f32H3 (x3_0 : Int) (x3_1 : Int) (x3_2 : Int) (x3_3 : Int) (x3_4 : List (List (ByteArray × List (Int × Int × Unit) × Unit))) (x3_5 : List ByteArray) (x3_6 : List (List Int)) : St := (St.mk [dead, (D.p (Pt.one (L.pv (Id.mk 1 0) 0))), dead, (D.p (Pt.one (L.d (Pv.fz true) (Sh.i IntKind.i64) x3_0))), dead, dead, (D.p (Pt.one (L.d (Pv.fz true) (Sh.i IntKind.i64) x3_1))), (D.p (Pt.one (L.d (Pv.fz true) (Sh.i IntKind.i64) x3_2))), dead, dead, dead, dead, dead, dead, dead, dead, dead, dead, dead, dead, dead, dead, dead, dead, dead, dead, dead, dead, dead, dead, dead, dead, dead, dead, dead, dead, dead, dead, dead, dead, dead, dead, dead, dead, dead, dead, dead, dead, dead, dead, dead, dead, dead, dead, dead, dead, dead, dead, dead, dead, dead, dead, dead, dead, dead, dead, dead, dead, dead, dead, dead, dead, dead, dead, dead, dead, dead, dead, dead, dead, dead, dead, dead, dead, dead, dead, dead, dead, dead, dead, dead, dead, dead, dead, dead, dead, dead, dead, dead, dead, dead, dead, dead, dead, dead, dead, dead, dead, dead, dead, dead, dead, dead, dead, dead, dead, dead, dead, dead, dead, dead, dead, dead, dead, dead, dead, dead, dead, dead, dead, dead, dead, dead, dead, dead, dead, dead, dead, dead, dead, dead, dead, dead, dead, dead, dead, dead, dead, dead, dead, dead, dead, dead, dead, dead, dead, dead, dead, dead, dead, dead, dead, dead, dead, dead, dead, dead, dead, dead, dead, dead, dead, dead, dead, dead, dead, dead, dead, dead, dead, dead, dead, dead, dead, dead, dead, dead, dead, dead, dead, dead, dead, dead, dead, dead, dead, dead, dead] [[], [(Ob.va [(L.d (Pv.fz true) (Sh.i IntKind.i64) x3_3), (L.d (Pv.fz false) (Sh.l (Sh.l (Sh.p Sh.s (Sh.p (Sh.l (Sh.p (Sh.i IntKind.i64) (Sh.p (Sh.i IntKind.i64) Sh.u))) Sh.u)))) x3_4), (L.d (Pv.fz false) (Sh.l Sh.s) x3_5), (L.d (Pv.fz false) (Sh.l (Sh.l (Sh.i IntKind.i64))) x3_6)])]])
noncomputable def f32W3 (G : St → Option Lf) : f32G3 := fun x3_0 x3_1 x3_2 x3_3 x3_4 x3_5 x3_6 => G (f32H3 x3_0 x3_1 x3_2 x3_3 x3_4 x3_5 x3_6)
abbrev f32G4 := Int → Int → Int → Int → (List (List (ByteArray × List (Int × Int × Unit) × Unit))) → (List ByteArray) → (List (List Int)) → Option Lf
noncomputable def f32H4 (x4_0 : Int) (x4_1 : Int) (x4_2 : Int) (x4_3 : Int) (x4_4 : List (List (ByteArray × List (Int × Int × Unit) × Unit))) (x4_5 : List ByteArray) (x4_6 : List (List Int)) : St := (St.mk [dead, (D.p (Pt.one (L.pv (Id.mk 1 0) 0))), dead, (D.p (Pt.one (L.d (Pv.fz true) (Sh.i IntKind.i64) x4_0))), dead, dead, (D.p (Pt.one (L.d (Pv.fz true) (Sh.i IntKind.i64) x4_1))), dead, (D.p (Pt.one (L.d (Pv.fz true) (Sh.i IntKind.i64) x4_2))), dead, dead, dead, dead, dead, dead, dead, dead, dead, dead, dead, dead, dead, dead, dead, dead, dead, dead, dead, dead, dead, dead, dead, dead, dead, dead, dead, dead, dead, dead, dead, dead, dead, dead, dead, dead, dead, dead, dead, dead, dead, dead, dead, dead, dead, dead, dead, dead, dead, dead, dead, dead, dead, dead, dead, dead, dead, dead, dead, dead, dead, dead, dead, dead, dead, dead, dead, dead, dead, dead, dead, dead, dead, dead, dead, dead, dead, dead, dead, dead, dead, dead, dead, dead, dead, dead, dead, dead, dead, dead, dead, dead, dead, dead, dead, dead, dead, dead, dead, dead, dead, dead, dead, dead, dead, dead, dead, dead, dead, dead, dead, dead, dead, dead, dead, dead, dead, dead, dead, dead, dead, dead, dead, dead, dead, dead, dead, dead, dead, dead, dead, dead, dead, dead, dead, dead, dead, dead, dead, dead, dead, dead, dead, dead, dead, dead, dead, dead, dead, dead, dead, dead, dead, dead, dead, dead, dead, dead, dead, dead, dead, dead, dead, dead, dead, dead, dead, dead, dead, dead, dead, dead, dead, dead, dead, dead, dead, dead, dead, dead, dead, dead, dead, dead, dead, dead, dead, dead, dead] [[], [(Ob.va [(L.d (Pv.fz true) (Sh.i IntKind.i64) x4_3), (L.d (Pv.fz false) (Sh.l (Sh.l (Sh.p Sh.s (Sh.p (Sh.l (Sh.p (Sh.i IntKind.i64) (Sh.p (Sh.i IntKind.i64) Sh.u))) Sh.u)))) x4_4), (L.d (Pv.fz false) (Sh.l Sh.s) x4_5), (L.d (Pv.fz false) (Sh.l (Sh.l (Sh.i IntKind.i64))) x4_6)])]])
noncomputable def f32W4 (G : St → Option Lf) : f32G4 := fun x4_0 x4_1 x4_2 x4_3 x4_4 x4_5 x4_6 => G (f32H4 x4_0 x4_1 x4_2 x4_3 x4_4 x4_5 x4_6)
abbrev f32G5 := Int → Int → Int → (List (Int × Int × Unit)) → Int → Int → (List (List (ByteArray × List (Int × Int × Unit) × Unit))) → (List ByteArray) → (List (List Int)) → Option Lf
noncomputable def f32H5 (x5_0 : Int) (x5_1 : Int) (x5_2 : Int) (x5_3 : List (Int × Int × Unit)) (x5_4 : Int) (x5_5 : Int) (x5_6 : List (List (ByteArray × List (Int × Int × Unit) × Unit))) (x5_7 : List ByteArray) (x5_8 : List (List Int)) : St := (St.mk [dead, (D.p (Pt.one (L.pv (Id.mk 1 0) 0))), dead, (D.p (Pt.one (L.d (Pv.fz true) (Sh.i IntKind.i64) x5_0))), dead, dead, (D.p (Pt.one (L.d (Pv.fz true) (Sh.i IntKind.i64) x5_1))), dead, (D.p (Pt.one (L.d (Pv.fz true) (Sh.i IntKind.i64) x5_2))), (D.p (Pt.one (L.d (Pv.fz false) (Sh.l (Sh.p (Sh.i IntKind.i64) (Sh.p (Sh.i IntKind.i64) Sh.u))) x5_3))), (D.p (Pt.one (L.d (Pv.fz true) (Sh.i IntKind.i64) x5_4))), dead, dead, dead, dead, dead, dead, dead, dead, dead, dead, dead, dead, dead, dead, dead, dead, dead, dead, dead, dead, dead, dead, dead, dead, dead, dead, dead, dead, dead, dead, dead, dead, dead, dead, dead, dead, dead, dead, dead, dead, dead, dead, dead, dead, dead, dead, dead, dead, dead, dead, dead, dead, dead, dead, dead, dead, dead, dead, dead, dead, dead, dead, dead, dead, dead, dead, dead, dead, dead, dead, dead, dead, dead, dead, dead, dead, dead, dead, dead, dead, dead, dead, dead, dead, dead, dead, dead, dead, dead, dead, dead, dead, dead, dead, dead, dead, dead, dead, dead, dead, dead, dead, dead, dead, dead, dead, dead, dead, dead, dead, dead, dead, dead, dead, dead, dead, dead, dead, dead, dead, dead, dead, dead, dead, dead, dead, dead, dead, dead, dead, dead, dead, dead, dead, dead, dead, dead, dead, dead, dead, dead, dead, dead, dead, dead, dead, dead, dead, dead, dead, dead, dead, dead, dead, dead, dead, dead, dead, dead, dead, dead, dead, dead, dead, dead, dead, dead, dead, dead, dead, dead, dead, dead, dead, dead, dead, dead, dead, dead, dead, dead, dead, dead, dead, dead, dead, dead] [[], [(Ob.va [(L.d (Pv.fz true) (Sh.i IntKind.i64) x5_5), (L.d (Pv.fz false) (Sh.l (Sh.l (Sh.p Sh.s (Sh.p (Sh.l (Sh.p (Sh.i IntKind.i64) (Sh.p (Sh.i IntKind.i64) Sh.u))) Sh.u)))) x5_6), (L.d (Pv.fz false) (Sh.l Sh.s) x5_7), (L.d (Pv.fz false) (Sh.l (Sh.l (Sh.i IntKind.i64))) x5_8)])]])
noncomputable def f32W5 (G : St → Option Lf) : f32G5 := fun x5_0 x5_1 x5_2 x5_3 x5_4 x5_5 x5_6 x5_7 x5_8 => G (f32H5 x5_0 x5_1 x5_2 x5_3 x5_4 x5_5 x5_6 x5_7 x5_8)
abbrev f32G6 := Int → Int → Int → (List (Int × Int × Unit)) → Int → Int → Int → (List (List (ByteArray × List (Int × Int × Unit) × Unit))) → (List ByteArray) → (List (List Int)) → Option Lf
noncomputable def f32H6 (x6_0 : Int) (x6_1 : Int) (x6_2 : Int) (x6_3 : List (Int × Int × Unit)) (x6_4 : Int) (x6_5 : Int) (x6_6 : Int) (x6_7 : List (List (ByteArray × List (Int × Int × Unit) × Unit))) (x6_8 : List ByteArray) (x6_9 : List (List Int)) : St := (St.mk [dead, (D.p (Pt.one (L.pv (Id.mk 1 0) 0))), dead, (D.p (Pt.one (L.d (Pv.fz true) (Sh.i IntKind.i64) x6_0))), dead, dead, (D.p (Pt.one (L.d (Pv.fz true) (Sh.i IntKind.i64) x6_1))), dead, (D.p (Pt.one (L.d (Pv.fz true) (Sh.i IntKind.i64) x6_2))), (D.p (Pt.one (L.d (Pv.fz false) (Sh.l (Sh.p (Sh.i IntKind.i64) (Sh.p (Sh.i IntKind.i64) Sh.u))) x6_3))), (D.p (Pt.one (L.d (Pv.fz true) (Sh.i IntKind.i64) x6_4))), (D.p (Pt.one (L.d (Pv.fz true) (Sh.i IntKind.i64) x6_5))), dead, dead, dead, dead, dead, dead, dead, dead, dead, dead, dead, dead, dead, dead, dead, dead, dead, dead, dead, dead, dead, dead, dead, dead, dead, dead, dead, dead, dead, dead, dead, dead, dead, dead, dead, dead, dead, dead, dead, dead, dead, dead, dead, dead, dead, dead, dead, dead, dead, dead, dead, dead, dead, dead, dead, dead, dead, dead, dead, dead, dead, dead, dead, dead, dead, dead, dead, dead, dead, dead, dead, dead, dead, dead, dead, dead, dead, dead, dead, dead, dead, dead, dead, dead, dead, dead, dead, dead, dead, dead, dead, dead, dead, dead, dead, dead, dead, dead, dead, dead, dead, dead, dead, dead, dead, dead, dead, dead, dead, dead, dead, dead, dead, dead, dead, dead, dead, dead, dead, dead, dead, dead, dead, dead, dead, dead, dead, dead, dead, dead, dead, dead, dead, dead, dead, dead, dead, dead, dead, dead, dead, dead, dead, dead, dead, dead, dead, dead, dead, dead, dead, dead, dead, dead, dead, dead, dead, dead, dead, dead, dead, dead, dead, dead, dead, dead, dead, dead, dead, dead, dead, dead, dead, dead, dead, dead, dead, dead, dead, dead, dead, dead, dead, dead, dead, dead] [[], [(Ob.va [(L.d (Pv.fz true) (Sh.i IntKind.i64) x6_6), (L.d (Pv.fz false) (Sh.l (Sh.l (Sh.p Sh.s (Sh.p (Sh.l (Sh.p (Sh.i IntKind.i64) (Sh.p (Sh.i IntKind.i64) Sh.u))) Sh.u)))) x6_7), (L.d (Pv.fz false) (Sh.l Sh.s) x6_8), (L.d (Pv.fz false) (Sh.l (Sh.l (Sh.i IntKind.i64))) x6_9)])]])
noncomputable def f32W6 (G : St → Option Lf) : f32G6 := fun x6_0 x6_1 x6_2 x6_3 x6_4 x6_5 x6_6 x6_7 x6_8 x6_9 => G (f32H6 x6_0 x6_1 x6_2 x6_3 x6_4 x6_5 x6_6 x6_7 x6_8 x6_9)
noncomputable def f32S6  (g2 : f32G2) (g4 : f32G4) (g5 : f32G5) (g6 : f32G6) (x6_0 : Int) (x6_1 : Int) (x6_2 : Int) (x6_3 : List (Int × Int × Unit)) (x6_4 : Int) (x6_5 : Int) (x6_6 : Int) (x6_7 : List (List (ByteArray × List (Int × Int × Unit) × Unit))) (x6_8 : List ByteArray) (x6_9 : List (List Int)) : Option Lf :=
 bif decide (x6_5 < x6_4) then
  bif inb x6_5 x6_3.length then
   bif inb x6_4 x6_3.length then
    bif (x6_3.getD x6_5.toNat (0, 0, ())).fst == (x6_3.getD x6_4.toNat (0, 0, ())).fst then
     some (Lf.mk [(Pt.one (L.d (Pv.fz true) Sh.b (false : Bool)))] [] [])
    else
     g6 (x6_0 : Int) (x6_1 : Int) (x6_2 : Int) (x6_3 : List (Int × Int × Unit)) (x6_4 : Int) (IntKind.i64.wrap (x6_5 + 1) : Int) (x6_6 : Int) (x6_7 : List (List (ByteArray × List (Int × Int × Unit) × Unit))) (x6_8 : List ByteArray) (x6_9 : List (List Int))
   else
    none
  else
   none
 else
  g5 (x6_0 : Int) (x6_1 : Int) (x6_2 : Int) (x6_3 : List (Int × Int × Unit)) (IntKind.i64.wrap (x6_4 + 1) : Int) (x6_6 : Int) (x6_7 : List (List (ByteArray × List (Int × Int × Unit) × Unit))) (x6_8 : List ByteArray) (x6_9 : List (List Int))
noncomputable def f32L6 (n : Nat) (g2 : f32G2) (g4 : f32G4) (g5 : f32G5) : Nat → f32G6
  | 0 => fun _ _ _ _ _ _ _ _ _ _ => none
  | m + 1 => fun x6_0 x6_1 x6_2 x6_3 x6_4 x6_5 x6_6 x6_7 x6_8 x6_9 => f32S6  g2 g4 g5 (f32L6 n g2 g4 g5 m) x6_0 x6_1 x6_2 x6_3 x6_4 x6_5 x6_6 x6_7 x6_8 x6_9
theorem f32S6_ev (n : Nat) (G2 : St → Option Lf) (G4 : St → Option Lf) (G5 : St → Option Lf) (G : St → Option Lf) (x6_0 : Int) (x6_1 : Int) (x6_2 : Int) (x6_3 : List (Int × Int × Unit)) (x6_4 : Int) (x6_5 : Int) (x6_6 : Int) (x6_7 : List (List (ByteArray × List (Int × Int × Unit) × Unit))) (x6_8 : List ByteArray) (x6_9 : List (List Int)) : rnd C1 f32h n Lf (codeOf f32f) [1, 1, 1, 1, 0, 1, 0, 0, 1, 0, 0, 1, 1, 1, 0, 0, 1, 0, 0, 1, 1, 1, 0, 0, 1, 0, 0, 1, 1, 0] [G2, G4, G5] (endK C1 f32h f32f) G (f32H6 x6_0 x6_1 x6_2 x6_3 x6_4 x6_5 x6_6 x6_7 x6_8 x6_9) = f32S6  (f32W2 G2) (f32W4 G4) (f32W5 G5) (f32W6 G) x6_0 x6_1 x6_2 x6_3 x6_4 x6_5 x6_6 x6_7 x6_8 x6_9 := by kernel_rfl
theorem f32W6_ev (n : Nat) (G2 : St → Option Lf) (G4 : St → Option Lf) (G5 : St → Option Lf) : ∀ m, (f32W6 (lp C1 f32h n Lf (codeOf f32f) [1, 1, 1, 1, 0, 1, 0, 0, 1, 0, 0, 1, 1, 1, 0, 0, 1, 0, 0, 1, 1, 1, 0, 0, 1, 0, 0, 1, 1, 0] [G2, G4, G5] (endK C1 f32h f32f) m)) = f32L6 n (f32W2 G2) (f32W4 G4) (f32W5 G5) m := by
  intro m
  induction m with
  | zero => funext x6_0 x6_1 x6_2 x6_3 x6_4 x6_5 x6_6 x6_7 x6_8 x6_9; exact lp_zero _
  | succ m ih =>
    funext x6_0 x6_1 x6_2 x6_3 x6_4 x6_5 x6_6 x6_7 x6_8 x6_9
    show lp C1 f32h n Lf (codeOf f32f) [1, 1, 1, 1, 0, 1, 0, 0, 1, 0, 0, 1, 1, 1, 0, 0, 1, 0, 0, 1, 1, 1, 0, 0, 1, 0, 0, 1, 1, 0] [G2, G4, G5] (endK C1 f32h f32f) (m + 1) (f32H6 x6_0 x6_1 x6_2 x6_3 x6_4 x6_5 x6_6 x6_7 x6_8 x6_9) = f32S6  (f32W2 G2) (f32W4 G4) (f32W5 G5) (f32L6 n (f32W2 G2) (f32W4 G4) (f32W5 G5) m) x6_0 x6_1 x6_2 x6_3 x6_4 x6_5 x6_6 x6_7 x6_8 x6_9
    rw [lp_succ, f32S6_ev, ih]
noncomputable def f32S5 (l6 : f32G6) (g2 : f32G2) (g4 : f32G4) (g5 : f32G5) (x5_0 : Int) (x5_1 : Int) (x5_2 : Int) (x5_3 : List (Int × Int × Unit)) (x5_4 : Int) (x5_5 : Int) (x5_6 : List (List (ByteArray × List (Int × Int × Unit) × Unit))) (x5_7 : List ByteArray) (x5_8 : List (List Int)) : Option Lf :=
 bif decide (x5_4 < zn x5_3.length) then
  bif Nat.beq 2 2 && (inb x5_4 x5_3.length && (Nat.beq 1 1 && (decide ((x5_3.getD x5_4.toNat (0, 0, ())).fst < 0) || Nat.beq 2 2 && (inb x5_4 x5_3.length && (Nat.beq 1 1 && (decide ((x5_3.getD x5_4.toNat (0, 0, ())).fst ≥ x5_0) || Nat.beq 2 2 && (inb x5_4 x5_3.length && true))))))) then
   bif decide ((x5_3.getD x5_4.toNat (0, 0, ())).fst < 0) || (decide ((x5_3.getD x5_4.toNat (0, 0, ())).fst ≥ x5_0) || decide ((x5_3.getD x5_4.toNat (0, 0, ())).snd.fst < 1)) then
    some (Lf.mk [(Pt.one (L.d (Pv.fz true) Sh.b (false : Bool)))] [] [])
   else
    l6 (x5_0 : Int) (x5_1 : Int) (x5_2 : Int) (x5_3 : List (Int × Int × Unit)) (x5_4 : Int) (0 : Int) (x5_5 : Int) (x5_6 : List (List (ByteArray × List (Int × Int × Unit) × Unit))) (x5_7 : List ByteArray) (x5_8 : List (List Int))
  else
   none
 else
  g4 (x5_0 : Int) (x5_1 : Int) (IntKind.i64.wrap (x5_2 + 1) : Int) (x5_5 : Int) (x5_6 : List (List (ByteArray × List (Int × Int × Unit) × Unit))) (x5_7 : List ByteArray) (x5_8 : List (List Int))
noncomputable def f32L5 (n : Nat) (g2 : f32G2) (g4 : f32G4) : Nat → f32G5
  | 0 => fun _ _ _ _ _ _ _ _ _ => none
  | m + 1 => fun x5_0 x5_1 x5_2 x5_3 x5_4 x5_5 x5_6 x5_7 x5_8 => f32S5 (f32L6 n g2 g4 (f32L5 n g2 g4 m) n) g2 g4 (f32L5 n g2 g4 m) x5_0 x5_1 x5_2 x5_3 x5_4 x5_5 x5_6 x5_7 x5_8
theorem f32S5_ev (n : Nat) (G2 : St → Option Lf) (G4 : St → Option Lf) (G : St → Option Lf) (x5_0 : Int) (x5_1 : Int) (x5_2 : Int) (x5_3 : List (Int × Int × Unit)) (x5_4 : Int) (x5_5 : Int) (x5_6 : List (List (ByteArray × List (Int × Int × Unit) × Unit))) (x5_7 : List ByteArray) (x5_8 : List (List Int)) : rnd C1 f32h n Lf (codeOf f32f) [1, 1, 1, 1, 0, 1, 0, 0, 1, 0, 0, 1, 1, 1, 0, 0, 1, 0, 0, 1, 1, 1, 0] [G2, G4] (endK C1 f32h f32f) G (f32H5 x5_0 x5_1 x5_2 x5_3 x5_4 x5_5 x5_6 x5_7 x5_8) = f32S5 (f32W6 (lp C1 f32h n Lf (codeOf f32f) [1, 1, 1, 1, 0, 1, 0, 0, 1, 0, 0, 1, 1, 1, 0, 0, 1, 0, 0, 1, 1, 1, 0, 0, 1, 0, 0, 1, 1, 0] [G2, G4, G] (endK C1 f32h f32f) n)) (f32W2 G2) (f32W4 G4) (f32W5 G) x5_0 x5_1 x5_2 x5_3 x5_4 x5_5 x5_6 x5_7 x5_8 := by kernel_rfl
theorem f32W5_ev (n : Nat) (G2 : St → Option Lf) (G4 : St → Option Lf) : ∀ m, (f32W5 (lp C1 f32h n Lf (codeOf f32f) [1, 1, 1, 1, 0, 1, 0, 0, 1, 0, 0, 1, 1, 1, 0, 0, 1, 0, 0, 1, 1, 1, 0] [G2, G4] (endK C1 f32h f32f) m)) = f32L5 n (f32W2 G2) (f32W4 G4) m := by
  intro m
  induction m with
  | zero => funext x5_0 x5_1 x5_2 x5_3 x5_4 x5_5 x5_6 x5_7 x5_8; exact lp_zero _
  | succ m ih =>
    have e6 : (f32W6 (lp C1 f32h n Lf (codeOf f32f) [1, 1, 1, 1, 0, 1, 0, 0, 1, 0, 0, 1, 1, 1, 0, 0, 1, 0, 0, 1, 1, 1, 0, 0, 1, 0, 0, 1, 1, 0] [G2, G4, (lp C1 f32h n Lf (codeOf f32f) [1, 1, 1, 1, 0, 1, 0, 0, 1, 0, 0, 1, 1, 1, 0, 0, 1, 0, 0, 1, 1, 1, 0] [G2, G4] (endK C1 f32h f32f) m)] (endK C1 f32h f32f) n)) = (f32L6 n (f32W2 G2) (f32W4 G4) (f32L5 n (f32W2 G2) (f32W4 G4) m) n) := by
      rw [f32W6_ev, ih]
    funext x5_0 x5_1 x5_2 x5_3 x5_4 x5_5 x5_6 x5_7 x5_8
    show lp C1 f32h n Lf (codeOf f32f) [1, 1, 1, 1, 0, 1, 0, 0, 1, 0, 0, 1, 1, 1, 0, 0, 1, 0, 0, 1, 1, 1, 0] [G2, G4] (endK C1 f32h f32f) (m + 1) (f32H5 x5_0 x5_1 x5_2 x5_3 x5_4 x5_5 x5_6 x5_7 x5_8) = f32S5 (f32L6 n (f32W2 G2) (f32W4 G4) (f32L5 n (f32W2 G2) (f32W4 G4) m) n) (f32W2 G2) (f32W4 G4) (f32L5 n (f32W2 G2) (f32W4 G4) m) x5_0 x5_1 x5_2 x5_3 x5_4 x5_5 x5_6 x5_7 x5_8
    rw [lp_succ, f32S5_ev, ih, e6]
noncomputable def f32S4 (l5 : f32G5) (g2 : f32G2) (g4 : f32G4) (x4_0 : Int) (x4_1 : Int) (x4_2 : Int) (x4_3 : Int) (x4_4 : List (List (ByteArray × List (Int × Int × Unit) × Unit))) (x4_5 : List ByteArray) (x4_6 : List (List Int)) : Option Lf :=
 bif inb x4_1 x4_4.length then
  bif decide (x4_2 < zn (x4_4.getD x4_1.toNat []).length) then
   bif inb x4_1 x4_4.length then
    bif inb x4_2 (x4_4.getD x4_1.toNat []).length then
     bif zn ((x4_4.getD x4_1.toNat []).getD x4_2.toNat ({ data := #[] }, [], ())).snd.fst.length == 0 then
      some (Lf.mk [(Pt.one (L.d (Pv.fz true) Sh.b (false : Bool)))] [] [])
     else
      l5 (x4_0 : Int) (x4_1 : Int) (x4_2 : Int) (((x4_4.getD x4_1.toNat []).getD x4_2.toNat ({ data := #[] }, [], ())).snd.fst : List (Int × Int × Unit)) (0 : Int) (x4_3 : Int) (x4_4 : List (List (ByteArray × List (Int × Int × Unit) × Unit))) (x4_5 : List ByteArray) (x4_6 : List (List Int))
    else
     none
   else
    none
  else
   g2 (x4_0 : Int) (IntKind.i64.wrap (x4_1 + 1) : Int) (x4_3 : Int) (x4_4 : List (List (ByteArray × List (Int × Int × Unit) × Unit))) (x4_5 : List ByteArray) (x4_6 : List (List Int))
 else
  none
noncomputable def f32L4 (n : Nat) (g2 : f32G2) : Nat → f32G4
  | 0 => fun _ _ _ _ _ _ _ => none
  | m + 1 => fun x4_0 x4_1 x4_2 x4_3 x4_4 x4_5 x4_6 => f32S4 (f32L5 n g2 (f32L4 n g2 m) n) g2 (f32L4 n g2 m) x4_0 x4_1 x4_2 x4_3 x4_4 x4_5 x4_6
theorem f32S4_ev (n : Nat) (G2 : St → Option Lf) (G : St → Option Lf) (x4_0 : Int) (x4_1 : Int) (x4_2 : Int) (x4_3 : Int) (x4_4 : List (List (ByteArray × List (Int × Int × Unit) × Unit))) (x4_5 : List ByteArray) (x4_6 : List (List Int)) : rnd C1 f32h n Lf (codeOf f32f) [1, 1, 1, 1, 0, 1, 0, 0, 1, 0, 0, 1, 1, 1, 0] [G2] (endK C1 f32h f32f) G (f32H4 x4_0 x4_1 x4_2 x4_3 x4_4 x4_5 x4_6) = f32S4 (f32W5 (lp C1 f32h n Lf (codeOf f32f) [1, 1, 1, 1, 0, 1, 0, 0, 1, 0, 0, 1, 1, 1, 0, 0, 1, 0, 0, 1, 1, 1, 0] [G2, G] (endK C1 f32h f32f) n)) (f32W2 G2) (f32W4 G) x4_0 x4_1 x4_2 x4_3 x4_4 x4_5 x4_6 := by kernel_rfl
theorem f32W4_ev (n : Nat) (G2 : St → Option Lf) : ∀ m, (f32W4 (lp C1 f32h n Lf (codeOf f32f) [1, 1, 1, 1, 0, 1, 0, 0, 1, 0, 0, 1, 1, 1, 0] [G2] (endK C1 f32h f32f) m)) = f32L4 n (f32W2 G2) m := by
  intro m
  induction m with
  | zero => funext x4_0 x4_1 x4_2 x4_3 x4_4 x4_5 x4_6; exact lp_zero _
  | succ m ih =>
    have e5 : (f32W5 (lp C1 f32h n Lf (codeOf f32f) [1, 1, 1, 1, 0, 1, 0, 0, 1, 0, 0, 1, 1, 1, 0, 0, 1, 0, 0, 1, 1, 1, 0] [G2, (lp C1 f32h n Lf (codeOf f32f) [1, 1, 1, 1, 0, 1, 0, 0, 1, 0, 0, 1, 1, 1, 0] [G2] (endK C1 f32h f32f) m)] (endK C1 f32h f32f) n)) = (f32L5 n (f32W2 G2) (f32L4 n (f32W2 G2) m) n) := by
      rw [f32W5_ev, ih]
    funext x4_0 x4_1 x4_2 x4_3 x4_4 x4_5 x4_6
    show lp C1 f32h n Lf (codeOf f32f) [1, 1, 1, 1, 0, 1, 0, 0, 1, 0, 0, 1, 1, 1, 0] [G2] (endK C1 f32h f32f) (m + 1) (f32H4 x4_0 x4_1 x4_2 x4_3 x4_4 x4_5 x4_6) = f32S4 (f32L5 n (f32W2 G2) (f32L4 n (f32W2 G2) m) n) (f32W2 G2) (f32L4 n (f32W2 G2) m) x4_0 x4_1 x4_2 x4_3 x4_4 x4_5 x4_6
    rw [lp_succ, f32S4_ev, ih, e5]
noncomputable def f32S3 (l4 : f32G4) (g2 : f32G2) (g3 : f32G3) (x3_0 : Int) (x3_1 : Int) (x3_2 : Int) (x3_3 : Int) (x3_4 : List (List (ByteArray × List (Int × Int × Unit) × Unit))) (x3_5 : List ByteArray) (x3_6 : List (List Int)) : Option Lf :=
 bif inb x3_1 x3_6.length then
  bif decide (x3_2 < zn (x3_6.getD x3_1.toNat []).length) then
   bif Nat.beq 1 1 && (Nat.beq 1 1 && (inb x3_1 x3_6.length && (Nat.beq 1 1 && (Nat.beq 1 1 && (inb x3_2 (x3_6.getD x3_1.toNat []).length && (Nat.beq 1 1 && (decide ((x3_6.getD x3_1.toNat []).getD x3_2.toNat 0 < 0) || Nat.beq 1 1 && (Nat.beq 1 1 && (inb x3_1 x3_6.length && (Nat.beq 1 1 && (Nat.beq 1 1 && (inb x3_2 (x3_6.getD x3_1.toNat []).length && (Nat.beq 1 1 && (Nat.beq 1 1 && (decide ((x3_6.getD x3_1.toNat []).getD x3_2.toNat 0 ≥ zn x3_5.length) || bif decide (x3_2 > 0) then Nat.beq 1 1 && (Nat.beq 1 1 && (inb x3_1 x3_6.length && (Nat.beq 1 1 && (Nat.beq 1 1 && (inb x3_2 (x3_6.getD x3_1.toNat []).length && (Nat.beq 1 1 && (Nat.beq 1 1 && (Nat.beq 1 1 && (inb x3_1 x3_6.length && (Nat.beq 1 1 && (Nat.beq 1 1 && (inb (IntKind.i64.wrap (x3_2 - 1)) (x3_6.getD x3_1.toNat []).length && true)))))))))))) else true))))))))))))))) then
    bif decide ((x3_6.getD x3_1.toNat []).getD x3_2.toNat 0 < 0) || (decide ((x3_6.getD x3_1.toNat []).getD x3_2.toNat 0 ≥ zn x3_5.length) || decide (x3_2 > 0) && decide ((x3_6.getD x3_1.toNat []).getD x3_2.toNat 0 ≤ (x3_6.getD x3_1.toNat []).getD (IntKind.i64.wrap (x3_2 - 1)).toNat 0)) then
     some (Lf.mk [(Pt.one (L.d (Pv.fz true) Sh.b (false : Bool)))] [] [])
    else
     g3 (x3_0 : Int) (x3_1 : Int) (IntKind.i64.wrap (x3_2 + 1) : Int) (x3_3 : Int) (x3_4 : List (List (ByteArray × List (Int × Int × Unit) × Unit))) (x3_5 : List ByteArray) (x3_6 : List (List Int))
   else
    none
  else
   l4 (x3_0 : Int) (x3_1 : Int) (0 : Int) (x3_3 : Int) (x3_4 : List (List (ByteArray × List (Int × Int × Unit) × Unit))) (x3_5 : List ByteArray) (x3_6 : List (List Int))
 else
  none
noncomputable def f32L3 (n : Nat) (g2 : f32G2) : Nat → f32G3
  | 0 => fun _ _ _ _ _ _ _ => none
  | m + 1 => fun x3_0 x3_1 x3_2 x3_3 x3_4 x3_5 x3_6 => f32S3 (f32L4 n g2 n) g2 (f32L3 n g2 m) x3_0 x3_1 x3_2 x3_3 x3_4 x3_5 x3_6
theorem f32S3_ev (n : Nat) (G2 : St → Option Lf) (G : St → Option Lf) (x3_0 : Int) (x3_1 : Int) (x3_2 : Int) (x3_3 : Int) (x3_4 : List (List (ByteArray × List (Int × Int × Unit) × Unit))) (x3_5 : List ByteArray) (x3_6 : List (List Int)) : rnd C1 f32h n Lf (codeOf f32f) [1, 1, 1, 1, 0, 1, 0, 0, 1, 0, 0, 1, 0, 1, 0] [G2] (endK C1 f32h f32f) G (f32H3 x3_0 x3_1 x3_2 x3_3 x3_4 x3_5 x3_6) = f32S3 (f32W4 (lp C1 f32h n Lf (codeOf f32f) [1, 1, 1, 1, 0, 1, 0, 0, 1, 0, 0, 1, 1, 1, 0] [G2] (endK C1 f32h f32f) n)) (f32W2 G2) (f32W3 G) x3_0 x3_1 x3_2 x3_3 x3_4 x3_5 x3_6 := by kernel_rfl
theorem f32W3_ev (n : Nat) (G2 : St → Option Lf) : ∀ m, (f32W3 (lp C1 f32h n Lf (codeOf f32f) [1, 1, 1, 1, 0, 1, 0, 0, 1, 0, 0, 1, 0, 1, 0] [G2] (endK C1 f32h f32f) m)) = f32L3 n (f32W2 G2) m := by
  intro m
  induction m with
  | zero => funext x3_0 x3_1 x3_2 x3_3 x3_4 x3_5 x3_6; exact lp_zero _
  | succ m ih =>
    have e4 : (f32W4 (lp C1 f32h n Lf (codeOf f32f) [1, 1, 1, 1, 0, 1, 0, 0, 1, 0, 0, 1, 1, 1, 0] [G2] (endK C1 f32h f32f) n)) = (f32L4 n (f32W2 G2) n) := by
      rw [f32W4_ev]
    funext x3_0 x3_1 x3_2 x3_3 x3_4 x3_5 x3_6
    show lp C1 f32h n Lf (codeOf f32f) [1, 1, 1, 1, 0, 1, 0, 0, 1, 0, 0, 1, 0, 1, 0] [G2] (endK C1 f32h f32f) (m + 1) (f32H3 x3_0 x3_1 x3_2 x3_3 x3_4 x3_5 x3_6) = f32S3 (f32L4 n (f32W2 G2) n) (f32W2 G2) (f32L3 n (f32W2 G2) m) x3_0 x3_1 x3_2 x3_3 x3_4 x3_5 x3_6
    rw [lp_succ, f32S3_ev, ih, e4]
noncomputable def f32S2 (l3 : f32G3) (g2 : f32G2) (x2_0 : Int) (x2_1 : Int) (x2_2 : Int) (x2_3 : List (List (ByteArray × List (Int × Int × Unit) × Unit))) (x2_4 : List ByteArray) (x2_5 : List (List Int)) : Option Lf :=
 bif decide (x2_1 < x2_0) then
  bif inb x2_1 x2_3.length then
   bif zn (x2_3.getD x2_1.toNat []).length == 0 then
    some (Lf.mk [(Pt.one (L.d (Pv.fz true) Sh.b (false : Bool)))] [] [])
   else
    l3 (x2_0 : Int) (x2_1 : Int) (0 : Int) (x2_2 : Int) (x2_3 : List (List (ByteArray × List (Int × Int × Unit) × Unit))) (x2_4 : List ByteArray) (x2_5 : List (List Int))
  else
   none
 else
  some (Lf.mk [(Pt.one (L.d (Pv.fz true) Sh.b (true : Bool)))] [] [])
noncomputable def f32L2 (n : Nat)  : Nat → f32G2
  | 0 => fun _ _ _ _ _ _ => none
  | m + 1 => fun x2_0 x2_1 x2_2 x2_3 x2_4 x2_5 => f32S2 (f32L3 n (f32L2 n  m) n)  (f32L2 n  m) x2_0 x2_1 x2_2 x2_3 x2_4 x2_5
theorem f32S2_ev (n : Nat)  (G : St → Option Lf) (x2_0 : Int) (x2_1 : Int) (x2_2 : Int) (x2_3 : List (List (ByteArray × List (Int × Int × Unit) × Unit))) (x2_4 : List ByteArray) (x2_5 : List (List Int)) : rnd C1 f32h n Lf (codeOf f32f) [1, 1, 1, 1, 0, 1, 0] [] (endK C1 f32h f32f) G (f32H2 x2_0 x2_1 x2_2 x2_3 x2_4 x2_5) = f32S2 (f32W3 (lp C1 f32h n Lf (codeOf f32f) [1, 1, 1, 1, 0, 1, 0, 0, 1, 0, 0, 1, 0, 1, 0] [G] (endK C1 f32h f32f) n))  (f32W2 G) x2_0 x2_1 x2_2 x2_3 x2_4 x2_5 := by kernel_rfl
theorem f32W2_ev (n : Nat)  : ∀ m, (f32W2 (lp C1 f32h n Lf (codeOf f32f) [1, 1, 1, 1, 0, 1, 0] [] (endK C1 f32h f32f) m)) = f32L2 n  m := by
  intro m
  induction m with
  | zero => funext x2_0 x2_1 x2_2 x2_3 x2_4 x2_5; exact lp_zero _
  | succ m ih =>
    have e3 : (f32W3 (lp C1 f32h n Lf (codeOf f32f) [1, 1, 1, 1, 0, 1, 0, 0, 1, 0, 0, 1, 0, 1, 0] [(lp C1 f32h n Lf (codeOf f32f) [1, 1, 1, 1, 0, 1, 0] [] (endK C1 f32h f32f) m)] (endK C1 f32h f32f) n)) = (f32L3 n (f32L2 n  m) n) := by
      rw [f32W3_ev, ih]
    funext x2_0 x2_1 x2_2 x2_3 x2_4 x2_5
    show lp C1 f32h n Lf (codeOf f32f) [1, 1, 1, 1, 0, 1, 0] [] (endK C1 f32h f32f) (m + 1) (f32H2 x2_0 x2_1 x2_2 x2_3 x2_4 x2_5) = f32S2 (f32L3 n (f32L2 n  m) n)  (f32L2 n  m) x2_0 x2_1 x2_2 x2_3 x2_4 x2_5
    rw [lp_succ, f32S2_ev, ih, e3]
noncomputable def f32S0 (l1 : f32G1) (l2 : f32G2) (g0 : f32G0) (x0_0 : Int) (x0_1 : Int) (x0_2 : Int) (x0_3 : List (List (ByteArray × List (Int × Int × Unit) × Unit))) (x0_4 : List ByteArray) (x0_5 : List (List Int)) : Option Lf :=
 bif decide (x0_1 < zn x0_4.length) then
  l1 (x0_0 : Int) (x0_1 : Int) (0 : Int) (x0_2 : Int) (x0_3 : List (List (ByteArray × List (Int × Int × Unit) × Unit))) (x0_4 : List ByteArray) (x0_5 : List (List Int))
 else
  l2 (x0_0 : Int) (0 : Int) (x0_2 : Int) (x0_3 : List (List (ByteArray × List (Int × Int × Unit) × Unit))) (x0_4 : List ByteArray) (x0_5 : List (List Int))
noncomputable def f32L0 (n : Nat)  : Nat → f32G0
  | 0 => fun _ _ _ _ _ _ => none
  | m + 1 => fun x0_0 x0_1 x0_2 x0_3 x0_4 x0_5 => f32S0 (f32L1 n (f32L0 n  m) n) (f32L2 n  n)  (f32L0 n  m) x0_0 x0_1 x0_2 x0_3 x0_4 x0_5
theorem f32S0_ev (n : Nat)  (G : St → Option Lf) (x0_0 : Int) (x0_1 : Int) (x0_2 : Int) (x0_3 : List (List (ByteArray × List (Int × Int × Unit) × Unit))) (x0_4 : List ByteArray) (x0_5 : List (List Int)) : rnd C1 f32h n Lf (codeOf f32f) [1, 1, 1, 0, 1, 0] [] (endK C1 f32h f32f) G (f32H0 x0_0 x0_1 x0_2 x0_3 x0_4 x0_5) = f32S0 (f32W1 (lp C1 f32h n Lf (codeOf f32f) [1, 1, 1, 0, 1, 0, 0, 1, 0, 0, 1, 0] [G] (endK C1 f32h f32f) n)) (f32W2 (lp C1 f32h n Lf (codeOf f32f) [1, 1, 1, 1, 0, 1, 0] [] (endK C1 f32h f32f) n))  (f32W0 G) x0_0 x0_1 x0_2 x0_3 x0_4 x0_5 := by kernel_rfl
theorem f32W0_ev (n : Nat)  : ∀ m, (f32W0 (lp C1 f32h n Lf (codeOf f32f) [1, 1, 1, 0, 1, 0] [] (endK C1 f32h f32f) m)) = f32L0 n  m := by
  intro m
  induction m with
  | zero => funext x0_0 x0_1 x0_2 x0_3 x0_4 x0_5; exact lp_zero _
  | succ m ih =>
    have e1 : (f32W1 (lp C1 f32h n Lf (codeOf f32f) [1, 1, 1, 0, 1, 0, 0, 1, 0, 0, 1, 0] [(lp C1 f32h n Lf (codeOf f32f) [1, 1, 1, 0, 1, 0] [] (endK C1 f32h f32f) m)] (endK C1 f32h f32f) n)) = (f32L1 n (f32L0 n  m) n) := by
      rw [f32W1_ev, ih]
    have e2 : (f32W2 (lp C1 f32h n Lf (codeOf f32f) [1, 1, 1, 1, 0, 1, 0] [] (endK C1 f32h f32f) n)) = (f32L2 n  n) := by
      rw [f32W2_ev]
    funext x0_0 x0_1 x0_2 x0_3 x0_4 x0_5
    show lp C1 f32h n Lf (codeOf f32f) [1, 1, 1, 0, 1, 0] [] (endK C1 f32h f32f) (m + 1) (f32H0 x0_0 x0_1 x0_2 x0_3 x0_4 x0_5) = f32S0 (f32L1 n (f32L0 n  m) n) (f32L2 n  n)  (f32L0 n  m) x0_0 x0_1 x0_2 x0_3 x0_4 x0_5
    rw [lp_succ, f32S0_ev, ih, e1, e2]
noncomputable def f32T (l0 : f32G0) (i : Int) (ch : List (List (ByteArray × List (Int × Int × Unit) × Unit))) (nm : List ByteArray) (ho : List (List Int)) : Option Lf :=
 bif decide (zn ch.length < 1) || (decide (zn ch.length > 4096) || Nat.beq 1 1 && (decide (i < 0) || Nat.beq 1 1 && (decide (i ≥ zn ch.length) || true))) then
  bif decide (zn ch.length < 1) || (decide (zn ch.length > 4096) || (decide (i < 0) || (decide (i ≥ zn ch.length) || zn ho.length != zn ch.length))) then
   some (Lf.mk [(Pt.one (L.d (Pv.fz true) Sh.b (false : Bool)))] [] [])
  else
   l0 (zn ch.length : Int) (0 : Int) (i : Int) (ch : List (List (ByteArray × List (Int × Int × Unit) × Unit))) (nm : List ByteArray) (ho : List (List Int))
 else
  none
noncomputable def f32M (n : Nat) (i : Int) (ch : List (List (ByteArray × List (Int × Int × Unit) × Unit))) (nm : List ByteArray) (ho : List (List Int)) : Option Lf := f32T (f32L0 n n) i ch nm ho
theorem f32T_ev (n : Nat) (i : Int) (ch : List (List (ByteArray × List (Int × Int × Unit) × Unit))) (nm : List ByteArray) (ho : List (List Int)) : evF C1 f32h n f32f [(D.p (Pt.agg [(L.d (Pv.fz true) (Sh.i IntKind.i64) i), (L.d (Pv.fz false) (Sh.l (Sh.l (Sh.p Sh.s (Sh.p (Sh.l (Sh.p (Sh.i IntKind.i64) (Sh.p (Sh.i IntKind.i64) Sh.u))) Sh.u)))) ch), (L.d (Pv.fz false) (Sh.l Sh.s) nm), (L.d (Pv.fz false) (Sh.l (Sh.l (Sh.i IntKind.i64))) ho)]))] [] = f32T (f32W0 (lp C1 f32h n Lf (codeOf f32f) [1, 1, 1, 0, 1, 0] [] (endK C1 f32h f32f) n)) i ch nm ho := by kernel_rfl
theorem f32_ev (n : Nat) (i : Int) (ch : List (List (ByteArray × List (Int × Int × Unit) × Unit))) (nm : List ByteArray) (ho : List (List Int)) : evF C1 f32h n f32f [(D.p (Pt.agg [(L.d (Pv.fz true) (Sh.i IntKind.i64) i), (L.d (Pv.fz false) (Sh.l (Sh.l (Sh.p Sh.s (Sh.p (Sh.l (Sh.p (Sh.i IntKind.i64) (Sh.p (Sh.i IntKind.i64) Sh.u))) Sh.u)))) ch), (L.d (Pv.fz false) (Sh.l Sh.s) nm), (L.d (Pv.fz false) (Sh.l (Sh.l (Sh.i IntKind.i64))) ho)]))] [] = f32M n i ch nm ho := by
  rw [f32T_ev, f32W0_ev]
  rfl
end Go.S23
