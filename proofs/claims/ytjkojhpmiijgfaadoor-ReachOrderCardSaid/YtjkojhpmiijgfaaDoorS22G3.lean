/-
  Seat 22: functional forms of searching, widening and all.
-/
import Derived.Test.YtjkojhpmiijgfaaDoorS22E
open Go Go.En Go.S22
namespace Go.S22


abbrev r36ah : Hn := h45
noncomputable abbrev r36af : Func := fn 36
abbrev r36aG0 := (List (ByteArray × List (Int × Int × Unit) × Unit)) → Int → Int → Int → (List Bool) → Option Lf
noncomputable def r36aH0 (x0_0 : List (ByteArray × List (Int × Int × Unit) × Unit)) (x0_1 : Int) (x0_2 : Int) (x0_3 : Int) (x0_4 : List Bool) : St := (St.mk [(D.p (Pt.one (L.d (Pv.fz false) (Sh.l (Sh.p Sh.s (Sh.p (Sh.l (Sh.p (Sh.i IntKind.i64) (Sh.p (Sh.i IntKind.i64) Sh.u))) Sh.u))) x0_0))), (D.p (Pt.one (L.fn 37 [(Cp.b (Id.mk 0 0)), (Cp.b (Id.mk 0 1)), (Cp.b (Id.mk 0 2))]))), dead, dead, dead, dead, dead, (D.p (Pt.one (L.d (Pv.fz true) (Sh.i IntKind.i64) x0_1))), (D.p (Pt.one (L.d (Pv.fz true) (Sh.i IntKind.i64) x0_2))), dead, dead, dead, dead, dead, dead, dead, dead, dead, dead] [[(Ob.va [(L.rw (Id.mk 0 3))]), (Ob.va [(L.fn 24 [])]), (Ob.va [(L.d (Pv.fz true) (Sh.i IntKind.i64) x0_3)]), (Ob.ro true 0 4 Sh.b Ow.z x0_4 Option.none)], []])
noncomputable def r36aW0 (G : St → Option Lf) : r36aG0 := fun x0_0 x0_1 x0_2 x0_3 x0_4 => G (r36aH0 x0_0 x0_1 x0_2 x0_3 x0_4)
noncomputable def r36aS0  (g0 : r36aG0) (x0_0 : List (ByteArray × List (Int × Int × Unit) × Unit)) (x0_1 : Int) (x0_2 : Int) (x0_3 : Int) (x0_4 : List Bool) : Option Lf :=
 bif decide (x0_2 < x0_1) then
  bif inb x0_2 x0_0.length then
   bif rngV x0_4.length (x0_0.getD x0_2.toNat ({ data := #[] }, [], ())).snd.fst then
    bif (x0_0.getD x0_2.toNat ({ data := #[] }, [], ())).snd.fst.any (yes x0_4) then
     some (Lf.mk [(Pt.one (L.d (Pv.fz true) (Sh.i IntKind.i64) (x0_2 : Int)))] [(Ob.va [(L.rw (Id.mk 0 3))]), (Ob.va [(L.fn 24 [])]), (Ob.va [(L.d (Pv.fz true) (Sh.i IntKind.i64) (x0_3 : Int))]), (Ob.ro true 0 4 Sh.b Ow.z (x0_4 : List Bool) Option.none)] [])
    else
     g0 (x0_0 : List (ByteArray × List (Int × Int × Unit) × Unit)) (x0_1 : Int) (IntKind.i64.wrap (x0_2 + 1) : Int) (x0_3 : Int) (x0_4 : List Bool)
   else
    none
  else
   none
 else
  some (Lf.mk [(Pt.one (L.d (Pv.fz true) (Sh.i IntKind.i64) (-1 : Int)))] [(Ob.va [(L.rw (Id.mk 0 3))]), (Ob.va [(L.fn 24 [])]), (Ob.va [(L.d (Pv.fz true) (Sh.i IntKind.i64) (x0_3 : Int))]), (Ob.ro true 0 4 Sh.b Ow.z (x0_4 : List Bool) Option.none)] [])
noncomputable def r36aL0 (n : Nat)  : Nat → r36aG0
  | 0 => fun _ _ _ _ _ => none
  | m + 1 => fun x0_0 x0_1 x0_2 x0_3 x0_4 => r36aS0   (r36aL0 n  m) x0_0 x0_1 x0_2 x0_3 x0_4
theorem r36aS0_ev (n : Nat)  (G : St → Option Lf) (x0_0 : List (ByteArray × List (Int × Int × Unit) × Unit)) (x0_1 : Int) (x0_2 : Int) (x0_3 : Int) (x0_4 : List Bool) : rnd C16 r36ah n Lf (codeOf r36af) [1, 0, 1, 0] [] (endK C16 r36ah r36af) G (r36aH0 x0_0 x0_1 x0_2 x0_3 x0_4) = r36aS0   (r36aW0 G) x0_0 x0_1 x0_2 x0_3 x0_4 := by kernel_rfl
theorem r36aW0_ev (n : Nat)  : ∀ m, (r36aW0 (lp C16 r36ah n Lf (codeOf r36af) [1, 0, 1, 0] [] (endK C16 r36ah r36af) m)) = r36aL0 n  m := by
  intro m
  induction m with
  | zero => funext x0_0 x0_1 x0_2 x0_3 x0_4; exact lp_zero _
  | succ m ih =>
    funext x0_0 x0_1 x0_2 x0_3 x0_4
    show lp C16 r36ah n Lf (codeOf r36af) [1, 0, 1, 0] [] (endK C16 r36ah r36af) (m + 1) (r36aH0 x0_0 x0_1 x0_2 x0_3 x0_4) = r36aS0   (r36aL0 n  m) x0_0 x0_1 x0_2 x0_3 x0_4
    rw [lp_succ, r36aS0_ev, ih]
noncomputable def r36aT (l0 : r36aG0) (l : List (ByteArray × List (Int × Int × Unit) × Unit)) (s : Int) (inn : List Bool) : Option Lf :=
 l0 (l : List (ByteArray × List (Int × Int × Unit) × Unit)) (zn l.length : Int) (0 : Int) (s : Int) (inn : List Bool)
noncomputable def r36aM (n : Nat) (l : List (ByteArray × List (Int × Int × Unit) × Unit)) (s : Int) (inn : List Bool) : Option Lf := r36aT (r36aL0 n n) l s inn
theorem r36aT_ev (n : Nat) (l : List (ByteArray × List (Int × Int × Unit) × Unit)) (s : Int) (inn : List Bool) : evF C16 r36ah n r36af [(D.p (Pt.one (L.d (Pv.fz false) (Sh.l (Sh.p Sh.s (Sh.p (Sh.l (Sh.p (Sh.i IntKind.i64) (Sh.p (Sh.i IntKind.i64) Sh.u))) Sh.u))) l))), (D.p (Pt.one (L.fn 37 [(Cp.b (Id.mk 0 0)), (Cp.b (Id.mk 0 1)), (Cp.b (Id.mk 0 2))])))] [(Ob.va [(L.rw (Id.mk 0 3))]), (Ob.va [(L.fn 24 [])]), (Ob.va [(L.d (Pv.fz true) (Sh.i IntKind.i64) s)]), (Ob.ro true 0 4 Sh.b Ow.z inn Option.none)] = r36aT (r36aW0 (lp C16 r36ah n Lf (codeOf r36af) [1, 0, 1, 0] [] (endK C16 r36ah r36af) n)) l s inn := by kernel_rfl
theorem r36a_ev (n : Nat) (l : List (ByteArray × List (Int × Int × Unit) × Unit)) (s : Int) (inn : List Bool) : evF C16 r36ah n r36af [(D.p (Pt.one (L.d (Pv.fz false) (Sh.l (Sh.p Sh.s (Sh.p (Sh.l (Sh.p (Sh.i IntKind.i64) (Sh.p (Sh.i IntKind.i64) Sh.u))) Sh.u))) l))), (D.p (Pt.one (L.fn 37 [(Cp.b (Id.mk 0 0)), (Cp.b (Id.mk 0 1)), (Cp.b (Id.mk 0 2))])))] [(Ob.va [(L.rw (Id.mk 0 3))]), (Ob.va [(L.fn 24 [])]), (Ob.va [(L.d (Pv.fz true) (Sh.i IntKind.i64) s)]), (Ob.ro true 0 4 Sh.b Ow.z inn Option.none)] = r36aM n l s inn := by
  rw [r36aT_ev, r36aW0_ev]
  rfl

abbrev r36bh : Hn := h45
noncomputable abbrev r36bf : Func := fn 36
abbrev r36bG0 := (List (ByteArray × List (Int × Int × Unit) × Unit)) → Int → Int → Int → (List Bool) → (List Bool) → Option Lf
noncomputable def r36bH0 (x0_0 : List (ByteArray × List (Int × Int × Unit) × Unit)) (x0_1 : Int) (x0_2 : Int) (x0_3 : Int) (x0_4 : List Bool) (x0_5 : List Bool) : St := (St.mk [(D.p (Pt.one (L.d (Pv.fz false) (Sh.l (Sh.p Sh.s (Sh.p (Sh.l (Sh.p (Sh.i IntKind.i64) (Sh.p (Sh.i IntKind.i64) Sh.u))) Sh.u))) x0_0))), (D.p (Pt.one (L.fn 37 [(Cp.b (Id.mk 0 0)), (Cp.b (Id.mk 0 1)), (Cp.b (Id.mk 0 2))]))), dead, dead, dead, dead, dead, (D.p (Pt.one (L.d (Pv.fz true) (Sh.i IntKind.i64) x0_1))), (D.p (Pt.one (L.d (Pv.fz true) (Sh.i IntKind.i64) x0_2))), dead, dead, dead, dead, dead, dead, dead, dead, dead, dead] [[(Ob.va [(L.rw (Id.mk 0 3))]), (Ob.va [(L.fn 25 [(Cp.b (Id.mk 0 4))])]), (Ob.va [(L.d (Pv.fz true) (Sh.i IntKind.i64) x0_3)]), (Ob.ro true 0 4 Sh.b Ow.z x0_4 Option.none), (Ob.va [(L.rw (Id.mk 0 5))]), (Ob.ro true 0 4 Sh.b Ow.z x0_5 Option.none)], []])
noncomputable def r36bW0 (G : St → Option Lf) : r36bG0 := fun x0_0 x0_1 x0_2 x0_3 x0_4 x0_5 => G (r36bH0 x0_0 x0_1 x0_2 x0_3 x0_4 x0_5)
noncomputable def r36bS0  (g0 : r36bG0) (x0_0 : List (ByteArray × List (Int × Int × Unit) × Unit)) (x0_1 : Int) (x0_2 : Int) (x0_3 : Int) (x0_4 : List Bool) (x0_5 : List Bool) : Option Lf :=
 bif decide (x0_2 < x0_1) then
  bif inb x0_2 x0_0.length then
   bif rngV x0_4.length (x0_0.getD x0_2.toNat ({ data := #[] }, [], ())).snd.fst && rngV x0_5.length (x0_0.getD x0_2.toNat ({ data := #[] }, [], ())).snd.fst then
    bif (x0_0.getD x0_2.toNat ({ data := #[] }, [], ())).snd.fst.any (yes x0_4) && two25 x0_5 (x0_0.getD x0_2.toNat ({ data := #[] }, [], ())).snd.fst then
     some (Lf.mk [(Pt.one (L.d (Pv.fz true) (Sh.i IntKind.i64) (x0_2 : Int)))] [(Ob.va [(L.rw (Id.mk 0 3))]), (Ob.va [(L.fn 25 [(Cp.b (Id.mk 0 4))])]), (Ob.va [(L.d (Pv.fz true) (Sh.i IntKind.i64) (x0_3 : Int))]), (Ob.ro true 0 4 Sh.b Ow.z (x0_4 : List Bool) Option.none), (Ob.va [(L.rw (Id.mk 0 5))]), (Ob.ro true 0 4 Sh.b Ow.z (x0_5 : List Bool) Option.none)] [])
    else
     g0 (x0_0 : List (ByteArray × List (Int × Int × Unit) × Unit)) (x0_1 : Int) (IntKind.i64.wrap (x0_2 + 1) : Int) (x0_3 : Int) (x0_4 : List Bool) (x0_5 : List Bool)
   else
    none
  else
   none
 else
  some (Lf.mk [(Pt.one (L.d (Pv.fz true) (Sh.i IntKind.i64) (-1 : Int)))] [(Ob.va [(L.rw (Id.mk 0 3))]), (Ob.va [(L.fn 25 [(Cp.b (Id.mk 0 4))])]), (Ob.va [(L.d (Pv.fz true) (Sh.i IntKind.i64) (x0_3 : Int))]), (Ob.ro true 0 4 Sh.b Ow.z (x0_4 : List Bool) Option.none), (Ob.va [(L.rw (Id.mk 0 5))]), (Ob.ro true 0 4 Sh.b Ow.z (x0_5 : List Bool) Option.none)] [])
noncomputable def r36bL0 (n : Nat)  : Nat → r36bG0
  | 0 => fun _ _ _ _ _ _ => none
  | m + 1 => fun x0_0 x0_1 x0_2 x0_3 x0_4 x0_5 => r36bS0   (r36bL0 n  m) x0_0 x0_1 x0_2 x0_3 x0_4 x0_5
theorem r36bS0_ev (n : Nat)  (G : St → Option Lf) (x0_0 : List (ByteArray × List (Int × Int × Unit) × Unit)) (x0_1 : Int) (x0_2 : Int) (x0_3 : Int) (x0_4 : List Bool) (x0_5 : List Bool) : rnd C16 r36bh n Lf (codeOf r36bf) [1, 0, 1, 0] [] (endK C16 r36bh r36bf) G (r36bH0 x0_0 x0_1 x0_2 x0_3 x0_4 x0_5) = r36bS0   (r36bW0 G) x0_0 x0_1 x0_2 x0_3 x0_4 x0_5 := by kernel_rfl
theorem r36bW0_ev (n : Nat)  : ∀ m, (r36bW0 (lp C16 r36bh n Lf (codeOf r36bf) [1, 0, 1, 0] [] (endK C16 r36bh r36bf) m)) = r36bL0 n  m := by
  intro m
  induction m with
  | zero => funext x0_0 x0_1 x0_2 x0_3 x0_4 x0_5; exact lp_zero _
  | succ m ih =>
    funext x0_0 x0_1 x0_2 x0_3 x0_4 x0_5
    show lp C16 r36bh n Lf (codeOf r36bf) [1, 0, 1, 0] [] (endK C16 r36bh r36bf) (m + 1) (r36bH0 x0_0 x0_1 x0_2 x0_3 x0_4 x0_5) = r36bS0   (r36bL0 n  m) x0_0 x0_1 x0_2 x0_3 x0_4 x0_5
    rw [lp_succ, r36bS0_ev, ih]
noncomputable def r36bT (l0 : r36bG0) (l : List (ByteArray × List (Int × Int × Unit) × Unit)) (s : Int) (inn : List Bool) (inS : List Bool) : Option Lf :=
 l0 (l : List (ByteArray × List (Int × Int × Unit) × Unit)) (zn l.length : Int) (0 : Int) (s : Int) (inn : List Bool) (inS : List Bool)
noncomputable def r36bM (n : Nat) (l : List (ByteArray × List (Int × Int × Unit) × Unit)) (s : Int) (inn : List Bool) (inS : List Bool) : Option Lf := r36bT (r36bL0 n n) l s inn inS
theorem r36bT_ev (n : Nat) (l : List (ByteArray × List (Int × Int × Unit) × Unit)) (s : Int) (inn : List Bool) (inS : List Bool) : evF C16 r36bh n r36bf [(D.p (Pt.one (L.d (Pv.fz false) (Sh.l (Sh.p Sh.s (Sh.p (Sh.l (Sh.p (Sh.i IntKind.i64) (Sh.p (Sh.i IntKind.i64) Sh.u))) Sh.u))) l))), (D.p (Pt.one (L.fn 37 [(Cp.b (Id.mk 0 0)), (Cp.b (Id.mk 0 1)), (Cp.b (Id.mk 0 2))])))] [(Ob.va [(L.rw (Id.mk 0 3))]), (Ob.va [(L.fn 25 [(Cp.b (Id.mk 0 4))])]), (Ob.va [(L.d (Pv.fz true) (Sh.i IntKind.i64) s)]), (Ob.ro true 0 4 Sh.b Ow.z inn Option.none), (Ob.va [(L.rw (Id.mk 0 5))]), (Ob.ro true 0 4 Sh.b Ow.z inS Option.none)] = r36bT (r36bW0 (lp C16 r36bh n Lf (codeOf r36bf) [1, 0, 1, 0] [] (endK C16 r36bh r36bf) n)) l s inn inS := by kernel_rfl
theorem r36b_ev (n : Nat) (l : List (ByteArray × List (Int × Int × Unit) × Unit)) (s : Int) (inn : List Bool) (inS : List Bool) : evF C16 r36bh n r36bf [(D.p (Pt.one (L.d (Pv.fz false) (Sh.l (Sh.p Sh.s (Sh.p (Sh.l (Sh.p (Sh.i IntKind.i64) (Sh.p (Sh.i IntKind.i64) Sh.u))) Sh.u))) l))), (D.p (Pt.one (L.fn 37 [(Cp.b (Id.mk 0 0)), (Cp.b (Id.mk 0 1)), (Cp.b (Id.mk 0 2))])))] [(Ob.va [(L.rw (Id.mk 0 3))]), (Ob.va [(L.fn 25 [(Cp.b (Id.mk 0 4))])]), (Ob.va [(L.d (Pv.fz true) (Sh.i IntKind.i64) s)]), (Ob.ro true 0 4 Sh.b Ow.z inn Option.none), (Ob.va [(L.rw (Id.mk 0 5))]), (Ob.ro true 0 4 Sh.b Ow.z inS Option.none)] = r36bM n l s inn inS := by
  rw [r36bT_ev, r36bW0_ev]
  rfl

abbrev r36ch : Hn := h45
noncomputable abbrev r36cf : Func := fn 36
abbrev r36cG0 := (List (ByteArray × List (Int × Int × Unit) × Unit)) → Int → Int → (List Bool) → Option Lf
noncomputable def r36cH0 (x0_0 : List (ByteArray × List (Int × Int × Unit) × Unit)) (x0_1 : Int) (x0_2 : Int) (x0_3 : List Bool) : St := (St.mk [(D.p (Pt.one (L.d (Pv.fz false) (Sh.l (Sh.p Sh.s (Sh.p (Sh.l (Sh.p (Sh.i IntKind.i64) (Sh.p (Sh.i IntKind.i64) Sh.u))) Sh.u))) x0_0))), (D.p (Pt.one (L.fn 40 [(Cp.b (Id.mk 0 0)), (Cp.b (Id.mk 0 1))]))), dead, dead, dead, dead, dead, (D.p (Pt.one (L.d (Pv.fz true) (Sh.i IntKind.i64) x0_1))), (D.p (Pt.one (L.d (Pv.fz true) (Sh.i IntKind.i64) x0_2))), dead, dead, dead, dead, dead, dead, dead, dead, dead, dead] [[(Ob.va [(L.fn 29 [])]), (Ob.va [(L.rw (Id.mk 0 2))]), (Ob.ro true 0 4 Sh.b Ow.z x0_3 Option.none)], []])
noncomputable def r36cW0 (G : St → Option Lf) : r36cG0 := fun x0_0 x0_1 x0_2 x0_3 => G (r36cH0 x0_0 x0_1 x0_2 x0_3)
noncomputable def r36cS0  (g0 : r36cG0) (x0_0 : List (ByteArray × List (Int × Int × Unit) × Unit)) (x0_1 : Int) (x0_2 : Int) (x0_3 : List Bool) : Option Lf :=
 bif decide (x0_2 < x0_1) then
  bif inb x0_2 x0_0.length then
   bif rngV x0_3.length (x0_0.getD x0_2.toNat ({ data := #[] }, [], ())).snd.fst then
    bif !(x0_0.getD x0_2.toNat ({ data := #[] }, [], ())).snd.fst.any (yes x0_3) then
     some (Lf.mk [(Pt.one (L.d (Pv.fz true) (Sh.i IntKind.i64) (x0_2 : Int)))] [(Ob.va [(L.fn 29 [])]), (Ob.va [(L.rw (Id.mk 0 2))]), (Ob.ro true 0 4 Sh.b Ow.z (x0_3 : List Bool) Option.none)] [])
    else
     g0 (x0_0 : List (ByteArray × List (Int × Int × Unit) × Unit)) (x0_1 : Int) (IntKind.i64.wrap (x0_2 + 1) : Int) (x0_3 : List Bool)
   else
    none
  else
   none
 else
  some (Lf.mk [(Pt.one (L.d (Pv.fz true) (Sh.i IntKind.i64) (-1 : Int)))] [(Ob.va [(L.fn 29 [])]), (Ob.va [(L.rw (Id.mk 0 2))]), (Ob.ro true 0 4 Sh.b Ow.z (x0_3 : List Bool) Option.none)] [])
noncomputable def r36cL0 (n : Nat)  : Nat → r36cG0
  | 0 => fun _ _ _ _ => none
  | m + 1 => fun x0_0 x0_1 x0_2 x0_3 => r36cS0   (r36cL0 n  m) x0_0 x0_1 x0_2 x0_3
theorem r36cS0_ev (n : Nat)  (G : St → Option Lf) (x0_0 : List (ByteArray × List (Int × Int × Unit) × Unit)) (x0_1 : Int) (x0_2 : Int) (x0_3 : List Bool) : rnd C16 r36ch n Lf (codeOf r36cf) [1, 0, 1, 0] [] (endK C16 r36ch r36cf) G (r36cH0 x0_0 x0_1 x0_2 x0_3) = r36cS0   (r36cW0 G) x0_0 x0_1 x0_2 x0_3 := by kernel_rfl
theorem r36cW0_ev (n : Nat)  : ∀ m, (r36cW0 (lp C16 r36ch n Lf (codeOf r36cf) [1, 0, 1, 0] [] (endK C16 r36ch r36cf) m)) = r36cL0 n  m := by
  intro m
  induction m with
  | zero => funext x0_0 x0_1 x0_2 x0_3; exact lp_zero _
  | succ m ih =>
    funext x0_0 x0_1 x0_2 x0_3
    show lp C16 r36ch n Lf (codeOf r36cf) [1, 0, 1, 0] [] (endK C16 r36ch r36cf) (m + 1) (r36cH0 x0_0 x0_1 x0_2 x0_3) = r36cS0   (r36cL0 n  m) x0_0 x0_1 x0_2 x0_3
    rw [lp_succ, r36cS0_ev, ih]
noncomputable def r36cT (l0 : r36cG0) (l : List (ByteArray × List (Int × Int × Unit) × Unit)) (inn : List Bool) : Option Lf :=
 l0 (l : List (ByteArray × List (Int × Int × Unit) × Unit)) (zn l.length : Int) (0 : Int) (inn : List Bool)
noncomputable def r36cM (n : Nat) (l : List (ByteArray × List (Int × Int × Unit) × Unit)) (inn : List Bool) : Option Lf := r36cT (r36cL0 n n) l inn
theorem r36cT_ev (n : Nat) (l : List (ByteArray × List (Int × Int × Unit) × Unit)) (inn : List Bool) : evF C16 r36ch n r36cf [(D.p (Pt.one (L.d (Pv.fz false) (Sh.l (Sh.p Sh.s (Sh.p (Sh.l (Sh.p (Sh.i IntKind.i64) (Sh.p (Sh.i IntKind.i64) Sh.u))) Sh.u))) l))), (D.p (Pt.one (L.fn 40 [(Cp.b (Id.mk 0 0)), (Cp.b (Id.mk 0 1))])))] [(Ob.va [(L.fn 29 [])]), (Ob.va [(L.rw (Id.mk 0 2))]), (Ob.ro true 0 4 Sh.b Ow.z inn Option.none)] = r36cT (r36cW0 (lp C16 r36ch n Lf (codeOf r36cf) [1, 0, 1, 0] [] (endK C16 r36ch r36cf) n)) l inn := by kernel_rfl
theorem r36c_ev (n : Nat) (l : List (ByteArray × List (Int × Int × Unit) × Unit)) (inn : List Bool) : evF C16 r36ch n r36cf [(D.p (Pt.one (L.d (Pv.fz false) (Sh.l (Sh.p Sh.s (Sh.p (Sh.l (Sh.p (Sh.i IntKind.i64) (Sh.p (Sh.i IntKind.i64) Sh.u))) Sh.u))) l))), (D.p (Pt.one (L.fn 40 [(Cp.b (Id.mk 0 0)), (Cp.b (Id.mk 0 1))])))] [(Ob.va [(L.fn 29 [])]), (Ob.va [(L.rw (Id.mk 0 2))]), (Ob.ro true 0 4 Sh.b Ow.z inn Option.none)] = r36cM n l inn := by
  rw [r36cT_ev, r36cW0_ev]
  rfl

abbrev r36dh : Hn := h45
noncomputable abbrev r36df : Func := fn 36
abbrev r36dG0 := (List (ByteArray × List (Int × Int × Unit) × Unit)) → Int → Int → (List Bool) → Option Lf
noncomputable def r36dH0 (x0_0 : List (ByteArray × List (Int × Int × Unit) × Unit)) (x0_1 : Int) (x0_2 : Int) (x0_3 : List Bool) : St := (St.mk [(D.p (Pt.one (L.d (Pv.fz false) (Sh.l (Sh.p Sh.s (Sh.p (Sh.l (Sh.p (Sh.i IntKind.i64) (Sh.p (Sh.i IntKind.i64) Sh.u))) Sh.u))) x0_0))), (D.p (Pt.one (L.fn 31 [(Cp.b (Id.mk 0 0))]))), dead, dead, dead, dead, dead, (D.p (Pt.one (L.d (Pv.fz true) (Sh.i IntKind.i64) x0_1))), (D.p (Pt.one (L.d (Pv.fz true) (Sh.i IntKind.i64) x0_2))), dead, dead, dead, dead, dead, dead, dead, dead, dead, dead] [[(Ob.va [(L.rw (Id.mk 0 1))]), (Ob.ro true 0 4 Sh.b Ow.z x0_3 Option.none)], []])
noncomputable def r36dW0 (G : St → Option Lf) : r36dG0 := fun x0_0 x0_1 x0_2 x0_3 => G (r36dH0 x0_0 x0_1 x0_2 x0_3)
noncomputable def r36dS0  (g0 : r36dG0) (x0_0 : List (ByteArray × List (Int × Int × Unit) × Unit)) (x0_1 : Int) (x0_2 : Int) (x0_3 : List Bool) : Option Lf :=
 bif decide (x0_2 < x0_1) then
  bif inb x0_2 x0_0.length then
   bif rngV x0_3.length (x0_0.getD x0_2.toNat ({ data := #[] }, [], ())).snd.fst then
    bif (x0_0.getD x0_2.toNat ({ data := #[] }, [], ())).snd.fst.any (yes x0_3) then
     some (Lf.mk [(Pt.one (L.d (Pv.fz true) (Sh.i IntKind.i64) (x0_2 : Int)))] [(Ob.va [(L.rw (Id.mk 0 1))]), (Ob.ro true 0 4 Sh.b Ow.z (x0_3 : List Bool) Option.none)] [])
    else
     g0 (x0_0 : List (ByteArray × List (Int × Int × Unit) × Unit)) (x0_1 : Int) (IntKind.i64.wrap (x0_2 + 1) : Int) (x0_3 : List Bool)
   else
    none
  else
   none
 else
  some (Lf.mk [(Pt.one (L.d (Pv.fz true) (Sh.i IntKind.i64) (-1 : Int)))] [(Ob.va [(L.rw (Id.mk 0 1))]), (Ob.ro true 0 4 Sh.b Ow.z (x0_3 : List Bool) Option.none)] [])
noncomputable def r36dL0 (n : Nat)  : Nat → r36dG0
  | 0 => fun _ _ _ _ => none
  | m + 1 => fun x0_0 x0_1 x0_2 x0_3 => r36dS0   (r36dL0 n  m) x0_0 x0_1 x0_2 x0_3
theorem r36dS0_ev (n : Nat)  (G : St → Option Lf) (x0_0 : List (ByteArray × List (Int × Int × Unit) × Unit)) (x0_1 : Int) (x0_2 : Int) (x0_3 : List Bool) : rnd C16 r36dh n Lf (codeOf r36df) [1, 0, 1, 0] [] (endK C16 r36dh r36df) G (r36dH0 x0_0 x0_1 x0_2 x0_3) = r36dS0   (r36dW0 G) x0_0 x0_1 x0_2 x0_3 := by kernel_rfl
theorem r36dW0_ev (n : Nat)  : ∀ m, (r36dW0 (lp C16 r36dh n Lf (codeOf r36df) [1, 0, 1, 0] [] (endK C16 r36dh r36df) m)) = r36dL0 n  m := by
  intro m
  induction m with
  | zero => funext x0_0 x0_1 x0_2 x0_3; exact lp_zero _
  | succ m ih =>
    funext x0_0 x0_1 x0_2 x0_3
    show lp C16 r36dh n Lf (codeOf r36df) [1, 0, 1, 0] [] (endK C16 r36dh r36df) (m + 1) (r36dH0 x0_0 x0_1 x0_2 x0_3) = r36dS0   (r36dL0 n  m) x0_0 x0_1 x0_2 x0_3
    rw [lp_succ, r36dS0_ev, ih]
noncomputable def r36dT (l0 : r36dG0) (l : List (ByteArray × List (Int × Int × Unit) × Unit)) (inn : List Bool) : Option Lf :=
 l0 (l : List (ByteArray × List (Int × Int × Unit) × Unit)) (zn l.length : Int) (0 : Int) (inn : List Bool)
noncomputable def r36dM (n : Nat) (l : List (ByteArray × List (Int × Int × Unit) × Unit)) (inn : List Bool) : Option Lf := r36dT (r36dL0 n n) l inn
theorem r36dT_ev (n : Nat) (l : List (ByteArray × List (Int × Int × Unit) × Unit)) (inn : List Bool) : evF C16 r36dh n r36df [(D.p (Pt.one (L.d (Pv.fz false) (Sh.l (Sh.p Sh.s (Sh.p (Sh.l (Sh.p (Sh.i IntKind.i64) (Sh.p (Sh.i IntKind.i64) Sh.u))) Sh.u))) l))), (D.p (Pt.one (L.fn 31 [(Cp.b (Id.mk 0 0))])))] [(Ob.va [(L.rw (Id.mk 0 1))]), (Ob.ro true 0 4 Sh.b Ow.z inn Option.none)] = r36dT (r36dW0 (lp C16 r36dh n Lf (codeOf r36df) [1, 0, 1, 0] [] (endK C16 r36dh r36df) n)) l inn := by kernel_rfl
theorem r36d_ev (n : Nat) (l : List (ByteArray × List (Int × Int × Unit) × Unit)) (inn : List Bool) : evF C16 r36dh n r36df [(D.p (Pt.one (L.d (Pv.fz false) (Sh.l (Sh.p Sh.s (Sh.p (Sh.l (Sh.p (Sh.i IntKind.i64) (Sh.p (Sh.i IntKind.i64) Sh.u))) Sh.u))) l))), (D.p (Pt.one (L.fn 31 [(Cp.b (Id.mk 0 0))])))] [(Ob.va [(L.rw (Id.mk 0 1))]), (Ob.ro true 0 4 Sh.b Ow.z inn Option.none)] = r36dM n l inn := by
  rw [r36dT_ev, r36dW0_ev]
  rfl

abbrev r30ch : Hn := hn0
noncomputable abbrev r30cf : Func := fn 30
noncomputable def r30cT  (l : List (ByteArray × List (Int × Int × Unit) × Unit)) (inn : List Bool) : Option Lf :=
 bif rgL inn.length l then
  some (Lf.mk [(Pt.one (L.d (Pv.fz true) Sh.b (decide (idxG (allC inn) 0 l ≥ 0) : Bool)))] [(Ob.va [(L.fn 29 [])]), (Ob.va [(L.rw (Id.mk 0 2))]), (Ob.ro true 0 4 Sh.b Ow.z (inn : List Bool) Option.none)] [])
 else
  none
noncomputable def r30cM (_ : Nat) (l : List (ByteArray × List (Int × Int × Unit) × Unit)) (inn : List Bool) : Option Lf := r30cT  l inn
theorem r30cT_ev (n : Nat) (l : List (ByteArray × List (Int × Int × Unit) × Unit)) (inn : List Bool) : evF C17 r30ch n r30cf [(D.p (Pt.one (L.d (Pv.fz false) (Sh.l (Sh.p Sh.s (Sh.p (Sh.l (Sh.p (Sh.i IntKind.i64) (Sh.p (Sh.i IntKind.i64) Sh.u))) Sh.u))) l))), (D.p (Pt.one (L.fn 40 [(Cp.b (Id.mk 0 0)), (Cp.b (Id.mk 0 1))])))] [(Ob.va [(L.fn 29 [])]), (Ob.va [(L.rw (Id.mk 0 2))]), (Ob.ro true 0 4 Sh.b Ow.z inn Option.none)] = r30cT  l inn := by kernel_rfl
theorem r30c_ev (n : Nat) (l : List (ByteArray × List (Int × Int × Unit) × Unit)) (inn : List Bool) : evF C17 r30ch n r30cf [(D.p (Pt.one (L.d (Pv.fz false) (Sh.l (Sh.p Sh.s (Sh.p (Sh.l (Sh.p (Sh.i IntKind.i64) (Sh.p (Sh.i IntKind.i64) Sh.u))) Sh.u))) l))), (D.p (Pt.one (L.fn 40 [(Cp.b (Id.mk 0 0)), (Cp.b (Id.mk 0 1))])))] [(Ob.va [(L.fn 29 [])]), (Ob.va [(L.rw (Id.mk 0 2))]), (Ob.ro true 0 4 Sh.b Ow.z inn Option.none)] = r30cM n l inn := by
  rw [r30cT_ev]
  rfl

abbrev r30dh : Hn := hn0
noncomputable abbrev r30df : Func := fn 30
noncomputable def r30dT  (l : List (ByteArray × List (Int × Int × Unit) × Unit)) (inn : List Bool) : Option Lf :=
 bif rgL inn.length l then
  some (Lf.mk [(Pt.one (L.d (Pv.fz true) Sh.b (decide (idxG (yesC inn) 0 l ≥ 0) : Bool)))] [(Ob.va [(L.rw (Id.mk 0 1))]), (Ob.ro true 0 4 Sh.b Ow.z (inn : List Bool) Option.none)] [])
 else
  none
noncomputable def r30dM (_ : Nat) (l : List (ByteArray × List (Int × Int × Unit) × Unit)) (inn : List Bool) : Option Lf := r30dT  l inn
theorem r30dT_ev (n : Nat) (l : List (ByteArray × List (Int × Int × Unit) × Unit)) (inn : List Bool) : evF C17 r30dh n r30df [(D.p (Pt.one (L.d (Pv.fz false) (Sh.l (Sh.p Sh.s (Sh.p (Sh.l (Sh.p (Sh.i IntKind.i64) (Sh.p (Sh.i IntKind.i64) Sh.u))) Sh.u))) l))), (D.p (Pt.one (L.fn 31 [(Cp.b (Id.mk 0 0))])))] [(Ob.va [(L.rw (Id.mk 0 1))]), (Ob.ro true 0 4 Sh.b Ow.z inn Option.none)] = r30dT  l inn := by kernel_rfl
theorem r30d_ev (n : Nat) (l : List (ByteArray × List (Int × Int × Unit) × Unit)) (inn : List Bool) : evF C17 r30dh n r30df [(D.p (Pt.one (L.d (Pv.fz false) (Sh.l (Sh.p Sh.s (Sh.p (Sh.l (Sh.p (Sh.i IntKind.i64) (Sh.p (Sh.i IntKind.i64) Sh.u))) Sh.u))) l))), (D.p (Pt.one (L.fn 31 [(Cp.b (Id.mk 0 0))])))] [(Ob.va [(L.rw (Id.mk 0 1))]), (Ob.ro true 0 4 Sh.b Ow.z inn Option.none)] = r30dM n l inn := by
  rw [r30dT_ev]
  rfl

abbrev r23ah : Hn := h23r
noncomputable abbrev r23af : Func := fn 23
abbrev r23aG0 := Bool → Int → (List (List (ByteArray × List (Int × Int × Unit) × Unit))) → (List ByteArray) → (List (List Int)) → (List Int) → (List Bool) → Option Lf
noncomputable def r23aH0 (x0_0 : Bool) (x0_1 : Int) (x0_2 : List (List (ByteArray × List (Int × Int × Unit) × Unit))) (x0_3 : List ByteArray) (x0_4 : List (List Int)) (x0_5 : List Int) (x0_6 : List Bool) : St := (St.mk [dead, dead, dead, (D.p (Pt.one (L.pv (Id.mk 1 0) 0))), dead, (D.p (Pt.one (L.pv (Id.mk 1 1) 0))), dead, dead, (D.p (Pt.one (L.pv (Id.mk 1 2) 0))), (D.p (Pt.one (L.rw (Id.mk 1 3)))), (D.p (Pt.one (L.d (Pv.fz true) Sh.b x0_0))), dead, dead, dead, dead, dead, dead, dead, dead, dead, dead, dead, dead, dead, dead, dead, dead, dead, dead, dead, dead, dead, dead, dead, dead, dead, dead, dead, dead, dead, dead, dead, dead, dead, dead, dead, dead, dead, dead, dead, dead] [[], [(Ob.va [(L.d (Pv.fz true) (Sh.i IntKind.i64) x0_1), (L.d (Pv.fz false) (Sh.l (Sh.l (Sh.p Sh.s (Sh.p (Sh.l (Sh.p (Sh.i IntKind.i64) (Sh.p (Sh.i IntKind.i64) Sh.u))) Sh.u)))) x0_2), (L.d (Pv.fz false) (Sh.l Sh.s) x0_3), (L.d (Pv.fz false) (Sh.l (Sh.l (Sh.i IntKind.i64))) x0_4)]), (Ob.va [(L.fn 24 [])]), (Ob.va [(L.rw (Id.mk 1 4))]), (Ob.ro true 0 3 (Sh.i IntKind.i64) Ow.z x0_5 Option.none), (Ob.ro true 0 4 Sh.b Ow.z x0_6 Option.none)]])
noncomputable def r23aW0 (G : St → Option Lf) : r23aG0 := fun x0_0 x0_1 x0_2 x0_3 x0_4 x0_5 x0_6 => G (r23aH0 x0_0 x0_1 x0_2 x0_3 x0_4 x0_5 x0_6)
abbrev r23aG1 := Bool → (List (List (ByteArray × List (Int × Int × Unit) × Unit))) → Int → Int → Int → (List (List (ByteArray × List (Int × Int × Unit) × Unit))) → (List ByteArray) → (List (List Int)) → (List Int) → (List Bool) → (List Bool) → Option Lf
noncomputable def r23aH1 (x1_0 : Bool) (x1_1 : List (List (ByteArray × List (Int × Int × Unit) × Unit))) (x1_2 : Int) (x1_3 : Int) (x1_4 : Int) (x1_5 : List (List (ByteArray × List (Int × Int × Unit) × Unit))) (x1_6 : List ByteArray) (x1_7 : List (List Int)) (x1_8 : List Int) (x1_9 : List Bool) (x1_10 : List Bool) : St := (St.mk [dead, dead, dead, (D.p (Pt.one (L.pv (Id.mk 1 0) 0))), dead, (D.p (Pt.one (L.pv (Id.mk 1 1) 0))), dead, dead, (D.p (Pt.one (L.pv (Id.mk 1 2) 0))), (D.p (Pt.one (L.rw (Id.mk 1 3)))), (D.p (Pt.one (L.d (Pv.fz true) Sh.b x1_0))), (D.p (Pt.one (L.rw (Id.mk 1 4)))), dead, dead, dead, dead, dead, dead, dead, dead, dead, dead, dead, dead, (D.p (Pt.one (L.d (Pv.fz false) (Sh.l (Sh.l (Sh.p Sh.s (Sh.p (Sh.l (Sh.p (Sh.i IntKind.i64) (Sh.p (Sh.i IntKind.i64) Sh.u))) Sh.u)))) x1_1))), (D.p (Pt.one (L.d (Pv.fz true) (Sh.i IntKind.i64) x1_2))), (D.p (Pt.one (L.d (Pv.fz true) (Sh.i IntKind.i64) x1_3))), dead, dead, dead, dead, dead, dead, dead, dead, dead, dead, dead, dead, dead, dead, dead, dead, dead, dead, dead, dead, dead, dead, dead, dead] [[], [(Ob.va [(L.d (Pv.fz true) (Sh.i IntKind.i64) x1_4), (L.d (Pv.fz false) (Sh.l (Sh.l (Sh.p Sh.s (Sh.p (Sh.l (Sh.p (Sh.i IntKind.i64) (Sh.p (Sh.i IntKind.i64) Sh.u))) Sh.u)))) x1_5), (L.d (Pv.fz false) (Sh.l Sh.s) x1_6), (L.d (Pv.fz false) (Sh.l (Sh.l (Sh.i IntKind.i64))) x1_7)]), (Ob.va [(L.fn 24 [])]), (Ob.va [(L.rw (Id.mk 1 5))]), (Ob.ro true 0 3 (Sh.i IntKind.i64) Ow.z x1_8 Option.none), (Ob.ro true 0 4 Sh.b Ow.z x1_9 Option.none), (Ob.ro true 0 4 Sh.b Ow.z x1_10 Option.none)]])
noncomputable def r23aW1 (G : St → Option Lf) : r23aG1 := fun x1_0 x1_1 x1_2 x1_3 x1_4 x1_5 x1_6 x1_7 x1_8 x1_9 x1_10 => G (r23aH1 x1_0 x1_1 x1_2 x1_3 x1_4 x1_5 x1_6 x1_7 x1_8 x1_9 x1_10)
noncomputable def r23aS1  (g0 : r23aG0) (g1 : r23aG1) (x1_0 : Bool) (x1_1 : List (List (ByteArray × List (Int × Int × Unit) × Unit))) (x1_2 : Int) (x1_3 : Int) (x1_4 : Int) (x1_5 : List (List (ByteArray × List (Int × Int × Unit) × Unit))) (x1_6 : List ByteArray) (x1_7 : List (List Int)) (x1_8 : List Int) (x1_9 : List Bool) (x1_10 : List Bool) : Option Lf :=
 bif decide (x1_3 < x1_2) then
  bif inb x1_3 x1_1.length then
   bif inb x1_3 x1_10.length then
    bif x1_10.getD x1_3.toNat false then
     g1 (x1_0 : Bool) (x1_1 : List (List (ByteArray × List (Int × Int × Unit) × Unit))) (x1_2 : Int) (IntKind.i64.wrap (x1_3 + 1) : Int) (x1_4 : Int) (x1_5 : List (List (ByteArray × List (Int × Int × Unit) × Unit))) (x1_6 : List ByteArray) (x1_7 : List (List Int)) (x1_8 : List Int) (x1_9 : List Bool) (x1_10 : List Bool)
    else
     bif rgL x1_10.length (x1_1.getD x1_3.toNat []) then
      bif decide (idxG (yesC x1_10) 0 (x1_1.getD x1_3.toNat []) ≥ 0) then
       bif inb x1_3 x1_9.length then
        bif inb x1_3 x1_8.length then
         g1 (true : Bool) (x1_1 : List (List (ByteArray × List (Int × Int × Unit) × Unit))) (x1_2 : Int) (IntKind.i64.wrap (x1_3 + 1) : Int) (x1_4 : Int) (x1_5 : List (List (ByteArray × List (Int × Int × Unit) × Unit))) (x1_6 : List ByteArray) (x1_7 : List (List Int)) (x1_8.set x1_3.toNat (idxG (yesC x1_10) 0 (x1_1.getD x1_3.toNat [])) : List Int) (x1_9.set x1_3.toNat true : List Bool) (x1_10 : List Bool)
        else
         none
       else
        none
      else
       g1 (x1_0 : Bool) (x1_1 : List (List (ByteArray × List (Int × Int × Unit) × Unit))) (x1_2 : Int) (IntKind.i64.wrap (x1_3 + 1) : Int) (x1_4 : Int) (x1_5 : List (List (ByteArray × List (Int × Int × Unit) × Unit))) (x1_6 : List ByteArray) (x1_7 : List (List Int)) (x1_8 : List Int) (x1_9 : List Bool) (x1_10 : List Bool)
     else
      none
   else
    none
  else
   none
 else
  g0 (x1_0 : Bool) (x1_4 : Int) (x1_5 : List (List (ByteArray × List (Int × Int × Unit) × Unit))) (x1_6 : List ByteArray) (x1_7 : List (List Int)) (x1_8 : List Int) (x1_9 : List Bool)
noncomputable def r23aL1 (n : Nat) (g0 : r23aG0) : Nat → r23aG1
  | 0 => fun _ _ _ _ _ _ _ _ _ _ _ => none
  | m + 1 => fun x1_0 x1_1 x1_2 x1_3 x1_4 x1_5 x1_6 x1_7 x1_8 x1_9 x1_10 => r23aS1  g0 (r23aL1 n g0 m) x1_0 x1_1 x1_2 x1_3 x1_4 x1_5 x1_6 x1_7 x1_8 x1_9 x1_10
theorem r23aS1_ev (n : Nat) (G0 : St → Option Lf) (G : St → Option Lf) (x1_0 : Bool) (x1_1 : List (List (ByteArray × List (Int × Int × Unit) × Unit))) (x1_2 : Int) (x1_3 : Int) (x1_4 : Int) (x1_5 : List (List (ByteArray × List (Int × Int × Unit) × Unit))) (x1_6 : List ByteArray) (x1_7 : List (List Int)) (x1_8 : List Int) (x1_9 : List Bool) (x1_10 : List Bool) : rnd C18 r23ah n Lf (codeOf r23af) [1, 1, 1, 0, 1, 0, 0, 1, 0, 1, 1, 0, 1, 0] [G0] (endK C18 r23ah r23af) G (r23aH1 x1_0 x1_1 x1_2 x1_3 x1_4 x1_5 x1_6 x1_7 x1_8 x1_9 x1_10) = r23aS1  (r23aW0 G0) (r23aW1 G) x1_0 x1_1 x1_2 x1_3 x1_4 x1_5 x1_6 x1_7 x1_8 x1_9 x1_10 := by kernel_rfl
theorem r23aW1_ev (n : Nat) (G0 : St → Option Lf) : ∀ m, (r23aW1 (lp C18 r23ah n Lf (codeOf r23af) [1, 1, 1, 0, 1, 0, 0, 1, 0, 1, 1, 0, 1, 0] [G0] (endK C18 r23ah r23af) m)) = r23aL1 n (r23aW0 G0) m := by
  intro m
  induction m with
  | zero => funext x1_0 x1_1 x1_2 x1_3 x1_4 x1_5 x1_6 x1_7 x1_8 x1_9 x1_10; exact lp_zero _
  | succ m ih =>
    funext x1_0 x1_1 x1_2 x1_3 x1_4 x1_5 x1_6 x1_7 x1_8 x1_9 x1_10
    show lp C18 r23ah n Lf (codeOf r23af) [1, 1, 1, 0, 1, 0, 0, 1, 0, 1, 1, 0, 1, 0] [G0] (endK C18 r23ah r23af) (m + 1) (r23aH1 x1_0 x1_1 x1_2 x1_3 x1_4 x1_5 x1_6 x1_7 x1_8 x1_9 x1_10) = r23aS1  (r23aW0 G0) (r23aL1 n (r23aW0 G0) m) x1_0 x1_1 x1_2 x1_3 x1_4 x1_5 x1_6 x1_7 x1_8 x1_9 x1_10
    rw [lp_succ, r23aS1_ev, ih]
noncomputable def r23aS0 (l1 : r23aG1) (g0 : r23aG0) (x0_0 : Bool) (x0_1 : Int) (x0_2 : List (List (ByteArray × List (Int × Int × Unit) × Unit))) (x0_3 : List ByteArray) (x0_4 : List (List Int)) (x0_5 : List Int) (x0_6 : List Bool) : Option Lf :=
 bif x0_0 then
  bif x0_6.length.ble 1000000 then
   l1 (false : Bool) (x0_2 : List (List (ByteArray × List (Int × Int × Unit) × Unit))) (zn x0_2.length : Int) (0 : Int) (x0_1 : Int) (x0_2 : List (List (ByteArray × List (Int × Int × Unit) × Unit))) (x0_3 : List ByteArray) (x0_4 : List (List Int)) (x0_5 : List Int) (x0_6 : List Bool) (x0_6 : List Bool)
  else
   none
 else
  some (Lf.mk [(Pt.one (L.rw (Id.mk 1 0))), (Pt.one (L.rw (Id.mk 1 1)))] [] [(Ob.ro true 0 4 Sh.b Ow.z (x0_6 : List Bool) Option.none), (Ob.ro true 0 3 (Sh.i IntKind.i64) Ow.z (x0_5 : List Int) Option.none)])
noncomputable def r23aL0 (n : Nat)  : Nat → r23aG0
  | 0 => fun _ _ _ _ _ _ _ => none
  | m + 1 => fun x0_0 x0_1 x0_2 x0_3 x0_4 x0_5 x0_6 => r23aS0 (r23aL1 n (r23aL0 n  m) n)  (r23aL0 n  m) x0_0 x0_1 x0_2 x0_3 x0_4 x0_5 x0_6
theorem r23aS0_ev (n : Nat)  (G : St → Option Lf) (x0_0 : Bool) (x0_1 : Int) (x0_2 : List (List (ByteArray × List (Int × Int × Unit) × Unit))) (x0_3 : List ByteArray) (x0_4 : List (List Int)) (x0_5 : List Int) (x0_6 : List Bool) : rnd C18 r23ah n Lf (codeOf r23af) [1, 1, 1, 0, 1, 0] [] (endK C18 r23ah r23af) G (r23aH0 x0_0 x0_1 x0_2 x0_3 x0_4 x0_5 x0_6) = r23aS0 (r23aW1 (lp C18 r23ah n Lf (codeOf r23af) [1, 1, 1, 0, 1, 0, 0, 1, 0, 1, 1, 0, 1, 0] [G] (endK C18 r23ah r23af) n))  (r23aW0 G) x0_0 x0_1 x0_2 x0_3 x0_4 x0_5 x0_6 := by kernel_rfl
theorem r23aW0_ev (n : Nat)  : ∀ m, (r23aW0 (lp C18 r23ah n Lf (codeOf r23af) [1, 1, 1, 0, 1, 0] [] (endK C18 r23ah r23af) m)) = r23aL0 n  m := by
  intro m
  induction m with
  | zero => funext x0_0 x0_1 x0_2 x0_3 x0_4 x0_5 x0_6; exact lp_zero _
  | succ m ih =>
    have e1 : (r23aW1 (lp C18 r23ah n Lf (codeOf r23af) [1, 1, 1, 0, 1, 0, 0, 1, 0, 1, 1, 0, 1, 0] [(lp C18 r23ah n Lf (codeOf r23af) [1, 1, 1, 0, 1, 0] [] (endK C18 r23ah r23af) m)] (endK C18 r23ah r23af) n)) = (r23aL1 n (r23aL0 n  m) n) := by
      rw [r23aW1_ev, ih]
    funext x0_0 x0_1 x0_2 x0_3 x0_4 x0_5 x0_6
    show lp C18 r23ah n Lf (codeOf r23af) [1, 1, 1, 0, 1, 0] [] (endK C18 r23ah r23af) (m + 1) (r23aH0 x0_0 x0_1 x0_2 x0_3 x0_4 x0_5 x0_6) = r23aS0 (r23aL1 n (r23aL0 n  m) n)  (r23aL0 n  m) x0_0 x0_1 x0_2 x0_3 x0_4 x0_5 x0_6
    rw [lp_succ, r23aS0_ev, ih, e1]
noncomputable def r23aT (l0 : r23aG0) (i : Int) (ch : List (List (ByteArray × List (Int × Int × Unit) × Unit))) (nm : List ByteArray) (ho : List (List Int)) (set : List Bool) : Option Lf :=
 bif set.length.ble 1000000 then
  bif decide (0 ≤ zn set.length) && (decide (zn set.length ≤ zn set.length) && decide (8 * (zn set.length).toNat ≤ 140737488355328)) then
   l0 (true : Bool) (i : Int) (ch : List (List (ByteArray × List (Int × Int × Unit) × Unit))) (nm : List ByteArray) (ho : List (List Int)) (List.replicate (zn set.length).toNat 0 : List Int) (set : List Bool)
  else
   none
 else
  none
noncomputable def r23aM (n : Nat) (i : Int) (ch : List (List (ByteArray × List (Int × Int × Unit) × Unit))) (nm : List ByteArray) (ho : List (List Int)) (set : List Bool) : Option Lf := r23aT (r23aL0 n n) i ch nm ho set
theorem r23aT_ev (n : Nat) (i : Int) (ch : List (List (ByteArray × List (Int × Int × Unit) × Unit))) (nm : List ByteArray) (ho : List (List Int)) (set : List Bool) : evF C18 r23ah n r23af [(D.p (Pt.agg [(L.d (Pv.fz true) (Sh.i IntKind.i64) i), (L.d (Pv.fz false) (Sh.l (Sh.l (Sh.p Sh.s (Sh.p (Sh.l (Sh.p (Sh.i IntKind.i64) (Sh.p (Sh.i IntKind.i64) Sh.u))) Sh.u)))) ch), (L.d (Pv.fz false) (Sh.l Sh.s) nm), (L.d (Pv.fz false) (Sh.l (Sh.l (Sh.i IntKind.i64))) ho)])), (D.p (Pt.one (L.d (Pv.fz false) (Sh.l Sh.b) set))), (D.p (Pt.one (L.fn 24 [])))] [] = r23aT (r23aW0 (lp C18 r23ah n Lf (codeOf r23af) [1, 1, 1, 0, 1, 0] [] (endK C18 r23ah r23af) n)) i ch nm ho set := by kernel_rfl
theorem r23a_ev (n : Nat) (i : Int) (ch : List (List (ByteArray × List (Int × Int × Unit) × Unit))) (nm : List ByteArray) (ho : List (List Int)) (set : List Bool) : evF C18 r23ah n r23af [(D.p (Pt.agg [(L.d (Pv.fz true) (Sh.i IntKind.i64) i), (L.d (Pv.fz false) (Sh.l (Sh.l (Sh.p Sh.s (Sh.p (Sh.l (Sh.p (Sh.i IntKind.i64) (Sh.p (Sh.i IntKind.i64) Sh.u))) Sh.u)))) ch), (L.d (Pv.fz false) (Sh.l Sh.s) nm), (L.d (Pv.fz false) (Sh.l (Sh.l (Sh.i IntKind.i64))) ho)])), (D.p (Pt.one (L.d (Pv.fz false) (Sh.l Sh.b) set))), (D.p (Pt.one (L.fn 24 [])))] [] = r23aM n i ch nm ho set := by
  rw [r23aT_ev, r23aW0_ev]
  rfl

abbrev r23bh : Hn := h23r
noncomputable abbrev r23bf : Func := fn 23
abbrev r23bG0 := Bool → (List Bool) → Int → (List (List (ByteArray × List (Int × Int × Unit) × Unit))) → (List ByteArray) → (List (List Int)) → (List Int) → (List Bool) → Option Lf
noncomputable def r23bH0 (x0_0 : Bool) (x0_1 : List Bool) (x0_2 : Int) (x0_3 : List (List (ByteArray × List (Int × Int × Unit) × Unit))) (x0_4 : List ByteArray) (x0_5 : List (List Int)) (x0_6 : List Int) (x0_7 : List Bool) : St := (St.mk [dead, dead, dead, (D.p (Pt.one (L.pv (Id.mk 1 0) 0))), dead, (D.p (Pt.one (L.pv (Id.mk 1 1) 0))), dead, dead, (D.p (Pt.one (L.pv (Id.mk 1 2) 0))), (D.p (Pt.one (L.rw (Id.mk 1 3)))), (D.p (Pt.one (L.d (Pv.fz true) Sh.b x0_0))), dead, dead, dead, dead, dead, dead, dead, dead, dead, dead, dead, dead, dead, dead, dead, dead, dead, dead, dead, dead, dead, dead, dead, dead, dead, dead, dead, dead, dead, dead, dead, dead, dead, dead, dead, dead, dead, dead, dead, dead] [[(Ob.va [(L.rw (Id.mk 0 1))]), (Ob.ro true 0 4 Sh.b Ow.z x0_1 Option.none)], [(Ob.va [(L.d (Pv.fz true) (Sh.i IntKind.i64) x0_2), (L.d (Pv.fz false) (Sh.l (Sh.l (Sh.p Sh.s (Sh.p (Sh.l (Sh.p (Sh.i IntKind.i64) (Sh.p (Sh.i IntKind.i64) Sh.u))) Sh.u)))) x0_3), (L.d (Pv.fz false) (Sh.l Sh.s) x0_4), (L.d (Pv.fz false) (Sh.l (Sh.l (Sh.i IntKind.i64))) x0_5)]), (Ob.va [(L.fn 25 [(Cp.b (Id.mk 0 0))])]), (Ob.va [(L.rw (Id.mk 1 4))]), (Ob.ro true 0 3 (Sh.i IntKind.i64) Ow.z x0_6 Option.none), (Ob.ro true 0 4 Sh.b Ow.z x0_7 Option.none)]])
noncomputable def r23bW0 (G : St → Option Lf) : r23bG0 := fun x0_0 x0_1 x0_2 x0_3 x0_4 x0_5 x0_6 x0_7 => G (r23bH0 x0_0 x0_1 x0_2 x0_3 x0_4 x0_5 x0_6 x0_7)
abbrev r23bG1 := Bool → (List (List (ByteArray × List (Int × Int × Unit) × Unit))) → Int → Int → (List Bool) → Int → (List (List (ByteArray × List (Int × Int × Unit) × Unit))) → (List ByteArray) → (List (List Int)) → (List Int) → (List Bool) → (List Bool) → Option Lf
noncomputable def r23bH1 (x1_0 : Bool) (x1_1 : List (List (ByteArray × List (Int × Int × Unit) × Unit))) (x1_2 : Int) (x1_3 : Int) (x1_4 : List Bool) (x1_5 : Int) (x1_6 : List (List (ByteArray × List (Int × Int × Unit) × Unit))) (x1_7 : List ByteArray) (x1_8 : List (List Int)) (x1_9 : List Int) (x1_10 : List Bool) (x1_11 : List Bool) : St := (St.mk [dead, dead, dead, (D.p (Pt.one (L.pv (Id.mk 1 0) 0))), dead, (D.p (Pt.one (L.pv (Id.mk 1 1) 0))), dead, dead, (D.p (Pt.one (L.pv (Id.mk 1 2) 0))), (D.p (Pt.one (L.rw (Id.mk 1 3)))), (D.p (Pt.one (L.d (Pv.fz true) Sh.b x1_0))), (D.p (Pt.one (L.rw (Id.mk 1 4)))), dead, dead, dead, dead, dead, dead, dead, dead, dead, dead, dead, dead, (D.p (Pt.one (L.d (Pv.fz false) (Sh.l (Sh.l (Sh.p Sh.s (Sh.p (Sh.l (Sh.p (Sh.i IntKind.i64) (Sh.p (Sh.i IntKind.i64) Sh.u))) Sh.u)))) x1_1))), (D.p (Pt.one (L.d (Pv.fz true) (Sh.i IntKind.i64) x1_2))), (D.p (Pt.one (L.d (Pv.fz true) (Sh.i IntKind.i64) x1_3))), dead, dead, dead, dead, dead, dead, dead, dead, dead, dead, dead, dead, dead, dead, dead, dead, dead, dead, dead, dead, dead, dead, dead, dead] [[(Ob.va [(L.rw (Id.mk 0 1))]), (Ob.ro true 0 4 Sh.b Ow.z x1_4 Option.none)], [(Ob.va [(L.d (Pv.fz true) (Sh.i IntKind.i64) x1_5), (L.d (Pv.fz false) (Sh.l (Sh.l (Sh.p Sh.s (Sh.p (Sh.l (Sh.p (Sh.i IntKind.i64) (Sh.p (Sh.i IntKind.i64) Sh.u))) Sh.u)))) x1_6), (L.d (Pv.fz false) (Sh.l Sh.s) x1_7), (L.d (Pv.fz false) (Sh.l (Sh.l (Sh.i IntKind.i64))) x1_8)]), (Ob.va [(L.fn 25 [(Cp.b (Id.mk 0 0))])]), (Ob.va [(L.rw (Id.mk 1 5))]), (Ob.ro true 0 3 (Sh.i IntKind.i64) Ow.z x1_9 Option.none), (Ob.ro true 0 4 Sh.b Ow.z x1_10 Option.none), (Ob.ro true 0 4 Sh.b Ow.z x1_11 Option.none)]])
noncomputable def r23bW1 (G : St → Option Lf) : r23bG1 := fun x1_0 x1_1 x1_2 x1_3 x1_4 x1_5 x1_6 x1_7 x1_8 x1_9 x1_10 x1_11 => G (r23bH1 x1_0 x1_1 x1_2 x1_3 x1_4 x1_5 x1_6 x1_7 x1_8 x1_9 x1_10 x1_11)
noncomputable def r23bS1  (g0 : r23bG0) (g1 : r23bG1) (x1_0 : Bool) (x1_1 : List (List (ByteArray × List (Int × Int × Unit) × Unit))) (x1_2 : Int) (x1_3 : Int) (x1_4 : List Bool) (x1_5 : Int) (x1_6 : List (List (ByteArray × List (Int × Int × Unit) × Unit))) (x1_7 : List ByteArray) (x1_8 : List (List Int)) (x1_9 : List Int) (x1_10 : List Bool) (x1_11 : List Bool) : Option Lf :=
 bif decide (x1_3 < x1_2) then
  bif inb x1_3 x1_1.length then
   bif inb x1_3 x1_11.length then
    bif x1_11.getD x1_3.toNat false then
     g1 (x1_0 : Bool) (x1_1 : List (List (ByteArray × List (Int × Int × Unit) × Unit))) (x1_2 : Int) (IntKind.i64.wrap (x1_3 + 1) : Int) (x1_4 : List Bool) (x1_5 : Int) (x1_6 : List (List (ByteArray × List (Int × Int × Unit) × Unit))) (x1_7 : List ByteArray) (x1_8 : List (List Int)) (x1_9 : List Int) (x1_10 : List Bool) (x1_11 : List Bool)
    else
     bif rgL x1_11.length (x1_1.getD x1_3.toNat []) && rgL x1_4.length (x1_1.getD x1_3.toNat []) then
      bif decide (idxG (wB x1_11 x1_4) 0 (x1_1.getD x1_3.toNat []) ≥ 0) then
       bif inb x1_3 x1_10.length then
        bif inb x1_3 x1_9.length then
         g1 (true : Bool) (x1_1 : List (List (ByteArray × List (Int × Int × Unit) × Unit))) (x1_2 : Int) (IntKind.i64.wrap (x1_3 + 1) : Int) (x1_4 : List Bool) (x1_5 : Int) (x1_6 : List (List (ByteArray × List (Int × Int × Unit) × Unit))) (x1_7 : List ByteArray) (x1_8 : List (List Int)) (x1_9.set x1_3.toNat (idxG (wB x1_11 x1_4) 0 (x1_1.getD x1_3.toNat [])) : List Int) (x1_10.set x1_3.toNat true : List Bool) (x1_11 : List Bool)
        else
         none
       else
        none
      else
       g1 (x1_0 : Bool) (x1_1 : List (List (ByteArray × List (Int × Int × Unit) × Unit))) (x1_2 : Int) (IntKind.i64.wrap (x1_3 + 1) : Int) (x1_4 : List Bool) (x1_5 : Int) (x1_6 : List (List (ByteArray × List (Int × Int × Unit) × Unit))) (x1_7 : List ByteArray) (x1_8 : List (List Int)) (x1_9 : List Int) (x1_10 : List Bool) (x1_11 : List Bool)
     else
      none
   else
    none
  else
   none
 else
  g0 (x1_0 : Bool) (x1_4 : List Bool) (x1_5 : Int) (x1_6 : List (List (ByteArray × List (Int × Int × Unit) × Unit))) (x1_7 : List ByteArray) (x1_8 : List (List Int)) (x1_9 : List Int) (x1_10 : List Bool)
noncomputable def r23bL1 (n : Nat) (g0 : r23bG0) : Nat → r23bG1
  | 0 => fun _ _ _ _ _ _ _ _ _ _ _ _ => none
  | m + 1 => fun x1_0 x1_1 x1_2 x1_3 x1_4 x1_5 x1_6 x1_7 x1_8 x1_9 x1_10 x1_11 => r23bS1  g0 (r23bL1 n g0 m) x1_0 x1_1 x1_2 x1_3 x1_4 x1_5 x1_6 x1_7 x1_8 x1_9 x1_10 x1_11
theorem r23bS1_ev (n : Nat) (G0 : St → Option Lf) (G : St → Option Lf) (x1_0 : Bool) (x1_1 : List (List (ByteArray × List (Int × Int × Unit) × Unit))) (x1_2 : Int) (x1_3 : Int) (x1_4 : List Bool) (x1_5 : Int) (x1_6 : List (List (ByteArray × List (Int × Int × Unit) × Unit))) (x1_7 : List ByteArray) (x1_8 : List (List Int)) (x1_9 : List Int) (x1_10 : List Bool) (x1_11 : List Bool) : rnd C18 r23bh n Lf (codeOf r23bf) [1, 1, 1, 0, 1, 0, 0, 1, 0, 1, 1, 0, 1, 0] [G0] (endK C18 r23bh r23bf) G (r23bH1 x1_0 x1_1 x1_2 x1_3 x1_4 x1_5 x1_6 x1_7 x1_8 x1_9 x1_10 x1_11) = r23bS1  (r23bW0 G0) (r23bW1 G) x1_0 x1_1 x1_2 x1_3 x1_4 x1_5 x1_6 x1_7 x1_8 x1_9 x1_10 x1_11 := by kernel_rfl
theorem r23bW1_ev (n : Nat) (G0 : St → Option Lf) : ∀ m, (r23bW1 (lp C18 r23bh n Lf (codeOf r23bf) [1, 1, 1, 0, 1, 0, 0, 1, 0, 1, 1, 0, 1, 0] [G0] (endK C18 r23bh r23bf) m)) = r23bL1 n (r23bW0 G0) m := by
  intro m
  induction m with
  | zero => funext x1_0 x1_1 x1_2 x1_3 x1_4 x1_5 x1_6 x1_7 x1_8 x1_9 x1_10 x1_11; exact lp_zero _
  | succ m ih =>
    funext x1_0 x1_1 x1_2 x1_3 x1_4 x1_5 x1_6 x1_7 x1_8 x1_9 x1_10 x1_11
    show lp C18 r23bh n Lf (codeOf r23bf) [1, 1, 1, 0, 1, 0, 0, 1, 0, 1, 1, 0, 1, 0] [G0] (endK C18 r23bh r23bf) (m + 1) (r23bH1 x1_0 x1_1 x1_2 x1_3 x1_4 x1_5 x1_6 x1_7 x1_8 x1_9 x1_10 x1_11) = r23bS1  (r23bW0 G0) (r23bL1 n (r23bW0 G0) m) x1_0 x1_1 x1_2 x1_3 x1_4 x1_5 x1_6 x1_7 x1_8 x1_9 x1_10 x1_11
    rw [lp_succ, r23bS1_ev, ih]
noncomputable def r23bS0 (l1 : r23bG1) (g0 : r23bG0) (x0_0 : Bool) (x0_1 : List Bool) (x0_2 : Int) (x0_3 : List (List (ByteArray × List (Int × Int × Unit) × Unit))) (x0_4 : List ByteArray) (x0_5 : List (List Int)) (x0_6 : List Int) (x0_7 : List Bool) : Option Lf :=
 bif x0_0 then
  bif x0_7.length.ble 1000000 then
   l1 (false : Bool) (x0_3 : List (List (ByteArray × List (Int × Int × Unit) × Unit))) (zn x0_3.length : Int) (0 : Int) (x0_1 : List Bool) (x0_2 : Int) (x0_3 : List (List (ByteArray × List (Int × Int × Unit) × Unit))) (x0_4 : List ByteArray) (x0_5 : List (List Int)) (x0_6 : List Int) (x0_7 : List Bool) (x0_7 : List Bool)
  else
   none
 else
  some (Lf.mk [(Pt.one (L.rw (Id.mk 1 0))), (Pt.one (L.rw (Id.mk 1 1)))] [(Ob.va [(L.rw (Id.mk 0 1))]), (Ob.ro true 0 4 Sh.b Ow.z (x0_1 : List Bool) Option.none)] [(Ob.ro true 0 4 Sh.b Ow.z (x0_7 : List Bool) Option.none), (Ob.ro true 0 3 (Sh.i IntKind.i64) Ow.z (x0_6 : List Int) Option.none)])
noncomputable def r23bL0 (n : Nat)  : Nat → r23bG0
  | 0 => fun _ _ _ _ _ _ _ _ => none
  | m + 1 => fun x0_0 x0_1 x0_2 x0_3 x0_4 x0_5 x0_6 x0_7 => r23bS0 (r23bL1 n (r23bL0 n  m) n)  (r23bL0 n  m) x0_0 x0_1 x0_2 x0_3 x0_4 x0_5 x0_6 x0_7
theorem r23bS0_ev (n : Nat)  (G : St → Option Lf) (x0_0 : Bool) (x0_1 : List Bool) (x0_2 : Int) (x0_3 : List (List (ByteArray × List (Int × Int × Unit) × Unit))) (x0_4 : List ByteArray) (x0_5 : List (List Int)) (x0_6 : List Int) (x0_7 : List Bool) : rnd C18 r23bh n Lf (codeOf r23bf) [1, 1, 1, 0, 1, 0] [] (endK C18 r23bh r23bf) G (r23bH0 x0_0 x0_1 x0_2 x0_3 x0_4 x0_5 x0_6 x0_7) = r23bS0 (r23bW1 (lp C18 r23bh n Lf (codeOf r23bf) [1, 1, 1, 0, 1, 0, 0, 1, 0, 1, 1, 0, 1, 0] [G] (endK C18 r23bh r23bf) n))  (r23bW0 G) x0_0 x0_1 x0_2 x0_3 x0_4 x0_5 x0_6 x0_7 := by kernel_rfl
theorem r23bW0_ev (n : Nat)  : ∀ m, (r23bW0 (lp C18 r23bh n Lf (codeOf r23bf) [1, 1, 1, 0, 1, 0] [] (endK C18 r23bh r23bf) m)) = r23bL0 n  m := by
  intro m
  induction m with
  | zero => funext x0_0 x0_1 x0_2 x0_3 x0_4 x0_5 x0_6 x0_7; exact lp_zero _
  | succ m ih =>
    have e1 : (r23bW1 (lp C18 r23bh n Lf (codeOf r23bf) [1, 1, 1, 0, 1, 0, 0, 1, 0, 1, 1, 0, 1, 0] [(lp C18 r23bh n Lf (codeOf r23bf) [1, 1, 1, 0, 1, 0] [] (endK C18 r23bh r23bf) m)] (endK C18 r23bh r23bf) n)) = (r23bL1 n (r23bL0 n  m) n) := by
      rw [r23bW1_ev, ih]
    funext x0_0 x0_1 x0_2 x0_3 x0_4 x0_5 x0_6 x0_7
    show lp C18 r23bh n Lf (codeOf r23bf) [1, 1, 1, 0, 1, 0] [] (endK C18 r23bh r23bf) (m + 1) (r23bH0 x0_0 x0_1 x0_2 x0_3 x0_4 x0_5 x0_6 x0_7) = r23bS0 (r23bL1 n (r23bL0 n  m) n)  (r23bL0 n  m) x0_0 x0_1 x0_2 x0_3 x0_4 x0_5 x0_6 x0_7
    rw [lp_succ, r23bS0_ev, ih, e1]
noncomputable def r23bT (l0 : r23bG0) (i : Int) (ch : List (List (ByteArray × List (Int × Int × Unit) × Unit))) (nm : List ByteArray) (ho : List (List Int)) (set : List Bool) (inS : List Bool) : Option Lf :=
 bif set.length.ble 1000000 then
  bif decide (0 ≤ zn set.length) && (decide (zn set.length ≤ zn set.length) && decide (8 * (zn set.length).toNat ≤ 140737488355328)) then
   l0 (true : Bool) (inS : List Bool) (i : Int) (ch : List (List (ByteArray × List (Int × Int × Unit) × Unit))) (nm : List ByteArray) (ho : List (List Int)) (List.replicate (zn set.length).toNat 0 : List Int) (set : List Bool)
  else
   none
 else
  none
noncomputable def r23bM (n : Nat) (i : Int) (ch : List (List (ByteArray × List (Int × Int × Unit) × Unit))) (nm : List ByteArray) (ho : List (List Int)) (set : List Bool) (inS : List Bool) : Option Lf := r23bT (r23bL0 n n) i ch nm ho set inS
theorem r23bT_ev (n : Nat) (i : Int) (ch : List (List (ByteArray × List (Int × Int × Unit) × Unit))) (nm : List ByteArray) (ho : List (List Int)) (set : List Bool) (inS : List Bool) : evF C18 r23bh n r23bf [(D.p (Pt.agg [(L.d (Pv.fz true) (Sh.i IntKind.i64) i), (L.d (Pv.fz false) (Sh.l (Sh.l (Sh.p Sh.s (Sh.p (Sh.l (Sh.p (Sh.i IntKind.i64) (Sh.p (Sh.i IntKind.i64) Sh.u))) Sh.u)))) ch), (L.d (Pv.fz false) (Sh.l Sh.s) nm), (L.d (Pv.fz false) (Sh.l (Sh.l (Sh.i IntKind.i64))) ho)])), (D.p (Pt.one (L.d (Pv.fz false) (Sh.l Sh.b) set))), (D.p (Pt.one (L.fn 25 [(Cp.b (Id.mk 0 0))])))] [(Ob.va [(L.rw (Id.mk 0 1))]), (Ob.ro true 0 4 Sh.b Ow.z inS Option.none)] = r23bT (r23bW0 (lp C18 r23bh n Lf (codeOf r23bf) [1, 1, 1, 0, 1, 0] [] (endK C18 r23bh r23bf) n)) i ch nm ho set inS := by kernel_rfl
theorem r23b_ev (n : Nat) (i : Int) (ch : List (List (ByteArray × List (Int × Int × Unit) × Unit))) (nm : List ByteArray) (ho : List (List Int)) (set : List Bool) (inS : List Bool) : evF C18 r23bh n r23bf [(D.p (Pt.agg [(L.d (Pv.fz true) (Sh.i IntKind.i64) i), (L.d (Pv.fz false) (Sh.l (Sh.l (Sh.p Sh.s (Sh.p (Sh.l (Sh.p (Sh.i IntKind.i64) (Sh.p (Sh.i IntKind.i64) Sh.u))) Sh.u)))) ch), (L.d (Pv.fz false) (Sh.l Sh.s) nm), (L.d (Pv.fz false) (Sh.l (Sh.l (Sh.i IntKind.i64))) ho)])), (D.p (Pt.one (L.d (Pv.fz false) (Sh.l Sh.b) set))), (D.p (Pt.one (L.fn 25 [(Cp.b (Id.mk 0 0))])))] [(Ob.va [(L.rw (Id.mk 0 1))]), (Ob.ro true 0 4 Sh.b Ow.z inS Option.none)] = r23bM n i ch nm ho set inS := by
  rw [r23bT_ev, r23bW0_ev]
  rfl

abbrev r28h : Hn := h28r
noncomputable abbrev r28f : Func := fn 28
abbrev r28G0 := Bool → Int → (List (List (ByteArray × List (Int × Int × Unit) × Unit))) → (List ByteArray) → (List (List Int)) → (List Bool) → Option Lf
noncomputable def r28H0 (x0_0 : Bool) (x0_1 : Int) (x0_2 : List (List (ByteArray × List (Int × Int × Unit) × Unit))) (x0_3 : List ByteArray) (x0_4 : List (List Int)) (x0_5 : List Bool) : St := (St.mk [dead, dead, dead, (D.p (Pt.one (L.pv (Id.mk 1 0) 0))), dead, (D.p (Pt.one (L.pv (Id.mk 1 1) 0))), dead, (D.p (Pt.one (L.pv (Id.mk 1 2) 0))), (D.p (Pt.one (L.d (Pv.fz true) Sh.b x0_0))), dead, dead, dead, dead, dead, dead, dead, dead, dead, dead, dead, dead, dead, dead, dead, dead, dead, dead, dead, dead, dead, dead, dead, dead, dead, dead, dead, dead, dead] [[], [(Ob.va [(L.d (Pv.fz true) (Sh.i IntKind.i64) x0_1), (L.d (Pv.fz false) (Sh.l (Sh.l (Sh.p Sh.s (Sh.p (Sh.l (Sh.p (Sh.i IntKind.i64) (Sh.p (Sh.i IntKind.i64) Sh.u))) Sh.u)))) x0_2), (L.d (Pv.fz false) (Sh.l Sh.s) x0_3), (L.d (Pv.fz false) (Sh.l (Sh.l (Sh.i IntKind.i64))) x0_4)]), (Ob.va [(L.fn 29 [])]), (Ob.va [(L.rw (Id.mk 1 3))]), (Ob.ro true 0 4 Sh.b Ow.z x0_5 Option.none)]])
noncomputable def r28W0 (G : St → Option Lf) : r28G0 := fun x0_0 x0_1 x0_2 x0_3 x0_4 x0_5 => G (r28H0 x0_0 x0_1 x0_2 x0_3 x0_4 x0_5)
abbrev r28G1 := Bool → (List (List (ByteArray × List (Int × Int × Unit) × Unit))) → Int → Int → Int → (List (List (ByteArray × List (Int × Int × Unit) × Unit))) → (List ByteArray) → (List (List Int)) → (List Bool) → Option Lf
noncomputable def r28H1 (x1_0 : Bool) (x1_1 : List (List (ByteArray × List (Int × Int × Unit) × Unit))) (x1_2 : Int) (x1_3 : Int) (x1_4 : Int) (x1_5 : List (List (ByteArray × List (Int × Int × Unit) × Unit))) (x1_6 : List ByteArray) (x1_7 : List (List Int)) (x1_8 : List Bool) : St := (St.mk [dead, dead, dead, (D.p (Pt.one (L.pv (Id.mk 1 0) 0))), dead, (D.p (Pt.one (L.pv (Id.mk 1 1) 0))), dead, (D.p (Pt.one (L.pv (Id.mk 1 2) 0))), (D.p (Pt.one (L.d (Pv.fz true) Sh.b x1_0))), dead, dead, dead, dead, dead, dead, (D.p (Pt.one (L.d (Pv.fz false) (Sh.l (Sh.l (Sh.p Sh.s (Sh.p (Sh.l (Sh.p (Sh.i IntKind.i64) (Sh.p (Sh.i IntKind.i64) Sh.u))) Sh.u)))) x1_1))), (D.p (Pt.one (L.d (Pv.fz true) (Sh.i IntKind.i64) x1_2))), (D.p (Pt.one (L.d (Pv.fz true) (Sh.i IntKind.i64) x1_3))), dead, dead, dead, dead, dead, dead, dead, dead, dead, dead, dead, dead, dead, dead, dead, dead, dead, dead, dead, dead] [[], [(Ob.va [(L.d (Pv.fz true) (Sh.i IntKind.i64) x1_4), (L.d (Pv.fz false) (Sh.l (Sh.l (Sh.p Sh.s (Sh.p (Sh.l (Sh.p (Sh.i IntKind.i64) (Sh.p (Sh.i IntKind.i64) Sh.u))) Sh.u)))) x1_5), (L.d (Pv.fz false) (Sh.l Sh.s) x1_6), (L.d (Pv.fz false) (Sh.l (Sh.l (Sh.i IntKind.i64))) x1_7)]), (Ob.va [(L.fn 29 [])]), (Ob.va [(L.rw (Id.mk 1 3))]), (Ob.ro true 0 4 Sh.b Ow.z x1_8 Option.none)]])
noncomputable def r28W1 (G : St → Option Lf) : r28G1 := fun x1_0 x1_1 x1_2 x1_3 x1_4 x1_5 x1_6 x1_7 x1_8 => G (r28H1 x1_0 x1_1 x1_2 x1_3 x1_4 x1_5 x1_6 x1_7 x1_8)
noncomputable def r28S1  (g0 : r28G0) (g1 : r28G1) (x1_0 : Bool) (x1_1 : List (List (ByteArray × List (Int × Int × Unit) × Unit))) (x1_2 : Int) (x1_3 : Int) (x1_4 : Int) (x1_5 : List (List (ByteArray × List (Int × Int × Unit) × Unit))) (x1_6 : List ByteArray) (x1_7 : List (List Int)) (x1_8 : List Bool) : Option Lf :=
 bif decide (x1_3 < x1_2) then
  bif inb x1_3 x1_1.length then
   bif inb x1_3 x1_8.length then
    bif !x1_8.getD x1_3.toNat false then
     bif rgL x1_8.length (x1_1.getD x1_3.toNat []) then
      bif !(x1_1.getD x1_3.toNat []).any (allC x1_8) then
       bif inb x1_3 x1_8.length then
        g1 (true : Bool) (x1_1 : List (List (ByteArray × List (Int × Int × Unit) × Unit))) (x1_2 : Int) (IntKind.i64.wrap (x1_3 + 1) : Int) (x1_4 : Int) (x1_5 : List (List (ByteArray × List (Int × Int × Unit) × Unit))) (x1_6 : List ByteArray) (x1_7 : List (List Int)) (x1_8.set x1_3.toNat true : List Bool)
       else
        none
      else
       g1 (x1_0 : Bool) (x1_1 : List (List (ByteArray × List (Int × Int × Unit) × Unit))) (x1_2 : Int) (IntKind.i64.wrap (x1_3 + 1) : Int) (x1_4 : Int) (x1_5 : List (List (ByteArray × List (Int × Int × Unit) × Unit))) (x1_6 : List ByteArray) (x1_7 : List (List Int)) (x1_8 : List Bool)
     else
      none
    else
     g1 (x1_0 : Bool) (x1_1 : List (List (ByteArray × List (Int × Int × Unit) × Unit))) (x1_2 : Int) (IntKind.i64.wrap (x1_3 + 1) : Int) (x1_4 : Int) (x1_5 : List (List (ByteArray × List (Int × Int × Unit) × Unit))) (x1_6 : List ByteArray) (x1_7 : List (List Int)) (x1_8 : List Bool)
   else
    none
  else
   none
 else
  g0 (x1_0 : Bool) (x1_4 : Int) (x1_5 : List (List (ByteArray × List (Int × Int × Unit) × Unit))) (x1_6 : List ByteArray) (x1_7 : List (List Int)) (x1_8 : List Bool)
noncomputable def r28L1 (n : Nat) (g0 : r28G0) : Nat → r28G1
  | 0 => fun _ _ _ _ _ _ _ _ _ => none
  | m + 1 => fun x1_0 x1_1 x1_2 x1_3 x1_4 x1_5 x1_6 x1_7 x1_8 => r28S1  g0 (r28L1 n g0 m) x1_0 x1_1 x1_2 x1_3 x1_4 x1_5 x1_6 x1_7 x1_8
theorem r28S1_ev (n : Nat) (G0 : St → Option Lf) (G : St → Option Lf) (x1_0 : Bool) (x1_1 : List (List (ByteArray × List (Int × Int × Unit) × Unit))) (x1_2 : Int) (x1_3 : Int) (x1_4 : Int) (x1_5 : List (List (ByteArray × List (Int × Int × Unit) × Unit))) (x1_6 : List ByteArray) (x1_7 : List (List Int)) (x1_8 : List Bool) : rnd C18 r28h n Lf (codeOf r28f) [1, 1, 0, 1, 0, 0, 1, 0, 1, 1, 0] [G0] (endK C18 r28h r28f) G (r28H1 x1_0 x1_1 x1_2 x1_3 x1_4 x1_5 x1_6 x1_7 x1_8) = r28S1  (r28W0 G0) (r28W1 G) x1_0 x1_1 x1_2 x1_3 x1_4 x1_5 x1_6 x1_7 x1_8 := by kernel_rfl
theorem r28W1_ev (n : Nat) (G0 : St → Option Lf) : ∀ m, (r28W1 (lp C18 r28h n Lf (codeOf r28f) [1, 1, 0, 1, 0, 0, 1, 0, 1, 1, 0] [G0] (endK C18 r28h r28f) m)) = r28L1 n (r28W0 G0) m := by
  intro m
  induction m with
  | zero => funext x1_0 x1_1 x1_2 x1_3 x1_4 x1_5 x1_6 x1_7 x1_8; exact lp_zero _
  | succ m ih =>
    funext x1_0 x1_1 x1_2 x1_3 x1_4 x1_5 x1_6 x1_7 x1_8
    show lp C18 r28h n Lf (codeOf r28f) [1, 1, 0, 1, 0, 0, 1, 0, 1, 1, 0] [G0] (endK C18 r28h r28f) (m + 1) (r28H1 x1_0 x1_1 x1_2 x1_3 x1_4 x1_5 x1_6 x1_7 x1_8) = r28S1  (r28W0 G0) (r28L1 n (r28W0 G0) m) x1_0 x1_1 x1_2 x1_3 x1_4 x1_5 x1_6 x1_7 x1_8
    rw [lp_succ, r28S1_ev, ih]
noncomputable def r28S0 (l1 : r28G1) (g0 : r28G0) (x0_0 : Bool) (x0_1 : Int) (x0_2 : List (List (ByteArray × List (Int × Int × Unit) × Unit))) (x0_3 : List ByteArray) (x0_4 : List (List Int)) (x0_5 : List Bool) : Option Lf :=
 bif x0_0 then
  l1 (false : Bool) (x0_2 : List (List (ByteArray × List (Int × Int × Unit) × Unit))) (zn x0_2.length : Int) (0 : Int) (x0_1 : Int) (x0_2 : List (List (ByteArray × List (Int × Int × Unit) × Unit))) (x0_3 : List ByteArray) (x0_4 : List (List Int)) (x0_5 : List Bool)
 else
  some (Lf.mk [(Pt.one (L.rw (Id.mk 1 0)))] [] [(Ob.ro true 0 4 Sh.b Ow.z (x0_5 : List Bool) Option.none)])
noncomputable def r28L0 (n : Nat)  : Nat → r28G0
  | 0 => fun _ _ _ _ _ _ => none
  | m + 1 => fun x0_0 x0_1 x0_2 x0_3 x0_4 x0_5 => r28S0 (r28L1 n (r28L0 n  m) n)  (r28L0 n  m) x0_0 x0_1 x0_2 x0_3 x0_4 x0_5
theorem r28S0_ev (n : Nat)  (G : St → Option Lf) (x0_0 : Bool) (x0_1 : Int) (x0_2 : List (List (ByteArray × List (Int × Int × Unit) × Unit))) (x0_3 : List ByteArray) (x0_4 : List (List Int)) (x0_5 : List Bool) : rnd C18 r28h n Lf (codeOf r28f) [1, 1, 0, 1, 0] [] (endK C18 r28h r28f) G (r28H0 x0_0 x0_1 x0_2 x0_3 x0_4 x0_5) = r28S0 (r28W1 (lp C18 r28h n Lf (codeOf r28f) [1, 1, 0, 1, 0, 0, 1, 0, 1, 1, 0] [G] (endK C18 r28h r28f) n))  (r28W0 G) x0_0 x0_1 x0_2 x0_3 x0_4 x0_5 := by kernel_rfl
theorem r28W0_ev (n : Nat)  : ∀ m, (r28W0 (lp C18 r28h n Lf (codeOf r28f) [1, 1, 0, 1, 0] [] (endK C18 r28h r28f) m)) = r28L0 n  m := by
  intro m
  induction m with
  | zero => funext x0_0 x0_1 x0_2 x0_3 x0_4 x0_5; exact lp_zero _
  | succ m ih =>
    have e1 : (r28W1 (lp C18 r28h n Lf (codeOf r28f) [1, 1, 0, 1, 0, 0, 1, 0, 1, 1, 0] [(lp C18 r28h n Lf (codeOf r28f) [1, 1, 0, 1, 0] [] (endK C18 r28h r28f) m)] (endK C18 r28h r28f) n)) = (r28L1 n (r28L0 n  m) n) := by
      rw [r28W1_ev, ih]
    funext x0_0 x0_1 x0_2 x0_3 x0_4 x0_5
    show lp C18 r28h n Lf (codeOf r28f) [1, 1, 0, 1, 0] [] (endK C18 r28h r28f) (m + 1) (r28H0 x0_0 x0_1 x0_2 x0_3 x0_4 x0_5) = r28S0 (r28L1 n (r28L0 n  m) n)  (r28L0 n  m) x0_0 x0_1 x0_2 x0_3 x0_4 x0_5
    rw [lp_succ, r28S0_ev, ih, e1]
noncomputable def r28T (l0 : r28G0) (i : Int) (ch : List (List (ByteArray × List (Int × Int × Unit) × Unit))) (nm : List ByteArray) (ho : List (List Int)) (set : List Bool) : Option Lf :=
 bif set.length.ble 1000000 then
  l0 (true : Bool) (i : Int) (ch : List (List (ByteArray × List (Int × Int × Unit) × Unit))) (nm : List ByteArray) (ho : List (List Int)) (set : List Bool)
 else
  none
noncomputable def r28M (n : Nat) (i : Int) (ch : List (List (ByteArray × List (Int × Int × Unit) × Unit))) (nm : List ByteArray) (ho : List (List Int)) (set : List Bool) : Option Lf := r28T (r28L0 n n) i ch nm ho set
theorem r28T_ev (n : Nat) (i : Int) (ch : List (List (ByteArray × List (Int × Int × Unit) × Unit))) (nm : List ByteArray) (ho : List (List Int)) (set : List Bool) : evF C18 r28h n r28f [(D.p (Pt.agg [(L.d (Pv.fz true) (Sh.i IntKind.i64) i), (L.d (Pv.fz false) (Sh.l (Sh.l (Sh.p Sh.s (Sh.p (Sh.l (Sh.p (Sh.i IntKind.i64) (Sh.p (Sh.i IntKind.i64) Sh.u))) Sh.u)))) ch), (L.d (Pv.fz false) (Sh.l Sh.s) nm), (L.d (Pv.fz false) (Sh.l (Sh.l (Sh.i IntKind.i64))) ho)])), (D.p (Pt.one (L.d (Pv.fz false) (Sh.l Sh.b) set))), (D.p (Pt.one (L.fn 29 [])))] [] = r28T (r28W0 (lp C18 r28h n Lf (codeOf r28f) [1, 1, 0, 1, 0] [] (endK C18 r28h r28f) n)) i ch nm ho set := by kernel_rfl
theorem r28_ev (n : Nat) (i : Int) (ch : List (List (ByteArray × List (Int × Int × Unit) × Unit))) (nm : List ByteArray) (ho : List (List Int)) (set : List Bool) : evF C18 r28h n r28f [(D.p (Pt.agg [(L.d (Pv.fz true) (Sh.i IntKind.i64) i), (L.d (Pv.fz false) (Sh.l (Sh.l (Sh.p Sh.s (Sh.p (Sh.l (Sh.p (Sh.i IntKind.i64) (Sh.p (Sh.i IntKind.i64) Sh.u))) Sh.u)))) ch), (L.d (Pv.fz false) (Sh.l Sh.s) nm), (L.d (Pv.fz false) (Sh.l (Sh.l (Sh.i IntKind.i64))) ho)])), (D.p (Pt.one (L.d (Pv.fz false) (Sh.l Sh.b) set))), (D.p (Pt.one (L.fn 29 [])))] [] = r28M n i ch nm ho set := by
  rw [r28T_ev, r28W0_ev]
  rfl
end Go.S22
