/-
  Seat 02: functional forms of Find and At.
-/
import Derived.Test.YtbdicebddicbkaaS02B
open Go Go.En Go.S2
namespace Go.S2
noncomputable def l2 : List (Nat × En.Spec) := [(13, hashS), (14, cloneS), (15, sameS), (11, sameS), (7, newS), (12, lenS)]
noncomputable def C2 : Ctx := ctxOf C0 l2
def h10 : Hn := ⟨fun | 4 => [0, 1, 6] | _ => [], fun _ => [], fun _ => false⟩
def h9 : Hn := ⟨fun _ => [], fun | 1000000 => [⟨4, none, 21, .z⟩] | _ => [], fun _ => false⟩

abbrev f10h : Hn := h10
noncomputable abbrev f10f : Func := fn 10
abbrev f10G0 := (List Int) → Int → (List Int) → (List (List Int)) → (List Int) → Option Lf
noncomputable def f10H0 (x0_0 : List Int) (x0_1 : Int) (x0_2 : List Int) (x0_3 : List (List Int)) (x0_4 : List Int) : St := (St.mk [(D.p (Pt.one (L.pv (Id.mk 0 0) 0))), (D.p (Pt.one (L.d (Pv.fz false) (Sh.l (Sh.i IntKind.i32)) x0_0))), dead, dead, dead, dead, (D.p (Pt.one (L.d (Pv.fz true) (Sh.i IntKind.i64) x0_1))), dead, dead, dead, dead, dead, dead, dead, dead, dead, dead, dead, dead, dead, dead, dead, dead, dead, dead, dead, dead, dead, dead, dead, dead, dead, dead, dead, dead, dead, dead, dead] [[(Ob.va [(L.rw (Id.mk 0 1)), (L.d (Pv.fz true) (Sh.v 257 (Sh.i IntKind.i64)) x0_2), (L.rw (Id.mk 0 2))]), (Ob.ro true 0 22 (Sh.l (Sh.i IntKind.i32)) (Ow.l 21 Ow.z) x0_3 Option.none), (Ob.ro true 0 3 (Sh.i IntKind.i64) Ow.z x0_4 Option.none)], []])
noncomputable def f10W0 (G : St → Option Lf) : f10G0 := fun x0_0 x0_1 x0_2 x0_3 x0_4 => G (f10H0 x0_0 x0_1 x0_2 x0_3 x0_4)
noncomputable def f10S0  (g0 : f10G0) (x0_0 : List Int) (x0_1 : Int) (x0_2 : List Int) (x0_3 : List (List Int)) (x0_4 : List Int) : Option Lf :=
 bif x0_1 != 0 then
  bif inb (IntKind.i64.wrap (x0_1 - 1)) x0_3.length then
   bif big (x0_3.getD (IntKind.i64.wrap (x0_1 - 1)).toNat []) && big x0_0 then
    bif same (x0_3.getD (IntKind.i64.wrap (x0_1 - 1)).toNat []) x0_0 then
     some (Lf.mk [(Pt.one (L.d (Pv.fz true) (Sh.i IntKind.i64) (IntKind.i64.wrap (x0_1 - 1) : Int))), (Pt.one (L.d (Pv.fz true) Sh.b (true : Bool)))] [(Ob.va [(L.rw (Id.mk 0 1)), (L.d (Pv.fz true) (Sh.v 257 (Sh.i IntKind.i64)) (x0_2 : List Int)), (L.rw (Id.mk 0 2))]), (Ob.ro true 0 22 (Sh.l (Sh.i IntKind.i32)) (Ow.l 21 Ow.z) (x0_3 : List (List Int)) Option.none), (Ob.ro true 0 3 (Sh.i IntKind.i64) Ow.z (x0_4 : List Int) Option.none)] [])
    else
     bif inb (IntKind.i64.wrap (x0_1 - 1)) x0_4.length then
      g0 (x0_0 : List Int) (x0_4.getD (IntKind.i64.wrap (x0_1 - 1)).toNat 0 : Int) (x0_2 : List Int) (x0_3 : List (List Int)) (x0_4 : List Int)
     else
      none
   else
    none
  else
   none
 else
  some (Lf.mk [(Pt.one (L.d (Pv.fz true) (Sh.i IntKind.i64) (0 : Int))), (Pt.one (L.d (Pv.fz true) Sh.b (false : Bool)))] [(Ob.va [(L.rw (Id.mk 0 1)), (L.d (Pv.fz true) (Sh.v 257 (Sh.i IntKind.i64)) (x0_2 : List Int)), (L.rw (Id.mk 0 2))]), (Ob.ro true 0 22 (Sh.l (Sh.i IntKind.i32)) (Ow.l 21 Ow.z) (x0_3 : List (List Int)) Option.none), (Ob.ro true 0 3 (Sh.i IntKind.i64) Ow.z (x0_4 : List Int) Option.none)] [])
noncomputable def f10L0 (n : Nat)  : Nat → f10G0
  | 0 => fun _ _ _ _ _ => none
  | m + 1 => fun x0_0 x0_1 x0_2 x0_3 x0_4 => f10S0   (f10L0 n  m) x0_0 x0_1 x0_2 x0_3 x0_4
theorem f10S0_ev (n : Nat)  (G : St → Option Lf) (x0_0 : List Int) (x0_1 : Int) (x0_2 : List Int) (x0_3 : List (List Int)) (x0_4 : List Int) : rnd C2 f10h n Lf (codeOf f10f) [1, 1, 0, 1, 0] [] (endK C2 f10h f10f) G (f10H0 x0_0 x0_1 x0_2 x0_3 x0_4) = f10S0   (f10W0 G) x0_0 x0_1 x0_2 x0_3 x0_4 := by kernel_rfl
theorem f10W0_ev (n : Nat)  : ∀ m, (f10W0 (lp C2 f10h n Lf (codeOf f10f) [1, 1, 0, 1, 0] [] (endK C2 f10h f10f) m)) = f10L0 n  m := by
  intro m
  induction m with
  | zero => funext x0_0 x0_1 x0_2 x0_3 x0_4; exact lp_zero _
  | succ m ih =>
    funext x0_0 x0_1 x0_2 x0_3 x0_4
    show lp C2 f10h n Lf (codeOf f10f) [1, 1, 0, 1, 0] [] (endK C2 f10h f10f) (m + 1) (f10H0 x0_0 x0_1 x0_2 x0_3 x0_4) = f10S0   (f10L0 n  m) x0_0 x0_1 x0_2 x0_3 x0_4
    rw [lp_succ, f10S0_ev, ih]
noncomputable def f10T (l0 : f10G0) (l : List (List Int)) (a : List Int) (b : List Int) (v : List Int) : Option Lf :=
 bif big v then
  bif inb (S2.hash v) 257 then
   l0 (v : List Int) (a.getD (S2.hash v).toNat 0 : Int) (a : List Int) (l : List (List Int)) (b : List Int)
  else
   none
 else
  none
noncomputable def f10M (n : Nat) (l : List (List Int)) (a : List Int) (b : List Int) (v : List Int) : Option Lf := f10T (f10L0 n n) l a b v
theorem f10T_ev (n : Nat) (l : List (List Int)) (a : List Int) (b : List Int) (v : List Int) : evF C2 f10h n f10f [(D.p (Pt.one (L.pv (Id.mk 0 0) 0))), (D.p (Pt.one (L.d (Pv.fz false) (Sh.l (Sh.i IntKind.i32)) v)))] [(Ob.va [(L.rw (Id.mk 0 1)), (L.d (Pv.fz true) (Sh.v 257 (Sh.i IntKind.i64)) a), (L.rw (Id.mk 0 2))]), (Ob.ro true 0 22 (Sh.l (Sh.i IntKind.i32)) (Ow.l 21 Ow.z) l Option.none), (Ob.ro true 0 3 (Sh.i IntKind.i64) Ow.z b Option.none)] = f10T (f10W0 (lp C2 f10h n Lf (codeOf f10f) [1, 1, 0, 1, 0] [] (endK C2 f10h f10f) n)) l a b v := by kernel_rfl
theorem f10_ev (n : Nat) (l : List (List Int)) (a : List Int) (b : List Int) (v : List Int) : evF C2 f10h n f10f [(D.p (Pt.one (L.pv (Id.mk 0 0) 0))), (D.p (Pt.one (L.d (Pv.fz false) (Sh.l (Sh.i IntKind.i32)) v)))] [(Ob.va [(L.rw (Id.mk 0 1)), (L.d (Pv.fz true) (Sh.v 257 (Sh.i IntKind.i64)) a), (L.rw (Id.mk 0 2))]), (Ob.ro true 0 22 (Sh.l (Sh.i IntKind.i32)) (Ow.l 21 Ow.z) l Option.none), (Ob.ro true 0 3 (Sh.i IntKind.i64) Ow.z b Option.none)] = f10M n l a b v := by
  rw [f10T_ev, f10W0_ev]
  rfl

abbrev f9h : Hn := h9
noncomputable abbrev f9f : Func := fn 9
noncomputable def f9T  (l : List (List Int)) (a : List Int) (b : List Int) (i : Int) : Option Lf :=
 bif decide (i < 0) || true then
  bif decide (i < 0) || decide (i ≥ zn l.length) then
   some (Lf.mk [(Pt.one (L.rw (Id.mk 1 0))), (Pt.one (L.d (Pv.fz true) Sh.b (false : Bool)))] [(Ob.va [(L.rw (Id.mk 0 1)), (L.d (Pv.fz true) (Sh.v 257 (Sh.i IntKind.i64)) (a : List Int)), (L.rw (Id.mk 0 2))]), (Ob.ro true 0 22 (Sh.l (Sh.i IntKind.i32)) (Ow.l 21 Ow.z) (l : List (List Int)) Option.none), (Ob.ro true 0 3 (Sh.i IntKind.i64) Ow.z (b : List Int) Option.none)] [(Ob.ro true 0 21 (Sh.i IntKind.i32) Ow.z ([] : List Int) Option.none)])
  else
   bif inb i l.length then
    bif (l.getD i.toNat []).length.ble 1000000 then
     some (Lf.mk [(Pt.one (L.rw (Id.mk 1 0))), (Pt.one (L.d (Pv.fz true) Sh.b (true : Bool)))] [(Ob.va [(L.rw (Id.mk 0 1)), (L.d (Pv.fz true) (Sh.v 257 (Sh.i IntKind.i64)) (a : List Int)), (L.rw (Id.mk 0 2))]), (Ob.ro true 0 22 (Sh.l (Sh.i IntKind.i32)) (Ow.l 21 Ow.z) (l : List (List Int)) Option.none), (Ob.ro true 0 3 (Sh.i IntKind.i64) Ow.z (b : List Int) Option.none)] [(Ob.ro true 0 21 (Sh.i IntKind.i32) Ow.z (l.getD i.toNat [] : List Int) Option.none)])
    else
     none
   else
    none
 else
  none
noncomputable def f9M (_ : Nat) (l : List (List Int)) (a : List Int) (b : List Int) (i : Int) : Option Lf := f9T  l a b i
theorem f9T_ev (n : Nat) (l : List (List Int)) (a : List Int) (b : List Int) (i : Int) : evF C2 f9h n f9f [(D.p (Pt.one (L.pv (Id.mk 0 0) 0))), (D.p (Pt.one (L.d (Pv.fz true) (Sh.i IntKind.i64) i)))] [(Ob.va [(L.rw (Id.mk 0 1)), (L.d (Pv.fz true) (Sh.v 257 (Sh.i IntKind.i64)) a), (L.rw (Id.mk 0 2))]), (Ob.ro true 0 22 (Sh.l (Sh.i IntKind.i32)) (Ow.l 21 Ow.z) l Option.none), (Ob.ro true 0 3 (Sh.i IntKind.i64) Ow.z b Option.none)] = f9T  l a b i := by kernel_rfl
theorem f9_ev (n : Nat) (l : List (List Int)) (a : List Int) (b : List Int) (i : Int) : evF C2 f9h n f9f [(D.p (Pt.one (L.pv (Id.mk 0 0) 0))), (D.p (Pt.one (L.d (Pv.fz true) (Sh.i IntKind.i64) i)))] [(Ob.va [(L.rw (Id.mk 0 1)), (L.d (Pv.fz true) (Sh.v 257 (Sh.i IntKind.i64)) a), (L.rw (Id.mk 0 2))]), (Ob.ro true 0 22 (Sh.l (Sh.i IntKind.i32)) (Ow.l 21 Ow.z) l Option.none), (Ob.ro true 0 3 (Sh.i IntKind.i64) Ow.z b Option.none)] = f9M n l a b i := by
  rw [f9T_ev]
  rfl
end Go.S2
