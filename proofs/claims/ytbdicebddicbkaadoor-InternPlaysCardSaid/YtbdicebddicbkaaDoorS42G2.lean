/-
  Seat 02 (plays): functional forms of Find and At.
-/
import Derived.Test.YtbdicebddicbkaaDoorS42B
open Go Go.En Go.S2
namespace Go.S2
noncomputable def l2 : List (Nat × En.Spec) := [(13, hashS), (15, cloneS), (14, sameS), (12, sameS), (5, newS), (10, lenS)]
noncomputable def C2 : Ctx := ctxOf C0 l2
def h7 : Hn := ⟨fun | 4 => [0, 1, 6] | _ => [], fun _ => [], fun _ => false⟩
def h11 : Hn := ⟨fun _ => [], fun | 1000000 => [⟨4, none, 21, .z⟩] | _ => [], fun _ => false⟩

abbrev f7h : Hn := h7
noncomputable abbrev f7f : Func := fn 7
abbrev f7G0 := (List Int) → Int → (List Int) → (List (List Int)) → (List Int) → Option Lf
noncomputable def f7H0 (x0_0 : List Int) (x0_1 : Int) (x0_2 : List Int) (x0_3 : List (List Int)) (x0_4 : List Int) : St := (St.mk [(D.p (Pt.one (L.pv (Id.mk 0 0) 0))), (D.p (Pt.one (L.d (Pv.fz false) (Sh.l (Sh.i IntKind.i32)) x0_0))), dead, dead, dead, dead, (D.p (Pt.one (L.d (Pv.fz true) (Sh.i IntKind.i64) x0_1))), dead, dead, dead, dead, dead, dead, dead, dead, dead, dead, dead, dead, dead, dead, dead, dead, dead, dead, dead, dead, dead, dead, dead, dead, dead, dead, dead, dead, dead, dead, dead] [[(Ob.va [(L.rw (Id.mk 0 1)), (L.d (Pv.fz true) (Sh.v 257 (Sh.i IntKind.i64)) x0_2), (L.rw (Id.mk 0 2))]), (Ob.ro true 0 26 (Sh.l (Sh.i IntKind.i32)) (Ow.l 21 Ow.z) x0_3 Option.none), (Ob.ro true 0 3 (Sh.i IntKind.i64) Ow.z x0_4 Option.none)], []])
noncomputable def f7W0 (G : St → Option Lf) : f7G0 := fun x0_0 x0_1 x0_2 x0_3 x0_4 => G (f7H0 x0_0 x0_1 x0_2 x0_3 x0_4)
noncomputable def f7S0  (g0 : f7G0) (x0_0 : List Int) (x0_1 : Int) (x0_2 : List Int) (x0_3 : List (List Int)) (x0_4 : List Int) : Option Lf :=
 bif x0_1 != 0 then
  bif inb (IntKind.i64.wrap (x0_1 - 1)) x0_3.length then
   bif big (x0_3.getD (IntKind.i64.wrap (x0_1 - 1)).toNat []) && big x0_0 then
    bif same (x0_3.getD (IntKind.i64.wrap (x0_1 - 1)).toNat []) x0_0 then
     some (Lf.mk [(Pt.one (L.d (Pv.fz true) (Sh.i IntKind.i64) (IntKind.i64.wrap (x0_1 - 1) : Int))), (Pt.one (L.d (Pv.fz true) Sh.b (true : Bool)))] [(Ob.va [(L.rw (Id.mk 0 1)), (L.d (Pv.fz true) (Sh.v 257 (Sh.i IntKind.i64)) (x0_2 : List Int)), (L.rw (Id.mk 0 2))]), (Ob.ro true 0 26 (Sh.l (Sh.i IntKind.i32)) (Ow.l 21 Ow.z) (x0_3 : List (List Int)) Option.none), (Ob.ro true 0 3 (Sh.i IntKind.i64) Ow.z (x0_4 : List Int) Option.none)] [])
    else
     bif inb (IntKind.i64.wrap (x0_1 - 1)) x0_4.length then
      g0 (x0_0 : List Int) (x0_4.getD (IntKind.i64.wrap (x0_1 - 1)).toNat 0 : Int) (x0_2 : List Int) (x0_3 : List (List Int)) (x0_4 : List Int)
     else
      none
   else
    none
  else
   none
 else
  some (Lf.mk [(Pt.one (L.d (Pv.fz true) (Sh.i IntKind.i64) (0 : Int))), (Pt.one (L.d (Pv.fz true) Sh.b (false : Bool)))] [(Ob.va [(L.rw (Id.mk 0 1)), (L.d (Pv.fz true) (Sh.v 257 (Sh.i IntKind.i64)) (x0_2 : List Int)), (L.rw (Id.mk 0 2))]), (Ob.ro true 0 26 (Sh.l (Sh.i IntKind.i32)) (Ow.l 21 Ow.z) (x0_3 : List (List Int)) Option.none), (Ob.ro true 0 3 (Sh.i IntKind.i64) Ow.z (x0_4 : List Int) Option.none)] [])
noncomputable def f7L0 (n : Nat)  : Nat → f7G0
  | 0 => fun _ _ _ _ _ => none
  | m + 1 => fun x0_0 x0_1 x0_2 x0_3 x0_4 => f7S0   (f7L0 n  m) x0_0 x0_1 x0_2 x0_3 x0_4
theorem f7S0_ev (n : Nat)  (G : St → Option Lf) (x0_0 : List Int) (x0_1 : Int) (x0_2 : List Int) (x0_3 : List (List Int)) (x0_4 : List Int) : rnd C2 f7h n Lf (codeOf f7f) [1, 1, 0, 1, 0] [] (endK C2 f7h f7f) G (f7H0 x0_0 x0_1 x0_2 x0_3 x0_4) = f7S0   (f7W0 G) x0_0 x0_1 x0_2 x0_3 x0_4 := by kernel_rfl
theorem f7W0_ev (n : Nat)  : ∀ m, (f7W0 (lp C2 f7h n Lf (codeOf f7f) [1, 1, 0, 1, 0] [] (endK C2 f7h f7f) m)) = f7L0 n  m := by
  intro m
  induction m with
  | zero => funext x0_0 x0_1 x0_2 x0_3 x0_4; exact lp_zero _
  | succ m ih =>
    funext x0_0 x0_1 x0_2 x0_3 x0_4
    show lp C2 f7h n Lf (codeOf f7f) [1, 1, 0, 1, 0] [] (endK C2 f7h f7f) (m + 1) (f7H0 x0_0 x0_1 x0_2 x0_3 x0_4) = f7S0   (f7L0 n  m) x0_0 x0_1 x0_2 x0_3 x0_4
    rw [lp_succ, f7S0_ev, ih]
noncomputable def f7T (l0 : f7G0) (l : List (List Int)) (a : List Int) (b : List Int) (v : List Int) : Option Lf :=
 bif big v then
  bif inb (S2.hash v) 257 then
   l0 (v : List Int) (a.getD (S2.hash v).toNat 0 : Int) (a : List Int) (l : List (List Int)) (b : List Int)
  else
   none
 else
  none
noncomputable def f7M (n : Nat) (l : List (List Int)) (a : List Int) (b : List Int) (v : List Int) : Option Lf := f7T (f7L0 n n) l a b v
theorem f7T_ev (n : Nat) (l : List (List Int)) (a : List Int) (b : List Int) (v : List Int) : evF C2 f7h n f7f [(D.p (Pt.one (L.pv (Id.mk 0 0) 0))), (D.p (Pt.one (L.d (Pv.fz false) (Sh.l (Sh.i IntKind.i32)) v)))] [(Ob.va [(L.rw (Id.mk 0 1)), (L.d (Pv.fz true) (Sh.v 257 (Sh.i IntKind.i64)) a), (L.rw (Id.mk 0 2))]), (Ob.ro true 0 26 (Sh.l (Sh.i IntKind.i32)) (Ow.l 21 Ow.z) l Option.none), (Ob.ro true 0 3 (Sh.i IntKind.i64) Ow.z b Option.none)] = f7T (f7W0 (lp C2 f7h n Lf (codeOf f7f) [1, 1, 0, 1, 0] [] (endK C2 f7h f7f) n)) l a b v := by kernel_rfl
theorem f7_ev (n : Nat) (l : List (List Int)) (a : List Int) (b : List Int) (v : List Int) : evF C2 f7h n f7f [(D.p (Pt.one (L.pv (Id.mk 0 0) 0))), (D.p (Pt.one (L.d (Pv.fz false) (Sh.l (Sh.i IntKind.i32)) v)))] [(Ob.va [(L.rw (Id.mk 0 1)), (L.d (Pv.fz true) (Sh.v 257 (Sh.i IntKind.i64)) a), (L.rw (Id.mk 0 2))]), (Ob.ro true 0 26 (Sh.l (Sh.i IntKind.i32)) (Ow.l 21 Ow.z) l Option.none), (Ob.ro true 0 3 (Sh.i IntKind.i64) Ow.z b Option.none)] = f7M n l a b v := by
  rw [f7T_ev, f7W0_ev]
  rfl

abbrev f11h : Hn := h11
noncomputable abbrev f11f : Func := fn 11
noncomputable def f11T  (l : List (List Int)) (a : List Int) (b : List Int) (i : Int) : Option Lf :=
 bif decide (i < 0) || true then
  bif decide (i < 0) || decide (i ≥ zn l.length) then
   some (Lf.mk [(Pt.one (L.rw (Id.mk 1 0))), (Pt.one (L.d (Pv.fz true) Sh.b (false : Bool)))] [(Ob.va [(L.rw (Id.mk 0 1)), (L.d (Pv.fz true) (Sh.v 257 (Sh.i IntKind.i64)) (a : List Int)), (L.rw (Id.mk 0 2))]), (Ob.ro true 0 26 (Sh.l (Sh.i IntKind.i32)) (Ow.l 21 Ow.z) (l : List (List Int)) Option.none), (Ob.ro true 0 3 (Sh.i IntKind.i64) Ow.z (b : List Int) Option.none)] [(Ob.ro true 0 21 (Sh.i IntKind.i32) Ow.z ([] : List Int) Option.none)])
  else
   bif inb i l.length then
    bif (l.getD i.toNat []).length.ble 1000000 then
     some (Lf.mk [(Pt.one (L.rw (Id.mk 1 0))), (Pt.one (L.d (Pv.fz true) Sh.b (true : Bool)))] [(Ob.va [(L.rw (Id.mk 0 1)), (L.d (Pv.fz true) (Sh.v 257 (Sh.i IntKind.i64)) (a : List Int)), (L.rw (Id.mk 0 2))]), (Ob.ro true 0 26 (Sh.l (Sh.i IntKind.i32)) (Ow.l 21 Ow.z) (l : List (List Int)) Option.none), (Ob.ro true 0 3 (Sh.i IntKind.i64) Ow.z (b : List Int) Option.none)] [(Ob.ro true 0 21 (Sh.i IntKind.i32) Ow.z (l.getD i.toNat [] : List Int) Option.none)])
    else
     none
   else
    none
 else
  none
noncomputable def f11M (_ : Nat) (l : List (List Int)) (a : List Int) (b : List Int) (i : Int) : Option Lf := f11T  l a b i
theorem f11T_ev (n : Nat) (l : List (List Int)) (a : List Int) (b : List Int) (i : Int) : evF C2 f11h n f11f [(D.p (Pt.one (L.pv (Id.mk 0 0) 0))), (D.p (Pt.one (L.d (Pv.fz true) (Sh.i IntKind.i64) i)))] [(Ob.va [(L.rw (Id.mk 0 1)), (L.d (Pv.fz true) (Sh.v 257 (Sh.i IntKind.i64)) a), (L.rw (Id.mk 0 2))]), (Ob.ro true 0 26 (Sh.l (Sh.i IntKind.i32)) (Ow.l 21 Ow.z) l Option.none), (Ob.ro true 0 3 (Sh.i IntKind.i64) Ow.z b Option.none)] = f11T  l a b i := by kernel_rfl
theorem f11_ev (n : Nat) (l : List (List Int)) (a : List Int) (b : List Int) (i : Int) : evF C2 f11h n f11f [(D.p (Pt.one (L.pv (Id.mk 0 0) 0))), (D.p (Pt.one (L.d (Pv.fz true) (Sh.i IntKind.i64) i)))] [(Ob.va [(L.rw (Id.mk 0 1)), (L.d (Pv.fz true) (Sh.v 257 (Sh.i IntKind.i64)) a), (L.rw (Id.mk 0 2))]), (Ob.ro true 0 26 (Sh.l (Sh.i IntKind.i32)) (Ow.l 21 Ow.z) l Option.none), (Ob.ro true 0 3 (Sh.i IntKind.i64) Ow.z b Option.none)] = f11M n l a b i := by
  rw [f11T_ev]
  rfl
end Go.S2
