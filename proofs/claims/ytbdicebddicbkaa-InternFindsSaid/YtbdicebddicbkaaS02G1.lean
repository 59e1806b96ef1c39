/-
  Seat 02: functional forms of the functions that call none.
-/
import Derived.Test.YtbdicebddicbkaaS02A
open Go Go.En Go.S2
namespace Go.S2
noncomputable def C1 : Ctx := ctxOf C0 []
def h13 : Hn := ⟨fun | 3 => [3, 6, 7, 8] | _ => [], fun _ => [], fun _ => false⟩
def h14 : Hn := ⟨fun _ => [], fun | 1000000 => [⟨2, none, 21, .z⟩] | _ => [], fun _ => false⟩
def h15 : Hn := ⟨fun | 4 => [0, 1, 12, 13] | _ => [], fun _ => [], fun _ => false⟩
def h11 : Hn := ⟨fun | 4 => [0, 1, 5] | _ => [], fun _ => [], fun _ => false⟩
def h7 : Hn := ⟨fun _ => [], fun | 1000000 => [⟨0, some 0, 22, .l 21 .z⟩, ⟨0, some 258, 3, .z⟩] | _ => [], fun _ => false⟩

abbrev f13h : Hn := h13
noncomputable abbrev f13f : Func := fn 13
abbrev f13G0 := Int → (List Int) → Int → Int → Option Lf
noncomputable def f13H0 (x0_0 : Int) (x0_1 : List Int) (x0_2 : Int) (x0_3 : Int) : St := (St.mk [dead, dead, dead, (D.p (Pt.one (L.d (Pv.fz true) (Sh.i IntKind.u32) x0_0))), dead, dead, (D.p (Pt.one (L.d (Pv.fz false) (Sh.l (Sh.i IntKind.i32)) x0_1))), (D.p (Pt.one (L.d (Pv.fz true) (Sh.i IntKind.i64) x0_2))), (D.p (Pt.one (L.d (Pv.fz true) (Sh.i IntKind.i64) x0_3))), dead, dead, dead, dead, dead, dead, dead, dead, dead, dead, dead, dead] [[], []])
noncomputable def f13S0  (g0 : f13G0) (x0_0 : Int) (x0_1 : List Int) (x0_2 : Int) (x0_3 : Int) : Option Lf :=
 bif decide (x0_3 < x0_2) then
  bif inb x0_3 x0_1.length then
   g0 (IntKind.u32.wrap (bitsF BinOp.xor IntKind.u32 x0_0 (IntKind.u32.wrap (x0_1.getD x0_3.toNat 0)) * 16777619) : Int) (x0_1 : List Int) (x0_2 : Int) (IntKind.i64.wrap (x0_3 + 1) : Int)
  else
   none
 else
  some (Lf.mk [(Pt.one (L.d (Pv.fz true) (Sh.i IntKind.i64) (IntKind.i64.wrap (x0_0.tmod 257) : Int)))] [] [])
noncomputable def f13L0 (n : Nat)  : Nat → f13G0
  | 0 => fun _ _ _ _ => none
  | m + 1 => fun x0_0 x0_1 x0_2 x0_3 => f13S0   (f13L0 n  m) x0_0 x0_1 x0_2 x0_3
noncomputable def f13W0 (G : St → Option Lf) : f13G0 := fun x0_0 x0_1 x0_2 x0_3 => G (f13H0 x0_0 x0_1 x0_2 x0_3)
theorem f13S0_ev (n : Nat)  (G : St → Option Lf) (x0_0 : Int) (x0_1 : List Int) (x0_2 : Int) (x0_3 : Int) : rnd C1 f13h n Lf (codeOf f13f) [1, 1, 0, 1, 0] [] (endK C1 f13h f13f) G (f13H0 x0_0 x0_1 x0_2 x0_3) = f13S0   (f13W0 G) x0_0 x0_1 x0_2 x0_3 := by kernel_rfl
theorem f13W0_ev (n : Nat)  : ∀ m, (f13W0 (lp C1 f13h n Lf (codeOf f13f) [1, 1, 0, 1, 0] [] (endK C1 f13h f13f) m)) = f13L0 n  m := by
  intro m
  induction m with
  | zero => funext x0_0 x0_1 x0_2 x0_3; exact lp_zero _
  | succ m ih =>
    funext x0_0 x0_1 x0_2 x0_3
    show lp C1 f13h n Lf (codeOf f13f) [1, 1, 0, 1, 0] [] (endK C1 f13h f13f) (m + 1) (f13H0 x0_0 x0_1 x0_2 x0_3) = f13S0   (f13L0 n  m) x0_0 x0_1 x0_2 x0_3
    rw [lp_succ, f13S0_ev, ih]
noncomputable def f13T (l0 : f13G0) (v : List Int) : Option Lf :=
 l0 (2166136261 : Int) (v : List Int) (zn v.length : Int) (0 : Int)
noncomputable def f13M (n : Nat) (v : List Int) : Option Lf := f13T (f13L0 n n) v
theorem f13T_ev (n : Nat) (v : List Int) : evF C1 f13h n f13f [(D.p (Pt.one (L.d (Pv.fz false) (Sh.l (Sh.i IntKind.i32)) v)))] [] = f13T (f13W0 (lp C1 f13h n Lf (codeOf f13f) [1, 1, 0, 1, 0] [] (endK C1 f13h f13f) n)) v := by kernel_rfl
theorem f13_ev (n : Nat) (v : List Int) : evF C1 f13h n f13f [(D.p (Pt.one (L.d (Pv.fz false) (Sh.l (Sh.i IntKind.i32)) v)))] [] = f13M n v := by
  rw [f13T_ev, f13W0_ev]
  rfl

abbrev f14h : Hn := h14
noncomputable abbrev f14f : Func := fn 14
noncomputable def f14T  (v : List Int) : Option Lf :=
 bif zn v.length == 0 then
  both (
   some (Lf.mk [(Pt.one (L.rw (Id.mk 1 0)))] [] [(Ob.ro true 0 21 (Sh.i IntKind.i32) Ow.z ([] : List Int) Option.none)]))
  (
   bif decide ((0 + v.length) * 4 ≤ 140737488355328) then
    some (Lf.mk [(Pt.one (L.rw (Id.mk 1 0)))] [] [(Ob.ro true 0 21 (Sh.i IntKind.i32) Ow.z ([] ++ v : List Int) Option.none)])
   else
    none)
 else
  bif decide ((0 + v.length) * 4 ≤ 140737488355328) then
   some (Lf.mk [(Pt.one (L.rw (Id.mk 1 0)))] [] [(Ob.ro true 0 21 (Sh.i IntKind.i32) Ow.z ([] ++ v : List Int) Option.none)])
  else
   none
noncomputable def f14M (_ : Nat) (v : List Int) : Option Lf := f14T  v
theorem f14T_ev (n : Nat) (v : List Int) : evF C1 f14h n f14f [(D.p (Pt.one (L.d (Pv.fz false) (Sh.l (Sh.i IntKind.i32)) v)))] [] = f14T  v := by kernel_rfl
theorem f14_ev (n : Nat) (v : List Int) : evF C1 f14h n f14f [(D.p (Pt.one (L.d (Pv.fz false) (Sh.l (Sh.i IntKind.i32)) v)))] [] = f14M n v := by
  rw [f14T_ev]
  rfl

abbrev f15h : Hn := h15
noncomputable abbrev f15f : Func := fn 15
abbrev f15G0 := (List Int) → (List Int) → Int → Int → Option Lf
noncomputable def f15H0 (x0_0 : List Int) (x0_1 : List Int) (x0_2 : Int) (x0_3 : Int) : St := (St.mk [(D.p (Pt.one (L.d (Pv.fz false) (Sh.l (Sh.i IntKind.i32)) x0_0))), (D.p (Pt.one (L.d (Pv.fz false) (Sh.l (Sh.i IntKind.i32)) x0_1))), dead, dead, dead, dead, dead, dead, dead, dead, dead, dead, (D.p (Pt.one (L.d (Pv.fz true) (Sh.i IntKind.i64) x0_2))), (D.p (Pt.one (L.d (Pv.fz true) (Sh.i IntKind.i64) x0_3))), dead, dead, dead, dead, dead, dead, dead, dead, dead, dead, dead, dead] [[], []])
noncomputable def f15S0  (g0 : f15G0) (x0_0 : List Int) (x0_1 : List Int) (x0_2 : Int) (x0_3 : Int) : Option Lf :=
 bif decide (x0_3 < x0_2) then
  bif inb x0_3 x0_0.length then
   bif inb x0_3 x0_1.length then
    bif x0_0.getD x0_3.toNat 0 != x0_1.getD x0_3.toNat 0 then
     some (Lf.mk [(Pt.one (L.d (Pv.fz true) Sh.b (false : Bool)))] [] [])
    else
     g0 (x0_0 : List Int) (x0_1 : List Int) (x0_2 : Int) (IntKind.i64.wrap (x0_3 + 1) : Int)
   else
    none
  else
   none
 else
  some (Lf.mk [(Pt.one (L.d (Pv.fz true) Sh.b (true : Bool)))] [] [])
noncomputable def f15L0 (n : Nat)  : Nat → f15G0
  | 0 => fun _ _ _ _ => none
  | m + 1 => fun x0_0 x0_1 x0_2 x0_3 => f15S0   (f15L0 n  m) x0_0 x0_1 x0_2 x0_3
noncomputable def f15W0 (G : St → Option Lf) : f15G0 := fun x0_0 x0_1 x0_2 x0_3 => G (f15H0 x0_0 x0_1 x0_2 x0_3)
theorem f15S0_ev (n : Nat)  (G : St → Option Lf) (x0_0 : List Int) (x0_1 : List Int) (x0_2 : Int) (x0_3 : Int) : rnd C1 f15h n Lf (codeOf f15f) [1, 1, 0, 1, 0] [] (endK C1 f15h f15f) G (f15H0 x0_0 x0_1 x0_2 x0_3) = f15S0   (f15W0 G) x0_0 x0_1 x0_2 x0_3 := by kernel_rfl
theorem f15W0_ev (n : Nat)  : ∀ m, (f15W0 (lp C1 f15h n Lf (codeOf f15f) [1, 1, 0, 1, 0] [] (endK C1 f15h f15f) m)) = f15L0 n  m := by
  intro m
  induction m with
  | zero => funext x0_0 x0_1 x0_2 x0_3; exact lp_zero _
  | succ m ih =>
    funext x0_0 x0_1 x0_2 x0_3
    show lp C1 f15h n Lf (codeOf f15f) [1, 1, 0, 1, 0] [] (endK C1 f15h f15f) (m + 1) (f15H0 x0_0 x0_1 x0_2 x0_3) = f15S0   (f15L0 n  m) x0_0 x0_1 x0_2 x0_3
    rw [lp_succ, f15S0_ev, ih]
noncomputable def f15T (l0 : f15G0) (a : List Int) (b : List Int) : Option Lf :=
 bif zn a.length != zn b.length then
  some (Lf.mk [(Pt.one (L.d (Pv.fz true) Sh.b (false : Bool)))] [] [])
 else
  l0 (a : List Int) (b : List Int) (zn a.length : Int) (0 : Int)
noncomputable def f15M (n : Nat) (a : List Int) (b : List Int) : Option Lf := f15T (f15L0 n n) a b
theorem f15T_ev (n : Nat) (a : List Int) (b : List Int) : evF C1 f15h n f15f [(D.p (Pt.one (L.d (Pv.fz false) (Sh.l (Sh.i IntKind.i32)) a))), (D.p (Pt.one (L.d (Pv.fz false) (Sh.l (Sh.i IntKind.i32)) b)))] [] = f15T (f15W0 (lp C1 f15h n Lf (codeOf f15f) [1, 1, 0, 1, 0] [] (endK C1 f15h f15f) n)) a b := by kernel_rfl
theorem f15_ev (n : Nat) (a : List Int) (b : List Int) : evF C1 f15h n f15f [(D.p (Pt.one (L.d (Pv.fz false) (Sh.l (Sh.i IntKind.i32)) a))), (D.p (Pt.one (L.d (Pv.fz false) (Sh.l (Sh.i IntKind.i32)) b)))] [] = f15M n a b := by
  rw [f15T_ev, f15W0_ev]
  rfl

abbrev f11h : Hn := h11
noncomputable abbrev f11f : Func := fn 11
abbrev f11G0 := (List Int) → (List Int) → Int → Option Lf
noncomputable def f11H0 (x0_0 : List Int) (x0_1 : List Int) (x0_2 : Int) : St := (St.mk [(D.p (Pt.one (L.d (Pv.fz false) (Sh.l (Sh.i IntKind.i32)) x0_0))), (D.p (Pt.one (L.d (Pv.fz false) (Sh.l (Sh.i IntKind.i32)) x0_1))), dead, dead, dead, (D.p (Pt.one (L.d (Pv.fz true) (Sh.i IntKind.i64) x0_2))), dead, dead, dead, dead, dead, dead, dead, dead, dead, dead, dead, dead, dead, dead, dead, dead, dead, dead, dead, dead] [[], []])
noncomputable def f11S0  (g0 : f11G0) (x0_0 : List Int) (x0_1 : List Int) (x0_2 : Int) : Option Lf :=
 bif decide (x0_2 < zn x0_0.length) then
  bif inb x0_2 x0_0.length then
   bif inb x0_2 x0_1.length then
    bif x0_0.getD x0_2.toNat 0 != x0_1.getD x0_2.toNat 0 then
     some (Lf.mk [(Pt.one (L.d (Pv.fz true) Sh.b (false : Bool)))] [] [])
    else
     g0 (x0_0 : List Int) (x0_1 : List Int) (IntKind.i64.wrap (x0_2 + 1) : Int)
   else
    none
  else
   none
 else
  some (Lf.mk [(Pt.one (L.d (Pv.fz true) Sh.b (true : Bool)))] [] [])
noncomputable def f11L0 (n : Nat)  : Nat → f11G0
  | 0 => fun _ _ _ => none
  | m + 1 => fun x0_0 x0_1 x0_2 => f11S0   (f11L0 n  m) x0_0 x0_1 x0_2
noncomputable def f11W0 (G : St → Option Lf) : f11G0 := fun x0_0 x0_1 x0_2 => G (f11H0 x0_0 x0_1 x0_2)
theorem f11S0_ev (n : Nat)  (G : St → Option Lf) (x0_0 : List Int) (x0_1 : List Int) (x0_2 : Int) : rnd C1 f11h n Lf (codeOf f11f) [1, 1, 0, 1, 0] [] (endK C1 f11h f11f) G (f11H0 x0_0 x0_1 x0_2) = f11S0   (f11W0 G) x0_0 x0_1 x0_2 := by kernel_rfl
theorem f11W0_ev (n : Nat)  : ∀ m, (f11W0 (lp C1 f11h n Lf (codeOf f11f) [1, 1, 0, 1, 0] [] (endK C1 f11h f11f) m)) = f11L0 n  m := by
  intro m
  induction m with
  | zero => funext x0_0 x0_1 x0_2; exact lp_zero _
  | succ m ih =>
    funext x0_0 x0_1 x0_2
    show lp C1 f11h n Lf (codeOf f11f) [1, 1, 0, 1, 0] [] (endK C1 f11h f11f) (m + 1) (f11H0 x0_0 x0_1 x0_2) = f11S0   (f11L0 n  m) x0_0 x0_1 x0_2
    rw [lp_succ, f11S0_ev, ih]
noncomputable def f11T (l0 : f11G0) (a : List Int) (b : List Int) : Option Lf :=
 bif zn a.length != zn b.length then
  some (Lf.mk [(Pt.one (L.d (Pv.fz true) Sh.b (false : Bool)))] [] [])
 else
  l0 (a : List Int) (b : List Int) (0 : Int)
noncomputable def f11M (n : Nat) (a : List Int) (b : List Int) : Option Lf := f11T (f11L0 n n) a b
theorem f11T_ev (n : Nat) (a : List Int) (b : List Int) : evF C1 f11h n f11f [(D.p (Pt.one (L.d (Pv.fz false) (Sh.l (Sh.i IntKind.i32)) a))), (D.p (Pt.one (L.d (Pv.fz false) (Sh.l (Sh.i IntKind.i32)) b)))] [] = f11T (f11W0 (lp C1 f11h n Lf (codeOf f11f) [1, 1, 0, 1, 0] [] (endK C1 f11h f11f) n)) a b := by kernel_rfl
theorem f11_ev (n : Nat) (a : List Int) (b : List Int) : evF C1 f11h n f11f [(D.p (Pt.one (L.d (Pv.fz false) (Sh.l (Sh.i IntKind.i32)) a))), (D.p (Pt.one (L.d (Pv.fz false) (Sh.l (Sh.i IntKind.i32)) b)))] [] = f11M n a b := by
  rw [f11T_ev, f11W0_ev]
  rfl

abbrev f7h : Hn := h7
noncomputable abbrev f7f : Func := fn 7
noncomputable def f7T   : Option Lf :=
 some (Lf.mk [(Pt.one (L.pv (Id.mk 1 0) 0))] [] [(Ob.va [(L.rw (Id.mk 1 1)), (L.d (Pv.fz true) (Sh.v 257 (Sh.i IntKind.i64)) (List.replicate 257 0 : List Int)), (L.rw (Id.mk 1 2))]), (Ob.ro true 0 22 (Sh.l (Sh.i IntKind.i32)) (Ow.l 21 Ow.z) ([] : List (List Int)) Option.none), (Ob.ro true 0 3 (Sh.i IntKind.i64) Ow.z ([] : List Int) Option.none)])
noncomputable def f7M (_ : Nat)  : Option Lf := f7T  
theorem f7T_ev (n : Nat)  : evF C1 f7h n f7f [] [] = f7T   := by kernel_rfl
theorem f7_ev (n : Nat)  : evF C1 f7h n f7f [] [] = f7M n  := by
  rw [f7T_ev]
  rfl

abbrev f12h : Hn := hn0
noncomputable abbrev f12f : Func := fn 12
noncomputable def f12T  (l : List (List Int)) (a : List Int) (b : List Int) : Option Lf :=
 some (Lf.mk [(Pt.one (L.d (Pv.fz true) (Sh.i IntKind.i64) (zn l.length : Int)))] [(Ob.va [(L.rw (Id.mk 0 1)), (L.d (Pv.fz true) (Sh.v 257 (Sh.i IntKind.i64)) (a : List Int)), (L.rw (Id.mk 0 2))]), (Ob.ro true 0 22 (Sh.l (Sh.i IntKind.i32)) (Ow.l 21 Ow.z) (l : List (List Int)) Option.none), (Ob.ro true 0 3 (Sh.i IntKind.i64) Ow.z (b : List Int) Option.none)] [])
noncomputable def f12M (_ : Nat) (l : List (List Int)) (a : List Int) (b : List Int) : Option Lf := f12T  l a b
theorem f12T_ev (n : Nat) (l : List (List Int)) (a : List Int) (b : List Int) : evF C1 f12h n f12f [(D.p (Pt.one (L.pv (Id.mk 0 0) 0)))] [(Ob.va [(L.rw (Id.mk 0 1)), (L.d (Pv.fz true) (Sh.v 257 (Sh.i IntKind.i64)) a), (L.rw (Id.mk 0 2))]), (Ob.ro true 0 22 (Sh.l (Sh.i IntKind.i32)) (Ow.l 21 Ow.z) l Option.none), (Ob.ro true 0 3 (Sh.i IntKind.i64) Ow.z b Option.none)] = f12T  l a b := by kernel_rfl
theorem f12_ev (n : Nat) (l : List (List Int)) (a : List Int) (b : List Int) : evF C1 f12h n f12f [(D.p (Pt.one (L.pv (Id.mk 0 0) 0)))] [(Ob.va [(L.rw (Id.mk 0 1)), (L.d (Pv.fz true) (Sh.v 257 (Sh.i IntKind.i64)) a), (L.rw (Id.mk 0 2))]), (Ob.ro true 0 22 (Sh.l (Sh.i IntKind.i32)) (Ow.l 21 Ow.z) l Option.none), (Ob.ro true 0 3 (Sh.i IntKind.i64) Ow.z b Option.none)] = f12M n l a b := by
  rw [f12T_ev]
  rfl
end Go.S2
