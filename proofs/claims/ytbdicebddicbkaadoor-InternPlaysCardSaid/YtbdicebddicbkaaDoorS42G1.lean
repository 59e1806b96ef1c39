/-
  Seat 02 (plays): functional forms of the functions that call none.
-/
import Derived.Test.YtbdicebddicbkaaDoorS42A
open Go Go.En Go.S2
namespace Go.S2
noncomputable def C1 : Ctx := ctxOf C0 []
def h13 : Hn := ⟨fun | 3 => [3, 6, 7, 8] | _ => [], fun _ => [], fun _ => false⟩
def h15 : Hn := ⟨fun _ => [], fun | 1000000 => [⟨2, none, 21, .z⟩] | _ => [], fun _ => false⟩
def h14 : Hn := ⟨fun | 4 => [0, 1, 12, 13] | _ => [], fun _ => [], fun _ => false⟩
def h12 : Hn := ⟨fun | 4 => [0, 1, 5] | _ => [], fun _ => [], fun _ => false⟩
def h5 : Hn := ⟨fun _ => [], fun | 1000000 => [⟨0, some 0, 26, .l 21 .z⟩, ⟨0, some 258, 3, .z⟩] | _ => [], fun _ => false⟩

abbrev f13h : Hn := h13
noncomputable abbrev f13f : Func := fn 13
abbrev f13G0 := Int → (List Int) → Int → Int → Option Lf
noncomputable def f13H0 (x0_0 : Int) (x0_1 : List Int) (x0_2 : Int) (x0_3 : Int) : St := (St.mk [dead, dead, dead, (D.p (Pt.one (L.d (Pv.fz true) (Sh.i IntKind.u32) x0_0))), dead, dead, (D.p (Pt.one (L.d (Pv.fz false) (Sh.l (Sh.i IntKind.i32)) x0_1))), (D.p (Pt.one (L.d (Pv.fz true) (Sh.i IntKind.i64) x0_2))), (D.p (Pt.one (L.d (Pv.fz true) (Sh.i IntKind.i64) x0_3))), dead, dead, dead, dead, dead, dead, dead, dead, dead, dead, dead, dead] [[], []])
noncomputable def f13W0 (G : St → Option Lf) : f13G0 := fun x0_0 x0_1 x0_2 x0_3 => G (f13H0 x0_0 x0_1 x0_2 x0_3)
noncomputable def f13S0  (g0 : f13G0) (x0_0 : Int) (x0_1 : List Int) (x0_2 : Int) (x0_3 : Int) : Option Lf :=
 bif decide (x0_3 < x0_2) then
  bif inb x0_3 x0_1.length then
   g0 (IntKind.u32.wrap (bitsF BinOp.xor IntKind.u32 x0_0 (IntKind.u32.wrap (x0_1.getD x0_3.toNat 0)) * 16777619) : Int) (x0_1 : List Int) (x0_2 : Int) (IntKind.i64.wrap (x0_3 + 1) : Int)
  else
   none
 else
  some (Lf.mk [(Pt.one (L.d (Pv.fz true) (Sh.i IntKind.i64) (IntKind.i64.wrap (x0_0.tmod 257) : Int)))] [] [])
noncomputable def f13L0 (n : Nat)  : Nat → f13G0
  | 0 => fun _ _ _ _ => none
  | m + 1 => fun x0_0 x0_1 x0_2 x0_3 => f13S0   (f13L0 n  m) x0_0 x0_1 x0_2 x0_3
theorem f13S0_ev (n : Nat)  (G : St → Option Lf) (x0_0 : Int) (x0_1 : List Int) (x0_2 : Int) (x0_3 : Int) : rnd C1 f13h n Lf (codeOf f13f) [1, 1, 0, 1, 0] [] (endK C1 f13h f13f) G (f13H0 x0_0 x0_1 x0_2 x0_3) = f13S0   (f13W0 G) x0_0 x0_1 x0_2 x0_3 := by kernel_rfl
theorem f13W0_ev (n : Nat)  : ∀ m, (f13W0 (lp C1 f13h n Lf (codeOf f13f) [1, 1, 0, 1, 0] [] (endK C1 f13h f13f) m)) = f13L0 n  m := by
  intro m
  induction m with
  | zero => funext x0_0 x0_1 x0_2 x0_3; exact lp_zero _
  | succ m ih =>
    funext x0_0 x0_1 x0_2 x0_3
    show lp C1 f13h n Lf (codeOf f13f) [1, 1, 0, 1, 0] [] (endK C1 f13h f13f) (m + 1) (f13H0 x0_0 x0_1 x0_2 x0_3) = f13S0   (f13L0 n  m) x0_0 x0_1 x0_2 x0_3
    rw [lp_succ, f13S0_ev, ih]
noncomputable def f13T (l0 : f13G0) (v : List Int) : Option Lf :=
 l0 (2166136261 : Int) (v : List Int) (zn v.length : Int) (0 : Int)
noncomputable def f13M (n : Nat) (v : List Int) : Option Lf := f13T (f13L0 n n) v
theorem f13T_ev (n : Nat) (v : List Int) : evF C1 f13h n f13f [(D.p (Pt.one (L.d (Pv.fz false) (Sh.l (Sh.i IntKind.i32)) v)))] [] = f13T (f13W0 (lp C1 f13h n Lf (codeOf f13f) [1, 1, 0, 1, 0] [] (endK C1 f13h f13f) n)) v := by kernel_rfl
theorem f13_ev (n : Nat) (v : List Int) : evF C1 f13h n f13f [(D.p (Pt.one (L.d (Pv.fz false) (Sh.l (Sh.i IntKind.i32)) v)))] [] = f13M n v := by
  rw [f13T_ev, f13W0_ev]
  rfl

abbrev f15h : Hn := h15
noncomputable abbrev f15f : Func := fn 15
noncomputable def f15T  (v : List Int) : Option Lf :=
 bif zn v.length == 0 then
  both (
   some (Lf.mk [(Pt.one (L.rw (Id.mk 1 0)))] [] [(Ob.ro true 0 21 (Sh.i IntKind.i32) Ow.z ([] : List Int) Option.none)]))
  (
   bif decide ((0 + v.length) * 4 ≤ 140737488355328) then
    some (Lf.mk [(Pt.one (L.rw (Id.mk 1 0)))] [] [(Ob.ro true 0 21 (Sh.i IntKind.i32) Ow.z (v : List Int) Option.none)])
   else
    none)
 else
  bif decide ((0 + v.length) * 4 ≤ 140737488355328) then
   some (Lf.mk [(Pt.one (L.rw (Id.mk 1 0)))] [] [(Ob.ro true 0 21 (Sh.i IntKind.i32) Ow.z (v : List Int) Option.none)])
  else
   none
noncomputable def f15M (_ : Nat) (v : List Int) : Option Lf := f15T  v
theorem f15T_ev (n : Nat) (v : List Int) : evF C1 f15h n f15f [(D.p (Pt.one (L.d (Pv.fz false) (Sh.l (Sh.i IntKind.i32)) v)))] [] = f15T  v := by kernel_rfl
theorem f15_ev (n : Nat) (v : List Int) : evF C1 f15h n f15f [(D.p (Pt.one (L.d (Pv.fz false) (Sh.l (Sh.i IntKind.i32)) v)))] [] = f15M n v := by
  rw [f15T_ev]
  rfl

abbrev f14h : Hn := h14
noncomputable abbrev f14f : Func := fn 14
abbrev f14G0 := (List Int) → (List Int) → Int → Int → Option Lf
noncomputable def f14H0 (x0_0 : List Int) (x0_1 : List Int) (x0_2 : Int) (x0_3 : Int) : St := (St.mk [(D.p (Pt.one (L.d (Pv.fz false) (Sh.l (Sh.i IntKind.i32)) x0_0))), (D.p (Pt.one (L.d (Pv.fz false) (Sh.l (Sh.i IntKind.i32)) x0_1))), dead, dead, dead, dead, dead, dead, dead, dead, dead, dead, (D.p (Pt.one (L.d (Pv.fz true) (Sh.i IntKind.i64) x0_2))), (D.p (Pt.one (L.d (Pv.fz true) (Sh.i IntKind.i64) x0_3))), dead, dead, dead, dead, dead, dead, dead, dead, dead, dead, dead, dead] [[], []])
noncomputable def f14W0 (G : St → Option Lf) : f14G0 := fun x0_0 x0_1 x0_2 x0_3 => G (f14H0 x0_0 x0_1 x0_2 x0_3)
noncomputable def f14S0  (g0 : f14G0) (x0_0 : List Int) (x0_1 : List Int) (x0_2 : Int) (x0_3 : Int) : Option Lf :=
 bif decide (x0_3 < x0_2) then
  bif inb x0_3 x0_0.length then
   bif inb x0_3 x0_1.length then
    bif x0_0.getD x0_3.toNat 0 != x0_1.getD x0_3.toNat 0 then
     some (Lf.mk [(Pt.one (L.d (Pv.fz true) Sh.b (false : Bool)))] [] [])
    else
     g0 (x0_0 : List Int) (x0_1 : List Int) (x0_2 : Int) (IntKind.i64.wrap (x0_3 + 1) : Int)
   else
    none
  else
   none
 else
  some (Lf.mk [(Pt.one (L.d (Pv.fz true) Sh.b (true : Bool)))] [] [])
noncomputable def f14L0 (n : Nat)  : Nat → f14G0
  | 0 => fun _ _ _ _ => none
  | m + 1 => fun x0_0 x0_1 x0_2 x0_3 => f14S0   (f14L0 n  m) x0_0 x0_1 x0_2 x0_3
theorem f14S0_ev (n : Nat)  (G : St → Option Lf) (x0_0 : List Int) (x0_1 : List Int) (x0_2 : Int) (x0_3 : Int) : rnd C1 f14h n Lf (codeOf f14f) [1, 1, 0, 1, 0] [] (endK C1 f14h f14f) G (f14H0 x0_0 x0_1 x0_2 x0_3) = f14S0   (f14W0 G) x0_0 x0_1 x0_2 x0_3 := by kernel_rfl
theorem f14W0_ev (n : Nat)  : ∀ m, (f14W0 (lp C1 f14h n Lf (codeOf f14f) [1, 1, 0, 1, 0] [] (endK C1 f14h f14f) m)) = f14L0 n  m := by
  intro m
  induction m with
  | zero => funext x0_0 x0_1 x0_2 x0_3; exact lp_zero _
  | succ m ih =>
    funext x0_0 x0_1 x0_2 x0_3
    show lp C1 f14h n Lf (codeOf f14f) [1, 1, 0, 1, 0] [] (endK C1 f14h f14f) (m + 1) (f14H0 x0_0 x0_1 x0_2 x0_3) = f14S0   (f14L0 n  m) x0_0 x0_1 x0_2 x0_3
    rw [lp_succ, f14S0_ev, ih]
noncomputable def f14T (l0 : f14G0) (a : List Int) (b : List Int) : Option Lf :=
 bif zn a.length != zn b.length then
  some (Lf.mk [(Pt.one (L.d (Pv.fz true) Sh.b (false : Bool)))] [] [])
 else
  l0 (a : List Int) (b : List Int) (zn a.length : Int) (0 : Int)
noncomputable def f14M (n : Nat) (a : List Int) (b : List Int) : Option Lf := f14T (f14L0 n n) a b
theorem f14T_ev (n : Nat) (a : List Int) (b : List Int) : evF C1 f14h n f14f [(D.p (Pt.one (L.d (Pv.fz false) (Sh.l (Sh.i IntKind.i32)) a))), (D.p (Pt.one (L.d (Pv.fz false) (Sh.l (Sh.i IntKind.i32)) b)))] [] = f14T (f14W0 (lp C1 f14h n Lf (codeOf f14f) [1, 1, 0, 1, 0] [] (endK C1 f14h f14f) n)) a b := by kernel_rfl
theorem f14_ev (n : Nat) (a : List Int) (b : List Int) : evF C1 f14h n f14f [(D.p (Pt.one (L.d (Pv.fz false) (Sh.l (Sh.i IntKind.i32)) a))), (D.p (Pt.one (L.d (Pv.fz false) (Sh.l (Sh.i IntKind.i32)) b)))] [] = f14M n a b := by
  rw [f14T_ev, f14W0_ev]
  rfl

abbrev f12h : Hn := h12
noncomputable abbrev f12f : Func := fn 12
abbrev f12G0 := (List Int) → (List Int) → Int → Option Lf
noncomputable def f12H0 (x0_0 : List Int) (x0_1 : List Int) (x0_2 : Int) : St := (St.mk [(D.p (Pt.one (L.d (Pv.fz false) (Sh.l (Sh.i IntKind.i32)) x0_0))), (D.p (Pt.one (L.d (Pv.fz false) (Sh.l (Sh.i IntKind.i32)) x0_1))), dead, dead, dead, (D.p (Pt.one (L.d (Pv.fz true) (Sh.i IntKind.i64) x0_2))), dead, dead, dead, dead, dead, dead, dead, dead, dead, dead, dead, dead, dead, dead, dead, dead, dead, dead, dead, dead] [[], []])
noncomputable def f12W0 (G : St → Option Lf) : f12G0 := fun x0_0 x0_1 x0_2 => G (f12H0 x0_0 x0_1 x0_2)
noncomputable def f12S0  (g0 : f12G0) (x0_0 : List Int) (x0_1 : List Int) (x0_2 : Int) : Option Lf :=
 bif decide (x0_2 < zn x0_0.length) then
  bif inb x0_2 x0_0.length then
   bif inb x0_2 x0_1.length then
    bif x0_0.getD x0_2.toNat 0 != x0_1.getD x0_2.toNat 0 then
     some (Lf.mk [(Pt.one (L.d (Pv.fz true) Sh.b (false : Bool)))] [] [])
    else
     g0 (x0_0 : List Int) (x0_1 : List Int) (IntKind.i64.wrap (x0_2 + 1) : Int)
   else
    none
  else
   none
 else
  some (Lf.mk [(Pt.one (L.d (Pv.fz true) Sh.b (true : Bool)))] [] [])
noncomputable def f12L0 (n : Nat)  : Nat → f12G0
  | 0 => fun _ _ _ => none
  | m + 1 => fun x0_0 x0_1 x0_2 => f12S0   (f12L0 n  m) x0_0 x0_1 x0_2
theorem f12S0_ev (n : Nat)  (G : St → Option Lf) (x0_0 : List Int) (x0_1 : List Int) (x0_2 : Int) : rnd C1 f12h n Lf (codeOf f12f) [1, 1, 0, 1, 0] [] (endK C1 f12h f12f) G (f12H0 x0_0 x0_1 x0_2) = f12S0   (f12W0 G) x0_0 x0_1 x0_2 := by kernel_rfl
theorem f12W0_ev (n : Nat)  : ∀ m, (f12W0 (lp C1 f12h n Lf (codeOf f12f) [1, 1, 0, 1, 0] [] (endK C1 f12h f12f) m)) = f12L0 n  m := by
  intro m
  induction m with
  | zero => funext x0_0 x0_1 x0_2; exact lp_zero _
  | succ m ih =>
    funext x0_0 x0_1 x0_2
    show lp C1 f12h n Lf (codeOf f12f) [1, 1, 0, 1, 0] [] (endK C1 f12h f12f) (m + 1) (f12H0 x0_0 x0_1 x0_2) = f12S0   (f12L0 n  m) x0_0 x0_1 x0_2
    rw [lp_succ, f12S0_ev, ih]
noncomputable def f12T (l0 : f12G0) (a : List Int) (b : List Int) : Option Lf :=
 bif zn a.length != zn b.length then
  some (Lf.mk [(Pt.one (L.d (Pv.fz true) Sh.b (false : Bool)))] [] [])
 else
  l0 (a : List Int) (b : List Int) (0 : Int)
noncomputable def f12M (n : Nat) (a : List Int) (b : List Int) : Option Lf := f12T (f12L0 n n) a b
theorem f12T_ev (n : Nat) (a : List Int) (b : List Int) : evF C1 f12h n f12f [(D.p (Pt.one (L.d (Pv.fz false) (Sh.l (Sh.i IntKind.i32)) a))), (D.p (Pt.one (L.d (Pv.fz false) (Sh.l (Sh.i IntKind.i32)) b)))] [] = f12T (f12W0 (lp C1 f12h n Lf (codeOf f12f) [1, 1, 0, 1, 0] [] (endK C1 f12h f12f) n)) a b := by kernel_rfl
theorem f12_ev (n : Nat) (a : List Int) (b : List Int) : evF C1 f12h n f12f [(D.p (Pt.one (L.d (Pv.fz false) (Sh.l (Sh.i IntKind.i32)) a))), (D.p (Pt.one (L.d (Pv.fz false) (Sh.l (Sh.i IntKind.i32)) b)))] [] = f12M n a b := by
  rw [f12T_ev, f12W0_ev]
  rfl

abbrev f5h : Hn := h5
noncomputable abbrev f5f : Func := fn 5
noncomputable def f5T   : Option Lf :=
 some (Lf.mk [(Pt.one (L.pv (Id.mk 1 0) 0))] [] [(Ob.va [(L.rw (Id.mk 1 1)), (L.d (Pv.fz true) (Sh.v 257 (Sh.i IntKind.i64)) ([0, 0, 0, 0, 0, 0, 0, 0, 0, 0, 0, 0, 0, 0, 0, 0, 0, 0, 0, 0, 0, 0, 0, 0, 0, 0, 0, 0, 0, 0, 0, 0, 0, 0, 0, 0, 0, 0, 0, 0, 0, 0, 0, 0, 0, 0, 0, 0, 0, 0, 0, 0, 0, 0, 0, 0, 0, 0, 0, 0, 0, 0, 0, 0, 0, 0, 0, 0, 0, 0, 0, 0, 0, 0, 0, 0, 0, 0, 0, 0, 0, 0, 0, 0, 0, 0, 0, 0, 0, 0, 0, 0, 0, 0, 0, 0, 0, 0, 0, 0, 0, 0, 0, 0, 0, 0, 0, 0, 0, 0, 0, 0, 0, 0, 0, 0, 0, 0, 0, 0, 0, 0, 0, 0, 0, 0, 0, 0, 0, 0, 0, 0, 0, 0, 0, 0, 0, 0, 0, 0, 0, 0, 0, 0, 0, 0, 0, 0, 0, 0, 0, 0, 0, 0, 0, 0, 0, 0, 0, 0, 0, 0, 0, 0, 0, 0, 0, 0, 0, 0, 0, 0, 0, 0, 0, 0, 0, 0, 0, 0, 0, 0, 0, 0, 0, 0, 0, 0, 0, 0, 0, 0, 0, 0, 0, 0, 0, 0, 0, 0, 0, 0, 0, 0, 0, 0, 0, 0, 0, 0, 0, 0, 0, 0, 0, 0, 0, 0, 0, 0, 0, 0, 0, 0, 0, 0, 0, 0, 0, 0, 0, 0, 0, 0, 0, 0, 0, 0, 0, 0, 0, 0, 0, 0, 0, 0, 0, 0, 0, 0, 0, 0, 0, 0, 0, 0, 0] : List Int)), (L.rw (Id.mk 1 2))]), (Ob.ro true 0 26 (Sh.l (Sh.i IntKind.i32)) (Ow.l 21 Ow.z) ([] : List (List Int)) Option.none), (Ob.ro true 0 3 (Sh.i IntKind.i64) Ow.z ([] : List Int) Option.none)])
noncomputable def f5M (_ : Nat)  : Option Lf := f5T  
theorem f5T_ev (n : Nat)  : evF C1 f5h n f5f [] [] = f5T   := by kernel_rfl
theorem f5_ev (n : Nat)  : evF C1 f5h n f5f [] [] = f5M n  := by
  rw [f5T_ev]
  rfl

abbrev f10h : Hn := hn0
noncomputable abbrev f10f : Func := fn 10
noncomputable def f10T  (l : List (List Int)) (a : List Int) (b : List Int) : Option Lf :=
 some (Lf.mk [(Pt.one (L.d (Pv.fz true) (Sh.i IntKind.i64) (zn l.length : Int)))] [(Ob.va [(L.rw (Id.mk 0 1)), (L.d (Pv.fz true) (Sh.v 257 (Sh.i IntKind.i64)) (a : List Int)), (L.rw (Id.mk 0 2))]), (Ob.ro true 0 26 (Sh.l (Sh.i IntKind.i32)) (Ow.l 21 Ow.z) (l : List (List Int)) Option.none), (Ob.ro true 0 3 (Sh.i IntKind.i64) Ow.z (b : List Int) Option.none)] [])
noncomputable def f10M (_ : Nat) (l : List (List Int)) (a : List Int) (b : List Int) : Option Lf := f10T  l a b
theorem f10T_ev (n : Nat) (l : List (List Int)) (a : List Int) (b : List Int) : evF C1 f10h n f10f [(D.p (Pt.one (L.pv (Id.mk 0 0) 0)))] [(Ob.va [(L.rw (Id.mk 0 1)), (L.d (Pv.fz true) (Sh.v 257 (Sh.i IntKind.i64)) a), (L.rw (Id.mk 0 2))]), (Ob.ro true 0 26 (Sh.l (Sh.i IntKind.i32)) (Ow.l 21 Ow.z) l Option.none), (Ob.ro true 0 3 (Sh.i IntKind.i64) Ow.z b Option.none)] = f10T  l a b := by kernel_rfl
theorem f10_ev (n : Nat) (l : List (List Int)) (a : List Int) (b : List Int) : evF C1 f10h n f10f [(D.p (Pt.one (L.pv (Id.mk 0 0) 0)))] [(Ob.va [(L.rw (Id.mk 0 1)), (L.d (Pv.fz true) (Sh.v 257 (Sh.i IntKind.i64)) a), (L.rw (Id.mk 0 2))]), (Ob.ro true 0 26 (Sh.l (Sh.i IntKind.i32)) (Ow.l 21 Ow.z) l Option.none), (Ob.ro true 0 3 (Sh.i IntKind.i64) Ow.z b Option.none)] = f10M n l a b := by
  rw [f10T_ev]
  rfl
end Go.S2
