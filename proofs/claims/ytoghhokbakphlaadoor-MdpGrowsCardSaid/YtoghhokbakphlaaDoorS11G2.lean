/-
  Seat 11: functional forms: Support, Has, Ints, Index, Reach, Letters, One
-/
import Derived.Test.YtoghhokbakphlaaDoorS11C
open Go Go.En Go.S11
namespace Go.S11


abbrev f117h : Hn := h117
noncomputable abbrev f117f : Func := fn 17
abbrev f117G0 := (List (Int × Int × Unit)) → Int → Int → (List Int) → Option Lf
noncomputable def f117H0 (x0_0 : List (Int × Int × Unit)) (x0_1 : Int) (x0_2 : Int) (x0_3 : List Int) : St := (St.mk [dead, dead, dead, (D.p (Pt.one (L.rw (Id.mk 1 0)))), dead, dead, dead, (D.p (Pt.one (L.d (Pv.fz false) (Sh.l (Sh.p (Sh.i IntKind.i64) (Sh.p (Sh.i IntKind.i64) Sh.u))) x0_0))), (D.p (Pt.one (L.d (Pv.fz true) (Sh.i IntKind.i64) x0_1))), (D.p (Pt.one (L.d (Pv.fz true) (Sh.i IntKind.i64) x0_2))), dead, dead, dead, dead, dead, dead, dead, dead, dead, dead, dead, dead, dead] [[], [(Ob.ro true 0 3 (Sh.i IntKind.i64) Ow.z x0_3 Option.none)]])
noncomputable def f117W0 (G : St → Option Lf) : f117G0 := fun x0_0 x0_1 x0_2 x0_3 => G (f117H0 x0_0 x0_1 x0_2 x0_3)
noncomputable def f117S0  (g0 : f117G0) (x0_0 : List (Int × Int × Unit)) (x0_1 : Int) (x0_2 : Int) (x0_3 : List Int) : Option Lf :=
 bif decide (x0_2 < x0_1) then
  bif inb x0_2 x0_0.length then
   bif decide ((x0_3.length + [(x0_0.getD x0_2.toNat (0, 0, ())).fst].length) * 8 ≤ 140737488355328) then
    g0 (x0_0 : List (Int × Int × Unit)) (x0_1 : Int) (IntKind.i64.wrap (x0_2 + 1) : Int) (x0_3 ++ [(x0_0.getD x0_2.toNat (0, 0, ())).fst] : List Int)
   else
    none
  else
   none
 else
  bif x0_3.length.ble 1000000 then
   bif (x0_3.mergeSort fun (x y : Int) => decide (x ≤ y)).length.ble 1000000 then
    some (Lf.mk [(Pt.one (L.rw (Id.mk 1 0)))] [] [(Ob.ro true 0 3 (Sh.i IntKind.i64) Ow.z (List.take (Lib.compact (x0_3.mergeSort fun (x y : Int) => decide (x ≤ y))).length (Lib.compact (x0_3.mergeSort fun (x y : Int) => decide (x ≤ y)) ++ List.replicate ((x0_3.mergeSort fun (x y : Int) => decide (x ≤ y)).length - (Lib.compact (x0_3.mergeSort fun (x y : Int) => decide (x ≤ y))).length) 0) : List Int) Option.none)])
   else
    none
  else
   none
noncomputable def f117L0 (n : Nat)  : Nat → f117G0
  | 0 => fun _ _ _ _ => none
  | m + 1 => fun x0_0 x0_1 x0_2 x0_3 => f117S0   (f117L0 n  m) x0_0 x0_1 x0_2 x0_3
theorem f117S0_ev (n : Nat)  (G : St → Option Lf) (x0_0 : List (Int × Int × Unit)) (x0_1 : Int) (x0_2 : Int) (x0_3 : List Int) : rnd C11 f117h n Lf (codeOf f117f) [1, 1, 0, 1, 0] [] (endK C11 f117h f117f) G (f117H0 x0_0 x0_1 x0_2 x0_3) = f117S0   (f117W0 G) x0_0 x0_1 x0_2 x0_3 := by kernel_rfl
theorem f117W0_ev (n : Nat)  : ∀ m, (f117W0 (lp C11 f117h n Lf (codeOf f117f) [1, 1, 0, 1, 0] [] (endK C11 f117h f117f) m)) = f117L0 n  m := by
  intro m
  induction m with
  | zero => funext x0_0 x0_1 x0_2 x0_3; exact lp_zero _
  | succ m ih =>
    funext x0_0 x0_1 x0_2 x0_3
    show lp C11 f117h n Lf (codeOf f117f) [1, 1, 0, 1, 0] [] (endK C11 f117h f117f) (m + 1) (f117H0 x0_0 x0_1 x0_2 x0_3) = f117S0   (f117L0 n  m) x0_0 x0_1 x0_2 x0_3
    rw [lp_succ, f117S0_ev, ih]
noncomputable def f117T (l0 : f117G0) (a : ByteArray) (mv : List (Int × Int × Unit)) : Option Lf :=
 l0 (mv : List (Int × Int × Unit)) (zn mv.length : Int) (0 : Int) ([] : List Int)
noncomputable def f117M (n : Nat) (a : ByteArray) (mv : List (Int × Int × Unit)) : Option Lf := f117T (f117L0 n n) a mv
theorem f117T_ev (n : Nat) (a : ByteArray) (mv : List (Int × Int × Unit)) : evF C11 f117h n f117f [(D.p (Pt.agg [(L.d (Pv.fz true) Sh.s a), (L.d (Pv.fz false) (Sh.l (Sh.p (Sh.i IntKind.i64) (Sh.p (Sh.i IntKind.i64) Sh.u))) mv)]))] [] = f117T (f117W0 (lp C11 f117h n Lf (codeOf f117f) [1, 1, 0, 1, 0] [] (endK C11 f117h f117f) n)) a mv := by kernel_rfl
theorem f117_ev (n : Nat) (a : ByteArray) (mv : List (Int × Int × Unit)) : evF C11 f117h n f117f [(D.p (Pt.agg [(L.d (Pv.fz true) Sh.s a), (L.d (Pv.fz false) (Sh.l (Sh.p (Sh.i IntKind.i64) (Sh.p (Sh.i IntKind.i64) Sh.u))) mv)]))] [] = f117M n a mv := by
  rw [f117T_ev, f117W0_ev]
  rfl

abbrev f118h : Hn := h118
noncomputable abbrev f118f : Func := fn 18
abbrev f118G0 := Int → Int → ByteArray → (List (Int × Int × Unit)) → Option Lf
noncomputable def f118H0 (x0_0 : Int) (x0_1 : Int) (x0_2 : ByteArray) (x0_3 : List (Int × Int × Unit)) : St := (St.mk [dead, (D.p (Pt.one (L.d (Pv.fz true) (Sh.i IntKind.i64) x0_0))), (D.p (Pt.one (L.pv (Id.mk 1 0) 0))), dead, dead, (D.p (Pt.one (L.d (Pv.fz true) (Sh.i IntKind.i64) x0_1))), dead, dead, dead, dead, dead, dead, dead, dead, dead, dead, dead, dead, dead, dead, dead] [[], [(Ob.va [(L.d (Pv.fz true) Sh.s x0_2), (L.d (Pv.fz false) (Sh.l (Sh.p (Sh.i IntKind.i64) (Sh.p (Sh.i IntKind.i64) Sh.u))) x0_3)])]])
noncomputable def f118W0 (G : St → Option Lf) : f118G0 := fun x0_0 x0_1 x0_2 x0_3 => G (f118H0 x0_0 x0_1 x0_2 x0_3)
noncomputable def f118S0  (g0 : f118G0) (x0_0 : Int) (x0_1 : Int) (x0_2 : ByteArray) (x0_3 : List (Int × Int × Unit)) : Option Lf :=
 bif decide (x0_1 < zn x0_3.length) then
  bif inb x0_1 x0_3.length then
   bif (x0_3.getD x0_1.toNat (0, 0, ())).fst == x0_0 then
    some (Lf.mk [(Pt.one (L.d (Pv.fz true) Sh.b (true : Bool)))] [] [])
   else
    g0 (x0_0 : Int) (IntKind.i64.wrap (x0_1 + 1) : Int) (x0_2 : ByteArray) (x0_3 : List (Int × Int × Unit))
  else
   none
 else
  some (Lf.mk [(Pt.one (L.d (Pv.fz true) Sh.b (false : Bool)))] [] [])
noncomputable def f118L0 (n : Nat)  : Nat → f118G0
  | 0 => fun _ _ _ _ => none
  | m + 1 => fun x0_0 x0_1 x0_2 x0_3 => f118S0   (f118L0 n  m) x0_0 x0_1 x0_2 x0_3
theorem f118S0_ev (n : Nat)  (G : St → Option Lf) (x0_0 : Int) (x0_1 : Int) (x0_2 : ByteArray) (x0_3 : List (Int × Int × Unit)) : rnd C11 f118h n Lf (codeOf f118f) [1, 0, 1, 0] [] (endK C11 f118h f118f) G (f118H0 x0_0 x0_1 x0_2 x0_3) = f118S0   (f118W0 G) x0_0 x0_1 x0_2 x0_3 := by kernel_rfl
theorem f118W0_ev (n : Nat)  : ∀ m, (f118W0 (lp C11 f118h n Lf (codeOf f118f) [1, 0, 1, 0] [] (endK C11 f118h f118f) m)) = f118L0 n  m := by
  intro m
  induction m with
  | zero => funext x0_0 x0_1 x0_2 x0_3; exact lp_zero _
  | succ m ih =>
    funext x0_0 x0_1 x0_2 x0_3
    show lp C11 f118h n Lf (codeOf f118f) [1, 0, 1, 0] [] (endK C11 f118h f118f) (m + 1) (f118H0 x0_0 x0_1 x0_2 x0_3) = f118S0   (f118L0 n  m) x0_0 x0_1 x0_2 x0_3
    rw [lp_succ, f118S0_ev, ih]
noncomputable def f118T (l0 : f118G0) (a : ByteArray) (mv : List (Int × Int × Unit)) (t : Int) : Option Lf :=
 l0 (t : Int) (0 : Int) (a : ByteArray) (mv : List (Int × Int × Unit))
noncomputable def f118M (n : Nat) (a : ByteArray) (mv : List (Int × Int × Unit)) (t : Int) : Option Lf := f118T (f118L0 n n) a mv t
theorem f118T_ev (n : Nat) (a : ByteArray) (mv : List (Int × Int × Unit)) (t : Int) : evF C11 f118h n f118f [(D.p (Pt.agg [(L.d (Pv.fz true) Sh.s a), (L.d (Pv.fz false) (Sh.l (Sh.p (Sh.i IntKind.i64) (Sh.p (Sh.i IntKind.i64) Sh.u))) mv)])), (D.p (Pt.one (L.d (Pv.fz true) (Sh.i IntKind.i64) t)))] [] = f118T (f118W0 (lp C11 f118h n Lf (codeOf f118f) [1, 0, 1, 0] [] (endK C11 f118h f118f) n)) a mv t := by kernel_rfl
theorem f118_ev (n : Nat) (a : ByteArray) (mv : List (Int × Int × Unit)) (t : Int) : evF C11 f118h n f118f [(D.p (Pt.agg [(L.d (Pv.fz true) Sh.s a), (L.d (Pv.fz false) (Sh.l (Sh.p (Sh.i IntKind.i64) (Sh.p (Sh.i IntKind.i64) Sh.u))) mv)])), (D.p (Pt.one (L.d (Pv.fz true) (Sh.i IntKind.i64) t)))] [] = f118M n a mv t := by
  rw [f118T_ev, f118W0_ev]
  rfl

abbrev f115h : Hn := h115
noncomputable abbrev f115f : Func := fn 15
abbrev f115G0 := (List Int) → (List Int) → Int → Option Lf
noncomputable def f115H0 (x0_0 : List Int) (x0_1 : List Int) (x0_2 : Int) : St := (St.mk [(D.p (Pt.one (L.d (Pv.fz false) (Sh.l (Sh.i IntKind.i64)) x0_0))), (D.p (Pt.one (L.d (Pv.fz false) (Sh.l (Sh.i IntKind.i64)) x0_1))), dead, dead, dead, (D.p (Pt.one (L.d (Pv.fz true) (Sh.i IntKind.i64) x0_2))), dead, dead, dead, dead, dead, dead, dead, dead, dead, dead, dead, dead, dead, dead, dead, dead, dead, dead, dead, dead] [[], []])
noncomputable def f115W0 (G : St → Option Lf) : f115G0 := fun x0_0 x0_1 x0_2 => G (f115H0 x0_0 x0_1 x0_2)
noncomputable def f115S0  (g0 : f115G0) (x0_0 : List Int) (x0_1 : List Int) (x0_2 : Int) : Option Lf :=
 bif decide (x0_2 < zn x0_0.length) then
  bif inb x0_2 x0_0.length then
   bif inb x0_2 x0_1.length then
    bif x0_0.getD x0_2.toNat 0 != x0_1.getD x0_2.toNat 0 then
     some (Lf.mk [(Pt.one (L.d (Pv.fz true) Sh.b (false : Bool)))] [] [])
    else
     g0 (x0_0 : List Int) (x0_1 : List Int) (IntKind.i64.wrap (x0_2 + 1) : Int)
   else
    none
  else
   none
 else
  some (Lf.mk [(Pt.one (L.d (Pv.fz true) Sh.b (true : Bool)))] [] [])
noncomputable def f115L0 (n : Nat)  : Nat → f115G0
  | 0 => fun _ _ _ => none
  | m + 1 => fun x0_0 x0_1 x0_2 => f115S0   (f115L0 n  m) x0_0 x0_1 x0_2
theorem f115S0_ev (n : Nat)  (G : St → Option Lf) (x0_0 : List Int) (x0_1 : List Int) (x0_2 : Int) : rnd C11 f115h n Lf (codeOf f115f) [1, 1, 0, 1, 0] [] (endK C11 f115h f115f) G (f115H0 x0_0 x0_1 x0_2) = f115S0   (f115W0 G) x0_0 x0_1 x0_2 := by kernel_rfl
theorem f115W0_ev (n : Nat)  : ∀ m, (f115W0 (lp C11 f115h n Lf (codeOf f115f) [1, 1, 0, 1, 0] [] (endK C11 f115h f115f) m)) = f115L0 n  m := by
  intro m
  induction m with
  | zero => funext x0_0 x0_1 x0_2; exact lp_zero _
  | succ m ih =>
    funext x0_0 x0_1 x0_2
    show lp C11 f115h n Lf (codeOf f115f) [1, 1, 0, 1, 0] [] (endK C11 f115h f115f) (m + 1) (f115H0 x0_0 x0_1 x0_2) = f115S0   (f115L0 n  m) x0_0 x0_1 x0_2
    rw [lp_succ, f115S0_ev, ih]
noncomputable def f115T (l0 : f115G0) (a : List Int) (b : List Int) : Option Lf :=
 bif zn a.length != zn b.length then
  some (Lf.mk [(Pt.one (L.d (Pv.fz true) Sh.b (false : Bool)))] [] [])
 else
  l0 (a : List Int) (b : List Int) (0 : Int)
noncomputable def f115M (n : Nat) (a : List Int) (b : List Int) : Option Lf := f115T (f115L0 n n) a b
theorem f115T_ev (n : Nat) (a : List Int) (b : List Int) : evF C11 f115h n f115f [(D.p (Pt.one (L.d (Pv.fz false) (Sh.l (Sh.i IntKind.i64)) a))), (D.p (Pt.one (L.d (Pv.fz false) (Sh.l (Sh.i IntKind.i64)) b)))] [] = f115T (f115W0 (lp C11 f115h n Lf (codeOf f115f) [1, 1, 0, 1, 0] [] (endK C11 f115h f115f) n)) a b := by kernel_rfl
theorem f115_ev (n : Nat) (a : List Int) (b : List Int) : evF C11 f115h n f115f [(D.p (Pt.one (L.d (Pv.fz false) (Sh.l (Sh.i IntKind.i64)) a))), (D.p (Pt.one (L.d (Pv.fz false) (Sh.l (Sh.i IntKind.i64)) b)))] [] = f115M n a b := by
  rw [f115T_ev, f115W0_ev]
  rfl

abbrev f127h : Hn := h127
noncomputable abbrev f127f : Func := fn 27
abbrev f127G0 := (List ByteArray) → ByteArray → Int → Int → Option Lf
noncomputable def f127H0 (x0_0 : List ByteArray) (x0_1 : ByteArray) (x0_2 : Int) (x0_3 : Int) : St := (St.mk [(D.p (Pt.one (L.d (Pv.fz false) (Sh.l Sh.s) x0_0))), (D.p (Pt.one (L.d (Pv.fz true) Sh.s x0_1))), dead, dead, dead, dead, dead, (D.p (Pt.one (L.d (Pv.fz true) (Sh.i IntKind.i64) x0_2))), (D.p (Pt.one (L.d (Pv.fz true) (Sh.i IntKind.i64) x0_3))), dead, dead, dead, dead, dead, dead, dead, dead, dead, dead] [[], []])
noncomputable def f127W0 (G : St → Option Lf) : f127G0 := fun x0_0 x0_1 x0_2 x0_3 => G (f127H0 x0_0 x0_1 x0_2 x0_3)
noncomputable def f127S0  (g0 : f127G0) (x0_0 : List ByteArray) (x0_1 : ByteArray) (x0_2 : Int) (x0_3 : Int) : Option Lf :=
 bif decide (x0_3 < x0_2) then
  bif inb x0_3 x0_0.length then
   bif x0_1.toList == (x0_0.getD x0_3.toNat { data := #[] }).toList then
    some (Lf.mk [(Pt.one (L.d (Pv.fz true) (Sh.i IntKind.i64) (x0_3 : Int)))] [] [])
   else
    g0 (x0_0 : List ByteArray) (x0_1 : ByteArray) (x0_2 : Int) (IntKind.i64.wrap (x0_3 + 1) : Int)
  else
   none
 else
  some (Lf.mk [(Pt.one (L.d (Pv.fz true) (Sh.i IntKind.i64) (-1 : Int)))] [] [])
noncomputable def f127L0 (n : Nat)  : Nat → f127G0
  | 0 => fun _ _ _ _ => none
  | m + 1 => fun x0_0 x0_1 x0_2 x0_3 => f127S0   (f127L0 n  m) x0_0 x0_1 x0_2 x0_3
theorem f127S0_ev (n : Nat)  (G : St → Option Lf) (x0_0 : List ByteArray) (x0_1 : ByteArray) (x0_2 : Int) (x0_3 : Int) : rnd C1 f127h n Lf (codeOf f127f) [1, 0, 1, 0] [] (endK C1 f127h f127f) G (f127H0 x0_0 x0_1 x0_2 x0_3) = f127S0   (f127W0 G) x0_0 x0_1 x0_2 x0_3 := by kernel_rfl
theorem f127W0_ev (n : Nat)  : ∀ m, (f127W0 (lp C1 f127h n Lf (codeOf f127f) [1, 0, 1, 0] [] (endK C1 f127h f127f) m)) = f127L0 n  m := by
  intro m
  induction m with
  | zero => funext x0_0 x0_1 x0_2 x0_3; exact lp_zero _
  | succ m ih =>
    funext x0_0 x0_1 x0_2 x0_3
    show lp C1 f127h n Lf (codeOf f127f) [1, 0, 1, 0] [] (endK C1 f127h f127f) (m + 1) (f127H0 x0_0 x0_1 x0_2 x0_3) = f127S0   (f127L0 n  m) x0_0 x0_1 x0_2 x0_3
    rw [lp_succ, f127S0_ev, ih]
noncomputable def f127T (l0 : f127G0) (l : List ByteArray) (s : ByteArray) : Option Lf :=
 l0 (l : List ByteArray) (s : ByteArray) (zn l.length : Int) (0 : Int)
noncomputable def f127M (n : Nat) (l : List ByteArray) (s : ByteArray) : Option Lf := f127T (f127L0 n n) l s
theorem f127T_ev (n : Nat) (l : List ByteArray) (s : ByteArray) : evF C1 f127h n f127f [(D.p (Pt.one (L.d (Pv.fz false) (Sh.l Sh.s) l))), (D.p (Pt.one (L.d (Pv.fz true) Sh.s s)))] [] = f127T (f127W0 (lp C1 f127h n Lf (codeOf f127f) [1, 0, 1, 0] [] (endK C1 f127h f127f) n)) l s := by kernel_rfl
theorem f127_ev (n : Nat) (l : List ByteArray) (s : ByteArray) : evF C1 f127h n f127f [(D.p (Pt.one (L.d (Pv.fz false) (Sh.l Sh.s) l))), (D.p (Pt.one (L.d (Pv.fz true) Sh.s s)))] [] = f127M n l s := by
  rw [f127T_ev, f127W0_ev]
  rfl

abbrev f110h : Hn := h110
noncomputable abbrev f110f : Func := fn 10
abbrev f110G0 := Int → (List (List (ByteArray × List (Int × Int × Unit) × Unit))) → (List ByteArray) → (List (List Int)) → (List Bool) → (List Int) → (List Int) → Option Lf
noncomputable def f110H0 (x0_0 : Int) (x0_1 : List (List (ByteArray × List (Int × Int × Unit) × Unit))) (x0_2 : List ByteArray) (x0_3 : List (List Int)) (x0_4 : List Bool) (x0_5 : List Int) (x0_6 : List Int) : St := (St.mk [dead, (D.p (Pt.one (L.pv (Id.mk 1 0) 0))), dead, (D.p (Pt.one (L.rw (Id.mk 1 1)))), (D.p (Pt.one (L.rw (Id.mk 1 2)))), (D.p (Pt.one (L.rw (Id.mk 1 3)))), dead, dead, dead, dead, dead, dead, dead, dead, dead, dead, dead, dead, dead, dead, dead, dead, dead, dead, dead, dead, dead, dead, dead, dead, dead, dead, dead, dead, dead, dead, dead, dead, dead, dead, dead, dead, dead, dead, dead, dead, dead, dead, dead, dead, dead, dead, dead, dead, dead, dead, dead, dead, dead, dead, dead, dead, dead, dead, dead, dead, dead, dead, dead, dead, dead, dead, dead, dead, dead, dead, dead, dead, dead, dead] [[], [(Ob.va [(L.d (Pv.fz true) (Sh.i IntKind.i64) x0_0), (L.d (Pv.fz false) (Sh.l (Sh.l (Sh.p Sh.s (Sh.p (Sh.l (Sh.p (Sh.i IntKind.i64) (Sh.p (Sh.i IntKind.i64) Sh.u))) Sh.u)))) x0_1), (L.d (Pv.fz false) (Sh.l Sh.s) x0_2), (L.d (Pv.fz false) (Sh.l (Sh.l (Sh.i IntKind.i64))) x0_3)]), (Ob.ro true 0 4 Sh.b Ow.z x0_4 Option.none), (Ob.ro true 0 3 (Sh.i IntKind.i64) Ow.z x0_5 Option.none), (Ob.ro true 0 3 (Sh.i IntKind.i64) Ow.z x0_6 Option.none)]])
noncomputable def f110W0 (G : St → Option Lf) : f110G0 := fun x0_0 x0_1 x0_2 x0_3 x0_4 x0_5 x0_6 => G (f110H0 x0_0 x0_1 x0_2 x0_3 x0_4 x0_5 x0_6)
abbrev f110G1 := (List (ByteArray × List (Int × Int × Unit) × Unit)) → Int → Int → Int → (List (List (ByteArray × List (Int × Int × Unit) × Unit))) → (List ByteArray) → (List (List Int)) → (List Bool) → (List Int) → (List Int) → Option Lf
noncomputable def f110H1 (x1_0 : List (ByteArray × List (Int × Int × Unit) × Unit)) (x1_1 : Int) (x1_2 : Int) (x1_3 : Int) (x1_4 : List (List (ByteArray × List (Int × Int × Unit) × Unit))) (x1_5 : List ByteArray) (x1_6 : List (List Int)) (x1_7 : List Bool) (x1_8 : List Int) (x1_9 : List Int) : St := (St.mk [dead, (D.p (Pt.one (L.pv (Id.mk 1 0) 0))), dead, (D.p (Pt.one (L.rw (Id.mk 1 1)))), (D.p (Pt.one (L.rw (Id.mk 1 2)))), (D.p (Pt.one (L.rw (Id.mk 1 3)))), dead, dead, dead, dead, dead, dead, dead, dead, dead, dead, dead, dead, dead, dead, dead, dead, dead, dead, dead, dead, dead, dead, dead, dead, dead, dead, dead, dead, dead, dead, dead, dead, dead, dead, dead, dead, dead, dead, dead, dead, dead, (D.p (Pt.one (L.d (Pv.fz false) (Sh.l (Sh.p Sh.s (Sh.p (Sh.l (Sh.p (Sh.i IntKind.i64) (Sh.p (Sh.i IntKind.i64) Sh.u))) Sh.u))) x1_0))), (D.p (Pt.one (L.d (Pv.fz true) (Sh.i IntKind.i64) x1_1))), (D.p (Pt.one (L.d (Pv.fz true) (Sh.i IntKind.i64) x1_2))), dead, dead, dead, dead, dead, dead, dead, dead, dead, dead, dead, dead, dead, dead, dead, dead, dead, dead, dead, dead, dead, dead, dead, dead, dead, dead, dead, dead, dead, dead] [[], [(Ob.va [(L.d (Pv.fz true) (Sh.i IntKind.i64) x1_3), (L.d (Pv.fz false) (Sh.l (Sh.l (Sh.p Sh.s (Sh.p (Sh.l (Sh.p (Sh.i IntKind.i64) (Sh.p (Sh.i IntKind.i64) Sh.u))) Sh.u)))) x1_4), (L.d (Pv.fz false) (Sh.l Sh.s) x1_5), (L.d (Pv.fz false) (Sh.l (Sh.l (Sh.i IntKind.i64))) x1_6)]), (Ob.ro true 0 4 Sh.b Ow.z x1_7 Option.none), (Ob.ro true 0 3 (Sh.i IntKind.i64) Ow.z x1_8 Option.none), (Ob.ro true 0 3 (Sh.i IntKind.i64) Ow.z x1_9 Option.none)]])
noncomputable def f110W1 (G : St → Option Lf) : f110G1 := fun x1_0 x1_1 x1_2 x1_3 x1_4 x1_5 x1_6 x1_7 x1_8 x1_9 => G (f110H1 x1_0 x1_1 x1_2 x1_3 x1_4 x1_5 x1_6 x1_7 x1_8 x1_9)
abbrev f110G2 := (List (ByteArray × List (Int × Int × Unit) × Unit)) → Int → Int → (List (Int × Int × Unit)) → Int → Int → Int → (List (List (ByteArray × List (Int × Int × Unit) × Unit))) → (List ByteArray) → (List (List Int)) → (List Bool) → (List Int) → (List Int) → Option Lf
noncomputable def f110H2 (x2_0 : List (ByteArray × List (Int × Int × Unit) × Unit)) (x2_1 : Int) (x2_2 : Int) (x2_3 : List (Int × Int × Unit)) (x2_4 : Int) (x2_5 : Int) (x2_6 : Int) (x2_7 : List (List (ByteArray × List (Int × Int × Unit) × Unit))) (x2_8 : List ByteArray) (x2_9 : List (List Int)) (x2_10 : List Bool) (x2_11 : List Int) (x2_12 : List Int) : St := (St.mk [dead, (D.p (Pt.one (L.pv (Id.mk 1 0) 0))), dead, (D.p (Pt.one (L.rw (Id.mk 1 1)))), (D.p (Pt.one (L.rw (Id.mk 1 2)))), (D.p (Pt.one (L.rw (Id.mk 1 3)))), dead, dead, dead, dead, dead, dead, dead, dead, dead, dead, dead, dead, dead, dead, dead, dead, dead, dead, dead, dead, dead, dead, dead, dead, dead, dead, dead, dead, dead, dead, dead, dead, dead, dead, dead, dead, dead, dead, dead, dead, dead, (D.p (Pt.one (L.d (Pv.fz false) (Sh.l (Sh.p Sh.s (Sh.p (Sh.l (Sh.p (Sh.i IntKind.i64) (Sh.p (Sh.i IntKind.i64) Sh.u))) Sh.u))) x2_0))), (D.p (Pt.one (L.d (Pv.fz true) (Sh.i IntKind.i64) x2_1))), (D.p (Pt.one (L.d (Pv.fz true) (Sh.i IntKind.i64) x2_2))), dead, dead, dead, dead, (D.p (Pt.one (L.d (Pv.fz false) (Sh.l (Sh.p (Sh.i IntKind.i64) (Sh.p (Sh.i IntKind.i64) Sh.u))) x2_3))), (D.p (Pt.one (L.d (Pv.fz true) (Sh.i IntKind.i64) x2_4))), (D.p (Pt.one (L.d (Pv.fz true) (Sh.i IntKind.i64) x2_5))), dead, dead, dead, dead, dead, dead, dead, dead, dead, dead, dead, dead, dead, dead, dead, dead, dead, dead, dead, dead, dead, dead, dead] [[], [(Ob.va [(L.d (Pv.fz true) (Sh.i IntKind.i64) x2_6), (L.d (Pv.fz false) (Sh.l (Sh.l (Sh.p Sh.s (Sh.p (Sh.l (Sh.p (Sh.i IntKind.i64) (Sh.p (Sh.i IntKind.i64) Sh.u))) Sh.u)))) x2_7), (L.d (Pv.fz false) (Sh.l Sh.s) x2_8), (L.d (Pv.fz false) (Sh.l (Sh.l (Sh.i IntKind.i64))) x2_9)]), (Ob.ro true 0 4 Sh.b Ow.z x2_10 Option.none), (Ob.ro true 0 3 (Sh.i IntKind.i64) Ow.z x2_11 Option.none), (Ob.ro true 0 3 (Sh.i IntKind.i64) Ow.z x2_12 Option.none)]])
noncomputable def f110W2 (G : St → Option Lf) : f110G2 := fun x2_0 x2_1 x2_2 x2_3 x2_4 x2_5 x2_6 x2_7 x2_8 x2_9 x2_10 x2_11 x2_12 => G (f110H2 x2_0 x2_1 x2_2 x2_3 x2_4 x2_5 x2_6 x2_7 x2_8 x2_9 x2_10 x2_11 x2_12)
noncomputable def f110S2  (g0 : f110G0) (g1 : f110G1) (g2 : f110G2) (x2_0 : List (ByteArray × List (Int × Int × Unit) × Unit)) (x2_1 : Int) (x2_2 : Int) (x2_3 : List (Int × Int × Unit)) (x2_4 : Int) (x2_5 : Int) (x2_6 : Int) (x2_7 : List (List (ByteArray × List (Int × Int × Unit) × Unit))) (x2_8 : List ByteArray) (x2_9 : List (List Int)) (x2_10 : List Bool) (x2_11 : List Int) (x2_12 : List Int) : Option Lf :=
 bif decide (x2_5 < x2_4) then
  bif inb x2_5 x2_3.length then
   bif inb (x2_3.getD x2_5.toNat (0, 0, ())).fst x2_10.length then
    bif !x2_10.getD (x2_3.getD x2_5.toNat (0, 0, ())).fst.toNat false then
     bif inb (x2_3.getD x2_5.toNat (0, 0, ())).fst x2_10.length then
      bif decide ((x2_11.length + [(x2_3.getD x2_5.toNat (0, 0, ())).fst].length) * 8 ≤ 140737488355328) then
       g2 (x2_0 : List (ByteArray × List (Int × Int × Unit) × Unit)) (x2_1 : Int) (x2_2 : Int) (x2_3 : List (Int × Int × Unit)) (x2_4 : Int) (IntKind.i64.wrap (x2_5 + 1) : Int) (x2_6 : Int) (x2_7 : List (List (ByteArray × List (Int × Int × Unit) × Unit))) (x2_8 : List ByteArray) (x2_9 : List (List Int)) (x2_10.set (x2_3.getD x2_5.toNat (0, 0, ())).fst.toNat true : List Bool) (x2_11 ++ [(x2_3.getD x2_5.toNat (0, 0, ())).fst] : List Int) (x2_12 : List Int)
      else
       none
     else
      none
    else
     g2 (x2_0 : List (ByteArray × List (Int × Int × Unit) × Unit)) (x2_1 : Int) (x2_2 : Int) (x2_3 : List (Int × Int × Unit)) (x2_4 : Int) (IntKind.i64.wrap (x2_5 + 1) : Int) (x2_6 : Int) (x2_7 : List (List (ByteArray × List (Int × Int × Unit) × Unit))) (x2_8 : List ByteArray) (x2_9 : List (List Int)) (x2_10 : List Bool) (x2_11 : List Int) (x2_12 : List Int)
   else
    none
  else
   none
 else
  g1 (x2_0 : List (ByteArray × List (Int × Int × Unit) × Unit)) (x2_1 : Int) (IntKind.i64.wrap (x2_2 + 1) : Int) (x2_6 : Int) (x2_7 : List (List (ByteArray × List (Int × Int × Unit) × Unit))) (x2_8 : List ByteArray) (x2_9 : List (List Int)) (x2_10 : List Bool) (x2_11 : List Int) (x2_12 : List Int)
noncomputable def f110L2 (n : Nat) (g0 : f110G0) (g1 : f110G1) : Nat → f110G2
  | 0 => fun _ _ _ _ _ _ _ _ _ _ _ _ _ => none
  | m + 1 => fun x2_0 x2_1 x2_2 x2_3 x2_4 x2_5 x2_6 x2_7 x2_8 x2_9 x2_10 x2_11 x2_12 => f110S2  g0 g1 (f110L2 n g0 g1 m) x2_0 x2_1 x2_2 x2_3 x2_4 x2_5 x2_6 x2_7 x2_8 x2_9 x2_10 x2_11 x2_12
theorem f110S2_ev (n : Nat) (G0 : St → Option Lf) (G1 : St → Option Lf) (G : St → Option Lf) (x2_0 : List (ByteArray × List (Int × Int × Unit) × Unit)) (x2_1 : Int) (x2_2 : Int) (x2_3 : List (Int × Int × Unit)) (x2_4 : Int) (x2_5 : Int) (x2_6 : Int) (x2_7 : List (List (ByteArray × List (Int × Int × Unit) × Unit))) (x2_8 : List ByteArray) (x2_9 : List (List Int)) (x2_10 : List Bool) (x2_11 : List Int) (x2_12 : List Int) : rnd C11 f110h n Lf (codeOf f110f) [1, 1, 1, 1, 1, 1, 0, 0, 0, 1, 0, 1, 1, 1, 1, 0, 0, 1, 1, 0, 0, 1, 1, 0] [G0, G1] (endK C11 f110h f110f) G (f110H2 x2_0 x2_1 x2_2 x2_3 x2_4 x2_5 x2_6 x2_7 x2_8 x2_9 x2_10 x2_11 x2_12) = f110S2  (f110W0 G0) (f110W1 G1) (f110W2 G) x2_0 x2_1 x2_2 x2_3 x2_4 x2_5 x2_6 x2_7 x2_8 x2_9 x2_10 x2_11 x2_12 := by kernel_rfl
theorem f110W2_ev (n : Nat) (G0 : St → Option Lf) (G1 : St → Option Lf) : ∀ m, (f110W2 (lp C11 f110h n Lf (codeOf f110f) [1, 1, 1, 1, 1, 1, 0, 0, 0, 1, 0, 1, 1, 1, 1, 0, 0, 1, 1, 0, 0, 1, 1, 0] [G0, G1] (endK C11 f110h f110f) m)) = f110L2 n (f110W0 G0) (f110W1 G1) m := by
  intro m
  induction m with
  | zero => funext x2_0 x2_1 x2_2 x2_3 x2_4 x2_5 x2_6 x2_7 x2_8 x2_9 x2_10 x2_11 x2_12; exact lp_zero _
  | succ m ih =>
    funext x2_0 x2_1 x2_2 x2_3 x2_4 x2_5 x2_6 x2_7 x2_8 x2_9 x2_10 x2_11 x2_12
    show lp C11 f110h n Lf (codeOf f110f) [1, 1, 1, 1, 1, 1, 0, 0, 0, 1, 0, 1, 1, 1, 1, 0, 0, 1, 1, 0, 0, 1, 1, 0] [G0, G1] (endK C11 f110h f110f) (m + 1) (f110H2 x2_0 x2_1 x2_2 x2_3 x2_4 x2_5 x2_6 x2_7 x2_8 x2_9 x2_10 x2_11 x2_12) = f110S2  (f110W0 G0) (f110W1 G1) (f110L2 n (f110W0 G0) (f110W1 G1) m) x2_0 x2_1 x2_2 x2_3 x2_4 x2_5 x2_6 x2_7 x2_8 x2_9 x2_10 x2_11 x2_12
    rw [lp_succ, f110S2_ev, ih]
noncomputable def f110S1 (l2 : f110G2) (g0 : f110G0) (g1 : f110G1) (x1_0 : List (ByteArray × List (Int × Int × Unit) × Unit)) (x1_1 : Int) (x1_2 : Int) (x1_3 : Int) (x1_4 : List (List (ByteArray × List (Int × Int × Unit) × Unit))) (x1_5 : List ByteArray) (x1_6 : List (List Int)) (x1_7 : List Bool) (x1_8 : List Int) (x1_9 : List Int) : Option Lf :=
 bif decide (x1_2 < x1_1) then
  bif inb x1_2 x1_0.length then
   l2 (x1_0 : List (ByteArray × List (Int × Int × Unit) × Unit)) (x1_1 : Int) (x1_2 : Int) ((x1_0.getD x1_2.toNat ({ data := #[] }, [], ())).snd.fst : List (Int × Int × Unit)) (zn (x1_0.getD x1_2.toNat ({ data := #[] }, [], ())).snd.fst.length : Int) (0 : Int) (x1_3 : Int) (x1_4 : List (List (ByteArray × List (Int × Int × Unit) × Unit))) (x1_5 : List ByteArray) (x1_6 : List (List Int)) (x1_7 : List Bool) (x1_8 : List Int) (x1_9 : List Int)
  else
   none
 else
  g0 (x1_3 : Int) (x1_4 : List (List (ByteArray × List (Int × Int × Unit) × Unit))) (x1_5 : List ByteArray) (x1_6 : List (List Int)) (x1_7 : List Bool) (x1_8 : List Int) (x1_9 : List Int)
noncomputable def f110L1 (n : Nat) (g0 : f110G0) : Nat → f110G1
  | 0 => fun _ _ _ _ _ _ _ _ _ _ => none
  | m + 1 => fun x1_0 x1_1 x1_2 x1_3 x1_4 x1_5 x1_6 x1_7 x1_8 x1_9 => f110S1 (f110L2 n g0 (f110L1 n g0 m) n) g0 (f110L1 n g0 m) x1_0 x1_1 x1_2 x1_3 x1_4 x1_5 x1_6 x1_7 x1_8 x1_9
theorem f110S1_ev (n : Nat) (G0 : St → Option Lf) (G : St → Option Lf) (x1_0 : List (ByteArray × List (Int × Int × Unit) × Unit)) (x1_1 : Int) (x1_2 : Int) (x1_3 : Int) (x1_4 : List (List (ByteArray × List (Int × Int × Unit) × Unit))) (x1_5 : List ByteArray) (x1_6 : List (List Int)) (x1_7 : List Bool) (x1_8 : List Int) (x1_9 : List Int) : rnd C11 f110h n Lf (codeOf f110f) [1, 1, 1, 1, 1, 1, 0, 0, 0, 1, 0, 1, 1, 1, 1, 0] [G0] (endK C11 f110h f110f) G (f110H1 x1_0 x1_1 x1_2 x1_3 x1_4 x1_5 x1_6 x1_7 x1_8 x1_9) = f110S1 (f110W2 (lp C11 f110h n Lf (codeOf f110f) [1, 1, 1, 1, 1, 1, 0, 0, 0, 1, 0, 1, 1, 1, 1, 0, 0, 1, 1, 0, 0, 1, 1, 0] [G0, G] (endK C11 f110h f110f) n)) (f110W0 G0) (f110W1 G) x1_0 x1_1 x1_2 x1_3 x1_4 x1_5 x1_6 x1_7 x1_8 x1_9 := by kernel_rfl
theorem f110W1_ev (n : Nat) (G0 : St → Option Lf) : ∀ m, (f110W1 (lp C11 f110h n Lf (codeOf f110f) [1, 1, 1, 1, 1, 1, 0, 0, 0, 1, 0, 1, 1, 1, 1, 0] [G0] (endK C11 f110h f110f) m)) = f110L1 n (f110W0 G0) m := by
  intro m
  induction m with
  | zero => funext x1_0 x1_1 x1_2 x1_3 x1_4 x1_5 x1_6 x1_7 x1_8 x1_9; exact lp_zero _
  | succ m ih =>
    have e2 : (f110W2 (lp C11 f110h n Lf (codeOf f110f) [1, 1, 1, 1, 1, 1, 0, 0, 0, 1, 0, 1, 1, 1, 1, 0, 0, 1, 1, 0, 0, 1, 1, 0] [G0, (lp C11 f110h n Lf (codeOf f110f) [1, 1, 1, 1, 1, 1, 0, 0, 0, 1, 0, 1, 1, 1, 1, 0] [G0] (endK C11 f110h f110f) m)] (endK C11 f110h f110f) n)) = (f110L2 n (f110W0 G0) (f110L1 n (f110W0 G0) m) n) := by
      rw [f110W2_ev, ih]
    funext x1_0 x1_1 x1_2 x1_3 x1_4 x1_5 x1_6 x1_7 x1_8 x1_9
    show lp C11 f110h n Lf (codeOf f110f) [1, 1, 1, 1, 1, 1, 0, 0, 0, 1, 0, 1, 1, 1, 1, 0] [G0] (endK C11 f110h f110f) (m + 1) (f110H1 x1_0 x1_1 x1_2 x1_3 x1_4 x1_5 x1_6 x1_7 x1_8 x1_9) = f110S1 (f110L2 n (f110W0 G0) (f110L1 n (f110W0 G0) m) n) (f110W0 G0) (f110L1 n (f110W0 G0) m) x1_0 x1_1 x1_2 x1_3 x1_4 x1_5 x1_6 x1_7 x1_8 x1_9
    rw [lp_succ, f110S1_ev, ih, e2]
noncomputable def f110S0 (l1 : f110G1) (g0 : f110G0) (x0_0 : Int) (x0_1 : List (List (ByteArray × List (Int × Int × Unit) × Unit))) (x0_2 : List ByteArray) (x0_3 : List (List Int)) (x0_4 : List Bool) (x0_5 : List Int) (x0_6 : List Int) : Option Lf :=
 bif decide (zn x0_5.length > 0) then
  bif inb (IntKind.i64.wrap (zn x0_5.length - 1)) x0_5.length then
   bif inb2 0 (IntKind.i64.wrap (zn x0_5.length - 1)) x0_5.length then
    bif decide ((x0_6.length + [x0_5.getD (IntKind.i64.wrap (zn x0_5.length - 1)).toNat 0].length) * 8 ≤ 140737488355328) then
     bif inb (x0_5.getD (IntKind.i64.wrap (zn x0_5.length - 1)).toNat 0) x0_1.length then
      l1 (x0_1.getD (x0_5.getD (IntKind.i64.wrap (zn x0_5.length - 1)).toNat 0).toNat [] : List (ByteArray × List (Int × Int × Unit) × Unit)) (zn (x0_1.getD (x0_5.getD (IntKind.i64.wrap (zn x0_5.length - 1)).toNat 0).toNat []).length : Int) (0 : Int) (x0_0 : Int) (x0_1 : List (List (ByteArray × List (Int × Int × Unit) × Unit))) (x0_2 : List ByteArray) (x0_3 : List (List Int)) (x0_4 : List Bool) (List.take ((IntKind.i64.wrap (zn x0_5.length - 1)).toNat - 0) x0_5 : List Int) (x0_6 ++ [x0_5.getD (IntKind.i64.wrap (zn x0_5.length - 1)).toNat 0] : List Int)
     else
      none
    else
     none
   else
    none
  else
   none
 else
  bif x0_6.length.ble 1000000 then
   some (Lf.mk [(Pt.one (L.rw (Id.mk 1 0)))] [] [(Ob.ro true 0 3 (Sh.i IntKind.i64) Ow.z (x0_6.mergeSort fun (x y : Int) => decide (x ≤ y) : List Int) Option.none)])
  else
   none
noncomputable def f110L0 (n : Nat)  : Nat → f110G0
  | 0 => fun _ _ _ _ _ _ _ => none
  | m + 1 => fun x0_0 x0_1 x0_2 x0_3 x0_4 x0_5 x0_6 => f110S0 (f110L1 n (f110L0 n  m) n)  (f110L0 n  m) x0_0 x0_1 x0_2 x0_3 x0_4 x0_5 x0_6
theorem f110S0_ev (n : Nat)  (G : St → Option Lf) (x0_0 : Int) (x0_1 : List (List (ByteArray × List (Int × Int × Unit) × Unit))) (x0_2 : List ByteArray) (x0_3 : List (List Int)) (x0_4 : List Bool) (x0_5 : List Int) (x0_6 : List Int) : rnd C11 f110h n Lf (codeOf f110f) [1, 1, 1, 1, 1, 1, 0, 0] [] (endK C11 f110h f110f) G (f110H0 x0_0 x0_1 x0_2 x0_3 x0_4 x0_5 x0_6) = f110S0 (f110W1 (lp C11 f110h n Lf (codeOf f110f) [1, 1, 1, 1, 1, 1, 0, 0, 0, 1, 0, 1, 1, 1, 1, 0] [G] (endK C11 f110h f110f) n))  (f110W0 G) x0_0 x0_1 x0_2 x0_3 x0_4 x0_5 x0_6 := by kernel_rfl
theorem f110W0_ev (n : Nat)  : ∀ m, (f110W0 (lp C11 f110h n Lf (codeOf f110f) [1, 1, 1, 1, 1, 1, 0, 0] [] (endK C11 f110h f110f) m)) = f110L0 n  m := by
  intro m
  induction m with
  | zero => funext x0_0 x0_1 x0_2 x0_3 x0_4 x0_5 x0_6; exact lp_zero _
  | succ m ih =>
    have e1 : (f110W1 (lp C11 f110h n Lf (codeOf f110f) [1, 1, 1, 1, 1, 1, 0, 0, 0, 1, 0, 1, 1, 1, 1, 0] [(lp C11 f110h n Lf (codeOf f110f) [1, 1, 1, 1, 1, 1, 0, 0] [] (endK C11 f110h f110f) m)] (endK C11 f110h f110f) n)) = (f110L1 n (f110L0 n  m) n) := by
      rw [f110W1_ev, ih]
    funext x0_0 x0_1 x0_2 x0_3 x0_4 x0_5 x0_6
    show lp C11 f110h n Lf (codeOf f110f) [1, 1, 1, 1, 1, 1, 0, 0] [] (endK C11 f110h f110f) (m + 1) (f110H0 x0_0 x0_1 x0_2 x0_3 x0_4 x0_5 x0_6) = f110S0 (f110L1 n (f110L0 n  m) n)  (f110L0 n  m) x0_0 x0_1 x0_2 x0_3 x0_4 x0_5 x0_6
    rw [lp_succ, f110S0_ev, ih, e1]
noncomputable def f110T (l0 : f110G0) (i : Int) (ch : List (List (ByteArray × List (Int × Int × Unit) × Unit))) (nm : List ByteArray) (ho : List (List Int)) : Option Lf :=
 bif mdG ch nm ho then
  bif !(er1 (mdOk i ch nm ho)).isNil then
   some (Lf.mk [(Pt.one (L.rw (Id.mk 1 0)))] [] [(Ob.ro true 0 3 (Sh.i IntKind.i64) Ow.z ([] : List Int) Option.none)])
  else
   bif decide (0 ≤ zn ch.length) && (decide (zn ch.length ≤ zn ch.length) && decide (1 * (zn ch.length).toNat ≤ 140737488355328)) then
    bif inb i (List.replicate (zn ch.length).toNat false).length then
     l0 (i : Int) (ch : List (List (ByteArray × List (Int × Int × Unit) × Unit))) (nm : List ByteArray) (ho : List (List Int)) ((List.replicate (zn ch.length).toNat false).set i.toNat true : List Bool) ([i] : List Int) ([] : List Int)
    else
     none
   else
    none
 else
  none
noncomputable def f110M (n : Nat) (i : Int) (ch : List (List (ByteArray × List (Int × Int × Unit) × Unit))) (nm : List ByteArray) (ho : List (List Int)) : Option Lf := f110T (f110L0 n n) i ch nm ho
theorem f110T_ev (n : Nat) (i : Int) (ch : List (List (ByteArray × List (Int × Int × Unit) × Unit))) (nm : List ByteArray) (ho : List (List Int)) : evF C11 f110h n f110f [(D.p (Pt.agg [(L.d (Pv.fz true) (Sh.i IntKind.i64) i), (L.d (Pv.fz false) (Sh.l (Sh.l (Sh.p Sh.s (Sh.p (Sh.l (Sh.p (Sh.i IntKind.i64) (Sh.p (Sh.i IntKind.i64) Sh.u))) Sh.u)))) ch), (L.d (Pv.fz false) (Sh.l Sh.s) nm), (L.d (Pv.fz false) (Sh.l (Sh.l (Sh.i IntKind.i64))) ho)]))] [] = f110T (f110W0 (lp C11 f110h n Lf (codeOf f110f) [1, 1, 1, 1, 1, 1, 0, 0] [] (endK C11 f110h f110f) n)) i ch nm ho := by kernel_rfl
theorem f110_ev (n : Nat) (i : Int) (ch : List (List (ByteArray × List (Int × Int × Unit) × Unit))) (nm : List ByteArray) (ho : List (List Int)) : evF C11 f110h n f110f [(D.p (Pt.agg [(L.d (Pv.fz true) (Sh.i IntKind.i64) i), (L.d (Pv.fz false) (Sh.l (Sh.l (Sh.p Sh.s (Sh.p (Sh.l (Sh.p (Sh.i IntKind.i64) (Sh.p (Sh.i IntKind.i64) Sh.u))) Sh.u)))) ch), (L.d (Pv.fz false) (Sh.l Sh.s) nm), (L.d (Pv.fz false) (Sh.l (Sh.l (Sh.i IntKind.i64))) ho)]))] [] = f110M n i ch nm ho := by
  rw [f110T_ev, f110W0_ev]
  rfl

abbrev f116h : Hn := h116
noncomputable abbrev f116f : Func := fn 16
abbrev f116G0 := Bool → Int → (List (List (ByteArray × List (Int × Int × Unit) × Unit))) → (List ByteArray) → (List (List Int)) → (List Bool) → Option Lf
noncomputable def f116H0 (x0_0 : Bool) (x0_1 : Int) (x0_2 : List (List (ByteArray × List (Int × Int × Unit) × Unit))) (x0_3 : List ByteArray) (x0_4 : List (List Int)) (x0_5 : List Bool) : St := (St.mk [dead, (D.p (Pt.one (L.pv (Id.mk 1 0) 0))), dead, (D.p (Pt.one L.nl)), (D.p (Pt.one (L.rw (Id.mk 1 1)))), (D.p (Pt.one (L.d (Pv.fz true) Sh.b x0_0))), dead, dead, dead, dead, dead, dead, dead, dead, dead, dead, dead, dead, dead, dead, dead, dead, dead, dead, dead, dead, dead, dead, dead, dead, dead, dead, dead, dead, dead, dead, dead, dead, dead, dead, dead, dead, dead, dead, dead, dead, dead, dead, dead, dead, dead, dead, dead, dead, dead, dead, dead, dead, dead, dead, dead, dead, dead, dead, dead, dead, dead, dead, dead, dead, dead, dead, dead, dead, dead, dead, dead, dead, dead, dead, dead, dead, dead, dead, dead, dead, dead, dead, dead, dead, dead, dead, dead, dead, dead, dead, dead, dead, dead] [[], [(Ob.va [(L.d (Pv.fz true) (Sh.i IntKind.i64) x0_1), (L.d (Pv.fz false) (Sh.l (Sh.l (Sh.p Sh.s (Sh.p (Sh.l (Sh.p (Sh.i IntKind.i64) (Sh.p (Sh.i IntKind.i64) Sh.u))) Sh.u)))) x0_2), (L.d (Pv.fz false) (Sh.l Sh.s) x0_3), (L.d (Pv.fz false) (Sh.l (Sh.l (Sh.i IntKind.i64))) x0_4)]), (Ob.ro true 0 4 Sh.b Ow.z x0_5 Option.none)]])
noncomputable def f116W0 (G : St → Option Lf) : f116G0 := fun x0_0 x0_1 x0_2 x0_3 x0_4 x0_5 => G (f116H0 x0_0 x0_1 x0_2 x0_3 x0_4 x0_5)
abbrev f116G1 := Bool → Int → Int → (List (List (ByteArray × List (Int × Int × Unit) × Unit))) → (List ByteArray) → (List (List Int)) → (List Bool) → Option Lf
noncomputable def f116H1 (x1_0 : Bool) (x1_1 : Int) (x1_2 : Int) (x1_3 : List (List (ByteArray × List (Int × Int × Unit) × Unit))) (x1_4 : List ByteArray) (x1_5 : List (List Int)) (x1_6 : List Bool) : St := (St.mk [dead, (D.p (Pt.one (L.pv (Id.mk 1 0) 0))), dead, (D.p (Pt.one L.nl)), (D.p (Pt.one (L.rw (Id.mk 1 1)))), (D.p (Pt.one (L.d (Pv.fz true) Sh.b x1_0))), (D.p (Pt.one (L.d (Pv.fz true) (Sh.i IntKind.i64) x1_1))), dead, dead, dead, dead, dead, dead, dead, dead, dead, dead, dead, dead, dead, dead, dead, dead, dead, dead, dead, dead, dead, dead, dead, dead, dead, dead, dead, dead, dead, dead, dead, dead, dead, dead, dead, dead, dead, dead, dead, dead, dead, dead, dead, dead, dead, dead, dead, dead, dead, dead, dead, dead, dead, dead, dead, dead, dead, dead, dead, dead, dead, dead, dead, dead, dead, dead, dead, dead, dead, dead, dead, dead, dead, dead, dead, dead, dead, dead, dead, dead, dead, dead, dead, dead, dead, dead, dead, dead, dead, dead, dead, dead] [[], [(Ob.va [(L.d (Pv.fz true) (Sh.i IntKind.i64) x1_2), (L.d (Pv.fz false) (Sh.l (Sh.l (Sh.p Sh.s (Sh.p (Sh.l (Sh.p (Sh.i IntKind.i64) (Sh.p (Sh.i IntKind.i64) Sh.u))) Sh.u)))) x1_3), (L.d (Pv.fz false) (Sh.l Sh.s) x1_4), (L.d (Pv.fz false) (Sh.l (Sh.l (Sh.i IntKind.i64))) x1_5)]), (Ob.ro true 0 4 Sh.b Ow.z x1_6 Option.none)]])
noncomputable def f116W1 (G : St → Option Lf) : f116G1 := fun x1_0 x1_1 x1_2 x1_3 x1_4 x1_5 x1_6 => G (f116H1 x1_0 x1_1 x1_2 x1_3 x1_4 x1_5 x1_6)
abbrev f116G2 := Bool → Int → Int → Int → (List (List (ByteArray × List (Int × Int × Unit) × Unit))) → (List ByteArray) → (List (List Int)) → (List Bool) → Option Lf
noncomputable def f116H2 (x2_0 : Bool) (x2_1 : Int) (x2_2 : Int) (x2_3 : Int) (x2_4 : List (List (ByteArray × List (Int × Int × Unit) × Unit))) (x2_5 : List ByteArray) (x2_6 : List (List Int)) (x2_7 : List Bool) : St := (St.mk [dead, (D.p (Pt.one (L.pv (Id.mk 1 0) 0))), dead, (D.p (Pt.one L.nl)), (D.p (Pt.one (L.rw (Id.mk 1 1)))), (D.p (Pt.one (L.d (Pv.fz true) Sh.b x2_0))), (D.p (Pt.one (L.d (Pv.fz true) (Sh.i IntKind.i64) x2_1))), (D.p (Pt.one (L.d (Pv.fz true) (Sh.i IntKind.i64) x2_2))), dead, dead, dead, dead, dead, dead, dead, dead, dead, dead, dead, dead, dead, dead, dead, dead, dead, dead, dead, dead, dead, dead, dead, dead, dead, dead, dead, dead, dead, dead, dead, dead, dead, dead, dead, dead, dead, dead, dead, dead, dead, dead, dead, dead, dead, dead, dead, dead, dead, dead, dead, dead, dead, dead, dead, dead, dead, dead, dead, dead, dead, dead, dead, dead, dead, dead, dead, dead, dead, dead, dead, dead, dead, dead, dead, dead, dead, dead, dead, dead, dead, dead, dead, dead, dead, dead, dead, dead, dead, dead, dead] [[], [(Ob.va [(L.d (Pv.fz true) (Sh.i IntKind.i64) x2_3), (L.d (Pv.fz false) (Sh.l (Sh.l (Sh.p Sh.s (Sh.p (Sh.l (Sh.p (Sh.i IntKind.i64) (Sh.p (Sh.i IntKind.i64) Sh.u))) Sh.u)))) x2_4), (L.d (Pv.fz false) (Sh.l Sh.s) x2_5), (L.d (Pv.fz false) (Sh.l (Sh.l (Sh.i IntKind.i64))) x2_6)]), (Ob.ro true 0 4 Sh.b Ow.z x2_7 Option.none)]])
noncomputable def f116W2 (G : St → Option Lf) : f116G2 := fun x2_0 x2_1 x2_2 x2_3 x2_4 x2_5 x2_6 x2_7 => G (f116H2 x2_0 x2_1 x2_2 x2_3 x2_4 x2_5 x2_6 x2_7)
abbrev f116G3 := Bool → Int → Int → Int → Int → (List (List (ByteArray × List (Int × Int × Unit) × Unit))) → (List ByteArray) → (List (List Int)) → (List Bool) → Option Lf
noncomputable def f116H3 (x3_0 : Bool) (x3_1 : Int) (x3_2 : Int) (x3_3 : Int) (x3_4 : Int) (x3_5 : List (List (ByteArray × List (Int × Int × Unit) × Unit))) (x3_6 : List ByteArray) (x3_7 : List (List Int)) (x3_8 : List Bool) : St := (St.mk [dead, (D.p (Pt.one (L.pv (Id.mk 1 0) 0))), dead, (D.p (Pt.one L.nl)), (D.p (Pt.one (L.rw (Id.mk 1 1)))), (D.p (Pt.one (L.d (Pv.fz true) Sh.b x3_0))), (D.p (Pt.one (L.d (Pv.fz true) (Sh.i IntKind.i64) x3_1))), (D.p (Pt.one (L.d (Pv.fz true) (Sh.i IntKind.i64) x3_2))), (D.p (Pt.one (L.d (Pv.fz true) (Sh.i IntKind.i64) x3_3))), dead, dead, dead, dead, dead, dead, dead, dead, dead, dead, dead, dead, dead, dead, dead, dead, dead, dead, dead, dead, dead, dead, dead, dead, dead, dead, dead, dead, dead, dead, dead, dead, dead, dead, dead, dead, dead, dead, dead, dead, dead, dead, dead, dead, dead, dead, dead, dead, dead, dead, dead, dead, dead, dead, dead, dead, dead, dead, dead, dead, dead, dead, dead, dead, dead, dead, dead, dead, dead, dead, dead, dead, dead, dead, dead, dead, dead, dead, dead, dead, dead, dead, dead, dead, dead, dead, dead, dead, dead, dead] [[], [(Ob.va [(L.d (Pv.fz true) (Sh.i IntKind.i64) x3_4), (L.d (Pv.fz false) (Sh.l (Sh.l (Sh.p Sh.s (Sh.p (Sh.l (Sh.p (Sh.i IntKind.i64) (Sh.p (Sh.i IntKind.i64) Sh.u))) Sh.u)))) x3_5), (L.d (Pv.fz false) (Sh.l Sh.s) x3_6), (L.d (Pv.fz false) (Sh.l (Sh.l (Sh.i IntKind.i64))) x3_7)]), (Ob.ro true 0 4 Sh.b Ow.z x3_8 Option.none)]])
noncomputable def f116W3 (G : St → Option Lf) : f116G3 := fun x3_0 x3_1 x3_2 x3_3 x3_4 x3_5 x3_6 x3_7 x3_8 => G (f116H3 x3_0 x3_1 x3_2 x3_3 x3_4 x3_5 x3_6 x3_7 x3_8)
noncomputable def f116S3  (g0 : f116G0) (g1 : f116G1) (g2 : f116G2) (g3 : f116G3) (x3_0 : Bool) (x3_1 : Int) (x3_2 : Int) (x3_3 : Int) (x3_4 : Int) (x3_5 : List (List (ByteArray × List (Int × Int × Unit) × Unit))) (x3_6 : List ByteArray) (x3_7 : List (List Int)) (x3_8 : List Bool) : Option Lf :=
 bif inb x3_1 x3_5.length then
  bif inb x3_2 (x3_5.getD x3_1.toNat []).length then
   bif decide (x3_3 < zn ((x3_5.getD x3_1.toNat []).getD x3_2.toNat ({ data := #[] }, [], ())).snd.fst.length) then
    bif inb x3_1 x3_5.length then
     bif inb x3_2 (x3_5.getD x3_1.toNat []).length then
      bif inb x3_3 ((x3_5.getD x3_1.toNat []).getD x3_2.toNat ({ data := #[] }, [], ())).snd.fst.length then
       bif x3_0 || Nat.beq 1 1 && (inb (((x3_5.getD x3_1.toNat []).getD x3_2.toNat ({ data := #[] }, [], ())).snd.fst.getD x3_3.toNat (0, 0, ())).fst x3_8.length && true) then
        bif inb (((x3_5.getD x3_1.toNat []).getD x3_2.toNat ({ data := #[] }, [], ())).snd.fst.getD x3_3.toNat (0, 0, ())).fst x3_8.length then
         g3 (x3_0 || !x3_8.getD (((x3_5.getD x3_1.toNat []).getD x3_2.toNat ({ data := #[] }, [], ())).snd.fst.getD x3_3.toNat (0, 0, ())).fst.toNat false : Bool) (x3_1 : Int) (x3_2 : Int) (IntKind.i64.wrap (x3_3 + 1) : Int) (x3_4 : Int) (x3_5 : List (List (ByteArray × List (Int × Int × Unit) × Unit))) (x3_6 : List ByteArray) (x3_7 : List (List Int)) (x3_8.set (((x3_5.getD x3_1.toNat []).getD x3_2.toNat ({ data := #[] }, [], ())).snd.fst.getD x3_3.toNat (0, 0, ())).fst.toNat true : List Bool)
        else
         none
       else
        none
      else
       none
     else
      none
    else
     none
   else
    g2 (x3_0 : Bool) (x3_1 : Int) (IntKind.i64.wrap (x3_2 + 1) : Int) (x3_4 : Int) (x3_5 : List (List (ByteArray × List (Int × Int × Unit) × Unit))) (x3_6 : List ByteArray) (x3_7 : List (List Int)) (x3_8 : List Bool)
  else
   none
 else
  none
noncomputable def f116L3 (n : Nat) (g0 : f116G0) (g1 : f116G1) (g2 : f116G2) : Nat → f116G3
  | 0 => fun _ _ _ _ _ _ _ _ _ => none
  | m + 1 => fun x3_0 x3_1 x3_2 x3_3 x3_4 x3_5 x3_6 x3_7 x3_8 => f116S3  g0 g1 g2 (f116L3 n g0 g1 g2 m) x3_0 x3_1 x3_2 x3_3 x3_4 x3_5 x3_6 x3_7 x3_8
theorem f116S3_ev (n : Nat) (G0 : St → Option Lf) (G1 : St → Option Lf) (G2 : St → Option Lf) (G : St → Option Lf) (x3_0 : Bool) (x3_1 : Int) (x3_2 : Int) (x3_3 : Int) (x3_4 : Int) (x3_5 : List (List (ByteArray × List (Int × Int × Unit) × Unit))) (x3_6 : List ByteArray) (x3_7 : List (List Int)) (x3_8 : List Bool) : rnd C11 f116h n Lf (codeOf f116f) [1, 1, 1, 1, 1, 0, 1, 0, 0, 1, 0, 1, 1, 0, 0, 1, 0, 0, 1, 0, 0, 1, 0, 0, 1, 0] [G0, G1, G2] (endK C11 f116h f116f) G (f116H3 x3_0 x3_1 x3_2 x3_3 x3_4 x3_5 x3_6 x3_7 x3_8) = f116S3  (f116W0 G0) (f116W1 G1) (f116W2 G2) (f116W3 G) x3_0 x3_1 x3_2 x3_3 x3_4 x3_5 x3_6 x3_7 x3_8 := by kernel_rfl
theorem f116W3_ev (n : Nat) (G0 : St → Option Lf) (G1 : St → Option Lf) (G2 : St → Option Lf) : ∀ m, (f116W3 (lp C11 f116h n Lf (codeOf f116f) [1, 1, 1, 1, 1, 0, 1, 0, 0, 1, 0, 1, 1, 0, 0, 1, 0, 0, 1, 0, 0, 1, 0, 0, 1, 0] [G0, G1, G2] (endK C11 f116h f116f) m)) = f116L3 n (f116W0 G0) (f116W1 G1) (f116W2 G2) m := by
  intro m
  induction m with
  | zero => funext x3_0 x3_1 x3_2 x3_3 x3_4 x3_5 x3_6 x3_7 x3_8; exact lp_zero _
  | succ m ih =>
    funext x3_0 x3_1 x3_2 x3_3 x3_4 x3_5 x3_6 x3_7 x3_8
    show lp C11 f116h n Lf (codeOf f116f) [1, 1, 1, 1, 1, 0, 1, 0, 0, 1, 0, 1, 1, 0, 0, 1, 0, 0, 1, 0, 0, 1, 0, 0, 1, 0] [G0, G1, G2] (endK C11 f116h f116f) (m + 1) (f116H3 x3_0 x3_1 x3_2 x3_3 x3_4 x3_5 x3_6 x3_7 x3_8) = f116S3  (f116W0 G0) (f116W1 G1) (f116W2 G2) (f116L3 n (f116W0 G0) (f116W1 G1) (f116W2 G2) m) x3_0 x3_1 x3_2 x3_3 x3_4 x3_5 x3_6 x3_7 x3_8
    rw [lp_succ, f116S3_ev, ih]
noncomputable def f116S2 (l3 : f116G3) (g0 : f116G0) (g1 : f116G1) (g2 : f116G2) (x2_0 : Bool) (x2_1 : Int) (x2_2 : Int) (x2_3 : Int) (x2_4 : List (List (ByteArray × List (Int × Int × Unit) × Unit))) (x2_5 : List ByteArray) (x2_6 : List (List Int)) (x2_7 : List Bool) : Option Lf :=
 bif Nat.beq 1 1 && (Nat.beq 1 1 && (inb x2_1 x2_4.length && (Nat.beq 1 1 && bif decide (x2_2 < zn (x2_4.getD x2_1.toNat []).length) then Nat.beq 1 1 && (inb x2_1 x2_7.length && true) else true))) then
  bif decide (x2_2 < zn (x2_4.getD x2_1.toNat []).length) && x2_7.getD x2_1.toNat false then
   l3 (x2_0 : Bool) (x2_1 : Int) (x2_2 : Int) (0 : Int) (x2_3 : Int) (x2_4 : List (List (ByteArray × List (Int × Int × Unit) × Unit))) (x2_5 : List ByteArray) (x2_6 : List (List Int)) (x2_7 : List Bool)
  else
   g1 (x2_0 : Bool) (IntKind.i64.wrap (x2_1 + 1) : Int) (x2_3 : Int) (x2_4 : List (List (ByteArray × List (Int × Int × Unit) × Unit))) (x2_5 : List ByteArray) (x2_6 : List (List Int)) (x2_7 : List Bool)
 else
  none
noncomputable def f116L2 (n : Nat) (g0 : f116G0) (g1 : f116G1) : Nat → f116G2
  | 0 => fun _ _ _ _ _ _ _ _ => none
  | m + 1 => fun x2_0 x2_1 x2_2 x2_3 x2_4 x2_5 x2_6 x2_7 => f116S2 (f116L3 n g0 g1 (f116L2 n g0 g1 m) n) g0 g1 (f116L2 n g0 g1 m) x2_0 x2_1 x2_2 x2_3 x2_4 x2_5 x2_6 x2_7
theorem f116S2_ev (n : Nat) (G0 : St → Option Lf) (G1 : St → Option Lf) (G : St → Option Lf) (x2_0 : Bool) (x2_1 : Int) (x2_2 : Int) (x2_3 : Int) (x2_4 : List (List (ByteArray × List (Int × Int × Unit) × Unit))) (x2_5 : List ByteArray) (x2_6 : List (List Int)) (x2_7 : List Bool) : rnd C11 f116h n Lf (codeOf f116f) [1, 1, 1, 1, 1, 0, 1, 0, 0, 1, 0, 1, 1, 0, 0, 1, 0, 0, 1, 0] [G0, G1] (endK C11 f116h f116f) G (f116H2 x2_0 x2_1 x2_2 x2_3 x2_4 x2_5 x2_6 x2_7) = f116S2 (f116W3 (lp C11 f116h n Lf (codeOf f116f) [1, 1, 1, 1, 1, 0, 1, 0, 0, 1, 0, 1, 1, 0, 0, 1, 0, 0, 1, 0, 0, 1, 0, 0, 1, 0] [G0, G1, G] (endK C11 f116h f116f) n)) (f116W0 G0) (f116W1 G1) (f116W2 G) x2_0 x2_1 x2_2 x2_3 x2_4 x2_5 x2_6 x2_7 := by kernel_rfl
theorem f116W2_ev (n : Nat) (G0 : St → Option Lf) (G1 : St → Option Lf) : ∀ m, (f116W2 (lp C11 f116h n Lf (codeOf f116f) [1, 1, 1, 1, 1, 0, 1, 0, 0, 1, 0, 1, 1, 0, 0, 1, 0, 0, 1, 0] [G0, G1] (endK C11 f116h f116f) m)) = f116L2 n (f116W0 G0) (f116W1 G1) m := by
  intro m
  induction m with
  | zero => funext x2_0 x2_1 x2_2 x2_3 x2_4 x2_5 x2_6 x2_7; exact lp_zero _
  | succ m ih =>
    have e3 : (f116W3 (lp C11 f116h n Lf (codeOf f116f) [1, 1, 1, 1, 1, 0, 1, 0, 0, 1, 0, 1, 1, 0, 0, 1, 0, 0, 1, 0, 0, 1, 0, 0, 1, 0] [G0, G1, (lp C11 f116h n Lf (codeOf f116f) [1, 1, 1, 1, 1, 0, 1, 0, 0, 1, 0, 1, 1, 0, 0, 1, 0, 0, 1, 0] [G0, G1] (endK C11 f116h f116f) m)] (endK C11 f116h f116f) n)) = (f116L3 n (f116W0 G0) (f116W1 G1) (f116L2 n (f116W0 G0) (f116W1 G1) m) n) := by
      rw [f116W3_ev, ih]
    funext x2_0 x2_1 x2_2 x2_3 x2_4 x2_5 x2_6 x2_7
    show lp C11 f116h n Lf (codeOf f116f) [1, 1, 1, 1, 1, 0, 1, 0, 0, 1, 0, 1, 1, 0, 0, 1, 0, 0, 1, 0] [G0, G1] (endK C11 f116h f116f) (m + 1) (f116H2 x2_0 x2_1 x2_2 x2_3 x2_4 x2_5 x2_6 x2_7) = f116S2 (f116L3 n (f116W0 G0) (f116W1 G1) (f116L2 n (f116W0 G0) (f116W1 G1) m) n) (f116W0 G0) (f116W1 G1) (f116L2 n (f116W0 G0) (f116W1 G1) m) x2_0 x2_1 x2_2 x2_3 x2_4 x2_5 x2_6 x2_7
    rw [lp_succ, f116S2_ev, ih, e3]
noncomputable def f116S1 (l2 : f116G2) (g0 : f116G0) (g1 : f116G1) (x1_0 : Bool) (x1_1 : Int) (x1_2 : Int) (x1_3 : List (List (ByteArray × List (Int × Int × Unit) × Unit))) (x1_4 : List ByteArray) (x1_5 : List (List Int)) (x1_6 : List Bool) : Option Lf :=
 bif decide (x1_1 < zn x1_6.length) then
  l2 (x1_0 : Bool) (x1_1 : Int) (0 : Int) (x1_2 : Int) (x1_3 : List (List (ByteArray × List (Int × Int × Unit) × Unit))) (x1_4 : List ByteArray) (x1_5 : List (List Int)) (x1_6 : List Bool)
 else
  g0 (x1_0 : Bool) (x1_2 : Int) (x1_3 : List (List (ByteArray × List (Int × Int × Unit) × Unit))) (x1_4 : List ByteArray) (x1_5 : List (List Int)) (x1_6 : List Bool)
noncomputable def f116L1 (n : Nat) (g0 : f116G0) : Nat → f116G1
  | 0 => fun _ _ _ _ _ _ _ => none
  | m + 1 => fun x1_0 x1_1 x1_2 x1_3 x1_4 x1_5 x1_6 => f116S1 (f116L2 n g0 (f116L1 n g0 m) n) g0 (f116L1 n g0 m) x1_0 x1_1 x1_2 x1_3 x1_4 x1_5 x1_6
theorem f116S1_ev (n : Nat) (G0 : St → Option Lf) (G : St → Option Lf) (x1_0 : Bool) (x1_1 : Int) (x1_2 : Int) (x1_3 : List (List (ByteArray × List (Int × Int × Unit) × Unit))) (x1_4 : List ByteArray) (x1_5 : List (List Int)) (x1_6 : List Bool) : rnd C11 f116h n Lf (codeOf f116f) [1, 1, 1, 1, 1, 0, 1, 0, 0, 1, 0, 1, 1, 0] [G0] (endK C11 f116h f116f) G (f116H1 x1_0 x1_1 x1_2 x1_3 x1_4 x1_5 x1_6) = f116S1 (f116W2 (lp C11 f116h n Lf (codeOf f116f) [1, 1, 1, 1, 1, 0, 1, 0, 0, 1, 0, 1, 1, 0, 0, 1, 0, 0, 1, 0] [G0, G] (endK C11 f116h f116f) n)) (f116W0 G0) (f116W1 G) x1_0 x1_1 x1_2 x1_3 x1_4 x1_5 x1_6 := by kernel_rfl
theorem f116W1_ev (n : Nat) (G0 : St → Option Lf) : ∀ m, (f116W1 (lp C11 f116h n Lf (codeOf f116f) [1, 1, 1, 1, 1, 0, 1, 0, 0, 1, 0, 1, 1, 0] [G0] (endK C11 f116h f116f) m)) = f116L1 n (f116W0 G0) m := by
  intro m
  induction m with
  | zero => funext x1_0 x1_1 x1_2 x1_3 x1_4 x1_5 x1_6; exact lp_zero _
  | succ m ih =>
    have e2 : (f116W2 (lp C11 f116h n Lf (codeOf f116f) [1, 1, 1, 1, 1, 0, 1, 0, 0, 1, 0, 1, 1, 0, 0, 1, 0, 0, 1, 0] [G0, (lp C11 f116h n Lf (codeOf f116f) [1, 1, 1, 1, 1, 0, 1, 0, 0, 1, 0, 1, 1, 0] [G0] (endK C11 f116h f116f) m)] (endK C11 f116h f116f) n)) = (f116L2 n (f116W0 G0) (f116L1 n (f116W0 G0) m) n) := by
      rw [f116W2_ev, ih]
    funext x1_0 x1_1 x1_2 x1_3 x1_4 x1_5 x1_6
    show lp C11 f116h n Lf (codeOf f116f) [1, 1, 1, 1, 1, 0, 1, 0, 0, 1, 0, 1, 1, 0] [G0] (endK C11 f116h f116f) (m + 1) (f116H1 x1_0 x1_1 x1_2 x1_3 x1_4 x1_5 x1_6) = f116S1 (f116L2 n (f116W0 G0) (f116L1 n (f116W0 G0) m) n) (f116W0 G0) (f116L1 n (f116W0 G0) m) x1_0 x1_1 x1_2 x1_3 x1_4 x1_5 x1_6
    rw [lp_succ, f116S1_ev, ih, e2]
abbrev f116G4 := Int → (List Int) → (List Bool) → Option Lf
noncomputable def f116H4 (x4_0 : Int) (x4_1 : List Int) (x4_2 : List Bool) : St := (St.mk [dead, dead, dead, (D.p (Pt.one (L.rw (Id.mk 1 0)))), (D.p (Pt.one (L.rw (Id.mk 1 1)))), dead, dead, dead, dead, dead, (D.p (Pt.one (L.d (Pv.fz true) (Sh.i IntKind.i64) x4_0))), dead, dead, dead, dead, dead, dead, dead, dead, dead, dead, dead, dead, dead, dead, dead, dead, dead, dead, dead, dead, dead, dead, dead, dead, dead, dead, dead, dead, dead, dead, dead, dead, dead, dead, dead, dead, dead, dead, dead, dead, dead, dead, dead, dead, dead, dead, dead, dead, dead, dead, dead, dead, dead, dead, dead, dead, dead, dead, dead, dead, dead, dead, dead, dead, dead, dead, dead, dead, dead, dead, dead, dead, dead, dead, dead, dead, dead, dead, dead, dead, dead, dead, dead, dead, dead, dead, dead, dead] [[], [(Ob.ro true 0 3 (Sh.i IntKind.i64) Ow.z x4_1 Option.none), (Ob.ro true 0 4 Sh.b Ow.z x4_2 Option.none)]])
noncomputable def f116W4 (G : St → Option Lf) : f116G4 := fun x4_0 x4_1 x4_2 => G (f116H4 x4_0 x4_1 x4_2)
noncomputable def f116S4  (g4 : f116G4) (x4_0 : Int) (x4_1 : List Int) (x4_2 : List Bool) : Option Lf :=
 bif decide (x4_0 < zn x4_2.length) then
  bif inb x4_0 x4_2.length then
   bif x4_2.getD x4_0.toNat false then
    bif decide ((x4_1.length + [x4_0].length) * 8 ≤ 140737488355328) then
     g4 (IntKind.i64.wrap (x4_0 + 1) : Int) (x4_1 ++ [x4_0] : List Int) (x4_2 : List Bool)
    else
     none
   else
    g4 (IntKind.i64.wrap (x4_0 + 1) : Int) (x4_1 : List Int) (x4_2 : List Bool)
  else
   none
 else
  some (Lf.mk [(Pt.one (L.rw (Id.mk 1 0)))] [] [(Ob.ro true 0 3 (Sh.i IntKind.i64) Ow.z (x4_1 : List Int) Option.none)])
noncomputable def f116L4 (n : Nat)  : Nat → f116G4
  | 0 => fun _ _ _ => none
  | m + 1 => fun x4_0 x4_1 x4_2 => f116S4   (f116L4 n  m) x4_0 x4_1 x4_2
theorem f116S4_ev (n : Nat)  (G : St → Option Lf) (x4_0 : Int) (x4_1 : List Int) (x4_2 : List Bool) : rnd C11 f116h n Lf (codeOf f116f) [1, 1, 1, 1, 1, 1, 0, 1, 0] [] (endK C11 f116h f116f) G (f116H4 x4_0 x4_1 x4_2) = f116S4   (f116W4 G) x4_0 x4_1 x4_2 := by kernel_rfl
theorem f116W4_ev (n : Nat)  : ∀ m, (f116W4 (lp C11 f116h n Lf (codeOf f116f) [1, 1, 1, 1, 1, 1, 0, 1, 0] [] (endK C11 f116h f116f) m)) = f116L4 n  m := by
  intro m
  induction m with
  | zero => funext x4_0 x4_1 x4_2; exact lp_zero _
  | succ m ih =>
    funext x4_0 x4_1 x4_2
    show lp C11 f116h n Lf (codeOf f116f) [1, 1, 1, 1, 1, 1, 0, 1, 0] [] (endK C11 f116h f116f) (m + 1) (f116H4 x4_0 x4_1 x4_2) = f116S4   (f116L4 n  m) x4_0 x4_1 x4_2
    rw [lp_succ, f116S4_ev, ih]
noncomputable def f116S0 (l1 : f116G1) (l4 : f116G4) (g0 : f116G0) (x0_0 : Bool) (x0_1 : Int) (x0_2 : List (List (ByteArray × List (Int × Int × Unit) × Unit))) (x0_3 : List ByteArray) (x0_4 : List (List Int)) (x0_5 : List Bool) : Option Lf :=
 bif x0_0 then
  l1 (false : Bool) (0 : Int) (x0_1 : Int) (x0_2 : List (List (ByteArray × List (Int × Int × Unit) × Unit))) (x0_3 : List ByteArray) (x0_4 : List (List Int)) (x0_5 : List Bool)
 else
  l4 (0 : Int) ([] : List Int) (x0_5 : List Bool)
noncomputable def f116L0 (n : Nat)  : Nat → f116G0
  | 0 => fun _ _ _ _ _ _ => none
  | m + 1 => fun x0_0 x0_1 x0_2 x0_3 x0_4 x0_5 => f116S0 (f116L1 n (f116L0 n  m) n) (f116L4 n  n)  (f116L0 n  m) x0_0 x0_1 x0_2 x0_3 x0_4 x0_5
theorem f116S0_ev (n : Nat)  (G : St → Option Lf) (x0_0 : Bool) (x0_1 : Int) (x0_2 : List (List (ByteArray × List (Int × Int × Unit) × Unit))) (x0_3 : List ByteArray) (x0_4 : List (List Int)) (x0_5 : List Bool) : rnd C11 f116h n Lf (codeOf f116f) [1, 1, 1, 1, 1, 0, 1, 0] [] (endK C11 f116h f116f) G (f116H0 x0_0 x0_1 x0_2 x0_3 x0_4 x0_5) = f116S0 (f116W1 (lp C11 f116h n Lf (codeOf f116f) [1, 1, 1, 1, 1, 0, 1, 0, 0, 1, 0, 1, 1, 0] [G] (endK C11 f116h f116f) n)) (f116W4 (lp C11 f116h n Lf (codeOf f116f) [1, 1, 1, 1, 1, 1, 0, 1, 0] [] (endK C11 f116h f116f) n))  (f116W0 G) x0_0 x0_1 x0_2 x0_3 x0_4 x0_5 := by kernel_rfl
theorem f116W0_ev (n : Nat)  : ∀ m, (f116W0 (lp C11 f116h n Lf (codeOf f116f) [1, 1, 1, 1, 1, 0, 1, 0] [] (endK C11 f116h f116f) m)) = f116L0 n  m := by
  intro m
  induction m with
  | zero => funext x0_0 x0_1 x0_2 x0_3 x0_4 x0_5; exact lp_zero _
  | succ m ih =>
    have e1 : (f116W1 (lp C11 f116h n Lf (codeOf f116f) [1, 1, 1, 1, 1, 0, 1, 0, 0, 1, 0, 1, 1, 0] [(lp C11 f116h n Lf (codeOf f116f) [1, 1, 1, 1, 1, 0, 1, 0] [] (endK C11 f116h f116f) m)] (endK C11 f116h f116f) n)) = (f116L1 n (f116L0 n  m) n) := by
      rw [f116W1_ev, ih]
    have e4 : (f116W4 (lp C11 f116h n Lf (codeOf f116f) [1, 1, 1, 1, 1, 1, 0, 1, 0] [] (endK C11 f116h f116f) n)) = (f116L4 n  n) := by
      rw [f116W4_ev]
    funext x0_0 x0_1 x0_2 x0_3 x0_4 x0_5
    show lp C11 f116h n Lf (codeOf f116f) [1, 1, 1, 1, 1, 0, 1, 0] [] (endK C11 f116h f116f) (m + 1) (f116H0 x0_0 x0_1 x0_2 x0_3 x0_4 x0_5) = f116S0 (f116L1 n (f116L0 n  m) n) (f116L4 n  n)  (f116L0 n  m) x0_0 x0_1 x0_2 x0_3 x0_4 x0_5
    rw [lp_succ, f116S0_ev, ih, e1, e4]
noncomputable def f116T (l0 : f116G0) (i : Int) (ch : List (List (ByteArray × List (Int × Int × Unit) × Unit))) (nm : List ByteArray) (ho : List (List Int)) : Option Lf :=
 bif mdG ch nm ho then
  bif !mdOk i ch nm ho then
   some (Lf.mk [(Pt.one (L.rw (Id.mk 1 0)))] [] [(Ob.ro true 0 3 (Sh.i IntKind.i64) Ow.z ([] : List Int) Option.none)])
  else
   bif decide (0 ≤ zn ch.length) && (decide (zn ch.length ≤ zn ch.length) && decide (1 * (zn ch.length).toNat ≤ 140737488355328)) then
    bif inb i (List.replicate (zn ch.length).toNat false).length then
     l0 (true : Bool) (i : Int) (ch : List (List (ByteArray × List (Int × Int × Unit) × Unit))) (nm : List ByteArray) (ho : List (List Int)) ((List.replicate (zn ch.length).toNat false).set i.toNat true : List Bool)
    else
     none
   else
    none
 else
  none
noncomputable def f116M (n : Nat) (i : Int) (ch : List (List (ByteArray × List (Int × Int × Unit) × Unit))) (nm : List ByteArray) (ho : List (List Int)) : Option Lf := f116T (f116L0 n n) i ch nm ho
theorem f116T_ev (n : Nat) (i : Int) (ch : List (List (ByteArray × List (Int × Int × Unit) × Unit))) (nm : List ByteArray) (ho : List (List Int)) : evF C11 f116h n f116f [(D.p (Pt.agg [(L.d (Pv.fz true) (Sh.i IntKind.i64) i), (L.d (Pv.fz false) (Sh.l (Sh.l (Sh.p Sh.s (Sh.p (Sh.l (Sh.p (Sh.i IntKind.i64) (Sh.p (Sh.i IntKind.i64) Sh.u))) Sh.u)))) ch), (L.d (Pv.fz false) (Sh.l Sh.s) nm), (L.d (Pv.fz false) (Sh.l (Sh.l (Sh.i IntKind.i64))) ho)]))] [] = f116T (f116W0 (lp C11 f116h n Lf (codeOf f116f) [1, 1, 1, 1, 1, 0, 1, 0] [] (endK C11 f116h f116f) n)) i ch nm ho := by kernel_rfl
theorem f116_ev (n : Nat) (i : Int) (ch : List (List (ByteArray × List (Int × Int × Unit) × Unit))) (nm : List ByteArray) (ho : List (List Int)) : evF C11 f116h n f116f [(D.p (Pt.agg [(L.d (Pv.fz true) (Sh.i IntKind.i64) i), (L.d (Pv.fz false) (Sh.l (Sh.l (Sh.p Sh.s (Sh.p (Sh.l (Sh.p (Sh.i IntKind.i64) (Sh.p (Sh.i IntKind.i64) Sh.u))) Sh.u)))) ch), (L.d (Pv.fz false) (Sh.l Sh.s) nm), (L.d (Pv.fz false) (Sh.l (Sh.l (Sh.i IntKind.i64))) ho)]))] [] = f116M n i ch nm ho := by
  rw [f116T_ev, f116W0_ev]
  rfl

abbrev f112h : Hn := h112
noncomputable abbrev f112f : Func := fn 12
abbrev f112G0 := (List ByteArray) → Int → Int → Int → (List (List (ByteArray × List (Int × Int × Unit) × Unit))) → (List ByteArray) → (List (List Int)) → (List Int) → Option Lf
noncomputable def f112H0 (x0_0 : List ByteArray) (x0_1 : Int) (x0_2 : Int) (x0_3 : Int) (x0_4 : List (List (ByteArray × List (Int × Int × Unit) × Unit))) (x0_5 : List ByteArray) (x0_6 : List (List Int)) (x0_7 : List Int) : St := (St.mk [dead, dead, (D.p (Pt.one (L.pv (Id.mk 1 0) 0))), dead, dead, dead, (D.p (Pt.one (L.rw (Id.mk 1 1)))), dead, dead, dead, dead, dead, dead, dead, dead, dead, dead, dead, dead, dead, dead, dead, dead, dead, dead, dead, dead, dead, dead, dead, dead, dead, dead, (D.p (Pt.one (L.d (Pv.fz false) (Sh.l Sh.s) x0_0))), (D.p (Pt.one (L.d (Pv.fz true) (Sh.i IntKind.i64) x0_1))), (D.p (Pt.one (L.d (Pv.fz true) (Sh.i IntKind.i64) x0_2))), dead, dead, dead, dead, dead, dead, dead, dead, dead, dead, dead, dead, dead, dead, dead, dead, dead, dead, dead, dead, dead, dead, dead, dead, dead, dead, dead, dead, dead, dead, dead, dead, dead, dead, dead, dead, dead, dead, dead, dead, dead, dead, dead, dead, dead, dead, dead, dead] [[], [(Ob.va [(L.d (Pv.fz true) (Sh.i IntKind.i64) x0_3), (L.d (Pv.fz false) (Sh.l (Sh.l (Sh.p Sh.s (Sh.p (Sh.l (Sh.p (Sh.i IntKind.i64) (Sh.p (Sh.i IntKind.i64) Sh.u))) Sh.u)))) x0_4), (L.d (Pv.fz false) (Sh.l Sh.s) x0_5), (L.d (Pv.fz false) (Sh.l (Sh.l (Sh.i IntKind.i64))) x0_6)]), (Ob.ro true 0 3 (Sh.i IntKind.i64) Ow.z x0_7 Option.none)]])
noncomputable def f112W0 (G : St → Option Lf) : f112G0 := fun x0_0 x0_1 x0_2 x0_3 x0_4 x0_5 x0_6 x0_7 => G (f112H0 x0_0 x0_1 x0_2 x0_3 x0_4 x0_5 x0_6 x0_7)
abbrev f112G1 := (List (List Int)) → Int → Int → (List Int) → (List Int) → Option Lf
noncomputable def f112H1 (x1_0 : List (List Int)) (x1_1 : Int) (x1_2 : Int) (x1_3 : List Int) (x1_4 : List Int) : St := (St.mk [dead, dead, dead, dead, dead, dead, (D.p (Pt.one (L.rw (Id.mk 1 0)))), dead, dead, dead, (D.p (Pt.one (L.rw (Id.mk 1 1)))), dead, dead, dead, dead, dead, dead, dead, dead, dead, dead, dead, dead, dead, dead, dead, dead, dead, dead, dead, dead, dead, dead, dead, dead, dead, dead, dead, dead, dead, dead, dead, dead, dead, dead, dead, dead, dead, dead, dead, dead, dead, dead, dead, dead, dead, dead, dead, (D.p (Pt.one (L.d (Pv.fz false) (Sh.l (Sh.l (Sh.i IntKind.i64))) x1_0))), (D.p (Pt.one (L.d (Pv.fz true) (Sh.i IntKind.i64) x1_1))), (D.p (Pt.one (L.d (Pv.fz true) (Sh.i IntKind.i64) x1_2))), dead, dead, dead, dead, dead, dead, dead, dead, dead, dead, dead, dead, dead, dead, dead, dead, dead, dead, dead, dead, dead, dead, dead] [[], [(Ob.ro true 0 3 (Sh.i IntKind.i64) Ow.z x1_3 Option.none), (Ob.ro true 0 3 (Sh.i IntKind.i64) Ow.z x1_4 Option.none)]])
noncomputable def f112W1 (G : St → Option Lf) : f112G1 := fun x1_0 x1_1 x1_2 x1_3 x1_4 => G (f112H1 x1_0 x1_1 x1_2 x1_3 x1_4)
abbrev f112G2 := Int → (List (List Int)) → Int → Int → (List Int) → Int → Int → (List Int) → (List Int) → Option Lf
noncomputable def f112H2 (x2_0 : Int) (x2_1 : List (List Int)) (x2_2 : Int) (x2_3 : Int) (x2_4 : List Int) (x2_5 : Int) (x2_6 : Int) (x2_7 : List Int) (x2_8 : List Int) : St := (St.mk [dead, dead, dead, dead, dead, dead, (D.p (Pt.one (L.rw (Id.mk 1 0)))), dead, dead, dead, (D.p (Pt.one (L.rw (Id.mk 1 1)))), (D.p (Pt.one (L.d (Pv.fz true) (Sh.i IntKind.i64) x2_0))), dead, dead, dead, dead, dead, dead, dead, dead, dead, dead, dead, dead, dead, dead, dead, dead, dead, dead, dead, dead, dead, dead, dead, dead, dead, dead, dead, dead, dead, dead, dead, dead, dead, dead, dead, dead, dead, dead, dead, dead, dead, dead, dead, dead, dead, dead, (D.p (Pt.one (L.d (Pv.fz false) (Sh.l (Sh.l (Sh.i IntKind.i64))) x2_1))), (D.p (Pt.one (L.d (Pv.fz true) (Sh.i IntKind.i64) x2_2))), (D.p (Pt.one (L.d (Pv.fz true) (Sh.i IntKind.i64) x2_3))), dead, dead, dead, dead, (D.p (Pt.one (L.d (Pv.fz false) (Sh.l (Sh.i IntKind.i64)) x2_4))), (D.p (Pt.one (L.d (Pv.fz true) (Sh.i IntKind.i64) x2_5))), (D.p (Pt.one (L.d (Pv.fz true) (Sh.i IntKind.i64) x2_6))), dead, dead, dead, dead, dead, dead, dead, dead, dead, dead, dead, dead, dead, dead, dead, dead] [[], [(Ob.ro true 0 3 (Sh.i IntKind.i64) Ow.z x2_7 Option.none), (Ob.ro true 0 3 (Sh.i IntKind.i64) Ow.z x2_8 Option.none)]])
noncomputable def f112W2 (G : St → Option Lf) : f112G2 := fun x2_0 x2_1 x2_2 x2_3 x2_4 x2_5 x2_6 x2_7 x2_8 => G (f112H2 x2_0 x2_1 x2_2 x2_3 x2_4 x2_5 x2_6 x2_7 x2_8)
noncomputable def f112S2  (g1 : f112G1) (g2 : f112G2) (x2_0 : Int) (x2_1 : List (List Int)) (x2_2 : Int) (x2_3 : Int) (x2_4 : List Int) (x2_5 : Int) (x2_6 : Int) (x2_7 : List Int) (x2_8 : List Int) : Option Lf :=
 bif decide (x2_6 < x2_5) then
  bif inb x2_6 x2_4.length then
   bif inb x2_0 x2_8.length then
    bif inb (x2_4.getD x2_6.toNat 0) x2_7.length then
     bif inb x2_0 x2_8.length then
      g2 (x2_0 : Int) (x2_1 : List (List Int)) (x2_2 : Int) (x2_3 : Int) (x2_4 : List Int) (x2_5 : Int) (IntKind.i64.wrap (x2_6 + 1) : Int) (x2_7 : List Int) (x2_8.set x2_0.toNat (bitsF BinOp.or IntKind.i64 (x2_8.getD x2_0.toNat 0) (x2_7.getD (x2_4.getD x2_6.toNat 0).toNat 0)) : List Int)
     else
      none
    else
     none
   else
    none
  else
   none
 else
  g1 (x2_1 : List (List Int)) (x2_2 : Int) (IntKind.i64.wrap (x2_3 + 1) : Int) (x2_7 : List Int) (x2_8 : List Int)
noncomputable def f112L2 (n : Nat) (g1 : f112G1) : Nat → f112G2
  | 0 => fun _ _ _ _ _ _ _ _ _ => none
  | m + 1 => fun x2_0 x2_1 x2_2 x2_3 x2_4 x2_5 x2_6 x2_7 x2_8 => f112S2  g1 (f112L2 n g1 m) x2_0 x2_1 x2_2 x2_3 x2_4 x2_5 x2_6 x2_7 x2_8
theorem f112S2_ev (n : Nat) (G1 : St → Option Lf) (G : St → Option Lf) (x2_0 : Int) (x2_1 : List (List Int)) (x2_2 : Int) (x2_3 : Int) (x2_4 : List Int) (x2_5 : Int) (x2_6 : Int) (x2_7 : List Int) (x2_8 : List Int) : rnd C11 f112h n Lf (codeOf f112f) [1, 1, 1, 1, 1, 0, 1, 0, 0, 1, 1, 0, 0, 1, 1, 0] [G1] (endK C11 f112h f112f) G (f112H2 x2_0 x2_1 x2_2 x2_3 x2_4 x2_5 x2_6 x2_7 x2_8) = f112S2  (f112W1 G1) (f112W2 G) x2_0 x2_1 x2_2 x2_3 x2_4 x2_5 x2_6 x2_7 x2_8 := by kernel_rfl
theorem f112W2_ev (n : Nat) (G1 : St → Option Lf) : ∀ m, (f112W2 (lp C11 f112h n Lf (codeOf f112f) [1, 1, 1, 1, 1, 0, 1, 0, 0, 1, 1, 0, 0, 1, 1, 0] [G1] (endK C11 f112h f112f) m)) = f112L2 n (f112W1 G1) m := by
  intro m
  induction m with
  | zero => funext x2_0 x2_1 x2_2 x2_3 x2_4 x2_5 x2_6 x2_7 x2_8; exact lp_zero _
  | succ m ih =>
    funext x2_0 x2_1 x2_2 x2_3 x2_4 x2_5 x2_6 x2_7 x2_8
    show lp C11 f112h n Lf (codeOf f112f) [1, 1, 1, 1, 1, 0, 1, 0, 0, 1, 1, 0, 0, 1, 1, 0] [G1] (endK C11 f112h f112f) (m + 1) (f112H2 x2_0 x2_1 x2_2 x2_3 x2_4 x2_5 x2_6 x2_7 x2_8) = f112S2  (f112W1 G1) (f112L2 n (f112W1 G1) m) x2_0 x2_1 x2_2 x2_3 x2_4 x2_5 x2_6 x2_7 x2_8
    rw [lp_succ, f112S2_ev, ih]
noncomputable def f112S1 (l2 : f112G2) (g1 : f112G1) (x1_0 : List (List Int)) (x1_1 : Int) (x1_2 : Int) (x1_3 : List Int) (x1_4 : List Int) : Option Lf :=
 bif decide (x1_2 < x1_1) then
  bif inb x1_2 x1_0.length then
   l2 (x1_2 : Int) (x1_0 : List (List Int)) (x1_1 : Int) (x1_2 : Int) (x1_0.getD x1_2.toNat [] : List Int) (zn (x1_0.getD x1_2.toNat []).length : Int) (0 : Int) (x1_3 : List Int) (x1_4 : List Int)
  else
   none
 else
  some (Lf.mk [(Pt.one (L.rw (Id.mk 1 0))), (Pt.one (L.d (Pv.fz true) Sh.e (Er.nil : Er)))] [] [(Ob.ro true 0 3 (Sh.i IntKind.i64) Ow.z (x1_4 : List Int) Option.none)])
noncomputable def f112L1 (n : Nat)  : Nat → f112G1
  | 0 => fun _ _ _ _ _ => none
  | m + 1 => fun x1_0 x1_1 x1_2 x1_3 x1_4 => f112S1 (f112L2 n (f112L1 n  m) n)  (f112L1 n  m) x1_0 x1_1 x1_2 x1_3 x1_4
theorem f112S1_ev (n : Nat)  (G : St → Option Lf) (x1_0 : List (List Int)) (x1_1 : Int) (x1_2 : Int) (x1_3 : List Int) (x1_4 : List Int) : rnd C11 f112h n Lf (codeOf f112f) [1, 1, 1, 1, 1, 0, 1, 0] [] (endK C11 f112h f112f) G (f112H1 x1_0 x1_1 x1_2 x1_3 x1_4) = f112S1 (f112W2 (lp C11 f112h n Lf (codeOf f112f) [1, 1, 1, 1, 1, 0, 1, 0, 0, 1, 1, 0, 0, 1, 1, 0] [G] (endK C11 f112h f112f) n))  (f112W1 G) x1_0 x1_1 x1_2 x1_3 x1_4 := by kernel_rfl
theorem f112W1_ev (n : Nat)  : ∀ m, (f112W1 (lp C11 f112h n Lf (codeOf f112f) [1, 1, 1, 1, 1, 0, 1, 0] [] (endK C11 f112h f112f) m)) = f112L1 n  m := by
  intro m
  induction m with
  | zero => funext x1_0 x1_1 x1_2 x1_3 x1_4; exact lp_zero _
  | succ m ih =>
    have e2 : (f112W2 (lp C11 f112h n Lf (codeOf f112f) [1, 1, 1, 1, 1, 0, 1, 0, 0, 1, 1, 0, 0, 1, 1, 0] [(lp C11 f112h n Lf (codeOf f112f) [1, 1, 1, 1, 1, 0, 1, 0] [] (endK C11 f112h f112f) m)] (endK C11 f112h f112f) n)) = (f112L2 n (f112L1 n  m) n) := by
      rw [f112W2_ev, ih]
    funext x1_0 x1_1 x1_2 x1_3 x1_4
    show lp C11 f112h n Lf (codeOf f112f) [1, 1, 1, 1, 1, 0, 1, 0] [] (endK C11 f112h f112f) (m + 1) (f112H1 x1_0 x1_1 x1_2 x1_3 x1_4) = f112S1 (f112L2 n (f112L1 n  m) n)  (f112L1 n  m) x1_0 x1_1 x1_2 x1_3 x1_4
    rw [lp_succ, f112S1_ev, ih, e2]
noncomputable def f112S0 (l1 : f112G1) (g0 : f112G0) (x0_0 : List ByteArray) (x0_1 : Int) (x0_2 : Int) (x0_3 : Int) (x0_4 : List (List (ByteArray × List (Int × Int × Unit) × Unit))) (x0_5 : List ByteArray) (x0_6 : List (List Int)) (x0_7 : List Int) : Option Lf :=
 bif decide (x0_2 < x0_1) then
  bif inb x0_2 x0_0.length then
   bif big x0_5.length then
    bif decide (idxS (x0_0.getD x0_2.toNat { data := #[] }) x0_5 < 0) then
     some (Lf.mk [(Pt.one (L.rw (Id.mk 1 0))), (Pt.one (L.d (Pv.fz true) Sh.e (Er.no 30 : Er)))] [] [(Ob.ro true 0 3 (Sh.i IntKind.i64) Ow.z ([] : List Int) Option.none)])
    else
     bif decide (0 ≤ x0_2) then
      bif inb (idxS (x0_0.getD x0_2.toNat { data := #[] }) x0_5) x0_7.length then
       g0 (x0_0 : List ByteArray) (x0_1 : Int) (IntKind.i64.wrap (x0_2 + 1) : Int) (x0_3 : Int) (x0_4 : List (List (ByteArray × List (Int × Int × Unit) × Unit))) (x0_5 : List ByteArray) (x0_6 : List (List Int)) (x0_7.set (idxS (x0_0.getD x0_2.toNat { data := #[] }) x0_5).toNat (shlF IntKind.i64 1 x0_2) : List Int)
      else
       none
     else
      none
   else
    none
  else
   none
 else
  bif decide (0 ≤ zn x0_6.length) && (decide (zn x0_6.length ≤ zn x0_6.length) && decide (8 * (zn x0_6.length).toNat ≤ 140737488355328)) then
   l1 (x0_6 : List (List Int)) (zn x0_6.length : Int) (0 : Int) (x0_7 : List Int) (List.replicate (zn x0_6.length).toNat 0 : List Int)
  else
   none
noncomputable def f112L0 (n : Nat)  : Nat → f112G0
  | 0 => fun _ _ _ _ _ _ _ _ => none
  | m + 1 => fun x0_0 x0_1 x0_2 x0_3 x0_4 x0_5 x0_6 x0_7 => f112S0 (f112L1 n  n)  (f112L0 n  m) x0_0 x0_1 x0_2 x0_3 x0_4 x0_5 x0_6 x0_7
theorem f112S0_ev (n : Nat)  (G : St → Option Lf) (x0_0 : List ByteArray) (x0_1 : Int) (x0_2 : Int) (x0_3 : Int) (x0_4 : List (List (ByteArray × List (Int × Int × Unit) × Unit))) (x0_5 : List ByteArray) (x0_6 : List (List Int)) (x0_7 : List Int) : rnd C11 f112h n Lf (codeOf f112f) [1, 1, 1, 0, 1, 0] [] (endK C11 f112h f112f) G (f112H0 x0_0 x0_1 x0_2 x0_3 x0_4 x0_5 x0_6 x0_7) = f112S0 (f112W1 (lp C11 f112h n Lf (codeOf f112f) [1, 1, 1, 1, 1, 0, 1, 0] [] (endK C11 f112h f112f) n))  (f112W0 G) x0_0 x0_1 x0_2 x0_3 x0_4 x0_5 x0_6 x0_7 := by kernel_rfl
theorem f112W0_ev (n : Nat)  : ∀ m, (f112W0 (lp C11 f112h n Lf (codeOf f112f) [1, 1, 1, 0, 1, 0] [] (endK C11 f112h f112f) m)) = f112L0 n  m := by
  intro m
  induction m with
  | zero => funext x0_0 x0_1 x0_2 x0_3 x0_4 x0_5 x0_6 x0_7; exact lp_zero _
  | succ m ih =>
    have e1 : (f112W1 (lp C11 f112h n Lf (codeOf f112f) [1, 1, 1, 1, 1, 0, 1, 0] [] (endK C11 f112h f112f) n)) = (f112L1 n  n) := by
      rw [f112W1_ev]
    funext x0_0 x0_1 x0_2 x0_3 x0_4 x0_5 x0_6 x0_7
    show lp C11 f112h n Lf (codeOf f112f) [1, 1, 1, 0, 1, 0] [] (endK C11 f112h f112f) (m + 1) (f112H0 x0_0 x0_1 x0_2 x0_3 x0_4 x0_5 x0_6 x0_7) = f112S0 (f112L1 n  n)  (f112L0 n  m) x0_0 x0_1 x0_2 x0_3 x0_4 x0_5 x0_6 x0_7
    rw [lp_succ, f112S0_ev, ih, e1]
noncomputable def f112T (l0 : f112G0) (i : Int) (ch : List (List (ByteArray × List (Int × Int × Unit) × Unit))) (nm : List ByteArray) (ho : List (List Int)) (lb : List ByteArray) : Option Lf :=
 bif mdG ch nm ho && (!(er1 (mdOk i ch nm ho)).isNil || (decide (zn lb.length > 6) || big lb.length && true)) then
  bif !(er1 (mdOk i ch nm ho)).isNil || (decide (zn lb.length > 6) || !differF lb) then
   some (Lf.mk [(Pt.one (L.rw (Id.mk 1 0))), (Pt.one (L.d (Pv.fz true) Sh.e (Er.no 1 : Er)))] [] [(Ob.ro true 0 3 (Sh.i IntKind.i64) Ow.z ([] : List Int) Option.none)])
  else
   bif decide (0 ≤ zn nm.length) && (decide (zn nm.length ≤ zn nm.length) && decide (8 * (zn nm.length).toNat ≤ 140737488355328)) then
    l0 (lb : List ByteArray) (zn lb.length : Int) (0 : Int) (i : Int) (ch : List (List (ByteArray × List (Int × Int × Unit) × Unit))) (nm : List ByteArray) (ho : List (List Int)) (List.replicate (zn nm.length).toNat 0 : List Int)
   else
    none
 else
  none
noncomputable def f112M (n : Nat) (i : Int) (ch : List (List (ByteArray × List (Int × Int × Unit) × Unit))) (nm : List ByteArray) (ho : List (List Int)) (lb : List ByteArray) : Option Lf := f112T (f112L0 n n) i ch nm ho lb
theorem f112T_ev (n : Nat) (i : Int) (ch : List (List (ByteArray × List (Int × Int × Unit) × Unit))) (nm : List ByteArray) (ho : List (List Int)) (lb : List ByteArray) : evF C11 f112h n f112f [(D.p (Pt.agg [(L.d (Pv.fz true) (Sh.i IntKind.i64) i), (L.d (Pv.fz false) (Sh.l (Sh.l (Sh.p Sh.s (Sh.p (Sh.l (Sh.p (Sh.i IntKind.i64) (Sh.p (Sh.i IntKind.i64) Sh.u))) Sh.u)))) ch), (L.d (Pv.fz false) (Sh.l Sh.s) nm), (L.d (Pv.fz false) (Sh.l (Sh.l (Sh.i IntKind.i64))) ho)])), (D.p (Pt.one (L.d (Pv.fz false) (Sh.l Sh.s) lb)))] [] = f112T (f112W0 (lp C11 f112h n Lf (codeOf f112f) [1, 1, 1, 0, 1, 0] [] (endK C11 f112h f112f) n)) i ch nm ho lb := by kernel_rfl
theorem f112_ev (n : Nat) (i : Int) (ch : List (List (ByteArray × List (Int × Int × Unit) × Unit))) (nm : List ByteArray) (ho : List (List Int)) (lb : List ByteArray) : evF C11 f112h n f112f [(D.p (Pt.agg [(L.d (Pv.fz true) (Sh.i IntKind.i64) i), (L.d (Pv.fz false) (Sh.l (Sh.l (Sh.p Sh.s (Sh.p (Sh.l (Sh.p (Sh.i IntKind.i64) (Sh.p (Sh.i IntKind.i64) Sh.u))) Sh.u)))) ch), (L.d (Pv.fz false) (Sh.l Sh.s) nm), (L.d (Pv.fz false) (Sh.l (Sh.l (Sh.i IntKind.i64))) ho)])), (D.p (Pt.one (L.d (Pv.fz false) (Sh.l Sh.s) lb)))] [] = f112M n i ch nm ho lb := by
  rw [f112T_ev, f112W0_ev]
  rfl

abbrev f113h : Hn := h113
noncomputable abbrev f113f : Func := fn 13
abbrev f113G0 := (List ByteArray) → Int → Int → (List (List (ByteArray × List (Int × Int × Unit) × Unit))) → (List ByteArray) → (List (List Int)) → Option Lf
noncomputable def f113H0 (x0_0 : List ByteArray) (x0_1 : Int) (x0_2 : Int) (x0_3 : List (List (ByteArray × List (Int × Int × Unit) × Unit))) (x0_4 : List ByteArray) (x0_5 : List (List Int)) : St := (St.mk [dead, (D.p (Pt.one (L.d (Pv.fz false) (Sh.l Sh.s) x0_0))), (D.p (Pt.one (L.pv (Id.mk 1 0) 0))), dead, dead, dead, (D.p (Pt.one (L.d (Pv.fz true) (Sh.i IntKind.i64) x0_1))), dead, dead, dead, dead, dead, dead, dead, dead, dead, dead, dead, dead, dead, dead, dead, dead, dead, dead, dead, dead, dead, dead, dead, dead, dead, dead, dead, dead, dead, dead, dead, dead, dead, dead, dead, dead, dead, dead, dead, dead, dead, dead, dead, dead, dead, dead, dead, dead, dead, dead, dead, dead, dead, dead, dead, dead, dead, dead, dead, dead, dead, dead, dead, dead, dead, dead, dead, dead, dead, dead, dead, dead, dead, dead, dead, dead, dead, dead, dead, dead, dead, dead, dead, dead, dead, dead, dead, dead, dead, dead, dead, dead, dead, dead, dead, dead, dead, dead, dead, dead, dead, dead, dead, dead] [[], [(Ob.va [(L.d (Pv.fz true) (Sh.i IntKind.i64) x0_2), (L.d (Pv.fz false) (Sh.l (Sh.l (Sh.p Sh.s (Sh.p (Sh.l (Sh.p (Sh.i IntKind.i64) (Sh.p (Sh.i IntKind.i64) Sh.u))) Sh.u)))) x0_3), (L.d (Pv.fz false) (Sh.l Sh.s) x0_4), (L.d (Pv.fz false) (Sh.l (Sh.l (Sh.i IntKind.i64))) x0_5)])]])
noncomputable def f113W0 (G : St → Option Lf) : f113G0 := fun x0_0 x0_1 x0_2 x0_3 x0_4 x0_5 => G (f113H0 x0_0 x0_1 x0_2 x0_3 x0_4 x0_5)
abbrev f113G1 := (List ByteArray) → Int → Int → Int → (List (List (ByteArray × List (Int × Int × Unit) × Unit))) → (List ByteArray) → (List (List Int)) → Option Lf
noncomputable def f113H1 (x1_0 : List ByteArray) (x1_1 : Int) (x1_2 : Int) (x1_3 : Int) (x1_4 : List (List (ByteArray × List (Int × Int × Unit) × Unit))) (x1_5 : List ByteArray) (x1_6 : List (List Int)) : St := (St.mk [dead, (D.p (Pt.one (L.d (Pv.fz false) (Sh.l Sh.s) x1_0))), (D.p (Pt.one (L.pv (Id.mk 1 0) 0))), dead, dead, dead, (D.p (Pt.one (L.d (Pv.fz true) (Sh.i IntKind.i64) x1_1))), (D.p (Pt.one (L.d (Pv.fz true) (Sh.i IntKind.i64) x1_2))), dead, dead, dead, dead, dead, dead, dead, dead, dead, dead, dead, dead, dead, dead, dead, dead, dead, dead, dead, dead, dead, dead, dead, dead, dead, dead, dead, dead, dead, dead, dead, dead, dead, dead, dead, dead, dead, dead, dead, dead, dead, dead, dead, dead, dead, dead, dead, dead, dead, dead, dead, dead, dead, dead, dead, dead, dead, dead, dead, dead, dead, dead, dead, dead, dead, dead, dead, dead, dead, dead, dead, dead, dead, dead, dead, dead, dead, dead, dead, dead, dead, dead, dead, dead, dead, dead, dead, dead, dead, dead, dead, dead, dead, dead, dead, dead, dead, dead, dead, dead, dead, dead, dead] [[], [(Ob.va [(L.d (Pv.fz true) (Sh.i IntKind.i64) x1_3), (L.d (Pv.fz false) (Sh.l (Sh.l (Sh.p Sh.s (Sh.p (Sh.l (Sh.p (Sh.i IntKind.i64) (Sh.p (Sh.i IntKind.i64) Sh.u))) Sh.u)))) x1_4), (L.d (Pv.fz false) (Sh.l Sh.s) x1_5), (L.d (Pv.fz false) (Sh.l (Sh.l (Sh.i IntKind.i64))) x1_6)])]])
noncomputable def f113W1 (G : St → Option Lf) : f113G1 := fun x1_0 x1_1 x1_2 x1_3 x1_4 x1_5 x1_6 => G (f113H1 x1_0 x1_1 x1_2 x1_3 x1_4 x1_5 x1_6)
noncomputable def f113S1  (g0 : f113G0) (g1 : f113G1) (x1_0 : List ByteArray) (x1_1 : Int) (x1_2 : Int) (x1_3 : Int) (x1_4 : List (List (ByteArray × List (Int × Int × Unit) × Unit))) (x1_5 : List ByteArray) (x1_6 : List (List Int)) : Option Lf :=
 bif decide (x1_2 < x1_1) then
  bif inb x1_1 x1_0.length then
   bif inb x1_2 x1_0.length then
    bif (x1_0.getD x1_1.toNat { data := #[] }).toList == (x1_0.getD x1_2.toNat { data := #[] }).toList then
     some (Lf.mk [(Pt.one (L.rw (Id.mk 1 0))), (Pt.one (L.d (Pv.fz true) (Sh.i IntKind.i64) (1 : Int)))] [] [(Ob.ro true 0 3 (Sh.i IntKind.i64) Ow.z ([] : List Int) Option.none)])
    else
     g1 (x1_0 : List ByteArray) (x1_1 : Int) (IntKind.i64.wrap (x1_2 + 1) : Int) (x1_3 : Int) (x1_4 : List (List (ByteArray × List (Int × Int × Unit) × Unit))) (x1_5 : List ByteArray) (x1_6 : List (List Int))
   else
    none
  else
   none
 else
  g0 (x1_0 : List ByteArray) (IntKind.i64.wrap (x1_1 + 1) : Int) (x1_3 : Int) (x1_4 : List (List (ByteArray × List (Int × Int × Unit) × Unit))) (x1_5 : List ByteArray) (x1_6 : List (List Int))
noncomputable def f113L1 (n : Nat) (g0 : f113G0) : Nat → f113G1
  | 0 => fun _ _ _ _ _ _ _ => none
  | m + 1 => fun x1_0 x1_1 x1_2 x1_3 x1_4 x1_5 x1_6 => f113S1  g0 (f113L1 n g0 m) x1_0 x1_1 x1_2 x1_3 x1_4 x1_5 x1_6
theorem f113S1_ev (n : Nat) (G0 : St → Option Lf) (G : St → Option Lf) (x1_0 : List ByteArray) (x1_1 : Int) (x1_2 : Int) (x1_3 : Int) (x1_4 : List (List (ByteArray × List (Int × Int × Unit) × Unit))) (x1_5 : List ByteArray) (x1_6 : List (List Int)) : rnd C11 f113h n Lf (codeOf f113f) [1, 1, 0, 1, 0, 0, 1, 0, 0, 1, 0] [G0] (endK C11 f113h f113f) G (f113H1 x1_0 x1_1 x1_2 x1_3 x1_4 x1_5 x1_6) = f113S1  (f113W0 G0) (f113W1 G) x1_0 x1_1 x1_2 x1_3 x1_4 x1_5 x1_6 := by kernel_rfl
theorem f113W1_ev (n : Nat) (G0 : St → Option Lf) : ∀ m, (f113W1 (lp C11 f113h n Lf (codeOf f113f) [1, 1, 0, 1, 0, 0, 1, 0, 0, 1, 0] [G0] (endK C11 f113h f113f) m)) = f113L1 n (f113W0 G0) m := by
  intro m
  induction m with
  | zero => funext x1_0 x1_1 x1_2 x1_3 x1_4 x1_5 x1_6; exact lp_zero _
  | succ m ih =>
    funext x1_0 x1_1 x1_2 x1_3 x1_4 x1_5 x1_6
    show lp C11 f113h n Lf (codeOf f113f) [1, 1, 0, 1, 0, 0, 1, 0, 0, 1, 0] [G0] (endK C11 f113h f113f) (m + 1) (f113H1 x1_0 x1_1 x1_2 x1_3 x1_4 x1_5 x1_6) = f113S1  (f113W0 G0) (f113L1 n (f113W0 G0) m) x1_0 x1_1 x1_2 x1_3 x1_4 x1_5 x1_6
    rw [lp_succ, f113S1_ev, ih]
abbrev f113G2 := (List ByteArray) → Int → Int → Int → (List (List (ByteArray × List (Int × Int × Unit) × Unit))) → (List ByteArray) → (List (List Int)) → (List Int) → Option Lf
noncomputable def f113H2 (x2_0 : List ByteArray) (x2_1 : Int) (x2_2 : Int) (x2_3 : Int) (x2_4 : List (List (ByteArray × List (Int × Int × Unit) × Unit))) (x2_5 : List ByteArray) (x2_6 : List (List Int)) (x2_7 : List Int) : St := (St.mk [dead, (D.p (Pt.one (L.d (Pv.fz false) (Sh.l Sh.s) x2_0))), (D.p (Pt.one (L.pv (Id.mk 1 0) 0))), dead, dead, dead, dead, dead, (D.p (Pt.one (L.rw (Id.mk 1 1)))), (D.p (Pt.one (L.d (Pv.fz true) (Sh.i IntKind.i64) x2_1))), (D.p (Pt.one (L.d (Pv.fz true) (Sh.i IntKind.i64) x2_2))), dead, dead, dead, dead, dead, dead, dead, dead, dead, dead, dead, dead, dead, dead, dead, dead, dead, dead, dead, dead, dead, dead, dead, dead, dead, dead, dead, dead, dead, dead, dead, dead, dead, dead, dead, dead, dead, dead, dead, dead, dead, dead, dead, dead, dead, dead, dead, dead, dead, dead, dead, dead, dead, dead, dead, dead, dead, dead, dead, dead, dead, dead, dead, dead, dead, dead, dead, dead, dead, dead, dead, dead, dead, dead, dead, dead, dead, dead, dead, dead, dead, dead, dead, dead, dead, dead, dead, dead, dead, dead, dead, dead, dead, dead, dead, dead, dead, dead, dead, dead] [[], [(Ob.va [(L.d (Pv.fz true) (Sh.i IntKind.i64) x2_3), (L.d (Pv.fz false) (Sh.l (Sh.l (Sh.p Sh.s (Sh.p (Sh.l (Sh.p (Sh.i IntKind.i64) (Sh.p (Sh.i IntKind.i64) Sh.u))) Sh.u)))) x2_4), (L.d (Pv.fz false) (Sh.l Sh.s) x2_5), (L.d (Pv.fz false) (Sh.l (Sh.l (Sh.i IntKind.i64))) x2_6)]), (Ob.ro true 0 3 (Sh.i IntKind.i64) Ow.z x2_7 Option.none)]])
noncomputable def f113W2 (G : St → Option Lf) : f113G2 := fun x2_0 x2_1 x2_2 x2_3 x2_4 x2_5 x2_6 x2_7 => G (f113H2 x2_0 x2_1 x2_2 x2_3 x2_4 x2_5 x2_6 x2_7)
abbrev f113G3 := (List ByteArray) → Int → Int → Int → Int → Int → (List (List (ByteArray × List (Int × Int × Unit) × Unit))) → (List ByteArray) → (List (List Int)) → (List Int) → Option Lf
noncomputable def f113H3 (x3_0 : List ByteArray) (x3_1 : Int) (x3_2 : Int) (x3_3 : Int) (x3_4 : Int) (x3_5 : Int) (x3_6 : List (List (ByteArray × List (Int × Int × Unit) × Unit))) (x3_7 : List ByteArray) (x3_8 : List (List Int)) (x3_9 : List Int) : St := (St.mk [dead, (D.p (Pt.one (L.d (Pv.fz false) (Sh.l Sh.s) x3_0))), (D.p (Pt.one (L.pv (Id.mk 1 0) 0))), dead, dead, dead, dead, dead, (D.p (Pt.one (L.rw (Id.mk 1 1)))), (D.p (Pt.one (L.d (Pv.fz true) (Sh.i IntKind.i64) x3_1))), (D.p (Pt.one (L.d (Pv.fz true) (Sh.i IntKind.i64) x3_2))), (D.p (Pt.one (L.d (Pv.fz true) (Sh.i IntKind.i64) x3_3))), (D.p (Pt.one (L.d (Pv.fz true) (Sh.i IntKind.i64) x3_4))), dead, dead, dead, dead, dead, dead, dead, dead, dead, dead, dead, dead, dead, dead, dead, dead, dead, dead, dead, dead, dead, dead, dead, dead, dead, dead, dead, dead, dead, dead, dead, dead, dead, dead, dead, dead, dead, dead, dead, dead, dead, dead, dead, dead, dead, dead, dead, dead, dead, dead, dead, dead, dead, dead, dead, dead, dead, dead, dead, dead, dead, dead, dead, dead, dead, dead, dead, dead, dead, dead, dead, dead, dead, dead, dead, dead, dead, dead, dead, dead, dead, dead, dead, dead, dead, dead, dead, dead, dead, dead, dead, dead, dead, dead, dead, dead, dead, dead] [[], [(Ob.va [(L.d (Pv.fz true) (Sh.i IntKind.i64) x3_5), (L.d (Pv.fz false) (Sh.l (Sh.l (Sh.p Sh.s (Sh.p (Sh.l (Sh.p (Sh.i IntKind.i64) (Sh.p (Sh.i IntKind.i64) Sh.u))) Sh.u)))) x3_6), (L.d (Pv.fz false) (Sh.l Sh.s) x3_7), (L.d (Pv.fz false) (Sh.l (Sh.l (Sh.i IntKind.i64))) x3_8)]), (Ob.ro true 0 3 (Sh.i IntKind.i64) Ow.z x3_9 Option.none)]])
noncomputable def f113W3 (G : St → Option Lf) : f113G3 := fun x3_0 x3_1 x3_2 x3_3 x3_4 x3_5 x3_6 x3_7 x3_8 x3_9 => G (f113H3 x3_0 x3_1 x3_2 x3_3 x3_4 x3_5 x3_6 x3_7 x3_8 x3_9)
abbrev f113G4 := (List ByteArray) → Int → Int → Int → Int → Int → (List (List (ByteArray × List (Int × Int × Unit) × Unit))) → (List ByteArray) → (List (List Int)) → (List Int) → Option Lf
noncomputable def f113H4 (x4_0 : List ByteArray) (x4_1 : Int) (x4_2 : Int) (x4_3 : Int) (x4_4 : Int) (x4_5 : Int) (x4_6 : List (List (ByteArray × List (Int × Int × Unit) × Unit))) (x4_7 : List ByteArray) (x4_8 : List (List Int)) (x4_9 : List Int) : St := (St.mk [dead, (D.p (Pt.one (L.d (Pv.fz false) (Sh.l Sh.s) x4_0))), (D.p (Pt.one (L.pv (Id.mk 1 0) 0))), dead, dead, dead, dead, dead, (D.p (Pt.one (L.rw (Id.mk 1 1)))), (D.p (Pt.one (L.d (Pv.fz true) (Sh.i IntKind.i64) x4_1))), (D.p (Pt.one (L.d (Pv.fz true) (Sh.i IntKind.i64) x4_2))), (D.p (Pt.one (L.d (Pv.fz true) (Sh.i IntKind.i64) x4_3))), dead, (D.p (Pt.one (L.d (Pv.fz true) (Sh.i IntKind.i64) x4_4))), dead, dead, dead, dead, dead, dead, dead, dead, dead, dead, dead, dead, dead, dead, dead, dead, dead, dead, dead, dead, dead, dead, dead, dead, dead, dead, dead, dead, dead, dead, dead, dead, dead, dead, dead, dead, dead, dead, dead, dead, dead, dead, dead, dead, dead, dead, dead, dead, dead, dead, dead, dead, dead, dead, dead, dead, dead, dead, dead, dead, dead, dead, dead, dead, dead, dead, dead, dead, dead, dead, dead, dead, dead, dead, dead, dead, dead, dead, dead, dead, dead, dead, dead, dead, dead, dead, dead, dead, dead, dead, dead, dead, dead, dead, dead, dead, dead] [[], [(Ob.va [(L.d (Pv.fz true) (Sh.i IntKind.i64) x4_5), (L.d (Pv.fz false) (Sh.l (Sh.l (Sh.p Sh.s (Sh.p (Sh.l (Sh.p (Sh.i IntKind.i64) (Sh.p (Sh.i IntKind.i64) Sh.u))) Sh.u)))) x4_6), (L.d (Pv.fz false) (Sh.l Sh.s) x4_7), (L.d (Pv.fz false) (Sh.l (Sh.l (Sh.i IntKind.i64))) x4_8)]), (Ob.ro true 0 3 (Sh.i IntKind.i64) Ow.z x4_9 Option.none)]])
noncomputable def f113W4 (G : St → Option Lf) : f113G4 := fun x4_0 x4_1 x4_2 x4_3 x4_4 x4_5 x4_6 x4_7 x4_8 x4_9 => G (f113H4 x4_0 x4_1 x4_2 x4_3 x4_4 x4_5 x4_6 x4_7 x4_8 x4_9)
abbrev f113G5 := (List ByteArray) → Int → Int → Int → Int → Int → Int → (List (List (ByteArray × List (Int × Int × Unit) × Unit))) → (List ByteArray) → (List (List Int)) → (List Int) → Option Lf
noncomputable def f113H5 (x5_0 : List ByteArray) (x5_1 : Int) (x5_2 : Int) (x5_3 : Int) (x5_4 : Int) (x5_5 : Int) (x5_6 : Int) (x5_7 : List (List (ByteArray × List (Int × Int × Unit) × Unit))) (x5_8 : List ByteArray) (x5_9 : List (List Int)) (x5_10 : List Int) : St := (St.mk [dead, (D.p (Pt.one (L.d (Pv.fz false) (Sh.l Sh.s) x5_0))), (D.p (Pt.one (L.pv (Id.mk 1 0) 0))), dead, dead, dead, dead, dead, (D.p (Pt.one (L.rw (Id.mk 1 1)))), (D.p (Pt.one (L.d (Pv.fz true) (Sh.i IntKind.i64) x5_1))), (D.p (Pt.one (L.d (Pv.fz true) (Sh.i IntKind.i64) x5_2))), (D.p (Pt.one (L.d (Pv.fz true) (Sh.i IntKind.i64) x5_3))), dead, (D.p (Pt.one (L.d (Pv.fz true) (Sh.i IntKind.i64) x5_4))), (D.p (Pt.one (L.d (Pv.fz true) (Sh.i IntKind.i64) x5_5))), dead, dead, dead, dead, dead, dead, dead, dead, dead, dead, dead, dead, dead, dead, dead, dead, dead, dead, dead, dead, dead, dead, dead, dead, dead, dead, dead, dead, dead, dead, dead, dead, dead, dead, dead, dead, dead, dead, dead, dead, dead, dead, dead, dead, dead, dead, dead, dead, dead, dead, dead, dead, dead, dead, dead, dead, dead, dead, dead, dead, dead, dead, dead, dead, dead, dead, dead, dead, dead, dead, dead, dead, dead, dead, dead, dead, dead, dead, dead, dead, dead, dead, dead, dead, dead, dead, dead, dead, dead, dead, dead, dead, dead, dead, dead, dead] [[], [(Ob.va [(L.d (Pv.fz true) (Sh.i IntKind.i64) x5_6), (L.d (Pv.fz false) (Sh.l (Sh.l (Sh.p Sh.s (Sh.p (Sh.l (Sh.p (Sh.i IntKind.i64) (Sh.p (Sh.i IntKind.i64) Sh.u))) Sh.u)))) x5_7), (L.d (Pv.fz false) (Sh.l Sh.s) x5_8), (L.d (Pv.fz false) (Sh.l (Sh.l (Sh.i IntKind.i64))) x5_9)]), (Ob.ro true 0 3 (Sh.i IntKind.i64) Ow.z x5_10 Option.none)]])
noncomputable def f113W5 (G : St → Option Lf) : f113G5 := fun x5_0 x5_1 x5_2 x5_3 x5_4 x5_5 x5_6 x5_7 x5_8 x5_9 x5_10 => G (f113H5 x5_0 x5_1 x5_2 x5_3 x5_4 x5_5 x5_6 x5_7 x5_8 x5_9 x5_10)
noncomputable def f113S5  (g2 : f113G2) (g4 : f113G4) (g5 : f113G5) (x5_0 : List ByteArray) (x5_1 : Int) (x5_2 : Int) (x5_3 : Int) (x5_4 : Int) (x5_5 : Int) (x5_6 : Int) (x5_7 : List (List (ByteArray × List (Int × Int × Unit) × Unit))) (x5_8 : List ByteArray) (x5_9 : List (List Int)) (x5_10 : List Int) : Option Lf :=
 bif inb x5_4 x5_9.length then
  bif decide (x5_5 < zn (x5_9.getD x5_4.toNat []).length) then
   bif inb x5_4 x5_9.length then
    bif inb x5_5 (x5_9.getD x5_4.toNat []).length then
     bif (x5_9.getD x5_4.toNat []).getD x5_5.toNat 0 == x5_3 then
      bif inb x5_4 x5_10.length then
       bif inb x5_4 x5_10.length then
        g5 (x5_0 : List ByteArray) (x5_1 : Int) (x5_2 : Int) (x5_3 : Int) (x5_4 : Int) (IntKind.i64.wrap (x5_5 + 1) : Int) (x5_6 : Int) (x5_7 : List (List (ByteArray × List (Int × Int × Unit) × Unit))) (x5_8 : List ByteArray) (x5_9 : List (List Int)) (x5_10.set x5_4.toNat (IntKind.i64.wrap (x5_10.getD x5_4.toNat 0 + x5_1)) : List Int)
       else
        none
      else
       none
     else
      g5 (x5_0 : List ByteArray) (x5_1 : Int) (x5_2 : Int) (x5_3 : Int) (x5_4 : Int) (IntKind.i64.wrap (x5_5 + 1) : Int) (x5_6 : Int) (x5_7 : List (List (ByteArray × List (Int × Int × Unit) × Unit))) (x5_8 : List ByteArray) (x5_9 : List (List Int)) (x5_10 : List Int)
    else
     none
   else
    none
  else
   g4 (x5_0 : List ByteArray) (x5_1 : Int) (x5_2 : Int) (x5_3 : Int) (IntKind.i64.wrap (x5_4 + 1) : Int) (x5_6 : Int) (x5_7 : List (List (ByteArray × List (Int × Int × Unit) × Unit))) (x5_8 : List ByteArray) (x5_9 : List (List Int)) (x5_10 : List Int)
 else
  none
noncomputable def f113L5 (n : Nat) (g2 : f113G2) (g4 : f113G4) : Nat → f113G5
  | 0 => fun _ _ _ _ _ _ _ _ _ _ _ => none
  | m + 1 => fun x5_0 x5_1 x5_2 x5_3 x5_4 x5_5 x5_6 x5_7 x5_8 x5_9 x5_10 => f113S5  g2 g4 (f113L5 n g2 g4 m) x5_0 x5_1 x5_2 x5_3 x5_4 x5_5 x5_6 x5_7 x5_8 x5_9 x5_10
theorem f113S5_ev (n : Nat) (G2 : St → Option Lf) (G4 : St → Option Lf) (G : St → Option Lf) (x5_0 : List ByteArray) (x5_1 : Int) (x5_2 : Int) (x5_3 : Int) (x5_4 : Int) (x5_5 : Int) (x5_6 : Int) (x5_7 : List (List (ByteArray × List (Int × Int × Unit) × Unit))) (x5_8 : List ByteArray) (x5_9 : List (List Int)) (x5_10 : List Int) : rnd C11 f113h n Lf (codeOf f113f) [1, 1, 1, 1, 1, 0, 1, 0, 0, 1, 0, 0, 1, 1, 1, 0, 1, 0, 0, 1, 0, 0, 1, 0] [G2, G4] (endK C11 f113h f113f) G (f113H5 x5_0 x5_1 x5_2 x5_3 x5_4 x5_5 x5_6 x5_7 x5_8 x5_9 x5_10) = f113S5  (f113W2 G2) (f113W4 G4) (f113W5 G) x5_0 x5_1 x5_2 x5_3 x5_4 x5_5 x5_6 x5_7 x5_8 x5_9 x5_10 := by kernel_rfl
theorem f113W5_ev (n : Nat) (G2 : St → Option Lf) (G4 : St → Option Lf) : ∀ m, (f113W5 (lp C11 f113h n Lf (codeOf f113f) [1, 1, 1, 1, 1, 0, 1, 0, 0, 1, 0, 0, 1, 1, 1, 0, 1, 0, 0, 1, 0, 0, 1, 0] [G2, G4] (endK C11 f113h f113f) m)) = f113L5 n (f113W2 G2) (f113W4 G4) m := by
  intro m
  induction m with
  | zero => funext x5_0 x5_1 x5_2 x5_3 x5_4 x5_5 x5_6 x5_7 x5_8 x5_9 x5_10; exact lp_zero _
  | succ m ih =>
    funext x5_0 x5_1 x5_2 x5_3 x5_4 x5_5 x5_6 x5_7 x5_8 x5_9 x5_10
    show lp C11 f113h n Lf (codeOf f113f) [1, 1, 1, 1, 1, 0, 1, 0, 0, 1, 0, 0, 1, 1, 1, 0, 1, 0, 0, 1, 0, 0, 1, 0] [G2, G4] (endK C11 f113h f113f) (m + 1) (f113H5 x5_0 x5_1 x5_2 x5_3 x5_4 x5_5 x5_6 x5_7 x5_8 x5_9 x5_10) = f113S5  (f113W2 G2) (f113W4 G4) (f113L5 n (f113W2 G2) (f113W4 G4) m) x5_0 x5_1 x5_2 x5_3 x5_4 x5_5 x5_6 x5_7 x5_8 x5_9 x5_10
    rw [lp_succ, f113S5_ev, ih]
noncomputable def f113S4 (l5 : f113G5) (g2 : f113G2) (g4 : f113G4) (x4_0 : List ByteArray) (x4_1 : Int) (x4_2 : Int) (x4_3 : Int) (x4_4 : Int) (x4_5 : Int) (x4_6 : List (List (ByteArray × List (Int × Int × Unit) × Unit))) (x4_7 : List ByteArray) (x4_8 : List (List Int)) (x4_9 : List Int) : Option Lf :=
 bif decide (x4_4 < zn x4_9.length) then
  l5 (x4_0 : List ByteArray) (x4_1 : Int) (x4_2 : Int) (x4_3 : Int) (x4_4 : Int) (0 : Int) (x4_5 : Int) (x4_6 : List (List (ByteArray × List (Int × Int × Unit) × Unit))) (x4_7 : List ByteArray) (x4_8 : List (List Int)) (x4_9 : List Int)
 else
  g2 (x4_0 : List ByteArray) (IntKind.i64.wrap (2 * x4_1) : Int) (IntKind.i64.wrap (x4_2 + 1) : Int) (x4_5 : Int) (x4_6 : List (List (ByteArray × List (Int × Int × Unit) × Unit))) (x4_7 : List ByteArray) (x4_8 : List (List Int)) (x4_9 : List Int)
noncomputable def f113L4 (n : Nat) (g2 : f113G2) : Nat → f113G4
  | 0 => fun _ _ _ _ _ _ _ _ _ _ => none
  | m + 1 => fun x4_0 x4_1 x4_2 x4_3 x4_4 x4_5 x4_6 x4_7 x4_8 x4_9 => f113S4 (f113L5 n g2 (f113L4 n g2 m) n) g2 (f113L4 n g2 m) x4_0 x4_1 x4_2 x4_3 x4_4 x4_5 x4_6 x4_7 x4_8 x4_9
theorem f113S4_ev (n : Nat) (G2 : St → Option Lf) (G : St → Option Lf) (x4_0 : List ByteArray) (x4_1 : Int) (x4_2 : Int) (x4_3 : Int) (x4_4 : Int) (x4_5 : Int) (x4_6 : List (List (ByteArray × List (Int × Int × Unit) × Unit))) (x4_7 : List ByteArray) (x4_8 : List (List Int)) (x4_9 : List Int) : rnd C11 f113h n Lf (codeOf f113f) [1, 1, 1, 1, 1, 0, 1, 0, 0, 1, 0, 0, 1, 1, 1, 0, 1, 0] [G2] (endK C11 f113h f113f) G (f113H4 x4_0 x4_1 x4_2 x4_3 x4_4 x4_5 x4_6 x4_7 x4_8 x4_9) = f113S4 (f113W5 (lp C11 f113h n Lf (codeOf f113f) [1, 1, 1, 1, 1, 0, 1, 0, 0, 1, 0, 0, 1, 1, 1, 0, 1, 0, 0, 1, 0, 0, 1, 0] [G2, G] (endK C11 f113h f113f) n)) (f113W2 G2) (f113W4 G) x4_0 x4_1 x4_2 x4_3 x4_4 x4_5 x4_6 x4_7 x4_8 x4_9 := by kernel_rfl
theorem f113W4_ev (n : Nat) (G2 : St → Option Lf) : ∀ m, (f113W4 (lp C11 f113h n Lf (codeOf f113f) [1, 1, 1, 1, 1, 0, 1, 0, 0, 1, 0, 0, 1, 1, 1, 0, 1, 0] [G2] (endK C11 f113h f113f) m)) = f113L4 n (f113W2 G2) m := by
  intro m
  induction m with
  | zero => funext x4_0 x4_1 x4_2 x4_3 x4_4 x4_5 x4_6 x4_7 x4_8 x4_9; exact lp_zero _
  | succ m ih =>
    have e5 : (f113W5 (lp C11 f113h n Lf (codeOf f113f) [1, 1, 1, 1, 1, 0, 1, 0, 0, 1, 0, 0, 1, 1, 1, 0, 1, 0, 0, 1, 0, 0, 1, 0] [G2, (lp C11 f113h n Lf (codeOf f113f) [1, 1, 1, 1, 1, 0, 1, 0, 0, 1, 0, 0, 1, 1, 1, 0, 1, 0] [G2] (endK C11 f113h f113f) m)] (endK C11 f113h f113f) n)) = (f113L5 n (f113W2 G2) (f113L4 n (f113W2 G2) m) n) := by
      rw [f113W5_ev, ih]
    funext x4_0 x4_1 x4_2 x4_3 x4_4 x4_5 x4_6 x4_7 x4_8 x4_9
    show lp C11 f113h n Lf (codeOf f113f) [1, 1, 1, 1, 1, 0, 1, 0, 0, 1, 0, 0, 1, 1, 1, 0, 1, 0] [G2] (endK C11 f113h f113f) (m + 1) (f113H4 x4_0 x4_1 x4_2 x4_3 x4_4 x4_5 x4_6 x4_7 x4_8 x4_9) = f113S4 (f113L5 n (f113W2 G2) (f113L4 n (f113W2 G2) m) n) (f113W2 G2) (f113L4 n (f113W2 G2) m) x4_0 x4_1 x4_2 x4_3 x4_4 x4_5 x4_6 x4_7 x4_8 x4_9
    rw [lp_succ, f113S4_ev, ih, e5]
noncomputable def f113S3 (l4 : f113G4) (g2 : f113G2) (g3 : f113G3) (x3_0 : List ByteArray) (x3_1 : Int) (x3_2 : Int) (x3_3 : Int) (x3_4 : Int) (x3_5 : Int) (x3_6 : List (List (ByteArray × List (Int × Int × Unit) × Unit))) (x3_7 : List ByteArray) (x3_8 : List (List Int)) (x3_9 : List Int) : Option Lf :=
 bif decide (x3_4 < zn x3_7.length) then
  bif inb x3_4 x3_7.length then
   bif inb x3_2 x3_0.length then
    bif (x3_7.getD x3_4.toNat { data := #[] }).toList == (x3_0.getD x3_2.toNat { data := #[] }).toList then
     g3 (x3_0 : List ByteArray) (x3_1 : Int) (x3_2 : Int) (x3_4 : Int) (IntKind.i64.wrap (x3_4 + 1) : Int) (x3_5 : Int) (x3_6 : List (List (ByteArray × List (Int × Int × Unit) × Unit))) (x3_7 : List ByteArray) (x3_8 : List (List Int)) (x3_9 : List Int)
    else
     g3 (x3_0 : List ByteArray) (x3_1 : Int) (x3_2 : Int) (x3_3 : Int) (IntKind.i64.wrap (x3_4 + 1) : Int) (x3_5 : Int) (x3_6 : List (List (ByteArray × List (Int × Int × Unit) × Unit))) (x3_7 : List ByteArray) (x3_8 : List (List Int)) (x3_9 : List Int)
   else
    none
  else
   none
 else
  bif decide (x3_3 < 0) then
   some (Lf.mk [(Pt.one (L.rw (Id.mk 1 0))), (Pt.one (L.d (Pv.fz true) (Sh.i IntKind.i64) (30 : Int)))] [] [(Ob.ro true 0 3 (Sh.i IntKind.i64) Ow.z ([] : List Int) Option.none)])
  else
   l4 (x3_0 : List ByteArray) (x3_1 : Int) (x3_2 : Int) (x3_3 : Int) (0 : Int) (x3_5 : Int) (x3_6 : List (List (ByteArray × List (Int × Int × Unit) × Unit))) (x3_7 : List ByteArray) (x3_8 : List (List Int)) (x3_9 : List Int)
noncomputable def f113L3 (n : Nat) (g2 : f113G2) : Nat → f113G3
  | 0 => fun _ _ _ _ _ _ _ _ _ _ => none
  | m + 1 => fun x3_0 x3_1 x3_2 x3_3 x3_4 x3_5 x3_6 x3_7 x3_8 x3_9 => f113S3 (f113L4 n g2 n) g2 (f113L3 n g2 m) x3_0 x3_1 x3_2 x3_3 x3_4 x3_5 x3_6 x3_7 x3_8 x3_9
theorem f113S3_ev (n : Nat) (G2 : St → Option Lf) (G : St → Option Lf) (x3_0 : List ByteArray) (x3_1 : Int) (x3_2 : Int) (x3_3 : Int) (x3_4 : Int) (x3_5 : Int) (x3_6 : List (List (ByteArray × List (Int × Int × Unit) × Unit))) (x3_7 : List ByteArray) (x3_8 : List (List Int)) (x3_9 : List Int) : rnd C11 f113h n Lf (codeOf f113f) [1, 1, 1, 1, 1, 0, 1, 0, 0, 1, 0, 0, 1, 0, 1, 0] [G2] (endK C11 f113h f113f) G (f113H3 x3_0 x3_1 x3_2 x3_3 x3_4 x3_5 x3_6 x3_7 x3_8 x3_9) = f113S3 (f113W4 (lp C11 f113h n Lf (codeOf f113f) [1, 1, 1, 1, 1, 0, 1, 0, 0, 1, 0, 0, 1, 1, 1, 0, 1, 0] [G2] (endK C11 f113h f113f) n)) (f113W2 G2) (f113W3 G) x3_0 x3_1 x3_2 x3_3 x3_4 x3_5 x3_6 x3_7 x3_8 x3_9 := by kernel_rfl
theorem f113W3_ev (n : Nat) (G2 : St → Option Lf) : ∀ m, (f113W3 (lp C11 f113h n Lf (codeOf f113f) [1, 1, 1, 1, 1, 0, 1, 0, 0, 1, 0, 0, 1, 0, 1, 0] [G2] (endK C11 f113h f113f) m)) = f113L3 n (f113W2 G2) m := by
  intro m
  induction m with
  | zero => funext x3_0 x3_1 x3_2 x3_3 x3_4 x3_5 x3_6 x3_7 x3_8 x3_9; exact lp_zero _
  | succ m ih =>
    have e4 : (f113W4 (lp C11 f113h n Lf (codeOf f113f) [1, 1, 1, 1, 1, 0, 1, 0, 0, 1, 0, 0, 1, 1, 1, 0, 1, 0] [G2] (endK C11 f113h f113f) n)) = (f113L4 n (f113W2 G2) n) := by
      rw [f113W4_ev]
    funext x3_0 x3_1 x3_2 x3_3 x3_4 x3_5 x3_6 x3_7 x3_8 x3_9
    show lp C11 f113h n Lf (codeOf f113f) [1, 1, 1, 1, 1, 0, 1, 0, 0, 1, 0, 0, 1, 0, 1, 0] [G2] (endK C11 f113h f113f) (m + 1) (f113H3 x3_0 x3_1 x3_2 x3_3 x3_4 x3_5 x3_6 x3_7 x3_8 x3_9) = f113S3 (f113L4 n (f113W2 G2) n) (f113W2 G2) (f113L3 n (f113W2 G2) m) x3_0 x3_1 x3_2 x3_3 x3_4 x3_5 x3_6 x3_7 x3_8 x3_9
    rw [lp_succ, f113S3_ev, ih, e4]
noncomputable def f113S2 (l3 : f113G3) (g2 : f113G2) (x2_0 : List ByteArray) (x2_1 : Int) (x2_2 : Int) (x2_3 : Int) (x2_4 : List (List (ByteArray × List (Int × Int × Unit) × Unit))) (x2_5 : List ByteArray) (x2_6 : List (List Int)) (x2_7 : List Int) : Option Lf :=
 bif decide (x2_2 < zn x2_0.length) then
  l3 (x2_0 : List ByteArray) (x2_1 : Int) (x2_2 : Int) (-1 : Int) (0 : Int) (x2_3 : Int) (x2_4 : List (List (ByteArray × List (Int × Int × Unit) × Unit))) (x2_5 : List ByteArray) (x2_6 : List (List Int)) (x2_7 : List Int)
 else
  some (Lf.mk [(Pt.one (L.rw (Id.mk 1 0))), (Pt.one (L.d (Pv.fz true) (Sh.i IntKind.i64) (0 : Int)))] [] [(Ob.ro true 0 3 (Sh.i IntKind.i64) Ow.z (x2_7 : List Int) Option.none)])
noncomputable def f113L2 (n : Nat)  : Nat → f113G2
  | 0 => fun _ _ _ _ _ _ _ _ => none
  | m + 1 => fun x2_0 x2_1 x2_2 x2_3 x2_4 x2_5 x2_6 x2_7 => f113S2 (f113L3 n (f113L2 n  m) n)  (f113L2 n  m) x2_0 x2_1 x2_2 x2_3 x2_4 x2_5 x2_6 x2_7
theorem f113S2_ev (n : Nat)  (G : St → Option Lf) (x2_0 : List ByteArray) (x2_1 : Int) (x2_2 : Int) (x2_3 : Int) (x2_4 : List (List (ByteArray × List (Int × Int × Unit) × Unit))) (x2_5 : List ByteArray) (x2_6 : List (List Int)) (x2_7 : List Int) : rnd C11 f113h n Lf (codeOf f113f) [1, 1, 1, 1, 1, 0, 1, 0] [] (endK C11 f113h f113f) G (f113H2 x2_0 x2_1 x2_2 x2_3 x2_4 x2_5 x2_6 x2_7) = f113S2 (f113W3 (lp C11 f113h n Lf (codeOf f113f) [1, 1, 1, 1, 1, 0, 1, 0, 0, 1, 0, 0, 1, 0, 1, 0] [G] (endK C11 f113h f113f) n))  (f113W2 G) x2_0 x2_1 x2_2 x2_3 x2_4 x2_5 x2_6 x2_7 := by kernel_rfl
theorem f113W2_ev (n : Nat)  : ∀ m, (f113W2 (lp C11 f113h n Lf (codeOf f113f) [1, 1, 1, 1, 1, 0, 1, 0] [] (endK C11 f113h f113f) m)) = f113L2 n  m := by
  intro m
  induction m with
  | zero => funext x2_0 x2_1 x2_2 x2_3 x2_4 x2_5 x2_6 x2_7; exact lp_zero _
  | succ m ih =>
    have e3 : (f113W3 (lp C11 f113h n Lf (codeOf f113f) [1, 1, 1, 1, 1, 0, 1, 0, 0, 1, 0, 0, 1, 0, 1, 0] [(lp C11 f113h n Lf (codeOf f113f) [1, 1, 1, 1, 1, 0, 1, 0] [] (endK C11 f113h f113f) m)] (endK C11 f113h f113f) n)) = (f113L3 n (f113L2 n  m) n) := by
      rw [f113W3_ev, ih]
    funext x2_0 x2_1 x2_2 x2_3 x2_4 x2_5 x2_6 x2_7
    show lp C11 f113h n Lf (codeOf f113f) [1, 1, 1, 1, 1, 0, 1, 0] [] (endK C11 f113h f113f) (m + 1) (f113H2 x2_0 x2_1 x2_2 x2_3 x2_4 x2_5 x2_6 x2_7) = f113S2 (f113L3 n (f113L2 n  m) n)  (f113L2 n  m) x2_0 x2_1 x2_2 x2_3 x2_4 x2_5 x2_6 x2_7
    rw [lp_succ, f113S2_ev, ih, e3]
noncomputable def f113S0 (l1 : f113G1) (l2 : f113G2) (g0 : f113G0) (x0_0 : List ByteArray) (x0_1 : Int) (x0_2 : Int) (x0_3 : List (List (ByteArray × List (Int × Int × Unit) × Unit))) (x0_4 : List ByteArray) (x0_5 : List (List Int)) : Option Lf :=
 bif decide (x0_1 < zn x0_0.length) then
  l1 (x0_0 : List ByteArray) (x0_1 : Int) (0 : Int) (x0_2 : Int) (x0_3 : List (List (ByteArray × List (Int × Int × Unit) × Unit))) (x0_4 : List ByteArray) (x0_5 : List (List Int))
 else
  bif decide (0 ≤ zn x0_3.length) && (decide (zn x0_3.length ≤ zn x0_3.length) && decide (8 * (zn x0_3.length).toNat ≤ 140737488355328)) then
   l2 (x0_0 : List ByteArray) (1 : Int) (0 : Int) (x0_2 : Int) (x0_3 : List (List (ByteArray × List (Int × Int × Unit) × Unit))) (x0_4 : List ByteArray) (x0_5 : List (List Int)) (List.replicate (zn x0_3.length).toNat 0 : List Int)
  else
   none
noncomputable def f113L0 (n : Nat)  : Nat → f113G0
  | 0 => fun _ _ _ _ _ _ => none
  | m + 1 => fun x0_0 x0_1 x0_2 x0_3 x0_4 x0_5 => f113S0 (f113L1 n (f113L0 n  m) n) (f113L2 n  n)  (f113L0 n  m) x0_0 x0_1 x0_2 x0_3 x0_4 x0_5
theorem f113S0_ev (n : Nat)  (G : St → Option Lf) (x0_0 : List ByteArray) (x0_1 : Int) (x0_2 : Int) (x0_3 : List (List (ByteArray × List (Int × Int × Unit) × Unit))) (x0_4 : List ByteArray) (x0_5 : List (List Int)) : rnd C11 f113h n Lf (codeOf f113f) [1, 1, 0, 1, 0] [] (endK C11 f113h f113f) G (f113H0 x0_0 x0_1 x0_2 x0_3 x0_4 x0_5) = f113S0 (f113W1 (lp C11 f113h n Lf (codeOf f113f) [1, 1, 0, 1, 0, 0, 1, 0, 0, 1, 0] [G] (endK C11 f113h f113f) n)) (f113W2 (lp C11 f113h n Lf (codeOf f113f) [1, 1, 1, 1, 1, 0, 1, 0] [] (endK C11 f113h f113f) n))  (f113W0 G) x0_0 x0_1 x0_2 x0_3 x0_4 x0_5 := by kernel_rfl
theorem f113W0_ev (n : Nat)  : ∀ m, (f113W0 (lp C11 f113h n Lf (codeOf f113f) [1, 1, 0, 1, 0] [] (endK C11 f113h f113f) m)) = f113L0 n  m := by
  intro m
  induction m with
  | zero => funext x0_0 x0_1 x0_2 x0_3 x0_4 x0_5; exact lp_zero _
  | succ m ih =>
    have e1 : (f113W1 (lp C11 f113h n Lf (codeOf f113f) [1, 1, 0, 1, 0, 0, 1, 0, 0, 1, 0] [(lp C11 f113h n Lf (codeOf f113f) [1, 1, 0, 1, 0] [] (endK C11 f113h f113f) m)] (endK C11 f113h f113f) n)) = (f113L1 n (f113L0 n  m) n) := by
      rw [f113W1_ev, ih]
    have e2 : (f113W2 (lp C11 f113h n Lf (codeOf f113f) [1, 1, 1, 1, 1, 0, 1, 0] [] (endK C11 f113h f113f) n)) = (f113L2 n  n) := by
      rw [f113W2_ev]
    funext x0_0 x0_1 x0_2 x0_3 x0_4 x0_5
    show lp C11 f113h n Lf (codeOf f113f) [1, 1, 0, 1, 0] [] (endK C11 f113h f113f) (m + 1) (f113H0 x0_0 x0_1 x0_2 x0_3 x0_4 x0_5) = f113S0 (f113L1 n (f113L0 n  m) n) (f113L2 n  n)  (f113L0 n  m) x0_0 x0_1 x0_2 x0_3 x0_4 x0_5
    rw [lp_succ, f113S0_ev, ih, e1, e2]
noncomputable def f113T (l0 : f113G0) (i : Int) (ch : List (List (ByteArray × List (Int × Int × Unit) × Unit))) (nm : List ByteArray) (ho : List (List Int)) (lb : List ByteArray) : Option Lf :=
 bif mdG ch nm ho && true then
  bif !mdOk i ch nm ho || decide (zn lb.length > 6) then
   some (Lf.mk [(Pt.one (L.rw (Id.mk 1 0))), (Pt.one (L.d (Pv.fz true) (Sh.i IntKind.i64) (1 : Int)))] [] [(Ob.ro true 0 3 (Sh.i IntKind.i64) Ow.z ([] : List Int) Option.none)])
  else
   l0 (lb : List ByteArray) (0 : Int) (i : Int) (ch : List (List (ByteArray × List (Int × Int × Unit) × Unit))) (nm : List ByteArray) (ho : List (List Int))
 else
  none
noncomputable def f113M (n : Nat) (i : Int) (ch : List (List (ByteArray × List (Int × Int × Unit) × Unit))) (nm : List ByteArray) (ho : List (List Int)) (lb : List ByteArray) : Option Lf := f113T (f113L0 n n) i ch nm ho lb
theorem f113T_ev (n : Nat) (i : Int) (ch : List (List (ByteArray × List (Int × Int × Unit) × Unit))) (nm : List ByteArray) (ho : List (List Int)) (lb : List ByteArray) : evF C11 f113h n f113f [(D.p (Pt.agg [(L.d (Pv.fz true) (Sh.i IntKind.i64) i), (L.d (Pv.fz false) (Sh.l (Sh.l (Sh.p Sh.s (Sh.p (Sh.l (Sh.p (Sh.i IntKind.i64) (Sh.p (Sh.i IntKind.i64) Sh.u))) Sh.u)))) ch), (L.d (Pv.fz false) (Sh.l Sh.s) nm), (L.d (Pv.fz false) (Sh.l (Sh.l (Sh.i IntKind.i64))) ho)])), (D.p (Pt.one (L.d (Pv.fz false) (Sh.l Sh.s) lb)))] [] = f113T (f113W0 (lp C11 f113h n Lf (codeOf f113f) [1, 1, 0, 1, 0] [] (endK C11 f113h f113f) n)) i ch nm ho lb := by kernel_rfl
theorem f113_ev (n : Nat) (i : Int) (ch : List (List (ByteArray × List (Int × Int × Unit) × Unit))) (nm : List ByteArray) (ho : List (List Int)) (lb : List ByteArray) : evF C11 f113h n f113f [(D.p (Pt.agg [(L.d (Pv.fz true) (Sh.i IntKind.i64) i), (L.d (Pv.fz false) (Sh.l (Sh.l (Sh.p Sh.s (Sh.p (Sh.l (Sh.p (Sh.i IntKind.i64) (Sh.p (Sh.i IntKind.i64) Sh.u))) Sh.u)))) ch), (L.d (Pv.fz false) (Sh.l Sh.s) nm), (L.d (Pv.fz false) (Sh.l (Sh.l (Sh.i IntKind.i64))) ho)])), (D.p (Pt.one (L.d (Pv.fz false) (Sh.l Sh.s) lb)))] [] = f113M n i ch nm ho lb := by
  rw [f113T_ev, f113W0_ev]
  rfl

abbrev f120h : Hn := h120
noncomputable abbrev f120f : Func := fn 20
noncomputable def f120T  (_z : Int) : Option Lf :=
 some (Lf.mk [(Pt.agg [(L.d (Pv.fz true) (Sh.i IntKind.i64) (0 : Int)), (L.d (Pv.fz true) (Sh.l (Sh.l (Sh.p Sh.s (Sh.p (Sh.l (Sh.p (Sh.i IntKind.i64) (Sh.p (Sh.i IntKind.i64) Sh.u))) Sh.u)))) ([[({ data := #[] }, [(0, 1, ())], ())]] : List (List (ByteArray × List (Int × Int × Unit) × Unit)))), (L.d (Pv.fz true) (Sh.l Sh.s) ([{ data := #[{ toBitVec := 97#8 }] }] : List ByteArray)), (L.d (Pv.fz true) (Sh.l (Sh.l (Sh.i IntKind.i64))) ([[0]] : List (List Int)))])] [] [])
noncomputable def f120M (_ : Nat) (_z : Int) : Option Lf := f120T  _z
theorem f120T_ev (n : Nat) (_z : Int) : evF C11 f120h n f120f [] [] = f120T  _z := by kernel_rfl
theorem f120_ev (n : Nat) (_z : Int) : evF C11 f120h n f120f [] [] = f120M n _z := by
  rw [f120T_ev]
  rfl
end Go.S11
