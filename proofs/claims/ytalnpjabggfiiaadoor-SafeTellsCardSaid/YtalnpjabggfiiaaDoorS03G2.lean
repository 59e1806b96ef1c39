/-
  Seat 03: functional forms of the functions that call those.
-/
import Derived.Test.YtalnpjabggfiiaaDoorS03B
open Go Go.En Go.S3
namespace Go.S3
noncomputable def l2 : List (Nat × En.Spec) := [(9, spII add), (10, spII sub), (11, spII mul), (12, spII gcd), (15, numS), (16, rgcdS), (22, add64S), (23, sizeS), (24, fitsS), (25, mul64S)]
noncomputable def C2 : Ctx := ctxOf C0 l2
def h14 : Hn := ⟨fun | 3 => [4, 8, 9, 10] | _ => [], fun _ => [], fun _ => false⟩

abbrev f8h : Hn := hn0
noncomputable abbrev f8f : Func := fn 8
noncomputable def f8T   : Option Lf :=
 some (Lf.mk [(Pt.one (L.d (Pv.fz true) Sh.b (numOf (mul 4611686018427387904 2).snd == 10 && ((add 3 4).fst == 7 && ((add 3 4).snd.isNil && (gcd 12 18).fst == 6)) : Bool)))] [] [])
noncomputable def f8M (_ : Nat)  : Option Lf := f8T  
theorem f8T_ev (n : Nat)  : evF C2 f8h n f8f [] [] = f8T   := by kernel_rfl
theorem f8_ev (n : Nat)  : evF C2 f8h n f8f [] [] = f8M n  := by
  rw [f8T_ev]
  rfl

abbrev f13h : Hn := hn0
noncomputable abbrev f13f : Func := fn 13
noncomputable def f13T  (a : Int) : Option Lf :=
 some (Lf.mk [(Pt.one (L.d (Pv.fz true) (Sh.i IntKind.i64) ((sub 0 a).fst : Int))), (Pt.one (L.d (Pv.fz true) Sh.e ((sub 0 a).snd : Er)))] [] [])
noncomputable def f13M (_ : Nat) (a : Int) : Option Lf := f13T  a
theorem f13T_ev (n : Nat) (a : Int) : evF C2 f13h n f13f [(D.p (Pt.one (L.d (Pv.fz true) (Sh.i IntKind.i64) a)))] [] = f13T  a := by kernel_rfl
theorem f13_ev (n : Nat) (a : Int) : evF C2 f13h n f13f [(D.p (Pt.one (L.d (Pv.fz true) (Sh.i IntKind.i64) a)))] [] = f13M n a := by
  rw [f13T_ev]
  rfl

abbrev f14h : Hn := h14
noncomputable abbrev f14f : Func := fn 14
abbrev f14G0 := Int → (List Int) → Int → Int → Option Lf
noncomputable def f14H0 (x0_0 : Int) (x0_1 : List Int) (x0_2 : Int) (x0_3 : Int) : St := (St.mk [dead, dead, dead, dead, (D.p (Pt.one (L.d (Pv.fz true) (Sh.i IntKind.i64) x0_0))), dead, dead, dead, (D.p (Pt.one (L.d (Pv.fz false) (Sh.l (Sh.i IntKind.i64)) x0_1))), (D.p (Pt.one (L.d (Pv.fz true) (Sh.i IntKind.i64) x0_2))), (D.p (Pt.one (L.d (Pv.fz true) (Sh.i IntKind.i64) x0_3))), dead, dead, dead, dead, dead, dead, dead, dead, dead, dead, dead, dead, dead, dead] [[], []])
noncomputable def f14S0  (g0 : f14G0) (x0_0 : Int) (x0_1 : List Int) (x0_2 : Int) (x0_3 : Int) : Option Lf :=
 bif decide (x0_3 < x0_2) then
  bif inb x0_3 x0_1.length then
   bif !(add x0_0 (x0_1.getD x0_3.toNat 0)).snd.isNil then
    some (Lf.mk [(Pt.one (L.d (Pv.fz true) (Sh.i IntKind.i64) (0 : Int))), (Pt.one (L.d (Pv.fz true) Sh.e ((add x0_0 (x0_1.getD x0_3.toNat 0)).snd : Er)))] [] [])
   else
    g0 ((add x0_0 (x0_1.getD (IntKind.i64, x0_3).snd.toNat (Sh.i IntKind.i64).zero)).fst : Int) (x0_1 : List Int) (x0_2 : Int) (IntKind.i64.wrap (x0_3 + 1) : Int)
  else
   none
 else
  some (Lf.mk [(Pt.one (L.d (Pv.fz true) (Sh.i IntKind.i64) (x0_0 : Int))), (Pt.one (L.d (Pv.fz true) Sh.e (Er.nil : Er)))] [] [])
noncomputable def f14L0 (n : Nat)  : Nat → f14G0
  | 0 => fun _ _ _ _ => none
  | m + 1 => fun x0_0 x0_1 x0_2 x0_3 => f14S0   (f14L0 n  m) x0_0 x0_1 x0_2 x0_3
noncomputable def f14W0 (G : St → Option Lf) : f14G0 := fun x0_0 x0_1 x0_2 x0_3 => G (f14H0 x0_0 x0_1 x0_2 x0_3)
theorem f14S0_ev (n : Nat)  (G : St → Option Lf) (x0_0 : Int) (x0_1 : List Int) (x0_2 : Int) (x0_3 : Int) : rnd C2 f14h n Lf (codeOf f14f) [1, 1, 0, 1, 0] [] (endK C2 f14h f14f) G (f14H0 x0_0 x0_1 x0_2 x0_3) = f14S0   (f14W0 G) x0_0 x0_1 x0_2 x0_3 := by kernel_rfl
theorem f14W0_ev (n : Nat)  : ∀ m, (f14W0 (lp C2 f14h n Lf (codeOf f14f) [1, 1, 0, 1, 0] [] (endK C2 f14h f14f) m)) = f14L0 n  m := by
  intro m
  induction m with
  | zero => funext x0_0 x0_1 x0_2 x0_3; exact lp_zero _
  | succ m ih =>
    funext x0_0 x0_1 x0_2 x0_3
    show lp C2 f14h n Lf (codeOf f14f) [1, 1, 0, 1, 0] [] (endK C2 f14h f14f) (m + 1) (f14H0 x0_0 x0_1 x0_2 x0_3) = f14S0   (f14L0 n  m) x0_0 x0_1 x0_2 x0_3
    rw [lp_succ, f14S0_ev, ih]
noncomputable def f14T (l0 : f14G0) (l : List Int) : Option Lf :=
 l0 (0 : Int) (l : List Int) (zn l.length : Int) (0 : Int)
noncomputable def f14M (n : Nat) (l : List Int) : Option Lf := f14T (f14L0 n n) l
theorem f14T_ev (n : Nat) (l : List Int) : evF C2 f14h n f14f [(D.p (Pt.one (L.d (Pv.fz false) (Sh.l (Sh.i IntKind.i64)) l)))] [] = f14T (f14W0 (lp C2 f14h n Lf (codeOf f14f) [1, 1, 0, 1, 0] [] (endK C2 f14h f14f) n)) l := by kernel_rfl
theorem f14_ev (n : Nat) (l : List Int) : evF C2 f14h n f14f [(D.p (Pt.one (L.d (Pv.fz false) (Sh.l (Sh.i IntKind.i64)) l)))] [] = f14M n l := by
  rw [f14T_ev, f14W0_ev]
  rfl

abbrev f17h : Hn := hn0
noncomputable abbrev f17f : Func := fn 17
noncomputable def f17T  (a : Int) (b : Int) : Option Lf :=
 bif decide (a < 0) == decide (b < 0) then
  bif decide (0 ≤ size a) && decide (0 ≤ size b) && true && true then
   some (Lf.mk [(Pt.one (L.d (Pv.fz true) (Sh.i IntKind.i64) ((fits ((size a + size b + 0) / 18446744073709551616) ((size a + size b + 0) % 18446744073709551616) (decide (a < 0))).fst : Int))), (Pt.one (L.d (Pv.fz true) Sh.b ((fits ((size a + size b + 0) / 18446744073709551616) ((size a + size b + 0) % 18446744073709551616) (decide (a < 0))).snd : Bool)))] [] [])
  else
   none
 else
  bif decide (size a ≥ size b) then
   some (Lf.mk [(Pt.one (L.d (Pv.fz true) (Sh.i IntKind.i64) ((fits 0 (IntKind.u64.wrap (size a - size b)) (decide (a < 0))).fst : Int))), (Pt.one (L.d (Pv.fz true) Sh.b ((fits 0 (IntKind.u64.wrap (size a - size b)) (decide (a < 0))).snd : Bool)))] [] [])
  else
   some (Lf.mk [(Pt.one (L.d (Pv.fz true) (Sh.i IntKind.i64) ((fits 0 (IntKind.u64.wrap (size b - size a)) (decide (b < 0))).fst : Int))), (Pt.one (L.d (Pv.fz true) Sh.b ((fits 0 (IntKind.u64.wrap (size b - size a)) (decide (b < 0))).snd : Bool)))] [] [])
noncomputable def f17M (_ : Nat) (a : Int) (b : Int) : Option Lf := f17T  a b
theorem f17T_ev (n : Nat) (a : Int) (b : Int) : evF C2 f17h n f17f [(D.p (Pt.one (L.d (Pv.fz true) (Sh.i IntKind.i64) a))), (D.p (Pt.one (L.d (Pv.fz true) (Sh.i IntKind.i64) b)))] [] = f17T  a b := by kernel_rfl
theorem f17_ev (n : Nat) (a : Int) (b : Int) : evF C2 f17h n f17f [(D.p (Pt.one (L.d (Pv.fz true) (Sh.i IntKind.i64) a))), (D.p (Pt.one (L.d (Pv.fz true) (Sh.i IntKind.i64) b)))] [] = f17M n a b := by
  rw [f17T_ev]
  rfl

abbrev f18h : Hn := hn0
noncomputable abbrev f18f : Func := fn 18
noncomputable def f18T  (a : Int) (e : Er) (b : Int) (c : Bool) : Option Lf :=
 bif !c then
  bif bif a == 0 then plain e && true else true then
   some (Lf.mk [(Pt.one (L.d (Pv.fz true) Sh.b (a == 0 && numOf e == 10 : Bool)))] [] [])
  else
   none
 else
  some (Lf.mk [(Pt.one (L.d (Pv.fz true) Sh.b (a == b && e.isNil : Bool)))] [] [])
noncomputable def f18M (_ : Nat) (a : Int) (e : Er) (b : Int) (c : Bool) : Option Lf := f18T  a e b c
theorem f18T_ev (n : Nat) (a : Int) (e : Er) (b : Int) (c : Bool) : evF C2 f18h n f18f [(D.p (Pt.one (L.d (Pv.fz true) (Sh.i IntKind.i64) a))), (D.p (Pt.one (L.d (Pv.fz false) Sh.e e))), (D.p (Pt.one (L.d (Pv.fz true) (Sh.i IntKind.i64) b))), (D.p (Pt.one (L.d (Pv.fz true) Sh.b c)))] [] = f18T  a e b c := by kernel_rfl
theorem f18_ev (n : Nat) (a : Int) (e : Er) (b : Int) (c : Bool) : evF C2 f18h n f18f [(D.p (Pt.one (L.d (Pv.fz true) (Sh.i IntKind.i64) a))), (D.p (Pt.one (L.d (Pv.fz false) Sh.e e))), (D.p (Pt.one (L.d (Pv.fz true) (Sh.i IntKind.i64) b))), (D.p (Pt.one (L.d (Pv.fz true) Sh.b c)))] [] = f18M n a e b c := by
  rw [f18T_ev]
  rfl

abbrev f20h : Hn := hn0
noncomputable abbrev f20f : Func := fn 20
noncomputable def f20T  (a : Int) (b : Int) : Option Lf :=
 some (Lf.mk [(Pt.one (L.d (Pv.fz true) (Sh.i IntKind.i64) ((fits (mulHi (size a) (size b)) (wu (size a * size b)) !decide (a < 0) == decide (b < 0)).fst : Int))), (Pt.one (L.d (Pv.fz true) Sh.b ((fits (mulHi (size a) (size b)) (wu (size a * size b)) !decide (a < 0) == decide (b < 0)).snd : Bool)))] [] [])
noncomputable def f20M (_ : Nat) (a : Int) (b : Int) : Option Lf := f20T  a b
theorem f20T_ev (n : Nat) (a : Int) (b : Int) : evF C2 f20h n f20f [(D.p (Pt.one (L.d (Pv.fz true) (Sh.i IntKind.i64) a))), (D.p (Pt.one (L.d (Pv.fz true) (Sh.i IntKind.i64) b)))] [] = f20T  a b := by kernel_rfl
theorem f20_ev (n : Nat) (a : Int) (b : Int) : evF C2 f20h n f20f [(D.p (Pt.one (L.d (Pv.fz true) (Sh.i IntKind.i64) a))), (D.p (Pt.one (L.d (Pv.fz true) (Sh.i IntKind.i64) b)))] [] = f20M n a b := by
  rw [f20T_ev]
  rfl
end Go.S3
