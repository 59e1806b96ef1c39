/-
  Seat 23: what Same, To, BinarySearch, at and number compute.
-/
import Derived.Test.YtkbablmhgnpmmaaDoorS23E
open Go Go.En Go.S23
namespace Go.S23
/-! ### contracts -/
def nanS : En.Spec := ⟨[], fun ds os => match ds, os with
  | [.p (.one (.d (.fz true) (.i .i64) _x))], [] => .leaf [pB false] [] []
  | _, _ => .fail⟩
def lessS : En.Spec := ⟨[], fun ds os => match ds, os with
  | [.p (.one (.d (.fz true) (.i .i64) x)), .p (.one (.d (.fz true) (.i .i64) y))], [] => .leaf [pB (decide (x < y))] [] []
  | _, _ => .fail⟩
noncomputable def C20 : Ctx := ctxOf C0 [(58, nanS)]
noncomputable def C21 : Ctx := ctxOf C0 [(50, lessS), (51, nanS)]
noncomputable def C22 : Ctx := ctxOf C0 [(21, rightS), (32, rightMS)]
abbrev owR : Ow := .p .z (.p (.l 68 .z) .z)
def roR (ch : List (List ChV)) : Ob := .ro true 0 58 (.l chSh) (.l 65 owR) ch none
def roI (l : List Int) : Ob := .ro true 0 3 (.i .i64) .z l none
def roB (l : List Bool) : Ob := .ro true 0 4 .b .z l none
def h17 : Hn := ⟨fun | 3 => [1, 2, 3, 4] | 7 => [1, 2, 3, 4, 5, 6] | 11 => [1, 2, 3, 4, 5, 6, 7, 8] | _ => [], fun | 3 => [⟨3, some 1, 58, .l 65 owR⟩] | 7 => [⟨5, none, 65, owR⟩] | 11 => [⟨7, some 1, 68, .z⟩] | _ => [], fun _ => false⟩
def h16 : Hn := ⟨fun | 4 => [2, 3, 5] | 9 => [2, 3, 6] | 14 => [2, 3, 6, 7] | 19 => [2, 3, 8] | 24 => [2, 3, 8, 9] | 30 => [2, 3, 8, 9, 10, 11, 12] | _ => [], fun _ => [], fun _ => false⟩
def h19 : Hn := ⟨fun | 4 => [1, 5, 7] | _ => [], fun _ => [], fun _ => false⟩
/-- the leaves of a product -/
def lsP (i : Int) (ch : List (List ChV)) (nm : List ByteArray) (ho : List (List Int)) (S Q : List Int) : List L := lsM i ch nm ho ++ [.d (.fz false) (.l (.i .i64)) S, .d (.fz false) (.l (.i .i64)) Q]
def dPr (i : Int) (ch : List (List ChV)) (nm : List ByteArray) (ho : List (List Int)) (S Q : List Int) : D := .p (.agg (lsP i ch nm ho S Q))
/-- the maker -/
def vaK (i lim : Int) (ov : Bool) (c h s q : En.Id) : Ob := .va [.d (.fz true) (.i .i64) i, .rw c, .nl, .rw h, .rw s, .rw q, .d (.fz true) (.i .i64) lim, .mp ⟨0, 5⟩, .d (.fz true) .b ov]
def roC (ch : List (List ChV)) : Ob := .ro true 0 59 (.l chSh) (.l 62 owC) ch none
abbrev KyV := (Int × Int × Unit) × Int
def maK (m : List KyV) : Ob := .ma kySh (.i .i64) m
def dKy (s q : Int) : D := .p (.agg [.d (.fz true) (.i .i64) s, .d (.fz true) (.i .i64) q])
def dMr (i : Int) (nm : List ByteArray) : D := .p (.agg [.d (.fz true) (.i .i64) i, .rw ⟨0, 0⟩, .d (.fz false) (.l .s) nm, .rw ⟨0, 1⟩])

abbrev f51h : Hn := hn0
noncomputable abbrev f51f : Func := fn 51
noncomputable def f51T  (x : Int) : Option Lf :=
 some (Lf.mk [(Pt.one (L.d (Pv.fz true) Sh.b (x != x : Bool)))] [] [])
noncomputable def f51M (_ : Nat) (x : Int) : Option Lf := f51T  x
theorem f51T_ev (n : Nat) (x : Int) : evF C1 f51h n f51f [(D.p (Pt.one (L.d (Pv.fz true) (Sh.i IntKind.i64) x)))] [] = f51T  x := by kernel_rfl
theorem f51_ev (n : Nat) (x : Int) : evF C1 f51h n f51f [(D.p (Pt.one (L.d (Pv.fz true) (Sh.i IntKind.i64) x)))] [] = f51M n x := by
  rw [f51T_ev]
  rfl

abbrev f58h : Hn := hn0
noncomputable abbrev f58f : Func := fn 58
noncomputable def f58T  (x : Int) : Option Lf :=
 some (Lf.mk [(Pt.one (L.d (Pv.fz true) Sh.b (x != x : Bool)))] [] [])
noncomputable def f58M (_ : Nat) (x : Int) : Option Lf := f58T  x
theorem f58T_ev (n : Nat) (x : Int) : evF C1 f58h n f58f [(D.p (Pt.one (L.d (Pv.fz true) (Sh.i IntKind.i64) x)))] [] = f58T  x := by kernel_rfl
theorem f58_ev (n : Nat) (x : Int) : evF C1 f58h n f58f [(D.p (Pt.one (L.d (Pv.fz true) (Sh.i IntKind.i64) x)))] [] = f58M n x := by
  rw [f58T_ev]
  rfl

abbrev f50h : Hn := hn0
noncomputable abbrev f50f : Func := fn 50
noncomputable def f50T  (x : Int) (y : Int) : Option Lf :=
 some (Lf.mk [(Pt.one (L.d (Pv.fz true) Sh.b (decide (x < y) : Bool)))] [] [])
noncomputable def f50M (_ : Nat) (x : Int) (y : Int) : Option Lf := f50T  x y
theorem f50T_ev (n : Nat) (x : Int) (y : Int) : evF C20 f50h n f50f [(D.p (Pt.one (L.d (Pv.fz true) (Sh.i IntKind.i64) x))), (D.p (Pt.one (L.d (Pv.fz true) (Sh.i IntKind.i64) y)))] [] = f50T  x y := by kernel_rfl
theorem f50_ev (n : Nat) (x : Int) (y : Int) : evF C20 f50h n f50f [(D.p (Pt.one (L.d (Pv.fz true) (Sh.i IntKind.i64) x))), (D.p (Pt.one (L.d (Pv.fz true) (Sh.i IntKind.i64) y)))] [] = f50M n x y := by
  rw [f50T_ev]
  rfl

abbrev f34h : Hn := h34
noncomputable abbrev f34f : Func := fn 34
abbrev f34G0 := (List Int) → Int → Int → Int → Int → Option Lf
noncomputable def f34H0 (x0_0 : List Int) (x0_1 : Int) (x0_2 : Int) (x0_3 : Int) (x0_4 : Int) : St := (St.mk [(D.p (Pt.one (L.d (Pv.fz false) (Sh.l (Sh.i IntKind.i64)) x0_0))), (D.p (Pt.one (L.d (Pv.fz true) (Sh.i IntKind.i64) x0_1))), dead, dead, dead, dead, (D.p (Pt.one (L.d (Pv.fz true) (Sh.i IntKind.i64) x0_2))), (D.p (Pt.one (L.d (Pv.fz true) (Sh.i IntKind.i64) x0_3))), (D.p (Pt.one (L.d (Pv.fz true) (Sh.i IntKind.i64) x0_4))), dead, dead, dead, dead, dead, dead, dead, dead, dead, dead, dead, dead, dead, dead, dead, dead, dead, dead, dead, dead, dead, dead, dead, dead, dead, dead, dead, dead, dead, dead, dead, dead, dead, dead, dead, dead, dead, dead, dead, dead, dead, dead, dead, dead, dead] [[], []])
noncomputable def f34W0 (G : St → Option Lf) : f34G0 := fun x0_0 x0_1 x0_2 x0_3 x0_4 => G (f34H0 x0_0 x0_1 x0_2 x0_3 x0_4)
noncomputable def f34S0  (g0 : f34G0) (x0_0 : List Int) (x0_1 : Int) (x0_2 : Int) (x0_3 : Int) (x0_4 : Int) : Option Lf :=
 bif decide (x0_3 < x0_4) then
  bif inb (IntKind.i64.wrap (shrF IntKind.u64 (IntKind.u64.wrap (IntKind.i64.wrap (x0_3 + x0_4))) 1)) x0_0.length then
   bif decide (x0_0.getD (IntKind.i64.wrap (shrF IntKind.u64 (IntKind.u64.wrap (IntKind.i64.wrap (x0_3 + x0_4))) 1)).toNat 0 < x0_1) then
    g0 (x0_0 : List Int) (x0_1 : Int) (x0_2 : Int) (IntKind.i64.wrap (IntKind.i64.wrap (shrF IntKind.u64 (IntKind.u64.wrap (IntKind.i64.wrap (x0_3 + x0_4))) 1) + 1) : Int) (x0_4 : Int)
   else
    g0 (x0_0 : List Int) (x0_1 : Int) (x0_2 : Int) (x0_3 : Int) (IntKind.i64.wrap (shrF IntKind.u64 (IntKind.u64.wrap (IntKind.i64.wrap (x0_3 + x0_4))) 1) : Int)
  else
   none
 else
  bif bif decide (x0_3 < x0_2) then Nat.beq 1 1 && (inb x0_3 x0_0.length && (Nat.beq 1 1 && (x0_0.getD x0_3.toNat 0 == x0_1 || Nat.beq 1 1 && (inb x0_3 x0_0.length && true)))) else true then
   some (Lf.mk [(Pt.one (L.d (Pv.fz true) (Sh.i IntKind.i64) (bif decide (x0_3 < x0_2) then bif x0_0.getD x0_3.toNat 0 == x0_1 then x0_3 else x0_3 else x0_3 : Int))), (Pt.one (L.d (Pv.fz true) Sh.b (decide (x0_3 < x0_2) && (x0_0.getD x0_3.toNat 0 == x0_1 && true) : Bool)))] [] [])
  else
   none
noncomputable def f34L0 (n : Nat)  : Nat → f34G0
  | 0 => fun _ _ _ _ _ => none
  | m + 1 => fun x0_0 x0_1 x0_2 x0_3 x0_4 => f34S0   (f34L0 n  m) x0_0 x0_1 x0_2 x0_3 x0_4
theorem f34S0_ev (n : Nat)  (G : St → Option Lf) (x0_0 : List Int) (x0_1 : Int) (x0_2 : Int) (x0_3 : Int) (x0_4 : Int) : rnd C21 f34h n Lf (codeOf f34f) [1, 1, 1, 0, 0] [] (endK C21 f34h f34f) G (f34H0 x0_0 x0_1 x0_2 x0_3 x0_4) = f34S0   (f34W0 G) x0_0 x0_1 x0_2 x0_3 x0_4 := by kernel_rfl
theorem f34W0_ev (n : Nat)  : ∀ m, (f34W0 (lp C21 f34h n Lf (codeOf f34f) [1, 1, 1, 0, 0] [] (endK C21 f34h f34f) m)) = f34L0 n  m := by
  intro m
  induction m with
  | zero => funext x0_0 x0_1 x0_2 x0_3 x0_4; exact lp_zero _
  | succ m ih =>
    funext x0_0 x0_1 x0_2 x0_3 x0_4
    show lp C21 f34h n Lf (codeOf f34f) [1, 1, 1, 0, 0] [] (endK C21 f34h f34f) (m + 1) (f34H0 x0_0 x0_1 x0_2 x0_3 x0_4) = f34S0   (f34L0 n  m) x0_0 x0_1 x0_2 x0_3 x0_4
    rw [lp_succ, f34S0_ev, ih]
noncomputable def f34T (l0 : f34G0) (l : List Int) (x : Int) : Option Lf :=
 l0 (l : List Int) (x : Int) (zn l.length : Int) (0 : Int) (zn l.length : Int)
noncomputable def f34M (n : Nat) (l : List Int) (x : Int) : Option Lf := f34T (f34L0 n n) l x
theorem f34T_ev (n : Nat) (l : List Int) (x : Int) : evF C21 f34h n f34f [(D.p (Pt.one (L.d (Pv.fz false) (Sh.l (Sh.i IntKind.i64)) l))), (D.p (Pt.one (L.d (Pv.fz true) (Sh.i IntKind.i64) x)))] [] = f34T (f34W0 (lp C21 f34h n Lf (codeOf f34f) [1, 1, 1, 0, 0] [] (endK C21 f34h f34f) n)) l x := by kernel_rfl
theorem f34_ev (n : Nat) (l : List Int) (x : Int) : evF C21 f34h n f34f [(D.p (Pt.one (L.d (Pv.fz false) (Sh.l (Sh.i IntKind.i64)) l))), (D.p (Pt.one (L.d (Pv.fz true) (Sh.i IntKind.i64) x)))] [] = f34M n l x := by
  rw [f34T_ev, f34W0_ev]
  rfl

abbrev f25h : Hn := hn0
noncomputable abbrev f25f : Func := fn 25
noncomputable def f25T   : Option Lf :=
 some (Lf.mk [(Pt.agg [(L.d (Pv.fz true) (Sh.i IntKind.i64) (0 : Int)), (L.rw (Id.mk 1 0)), (L.rw (Id.mk 1 1)), (L.rw (Id.mk 1 2))])] [] [(Ob.ro true 0 58 (Sh.l (Sh.p Sh.s (Sh.p (Sh.l (Sh.p (Sh.i IntKind.i64) (Sh.p (Sh.i IntKind.i64) Sh.u))) Sh.u))) (Ow.l 65 (Ow.p Ow.z (Ow.p (Ow.l 68 Ow.z) Ow.z))) ([[({ data := #[] }, [(0, 1, ())], ())]] : List (List (ByteArray × List (Int × Int × Unit) × Unit))) Option.none), (Ob.ro true 0 9 Sh.s Ow.z ([{ data := #[{ toBitVec := 97#8 }] }] : List ByteArray) Option.none), (Ob.ro true 0 27 (Sh.l (Sh.i IntKind.i64)) (Ow.l 3 Ow.z) ([[0]] : List (List Int)) Option.none)])
noncomputable def f25M (_ : Nat)  : Option Lf := f25T  
theorem f25T_ev (n : Nat)  : evF C1 f25h n f25f [] [] = f25T   := by kernel_rfl
theorem f25_ev (n : Nat)  : evF C1 f25h n f25f [] [] = f25M n  := by
  rw [f25T_ev]
  rfl

abbrev f17h : Hn := h17
noncomputable abbrev f17f : Func := fn 17
abbrev f17G0 := Int → (List (List (ByteArray × List (Int × Int × Unit) × Unit))) → (List (List Int)) → Int → (List ByteArray) → Int → Int → (List ByteArray) → (List (List (ByteArray × List (Int × Int × Unit) × Unit))) → Option Lf
noncomputable def f17H0 (x0_0 : Int) (x0_1 : List (List (ByteArray × List (Int × Int × Unit) × Unit))) (x0_2 : List (List Int)) (x0_3 : Int) (x0_4 : List ByteArray) (x0_5 : Int) (x0_6 : Int) (x0_7 : List ByteArray) (x0_8 : List (List (ByteArray × List (Int × Int × Unit) × Unit))) : St := (St.mk [dead, (D.p (Pt.one (L.pv (Id.mk 1 0) 0))), (D.p (Pt.one (L.pv (Id.mk 1 1) 0))), (D.p (Pt.one (L.pv (Id.mk 1 2) 0))), (D.p (Pt.one (L.d (Pv.fz true) (Sh.i IntKind.i64) x0_0))), dead, dead, dead, dead, dead, dead, dead, dead, dead, dead, dead, dead, dead, dead, dead, dead, dead, dead, dead, dead, dead, dead, dead, dead, dead, dead, dead, dead, dead, dead, dead, dead, dead, dead, dead, dead, dead, dead, dead, dead, dead, dead, dead, dead, dead, dead, dead, dead, dead, dead, dead, dead, dead, dead, dead, dead, dead, dead, dead, dead, dead, dead, dead, dead, dead, dead, dead, dead, dead, dead, dead, dead, dead, dead, dead, dead, dead, dead, dead, dead] [[(Ob.ro true 0 59 (Sh.l (Sh.p Sh.s (Sh.p (Sh.l (Sh.p (Sh.i IntKind.i64) (Sh.p (Sh.i IntKind.i64) Sh.u))) Sh.u))) (Ow.l 62 (Ow.p Ow.z (Ow.p (Ow.l 67 Ow.z) Ow.z))) x0_1 Option.none), (Ob.ro true 0 27 (Sh.l (Sh.i IntKind.i64)) (Ow.l 3 Ow.z) x0_2 Option.none)], [(Ob.va [(L.d (Pv.fz true) (Sh.i IntKind.i64) x0_3), (L.rw (Id.mk 0 0)), (L.d (Pv.fz false) (Sh.l Sh.s) x0_4), (L.rw (Id.mk 0 1))]), (Ob.va [(L.d (Pv.fz true) (Sh.i IntKind.i64) x0_5), L.nl, L.nl, L.nl]), (Ob.va [(L.d (Pv.fz true) (Sh.i IntKind.i64) x0_6), (L.rw (Id.mk 1 3)), (L.d (Pv.fz false) (Sh.l Sh.s) x0_7), (L.rw (Id.mk 0 1))]), (Ob.ro true 0 58 (Sh.l (Sh.p Sh.s (Sh.p (Sh.l (Sh.p (Sh.i IntKind.i64) (Sh.p (Sh.i IntKind.i64) Sh.u))) Sh.u))) (Ow.l 65 (Ow.p Ow.z (Ow.p (Ow.l 68 Ow.z) Ow.z))) x0_8 Option.none)]])
noncomputable def f17W0 (G : St → Option Lf) : f17G0 := fun x0_0 x0_1 x0_2 x0_3 x0_4 x0_5 x0_6 x0_7 x0_8 => G (f17H0 x0_0 x0_1 x0_2 x0_3 x0_4 x0_5 x0_6 x0_7 x0_8)
abbrev f17G1 := Int → Int → (List (List (ByteArray × List (Int × Int × Unit) × Unit))) → (List (List Int)) → Int → (List ByteArray) → Int → Int → (List ByteArray) → (List (ByteArray × List (Int × Int × Unit) × Unit)) → (List (List (ByteArray × List (Int × Int × Unit) × Unit))) → Option Lf
noncomputable def f17H1 (x1_0 : Int) (x1_1 : Int) (x1_2 : List (List (ByteArray × List (Int × Int × Unit) × Unit))) (x1_3 : List (List Int)) (x1_4 : Int) (x1_5 : List ByteArray) (x1_6 : Int) (x1_7 : Int) (x1_8 : List ByteArray) (x1_9 : List (ByteArray × List (Int × Int × Unit) × Unit)) (x1_10 : List (List (ByteArray × List (Int × Int × Unit) × Unit))) : St := (St.mk [dead, (D.p (Pt.one (L.pv (Id.mk 1 0) 0))), (D.p (Pt.one (L.pv (Id.mk 1 1) 0))), (D.p (Pt.one (L.pv (Id.mk 1 2) 0))), (D.p (Pt.one (L.d (Pv.fz true) (Sh.i IntKind.i64) x1_0))), (D.p (Pt.one (L.rw (Id.mk 1 3)))), (D.p (Pt.one (L.d (Pv.fz true) (Sh.i IntKind.i64) x1_1))), dead, dead, dead, dead, dead, dead, dead, dead, dead, dead, dead, dead, dead, dead, dead, dead, dead, dead, dead, dead, dead, dead, dead, dead, dead, dead, dead, dead, dead, dead, dead, dead, dead, dead, dead, dead, dead, dead, dead, dead, dead, dead, dead, dead, dead, dead, dead, dead, dead, dead, dead, dead, dead, dead, dead, dead, dead, dead, dead, dead, dead, dead, dead, dead, dead, dead, dead, dead, dead, dead, dead, dead, dead, dead, dead, dead, dead, dead] [[(Ob.ro true 0 59 (Sh.l (Sh.p Sh.s (Sh.p (Sh.l (Sh.p (Sh.i IntKind.i64) (Sh.p (Sh.i IntKind.i64) Sh.u))) Sh.u))) (Ow.l 62 (Ow.p Ow.z (Ow.p (Ow.l 67 Ow.z) Ow.z))) x1_2 Option.none), (Ob.ro true 0 27 (Sh.l (Sh.i IntKind.i64)) (Ow.l 3 Ow.z) x1_3 Option.none)], [(Ob.va [(L.d (Pv.fz true) (Sh.i IntKind.i64) x1_4), (L.rw (Id.mk 0 0)), (L.d (Pv.fz false) (Sh.l Sh.s) x1_5), (L.rw (Id.mk 0 1))]), (Ob.va [(L.d (Pv.fz true) (Sh.i IntKind.i64) x1_6), L.nl, L.nl, L.nl]), (Ob.va [(L.d (Pv.fz true) (Sh.i IntKind.i64) x1_7), (L.rw (Id.mk 1 4)), (L.d (Pv.fz false) (Sh.l Sh.s) x1_8), (L.rw (Id.mk 0 1))]), (Ob.ro true 0 65 (Sh.p Sh.s (Sh.p (Sh.l (Sh.p (Sh.i IntKind.i64) (Sh.p (Sh.i IntKind.i64) Sh.u))) Sh.u)) (Ow.p Ow.z (Ow.p (Ow.l 68 Ow.z) Ow.z)) x1_9 Option.none), (Ob.ro true 0 58 (Sh.l (Sh.p Sh.s (Sh.p (Sh.l (Sh.p (Sh.i IntKind.i64) (Sh.p (Sh.i IntKind.i64) Sh.u))) Sh.u))) (Ow.l 65 (Ow.p Ow.z (Ow.p (Ow.l 68 Ow.z) Ow.z))) x1_10 Option.none)]])
noncomputable def f17W1 (G : St → Option Lf) : f17G1 := fun x1_0 x1_1 x1_2 x1_3 x1_4 x1_5 x1_6 x1_7 x1_8 x1_9 x1_10 => G (f17H1 x1_0 x1_1 x1_2 x1_3 x1_4 x1_5 x1_6 x1_7 x1_8 x1_9 x1_10)
abbrev f17G2 := Int → Int → Int → (List (List (ByteArray × List (Int × Int × Unit) × Unit))) → (List (List Int)) → Int → (List ByteArray) → Int → Int → (List ByteArray) → (List (ByteArray × List (Int × Int × Unit) × Unit)) → ByteArray → (List (List (ByteArray × List (Int × Int × Unit) × Unit))) → (List (Int × Int × Unit)) → Option Lf
noncomputable def f17H2 (x2_0 : Int) (x2_1 : Int) (x2_2 : Int) (x2_3 : List (List (ByteArray × List (Int × Int × Unit) × Unit))) (x2_4 : List (List Int)) (x2_5 : Int) (x2_6 : List ByteArray) (x2_7 : Int) (x2_8 : Int) (x2_9 : List ByteArray) (x2_10 : List (ByteArray × List (Int × Int × Unit) × Unit)) (x2_11 : ByteArray) (x2_12 : List (List (ByteArray × List (Int × Int × Unit) × Unit))) (x2_13 : List (Int × Int × Unit)) : St := (St.mk [dead, (D.p (Pt.one (L.pv (Id.mk 1 0) 0))), (D.p (Pt.one (L.pv (Id.mk 1 1) 0))), (D.p (Pt.one (L.pv (Id.mk 1 2) 0))), (D.p (Pt.one (L.d (Pv.fz true) (Sh.i IntKind.i64) x2_0))), (D.p (Pt.one (L.rw (Id.mk 1 3)))), (D.p (Pt.one (L.d (Pv.fz true) (Sh.i IntKind.i64) x2_1))), (D.p (Pt.one (L.pv (Id.mk 1 4) 0))), (D.p (Pt.one (L.d (Pv.fz true) (Sh.i IntKind.i64) x2_2))), dead, dead, dead, dead, dead, dead, dead, dead, dead, dead, dead, dead, dead, dead, dead, dead, dead, dead, dead, dead, dead, dead, dead, dead, dead, dead, dead, dead, dead, dead, dead, dead, dead, dead, dead, dead, dead, dead, dead, dead, dead, dead, dead, dead, dead, dead, dead, dead, dead, dead, dead, dead, dead, dead, dead, dead, dead, dead, dead, dead, dead, dead, dead, dead, dead, dead, dead, dead, dead, dead, dead, dead, dead, dead, dead, dead] [[(Ob.ro true 0 59 (Sh.l (Sh.p Sh.s (Sh.p (Sh.l (Sh.p (Sh.i IntKind.i64) (Sh.p (Sh.i IntKind.i64) Sh.u))) Sh.u))) (Ow.l 62 (Ow.p Ow.z (Ow.p (Ow.l 67 Ow.z) Ow.z))) x2_3 Option.none), (Ob.ro true 0 27 (Sh.l (Sh.i IntKind.i64)) (Ow.l 3 Ow.z) x2_4 Option.none)], [(Ob.va [(L.d (Pv.fz true) (Sh.i IntKind.i64) x2_5), (L.rw (Id.mk 0 0)), (L.d (Pv.fz false) (Sh.l Sh.s) x2_6), (L.rw (Id.mk 0 1))]), (Ob.va [(L.d (Pv.fz true) (Sh.i IntKind.i64) x2_7), L.nl, L.nl, L.nl]), (Ob.va [(L.d (Pv.fz true) (Sh.i IntKind.i64) x2_8), (L.rw (Id.mk 1 5)), (L.d (Pv.fz false) (Sh.l Sh.s) x2_9), (L.rw (Id.mk 0 1))]), (Ob.ro true 0 65 (Sh.p Sh.s (Sh.p (Sh.l (Sh.p (Sh.i IntKind.i64) (Sh.p (Sh.i IntKind.i64) Sh.u))) Sh.u)) (Ow.p Ow.z (Ow.p (Ow.l 68 Ow.z) Ow.z)) x2_10 Option.none), (Ob.va [(L.d (Pv.fz true) Sh.s x2_11), (L.rw (Id.mk 1 6))]), (Ob.ro true 0 58 (Sh.l (Sh.p Sh.s (Sh.p (Sh.l (Sh.p (Sh.i IntKind.i64) (Sh.p (Sh.i IntKind.i64) Sh.u))) Sh.u))) (Ow.l 65 (Ow.p Ow.z (Ow.p (Ow.l 68 Ow.z) Ow.z))) x2_12 Option.none), (Ob.ro true 0 68 (Sh.p (Sh.i IntKind.i64) (Sh.p (Sh.i IntKind.i64) Sh.u)) Ow.z x2_13 Option.none)]])
noncomputable def f17W2 (G : St → Option Lf) : f17G2 := fun x2_0 x2_1 x2_2 x2_3 x2_4 x2_5 x2_6 x2_7 x2_8 x2_9 x2_10 x2_11 x2_12 x2_13 => G (f17H2 x2_0 x2_1 x2_2 x2_3 x2_4 x2_5 x2_6 x2_7 x2_8 x2_9 x2_10 x2_11 x2_12 x2_13)
noncomputable def f17S2  (g0 : f17G0) (g1 : f17G1) (g2 : f17G2) (x2_0 : Int) (x2_1 : Int) (x2_2 : Int) (x2_3 : List (List (ByteArray × List (Int × Int × Unit) × Unit))) (x2_4 : List (List Int)) (x2_5 : Int) (x2_6 : List ByteArray) (x2_7 : Int) (x2_8 : Int) (x2_9 : List ByteArray) (x2_10 : List (ByteArray × List (Int × Int × Unit) × Unit)) (x2_11 : ByteArray) (x2_12 : List (List (ByteArray × List (Int × Int × Unit) × Unit))) (x2_13 : List (Int × Int × Unit)) : Option Lf :=
 bif inb x2_0 x2_3.length then
  bif inb x2_1 (x2_3.getD x2_0.toNat []).length then
   bif decide (x2_2 < zn ((x2_3.getD x2_0.toNat []).getD x2_1.toNat ({ data := #[] }, [], ())).snd.fst.length) then
    bif inb x2_0 x2_3.length then
     bif inb x2_1 (x2_3.getD x2_0.toNat []).length then
      bif inb x2_2 ((x2_3.getD x2_0.toNat []).getD x2_1.toNat ({ data := #[] }, [], ())).snd.fst.length then
       bif decide ((x2_13.length + [((((x2_3.getD x2_0.toNat []).getD x2_1.toNat ({ data := #[] }, [], ())).snd.fst.getD x2_2.toNat (0, 0, ())).fst, (((x2_3.getD x2_0.toNat []).getD x2_1.toNat ({ data := #[] }, [], ())).snd.fst.getD x2_2.toNat (0, 0, ())).snd.fst, ())].length) * 16 ≤ 140737488355328) then
        g2 (x2_0 : Int) (x2_1 : Int) (IntKind.i64.wrap (x2_2 + 1) : Int) (x2_3 : List (List (ByteArray × List (Int × Int × Unit) × Unit))) (x2_4 : List (List Int)) (x2_5 : Int) (x2_6 : List ByteArray) (x2_7 : Int) (x2_8 : Int) (x2_9 : List ByteArray) (x2_10 : List (ByteArray × List (Int × Int × Unit) × Unit)) (x2_11 : ByteArray) (x2_12 : List (List (ByteArray × List (Int × Int × Unit) × Unit))) (x2_13 ++ [((((x2_3.getD x2_0.toNat []).getD x2_1.toNat ({ data := #[] }, [], ())).snd.fst.getD x2_2.toNat (0, 0, ())).fst, (((x2_3.getD x2_0.toNat []).getD x2_1.toNat ({ data := #[] }, [], ())).snd.fst.getD x2_2.toNat (0, 0, ())).snd.fst, ())] : List (Int × Int × Unit))
       else
        none
      else
       none
     else
      none
    else
     none
   else
    bif decide ((x2_10.length + [(x2_11, x2_13, ())].length) * 40 ≤ 140737488355328) then
     g1 (x2_0 : Int) (IntKind.i64.wrap (x2_1 + 1) : Int) (x2_3 : List (List (ByteArray × List (Int × Int × Unit) × Unit))) (x2_4 : List (List Int)) (x2_5 : Int) (x2_6 : List ByteArray) (x2_7 : Int) (x2_8 : Int) (x2_9 : List ByteArray) (x2_10 ++ [(x2_11, x2_13, ())] : List (ByteArray × List (Int × Int × Unit) × Unit)) (x2_12 : List (List (ByteArray × List (Int × Int × Unit) × Unit)))
    else
     none
  else
   none
 else
  none
noncomputable def f17L2 (n : Nat) (g0 : f17G0) (g1 : f17G1) : Nat → f17G2
  | 0 => fun _ _ _ _ _ _ _ _ _ _ _ _ _ _ => none
  | m + 1 => fun x2_0 x2_1 x2_2 x2_3 x2_4 x2_5 x2_6 x2_7 x2_8 x2_9 x2_10 x2_11 x2_12 x2_13 => f17S2  g0 g1 (f17L2 n g0 g1 m) x2_0 x2_1 x2_2 x2_3 x2_4 x2_5 x2_6 x2_7 x2_8 x2_9 x2_10 x2_11 x2_12 x2_13
theorem f17S2_ev (n : Nat) (G0 : St → Option Lf) (G1 : St → Option Lf) (G : St → Option Lf) (x2_0 : Int) (x2_1 : Int) (x2_2 : Int) (x2_3 : List (List (ByteArray × List (Int × Int × Unit) × Unit))) (x2_4 : List (List Int)) (x2_5 : Int) (x2_6 : List ByteArray) (x2_7 : Int) (x2_8 : Int) (x2_9 : List ByteArray) (x2_10 : List (ByteArray × List (Int × Int × Unit) × Unit)) (x2_11 : ByteArray) (x2_12 : List (List (ByteArray × List (Int × Int × Unit) × Unit))) (x2_13 : List (Int × Int × Unit)) : rnd C1 f17h n Lf (codeOf f17f) [1, 1, 0, 1, 0, 0, 1, 0, 0, 1, 0, 1, 0, 0, 1, 0, 0, 1, 0, 1, 0] [G0, G1] (endK C1 f17h f17f) G (f17H2 x2_0 x2_1 x2_2 x2_3 x2_4 x2_5 x2_6 x2_7 x2_8 x2_9 x2_10 x2_11 x2_12 x2_13) = f17S2  (f17W0 G0) (f17W1 G1) (f17W2 G) x2_0 x2_1 x2_2 x2_3 x2_4 x2_5 x2_6 x2_7 x2_8 x2_9 x2_10 x2_11 x2_12 x2_13 := by kernel_rfl
theorem f17W2_ev (n : Nat) (G0 : St → Option Lf) (G1 : St → Option Lf) : ∀ m, (f17W2 (lp C1 f17h n Lf (codeOf f17f) [1, 1, 0, 1, 0, 0, 1, 0, 0, 1, 0, 1, 0, 0, 1, 0, 0, 1, 0, 1, 0] [G0, G1] (endK C1 f17h f17f) m)) = f17L2 n (f17W0 G0) (f17W1 G1) m := by
  intro m
  induction m with
  | zero => funext x2_0 x2_1 x2_2 x2_3 x2_4 x2_5 x2_6 x2_7 x2_8 x2_9 x2_10 x2_11 x2_12 x2_13; exact lp_zero _
  | succ m ih =>
    funext x2_0 x2_1 x2_2 x2_3 x2_4 x2_5 x2_6 x2_7 x2_8 x2_9 x2_10 x2_11 x2_12 x2_13
    show lp C1 f17h n Lf (codeOf f17f) [1, 1, 0, 1, 0, 0, 1, 0, 0, 1, 0, 1, 0, 0, 1, 0, 0, 1, 0, 1, 0] [G0, G1] (endK C1 f17h f17f) (m + 1) (f17H2 x2_0 x2_1 x2_2 x2_3 x2_4 x2_5 x2_6 x2_7 x2_8 x2_9 x2_10 x2_11 x2_12 x2_13) = f17S2  (f17W0 G0) (f17W1 G1) (f17L2 n (f17W0 G0) (f17W1 G1) m) x2_0 x2_1 x2_2 x2_3 x2_4 x2_5 x2_6 x2_7 x2_8 x2_9 x2_10 x2_11 x2_12 x2_13
    rw [lp_succ, f17S2_ev, ih]
noncomputable def f17S1 (l2 : f17G2) (g0 : f17G0) (g1 : f17G1) (x1_0 : Int) (x1_1 : Int) (x1_2 : List (List (ByteArray × List (Int × Int × Unit) × Unit))) (x1_3 : List (List Int)) (x1_4 : Int) (x1_5 : List ByteArray) (x1_6 : Int) (x1_7 : Int) (x1_8 : List ByteArray) (x1_9 : List (ByteArray × List (Int × Int × Unit) × Unit)) (x1_10 : List (List (ByteArray × List (Int × Int × Unit) × Unit))) : Option Lf :=
 bif inb x1_0 x1_2.length then
  bif decide (x1_1 < zn (x1_2.getD x1_0.toNat []).length) then
   bif inb x1_0 x1_2.length then
    bif inb x1_1 (x1_2.getD x1_0.toNat []).length then
     l2 (x1_0 : Int) (x1_1 : Int) (0 : Int) (x1_2 : List (List (ByteArray × List (Int × Int × Unit) × Unit))) (x1_3 : List (List Int)) (x1_4 : Int) (x1_5 : List ByteArray) (x1_6 : Int) (x1_7 : Int) (x1_8 : List ByteArray) (x1_9 : List (ByteArray × List (Int × Int × Unit) × Unit)) (((x1_2.getD x1_0.toNat []).getD x1_1.toNat ({ data := #[] }, [], ())).fst : ByteArray) (x1_10 : List (List (ByteArray × List (Int × Int × Unit) × Unit))) ([] : List (Int × Int × Unit))
    else
     none
   else
    none
  else
   bif decide ((x1_10.length + [x1_9].length) * 24 ≤ 140737488355328) then
    g0 (IntKind.i64.wrap (x1_0 + 1) : Int) (x1_2 : List (List (ByteArray × List (Int × Int × Unit) × Unit))) (x1_3 : List (List Int)) (x1_4 : Int) (x1_5 : List ByteArray) (x1_6 : Int) (x1_7 : Int) (x1_8 : List ByteArray) (x1_10 ++ [x1_9] : List (List (ByteArray × List (Int × Int × Unit) × Unit)))
   else
    none
 else
  none
noncomputable def f17L1 (n : Nat) (g0 : f17G0) : Nat → f17G1
  | 0 => fun _ _ _ _ _ _ _ _ _ _ _ => none
  | m + 1 => fun x1_0 x1_1 x1_2 x1_3 x1_4 x1_5 x1_6 x1_7 x1_8 x1_9 x1_10 => f17S1 (f17L2 n g0 (f17L1 n g0 m) n) g0 (f17L1 n g0 m) x1_0 x1_1 x1_2 x1_3 x1_4 x1_5 x1_6 x1_7 x1_8 x1_9 x1_10
theorem f17S1_ev (n : Nat) (G0 : St → Option Lf) (G : St → Option Lf) (x1_0 : Int) (x1_1 : Int) (x1_2 : List (List (ByteArray × List (Int × Int × Unit) × Unit))) (x1_3 : List (List Int)) (x1_4 : Int) (x1_5 : List ByteArray) (x1_6 : Int) (x1_7 : Int) (x1_8 : List ByteArray) (x1_9 : List (ByteArray × List (Int × Int × Unit) × Unit)) (x1_10 : List (List (ByteArray × List (Int × Int × Unit) × Unit))) : rnd C1 f17h n Lf (codeOf f17f) [1, 1, 0, 1, 0, 0, 1, 0, 0, 1, 0, 1, 0] [G0] (endK C1 f17h f17f) G (f17H1 x1_0 x1_1 x1_2 x1_3 x1_4 x1_5 x1_6 x1_7 x1_8 x1_9 x1_10) = f17S1 (f17W2 (lp C1 f17h n Lf (codeOf f17f) [1, 1, 0, 1, 0, 0, 1, 0, 0, 1, 0, 1, 0, 0, 1, 0, 0, 1, 0, 1, 0] [G0, G] (endK C1 f17h f17f) n)) (f17W0 G0) (f17W1 G) x1_0 x1_1 x1_2 x1_3 x1_4 x1_5 x1_6 x1_7 x1_8 x1_9 x1_10 := by kernel_rfl
theorem f17W1_ev (n : Nat) (G0 : St → Option Lf) : ∀ m, (f17W1 (lp C1 f17h n Lf (codeOf f17f) [1, 1, 0, 1, 0, 0, 1, 0, 0, 1, 0, 1, 0] [G0] (endK C1 f17h f17f) m)) = f17L1 n (f17W0 G0) m := by
  intro m
  induction m with
  | zero => funext x1_0 x1_1 x1_2 x1_3 x1_4 x1_5 x1_6 x1_7 x1_8 x1_9 x1_10; exact lp_zero _
  | succ m ih =>
    have e2 : (f17W2 (lp C1 f17h n Lf (codeOf f17f) [1, 1, 0, 1, 0, 0, 1, 0, 0, 1, 0, 1, 0, 0, 1, 0, 0, 1, 0, 1, 0] [G0, (lp C1 f17h n Lf (codeOf f17f) [1, 1, 0, 1, 0, 0, 1, 0, 0, 1, 0, 1, 0] [G0] (endK C1 f17h f17f) m)] (endK C1 f17h f17f) n)) = (f17L2 n (f17W0 G0) (f17L1 n (f17W0 G0) m) n) := by
      rw [f17W2_ev, ih]
    funext x1_0 x1_1 x1_2 x1_3 x1_4 x1_5 x1_6 x1_7 x1_8 x1_9 x1_10
    show lp C1 f17h n Lf (codeOf f17f) [1, 1, 0, 1, 0, 0, 1, 0, 0, 1, 0, 1, 0] [G0] (endK C1 f17h f17f) (m + 1) (f17H1 x1_0 x1_1 x1_2 x1_3 x1_4 x1_5 x1_6 x1_7 x1_8 x1_9 x1_10) = f17S1 (f17L2 n (f17W0 G0) (f17L1 n (f17W0 G0) m) n) (f17W0 G0) (f17L1 n (f17W0 G0) m) x1_0 x1_1 x1_2 x1_3 x1_4 x1_5 x1_6 x1_7 x1_8 x1_9 x1_10
    rw [lp_succ, f17S1_ev, ih, e2]
noncomputable def f17S0 (l1 : f17G1) (g0 : f17G0) (x0_0 : Int) (x0_1 : List (List (ByteArray × List (Int × Int × Unit) × Unit))) (x0_2 : List (List Int)) (x0_3 : Int) (x0_4 : List ByteArray) (x0_5 : Int) (x0_6 : Int) (x0_7 : List ByteArray) (x0_8 : List (List (ByteArray × List (Int × Int × Unit) × Unit))) : Option Lf :=
 bif decide (x0_0 < zn x0_1.length) then
  l1 (x0_0 : Int) (0 : Int) (x0_1 : List (List (ByteArray × List (Int × Int × Unit) × Unit))) (x0_2 : List (List Int)) (x0_3 : Int) (x0_4 : List ByteArray) (x0_5 : Int) (x0_6 : Int) (x0_7 : List ByteArray) ([] : List (ByteArray × List (Int × Int × Unit) × Unit)) (x0_8 : List (List (ByteArray × List (Int × Int × Unit) × Unit)))
 else
  some (Lf.mk [(Pt.agg [(L.d (Pv.fz true) (Sh.i IntKind.i64) (x0_6 : Int)), (L.rw (Id.mk 1 0)), (L.d (Pv.fz false) (Sh.l Sh.s) (x0_7 : List ByteArray)), (L.rw (Id.mk 0 1))])] [(Ob.ro true 0 59 (Sh.l (Sh.p Sh.s (Sh.p (Sh.l (Sh.p (Sh.i IntKind.i64) (Sh.p (Sh.i IntKind.i64) Sh.u))) Sh.u))) (Ow.l 62 (Ow.p Ow.z (Ow.p (Ow.l 67 Ow.z) Ow.z))) (x0_1 : List (List (ByteArray × List (Int × Int × Unit) × Unit))) Option.none), (Ob.ro true 0 27 (Sh.l (Sh.i IntKind.i64)) (Ow.l 3 Ow.z) (x0_2 : List (List Int)) Option.none)] [(Ob.ro true 0 58 (Sh.l (Sh.p Sh.s (Sh.p (Sh.l (Sh.p (Sh.i IntKind.i64) (Sh.p (Sh.i IntKind.i64) Sh.u))) Sh.u))) (Ow.l 65 (Ow.p Ow.z (Ow.p (Ow.l 68 Ow.z) Ow.z))) (x0_8 : List (List (ByteArray × List (Int × Int × Unit) × Unit))) Option.none)])
noncomputable def f17L0 (n : Nat)  : Nat → f17G0
  | 0 => fun _ _ _ _ _ _ _ _ _ => none
  | m + 1 => fun x0_0 x0_1 x0_2 x0_3 x0_4 x0_5 x0_6 x0_7 x0_8 => f17S0 (f17L1 n (f17L0 n  m) n)  (f17L0 n  m) x0_0 x0_1 x0_2 x0_3 x0_4 x0_5 x0_6 x0_7 x0_8
theorem f17S0_ev (n : Nat)  (G : St → Option Lf) (x0_0 : Int) (x0_1 : List (List (ByteArray × List (Int × Int × Unit) × Unit))) (x0_2 : List (List Int)) (x0_3 : Int) (x0_4 : List ByteArray) (x0_5 : Int) (x0_6 : Int) (x0_7 : List ByteArray) (x0_8 : List (List (ByteArray × List (Int × Int × Unit) × Unit))) : rnd C1 f17h n Lf (codeOf f17f) [1, 1, 0, 1, 0] [] (endK C1 f17h f17f) G (f17H0 x0_0 x0_1 x0_2 x0_3 x0_4 x0_5 x0_6 x0_7 x0_8) = f17S0 (f17W1 (lp C1 f17h n Lf (codeOf f17f) [1, 1, 0, 1, 0, 0, 1, 0, 0, 1, 0, 1, 0] [G] (endK C1 f17h f17f) n))  (f17W0 G) x0_0 x0_1 x0_2 x0_3 x0_4 x0_5 x0_6 x0_7 x0_8 := by kernel_rfl
theorem f17W0_ev (n : Nat)  : ∀ m, (f17W0 (lp C1 f17h n Lf (codeOf f17f) [1, 1, 0, 1, 0] [] (endK C1 f17h f17f) m)) = f17L0 n  m := by
  intro m
  induction m with
  | zero => funext x0_0 x0_1 x0_2 x0_3 x0_4 x0_5 x0_6 x0_7 x0_8; exact lp_zero _
  | succ m ih =>
    have e1 : (f17W1 (lp C1 f17h n Lf (codeOf f17f) [1, 1, 0, 1, 0, 0, 1, 0, 0, 1, 0, 1, 0] [(lp C1 f17h n Lf (codeOf f17f) [1, 1, 0, 1, 0] [] (endK C1 f17h f17f) m)] (endK C1 f17h f17f) n)) = (f17L1 n (f17L0 n  m) n) := by
      rw [f17W1_ev, ih]
    funext x0_0 x0_1 x0_2 x0_3 x0_4 x0_5 x0_6 x0_7 x0_8
    show lp C1 f17h n Lf (codeOf f17f) [1, 1, 0, 1, 0] [] (endK C1 f17h f17f) (m + 1) (f17H0 x0_0 x0_1 x0_2 x0_3 x0_4 x0_5 x0_6 x0_7 x0_8) = f17S0 (f17L1 n (f17L0 n  m) n)  (f17L0 n  m) x0_0 x0_1 x0_2 x0_3 x0_4 x0_5 x0_6 x0_7 x0_8
    rw [lp_succ, f17S0_ev, ih, e1]
noncomputable def f17T (l0 : f17G0) (i : Int) (ch : List (List (ByteArray × List (Int × Int × Unit) × Unit))) (nm : List ByteArray) (ho : List (List Int)) : Option Lf :=
 l0 (0 : Int) (ch : List (List (ByteArray × List (Int × Int × Unit) × Unit))) (ho : List (List Int)) (i : Int) (nm : List ByteArray) (0 : Int) (i : Int) (nm : List ByteArray) ([] : List (List (ByteArray × List (Int × Int × Unit) × Unit)))
noncomputable def f17M (n : Nat) (i : Int) (ch : List (List (ByteArray × List (Int × Int × Unit) × Unit))) (nm : List ByteArray) (ho : List (List Int)) : Option Lf := f17T (f17L0 n n) i ch nm ho
theorem f17T_ev (n : Nat) (i : Int) (ch : List (List (ByteArray × List (Int × Int × Unit) × Unit))) (nm : List ByteArray) (ho : List (List Int)) : evF C1 f17h n f17f [(D.p (Pt.agg [(L.d (Pv.fz true) (Sh.i IntKind.i64) i), (L.rw (Id.mk 0 0)), (L.d (Pv.fz false) (Sh.l Sh.s) nm), (L.rw (Id.mk 0 1))]))] [(Ob.ro true 0 59 (Sh.l (Sh.p Sh.s (Sh.p (Sh.l (Sh.p (Sh.i IntKind.i64) (Sh.p (Sh.i IntKind.i64) Sh.u))) Sh.u))) (Ow.l 62 (Ow.p Ow.z (Ow.p (Ow.l 67 Ow.z) Ow.z))) ch Option.none), (Ob.ro true 0 27 (Sh.l (Sh.i IntKind.i64)) (Ow.l 3 Ow.z) ho Option.none)] = f17T (f17W0 (lp C1 f17h n Lf (codeOf f17f) [1, 1, 0, 1, 0] [] (endK C1 f17h f17f) n)) i ch nm ho := by kernel_rfl
theorem f17_ev (n : Nat) (i : Int) (ch : List (List (ByteArray × List (Int × Int × Unit) × Unit))) (nm : List ByteArray) (ho : List (List Int)) : evF C1 f17h n f17f [(D.p (Pt.agg [(L.d (Pv.fz true) (Sh.i IntKind.i64) i), (L.rw (Id.mk 0 0)), (L.d (Pv.fz false) (Sh.l Sh.s) nm), (L.rw (Id.mk 0 1))]))] [(Ob.ro true 0 59 (Sh.l (Sh.p Sh.s (Sh.p (Sh.l (Sh.p (Sh.i IntKind.i64) (Sh.p (Sh.i IntKind.i64) Sh.u))) Sh.u))) (Ow.l 62 (Ow.p Ow.z (Ow.p (Ow.l 67 Ow.z) Ow.z))) ch Option.none), (Ob.ro true 0 27 (Sh.l (Sh.i IntKind.i64)) (Ow.l 3 Ow.z) ho Option.none)] = f17M n i ch nm ho := by
  rw [f17T_ev, f17W0_ev]
  rfl

abbrev f16h : Hn := h16
noncomputable abbrev f16f : Func := fn 16
abbrev f16G0 := Int → Int → (List (List (ByteArray × List (Int × Int × Unit) × Unit))) → (List ByteArray) → (List (List Int)) → Int → (List (List (ByteArray × List (Int × Int × Unit) × Unit))) → (List ByteArray) → (List (List Int)) → Option Lf
noncomputable def f16H0 (x0_0 : Int) (x0_1 : Int) (x0_2 : List (List (ByteArray × List (Int × Int × Unit) × Unit))) (x0_3 : List ByteArray) (x0_4 : List (List Int)) (x0_5 : Int) (x0_6 : List (List (ByteArray × List (Int × Int × Unit) × Unit))) (x0_7 : List ByteArray) (x0_8 : List (List Int)) : St := (St.mk [dead, dead, (D.p (Pt.one (L.pv (Id.mk 1 0) 0))), (D.p (Pt.one (L.pv (Id.mk 1 1) 0))), dead, (D.p (Pt.one (L.d (Pv.fz true) (Sh.i IntKind.i64) x0_0))), dead, dead, dead, dead, dead, dead, dead, dead, dead, dead, dead, dead, dead, dead, dead, dead, dead, dead, dead, dead, dead, dead, dead, dead, dead, dead, dead, dead, dead, dead, dead, dead, dead, dead, dead, dead, dead, dead, dead, dead, dead, dead, dead, dead, dead, dead, dead, dead, dead, dead, dead, dead, dead, dead, dead, dead, dead, dead, dead, dead, dead, dead, dead, dead, dead, dead, dead, dead, dead, dead, dead, dead, dead, dead, dead, dead, dead, dead, dead, dead, dead, dead, dead, dead, dead, dead, dead, dead, dead, dead, dead, dead, dead, dead, dead, dead, dead, dead, dead, dead, dead, dead, dead, dead, dead, dead, dead, dead, dead, dead, dead, dead, dead, dead, dead, dead, dead, dead, dead, dead, dead, dead, dead, dead, dead, dead, dead, dead, dead, dead, dead, dead, dead, dead, dead, dead, dead, dead, dead, dead, dead, dead, dead, dead, dead, dead, dead, dead, dead, dead, dead, dead, dead, dead, dead, dead, dead, dead, dead, dead, dead, dead, dead, dead, dead, dead, dead, dead, dead, dead, dead, dead, dead, dead, dead, dead, dead, dead, dead, dead, dead, dead] [[], [(Ob.va [(L.d (Pv.fz true) (Sh.i IntKind.i64) x0_1), (L.d (Pv.fz false) (Sh.l (Sh.l (Sh.p Sh.s (Sh.p (Sh.l (Sh.p (Sh.i IntKind.i64) (Sh.p (Sh.i IntKind.i64) Sh.u))) Sh.u)))) x0_2), (L.d (Pv.fz false) (Sh.l Sh.s) x0_3), (L.d (Pv.fz false) (Sh.l (Sh.l (Sh.i IntKind.i64))) x0_4)]), (Ob.va [(L.d (Pv.fz true) (Sh.i IntKind.i64) x0_5), (L.d (Pv.fz false) (Sh.l (Sh.l (Sh.p Sh.s (Sh.p (Sh.l (Sh.p (Sh.i IntKind.i64) (Sh.p (Sh.i IntKind.i64) Sh.u))) Sh.u)))) x0_6), (L.d (Pv.fz false) (Sh.l Sh.s) x0_7), (L.d (Pv.fz false) (Sh.l (Sh.l (Sh.i IntKind.i64))) x0_8)])]])
noncomputable def f16W0 (G : St → Option Lf) : f16G0 := fun x0_0 x0_1 x0_2 x0_3 x0_4 x0_5 x0_6 x0_7 x0_8 => G (f16H0 x0_0 x0_1 x0_2 x0_3 x0_4 x0_5 x0_6 x0_7 x0_8)
abbrev f16G1 := Int → Int → (List (List (ByteArray × List (Int × Int × Unit) × Unit))) → (List ByteArray) → (List (List Int)) → Int → (List (List (ByteArray × List (Int × Int × Unit) × Unit))) → (List ByteArray) → (List (List Int)) → Option Lf
noncomputable def f16H1 (x1_0 : Int) (x1_1 : Int) (x1_2 : List (List (ByteArray × List (Int × Int × Unit) × Unit))) (x1_3 : List ByteArray) (x1_4 : List (List Int)) (x1_5 : Int) (x1_6 : List (List (ByteArray × List (Int × Int × Unit) × Unit))) (x1_7 : List ByteArray) (x1_8 : List (List Int)) : St := (St.mk [dead, dead, (D.p (Pt.one (L.pv (Id.mk 1 0) 0))), (D.p (Pt.one (L.pv (Id.mk 1 1) 0))), dead, dead, (D.p (Pt.one (L.d (Pv.fz true) (Sh.i IntKind.i64) x1_0))), dead, dead, dead, dead, dead, dead, dead, dead, dead, dead, dead, dead, dead, dead, dead, dead, dead, dead, dead, dead, dead, dead, dead, dead, dead, dead, dead, dead, dead, dead, dead, dead, dead, dead, dead, dead, dead, dead, dead, dead, dead, dead, dead, dead, dead, dead, dead, dead, dead, dead, dead, dead, dead, dead, dead, dead, dead, dead, dead, dead, dead, dead, dead, dead, dead, dead, dead, dead, dead, dead, dead, dead, dead, dead, dead, dead, dead, dead, dead, dead, dead, dead, dead, dead, dead, dead, dead, dead, dead, dead, dead, dead, dead, dead, dead, dead, dead, dead, dead, dead, dead, dead, dead, dead, dead, dead, dead, dead, dead, dead, dead, dead, dead, dead, dead, dead, dead, dead, dead, dead, dead, dead, dead, dead, dead, dead, dead, dead, dead, dead, dead, dead, dead, dead, dead, dead, dead, dead, dead, dead, dead, dead, dead, dead, dead, dead, dead, dead, dead, dead, dead, dead, dead, dead, dead, dead, dead, dead, dead, dead, dead, dead, dead, dead, dead, dead, dead, dead, dead, dead, dead, dead, dead, dead, dead, dead, dead, dead, dead, dead, dead] [[], [(Ob.va [(L.d (Pv.fz true) (Sh.i IntKind.i64) x1_1), (L.d (Pv.fz false) (Sh.l (Sh.l (Sh.p Sh.s (Sh.p (Sh.l (Sh.p (Sh.i IntKind.i64) (Sh.p (Sh.i IntKind.i64) Sh.u))) Sh.u)))) x1_2), (L.d (Pv.fz false) (Sh.l Sh.s) x1_3), (L.d (Pv.fz false) (Sh.l (Sh.l (Sh.i IntKind.i64))) x1_4)]), (Ob.va [(L.d (Pv.fz true) (Sh.i IntKind.i64) x1_5), (L.d (Pv.fz false) (Sh.l (Sh.l (Sh.p Sh.s (Sh.p (Sh.l (Sh.p (Sh.i IntKind.i64) (Sh.p (Sh.i IntKind.i64) Sh.u))) Sh.u)))) x1_6), (L.d (Pv.fz false) (Sh.l Sh.s) x1_7), (L.d (Pv.fz false) (Sh.l (Sh.l (Sh.i IntKind.i64))) x1_8)])]])
noncomputable def f16W1 (G : St → Option Lf) : f16G1 := fun x1_0 x1_1 x1_2 x1_3 x1_4 x1_5 x1_6 x1_7 x1_8 => G (f16H1 x1_0 x1_1 x1_2 x1_3 x1_4 x1_5 x1_6 x1_7 x1_8)
abbrev f16G2 := Int → Int → Int → (List (List (ByteArray × List (Int × Int × Unit) × Unit))) → (List ByteArray) → (List (List Int)) → Int → (List (List (ByteArray × List (Int × Int × Unit) × Unit))) → (List ByteArray) → (List (List Int)) → Option Lf
noncomputable def f16H2 (x2_0 : Int) (x2_1 : Int) (x2_2 : Int) (x2_3 : List (List (ByteArray × List (Int × Int × Unit) × Unit))) (x2_4 : List ByteArray) (x2_5 : List (List Int)) (x2_6 : Int) (x2_7 : List (List (ByteArray × List (Int × Int × Unit) × Unit))) (x2_8 : List ByteArray) (x2_9 : List (List Int)) : St := (St.mk [dead, dead, (D.p (Pt.one (L.pv (Id.mk 1 0) 0))), (D.p (Pt.one (L.pv (Id.mk 1 1) 0))), dead, dead, (D.p (Pt.one (L.d (Pv.fz true) (Sh.i IntKind.i64) x2_0))), (D.p (Pt.one (L.d (Pv.fz true) (Sh.i IntKind.i64) x2_1))), dead, dead, dead, dead, dead, dead, dead, dead, dead, dead, dead, dead, dead, dead, dead, dead, dead, dead, dead, dead, dead, dead, dead, dead, dead, dead, dead, dead, dead, dead, dead, dead, dead, dead, dead, dead, dead, dead, dead, dead, dead, dead, dead, dead, dead, dead, dead, dead, dead, dead, dead, dead, dead, dead, dead, dead, dead, dead, dead, dead, dead, dead, dead, dead, dead, dead, dead, dead, dead, dead, dead, dead, dead, dead, dead, dead, dead, dead, dead, dead, dead, dead, dead, dead, dead, dead, dead, dead, dead, dead, dead, dead, dead, dead, dead, dead, dead, dead, dead, dead, dead, dead, dead, dead, dead, dead, dead, dead, dead, dead, dead, dead, dead, dead, dead, dead, dead, dead, dead, dead, dead, dead, dead, dead, dead, dead, dead, dead, dead, dead, dead, dead, dead, dead, dead, dead, dead, dead, dead, dead, dead, dead, dead, dead, dead, dead, dead, dead, dead, dead, dead, dead, dead, dead, dead, dead, dead, dead, dead, dead, dead, dead, dead, dead, dead, dead, dead, dead, dead, dead, dead, dead, dead, dead, dead, dead, dead, dead, dead, dead] [[], [(Ob.va [(L.d (Pv.fz true) (Sh.i IntKind.i64) x2_2), (L.d (Pv.fz false) (Sh.l (Sh.l (Sh.p Sh.s (Sh.p (Sh.l (Sh.p (Sh.i IntKind.i64) (Sh.p (Sh.i IntKind.i64) Sh.u))) Sh.u)))) x2_3), (L.d (Pv.fz false) (Sh.l Sh.s) x2_4), (L.d (Pv.fz false) (Sh.l (Sh.l (Sh.i IntKind.i64))) x2_5)]), (Ob.va [(L.d (Pv.fz true) (Sh.i IntKind.i64) x2_6), (L.d (Pv.fz false) (Sh.l (Sh.l (Sh.p Sh.s (Sh.p (Sh.l (Sh.p (Sh.i IntKind.i64) (Sh.p (Sh.i IntKind.i64) Sh.u))) Sh.u)))) x2_7), (L.d (Pv.fz false) (Sh.l Sh.s) x2_8), (L.d (Pv.fz false) (Sh.l (Sh.l (Sh.i IntKind.i64))) x2_9)])]])
noncomputable def f16W2 (G : St → Option Lf) : f16G2 := fun x2_0 x2_1 x2_2 x2_3 x2_4 x2_5 x2_6 x2_7 x2_8 x2_9 => G (f16H2 x2_0 x2_1 x2_2 x2_3 x2_4 x2_5 x2_6 x2_7 x2_8 x2_9)
noncomputable def f16S2  (g1 : f16G1) (g2 : f16G2) (x2_0 : Int) (x2_1 : Int) (x2_2 : Int) (x2_3 : List (List (ByteArray × List (Int × Int × Unit) × Unit))) (x2_4 : List ByteArray) (x2_5 : List (List Int)) (x2_6 : Int) (x2_7 : List (List (ByteArray × List (Int × Int × Unit) × Unit))) (x2_8 : List ByteArray) (x2_9 : List (List Int)) : Option Lf :=
 bif inb x2_0 x2_5.length then
  bif decide (x2_1 < zn (x2_5.getD x2_0.toNat []).length) then
   bif inb x2_0 x2_5.length then
    bif inb x2_1 (x2_5.getD x2_0.toNat []).length then
     bif inb x2_0 x2_9.length then
      bif inb x2_1 (x2_9.getD x2_0.toNat []).length then
       bif (x2_5.getD x2_0.toNat []).getD x2_1.toNat 0 != (x2_9.getD x2_0.toNat []).getD x2_1.toNat 0 then
        some (Lf.mk [(Pt.one (L.d (Pv.fz true) Sh.b (false : Bool)))] [] [])
       else
        g2 (x2_0 : Int) (IntKind.i64.wrap (x2_1 + 1) : Int) (x2_2 : Int) (x2_3 : List (List (ByteArray × List (Int × Int × Unit) × Unit))) (x2_4 : List ByteArray) (x2_5 : List (List Int)) (x2_6 : Int) (x2_7 : List (List (ByteArray × List (Int × Int × Unit) × Unit))) (x2_8 : List ByteArray) (x2_9 : List (List Int))
      else
       none
     else
      none
    else
     none
   else
    none
  else
   g1 (IntKind.i64.wrap (x2_0 + 1) : Int) (x2_2 : Int) (x2_3 : List (List (ByteArray × List (Int × Int × Unit) × Unit))) (x2_4 : List ByteArray) (x2_5 : List (List Int)) (x2_6 : Int) (x2_7 : List (List (ByteArray × List (Int × Int × Unit) × Unit))) (x2_8 : List ByteArray) (x2_9 : List (List Int))
 else
  none
noncomputable def f16L2 (n : Nat) (g1 : f16G1) : Nat → f16G2
  | 0 => fun _ _ _ _ _ _ _ _ _ _ => none
  | m + 1 => fun x2_0 x2_1 x2_2 x2_3 x2_4 x2_5 x2_6 x2_7 x2_8 x2_9 => f16S2  g1 (f16L2 n g1 m) x2_0 x2_1 x2_2 x2_3 x2_4 x2_5 x2_6 x2_7 x2_8 x2_9
theorem f16S2_ev (n : Nat) (G1 : St → Option Lf) (G : St → Option Lf) (x2_0 : Int) (x2_1 : Int) (x2_2 : Int) (x2_3 : List (List (ByteArray × List (Int × Int × Unit) × Unit))) (x2_4 : List ByteArray) (x2_5 : List (List Int)) (x2_6 : Int) (x2_7 : List (List (ByteArray × List (Int × Int × Unit) × Unit))) (x2_8 : List ByteArray) (x2_9 : List (List Int)) : rnd C1 f16h n Lf (codeOf f16f) [1, 1, 1, 0, 1, 0, 0, 1, 0, 0, 1, 1, 0] [G1] (endK C1 f16h f16f) G (f16H2 x2_0 x2_1 x2_2 x2_3 x2_4 x2_5 x2_6 x2_7 x2_8 x2_9) = f16S2  (f16W1 G1) (f16W2 G) x2_0 x2_1 x2_2 x2_3 x2_4 x2_5 x2_6 x2_7 x2_8 x2_9 := by kernel_rfl
theorem f16W2_ev (n : Nat) (G1 : St → Option Lf) : ∀ m, (f16W2 (lp C1 f16h n Lf (codeOf f16f) [1, 1, 1, 0, 1, 0, 0, 1, 0, 0, 1, 1, 0] [G1] (endK C1 f16h f16f) m)) = f16L2 n (f16W1 G1) m := by
  intro m
  induction m with
  | zero => funext x2_0 x2_1 x2_2 x2_3 x2_4 x2_5 x2_6 x2_7 x2_8 x2_9; exact lp_zero _
  | succ m ih =>
    funext x2_0 x2_1 x2_2 x2_3 x2_4 x2_5 x2_6 x2_7 x2_8 x2_9
    show lp C1 f16h n Lf (codeOf f16f) [1, 1, 1, 0, 1, 0, 0, 1, 0, 0, 1, 1, 0] [G1] (endK C1 f16h f16f) (m + 1) (f16H2 x2_0 x2_1 x2_2 x2_3 x2_4 x2_5 x2_6 x2_7 x2_8 x2_9) = f16S2  (f16W1 G1) (f16L2 n (f16W1 G1) m) x2_0 x2_1 x2_2 x2_3 x2_4 x2_5 x2_6 x2_7 x2_8 x2_9
    rw [lp_succ, f16S2_ev, ih]
abbrev f16G3 := Int → Int → (List (List (ByteArray × List (Int × Int × Unit) × Unit))) → (List ByteArray) → (List (List Int)) → Int → (List (List (ByteArray × List (Int × Int × Unit) × Unit))) → (List ByteArray) → (List (List Int)) → Option Lf
noncomputable def f16H3 (x3_0 : Int) (x3_1 : Int) (x3_2 : List (List (ByteArray × List (Int × Int × Unit) × Unit))) (x3_3 : List ByteArray) (x3_4 : List (List Int)) (x3_5 : Int) (x3_6 : List (List (ByteArray × List (Int × Int × Unit) × Unit))) (x3_7 : List ByteArray) (x3_8 : List (List Int)) : St := (St.mk [dead, dead, (D.p (Pt.one (L.pv (Id.mk 1 0) 0))), (D.p (Pt.one (L.pv (Id.mk 1 1) 0))), dead, dead, dead, dead, (D.p (Pt.one (L.d (Pv.fz true) (Sh.i IntKind.i64) x3_0))), dead, dead, dead, dead, dead, dead, dead, dead, dead, dead, dead, dead, dead, dead, dead, dead, dead, dead, dead, dead, dead, dead, dead, dead, dead, dead, dead, dead, dead, dead, dead, dead, dead, dead, dead, dead, dead, dead, dead, dead, dead, dead, dead, dead, dead, dead, dead, dead, dead, dead, dead, dead, dead, dead, dead, dead, dead, dead, dead, dead, dead, dead, dead, dead, dead, dead, dead, dead, dead, dead, dead, dead, dead, dead, dead, dead, dead, dead, dead, dead, dead, dead, dead, dead, dead, dead, dead, dead, dead, dead, dead, dead, dead, dead, dead, dead, dead, dead, dead, dead, dead, dead, dead, dead, dead, dead, dead, dead, dead, dead, dead, dead, dead, dead, dead, dead, dead, dead, dead, dead, dead, dead, dead, dead, dead, dead, dead, dead, dead, dead, dead, dead, dead, dead, dead, dead, dead, dead, dead, dead, dead, dead, dead, dead, dead, dead, dead, dead, dead, dead, dead, dead, dead, dead, dead, dead, dead, dead, dead, dead, dead, dead, dead, dead, dead, dead, dead, dead, dead, dead, dead, dead, dead, dead, dead, dead, dead, dead, dead] [[], [(Ob.va [(L.d (Pv.fz true) (Sh.i IntKind.i64) x3_1), (L.d (Pv.fz false) (Sh.l (Sh.l (Sh.p Sh.s (Sh.p (Sh.l (Sh.p (Sh.i IntKind.i64) (Sh.p (Sh.i IntKind.i64) Sh.u))) Sh.u)))) x3_2), (L.d (Pv.fz false) (Sh.l Sh.s) x3_3), (L.d (Pv.fz false) (Sh.l (Sh.l (Sh.i IntKind.i64))) x3_4)]), (Ob.va [(L.d (Pv.fz true) (Sh.i IntKind.i64) x3_5), (L.d (Pv.fz false) (Sh.l (Sh.l (Sh.p Sh.s (Sh.p (Sh.l (Sh.p (Sh.i IntKind.i64) (Sh.p (Sh.i IntKind.i64) Sh.u))) Sh.u)))) x3_6), (L.d (Pv.fz false) (Sh.l Sh.s) x3_7), (L.d (Pv.fz false) (Sh.l (Sh.l (Sh.i IntKind.i64))) x3_8)])]])
noncomputable def f16W3 (G : St → Option Lf) : f16G3 := fun x3_0 x3_1 x3_2 x3_3 x3_4 x3_5 x3_6 x3_7 x3_8 => G (f16H3 x3_0 x3_1 x3_2 x3_3 x3_4 x3_5 x3_6 x3_7 x3_8)
abbrev f16G4 := Int → Int → Int → (List (List (ByteArray × List (Int × Int × Unit) × Unit))) → (List ByteArray) → (List (List Int)) → Int → (List (List (ByteArray × List (Int × Int × Unit) × Unit))) → (List ByteArray) → (List (List Int)) → Option Lf
noncomputable def f16H4 (x4_0 : Int) (x4_1 : Int) (x4_2 : Int) (x4_3 : List (List (ByteArray × List (Int × Int × Unit) × Unit))) (x4_4 : List ByteArray) (x4_5 : List (List Int)) (x4_6 : Int) (x4_7 : List (List (ByteArray × List (Int × Int × Unit) × Unit))) (x4_8 : List ByteArray) (x4_9 : List (List Int)) : St := (St.mk [dead, dead, (D.p (Pt.one (L.pv (Id.mk 1 0) 0))), (D.p (Pt.one (L.pv (Id.mk 1 1) 0))), dead, dead, dead, dead, (D.p (Pt.one (L.d (Pv.fz true) (Sh.i IntKind.i64) x4_0))), (D.p (Pt.one (L.d (Pv.fz true) (Sh.i IntKind.i64) x4_1))), dead, dead, dead, dead, dead, dead, dead, dead, dead, dead, dead, dead, dead, dead, dead, dead, dead, dead, dead, dead, dead, dead, dead, dead, dead, dead, dead, dead, dead, dead, dead, dead, dead, dead, dead, dead, dead, dead, dead, dead, dead, dead, dead, dead, dead, dead, dead, dead, dead, dead, dead, dead, dead, dead, dead, dead, dead, dead, dead, dead, dead, dead, dead, dead, dead, dead, dead, dead, dead, dead, dead, dead, dead, dead, dead, dead, dead, dead, dead, dead, dead, dead, dead, dead, dead, dead, dead, dead, dead, dead, dead, dead, dead, dead, dead, dead, dead, dead, dead, dead, dead, dead, dead, dead, dead, dead, dead, dead, dead, dead, dead, dead, dead, dead, dead, dead, dead, dead, dead, dead, dead, dead, dead, dead, dead, dead, dead, dead, dead, dead, dead, dead, dead, dead, dead, dead, dead, dead, dead, dead, dead, dead, dead, dead, dead, dead, dead, dead, dead, dead, dead, dead, dead, dead, dead, dead, dead, dead, dead, dead, dead, dead, dead, dead, dead, dead, dead, dead, dead, dead, dead, dead, dead, dead, dead, dead, dead, dead] [[], [(Ob.va [(L.d (Pv.fz true) (Sh.i IntKind.i64) x4_2), (L.d (Pv.fz false) (Sh.l (Sh.l (Sh.p Sh.s (Sh.p (Sh.l (Sh.p (Sh.i IntKind.i64) (Sh.p (Sh.i IntKind.i64) Sh.u))) Sh.u)))) x4_3), (L.d (Pv.fz false) (Sh.l Sh.s) x4_4), (L.d (Pv.fz false) (Sh.l (Sh.l (Sh.i IntKind.i64))) x4_5)]), (Ob.va [(L.d (Pv.fz true) (Sh.i IntKind.i64) x4_6), (L.d (Pv.fz false) (Sh.l (Sh.l (Sh.p Sh.s (Sh.p (Sh.l (Sh.p (Sh.i IntKind.i64) (Sh.p (Sh.i IntKind.i64) Sh.u))) Sh.u)))) x4_7), (L.d (Pv.fz false) (Sh.l Sh.s) x4_8), (L.d (Pv.fz false) (Sh.l (Sh.l (Sh.i IntKind.i64))) x4_9)])]])
noncomputable def f16W4 (G : St → Option Lf) : f16G4 := fun x4_0 x4_1 x4_2 x4_3 x4_4 x4_5 x4_6 x4_7 x4_8 x4_9 => G (f16H4 x4_0 x4_1 x4_2 x4_3 x4_4 x4_5 x4_6 x4_7 x4_8 x4_9)
abbrev f16G5 := Int → Int → Int → Int → (List (List (ByteArray × List (Int × Int × Unit) × Unit))) → (List ByteArray) → (List (List Int)) → Int → (List (List (ByteArray × List (Int × Int × Unit) × Unit))) → (List ByteArray) → (List (List Int)) → ByteArray → (List (Int × Int × Unit)) → ByteArray → (List (Int × Int × Unit)) → Option Lf
noncomputable def f16H5 (x5_0 : Int) (x5_1 : Int) (x5_2 : Int) (x5_3 : Int) (x5_4 : List (List (ByteArray × List (Int × Int × Unit) × Unit))) (x5_5 : List ByteArray) (x5_6 : List (List Int)) (x5_7 : Int) (x5_8 : List (List (ByteArray × List (Int × Int × Unit) × Unit))) (x5_9 : List ByteArray) (x5_10 : List (List Int)) (x5_11 : ByteArray) (x5_12 : List (Int × Int × Unit)) (x5_13 : ByteArray) (x5_14 : List (Int × Int × Unit)) : St := (St.mk [dead, dead, (D.p (Pt.one (L.pv (Id.mk 1 0) 0))), (D.p (Pt.one (L.pv (Id.mk 1 1) 0))), dead, dead, dead, dead, (D.p (Pt.one (L.d (Pv.fz true) (Sh.i IntKind.i64) x5_0))), (D.p (Pt.one (L.d (Pv.fz true) (Sh.i IntKind.i64) x5_1))), (D.p (Pt.one (L.pv (Id.mk 1 2) 0))), (D.p (Pt.one (L.pv (Id.mk 1 3) 0))), (D.p (Pt.one (L.d (Pv.fz true) (Sh.i IntKind.i64) x5_2))), dead, dead, dead, dead, dead, dead, dead, dead, dead, dead, dead, dead, dead, dead, dead, dead, dead, dead, dead, dead, dead, dead, dead, dead, dead, dead, dead, dead, dead, dead, dead, dead, dead, dead, dead, dead, dead, dead, dead, dead, dead, dead, dead, dead, dead, dead, dead, dead, dead, dead, dead, dead, dead, dead, dead, dead, dead, dead, dead, dead, dead, dead, dead, dead, dead, dead, dead, dead, dead, dead, dead, dead, dead, dead, dead, dead, dead, dead, dead, dead, dead, dead, dead, dead, dead, dead, dead, dead, dead, dead, dead, dead, dead, dead, dead, dead, dead, dead, dead, dead, dead, dead, dead, dead, dead, dead, dead, dead, dead, dead, dead, dead, dead, dead, dead, dead, dead, dead, dead, dead, dead, dead, dead, dead, dead, dead, dead, dead, dead, dead, dead, dead, dead, dead, dead, dead, dead, dead, dead, dead, dead, dead, dead, dead, dead, dead, dead, dead, dead, dead, dead, dead, dead, dead, dead, dead, dead, dead, dead, dead, dead, dead, dead, dead, dead, dead, dead, dead, dead, dead, dead, dead, dead, dead, dead] [[], [(Ob.va [(L.d (Pv.fz true) (Sh.i IntKind.i64) x5_3), (L.d (Pv.fz false) (Sh.l (Sh.l (Sh.p Sh.s (Sh.p (Sh.l (Sh.p (Sh.i IntKind.i64) (Sh.p (Sh.i IntKind.i64) Sh.u))) Sh.u)))) x5_4), (L.d (Pv.fz false) (Sh.l Sh.s) x5_5), (L.d (Pv.fz false) (Sh.l (Sh.l (Sh.i IntKind.i64))) x5_6)]), (Ob.va [(L.d (Pv.fz true) (Sh.i IntKind.i64) x5_7), (L.d (Pv.fz false) (Sh.l (Sh.l (Sh.p Sh.s (Sh.p (Sh.l (Sh.p (Sh.i IntKind.i64) (Sh.p (Sh.i IntKind.i64) Sh.u))) Sh.u)))) x5_8), (L.d (Pv.fz false) (Sh.l Sh.s) x5_9), (L.d (Pv.fz false) (Sh.l (Sh.l (Sh.i IntKind.i64))) x5_10)]), (Ob.va [(L.d (Pv.fz true) Sh.s x5_11), (L.d (Pv.fz false) (Sh.l (Sh.p (Sh.i IntKind.i64) (Sh.p (Sh.i IntKind.i64) Sh.u))) x5_12)]), (Ob.va [(L.d (Pv.fz true) Sh.s x5_13), (L.d (Pv.fz false) (Sh.l (Sh.p (Sh.i IntKind.i64) (Sh.p (Sh.i IntKind.i64) Sh.u))) x5_14)])]])
noncomputable def f16W5 (G : St → Option Lf) : f16G5 := fun x5_0 x5_1 x5_2 x5_3 x5_4 x5_5 x5_6 x5_7 x5_8 x5_9 x5_10 x5_11 x5_12 x5_13 x5_14 => G (f16H5 x5_0 x5_1 x5_2 x5_3 x5_4 x5_5 x5_6 x5_7 x5_8 x5_9 x5_10 x5_11 x5_12 x5_13 x5_14)
noncomputable def f16S5  (g3 : f16G3) (g4 : f16G4) (g5 : f16G5) (x5_0 : Int) (x5_1 : Int) (x5_2 : Int) (x5_3 : Int) (x5_4 : List (List (ByteArray × List (Int × Int × Unit) × Unit))) (x5_5 : List ByteArray) (x5_6 : List (List Int)) (x5_7 : Int) (x5_8 : List (List (ByteArray × List (Int × Int × Unit) × Unit))) (x5_9 : List ByteArray) (x5_10 : List (List Int)) (x5_11 : ByteArray) (x5_12 : List (Int × Int × Unit)) (x5_13 : ByteArray) (x5_14 : List (Int × Int × Unit)) : Option Lf :=
 bif decide (x5_2 < zn x5_12.length) then
  bif inb x5_2 x5_12.length then
   bif inb x5_2 x5_14.length then
    bif !keyEq ((Sh.i IntKind.i64).p ((Sh.i IntKind.i64).p Sh.u)) ((x5_12.getD x5_2.toNat (0, 0, ())).fst, (x5_12.getD x5_2.toNat (0, 0, ())).snd.fst, ()) ((x5_14.getD x5_2.toNat (0, 0, ())).fst, (x5_14.getD x5_2.toNat (0, 0, ())).snd.fst, ()) then
     some (Lf.mk [(Pt.one (L.d (Pv.fz true) Sh.b (false : Bool)))] [] [])
    else
     g5 (x5_0 : Int) (x5_1 : Int) (IntKind.i64.wrap (x5_2 + 1) : Int) (x5_3 : Int) (x5_4 : List (List (ByteArray × List (Int × Int × Unit) × Unit))) (x5_5 : List ByteArray) (x5_6 : List (List Int)) (x5_7 : Int) (x5_8 : List (List (ByteArray × List (Int × Int × Unit) × Unit))) (x5_9 : List ByteArray) (x5_10 : List (List Int)) (x5_11 : ByteArray) (x5_12 : List (Int × Int × Unit)) (x5_13 : ByteArray) (x5_14 : List (Int × Int × Unit))
   else
    none
  else
   none
 else
  g4 (x5_0 : Int) (IntKind.i64.wrap (x5_1 + 1) : Int) (x5_3 : Int) (x5_4 : List (List (ByteArray × List (Int × Int × Unit) × Unit))) (x5_5 : List ByteArray) (x5_6 : List (List Int)) (x5_7 : Int) (x5_8 : List (List (ByteArray × List (Int × Int × Unit) × Unit))) (x5_9 : List ByteArray) (x5_10 : List (List Int))
noncomputable def f16L5 (n : Nat) (g3 : f16G3) (g4 : f16G4) : Nat → f16G5
  | 0 => fun _ _ _ _ _ _ _ _ _ _ _ _ _ _ _ => none
  | m + 1 => fun x5_0 x5_1 x5_2 x5_3 x5_4 x5_5 x5_6 x5_7 x5_8 x5_9 x5_10 x5_11 x5_12 x5_13 x5_14 => f16S5  g3 g4 (f16L5 n g3 g4 m) x5_0 x5_1 x5_2 x5_3 x5_4 x5_5 x5_6 x5_7 x5_8 x5_9 x5_10 x5_11 x5_12 x5_13 x5_14
theorem f16S5_ev (n : Nat) (G3 : St → Option Lf) (G4 : St → Option Lf) (G : St → Option Lf) (x5_0 : Int) (x5_1 : Int) (x5_2 : Int) (x5_3 : Int) (x5_4 : List (List (ByteArray × List (Int × Int × Unit) × Unit))) (x5_5 : List ByteArray) (x5_6 : List (List Int)) (x5_7 : Int) (x5_8 : List (List (ByteArray × List (Int × Int × Unit) × Unit))) (x5_9 : List ByteArray) (x5_10 : List (List Int)) (x5_11 : ByteArray) (x5_12 : List (Int × Int × Unit)) (x5_13 : ByteArray) (x5_14 : List (Int × Int × Unit)) : rnd C1 f16h n Lf (codeOf f16f) [1, 1, 1, 1, 0, 1, 0, 0, 1, 0, 0, 1, 1, 0, 0, 1, 0, 0, 1, 1, 1, 0] [G3, G4] (endK C1 f16h f16f) G (f16H5 x5_0 x5_1 x5_2 x5_3 x5_4 x5_5 x5_6 x5_7 x5_8 x5_9 x5_10 x5_11 x5_12 x5_13 x5_14) = f16S5  (f16W3 G3) (f16W4 G4) (f16W5 G) x5_0 x5_1 x5_2 x5_3 x5_4 x5_5 x5_6 x5_7 x5_8 x5_9 x5_10 x5_11 x5_12 x5_13 x5_14 := by kernel_rfl
theorem f16W5_ev (n : Nat) (G3 : St → Option Lf) (G4 : St → Option Lf) : ∀ m, (f16W5 (lp C1 f16h n Lf (codeOf f16f) [1, 1, 1, 1, 0, 1, 0, 0, 1, 0, 0, 1, 1, 0, 0, 1, 0, 0, 1, 1, 1, 0] [G3, G4] (endK C1 f16h f16f) m)) = f16L5 n (f16W3 G3) (f16W4 G4) m := by
  intro m
  induction m with
  | zero => funext x5_0 x5_1 x5_2 x5_3 x5_4 x5_5 x5_6 x5_7 x5_8 x5_9 x5_10 x5_11 x5_12 x5_13 x5_14; exact lp_zero _
  | succ m ih =>
    funext x5_0 x5_1 x5_2 x5_3 x5_4 x5_5 x5_6 x5_7 x5_8 x5_9 x5_10 x5_11 x5_12 x5_13 x5_14
    show lp C1 f16h n Lf (codeOf f16f) [1, 1, 1, 1, 0, 1, 0, 0, 1, 0, 0, 1, 1, 0, 0, 1, 0, 0, 1, 1, 1, 0] [G3, G4] (endK C1 f16h f16f) (m + 1) (f16H5 x5_0 x5_1 x5_2 x5_3 x5_4 x5_5 x5_6 x5_7 x5_8 x5_9 x5_10 x5_11 x5_12 x5_13 x5_14) = f16S5  (f16W3 G3) (f16W4 G4) (f16L5 n (f16W3 G3) (f16W4 G4) m) x5_0 x5_1 x5_2 x5_3 x5_4 x5_5 x5_6 x5_7 x5_8 x5_9 x5_10 x5_11 x5_12 x5_13 x5_14
    rw [lp_succ, f16S5_ev, ih]
noncomputable def f16S4 (l5 : f16G5) (g3 : f16G3) (g4 : f16G4) (x4_0 : Int) (x4_1 : Int) (x4_2 : Int) (x4_3 : List (List (ByteArray × List (Int × Int × Unit) × Unit))) (x4_4 : List ByteArray) (x4_5 : List (List Int)) (x4_6 : Int) (x4_7 : List (List (ByteArray × List (Int × Int × Unit) × Unit))) (x4_8 : List ByteArray) (x4_9 : List (List Int)) : Option Lf :=
 bif inb x4_0 x4_3.length then
  bif decide (x4_1 < zn (x4_3.getD x4_0.toNat []).length) then
   bif inb x4_0 x4_3.length then
    bif inb x4_1 (x4_3.getD x4_0.toNat []).length then
     bif inb x4_0 x4_7.length then
      bif inb x4_1 (x4_7.getD x4_0.toNat []).length then
       bif Nat.beq 1 1 && (Nat.beq 1 1 && (!((x4_3.getD x4_0.toNat []).getD x4_1.toNat ({ data := #[] }, [], ())).fst.toList == ((x4_7.getD x4_0.toNat []).getD x4_1.toNat ({ data := #[] }, [], ())).fst.toList || true)) then
        bif !((x4_3.getD x4_0.toNat []).getD x4_1.toNat ({ data := #[] }, [], ())).fst.toList == ((x4_7.getD x4_0.toNat []).getD x4_1.toNat ({ data := #[] }, [], ())).fst.toList || zn ((x4_3.getD x4_0.toNat []).getD x4_1.toNat ({ data := #[] }, [], ())).snd.fst.length != zn ((x4_7.getD x4_0.toNat []).getD x4_1.toNat ({ data := #[] }, [], ())).snd.fst.length then
         some (Lf.mk [(Pt.one (L.d (Pv.fz true) Sh.b (false : Bool)))] [] [])
        else
         l5 (x4_0 : Int) (x4_1 : Int) (0 : Int) (x4_2 : Int) (x4_3 : List (List (ByteArray × List (Int × Int × Unit) × Unit))) (x4_4 : List ByteArray) (x4_5 : List (List Int)) (x4_6 : Int) (x4_7 : List (List (ByteArray × List (Int × Int × Unit) × Unit))) (x4_8 : List ByteArray) (x4_9 : List (List Int)) (((x4_3.getD x4_0.toNat []).getD x4_1.toNat ({ data := #[] }, [], ())).fst : ByteArray) (((x4_3.getD x4_0.toNat []).getD x4_1.toNat ({ data := #[] }, [], ())).snd.fst : List (Int × Int × Unit)) (((x4_7.getD x4_0.toNat []).getD x4_1.toNat ({ data := #[] }, [], ())).fst : ByteArray) (((x4_7.getD x4_0.toNat []).getD x4_1.toNat ({ data := #[] }, [], ())).snd.fst : List (Int × Int × Unit))
       else
        none
      else
       none
     else
      none
    else
     none
   else
    none
  else
   g3 (IntKind.i64.wrap (x4_0 + 1) : Int) (x4_2 : Int) (x4_3 : List (List (ByteArray × List (Int × Int × Unit) × Unit))) (x4_4 : List ByteArray) (x4_5 : List (List Int)) (x4_6 : Int) (x4_7 : List (List (ByteArray × List (Int × Int × Unit) × Unit))) (x4_8 : List ByteArray) (x4_9 : List (List Int))
 else
  none
noncomputable def f16L4 (n : Nat) (g3 : f16G3) : Nat → f16G4
  | 0 => fun _ _ _ _ _ _ _ _ _ _ => none
  | m + 1 => fun x4_0 x4_1 x4_2 x4_3 x4_4 x4_5 x4_6 x4_7 x4_8 x4_9 => f16S4 (f16L5 n g3 (f16L4 n g3 m) n) g3 (f16L4 n g3 m) x4_0 x4_1 x4_2 x4_3 x4_4 x4_5 x4_6 x4_7 x4_8 x4_9
theorem f16S4_ev (n : Nat) (G3 : St → Option Lf) (G : St → Option Lf) (x4_0 : Int) (x4_1 : Int) (x4_2 : Int) (x4_3 : List (List (ByteArray × List (Int × Int × Unit) × Unit))) (x4_4 : List ByteArray) (x4_5 : List (List Int)) (x4_6 : Int) (x4_7 : List (List (ByteArray × List (Int × Int × Unit) × Unit))) (x4_8 : List ByteArray) (x4_9 : List (List Int)) : rnd C1 f16h n Lf (codeOf f16f) [1, 1, 1, 1, 0, 1, 0, 0, 1, 0, 0, 1, 1, 0] [G3] (endK C1 f16h f16f) G (f16H4 x4_0 x4_1 x4_2 x4_3 x4_4 x4_5 x4_6 x4_7 x4_8 x4_9) = f16S4 (f16W5 (lp C1 f16h n Lf (codeOf f16f) [1, 1, 1, 1, 0, 1, 0, 0, 1, 0, 0, 1, 1, 0, 0, 1, 0, 0, 1, 1, 1, 0] [G3, G] (endK C1 f16h f16f) n)) (f16W3 G3) (f16W4 G) x4_0 x4_1 x4_2 x4_3 x4_4 x4_5 x4_6 x4_7 x4_8 x4_9 := by kernel_rfl
theorem f16W4_ev (n : Nat) (G3 : St → Option Lf) : ∀ m, (f16W4 (lp C1 f16h n Lf (codeOf f16f) [1, 1, 1, 1, 0, 1, 0, 0, 1, 0, 0, 1, 1, 0] [G3] (endK C1 f16h f16f) m)) = f16L4 n (f16W3 G3) m := by
  intro m
  induction m with
  | zero => funext x4_0 x4_1 x4_2 x4_3 x4_4 x4_5 x4_6 x4_7 x4_8 x4_9; exact lp_zero _
  | succ m ih =>
    have e5 : (f16W5 (lp C1 f16h n Lf (codeOf f16f) [1, 1, 1, 1, 0, 1, 0, 0, 1, 0, 0, 1, 1, 0, 0, 1, 0, 0, 1, 1, 1, 0] [G3, (lp C1 f16h n Lf (codeOf f16f) [1, 1, 1, 1, 0, 1, 0, 0, 1, 0, 0, 1, 1, 0] [G3] (endK C1 f16h f16f) m)] (endK C1 f16h f16f) n)) = (f16L5 n (f16W3 G3) (f16L4 n (f16W3 G3) m) n) := by
      rw [f16W5_ev, ih]
    funext x4_0 x4_1 x4_2 x4_3 x4_4 x4_5 x4_6 x4_7 x4_8 x4_9
    show lp C1 f16h n Lf (codeOf f16f) [1, 1, 1, 1, 0, 1, 0, 0, 1, 0, 0, 1, 1, 0] [G3] (endK C1 f16h f16f) (m + 1) (f16H4 x4_0 x4_1 x4_2 x4_3 x4_4 x4_5 x4_6 x4_7 x4_8 x4_9) = f16S4 (f16L5 n (f16W3 G3) (f16L4 n (f16W3 G3) m) n) (f16W3 G3) (f16L4 n (f16W3 G3) m) x4_0 x4_1 x4_2 x4_3 x4_4 x4_5 x4_6 x4_7 x4_8 x4_9
    rw [lp_succ, f16S4_ev, ih, e5]
noncomputable def f16S3 (l4 : f16G4) (g3 : f16G3) (x3_0 : Int) (x3_1 : Int) (x3_2 : List (List (ByteArray × List (Int × Int × Unit) × Unit))) (x3_3 : List ByteArray) (x3_4 : List (List Int)) (x3_5 : Int) (x3_6 : List (List (ByteArray × List (Int × Int × Unit) × Unit))) (x3_7 : List ByteArray) (x3_8 : List (List Int)) : Option Lf :=
 bif decide (x3_0 < zn x3_2.length) then
  bif inb x3_0 x3_2.length then
   bif inb x3_0 x3_6.length then
    bif zn (x3_2.getD x3_0.toNat []).length != zn (x3_6.getD x3_0.toNat []).length then
     some (Lf.mk [(Pt.one (L.d (Pv.fz true) Sh.b (false : Bool)))] [] [])
    else
     l4 (x3_0 : Int) (0 : Int) (x3_1 : Int) (x3_2 : List (List (ByteArray × List (Int × Int × Unit) × Unit))) (x3_3 : List ByteArray) (x3_4 : List (List Int)) (x3_5 : Int) (x3_6 : List (List (ByteArray × List (Int × Int × Unit) × Unit))) (x3_7 : List ByteArray) (x3_8 : List (List Int))
   else
    none
  else
   none
 else
  some (Lf.mk [(Pt.one (L.d (Pv.fz true) Sh.b (true : Bool)))] [] [])
noncomputable def f16L3 (n : Nat)  : Nat → f16G3
  | 0 => fun _ _ _ _ _ _ _ _ _ => none
  | m + 1 => fun x3_0 x3_1 x3_2 x3_3 x3_4 x3_5 x3_6 x3_7 x3_8 => f16S3 (f16L4 n (f16L3 n  m) n)  (f16L3 n  m) x3_0 x3_1 x3_2 x3_3 x3_4 x3_5 x3_6 x3_7 x3_8
theorem f16S3_ev (n : Nat)  (G : St → Option Lf) (x3_0 : Int) (x3_1 : Int) (x3_2 : List (List (ByteArray × List (Int × Int × Unit) × Unit))) (x3_3 : List ByteArray) (x3_4 : List (List Int)) (x3_5 : Int) (x3_6 : List (List (ByteArray × List (Int × Int × Unit) × Unit))) (x3_7 : List ByteArray) (x3_8 : List (List Int)) : rnd C1 f16h n Lf (codeOf f16f) [1, 1, 1, 1, 0, 1, 0] [] (endK C1 f16h f16f) G (f16H3 x3_0 x3_1 x3_2 x3_3 x3_4 x3_5 x3_6 x3_7 x3_8) = f16S3 (f16W4 (lp C1 f16h n Lf (codeOf f16f) [1, 1, 1, 1, 0, 1, 0, 0, 1, 0, 0, 1, 1, 0] [G] (endK C1 f16h f16f) n))  (f16W3 G) x3_0 x3_1 x3_2 x3_3 x3_4 x3_5 x3_6 x3_7 x3_8 := by kernel_rfl
theorem f16W3_ev (n : Nat)  : ∀ m, (f16W3 (lp C1 f16h n Lf (codeOf f16f) [1, 1, 1, 1, 0, 1, 0] [] (endK C1 f16h f16f) m)) = f16L3 n  m := by
  intro m
  induction m with
  | zero => funext x3_0 x3_1 x3_2 x3_3 x3_4 x3_5 x3_6 x3_7 x3_8; exact lp_zero _
  | succ m ih =>
    have e4 : (f16W4 (lp C1 f16h n Lf (codeOf f16f) [1, 1, 1, 1, 0, 1, 0, 0, 1, 0, 0, 1, 1, 0] [(lp C1 f16h n Lf (codeOf f16f) [1, 1, 1, 1, 0, 1, 0] [] (endK C1 f16h f16f) m)] (endK C1 f16h f16f) n)) = (f16L4 n (f16L3 n  m) n) := by
      rw [f16W4_ev, ih]
    funext x3_0 x3_1 x3_2 x3_3 x3_4 x3_5 x3_6 x3_7 x3_8
    show lp C1 f16h n Lf (codeOf f16f) [1, 1, 1, 1, 0, 1, 0] [] (endK C1 f16h f16f) (m + 1) (f16H3 x3_0 x3_1 x3_2 x3_3 x3_4 x3_5 x3_6 x3_7 x3_8) = f16S3 (f16L4 n (f16L3 n  m) n)  (f16L3 n  m) x3_0 x3_1 x3_2 x3_3 x3_4 x3_5 x3_6 x3_7 x3_8
    rw [lp_succ, f16S3_ev, ih, e4]
noncomputable def f16S1 (l2 : f16G2) (l3 : f16G3) (g1 : f16G1) (x1_0 : Int) (x1_1 : Int) (x1_2 : List (List (ByteArray × List (Int × Int × Unit) × Unit))) (x1_3 : List ByteArray) (x1_4 : List (List Int)) (x1_5 : Int) (x1_6 : List (List (ByteArray × List (Int × Int × Unit) × Unit))) (x1_7 : List ByteArray) (x1_8 : List (List Int)) : Option Lf :=
 bif decide (x1_0 < zn x1_4.length) then
  bif inb x1_0 x1_4.length then
   bif inb x1_0 x1_8.length then
    bif zn (x1_4.getD x1_0.toNat []).length != zn (x1_8.getD x1_0.toNat []).length then
     some (Lf.mk [(Pt.one (L.d (Pv.fz true) Sh.b (false : Bool)))] [] [])
    else
     l2 (x1_0 : Int) (0 : Int) (x1_1 : Int) (x1_2 : List (List (ByteArray × List (Int × Int × Unit) × Unit))) (x1_3 : List ByteArray) (x1_4 : List (List Int)) (x1_5 : Int) (x1_6 : List (List (ByteArray × List (Int × Int × Unit) × Unit))) (x1_7 : List ByteArray) (x1_8 : List (List Int))
   else
    none
  else
   none
 else
  l3 (0 : Int) (x1_1 : Int) (x1_2 : List (List (ByteArray × List (Int × Int × Unit) × Unit))) (x1_3 : List ByteArray) (x1_4 : List (List Int)) (x1_5 : Int) (x1_6 : List (List (ByteArray × List (Int × Int × Unit) × Unit))) (x1_7 : List ByteArray) (x1_8 : List (List Int))
noncomputable def f16L1 (n : Nat)  : Nat → f16G1
  | 0 => fun _ _ _ _ _ _ _ _ _ => none
  | m + 1 => fun x1_0 x1_1 x1_2 x1_3 x1_4 x1_5 x1_6 x1_7 x1_8 => f16S1 (f16L2 n (f16L1 n  m) n) (f16L3 n  n)  (f16L1 n  m) x1_0 x1_1 x1_2 x1_3 x1_4 x1_5 x1_6 x1_7 x1_8
theorem f16S1_ev (n : Nat)  (G : St → Option Lf) (x1_0 : Int) (x1_1 : Int) (x1_2 : List (List (ByteArray × List (Int × Int × Unit) × Unit))) (x1_3 : List ByteArray) (x1_4 : List (List Int)) (x1_5 : Int) (x1_6 : List (List (ByteArray × List (Int × Int × Unit) × Unit))) (x1_7 : List ByteArray) (x1_8 : List (List Int)) : rnd C1 f16h n Lf (codeOf f16f) [1, 1, 1, 0, 1, 0] [] (endK C1 f16h f16f) G (f16H1 x1_0 x1_1 x1_2 x1_3 x1_4 x1_5 x1_6 x1_7 x1_8) = f16S1 (f16W2 (lp C1 f16h n Lf (codeOf f16f) [1, 1, 1, 0, 1, 0, 0, 1, 0, 0, 1, 1, 0] [G] (endK C1 f16h f16f) n)) (f16W3 (lp C1 f16h n Lf (codeOf f16f) [1, 1, 1, 1, 0, 1, 0] [] (endK C1 f16h f16f) n))  (f16W1 G) x1_0 x1_1 x1_2 x1_3 x1_4 x1_5 x1_6 x1_7 x1_8 := by kernel_rfl
theorem f16W1_ev (n : Nat)  : ∀ m, (f16W1 (lp C1 f16h n Lf (codeOf f16f) [1, 1, 1, 0, 1, 0] [] (endK C1 f16h f16f) m)) = f16L1 n  m := by
  intro m
  induction m with
  | zero => funext x1_0 x1_1 x1_2 x1_3 x1_4 x1_5 x1_6 x1_7 x1_8; exact lp_zero _
  | succ m ih =>
    have e2 : (f16W2 (lp C1 f16h n Lf (codeOf f16f) [1, 1, 1, 0, 1, 0, 0, 1, 0, 0, 1, 1, 0] [(lp C1 f16h n Lf (codeOf f16f) [1, 1, 1, 0, 1, 0] [] (endK C1 f16h f16f) m)] (endK C1 f16h f16f) n)) = (f16L2 n (f16L1 n  m) n) := by
      rw [f16W2_ev, ih]
    have e3 : (f16W3 (lp C1 f16h n Lf (codeOf f16f) [1, 1, 1, 1, 0, 1, 0] [] (endK C1 f16h f16f) n)) = (f16L3 n  n) := by
      rw [f16W3_ev]
    funext x1_0 x1_1 x1_2 x1_3 x1_4 x1_5 x1_6 x1_7 x1_8
    show lp C1 f16h n Lf (codeOf f16f) [1, 1, 1, 0, 1, 0] [] (endK C1 f16h f16f) (m + 1) (f16H1 x1_0 x1_1 x1_2 x1_3 x1_4 x1_5 x1_6 x1_7 x1_8) = f16S1 (f16L2 n (f16L1 n  m) n) (f16L3 n  n)  (f16L1 n  m) x1_0 x1_1 x1_2 x1_3 x1_4 x1_5 x1_6 x1_7 x1_8
    rw [lp_succ, f16S1_ev, ih, e2, e3]
noncomputable def f16S0 (l1 : f16G1) (g0 : f16G0) (x0_0 : Int) (x0_1 : Int) (x0_2 : List (List (ByteArray × List (Int × Int × Unit) × Unit))) (x0_3 : List ByteArray) (x0_4 : List (List Int)) (x0_5 : Int) (x0_6 : List (List (ByteArray × List (Int × Int × Unit) × Unit))) (x0_7 : List ByteArray) (x0_8 : List (List Int)) : Option Lf :=
 bif decide (x0_0 < zn x0_3.length) then
  bif inb x0_0 x0_3.length then
   bif inb x0_0 x0_7.length then
    bif !(x0_3.getD x0_0.toNat { data := #[] }).toList == (x0_7.getD x0_0.toNat { data := #[] }).toList then
     some (Lf.mk [(Pt.one (L.d (Pv.fz true) Sh.b (false : Bool)))] [] [])
    else
     g0 (IntKind.i64.wrap (x0_0 + 1) : Int) (x0_1 : Int) (x0_2 : List (List (ByteArray × List (Int × Int × Unit) × Unit))) (x0_3 : List ByteArray) (x0_4 : List (List Int)) (x0_5 : Int) (x0_6 : List (List (ByteArray × List (Int × Int × Unit) × Unit))) (x0_7 : List ByteArray) (x0_8 : List (List Int))
   else
    none
  else
   none
 else
  l1 (0 : Int) (x0_1 : Int) (x0_2 : List (List (ByteArray × List (Int × Int × Unit) × Unit))) (x0_3 : List ByteArray) (x0_4 : List (List Int)) (x0_5 : Int) (x0_6 : List (List (ByteArray × List (Int × Int × Unit) × Unit))) (x0_7 : List ByteArray) (x0_8 : List (List Int))
noncomputable def f16L0 (n : Nat)  : Nat → f16G0
  | 0 => fun _ _ _ _ _ _ _ _ _ => none
  | m + 1 => fun x0_0 x0_1 x0_2 x0_3 x0_4 x0_5 x0_6 x0_7 x0_8 => f16S0 (f16L1 n  n)  (f16L0 n  m) x0_0 x0_1 x0_2 x0_3 x0_4 x0_5 x0_6 x0_7 x0_8
theorem f16S0_ev (n : Nat)  (G : St → Option Lf) (x0_0 : Int) (x0_1 : Int) (x0_2 : List (List (ByteArray × List (Int × Int × Unit) × Unit))) (x0_3 : List ByteArray) (x0_4 : List (List Int)) (x0_5 : Int) (x0_6 : List (List (ByteArray × List (Int × Int × Unit) × Unit))) (x0_7 : List ByteArray) (x0_8 : List (List Int)) : rnd C1 f16h n Lf (codeOf f16f) [1, 1, 0, 1, 0] [] (endK C1 f16h f16f) G (f16H0 x0_0 x0_1 x0_2 x0_3 x0_4 x0_5 x0_6 x0_7 x0_8) = f16S0 (f16W1 (lp C1 f16h n Lf (codeOf f16f) [1, 1, 1, 0, 1, 0] [] (endK C1 f16h f16f) n))  (f16W0 G) x0_0 x0_1 x0_2 x0_3 x0_4 x0_5 x0_6 x0_7 x0_8 := by kernel_rfl
theorem f16W0_ev (n : Nat)  : ∀ m, (f16W0 (lp C1 f16h n Lf (codeOf f16f) [1, 1, 0, 1, 0] [] (endK C1 f16h f16f) m)) = f16L0 n  m := by
  intro m
  induction m with
  | zero => funext x0_0 x0_1 x0_2 x0_3 x0_4 x0_5 x0_6 x0_7 x0_8; exact lp_zero _
  | succ m ih =>
    have e1 : (f16W1 (lp C1 f16h n Lf (codeOf f16f) [1, 1, 1, 0, 1, 0] [] (endK C1 f16h f16f) n)) = (f16L1 n  n) := by
      rw [f16W1_ev]
    funext x0_0 x0_1 x0_2 x0_3 x0_4 x0_5 x0_6 x0_7 x0_8
    show lp C1 f16h n Lf (codeOf f16f) [1, 1, 0, 1, 0] [] (endK C1 f16h f16f) (m + 1) (f16H0 x0_0 x0_1 x0_2 x0_3 x0_4 x0_5 x0_6 x0_7 x0_8) = f16S0 (f16L1 n  n)  (f16L0 n  m) x0_0 x0_1 x0_2 x0_3 x0_4 x0_5 x0_6 x0_7 x0_8
    rw [lp_succ, f16S0_ev, ih, e1]
noncomputable def f16T (l0 : f16G0) (i : Int) (ch : List (List (ByteArray × List (Int × Int × Unit) × Unit))) (nm : List ByteArray) (ho : List (List Int)) (i2 : Int) (ch2 : List (List (ByteArray × List (Int × Int × Unit) × Unit))) (nm2 : List ByteArray) (ho2 : List (List Int)) : Option Lf :=
 bif Nat.beq 1 1 && (Nat.beq 1 1 && (i != i2 || Nat.beq 1 1 && (Nat.beq 1 1 && (zn ch.length != zn ch2.length || Nat.beq 1 1 && (Nat.beq 1 1 && (zn nm.length != zn nm2.length || true)))))) then
  bif i != i2 || (zn ch.length != zn ch2.length || (zn nm.length != zn nm2.length || zn ho.length != zn ho2.length)) then
   some (Lf.mk [(Pt.one (L.d (Pv.fz true) Sh.b (false : Bool)))] [] [])
  else
   l0 (0 : Int) (i : Int) (ch : List (List (ByteArray × List (Int × Int × Unit) × Unit))) (nm : List ByteArray) (ho : List (List Int)) (i2 : Int) (ch2 : List (List (ByteArray × List (Int × Int × Unit) × Unit))) (nm2 : List ByteArray) (ho2 : List (List Int))
 else
  none
noncomputable def f16M (n : Nat) (i : Int) (ch : List (List (ByteArray × List (Int × Int × Unit) × Unit))) (nm : List ByteArray) (ho : List (List Int)) (i2 : Int) (ch2 : List (List (ByteArray × List (Int × Int × Unit) × Unit))) (nm2 : List ByteArray) (ho2 : List (List Int)) : Option Lf := f16T (f16L0 n n) i ch nm ho i2 ch2 nm2 ho2
theorem f16T_ev (n : Nat) (i : Int) (ch : List (List (ByteArray × List (Int × Int × Unit) × Unit))) (nm : List ByteArray) (ho : List (List Int)) (i2 : Int) (ch2 : List (List (ByteArray × List (Int × Int × Unit) × Unit))) (nm2 : List ByteArray) (ho2 : List (List Int)) : evF C1 f16h n f16f [(D.p (Pt.agg [(L.d (Pv.fz true) (Sh.i IntKind.i64) i), (L.d (Pv.fz false) (Sh.l (Sh.l (Sh.p Sh.s (Sh.p (Sh.l (Sh.p (Sh.i IntKind.i64) (Sh.p (Sh.i IntKind.i64) Sh.u))) Sh.u)))) ch), (L.d (Pv.fz false) (Sh.l Sh.s) nm), (L.d (Pv.fz false) (Sh.l (Sh.l (Sh.i IntKind.i64))) ho)])), (D.p (Pt.agg [(L.d (Pv.fz true) (Sh.i IntKind.i64) i2), (L.d (Pv.fz false) (Sh.l (Sh.l (Sh.p Sh.s (Sh.p (Sh.l (Sh.p (Sh.i IntKind.i64) (Sh.p (Sh.i IntKind.i64) Sh.u))) Sh.u)))) ch2), (L.d (Pv.fz false) (Sh.l Sh.s) nm2), (L.d (Pv.fz false) (Sh.l (Sh.l (Sh.i IntKind.i64))) ho2)]))] [] = f16T (f16W0 (lp C1 f16h n Lf (codeOf f16f) [1, 1, 0, 1, 0] [] (endK C1 f16h f16f) n)) i ch nm ho i2 ch2 nm2 ho2 := by kernel_rfl
theorem f16_ev (n : Nat) (i : Int) (ch : List (List (ByteArray × List (Int × Int × Unit) × Unit))) (nm : List ByteArray) (ho : List (List Int)) (i2 : Int) (ch2 : List (List (ByteArray × List (Int × Int × Unit) × Unit))) (nm2 : List ByteArray) (ho2 : List (List Int)) : evF C1 f16h n f16f [(D.p (Pt.agg [(L.d (Pv.fz true) (Sh.i IntKind.i64) i), (L.d (Pv.fz false) (Sh.l (Sh.l (Sh.p Sh.s (Sh.p (Sh.l (Sh.p (Sh.i IntKind.i64) (Sh.p (Sh.i IntKind.i64) Sh.u))) Sh.u)))) ch), (L.d (Pv.fz false) (Sh.l Sh.s) nm), (L.d (Pv.fz false) (Sh.l (Sh.l (Sh.i IntKind.i64))) ho)])), (D.p (Pt.agg [(L.d (Pv.fz true) (Sh.i IntKind.i64) i2), (L.d (Pv.fz false) (Sh.l (Sh.l (Sh.p Sh.s (Sh.p (Sh.l (Sh.p (Sh.i IntKind.i64) (Sh.p (Sh.i IntKind.i64) Sh.u))) Sh.u)))) ch2), (L.d (Pv.fz false) (Sh.l Sh.s) nm2), (L.d (Pv.fz false) (Sh.l (Sh.l (Sh.i IntKind.i64))) ho2)]))] [] = f16M n i ch nm ho i2 ch2 nm2 ho2 := by
  rw [f16T_ev, f16W0_ev]
  rfl

abbrev f19h : Hn := h19
noncomputable abbrev f19f : Func := fn 19
abbrev f19G0 := (List Int) → Int → Int → Int → (List (List Int)) → (List (List Int × List Int × Unit)) → Option Lf
noncomputable def f19H0 (x0_0 : List Int) (x0_1 : Int) (x0_2 : Int) (x0_3 : Int) (x0_4 : List (List Int)) (x0_5 : List (List Int × List Int × Unit)) : St := (St.mk [dead, (D.p (Pt.one (L.d (Pv.fz false) (Sh.l (Sh.i IntKind.i64)) x0_0))), dead, dead, dead, (D.p (Pt.one (L.pv (Id.mk 1 0) 0))), dead, (D.p (Pt.one (L.d (Pv.fz true) (Sh.i IntKind.i64) x0_1))), dead, dead, dead, dead, dead, dead, dead, dead, dead, dead, dead, dead, dead, dead, dead, dead, dead, dead, dead, dead, dead, dead, dead, dead, dead, dead, dead, dead, dead, dead, dead, dead, dead, dead, dead, dead, dead, dead, dead] [[], [(Ob.va [(L.d (Pv.fz true) (Sh.i IntKind.i64) x0_2), (L.d (Pv.fz true) (Sh.i IntKind.i64) x0_3), (L.d (Pv.fz false) (Sh.l (Sh.l (Sh.i IntKind.i64))) x0_4), (L.d (Pv.fz false) (Sh.l (Sh.p (Sh.l (Sh.i IntKind.i64)) (Sh.p (Sh.l (Sh.i IntKind.i64)) Sh.u))) x0_5)])]])
noncomputable def f19W0 (G : St → Option Lf) : f19G0 := fun x0_0 x0_1 x0_2 x0_3 x0_4 x0_5 => G (f19H0 x0_0 x0_1 x0_2 x0_3 x0_4 x0_5)
noncomputable def f19S0  (g0 : f19G0) (x0_0 : List Int) (x0_1 : Int) (x0_2 : Int) (x0_3 : Int) (x0_4 : List (List Int)) (x0_5 : List (List Int × List Int × Unit)) : Option Lf :=
 bif decide (x0_1 < zn x0_0.length) then
  bif Nat.beq 1 1 && (inb x0_1 x0_0.length && (Nat.beq 1 1 && (decide (x0_0.getD x0_1.toNat 0 < 0) || Nat.beq 1 1 && (inb x0_1 x0_0.length && (Nat.beq 1 1 && (Nat.beq 1 1 && (Nat.beq 1 1 && (inb 0 x0_4.length && true)))))))) then
   bif decide (x0_0.getD x0_1.toNat 0 < 0) || decide (x0_0.getD x0_1.toNat 0 ≥ zn (x0_4.getD 0 []).length) then
    some (Lf.mk [(Pt.one (L.d (Pv.fz true) Sh.b (false : Bool)))] [] [])
   else
    g0 (x0_0 : List Int) (IntKind.i64.wrap (x0_1 + 1) : Int) (x0_2 : Int) (x0_3 : Int) (x0_4 : List (List Int)) (x0_5 : List (List Int × List Int × Unit))
  else
   none
 else
  some (Lf.mk [(Pt.one (L.d (Pv.fz true) Sh.b (true : Bool)))] [] [])
noncomputable def f19L0 (n : Nat)  : Nat → f19G0
  | 0 => fun _ _ _ _ _ _ => none
  | m + 1 => fun x0_0 x0_1 x0_2 x0_3 x0_4 x0_5 => f19S0   (f19L0 n  m) x0_0 x0_1 x0_2 x0_3 x0_4 x0_5
theorem f19S0_ev (n : Nat)  (G : St → Option Lf) (x0_0 : List Int) (x0_1 : Int) (x0_2 : Int) (x0_3 : Int) (x0_4 : List (List Int)) (x0_5 : List (List Int × List Int × Unit)) : rnd C22 f19h n Lf (codeOf f19f) [1, 1, 0, 1, 0] [] (endK C22 f19h f19f) G (f19H0 x0_0 x0_1 x0_2 x0_3 x0_4 x0_5) = f19S0   (f19W0 G) x0_0 x0_1 x0_2 x0_3 x0_4 x0_5 := by kernel_rfl
theorem f19W0_ev (n : Nat)  : ∀ m, (f19W0 (lp C22 f19h n Lf (codeOf f19f) [1, 1, 0, 1, 0] [] (endK C22 f19h f19f) m)) = f19L0 n  m := by
  intro m
  induction m with
  | zero => funext x0_0 x0_1 x0_2 x0_3 x0_4 x0_5; exact lp_zero _
  | succ m ih =>
    funext x0_0 x0_1 x0_2 x0_3 x0_4 x0_5
    show lp C22 f19h n Lf (codeOf f19f) [1, 1, 0, 1, 0] [] (endK C22 f19h f19f) (m + 1) (f19H0 x0_0 x0_1 x0_2 x0_3 x0_4 x0_5) = f19S0   (f19L0 n  m) x0_0 x0_1 x0_2 x0_3 x0_4 x0_5
    rw [lp_succ, f19S0_ev, ih]
noncomputable def f19T (l0 : f19G0) (i : Int) (ch : List (List (ByteArray × List (Int × Int × Unit) × Unit))) (nm : List ByteArray) (ho : List (List Int)) (le : List Int) (p : Int) (i2 : Int) (nx : List (List Int)) (ps : List (List Int × List Int × Unit)) : Option Lf :=
 bif mdG ch nm ho && (!mdOk i ch nm ho || drG nx ps && (!drOk p i2 nx ps || true)) then
  bif !mdOk i ch nm ho || (!drOk p i2 nx ps || zn le.length != zn ch.length) then
   some (Lf.mk [(Pt.one (L.d (Pv.fz true) Sh.b (false : Bool)))] [] [])
  else
   l0 (le : List Int) (0 : Int) (p : Int) (i2 : Int) (nx : List (List Int)) (ps : List (List Int × List Int × Unit))
 else
  none
noncomputable def f19M (n : Nat) (i : Int) (ch : List (List (ByteArray × List (Int × Int × Unit) × Unit))) (nm : List ByteArray) (ho : List (List Int)) (le : List Int) (p : Int) (i2 : Int) (nx : List (List Int)) (ps : List (List Int × List Int × Unit)) : Option Lf := f19T (f19L0 n n) i ch nm ho le p i2 nx ps
theorem f19T_ev (n : Nat) (i : Int) (ch : List (List (ByteArray × List (Int × Int × Unit) × Unit))) (nm : List ByteArray) (ho : List (List Int)) (le : List Int) (p : Int) (i2 : Int) (nx : List (List Int)) (ps : List (List Int × List Int × Unit)) : evF C22 f19h n f19f [(D.p (Pt.agg [(L.d (Pv.fz true) (Sh.i IntKind.i64) i), (L.d (Pv.fz false) (Sh.l (Sh.l (Sh.p Sh.s (Sh.p (Sh.l (Sh.p (Sh.i IntKind.i64) (Sh.p (Sh.i IntKind.i64) Sh.u))) Sh.u)))) ch), (L.d (Pv.fz false) (Sh.l Sh.s) nm), (L.d (Pv.fz false) (Sh.l (Sh.l (Sh.i IntKind.i64))) ho)])), (D.p (Pt.one (L.d (Pv.fz false) (Sh.l (Sh.i IntKind.i64)) le))), (D.p (Pt.agg [(L.d (Pv.fz true) (Sh.i IntKind.i64) p), (L.d (Pv.fz true) (Sh.i IntKind.i64) i2), (L.d (Pv.fz false) (Sh.l (Sh.l (Sh.i IntKind.i64))) nx), (L.d (Pv.fz false) (Sh.l (Sh.p (Sh.l (Sh.i IntKind.i64)) (Sh.p (Sh.l (Sh.i IntKind.i64)) Sh.u))) ps)]))] [] = f19T (f19W0 (lp C22 f19h n Lf (codeOf f19f) [1, 1, 0, 1, 0] [] (endK C22 f19h f19f) n)) i ch nm ho le p i2 nx ps := by kernel_rfl
theorem f19_ev (n : Nat) (i : Int) (ch : List (List (ByteArray × List (Int × Int × Unit) × Unit))) (nm : List ByteArray) (ho : List (List Int)) (le : List Int) (p : Int) (i2 : Int) (nx : List (List Int)) (ps : List (List Int × List Int × Unit)) : evF C22 f19h n f19f [(D.p (Pt.agg [(L.d (Pv.fz true) (Sh.i IntKind.i64) i), (L.d (Pv.fz false) (Sh.l (Sh.l (Sh.p Sh.s (Sh.p (Sh.l (Sh.p (Sh.i IntKind.i64) (Sh.p (Sh.i IntKind.i64) Sh.u))) Sh.u)))) ch), (L.d (Pv.fz false) (Sh.l Sh.s) nm), (L.d (Pv.fz false) (Sh.l (Sh.l (Sh.i IntKind.i64))) ho)])), (D.p (Pt.one (L.d (Pv.fz false) (Sh.l (Sh.i IntKind.i64)) le))), (D.p (Pt.agg [(L.d (Pv.fz true) (Sh.i IntKind.i64) p), (L.d (Pv.fz true) (Sh.i IntKind.i64) i2), (L.d (Pv.fz false) (Sh.l (Sh.l (Sh.i IntKind.i64))) nx), (L.d (Pv.fz false) (Sh.l (Sh.p (Sh.l (Sh.i IntKind.i64)) (Sh.p (Sh.l (Sh.i IntKind.i64)) Sh.u))) ps)]))] [] = f19M n i ch nm ho le p i2 nx ps := by
  rw [f19T_ev, f19W0_ev]
  rfl

abbrev f30h : Hn := h30
noncomputable abbrev f30f : Func := fn 30
abbrev f30G0 := Int → Int → Int → Int → (List (List (ByteArray × List (Int × Int × Unit) × Unit))) → (List ByteArray) → (List (List Int)) → (List Int) → (List Int) → Option Lf
noncomputable def f30H0 (x0_0 : Int) (x0_1 : Int) (x0_2 : Int) (x0_3 : Int) (x0_4 : List (List (ByteArray × List (Int × Int × Unit) × Unit))) (x0_5 : List ByteArray) (x0_6 : List (List Int)) (x0_7 : List Int) (x0_8 : List Int) : St := (St.mk [dead, (D.p (Pt.one (L.d (Pv.fz true) (Sh.i IntKind.i64) x0_0))), (D.p (Pt.one (L.d (Pv.fz true) (Sh.i IntKind.i64) x0_1))), (D.p (Pt.one (L.pv (Id.mk 1 0) 0))), dead, dead, dead, (D.p (Pt.one (L.d (Pv.fz true) (Sh.i IntKind.i64) x0_2))), dead, dead, dead, dead, dead, dead, dead, dead, dead, dead, dead, dead, dead, dead, dead, dead, dead, dead, dead, dead, dead, dead, dead, dead] [[], [(Ob.va [(L.d (Pv.fz true) (Sh.i IntKind.i64) x0_3), (L.d (Pv.fz false) (Sh.l (Sh.l (Sh.p Sh.s (Sh.p (Sh.l (Sh.p (Sh.i IntKind.i64) (Sh.p (Sh.i IntKind.i64) Sh.u))) Sh.u)))) x0_4), (L.d (Pv.fz false) (Sh.l Sh.s) x0_5), (L.d (Pv.fz false) (Sh.l (Sh.l (Sh.i IntKind.i64))) x0_6), (L.d (Pv.fz false) (Sh.l (Sh.i IntKind.i64)) x0_7), (L.d (Pv.fz false) (Sh.l (Sh.i IntKind.i64)) x0_8)])]])
noncomputable def f30W0 (G : St → Option Lf) : f30G0 := fun x0_0 x0_1 x0_2 x0_3 x0_4 x0_5 x0_6 x0_7 x0_8 => G (f30H0 x0_0 x0_1 x0_2 x0_3 x0_4 x0_5 x0_6 x0_7 x0_8)
noncomputable def f30S0  (g0 : f30G0) (x0_0 : Int) (x0_1 : Int) (x0_2 : Int) (x0_3 : Int) (x0_4 : List (List (ByteArray × List (Int × Int × Unit) × Unit))) (x0_5 : List ByteArray) (x0_6 : List (List Int)) (x0_7 : List Int) (x0_8 : List Int) : Option Lf :=
 bif decide (x0_2 < zn x0_7.length) then
  bif Nat.beq 1 1 && (Nat.beq 1 1 && (inb x0_2 x0_7.length && (Nat.beq 1 1 && bif x0_7.getD x0_2.toNat 0 == x0_0 then Nat.beq 1 1 && (Nat.beq 1 1 && (inb x0_2 x0_8.length && true)) else true))) then
   bif x0_7.getD x0_2.toNat 0 == x0_0 && x0_8.getD x0_2.toNat 0 == x0_1 then
    some (Lf.mk [(Pt.one (L.d (Pv.fz true) (Sh.i IntKind.i64) (x0_2 : Int)))] [] [])
   else
    g0 (x0_0 : Int) (x0_1 : Int) (IntKind.i64.wrap (x0_2 + 1) : Int) (x0_3 : Int) (x0_4 : List (List (ByteArray × List (Int × Int × Unit) × Unit))) (x0_5 : List ByteArray) (x0_6 : List (List Int)) (x0_7 : List Int) (x0_8 : List Int)
  else
   none
 else
  some (Lf.mk [(Pt.one (L.d (Pv.fz true) (Sh.i IntKind.i64) (-1 : Int)))] [] [])
noncomputable def f30L0 (n : Nat)  : Nat → f30G0
  | 0 => fun _ _ _ _ _ _ _ _ _ => none
  | m + 1 => fun x0_0 x0_1 x0_2 x0_3 x0_4 x0_5 x0_6 x0_7 x0_8 => f30S0   (f30L0 n  m) x0_0 x0_1 x0_2 x0_3 x0_4 x0_5 x0_6 x0_7 x0_8
theorem f30S0_ev (n : Nat)  (G : St → Option Lf) (x0_0 : Int) (x0_1 : Int) (x0_2 : Int) (x0_3 : Int) (x0_4 : List (List (ByteArray × List (Int × Int × Unit) × Unit))) (x0_5 : List ByteArray) (x0_6 : List (List Int)) (x0_7 : List Int) (x0_8 : List Int) : rnd C1 f30h n Lf (codeOf f30f) [1, 0, 1, 0] [] (endK C1 f30h f30f) G (f30H0 x0_0 x0_1 x0_2 x0_3 x0_4 x0_5 x0_6 x0_7 x0_8) = f30S0   (f30W0 G) x0_0 x0_1 x0_2 x0_3 x0_4 x0_5 x0_6 x0_7 x0_8 := by kernel_rfl
theorem f30W0_ev (n : Nat)  : ∀ m, (f30W0 (lp C1 f30h n Lf (codeOf f30f) [1, 0, 1, 0] [] (endK C1 f30h f30f) m)) = f30L0 n  m := by
  intro m
  induction m with
  | zero => funext x0_0 x0_1 x0_2 x0_3 x0_4 x0_5 x0_6 x0_7 x0_8; exact lp_zero _
  | succ m ih =>
    funext x0_0 x0_1 x0_2 x0_3 x0_4 x0_5 x0_6 x0_7 x0_8
    show lp C1 f30h n Lf (codeOf f30f) [1, 0, 1, 0] [] (endK C1 f30h f30f) (m + 1) (f30H0 x0_0 x0_1 x0_2 x0_3 x0_4 x0_5 x0_6 x0_7 x0_8) = f30S0   (f30L0 n  m) x0_0 x0_1 x0_2 x0_3 x0_4 x0_5 x0_6 x0_7 x0_8
    rw [lp_succ, f30S0_ev, ih]
noncomputable def f30T (l0 : f30G0) (i : Int) (ch : List (List (ByteArray × List (Int × Int × Unit) × Unit))) (nm : List ByteArray) (ho : List (List Int)) (S : List Int) (Q : List Int) (s : Int) (q : Int) : Option Lf :=
 l0 (s : Int) (q : Int) (0 : Int) (i : Int) (ch : List (List (ByteArray × List (Int × Int × Unit) × Unit))) (nm : List ByteArray) (ho : List (List Int)) (S : List Int) (Q : List Int)
noncomputable def f30M (n : Nat) (i : Int) (ch : List (List (ByteArray × List (Int × Int × Unit) × Unit))) (nm : List ByteArray) (ho : List (List Int)) (S : List Int) (Q : List Int) (s : Int) (q : Int) : Option Lf := f30T (f30L0 n n) i ch nm ho S Q s q
theorem f30T_ev (n : Nat) (i : Int) (ch : List (List (ByteArray × List (Int × Int × Unit) × Unit))) (nm : List ByteArray) (ho : List (List Int)) (S : List Int) (Q : List Int) (s : Int) (q : Int) : evF C1 f30h n f30f [(D.p (Pt.agg [(L.d (Pv.fz true) (Sh.i IntKind.i64) i), (L.d (Pv.fz false) (Sh.l (Sh.l (Sh.p Sh.s (Sh.p (Sh.l (Sh.p (Sh.i IntKind.i64) (Sh.p (Sh.i IntKind.i64) Sh.u))) Sh.u)))) ch), (L.d (Pv.fz false) (Sh.l Sh.s) nm), (L.d (Pv.fz false) (Sh.l (Sh.l (Sh.i IntKind.i64))) ho), (L.d (Pv.fz false) (Sh.l (Sh.i IntKind.i64)) S), (L.d (Pv.fz false) (Sh.l (Sh.i IntKind.i64)) Q)])), (D.p (Pt.one (L.d (Pv.fz true) (Sh.i IntKind.i64) s))), (D.p (Pt.one (L.d (Pv.fz true) (Sh.i IntKind.i64) q)))] [] = f30T (f30W0 (lp C1 f30h n Lf (codeOf f30f) [1, 0, 1, 0] [] (endK C1 f30h f30f) n)) i ch nm ho S Q s q := by kernel_rfl
theorem f30_ev (n : Nat) (i : Int) (ch : List (List (ByteArray × List (Int × Int × Unit) × Unit))) (nm : List ByteArray) (ho : List (List Int)) (S : List Int) (Q : List Int) (s : Int) (q : Int) : evF C1 f30h n f30f [(D.p (Pt.agg [(L.d (Pv.fz true) (Sh.i IntKind.i64) i), (L.d (Pv.fz false) (Sh.l (Sh.l (Sh.p Sh.s (Sh.p (Sh.l (Sh.p (Sh.i IntKind.i64) (Sh.p (Sh.i IntKind.i64) Sh.u))) Sh.u)))) ch), (L.d (Pv.fz false) (Sh.l Sh.s) nm), (L.d (Pv.fz false) (Sh.l (Sh.l (Sh.i IntKind.i64))) ho), (L.d (Pv.fz false) (Sh.l (Sh.i IntKind.i64)) S), (L.d (Pv.fz false) (Sh.l (Sh.i IntKind.i64)) Q)])), (D.p (Pt.one (L.d (Pv.fz true) (Sh.i IntKind.i64) s))), (D.p (Pt.one (L.d (Pv.fz true) (Sh.i IntKind.i64) q)))] [] = f30M n i ch nm ho S Q s q := by
  rw [f30T_ev, f30W0_ev]
  rfl

abbrev f29h : Hn := hn0
noncomputable abbrev f29f : Func := fn 29
noncomputable def f29T  (i : Int) (lim : Int) (ov : Bool) (ch : List (List (ByteArray × List (Int × Int × Unit) × Unit))) (ho : List (List Int)) (S : List Int) (Q : List Int) (m : List ((Int × Int × Unit) × Int)) (s : Int) (q : Int) : Option Lf :=
 bif Option.rec false (fun (val : Int) => true) (mapGet ((Sh.i IntKind.i64).p ((Sh.i IntKind.i64).p Sh.u)) (Sh.i IntKind.i64) (s, q, ()) m) then
  some (Lf.mk [(Pt.one (L.d (Pv.fz true) (Sh.i IntKind.i64) (Option.rec 0 (fun (val : Int) => val) (mapGet ((Sh.i IntKind.i64).p ((Sh.i IntKind.i64).p Sh.u)) (Sh.i IntKind.i64) (s, q, ()) m) : Int)))] [(Ob.va [(L.d (Pv.fz true) (Sh.i IntKind.i64) (i : Int)), (L.rw (Id.mk 0 1)), L.nl, (L.rw (Id.mk 0 2)), (L.rw (Id.mk 0 3)), (L.rw (Id.mk 0 4)), (L.d (Pv.fz true) (Sh.i IntKind.i64) (lim : Int)), (L.mp (Id.mk 0 5)), (L.d (Pv.fz true) Sh.b (ov : Bool))]), (Ob.ro true 0 59 (Sh.l (Sh.p Sh.s (Sh.p (Sh.l (Sh.p (Sh.i IntKind.i64) (Sh.p (Sh.i IntKind.i64) Sh.u))) Sh.u))) (Ow.l 62 (Ow.p Ow.z (Ow.p (Ow.l 67 Ow.z) Ow.z))) (ch : List (List (ByteArray × List (Int × Int × Unit) × Unit))) Option.none), (Ob.ro true 0 27 (Sh.l (Sh.i IntKind.i64)) (Ow.l 3 Ow.z) (ho : List (List Int)) Option.none), (Ob.ro true 0 3 (Sh.i IntKind.i64) Ow.z (S : List Int) Option.none), (Ob.ro true 0 3 (Sh.i IntKind.i64) Ow.z (Q : List Int) Option.none), (Ob.ma (Sh.p (Sh.i IntKind.i64) (Sh.p (Sh.i IntKind.i64) Sh.u)) (Sh.i IntKind.i64) (m : List ((Int × Int × Unit) × Int)))] [])
 else
  bif decide (zn S.length ≥ lim) then
   some (Lf.mk [(Pt.one (L.d (Pv.fz true) (Sh.i IntKind.i64) (0 : Int)))] [(Ob.va [(L.d (Pv.fz true) (Sh.i IntKind.i64) (i : Int)), (L.rw (Id.mk 0 1)), L.nl, (L.rw (Id.mk 0 2)), (L.rw (Id.mk 0 3)), (L.rw (Id.mk 0 4)), (L.d (Pv.fz true) (Sh.i IntKind.i64) (lim : Int)), (L.mp (Id.mk 0 5)), (L.d (Pv.fz true) Sh.b (true : Bool))]), (Ob.ro true 0 59 (Sh.l (Sh.p Sh.s (Sh.p (Sh.l (Sh.p (Sh.i IntKind.i64) (Sh.p (Sh.i IntKind.i64) Sh.u))) Sh.u))) (Ow.l 62 (Ow.p Ow.z (Ow.p (Ow.l 67 Ow.z) Ow.z))) (ch : List (List (ByteArray × List (Int × Int × Unit) × Unit))) Option.none), (Ob.ro true 0 27 (Sh.l (Sh.i IntKind.i64)) (Ow.l 3 Ow.z) (ho : List (List Int)) Option.none), (Ob.ro true 0 3 (Sh.i IntKind.i64) Ow.z (S : List Int) Option.none), (Ob.ro true 0 3 (Sh.i IntKind.i64) Ow.z (Q : List Int) Option.none), (Ob.ma (Sh.p (Sh.i IntKind.i64) (Sh.p (Sh.i IntKind.i64) Sh.u)) (Sh.i IntKind.i64) (m : List ((Int × Int × Unit) × Int)))] [])
  else
   bif decide ((S.length + [s].length) * 8 ≤ 140737488355328) then
    bif decide ((Q.length + [q].length) * 8 ≤ 140737488355328) then
     some (Lf.mk [(Pt.one (L.d (Pv.fz true) (Sh.i IntKind.i64) (zn S.length : Int)))] [(Ob.va [(L.d (Pv.fz true) (Sh.i IntKind.i64) (i : Int)), (L.rw (Id.mk 0 1)), L.nl, (L.rw (Id.mk 0 2)), (L.rw (Id.mk 1 0)), (L.rw (Id.mk 1 1)), (L.d (Pv.fz true) (Sh.i IntKind.i64) (lim : Int)), (L.mp (Id.mk 0 5)), (L.d (Pv.fz true) Sh.b (ov : Bool))]), (Ob.ro true 0 59 (Sh.l (Sh.p Sh.s (Sh.p (Sh.l (Sh.p (Sh.i IntKind.i64) (Sh.p (Sh.i IntKind.i64) Sh.u))) Sh.u))) (Ow.l 62 (Ow.p Ow.z (Ow.p (Ow.l 67 Ow.z) Ow.z))) (ch : List (List (ByteArray × List (Int × Int × Unit) × Unit))) Option.none), (Ob.ro true 0 27 (Sh.l (Sh.i IntKind.i64)) (Ow.l 3 Ow.z) (ho : List (List Int)) Option.none), Ob.gone, Ob.gone, (Ob.ma (Sh.p (Sh.i IntKind.i64) (Sh.p (Sh.i IntKind.i64) Sh.u)) (Sh.i IntKind.i64) (mapSet ((Sh.i IntKind.i64).p ((Sh.i IntKind.i64).p Sh.u)) (Sh.i IntKind.i64) (s, q, ()) (zn S.length) m : List ((Int × Int × Unit) × Int)))] [(Ob.ro true 0 3 (Sh.i IntKind.i64) Ow.z (S ++ [s] : List Int) Option.none), (Ob.ro true 0 3 (Sh.i IntKind.i64) Ow.z (Q ++ [q] : List Int) Option.none)])
    else
     none
   else
    none
noncomputable def f29M (_ : Nat) (i : Int) (lim : Int) (ov : Bool) (ch : List (List (ByteArray × List (Int × Int × Unit) × Unit))) (ho : List (List Int)) (S : List Int) (Q : List Int) (m : List ((Int × Int × Unit) × Int)) (s : Int) (q : Int) : Option Lf := f29T  i lim ov ch ho S Q m s q
theorem f29T_ev (n : Nat) (i : Int) (lim : Int) (ov : Bool) (ch : List (List (ByteArray × List (Int × Int × Unit) × Unit))) (ho : List (List Int)) (S : List Int) (Q : List Int) (m : List ((Int × Int × Unit) × Int)) (s : Int) (q : Int) : evF C1 f29h n f29f [(D.p (Pt.one (L.pv (Id.mk 0 0) 0))), (D.p (Pt.agg [(L.d (Pv.fz true) (Sh.i IntKind.i64) s), (L.d (Pv.fz true) (Sh.i IntKind.i64) q)]))] [(Ob.va [(L.d (Pv.fz true) (Sh.i IntKind.i64) i), (L.rw (Id.mk 0 1)), L.nl, (L.rw (Id.mk 0 2)), (L.rw (Id.mk 0 3)), (L.rw (Id.mk 0 4)), (L.d (Pv.fz true) (Sh.i IntKind.i64) lim), (L.mp (Id.mk 0 5)), (L.d (Pv.fz true) Sh.b ov)]), (Ob.ro true 0 59 (Sh.l (Sh.p Sh.s (Sh.p (Sh.l (Sh.p (Sh.i IntKind.i64) (Sh.p (Sh.i IntKind.i64) Sh.u))) Sh.u))) (Ow.l 62 (Ow.p Ow.z (Ow.p (Ow.l 67 Ow.z) Ow.z))) ch Option.none), (Ob.ro true 0 27 (Sh.l (Sh.i IntKind.i64)) (Ow.l 3 Ow.z) ho Option.none), (Ob.ro true 0 3 (Sh.i IntKind.i64) Ow.z S Option.none), (Ob.ro true 0 3 (Sh.i IntKind.i64) Ow.z Q Option.none), (Ob.ma (Sh.p (Sh.i IntKind.i64) (Sh.p (Sh.i IntKind.i64) Sh.u)) (Sh.i IntKind.i64) m)] = f29T  i lim ov ch ho S Q m s q := by kernel_rfl
theorem f29_ev (n : Nat) (i : Int) (lim : Int) (ov : Bool) (ch : List (List (ByteArray × List (Int × Int × Unit) × Unit))) (ho : List (List Int)) (S : List Int) (Q : List Int) (m : List ((Int × Int × Unit) × Int)) (s : Int) (q : Int) : evF C1 f29h n f29f [(D.p (Pt.one (L.pv (Id.mk 0 0) 0))), (D.p (Pt.agg [(L.d (Pv.fz true) (Sh.i IntKind.i64) s), (L.d (Pv.fz true) (Sh.i IntKind.i64) q)]))] [(Ob.va [(L.d (Pv.fz true) (Sh.i IntKind.i64) i), (L.rw (Id.mk 0 1)), L.nl, (L.rw (Id.mk 0 2)), (L.rw (Id.mk 0 3)), (L.rw (Id.mk 0 4)), (L.d (Pv.fz true) (Sh.i IntKind.i64) lim), (L.mp (Id.mk 0 5)), (L.d (Pv.fz true) Sh.b ov)]), (Ob.ro true 0 59 (Sh.l (Sh.p Sh.s (Sh.p (Sh.l (Sh.p (Sh.i IntKind.i64) (Sh.p (Sh.i IntKind.i64) Sh.u))) Sh.u))) (Ow.l 62 (Ow.p Ow.z (Ow.p (Ow.l 67 Ow.z) Ow.z))) ch Option.none), (Ob.ro true 0 27 (Sh.l (Sh.i IntKind.i64)) (Ow.l 3 Ow.z) ho Option.none), (Ob.ro true 0 3 (Sh.i IntKind.i64) Ow.z S Option.none), (Ob.ro true 0 3 (Sh.i IntKind.i64) Ow.z Q Option.none), (Ob.ma (Sh.p (Sh.i IntKind.i64) (Sh.p (Sh.i IntKind.i64) Sh.u)) (Sh.i IntKind.i64) m)] = f29M n i lim ov ch ho S Q m s q := by
  rw [f29T_ev]
  rfl
end Go.S23
