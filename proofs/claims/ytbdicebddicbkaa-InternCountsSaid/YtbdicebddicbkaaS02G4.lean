/-
  Seat 02: functional forms of the laws.
-/
import Derived.Test.YtbdicebddicbkaaS02G3
open Go Go.En Go.S2
namespace Go.S2
noncomputable def l4 : List (Nat × En.Spec) := (8, putS) :: l3
noncomputable def C4 : Ctx := ctxOf C0 l4
noncomputable def l5 : List (Nat × En.Spec) := (6, aliveS) :: l4
noncomputable def C5 : Ctx := ctxOf C0 l5
def dL (l : List (List Int)) : D := one (.d (.fz false) (.l (.l (.i .i32))) l)
def h3 : Hn := ⟨fun | 14 => [0, 1, 5, 7, 12] | _ => [], fun _ => [], fun _ => false⟩
def h4 : Hn := ⟨fun | 8 => [0, 3, 4, 5] | 18 => [0, 3, 4, 5, 6, 9] | _ => [], fun _ => [], fun _ => false⟩
def h5 : Hn := ⟨fun | 8 => [0, 1, 5, 6, 7] | _ => [], fun _ => [], fun _ => false⟩

abbrev f6h : Hn := hn0
noncomputable abbrev f6f : Func := fn 6
noncomputable def f6T   : Option Lf :=
 bif okT [] (firstOf []) [] && big [1, 2] then
  bif putB [] [1, 2] then
   bif okT [[1, 2]] (firstOf [[1, 2]]) (nextOf [[1, 2]]) && big [2, 1] then
    bif putB [[1, 2]] [2, 1] then
     bif okT [[1, 2], [2, 1]] (firstOf [[1, 2], [2, 1]]) (nextOf [[1, 2], [2, 1]]) && big [1, 2] then
      bif putB [[1, 2], [2, 1]] [1, 2] then
       some (Lf.mk [(Pt.one (L.d (Pv.fz true) Sh.b (Er.nil.isNil && false : Bool)))] [] [])
      else
       some (Lf.mk [(Pt.one (L.d (Pv.fz true) Sh.b (Er.nil.isNil && true : Bool)))] [] [])
     else
      none
    else
     bif okT [[1, 2]] (firstOf [[1, 2]]) (nextOf [[1, 2]]) && big [1, 2] then
      bif putB [[1, 2]] [1, 2] then
       some (Lf.mk [(Pt.one (L.d (Pv.fz true) Sh.b (Er.nil.isNil && false : Bool)))] [] [])
      else
       some (Lf.mk [(Pt.one (L.d (Pv.fz true) Sh.b (Er.nil.isNil && false : Bool)))] [] [])
     else
      none
   else
    none
  else
   bif okT [] (firstOf []) (nextOf []) && big [2, 1] then
    bif putB [] [2, 1] then
     bif okT [[2, 1]] (firstOf [[2, 1]]) (nextOf [[2, 1]]) && big [1, 2] then
      bif putB [[2, 1]] [1, 2] then
       some (Lf.mk [(Pt.one (L.d (Pv.fz true) Sh.b ((putE [1, 2]).isNil && false : Bool)))] [] [])
      else
       some (Lf.mk [(Pt.one (L.d (Pv.fz true) Sh.b ((putE [1, 2]).isNil && false : Bool)))] [] [])
     else
      none
    else
     bif okT [] (firstOf []) (nextOf []) && big [1, 2] then
      bif putB [] [1, 2] then
       some (Lf.mk [(Pt.one (L.d (Pv.fz true) Sh.b ((putE [1, 2]).isNil && false : Bool)))] [] [])
      else
       some (Lf.mk [(Pt.one (L.d (Pv.fz true) Sh.b ((putE [1, 2]).isNil && false : Bool)))] [] [])
     else
      none
   else
    none
 else
  none
noncomputable def f6M (_ : Nat)  : Option Lf := f6T  
theorem f6T_ev (n : Nat)  : evF C4 f6h n f6f [] [] = f6T   := by kernel_rfl
theorem f6_ev (n : Nat)  : evF C4 f6h n f6f [] [] = f6M n  := by
  rw [f6T_ev]
  rfl

abbrev f5h : Hn := h5
noncomputable abbrev f5f : Func := fn 5
abbrev f5G0 := (List (List Int)) → (List Int) → Bool → Int → (List Int) → (List (List Int)) → (List Int) → Option Lf
noncomputable def f5H0 (x0_0 : List (List Int)) (x0_1 : List Int) (x0_2 : Bool) (x0_3 : Int) (x0_4 : List Int) (x0_5 : List (List Int)) (x0_6 : List Int) : St := (St.mk [(D.p (Pt.one (L.d (Pv.fz false) (Sh.l (Sh.l (Sh.i IntKind.i32))) x0_0))), (D.p (Pt.one (L.d (Pv.fz false) (Sh.l (Sh.i IntKind.i32)) x0_1))), dead, dead, dead, (D.p (Pt.one (L.pv (Id.mk 1 0) 0))), (D.p (Pt.one (L.d (Pv.fz true) Sh.b x0_2))), (D.p (Pt.one (L.d (Pv.fz true) (Sh.i IntKind.i64) x0_3))), dead, dead, dead, dead, dead, dead, dead, dead, dead, dead, dead, dead, dead, dead, dead, dead, dead, dead, dead, dead, dead, dead, dead, dead, dead, dead, dead, dead, dead, dead, dead, dead, dead, dead, dead, dead, dead, dead, dead, dead, dead, dead, dead, dead, dead, dead, dead, dead, dead, dead, dead, dead, dead, dead, dead, dead, dead, dead, dead, dead, dead, dead, dead, dead, dead, dead] [[], [(Ob.va [(L.rw (Id.mk 1 1)), (L.d (Pv.fz true) (Sh.v 257 (Sh.i IntKind.i64)) x0_4), (L.rw (Id.mk 1 2))]), (Ob.ro true 0 22 (Sh.l (Sh.i IntKind.i32)) (Ow.l 21 Ow.z) x0_5 Option.none), (Ob.ro true 0 3 (Sh.i IntKind.i64) Ow.z x0_6 Option.none)]])
noncomputable def f5W0 (G : St → Option Lf) : f5G0 := fun x0_0 x0_1 x0_2 x0_3 x0_4 x0_5 x0_6 => G (f5H0 x0_0 x0_1 x0_2 x0_3 x0_4 x0_5 x0_6)
noncomputable def f5S0  (g0 : f5G0) (x0_0 : List (List Int)) (x0_1 : List Int) (x0_2 : Bool) (x0_3 : Int) (x0_4 : List Int) (x0_5 : List (List Int)) (x0_6 : List Int) : Option Lf :=
 bif decide (x0_3 < zn x0_0.length) then
  bif inb x0_3 x0_0.length then
   bif decide (zn (x0_0.getD x0_3.toNat []).length > 64) then
    some (Lf.mk [(Pt.one (L.d (Pv.fz true) Sh.b (true : Bool)))] [] [])
   else
    bif inb x0_3 x0_0.length then
     bif okT x0_5 x0_4 x0_6 && big (x0_0.getD x0_3.toNat []) then
      bif putB x0_5 (x0_0.getD x0_3.toNat []) then
       bif x0_2 || Nat.beq 1 1 && (inb x0_3 x0_0.length && (Nat.beq 1 1 && (big (x0_0.getD x0_3.toNat []) && big x0_1 && true))) then
        g0 (x0_0 : List (List Int)) (x0_1 : List Int) (x0_2 || same (x0_0.getD x0_3.toNat []) x0_1 : Bool) (IntKind.i64.wrap (x0_3 + 1) : Int) (firstOf (x0_5 ++ [x0_0.getD x0_3.toNat []]) : List Int) (x0_5 ++ [x0_0.getD x0_3.toNat []] : List (List Int)) (nextOf (x0_5 ++ [x0_0.getD x0_3.toNat []]) : List Int)
       else
        none
      else
       bif x0_2 || Nat.beq 1 1 && (inb x0_3 x0_0.length && (Nat.beq 1 1 && (big (x0_0.getD x0_3.toNat []) && big x0_1 && true))) then
        g0 (x0_0 : List (List Int)) (x0_1 : List Int) (x0_2 || same (x0_0.getD x0_3.toNat []) x0_1 : Bool) (IntKind.i64.wrap (x0_3 + 1) : Int) (firstOf x0_5 : List Int) (x0_5 : List (List Int)) (nextOf x0_5 : List Int)
       else
        none
     else
      none
    else
     none
  else
   none
 else
  bif okT x0_5 x0_4 x0_6 then
   bif okT x0_5 (firstOf x0_5) (nextOf x0_5) && big x0_1 then
    bif okT x0_5 (firstOf x0_5) (nextOf x0_5) && big x0_1 then
     bif (fnd x0_5 x0_1).snd == x0_2 then
      bif (fnd x0_5 x0_1).snd == x0_2 then
       bif okT x0_5 (firstOf x0_5) (nextOf x0_5) then
        some (Lf.mk [(Pt.one (L.d (Pv.fz true) Sh.b (zn x0_5.length == zn x0_5.length : Bool)))] [] [])
       else
        none
      else
       some (Lf.mk [(Pt.one (L.d (Pv.fz true) Sh.b (false : Bool)))] [] [])
     else
      some (Lf.mk [(Pt.one (L.d (Pv.fz true) Sh.b (false : Bool)))] [] [])
    else
     none
   else
    none
  else
   none
noncomputable def f5L0 (n : Nat)  : Nat → f5G0
  | 0 => fun _ _ _ _ _ _ _ => none
  | m + 1 => fun x0_0 x0_1 x0_2 x0_3 x0_4 x0_5 x0_6 => f5S0   (f5L0 n  m) x0_0 x0_1 x0_2 x0_3 x0_4 x0_5 x0_6
theorem f5S0_ev (n : Nat)  (G : St → Option Lf) (x0_0 : List (List Int)) (x0_1 : List Int) (x0_2 : Bool) (x0_3 : Int) (x0_4 : List Int) (x0_5 : List (List Int)) (x0_6 : List Int) : rnd C5 f5h n Lf (codeOf f5f) [1, 1, 1, 1, 1, 0, 1, 0] [] (endK C5 f5h f5f) G (f5H0 x0_0 x0_1 x0_2 x0_3 x0_4 x0_5 x0_6) = f5S0   (f5W0 G) x0_0 x0_1 x0_2 x0_3 x0_4 x0_5 x0_6 := by kernel_rfl
theorem f5W0_ev (n : Nat)  : ∀ m, (f5W0 (lp C5 f5h n Lf (codeOf f5f) [1, 1, 1, 1, 1, 0, 1, 0] [] (endK C5 f5h f5f) m)) = f5L0 n  m := by
  intro m
  induction m with
  | zero => funext x0_0 x0_1 x0_2 x0_3 x0_4 x0_5 x0_6; exact lp_zero _
  | succ m ih =>
    funext x0_0 x0_1 x0_2 x0_3 x0_4 x0_5 x0_6
    show lp C5 f5h n Lf (codeOf f5f) [1, 1, 1, 1, 1, 0, 1, 0] [] (endK C5 f5h f5f) (m + 1) (f5H0 x0_0 x0_1 x0_2 x0_3 x0_4 x0_5 x0_6) = f5S0   (f5L0 n  m) x0_0 x0_1 x0_2 x0_3 x0_4 x0_5 x0_6
    rw [lp_succ, f5S0_ev, ih]
noncomputable def f5T (l0 : f5G0) (l : List (List Int)) (v : List Int) : Option Lf :=
 bif decide (zn l.length > 100) then
  some (Lf.mk [(Pt.one (L.d (Pv.fz true) Sh.b (true : Bool)))] [] [])
 else
  l0 (l : List (List Int)) (v : List Int) (false : Bool) (0 : Int) (firstOf [] : List Int) ([] : List (List Int)) ([] : List Int)
noncomputable def f5M (n : Nat) (l : List (List Int)) (v : List Int) : Option Lf := f5T (f5L0 n n) l v
theorem f5T_ev (n : Nat) (l : List (List Int)) (v : List Int) : evF C5 f5h n f5f [(D.p (Pt.one (L.d (Pv.fz false) (Sh.l (Sh.l (Sh.i IntKind.i32))) l))), (D.p (Pt.one (L.d (Pv.fz false) (Sh.l (Sh.i IntKind.i32)) v)))] [] = f5T (f5W0 (lp C5 f5h n Lf (codeOf f5f) [1, 1, 1, 1, 1, 0, 1, 0] [] (endK C5 f5h f5f) n)) l v := by kernel_rfl
theorem f5_ev (n : Nat) (l : List (List Int)) (v : List Int) : evF C5 f5h n f5f [(D.p (Pt.one (L.d (Pv.fz false) (Sh.l (Sh.l (Sh.i IntKind.i32))) l))), (D.p (Pt.one (L.d (Pv.fz false) (Sh.l (Sh.i IntKind.i32)) v)))] [] = f5M n l v := by
  rw [f5T_ev, f5W0_ev]
  rfl

abbrev f4h : Hn := h4
noncomputable abbrev f4f : Func := fn 4
abbrev f4G0 := (List (List Int)) → Int → Int → (List Int) → (List (List Int)) → (List Int) → Option Lf
noncomputable def f4H0 (x0_0 : List (List Int)) (x0_1 : Int) (x0_2 : Int) (x0_3 : List Int) (x0_4 : List (List Int)) (x0_5 : List Int) : St := (St.mk [(D.p (Pt.one (L.d (Pv.fz false) (Sh.l (Sh.l (Sh.i IntKind.i32))) x0_0))), dead, dead, (D.p (Pt.one (L.pv (Id.mk 1 0) 0))), (D.p (Pt.one (L.d (Pv.fz true) (Sh.i IntKind.i64) x0_1))), (D.p (Pt.one (L.d (Pv.fz true) (Sh.i IntKind.i64) x0_2))), dead, dead, dead, dead, dead, dead, dead, dead, dead, dead, dead, dead, dead, dead, dead, dead, dead, dead, dead, dead, dead, dead, dead, dead, dead, dead, dead, dead, dead, dead, dead, dead, dead, dead, dead, dead, dead, dead, dead, dead, dead, dead, dead, dead, dead, dead, dead, dead, dead, dead, dead, dead, dead, dead, dead, dead, dead, dead, dead, dead, dead, dead, dead, dead, dead, dead, dead, dead, dead, dead, dead, dead, dead, dead, dead, dead, dead, dead, dead, dead, dead, dead, dead, dead, dead, dead] [[], [(Ob.va [(L.rw (Id.mk 1 1)), (L.d (Pv.fz true) (Sh.v 257 (Sh.i IntKind.i64)) x0_3), (L.rw (Id.mk 1 2))]), (Ob.ro true 0 22 (Sh.l (Sh.i IntKind.i32)) (Ow.l 21 Ow.z) x0_4 Option.none), (Ob.ro true 0 3 (Sh.i IntKind.i64) Ow.z x0_5 Option.none)]])
noncomputable def f4W0 (G : St → Option Lf) : f4G0 := fun x0_0 x0_1 x0_2 x0_3 x0_4 x0_5 => G (f4H0 x0_0 x0_1 x0_2 x0_3 x0_4 x0_5)
abbrev f4G1 := (List (List Int)) → Int → Int → Int → Int → (List Int) → (List (List Int)) → (List Int) → Option Lf
noncomputable def f4H1 (x1_0 : List (List Int)) (x1_1 : Int) (x1_2 : Int) (x1_3 : Int) (x1_4 : Int) (x1_5 : List Int) (x1_6 : List (List Int)) (x1_7 : List Int) : St := (St.mk [(D.p (Pt.one (L.d (Pv.fz false) (Sh.l (Sh.l (Sh.i IntKind.i32))) x1_0))), dead, dead, (D.p (Pt.one (L.pv (Id.mk 1 0) 0))), (D.p (Pt.one (L.d (Pv.fz true) (Sh.i IntKind.i64) x1_1))), (D.p (Pt.one (L.d (Pv.fz true) (Sh.i IntKind.i64) x1_2))), (D.p (Pt.one (L.d (Pv.fz true) (Sh.i IntKind.i64) x1_3))), dead, dead, (D.p (Pt.one (L.d (Pv.fz true) (Sh.i IntKind.i64) x1_4))), dead, dead, dead, dead, dead, dead, dead, dead, dead, dead, dead, dead, dead, dead, dead, dead, dead, dead, dead, dead, dead, dead, dead, dead, dead, dead, dead, dead, dead, dead, dead, dead, dead, dead, dead, dead, dead, dead, dead, dead, dead, dead, dead, dead, dead, dead, dead, dead, dead, dead, dead, dead, dead, dead, dead, dead, dead, dead, dead, dead, dead, dead, dead, dead, dead, dead, dead, dead, dead, dead, dead, dead, dead, dead, dead, dead, dead, dead, dead, dead, dead, dead] [[], [(Ob.va [(L.rw (Id.mk 1 1)), (L.d (Pv.fz true) (Sh.v 257 (Sh.i IntKind.i64)) x1_5), (L.rw (Id.mk 1 2))]), (Ob.ro true 0 22 (Sh.l (Sh.i IntKind.i32)) (Ow.l 21 Ow.z) x1_6 Option.none), (Ob.ro true 0 3 (Sh.i IntKind.i64) Ow.z x1_7 Option.none)]])
noncomputable def f4W1 (G : St → Option Lf) : f4G1 := fun x1_0 x1_1 x1_2 x1_3 x1_4 x1_5 x1_6 x1_7 => G (f4H1 x1_0 x1_1 x1_2 x1_3 x1_4 x1_5 x1_6 x1_7)
noncomputable def f4S1  (g0 : f4G0) (g1 : f4G1) (x1_0 : List (List Int)) (x1_1 : Int) (x1_2 : Int) (x1_3 : Int) (x1_4 : Int) (x1_5 : List Int) (x1_6 : List (List Int)) (x1_7 : List Int) : Option Lf :=
 bif decide (x1_4 < x1_2) then
  bif inb x1_4 x1_0.length then
   bif okT x1_6 x1_5 x1_7 && big (x1_0.getD x1_4.toNat []) then
    bif !(fnd x1_6 (x1_0.getD x1_4.toNat [])).snd || Nat.beq 1 1 && (inb x1_2 x1_0.length && (Nat.beq 1 1 && (Nat.beq 1 1 && (inb x1_4 x1_0.length && (Nat.beq 1 1 && (big (x1_0.getD x1_2.toNat []) && big (x1_0.getD x1_4.toNat []) && true)))))) then
     bif !(fnd x1_6 (x1_0.getD x1_4.toNat [])).snd || !((fnd x1_6 (x1_0.getD x1_4.toNat [])).fst == x1_3) == same (x1_0.getD x1_2.toNat []) (x1_0.getD x1_4.toNat []) then
      some (Lf.mk [(Pt.one (L.d (Pv.fz true) Sh.b (false : Bool)))] [] [])
     else
      g1 (x1_0 : List (List Int)) (x1_1 : Int) (x1_2 : Int) (x1_3 : Int) (IntKind.i64.wrap (x1_4 + 1) : Int) (firstOf x1_6 : List Int) (x1_6 : List (List Int)) (nextOf x1_6 : List Int)
    else
     none
   else
    none
  else
   none
 else
  g0 (x1_0 : List (List Int)) (x1_1 : Int) (IntKind.i64.wrap (x1_2 + 1) : Int) (x1_5 : List Int) (x1_6 : List (List Int)) (x1_7 : List Int)
noncomputable def f4L1 (n : Nat) (g0 : f4G0) : Nat → f4G1
  | 0 => fun _ _ _ _ _ _ _ _ => none
  | m + 1 => fun x1_0 x1_1 x1_2 x1_3 x1_4 x1_5 x1_6 x1_7 => f4S1  g0 (f4L1 n g0 m) x1_0 x1_1 x1_2 x1_3 x1_4 x1_5 x1_6 x1_7
theorem f4S1_ev (n : Nat) (G0 : St → Option Lf) (G : St → Option Lf) (x1_0 : List (List Int)) (x1_1 : Int) (x1_2 : Int) (x1_3 : Int) (x1_4 : Int) (x1_5 : List Int) (x1_6 : List (List Int)) (x1_7 : List Int) : rnd C5 f4h n Lf (codeOf f4f) [1, 1, 1, 1, 1, 0, 1, 0, 0, 1, 0, 0, 1, 1, 1, 1, 1, 0] [G0] (endK C5 f4h f4f) G (f4H1 x1_0 x1_1 x1_2 x1_3 x1_4 x1_5 x1_6 x1_7) = f4S1  (f4W0 G0) (f4W1 G) x1_0 x1_1 x1_2 x1_3 x1_4 x1_5 x1_6 x1_7 := by kernel_rfl
theorem f4W1_ev (n : Nat) (G0 : St → Option Lf) : ∀ m, (f4W1 (lp C5 f4h n Lf (codeOf f4f) [1, 1, 1, 1, 1, 0, 1, 0, 0, 1, 0, 0, 1, 1, 1, 1, 1, 0] [G0] (endK C5 f4h f4f) m)) = f4L1 n (f4W0 G0) m := by
  intro m
  induction m with
  | zero => funext x1_0 x1_1 x1_2 x1_3 x1_4 x1_5 x1_6 x1_7; exact lp_zero _
  | succ m ih =>
    funext x1_0 x1_1 x1_2 x1_3 x1_4 x1_5 x1_6 x1_7
    show lp C5 f4h n Lf (codeOf f4f) [1, 1, 1, 1, 1, 0, 1, 0, 0, 1, 0, 0, 1, 1, 1, 1, 1, 0] [G0] (endK C5 f4h f4f) (m + 1) (f4H1 x1_0 x1_1 x1_2 x1_3 x1_4 x1_5 x1_6 x1_7) = f4S1  (f4W0 G0) (f4L1 n (f4W0 G0) m) x1_0 x1_1 x1_2 x1_3 x1_4 x1_5 x1_6 x1_7
    rw [lp_succ, f4S1_ev, ih]
noncomputable def f4S0 (l1 : f4G1) (g0 : f4G0) (x0_0 : List (List Int)) (x0_1 : Int) (x0_2 : Int) (x0_3 : List Int) (x0_4 : List (List Int)) (x0_5 : List Int) : Option Lf :=
 bif decide (x0_2 < zn x0_0.length) then
  bif inb x0_2 x0_0.length then
   bif decide (zn (x0_0.getD x0_2.toNat []).length > 64) then
    some (Lf.mk [(Pt.one (L.d (Pv.fz true) Sh.b (true : Bool)))] [] [])
   else
    bif inb x0_2 x0_0.length then
     bif okT x0_4 x0_3 x0_5 && big (x0_0.getD x0_2.toNat []) then
      bif putB x0_4 (x0_0.getD x0_2.toNat []) then
       bif !Er.nil.isNil || (!true == (putN x0_4 (x0_0.getD x0_2.toNat []) == x0_1) || decide (putN x0_4 (x0_0.getD x0_2.toNat []) > x0_1)) then
        some (Lf.mk [(Pt.one (L.d (Pv.fz true) Sh.b (false : Bool)))] [] [])
       else
        l1 (x0_0 : List (List Int)) (IntKind.i64.wrap (x0_1 + 1) : Int) (x0_2 : Int) (putN x0_4 (x0_0.getD x0_2.toNat []) : Int) (0 : Int) (firstOf (x0_4 ++ [x0_0.getD x0_2.toNat []]) : List Int) (x0_4 ++ [x0_0.getD x0_2.toNat []] : List (List Int)) (nextOf (x0_4 ++ [x0_0.getD x0_2.toNat []]) : List Int)
      else
       bif !(putE (x0_0.getD x0_2.toNat [])).isNil || (!false == (putN x0_4 (x0_0.getD x0_2.toNat []) == x0_1) || decide (putN x0_4 (x0_0.getD x0_2.toNat []) > x0_1)) then
        some (Lf.mk [(Pt.one (L.d (Pv.fz true) Sh.b (false : Bool)))] [] [])
       else
        l1 (x0_0 : List (List Int)) (x0_1 : Int) (x0_2 : Int) (putN x0_4 (x0_0.getD x0_2.toNat []) : Int) (0 : Int) (firstOf x0_4 : List Int) (x0_4 : List (List Int)) (nextOf x0_4 : List Int)
     else
      none
    else
     none
  else
   none
 else
  bif okT x0_4 x0_3 x0_5 then
   some (Lf.mk [(Pt.one (L.d (Pv.fz true) Sh.b (zn x0_4.length == x0_1 : Bool)))] [] [])
  else
   none
noncomputable def f4L0 (n : Nat)  : Nat → f4G0
  | 0 => fun _ _ _ _ _ _ => none
  | m + 1 => fun x0_0 x0_1 x0_2 x0_3 x0_4 x0_5 => f4S0 (f4L1 n (f4L0 n  m) n)  (f4L0 n  m) x0_0 x0_1 x0_2 x0_3 x0_4 x0_5
theorem f4S0_ev (n : Nat)  (G : St → Option Lf) (x0_0 : List (List Int)) (x0_1 : Int) (x0_2 : Int) (x0_3 : List Int) (x0_4 : List (List Int)) (x0_5 : List Int) : rnd C5 f4h n Lf (codeOf f4f) [1, 1, 1, 1, 1, 0, 1, 0] [] (endK C5 f4h f4f) G (f4H0 x0_0 x0_1 x0_2 x0_3 x0_4 x0_5) = f4S0 (f4W1 (lp C5 f4h n Lf (codeOf f4f) [1, 1, 1, 1, 1, 0, 1, 0, 0, 1, 0, 0, 1, 1, 1, 1, 1, 0] [G] (endK C5 f4h f4f) n))  (f4W0 G) x0_0 x0_1 x0_2 x0_3 x0_4 x0_5 := by kernel_rfl
theorem f4W0_ev (n : Nat)  : ∀ m, (f4W0 (lp C5 f4h n Lf (codeOf f4f) [1, 1, 1, 1, 1, 0, 1, 0] [] (endK C5 f4h f4f) m)) = f4L0 n  m := by
  intro m
  induction m with
  | zero => funext x0_0 x0_1 x0_2 x0_3 x0_4 x0_5; exact lp_zero _
  | succ m ih =>
    have e1 : (f4W1 (lp C5 f4h n Lf (codeOf f4f) [1, 1, 1, 1, 1, 0, 1, 0, 0, 1, 0, 0, 1, 1, 1, 1, 1, 0] [(lp C5 f4h n Lf (codeOf f4f) [1, 1, 1, 1, 1, 0, 1, 0] [] (endK C5 f4h f4f) m)] (endK C5 f4h f4f) n)) = (f4L1 n (f4L0 n  m) n) := by
      rw [f4W1_ev, ih]
    funext x0_0 x0_1 x0_2 x0_3 x0_4 x0_5
    show lp C5 f4h n Lf (codeOf f4f) [1, 1, 1, 1, 1, 0, 1, 0] [] (endK C5 f4h f4f) (m + 1) (f4H0 x0_0 x0_1 x0_2 x0_3 x0_4 x0_5) = f4S0 (f4L1 n (f4L0 n  m) n)  (f4L0 n  m) x0_0 x0_1 x0_2 x0_3 x0_4 x0_5
    rw [lp_succ, f4S0_ev, ih, e1]
noncomputable def f4T (l0 : f4G0) (l : List (List Int)) : Option Lf :=
 bif decide (zn l.length > 100) then
  some (Lf.mk [(Pt.one (L.d (Pv.fz true) Sh.b (true : Bool)))] [] [])
 else
  l0 (l : List (List Int)) (0 : Int) (0 : Int) (firstOf [] : List Int) ([] : List (List Int)) ([] : List Int)
noncomputable def f4M (n : Nat) (l : List (List Int)) : Option Lf := f4T (f4L0 n n) l
theorem f4T_ev (n : Nat) (l : List (List Int)) : evF C5 f4h n f4f [(D.p (Pt.one (L.d (Pv.fz false) (Sh.l (Sh.l (Sh.i IntKind.i32))) l)))] [] = f4T (f4W0 (lp C5 f4h n Lf (codeOf f4f) [1, 1, 1, 1, 1, 0, 1, 0] [] (endK C5 f4h f4f) n)) l := by kernel_rfl
theorem f4_ev (n : Nat) (l : List (List Int)) : evF C5 f4h n f4f [(D.p (Pt.one (L.d (Pv.fz false) (Sh.l (Sh.l (Sh.i IntKind.i32))) l)))] [] = f4M n l := by
  rw [f4T_ev, f4W0_ev]
  rfl

abbrev f3h : Hn := h3
noncomputable abbrev f3f : Func := fn 3
abbrev f3G0 := (List Int) → (List (List Int)) → Int → Int → (List Int) → (List (List Int)) → (List Int) → Option Lf
noncomputable def f3H0 (x0_0 : List Int) (x0_1 : List (List Int)) (x0_2 : Int) (x0_3 : Int) (x0_4 : List Int) (x0_5 : List (List Int)) (x0_6 : List Int) : St := (St.mk [(D.p (Pt.one (L.d (Pv.fz false) (Sh.l (Sh.i IntKind.i32)) x0_0))), (D.p (Pt.one (L.d (Pv.fz false) (Sh.l (Sh.l (Sh.i IntKind.i32))) x0_1))), dead, dead, dead, (D.p (Pt.one (L.pv (Id.mk 1 0) 0))), dead, (D.p (Pt.one (L.d (Pv.fz true) (Sh.i IntKind.i64) x0_2))), dead, dead, dead, dead, (D.p (Pt.one (L.d (Pv.fz true) (Sh.i IntKind.i64) x0_3))), dead, dead, dead, dead, dead, dead, dead, dead, dead, dead, dead, dead, dead, dead, dead, dead, dead, dead, dead, dead, dead, dead, dead, dead, dead, dead, dead, dead, dead, dead, dead, dead, dead, dead, dead, dead, dead, dead, dead, dead, dead, dead, dead, dead, dead, dead, dead, dead, dead, dead, dead, dead, dead, dead, dead, dead, dead, dead, dead, dead, dead, dead, dead, dead, dead, dead, dead, dead, dead, dead, dead, dead, dead, dead, dead, dead, dead, dead, dead, dead, dead, dead, dead, dead, dead, dead, dead, dead, dead, dead, dead, dead, dead, dead, dead, dead, dead, dead] [[], [(Ob.va [(L.rw (Id.mk 1 1)), (L.d (Pv.fz true) (Sh.v 257 (Sh.i IntKind.i64)) x0_4), (L.rw (Id.mk 1 2))]), (Ob.ro true 0 22 (Sh.l (Sh.i IntKind.i32)) (Ow.l 21 Ow.z) x0_5 Option.none), (Ob.ro true 0 3 (Sh.i IntKind.i64) Ow.z x0_6 Option.none)]])
noncomputable def f3W0 (G : St → Option Lf) : f3G0 := fun x0_0 x0_1 x0_2 x0_3 x0_4 x0_5 x0_6 => G (f3H0 x0_0 x0_1 x0_2 x0_3 x0_4 x0_5 x0_6)
noncomputable def f3S0  (g0 : f3G0) (x0_0 : List Int) (x0_1 : List (List Int)) (x0_2 : Int) (x0_3 : Int) (x0_4 : List Int) (x0_5 : List (List Int)) (x0_6 : List Int) : Option Lf :=
 bif decide (x0_3 < zn x0_1.length) then
  bif inb x0_3 x0_1.length then
   bif decide (zn (x0_1.getD x0_3.toNat []).length ≤ 64) then
    bif inb x0_3 x0_1.length then
     bif okT x0_5 x0_4 x0_6 && big (x0_1.getD x0_3.toNat []) then
      bif putB x0_5 (x0_1.getD x0_3.toNat []) then
       g0 (x0_0 : List Int) (x0_1 : List (List Int)) (x0_2 : Int) (IntKind.i64.wrap (x0_3 + 1) : Int) (firstOf (x0_5 ++ [x0_1.getD x0_3.toNat []]) : List Int) (x0_5 ++ [x0_1.getD x0_3.toNat []] : List (List Int)) (nextOf (x0_5 ++ [x0_1.getD x0_3.toNat []]) : List Int)
      else
       g0 (x0_0 : List Int) (x0_1 : List (List Int)) (x0_2 : Int) (IntKind.i64.wrap (x0_3 + 1) : Int) (firstOf x0_5 : List Int) (x0_5 : List (List Int)) (nextOf x0_5 : List Int)
     else
      none
    else
     none
   else
    g0 (x0_0 : List Int) (x0_1 : List (List Int)) (x0_2 : Int) (IntKind.i64.wrap (x0_3 + 1) : Int) (x0_4 : List Int) (x0_5 : List (List Int)) (x0_6 : List Int)
  else
   none
 else
  bif okT x0_5 x0_4 x0_6 && big x0_0 then
   bif okT x0_5 (firstOf x0_5) (nextOf x0_5) then
    bif bif (fnd x0_5 x0_0).snd then bif (fnd x0_5 x0_0).fst == x0_2 then Nat.beq 1 1 && (big (atF x0_5 x0_2).fst && big x0_0 && true) else true else true then
     some (Lf.mk [(Pt.one (L.d (Pv.fz true) Sh.b ((fnd x0_5 x0_0).snd && ((fnd x0_5 x0_0).fst == x0_2 && same (atF x0_5 x0_2).fst x0_0) : Bool)))] [] [])
    else
     none
   else
    none
  else
   none
noncomputable def f3L0 (n : Nat)  : Nat → f3G0
  | 0 => fun _ _ _ _ _ _ _ => none
  | m + 1 => fun x0_0 x0_1 x0_2 x0_3 x0_4 x0_5 x0_6 => f3S0   (f3L0 n  m) x0_0 x0_1 x0_2 x0_3 x0_4 x0_5 x0_6
theorem f3S0_ev (n : Nat)  (G : St → Option Lf) (x0_0 : List Int) (x0_1 : List (List Int)) (x0_2 : Int) (x0_3 : Int) (x0_4 : List Int) (x0_5 : List (List Int)) (x0_6 : List Int) : rnd C5 f3h n Lf (codeOf f3f) [1, 1, 1, 1, 1, 1, 1, 1, 1, 1, 0, 1, 0] [] (endK C5 f3h f3f) G (f3H0 x0_0 x0_1 x0_2 x0_3 x0_4 x0_5 x0_6) = f3S0   (f3W0 G) x0_0 x0_1 x0_2 x0_3 x0_4 x0_5 x0_6 := by kernel_rfl
theorem f3W0_ev (n : Nat)  : ∀ m, (f3W0 (lp C5 f3h n Lf (codeOf f3f) [1, 1, 1, 1, 1, 1, 1, 1, 1, 1, 0, 1, 0] [] (endK C5 f3h f3f) m)) = f3L0 n  m := by
  intro m
  induction m with
  | zero => funext x0_0 x0_1 x0_2 x0_3 x0_4 x0_5 x0_6; exact lp_zero _
  | succ m ih =>
    funext x0_0 x0_1 x0_2 x0_3 x0_4 x0_5 x0_6
    show lp C5 f3h n Lf (codeOf f3f) [1, 1, 1, 1, 1, 1, 1, 1, 1, 1, 0, 1, 0] [] (endK C5 f3h f3f) (m + 1) (f3H0 x0_0 x0_1 x0_2 x0_3 x0_4 x0_5 x0_6) = f3S0   (f3L0 n  m) x0_0 x0_1 x0_2 x0_3 x0_4 x0_5 x0_6
    rw [lp_succ, f3S0_ev, ih]
noncomputable def f3T (l0 : f3G0) (v : List Int) (l : List (List Int)) : Option Lf :=
 bif decide (zn v.length > 64) || (zn v.length == 0 || decide (zn l.length > 100)) then
  some (Lf.mk [(Pt.one (L.d (Pv.fz true) Sh.b (true : Bool)))] [] [])
 else
  bif decide ((0 + v.length) * 4 ≤ 140737488355328) then
   bif okT [] (firstOf []) [] && big v then
    bif putB [] v then
     bif inb 0 v.length then
      bif inb 0 v.length then
       bif okT [v] (firstOf [v]) (nextOf [v]) then
        bif !Er.nil.isNil || zn (atF [v] (putN [] v)).fst.length != zn v.length then
         some (Lf.mk [(Pt.one (L.d (Pv.fz true) Sh.b (false : Bool)))] [] [])
        else
         bif inb 0 (atF [v] (putN [] v)).fst.length then
          bif inb 0 (atF [v] (putN [] v)).fst.length then
           l0 (v : List Int) (l : List (List Int)) (putN [] v : Int) (0 : Int) (firstOf [v] : List Int) ([v] : List (List Int)) (nextOf [v] : List Int)
          else
           none
         else
          none
       else
        none
      else
       none
     else
      none
    else
     bif inb 0 v.length then
      bif inb 0 v.length then
       bif okT [] (firstOf []) (nextOf []) then
        bif !(putE v).isNil || zn (atF [] (putN [] v)).fst.length != zn v.length then
         some (Lf.mk [(Pt.one (L.d (Pv.fz true) Sh.b (false : Bool)))] [] [])
        else
         bif inb 0 (atF [] (putN [] v)).fst.length then
          bif inb 0 (atF [] (putN [] v)).fst.length then
           l0 (v : List Int) (l : List (List Int)) (putN [] v : Int) (0 : Int) (firstOf [] : List Int) ([] : List (List Int)) (nextOf [] : List Int)
          else
           none
         else
          none
       else
        none
      else
       none
     else
      none
   else
    none
  else
   none
noncomputable def f3M (n : Nat) (v : List Int) (l : List (List Int)) : Option Lf := f3T (f3L0 n n) v l
theorem f3T_ev (n : Nat) (v : List Int) (l : List (List Int)) : evF C5 f3h n f3f [(D.p (Pt.one (L.d (Pv.fz false) (Sh.l (Sh.i IntKind.i32)) v))), (D.p (Pt.one (L.d (Pv.fz false) (Sh.l (Sh.l (Sh.i IntKind.i32))) l)))] [] = f3T (f3W0 (lp C5 f3h n Lf (codeOf f3f) [1, 1, 1, 1, 1, 1, 1, 1, 1, 1, 0, 1, 0] [] (endK C5 f3h f3f) n)) v l := by kernel_rfl
theorem f3_ev (n : Nat) (v : List Int) (l : List (List Int)) : evF C5 f3h n f3f [(D.p (Pt.one (L.d (Pv.fz false) (Sh.l (Sh.i IntKind.i32)) v))), (D.p (Pt.one (L.d (Pv.fz false) (Sh.l (Sh.l (Sh.i IntKind.i32))) l)))] [] = f3M n v l := by
  rw [f3T_ev, f3W0_ev]
  rfl
end Go.S2
