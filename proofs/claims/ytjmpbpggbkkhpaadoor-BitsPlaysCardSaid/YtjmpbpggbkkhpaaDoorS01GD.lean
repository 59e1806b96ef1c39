/-
  Seat 01: functional forms of the document's sets, and of turn with no second set.
-/
import Derived.Test.YtjmpbpggbkkhpaaDoorS01W
open Go Go.En Go.S1
namespace Go.S1
def rHasF (bs : List Bool) (i : Int) : Bool := inF (bs.length : Int) i && bs.getD i.toNat false
def rHasS : En.Spec := ⟨[], fun ds os => match ds, os with
  | [.p (.agg [.d (.fz false) (.l .b) bs]), .p (.one (.d (.fz true) (.i .i64) i))], [] => .br (Nat.ble bs.length 4096) (.leaf [pB (rHasF bs i)] [] []) .fail
  | _, _ => .fail⟩
noncomputable def l13 : List (Nat × En.Spec) := [(29, rHasS)]
noncomputable def C13 : Ctx := ctxOf C0 l13
def roB (bs : List Bool) : Ob := .ro true 0 4 .b .z bs none
def dSet (bs : List Bool) : D := .p (.agg [.d (.fz false) (.l .b) bs])
def dSetR : D := .p (.agg [.rw ⟨0, 0⟩])
def dB (b : Bool) : D := one (.d (.fz true) .b b)
def dA (v : List (Int × Int × Int × List Int × Unit)) : D := one (.d (.fz false) (.l (.p (.i .i64) (.p (.i .i64) (.p (.i .i64) (.p (.l (.i .i64)) .u))))) v)
def h21 : Hn := ⟨fun | 4 => [0, 3] | _ => [], fun _ => [], fun _ => false⟩
def h22 : Hn := ⟨fun | 5 => [0, 1, 4, 6, 7] | _ => [], fun | 1000000 => [⟨4, some 0, 4, .z⟩] | _ => [], fun _ => false⟩
def h24 : Hn := ⟨fun | 3 => [1, 3, 5, 7, 8] | _ => [], fun _ => [], fun _ => false⟩
def h30 : Hn := ⟨fun | 3 => [1, 3, 4] | _ => [], fun | 3 => [⟨3, none, 3, .z⟩] | 1000000 => [⟨2, none, 3, .z⟩] | _ => [], fun _ => false⟩

abbrev f29h : Hn := hn0
noncomputable abbrev f29f : Func := fn 29
noncomputable def f29T  (bs : List Bool) (i : Int) : Option Lf :=
 bif bif decide (i ≥ 0) then Nat.beq 1 1 && bif decide (i < zn bs.length) then Nat.beq 1 1 && (Nat.beq 1 1 && (inb i bs.length && true)) else true else true then
  some (Lf.mk [(Pt.one (L.d (Pv.fz true) Sh.b (decide (i ≥ 0) && (decide (i < zn bs.length) && bs.getD i.toNat false) : Bool)))] [] [])
 else
  none
noncomputable def f29M (_ : Nat) (bs : List Bool) (i : Int) : Option Lf := f29T  bs i
theorem f29T_ev (n : Nat) (bs : List Bool) (i : Int) : evF C1 f29h n f29f [(D.p (Pt.agg [(L.d (Pv.fz false) (Sh.l Sh.b) bs)])), (D.p (Pt.one (L.d (Pv.fz true) (Sh.i IntKind.i64) i)))] [] = f29T  bs i := by kernel_rfl
theorem f29_ev (n : Nat) (bs : List Bool) (i : Int) : evF C1 f29h n f29f [(D.p (Pt.agg [(L.d (Pv.fz false) (Sh.l Sh.b) bs)])), (D.p (Pt.one (L.d (Pv.fz true) (Sh.i IntKind.i64) i)))] [] = f29M n bs i := by
  rw [f29T_ev]
  rfl

abbrev f27h : Hn := hn0
noncomputable abbrev f27f : Func := fn 27
noncomputable def f27T  (bs : List Bool) (i : Int) (to : Bool) : Option Lf :=
 bif decide (i < 0) || Nat.beq 1 1 && (decide (i ≥ zn bs.length) || Nat.beq 1 1 && (Nat.beq 1 1 && (inb i bs.length && true))) then
  bif decide (i < 0) || (decide (i ≥ zn bs.length) || bs.getD i.toNat false == to) then
   some (Lf.mk [(Pt.one (L.d (Pv.fz true) Sh.b (false : Bool)))] [(Ob.ro true 0 4 Sh.b Ow.z (bs : List Bool) Option.none)] [])
  else
   bif inb i bs.length then
    some (Lf.mk [(Pt.one (L.d (Pv.fz true) Sh.b (true : Bool)))] [(Ob.ro true 0 4 Sh.b Ow.z (bs.set i.toNat to : List Bool) Option.none)] [])
   else
    none
 else
  none
noncomputable def f27M (_ : Nat) (bs : List Bool) (i : Int) (to : Bool) : Option Lf := f27T  bs i to
theorem f27T_ev (n : Nat) (bs : List Bool) (i : Int) (to : Bool) : evF C1 f27h n f27f [(D.p (Pt.agg [(L.rw (Id.mk 0 0))])), (D.p (Pt.one (L.d (Pv.fz true) (Sh.i IntKind.i64) i))), (D.p (Pt.one (L.d (Pv.fz true) Sh.b to)))] [(Ob.ro true 0 4 Sh.b Ow.z bs Option.none)] = f27T  bs i to := by kernel_rfl
theorem f27_ev (n : Nat) (bs : List Bool) (i : Int) (to : Bool) : evF C1 f27h n f27f [(D.p (Pt.agg [(L.rw (Id.mk 0 0))])), (D.p (Pt.one (L.d (Pv.fz true) (Sh.i IntKind.i64) i))), (D.p (Pt.one (L.d (Pv.fz true) Sh.b to)))] [(Ob.ro true 0 4 Sh.b Ow.z bs Option.none)] = f27M n bs i to := by
  rw [f27T_ev]
  rfl

abbrev f21h : Hn := h21
noncomputable abbrev f21f : Func := fn 21
abbrev f21G0 := (List (Int × Int × Int × List Int × PUnit)) → Int → Option Lf
noncomputable def f21H0 (x0_0 : List (Int × Int × Int × List Int × PUnit)) (x0_1 : Int) : St := (St.mk [(D.p (Pt.one (L.d (Pv.fz false) (Sh.l (Sh.p (Sh.i IntKind.i64) (Sh.p (Sh.i IntKind.i64) (Sh.p (Sh.i IntKind.i64) (Sh.p (Sh.l (Sh.i IntKind.i64)) Sh.u))))) x0_0))), dead, dead, (D.p (Pt.one (L.d (Pv.fz true) (Sh.i IntKind.i64) x0_1))), dead, dead, dead, dead, dead, dead, dead, dead, dead, dead, dead, dead, dead, dead, dead, dead] [[], []])
noncomputable def f21W0 (G : St → Option Lf) : f21G0 := fun x0_0 x0_1 => G (f21H0 x0_0 x0_1)
noncomputable def f21S0  (g0 : f21G0) (x0_0 : List (Int × Int × Int × List Int × PUnit)) (x0_1 : Int) : Option Lf :=
 bif decide (x0_1 < zn x0_0.length) then
  bif inb x0_1 x0_0.length then
   bif decide (zn (x0_0.getD x0_1.toNat (0, 0, 0, [], PUnit.unit)).snd.snd.snd.fst.length > 200) then
    some (Lf.mk [(Pt.one (L.d (Pv.fz true) Sh.b (true : Bool)))] [] [])
   else
    g0 (x0_0 : List (Int × Int × Int × List Int × PUnit)) (IntKind.i64.wrap (x0_1 + 1) : Int)
  else
   none
 else
  some (Lf.mk [(Pt.one (L.d (Pv.fz true) Sh.b (false : Bool)))] [] [])
noncomputable def f21L0 (n : Nat)  : Nat → f21G0
  | 0 => fun _ _ => none
  | m + 1 => fun x0_0 x0_1 => f21S0   (f21L0 n  m) x0_0 x0_1
theorem f21S0_ev (n : Nat)  (G : St → Option Lf) (x0_0 : List (Int × Int × Int × List Int × PUnit)) (x0_1 : Int) : rnd C1 f21h n Lf (codeOf f21f) [1, 1, 0, 1, 0] [] (endK C1 f21h f21f) G (f21H0 x0_0 x0_1) = f21S0   (f21W0 G) x0_0 x0_1 := by kernel_rfl
theorem f21W0_ev (n : Nat)  : ∀ m, (f21W0 (lp C1 f21h n Lf (codeOf f21f) [1, 1, 0, 1, 0] [] (endK C1 f21h f21f) m)) = f21L0 n  m := by
  intro m
  induction m with
  | zero => funext x0_0 x0_1; exact lp_zero _
  | succ m ih =>
    funext x0_0 x0_1
    show lp C1 f21h n Lf (codeOf f21f) [1, 1, 0, 1, 0] [] (endK C1 f21h f21f) (m + 1) (f21H0 x0_0 x0_1) = f21S0   (f21L0 n  m) x0_0 x0_1
    rw [lp_succ, f21S0_ev, ih]
noncomputable def f21T (l0 : f21G0) (l : List (Int × Int × Int × List Int × PUnit)) : Option Lf :=
 bif decide (zn l.length > 60) then
  some (Lf.mk [(Pt.one (L.d (Pv.fz true) Sh.b (true : Bool)))] [] [])
 else
  l0 (l : List (Int × Int × Int × List Int × PUnit)) (0 : Int)
noncomputable def f21M (n : Nat) (l : List (Int × Int × Int × List Int × PUnit)) : Option Lf := f21T (f21L0 n n) l
theorem f21T_ev (n : Nat) (l : List (Int × Int × Int × List Int × PUnit)) : evF C1 f21h n f21f [(D.p (Pt.one (L.d (Pv.fz false) (Sh.l (Sh.p (Sh.i IntKind.i64) (Sh.p (Sh.i IntKind.i64) (Sh.p (Sh.i IntKind.i64) (Sh.p (Sh.l (Sh.i IntKind.i64)) Sh.u))))) l)))] [] = f21T (f21W0 (lp C1 f21h n Lf (codeOf f21f) [1, 1, 0, 1, 0] [] (endK C1 f21h f21f) n)) l := by kernel_rfl
theorem f21_ev (n : Nat) (l : List (Int × Int × Int × List Int × PUnit)) : evF C1 f21h n f21f [(D.p (Pt.one (L.d (Pv.fz false) (Sh.l (Sh.p (Sh.i IntKind.i64) (Sh.p (Sh.i IntKind.i64) (Sh.p (Sh.i IntKind.i64) (Sh.p (Sh.l (Sh.i IntKind.i64)) Sh.u))))) l)))] [] = f21M n l := by
  rw [f21T_ev, f21W0_ev]
  rfl

abbrev f22h : Hn := h22
noncomputable abbrev f22f : Func := fn 22
abbrev f22G0 := Int → (List Int) → Int → (List Bool) → Option Lf
noncomputable def f22H0 (x0_0 : Int) (x0_1 : List Int) (x0_2 : Int) (x0_3 : List Bool) : St := (St.mk [(D.p (Pt.one (L.d (Pv.fz true) (Sh.i IntKind.i64) x0_0))), (D.p (Pt.one (L.d (Pv.fz false) (Sh.l (Sh.i IntKind.i64)) x0_1))), dead, dead, (D.p (Pt.one (L.pv (Id.mk 1 0) 0))), dead, (D.p (Pt.one (L.pv (Id.mk 1 1) 0))), (D.p (Pt.one (L.d (Pv.fz true) (Sh.i IntKind.i64) x0_2))), dead, dead, dead, dead, dead, dead, dead, dead, dead, dead, dead, dead, dead, dead, dead, dead, dead, dead, dead, dead, dead, dead, dead, dead, dead, dead, dead, dead, dead, dead, dead, dead, dead, dead, dead, dead, dead, dead] [[], [(Ob.va [L.nl]), (Ob.va [(L.rw (Id.mk 1 2))]), (Ob.ro true 0 4 Sh.b Ow.z x0_3 Option.none)]])
noncomputable def f22W0 (G : St → Option Lf) : f22G0 := fun x0_0 x0_1 x0_2 x0_3 => G (f22H0 x0_0 x0_1 x0_2 x0_3)
noncomputable def f22S0  (g0 : f22G0) (x0_0 : Int) (x0_1 : List Int) (x0_2 : Int) (x0_3 : List Bool) : Option Lf :=
 bif decide (x0_2 < zn x0_1.length) then
  bif Nat.beq 1 1 && (inb x0_2 x0_1.length && (Nat.beq 1 1 && (decide (x0_1.getD x0_2.toNat 0 < 0) || Nat.beq 1 1 && (inb x0_2 x0_1.length && true)))) then
   bif decide (x0_1.getD x0_2.toNat 0 < 0) || decide (x0_1.getD x0_2.toNat 0 ≥ x0_0) then
    some (Lf.mk [(Pt.agg [(L.rw (Id.mk 1 0))]), (Pt.one (L.d (Pv.fz true) Sh.b (false : Bool)))] [] [(Ob.ro true 0 4 Sh.b Ow.z ([] : List Bool) Option.none)])
   else
    bif inb x0_2 x0_1.length then
     bif inb (x0_1.getD x0_2.toNat 0) x0_3.length then
      g0 (x0_0 : Int) (x0_1 : List Int) (IntKind.i64.wrap (x0_2 + 1) : Int) (x0_3.set (x0_1.getD x0_2.toNat 0).toNat true : List Bool)
     else
      none
    else
     none
  else
   none
 else
  some (Lf.mk [(Pt.agg [(L.rw (Id.mk 1 0))]), (Pt.one (L.d (Pv.fz true) Sh.b (true : Bool)))] [] [(Ob.ro true 0 4 Sh.b Ow.z (x0_3 : List Bool) Option.none)])
noncomputable def f22L0 (n : Nat)  : Nat → f22G0
  | 0 => fun _ _ _ _ => none
  | m + 1 => fun x0_0 x0_1 x0_2 x0_3 => f22S0   (f22L0 n  m) x0_0 x0_1 x0_2 x0_3
theorem f22S0_ev (n : Nat)  (G : St → Option Lf) (x0_0 : Int) (x0_1 : List Int) (x0_2 : Int) (x0_3 : List Bool) : rnd C1 f22h n Lf (codeOf f22f) [1, 1, 1, 0, 1, 0] [] (endK C1 f22h f22f) G (f22H0 x0_0 x0_1 x0_2 x0_3) = f22S0   (f22W0 G) x0_0 x0_1 x0_2 x0_3 := by kernel_rfl
theorem f22W0_ev (n : Nat)  : ∀ m, (f22W0 (lp C1 f22h n Lf (codeOf f22f) [1, 1, 1, 0, 1, 0] [] (endK C1 f22h f22f) m)) = f22L0 n  m := by
  intro m
  induction m with
  | zero => funext x0_0 x0_1 x0_2 x0_3; exact lp_zero _
  | succ m ih =>
    funext x0_0 x0_1 x0_2 x0_3
    show lp C1 f22h n Lf (codeOf f22f) [1, 1, 1, 0, 1, 0] [] (endK C1 f22h f22f) (m + 1) (f22H0 x0_0 x0_1 x0_2 x0_3) = f22S0   (f22L0 n  m) x0_0 x0_1 x0_2 x0_3
    rw [lp_succ, f22S0_ev, ih]
noncomputable def f22T (l0 : f22G0) (z : Int) (l : List Int) : Option Lf :=
 bif decide (z < 0) || decide (z > 4096) then
  some (Lf.mk [(Pt.agg [(L.rw (Id.mk 1 0))]), (Pt.one (L.d (Pv.fz true) Sh.b (false : Bool)))] [] [(Ob.ro true 0 4 Sh.b Ow.z ([] : List Bool) Option.none)])
 else
  bif decide (0 ≤ z) && (decide (z ≤ z) && decide (1 * z.toNat ≤ 140737488355328)) then
   l0 (z : Int) (l : List Int) (0 : Int) (List.replicate z.toNat false : List Bool)
  else
   none
noncomputable def f22M (n : Nat) (z : Int) (l : List Int) : Option Lf := f22T (f22L0 n n) z l
theorem f22T_ev (n : Nat) (z : Int) (l : List Int) : evF C1 f22h n f22f [(D.p (Pt.one (L.d (Pv.fz true) (Sh.i IntKind.i64) z))), (D.p (Pt.one (L.d (Pv.fz false) (Sh.l (Sh.i IntKind.i64)) l)))] [] = f22T (f22W0 (lp C1 f22h n Lf (codeOf f22f) [1, 1, 1, 0, 1, 0] [] (endK C1 f22h f22f) n)) z l := by kernel_rfl
theorem f22_ev (n : Nat) (z : Int) (l : List Int) : evF C1 f22h n f22f [(D.p (Pt.one (L.d (Pv.fz true) (Sh.i IntKind.i64) z))), (D.p (Pt.one (L.d (Pv.fz false) (Sh.l (Sh.i IntKind.i64)) l)))] [] = f22M n z l := by
  rw [f22T_ev, f22W0_ev]
  rfl

abbrev f24h : Hn := h24
noncomputable abbrev f24f : Func := fn 24
abbrev f24G0 := Int → Bool → Int → (List Bool) → (List Bool) → Option Lf
noncomputable def f24H0 (x0_0 : Int) (x0_1 : Bool) (x0_2 : Int) (x0_3 : List Bool) (x0_4 : List Bool) : St := (St.mk [dead, (D.p (Pt.one (L.d (Pv.fz true) (Sh.i IntKind.i64) x0_0))), dead, (D.p (Pt.one (L.pv (Id.mk 1 0) 0))), dead, (D.p (Pt.one (L.pv (Id.mk 1 1) 0))), dead, (D.p (Pt.one (L.d (Pv.fz true) Sh.b x0_1))), (D.p (Pt.one (L.d (Pv.fz true) (Sh.i IntKind.i64) x0_2))), dead, dead, dead, dead, dead, dead, dead, dead, dead, dead, dead, dead, dead, dead, dead, dead, dead, dead, dead, dead, dead, dead, dead, dead, dead, dead, dead, dead, dead, dead, dead, dead, dead, dead, dead, dead, dead, dead, dead, dead, dead, dead, dead, dead, dead, dead, dead, dead, dead, dead, dead, dead, dead] [[(Ob.ro true 0 4 Sh.b Ow.z x0_3 Option.none)], [(Ob.va [(L.rw (Id.mk 0 0))]), (Ob.va [(L.d (Pv.fz false) (Sh.l Sh.b) x0_4)])]])
noncomputable def f24W0 (G : St → Option Lf) : f24G0 := fun x0_0 x0_1 x0_2 x0_3 x0_4 => G (f24H0 x0_0 x0_1 x0_2 x0_3 x0_4)
noncomputable def f24S0  (g0 : f24G0) (x0_0 : Int) (x0_1 : Bool) (x0_2 : Int) (x0_3 : List Bool) (x0_4 : List Bool) : Option Lf :=
 bif decide (x0_2 < zn x0_3.length) then
  bif inb x0_2 x0_3.length then
   bif bif x0_0 == 0 then x0_4.length.ble 4096 && true else true then
    bif x0_0 == 0 && rHasF x0_4 x0_2 then
     bif bif x0_0 == 1 then x0_4.length.ble 4096 && (rHasF x0_4 x0_2 || bif x0_0 == 2 then x0_4.length.ble 4096 && true else true) else bif x0_0 == 2 then x0_4.length.ble 4096 && true else true then
      bif bif x0_0 == 1 then rHasF x0_4 x0_2 || x0_0 == 2 && !rHasF x0_4 x0_2 else x0_0 == 2 && !rHasF x0_4 x0_2 then
       bif x0_1 || Nat.beq 1 1 && (Nat.beq 1 1 && (inb x0_2 x0_3.length && true)) then
        bif inb x0_2 x0_3.length then
         g0 (x0_0 : Int) (x0_1 || !false == x0_3.getD x0_2.toNat false : Bool) (IntKind.i64.wrap (x0_2 + 1) : Int) (x0_3.set x0_2.toNat false : List Bool) (x0_4 : List Bool)
        else
         none
       else
        none
      else
       bif x0_1 || Nat.beq 1 1 && (Nat.beq 1 1 && (inb x0_2 x0_3.length && true)) then
        bif inb x0_2 x0_3.length then
         g0 (x0_0 : Int) (x0_1 || !true == x0_3.getD x0_2.toNat false : Bool) (IntKind.i64.wrap (x0_2 + 1) : Int) (x0_3.set x0_2.toNat true : List Bool) (x0_4 : List Bool)
        else
         none
       else
        none
     else
      none
    else
     bif bif x0_0 == 1 then x0_4.length.ble 4096 && (rHasF x0_4 x0_2 || bif x0_0 == 2 then x0_4.length.ble 4096 && true else true) else bif x0_0 == 2 then x0_4.length.ble 4096 && true else true then
      bif bif x0_0 == 1 then rHasF x0_4 x0_2 || x0_0 == 2 && !rHasF x0_4 x0_2 else x0_0 == 2 && !rHasF x0_4 x0_2 then
       bif x0_1 || Nat.beq 1 1 && (Nat.beq 1 1 && (inb x0_2 x0_3.length && true)) then
        bif inb x0_2 x0_3.length then
         g0 (x0_0 : Int) (x0_1 || !false == x0_3.getD x0_2.toNat false : Bool) (IntKind.i64.wrap (x0_2 + 1) : Int) (x0_3.set x0_2.toNat false : List Bool) (x0_4 : List Bool)
        else
         none
       else
        none
      else
       bif x0_1 || Nat.beq 1 1 && (Nat.beq 1 1 && (inb x0_2 x0_3.length && true)) then
        bif inb x0_2 x0_3.length then
         g0 (x0_0 : Int) (x0_1 || !x0_3.getD x0_2.toNat false == x0_3.getD x0_2.toNat false : Bool) (IntKind.i64.wrap (x0_2 + 1) : Int) (x0_3.set x0_2.toNat (x0_3.getD x0_2.toNat false) : List Bool) (x0_4 : List Bool)
        else
         none
       else
        none
     else
      none
   else
    none
  else
   none
 else
  some (Lf.mk [(Pt.one (L.d (Pv.fz true) Sh.b (x0_1 : Bool)))] [(Ob.ro true 0 4 Sh.b Ow.z (x0_3 : List Bool) Option.none)] [])
noncomputable def f24L0 (n : Nat)  : Nat → f24G0
  | 0 => fun _ _ _ _ _ => none
  | m + 1 => fun x0_0 x0_1 x0_2 x0_3 x0_4 => f24S0   (f24L0 n  m) x0_0 x0_1 x0_2 x0_3 x0_4
theorem f24S0_ev (n : Nat)  (G : St → Option Lf) (x0_0 : Int) (x0_1 : Bool) (x0_2 : Int) (x0_3 : List Bool) (x0_4 : List Bool) : rnd C13 f24h n Lf (codeOf f24f) [1, 1, 0, 1, 0] [] (endK C13 f24h f24f) G (f24H0 x0_0 x0_1 x0_2 x0_3 x0_4) = f24S0   (f24W0 G) x0_0 x0_1 x0_2 x0_3 x0_4 := by kernel_rfl
theorem f24W0_ev (n : Nat)  : ∀ m, (f24W0 (lp C13 f24h n Lf (codeOf f24f) [1, 1, 0, 1, 0] [] (endK C13 f24h f24f) m)) = f24L0 n  m := by
  intro m
  induction m with
  | zero => funext x0_0 x0_1 x0_2 x0_3 x0_4; exact lp_zero _
  | succ m ih =>
    funext x0_0 x0_1 x0_2 x0_3 x0_4
    show lp C13 f24h n Lf (codeOf f24f) [1, 1, 0, 1, 0] [] (endK C13 f24h f24f) (m + 1) (f24H0 x0_0 x0_1 x0_2 x0_3 x0_4) = f24S0   (f24L0 n  m) x0_0 x0_1 x0_2 x0_3 x0_4
    rw [lp_succ, f24S0_ev, ih]
noncomputable def f24T (l0 : f24G0) (bs : List Bool) (ts : List Bool) (k : Int) : Option Lf :=
 l0 (k : Int) (false : Bool) (0 : Int) (bs : List Bool) (ts : List Bool)
noncomputable def f24M (n : Nat) (bs : List Bool) (ts : List Bool) (k : Int) : Option Lf := f24T (f24L0 n n) bs ts k
theorem f24T_ev (n : Nat) (bs : List Bool) (ts : List Bool) (k : Int) : evF C13 f24h n f24f [(D.p (Pt.agg [(L.rw (Id.mk 0 0))])), (D.p (Pt.one (L.d (Pv.fz true) (Sh.i IntKind.i64) k))), (D.p (Pt.agg [(L.d (Pv.fz false) (Sh.l Sh.b) ts)]))] [(Ob.ro true 0 4 Sh.b Ow.z bs Option.none)] = f24T (f24W0 (lp C13 f24h n Lf (codeOf f24f) [1, 1, 0, 1, 0] [] (endK C13 f24h f24f) n)) bs ts k := by kernel_rfl
theorem f24_ev (n : Nat) (bs : List Bool) (ts : List Bool) (k : Int) : evF C13 f24h n f24f [(D.p (Pt.agg [(L.rw (Id.mk 0 0))])), (D.p (Pt.one (L.d (Pv.fz true) (Sh.i IntKind.i64) k))), (D.p (Pt.agg [(L.d (Pv.fz false) (Sh.l Sh.b) ts)]))] [(Ob.ro true 0 4 Sh.b Ow.z bs Option.none)] = f24M n bs ts k := by
  rw [f24T_ev, f24W0_ev]
  rfl

abbrev f30h : Hn := h30
noncomputable abbrev f30f : Func := fn 30
abbrev f30G0 := Int → (List Bool) → (List Int) → Option Lf
noncomputable def f30H0 (x0_0 : Int) (x0_1 : List Bool) (x0_2 : List Int) : St := (St.mk [dead, (D.p (Pt.one (L.pv (Id.mk 1 0) 0))), dead, (D.p (Pt.one (L.rw (Id.mk 1 1)))), (D.p (Pt.one (L.d (Pv.fz true) (Sh.i IntKind.i64) x0_0))), dead, dead, dead, dead, dead, dead, dead, dead, dead, dead, dead, dead, dead, dead, dead, dead, dead] [[], [(Ob.va [(L.d (Pv.fz false) (Sh.l Sh.b) x0_1)]), (Ob.ro true 0 3 (Sh.i IntKind.i64) Ow.z x0_2 Option.none)]])
noncomputable def f30W0 (G : St → Option Lf) : f30G0 := fun x0_0 x0_1 x0_2 => G (f30H0 x0_0 x0_1 x0_2)
noncomputable def f30S0  (g0 : f30G0) (x0_0 : Int) (x0_1 : List Bool) (x0_2 : List Int) : Option Lf :=
 bif decide (x0_0 < zn x0_1.length) then
  bif inb x0_0 x0_1.length then
   bif x0_1.getD x0_0.toNat false then
    bif decide ((x0_2.length + [x0_0].length) * 8 ≤ 140737488355328) then
     g0 (IntKind.i64.wrap (x0_0 + 1) : Int) (x0_1 : List Bool) (x0_2 ++ [x0_0] : List Int)
    else
     none
   else
    g0 (IntKind.i64.wrap (x0_0 + 1) : Int) (x0_1 : List Bool) (x0_2 : List Int)
  else
   none
 else
  some (Lf.mk [(Pt.one (L.rw (Id.mk 1 0)))] [] [(Ob.ro true 0 3 (Sh.i IntKind.i64) Ow.z (x0_2 : List Int) Option.none)])
noncomputable def f30L0 (n : Nat)  : Nat → f30G0
  | 0 => fun _ _ _ => none
  | m + 1 => fun x0_0 x0_1 x0_2 => f30S0   (f30L0 n  m) x0_0 x0_1 x0_2
theorem f30S0_ev (n : Nat)  (G : St → Option Lf) (x0_0 : Int) (x0_1 : List Bool) (x0_2 : List Int) : rnd C1 f30h n Lf (codeOf f30f) [1, 1, 0, 1, 0] [] (endK C1 f30h f30f) G (f30H0 x0_0 x0_1 x0_2) = f30S0   (f30W0 G) x0_0 x0_1 x0_2 := by kernel_rfl
theorem f30W0_ev (n : Nat)  : ∀ m, (f30W0 (lp C1 f30h n Lf (codeOf f30f) [1, 1, 0, 1, 0] [] (endK C1 f30h f30f) m)) = f30L0 n  m := by
  intro m
  induction m with
  | zero => funext x0_0 x0_1 x0_2; exact lp_zero _
  | succ m ih =>
    funext x0_0 x0_1 x0_2
    show lp C1 f30h n Lf (codeOf f30f) [1, 1, 0, 1, 0] [] (endK C1 f30h f30f) (m + 1) (f30H0 x0_0 x0_1 x0_2) = f30S0   (f30L0 n  m) x0_0 x0_1 x0_2
    rw [lp_succ, f30S0_ev, ih]
noncomputable def f30T (l0 : f30G0) (bs : List Bool) : Option Lf :=
 l0 (0 : Int) (bs : List Bool) ([] : List Int)
noncomputable def f30M (n : Nat) (bs : List Bool) : Option Lf := f30T (f30L0 n n) bs
theorem f30T_ev (n : Nat) (bs : List Bool) : evF C1 f30h n f30f [(D.p (Pt.agg [(L.d (Pv.fz false) (Sh.l Sh.b) bs)]))] [] = f30T (f30W0 (lp C1 f30h n Lf (codeOf f30f) [1, 1, 0, 1, 0] [] (endK C1 f30h f30f) n)) bs := by kernel_rfl
theorem f30_ev (n : Nat) (bs : List Bool) : evF C1 f30h n f30f [(D.p (Pt.agg [(L.d (Pv.fz false) (Sh.l Sh.b) bs)]))] [] = f30M n bs := by
  rw [f30T_ev, f30W0_ev]
  rfl

abbrev f34uh : Hn := h34
noncomputable abbrev f34uf : Func := fn 34
abbrev f34uG0 := Bool → Int → Int → Int → (List Int) → Option Lf
noncomputable def f34uH0 (x0_0 : Bool) (x0_1 : Int) (x0_2 : Int) (x0_3 : Int) (x0_4 : List Int) : St := (St.mk [(D.p (Pt.one (L.pv (Id.mk 0 0) 0))), (D.p (Pt.one L.np)), (D.p (Pt.one (L.fn 35 []))), dead, dead, dead, dead, (D.p (Pt.one (L.d (Pv.fz true) Sh.b x0_0))), dead, dead, dead, dead, dead, dead, dead, dead, (D.p (Pt.one (L.rw (Id.mk 0 1)))), (D.p (Pt.one (L.d (Pv.fz true) (Sh.i IntKind.i64) x0_1))), (D.p (Pt.one (L.d (Pv.fz true) (Sh.i IntKind.i64) x0_2))), dead, dead, dead, dead, dead, dead, dead, dead, dead, dead, dead, dead, dead, dead, dead, dead, dead, dead, dead, dead, dead, dead, dead, dead, dead, dead, dead, dead, dead, dead, dead, dead, dead, dead, dead, dead, dead, dead, dead, dead, dead, dead, dead, dead, dead, dead, dead, dead, dead, dead, dead, dead, dead, dead, dead, dead, dead, dead, dead, dead, dead, dead, dead, dead, dead, dead, dead, dead, dead, dead, dead] [[(Ob.va [(L.d (Pv.fz true) (Sh.i IntKind.i64) x0_3), (L.rw (Id.mk 0 1))]), (Ob.ro true 0 60 (Sh.i IntKind.u64) Ow.z x0_4 Option.none)], []])
noncomputable def f34uW0 (G : St → Option Lf) : f34uG0 := fun x0_0 x0_1 x0_2 x0_3 x0_4 => G (f34uH0 x0_0 x0_1 x0_2 x0_3 x0_4)
noncomputable def f34uS0  (g0 : f34uG0) (x0_0 : Bool) (x0_1 : Int) (x0_2 : Int) (x0_3 : Int) (x0_4 : List Int) : Option Lf :=
 bif decide (x0_2 < x0_1) then
  bif inb x0_2 x0_4.length then
   bif Nat.beq 1 1 && (x0_2 == IntKind.i64.wrap (zn x0_4.length - 1) || true) then
    bif x0_2 == IntKind.i64.wrap (zn x0_4.length - 1) && x0_3.tmod 64 != 0 then
     bif decide (0 ≤ x0_3.tmod 64) then
      bif inb x0_2 x0_4.length then
       bif x0_0 || Nat.beq 1 1 && (Nat.beq 1 1 && (inb x0_2 (x0_4.set x0_2.toNat (bitsF BinOp.or IntKind.u64 (x0_4.getD x0_2.toNat 0) (bitsF BinOp.and IntKind.u64 0 (IntKind.u64.wrap (shlF IntKind.u64 1 (x0_3.tmod 64) - 1))))).length && true)) then
        g0 (x0_0 || (x0_4.set x0_2.toNat (bitsF BinOp.or IntKind.u64 (x0_4.getD x0_2.toNat 0) (bitsF BinOp.and IntKind.u64 0 (IntKind.u64.wrap (shlF IntKind.u64 1 (x0_3.tmod 64) - 1))))).getD x0_2.toNat 0 != x0_4.getD x0_2.toNat 0 : Bool) (x0_1 : Int) (IntKind.i64.wrap (x0_2 + 1) : Int) (x0_3 : Int) (x0_4.set x0_2.toNat (bitsF BinOp.or IntKind.u64 (x0_4.getD x0_2.toNat 0) (bitsF BinOp.and IntKind.u64 0 (IntKind.u64.wrap (shlF IntKind.u64 1 (x0_3.tmod 64) - 1)))) : List Int)
       else
        none
      else
       none
     else
      none
    else
     bif inb x0_2 x0_4.length then
      bif x0_0 || Nat.beq 1 1 && (Nat.beq 1 1 && (inb x0_2 (x0_4.set x0_2.toNat (bitsF BinOp.or IntKind.u64 (x0_4.getD x0_2.toNat 0) 0)).length && true)) then
       g0 (x0_0 || (x0_4.set x0_2.toNat (bitsF BinOp.or IntKind.u64 (x0_4.getD x0_2.toNat 0) 0)).getD x0_2.toNat 0 != x0_4.getD x0_2.toNat 0 : Bool) (x0_1 : Int) (IntKind.i64.wrap (x0_2 + 1) : Int) (x0_3 : Int) (x0_4.set x0_2.toNat (bitsF BinOp.or IntKind.u64 (x0_4.getD x0_2.toNat 0) 0) : List Int)
      else
       none
     else
      none
   else
    none
  else
   none
 else
  some (Lf.mk [(Pt.one (L.d (Pv.fz true) Sh.b (x0_0 : Bool)))] [(Ob.va [(L.d (Pv.fz true) (Sh.i IntKind.i64) (x0_3 : Int)), (L.rw (Id.mk 0 1))]), (Ob.ro true 0 60 (Sh.i IntKind.u64) Ow.z (x0_4 : List Int) Option.none)] [])
noncomputable def f34uL0 (n : Nat)  : Nat → f34uG0
  | 0 => fun _ _ _ _ _ => none
  | m + 1 => fun x0_0 x0_1 x0_2 x0_3 x0_4 => f34uS0   (f34uL0 n  m) x0_0 x0_1 x0_2 x0_3 x0_4
theorem f34uS0_ev (n : Nat)  (G : St → Option Lf) (x0_0 : Bool) (x0_1 : Int) (x0_2 : Int) (x0_3 : Int) (x0_4 : List Int) : rnd C7 f34uh n Lf (codeOf f34uf) [1, 1, 1, 0, 1, 0] [] (endK C7 f34uh f34uf) G (f34uH0 x0_0 x0_1 x0_2 x0_3 x0_4) = f34uS0   (f34uW0 G) x0_0 x0_1 x0_2 x0_3 x0_4 := by kernel_rfl
theorem f34uW0_ev (n : Nat)  : ∀ m, (f34uW0 (lp C7 f34uh n Lf (codeOf f34uf) [1, 1, 1, 0, 1, 0] [] (endK C7 f34uh f34uf) m)) = f34uL0 n  m := by
  intro m
  induction m with
  | zero => funext x0_0 x0_1 x0_2 x0_3 x0_4; exact lp_zero _
  | succ m ih =>
    funext x0_0 x0_1 x0_2 x0_3 x0_4
    show lp C7 f34uh n Lf (codeOf f34uf) [1, 1, 1, 0, 1, 0] [] (endK C7 f34uh f34uf) (m + 1) (f34uH0 x0_0 x0_1 x0_2 x0_3 x0_4) = f34uS0   (f34uL0 n  m) x0_0 x0_1 x0_2 x0_3 x0_4
    rw [lp_succ, f34uS0_ev, ih]
noncomputable def f34uT (l0 : f34uG0) (z : Int) (ws : List Int) : Option Lf :=
 l0 (false : Bool) (zn ws.length : Int) (0 : Int) (z : Int) (ws : List Int)
noncomputable def f34uM (n : Nat) (z : Int) (ws : List Int) : Option Lf := f34uT (f34uL0 n n) z ws
theorem f34uT_ev (n : Nat) (z : Int) (ws : List Int) : evF C7 f34uh n f34uf [(D.p (Pt.one (L.pv (Id.mk 0 0) 0))), (D.p (Pt.one L.np)), (D.p (Pt.one (L.fn 35 [])))] [(Ob.va [(L.d (Pv.fz true) (Sh.i IntKind.i64) z), (L.rw (Id.mk 0 1))]), (Ob.ro true 0 60 (Sh.i IntKind.u64) Ow.z ws Option.none)] = f34uT (f34uW0 (lp C7 f34uh n Lf (codeOf f34uf) [1, 1, 1, 0, 1, 0] [] (endK C7 f34uh f34uf) n)) z ws := by kernel_rfl
theorem f34u_ev (n : Nat) (z : Int) (ws : List Int) : evF C7 f34uh n f34uf [(D.p (Pt.one (L.pv (Id.mk 0 0) 0))), (D.p (Pt.one L.np)), (D.p (Pt.one (L.fn 35 [])))] [(Ob.va [(L.d (Pv.fz true) (Sh.i IntKind.i64) z), (L.rw (Id.mk 0 1))]), (Ob.ro true 0 60 (Sh.i IntKind.u64) Ow.z ws Option.none)] = f34uM n z ws := by
  rw [f34uT_ev, f34uW0_ev]
  rfl

abbrev f34vh : Hn := h34
noncomputable abbrev f34vf : Func := fn 34
abbrev f34vG0 := Bool → Int → Int → Int → (List Int) → Option Lf
noncomputable def f34vH0 (x0_0 : Bool) (x0_1 : Int) (x0_2 : Int) (x0_3 : Int) (x0_4 : List Int) : St := (St.mk [(D.p (Pt.one (L.pv (Id.mk 0 0) 0))), (D.p (Pt.one L.np)), (D.p (Pt.one (L.fn 39 []))), dead, dead, dead, dead, (D.p (Pt.one (L.d (Pv.fz true) Sh.b x0_0))), dead, dead, dead, dead, dead, dead, dead, dead, (D.p (Pt.one (L.rw (Id.mk 0 1)))), (D.p (Pt.one (L.d (Pv.fz true) (Sh.i IntKind.i64) x0_1))), (D.p (Pt.one (L.d (Pv.fz true) (Sh.i IntKind.i64) x0_2))), dead, dead, dead, dead, dead, dead, dead, dead, dead, dead, dead, dead, dead, dead, dead, dead, dead, dead, dead, dead, dead, dead, dead, dead, dead, dead, dead, dead, dead, dead, dead, dead, dead, dead, dead, dead, dead, dead, dead, dead, dead, dead, dead, dead, dead, dead, dead, dead, dead, dead, dead, dead, dead, dead, dead, dead, dead, dead, dead, dead, dead, dead, dead, dead, dead, dead, dead, dead, dead, dead, dead] [[(Ob.va [(L.d (Pv.fz true) (Sh.i IntKind.i64) x0_3), (L.rw (Id.mk 0 1))]), (Ob.ro true 0 60 (Sh.i IntKind.u64) Ow.z x0_4 Option.none)], []])
noncomputable def f34vW0 (G : St → Option Lf) : f34vG0 := fun x0_0 x0_1 x0_2 x0_3 x0_4 => G (f34vH0 x0_0 x0_1 x0_2 x0_3 x0_4)
noncomputable def f34vS0  (g0 : f34vG0) (x0_0 : Bool) (x0_1 : Int) (x0_2 : Int) (x0_3 : Int) (x0_4 : List Int) : Option Lf :=
 bif decide (x0_2 < x0_1) then
  bif inb x0_2 x0_4.length then
   bif Nat.beq 1 1 && (x0_2 == IntKind.i64.wrap (zn x0_4.length - 1) || true) then
    bif x0_2 == IntKind.i64.wrap (zn x0_4.length - 1) && x0_3.tmod 64 != 0 then
     bif decide (0 ≤ x0_3.tmod 64) then
      bif inb x0_2 x0_4.length then
       bif x0_0 || Nat.beq 1 1 && (Nat.beq 1 1 && (inb x0_2 (x0_4.set x0_2.toNat (bitsF BinOp.andNot IntKind.u64 (x0_4.getD x0_2.toNat 0) (bitsF BinOp.and IntKind.u64 0 (IntKind.u64.wrap (shlF IntKind.u64 1 (x0_3.tmod 64) - 1))))).length && true)) then
        g0 (x0_0 || (x0_4.set x0_2.toNat (bitsF BinOp.andNot IntKind.u64 (x0_4.getD x0_2.toNat 0) (bitsF BinOp.and IntKind.u64 0 (IntKind.u64.wrap (shlF IntKind.u64 1 (x0_3.tmod 64) - 1))))).getD x0_2.toNat 0 != x0_4.getD x0_2.toNat 0 : Bool) (x0_1 : Int) (IntKind.i64.wrap (x0_2 + 1) : Int) (x0_3 : Int) (x0_4.set x0_2.toNat (bitsF BinOp.andNot IntKind.u64 (x0_4.getD x0_2.toNat 0) (bitsF BinOp.and IntKind.u64 0 (IntKind.u64.wrap (shlF IntKind.u64 1 (x0_3.tmod 64) - 1)))) : List Int)
       else
        none
      else
       none
     else
      none
    else
     bif inb x0_2 x0_4.length then
      bif x0_0 || Nat.beq 1 1 && (Nat.beq 1 1 && (inb x0_2 (x0_4.set x0_2.toNat (bitsF BinOp.andNot IntKind.u64 (x0_4.getD x0_2.toNat 0) 0)).length && true)) then
       g0 (x0_0 || (x0_4.set x0_2.toNat (bitsF BinOp.andNot IntKind.u64 (x0_4.getD x0_2.toNat 0) 0)).getD x0_2.toNat 0 != x0_4.getD x0_2.toNat 0 : Bool) (x0_1 : Int) (IntKind.i64.wrap (x0_2 + 1) : Int) (x0_3 : Int) (x0_4.set x0_2.toNat (bitsF BinOp.andNot IntKind.u64 (x0_4.getD x0_2.toNat 0) 0) : List Int)
      else
       none
     else
      none
   else
    none
  else
   none
 else
  some (Lf.mk [(Pt.one (L.d (Pv.fz true) Sh.b (x0_0 : Bool)))] [(Ob.va [(L.d (Pv.fz true) (Sh.i IntKind.i64) (x0_3 : Int)), (L.rw (Id.mk 0 1))]), (Ob.ro true 0 60 (Sh.i IntKind.u64) Ow.z (x0_4 : List Int) Option.none)] [])
noncomputable def f34vL0 (n : Nat)  : Nat → f34vG0
  | 0 => fun _ _ _ _ _ => none
  | m + 1 => fun x0_0 x0_1 x0_2 x0_3 x0_4 => f34vS0   (f34vL0 n  m) x0_0 x0_1 x0_2 x0_3 x0_4
theorem f34vS0_ev (n : Nat)  (G : St → Option Lf) (x0_0 : Bool) (x0_1 : Int) (x0_2 : Int) (x0_3 : Int) (x0_4 : List Int) : rnd C7 f34vh n Lf (codeOf f34vf) [1, 1, 1, 0, 1, 0] [] (endK C7 f34vh f34vf) G (f34vH0 x0_0 x0_1 x0_2 x0_3 x0_4) = f34vS0   (f34vW0 G) x0_0 x0_1 x0_2 x0_3 x0_4 := by kernel_rfl
theorem f34vW0_ev (n : Nat)  : ∀ m, (f34vW0 (lp C7 f34vh n Lf (codeOf f34vf) [1, 1, 1, 0, 1, 0] [] (endK C7 f34vh f34vf) m)) = f34vL0 n  m := by
  intro m
  induction m with
  | zero => funext x0_0 x0_1 x0_2 x0_3 x0_4; exact lp_zero _
  | succ m ih =>
    funext x0_0 x0_1 x0_2 x0_3 x0_4
    show lp C7 f34vh n Lf (codeOf f34vf) [1, 1, 1, 0, 1, 0] [] (endK C7 f34vh f34vf) (m + 1) (f34vH0 x0_0 x0_1 x0_2 x0_3 x0_4) = f34vS0   (f34vL0 n  m) x0_0 x0_1 x0_2 x0_3 x0_4
    rw [lp_succ, f34vS0_ev, ih]
noncomputable def f34vT (l0 : f34vG0) (z : Int) (ws : List Int) : Option Lf :=
 l0 (false : Bool) (zn ws.length : Int) (0 : Int) (z : Int) (ws : List Int)
noncomputable def f34vM (n : Nat) (z : Int) (ws : List Int) : Option Lf := f34vT (f34vL0 n n) z ws
theorem f34vT_ev (n : Nat) (z : Int) (ws : List Int) : evF C7 f34vh n f34vf [(D.p (Pt.one (L.pv (Id.mk 0 0) 0))), (D.p (Pt.one L.np)), (D.p (Pt.one (L.fn 39 [])))] [(Ob.va [(L.d (Pv.fz true) (Sh.i IntKind.i64) z), (L.rw (Id.mk 0 1))]), (Ob.ro true 0 60 (Sh.i IntKind.u64) Ow.z ws Option.none)] = f34vT (f34vW0 (lp C7 f34vh n Lf (codeOf f34vf) [1, 1, 1, 0, 1, 0] [] (endK C7 f34vh f34vf) n)) z ws := by kernel_rfl
theorem f34v_ev (n : Nat) (z : Int) (ws : List Int) : evF C7 f34vh n f34vf [(D.p (Pt.one (L.pv (Id.mk 0 0) 0))), (D.p (Pt.one L.np)), (D.p (Pt.one (L.fn 39 [])))] [(Ob.va [(L.d (Pv.fz true) (Sh.i IntKind.i64) z), (L.rw (Id.mk 0 1))]), (Ob.ro true 0 60 (Sh.i IntKind.u64) Ow.z ws Option.none)] = f34vM n z ws := by
  rw [f34vT_ev, f34vW0_ev]
  rfl

abbrev f34wh : Hn := h34
noncomputable abbrev f34wf : Func := fn 34
abbrev f34wG0 := Bool → Int → Int → Int → (List Int) → Option Lf
noncomputable def f34wH0 (x0_0 : Bool) (x0_1 : Int) (x0_2 : Int) (x0_3 : Int) (x0_4 : List Int) : St := (St.mk [(D.p (Pt.one (L.pv (Id.mk 0 0) 0))), (D.p (Pt.one L.np)), (D.p (Pt.one (L.fn 40 []))), dead, dead, dead, dead, (D.p (Pt.one (L.d (Pv.fz true) Sh.b x0_0))), dead, dead, dead, dead, dead, dead, dead, dead, (D.p (Pt.one (L.rw (Id.mk 0 1)))), (D.p (Pt.one (L.d (Pv.fz true) (Sh.i IntKind.i64) x0_1))), (D.p (Pt.one (L.d (Pv.fz true) (Sh.i IntKind.i64) x0_2))), dead, dead, dead, dead, dead, dead, dead, dead, dead, dead, dead, dead, dead, dead, dead, dead, dead, dead, dead, dead, dead, dead, dead, dead, dead, dead, dead, dead, dead, dead, dead, dead, dead, dead, dead, dead, dead, dead, dead, dead, dead, dead, dead, dead, dead, dead, dead, dead, dead, dead, dead, dead, dead, dead, dead, dead, dead, dead, dead, dead, dead, dead, dead, dead, dead, dead, dead, dead, dead, dead, dead] [[(Ob.va [(L.d (Pv.fz true) (Sh.i IntKind.i64) x0_3), (L.rw (Id.mk 0 1))]), (Ob.ro true 0 60 (Sh.i IntKind.u64) Ow.z x0_4 Option.none)], []])
noncomputable def f34wW0 (G : St → Option Lf) : f34wG0 := fun x0_0 x0_1 x0_2 x0_3 x0_4 => G (f34wH0 x0_0 x0_1 x0_2 x0_3 x0_4)
noncomputable def f34wS0  (g0 : f34wG0) (x0_0 : Bool) (x0_1 : Int) (x0_2 : Int) (x0_3 : Int) (x0_4 : List Int) : Option Lf :=
 bif decide (x0_2 < x0_1) then
  bif inb x0_2 x0_4.length then
   bif Nat.beq 1 1 && (x0_2 == IntKind.i64.wrap (zn x0_4.length - 1) || true) then
    bif x0_2 == IntKind.i64.wrap (zn x0_4.length - 1) && x0_3.tmod 64 != 0 then
     bif decide (0 ≤ x0_3.tmod 64) then
      bif inb x0_2 x0_4.length then
       bif x0_0 || Nat.beq 1 1 && (Nat.beq 1 1 && (inb x0_2 (x0_4.set x0_2.toNat (bitsF BinOp.and IntKind.u64 (x0_4.getD x0_2.toNat 0) (bitsF BinOp.and IntKind.u64 0 (IntKind.u64.wrap (shlF IntKind.u64 1 (x0_3.tmod 64) - 1))))).length && true)) then
        g0 (x0_0 || (x0_4.set x0_2.toNat (bitsF BinOp.and IntKind.u64 (x0_4.getD x0_2.toNat 0) (bitsF BinOp.and IntKind.u64 0 (IntKind.u64.wrap (shlF IntKind.u64 1 (x0_3.tmod 64) - 1))))).getD x0_2.toNat 0 != x0_4.getD x0_2.toNat 0 : Bool) (x0_1 : Int) (IntKind.i64.wrap (x0_2 + 1) : Int) (x0_3 : Int) (x0_4.set x0_2.toNat (bitsF BinOp.and IntKind.u64 (x0_4.getD x0_2.toNat 0) (bitsF BinOp.and IntKind.u64 0 (IntKind.u64.wrap (shlF IntKind.u64 1 (x0_3.tmod 64) - 1)))) : List Int)
       else
        none
      else
       none
     else
      none
    else
     bif inb x0_2 x0_4.length then
      bif x0_0 || Nat.beq 1 1 && (Nat.beq 1 1 && (inb x0_2 (x0_4.set x0_2.toNat (bitsF BinOp.and IntKind.u64 (x0_4.getD x0_2.toNat 0) 0)).length && true)) then
       g0 (x0_0 || (x0_4.set x0_2.toNat (bitsF BinOp.and IntKind.u64 (x0_4.getD x0_2.toNat 0) 0)).getD x0_2.toNat 0 != x0_4.getD x0_2.toNat 0 : Bool) (x0_1 : Int) (IntKind.i64.wrap (x0_2 + 1) : Int) (x0_3 : Int) (x0_4.set x0_2.toNat (bitsF BinOp.and IntKind.u64 (x0_4.getD x0_2.toNat 0) 0) : List Int)
      else
       none
     else
      none
   else
    none
  else
   none
 else
  some (Lf.mk [(Pt.one (L.d (Pv.fz true) Sh.b (x0_0 : Bool)))] [(Ob.va [(L.d (Pv.fz true) (Sh.i IntKind.i64) (x0_3 : Int)), (L.rw (Id.mk 0 1))]), (Ob.ro true 0 60 (Sh.i IntKind.u64) Ow.z (x0_4 : List Int) Option.none)] [])
noncomputable def f34wL0 (n : Nat)  : Nat → f34wG0
  | 0 => fun _ _ _ _ _ => none
  | m + 1 => fun x0_0 x0_1 x0_2 x0_3 x0_4 => f34wS0   (f34wL0 n  m) x0_0 x0_1 x0_2 x0_3 x0_4
theorem f34wS0_ev (n : Nat)  (G : St → Option Lf) (x0_0 : Bool) (x0_1 : Int) (x0_2 : Int) (x0_3 : Int) (x0_4 : List Int) : rnd C7 f34wh n Lf (codeOf f34wf) [1, 1, 1, 0, 1, 0] [] (endK C7 f34wh f34wf) G (f34wH0 x0_0 x0_1 x0_2 x0_3 x0_4) = f34wS0   (f34wW0 G) x0_0 x0_1 x0_2 x0_3 x0_4 := by kernel_rfl
theorem f34wW0_ev (n : Nat)  : ∀ m, (f34wW0 (lp C7 f34wh n Lf (codeOf f34wf) [1, 1, 1, 0, 1, 0] [] (endK C7 f34wh f34wf) m)) = f34wL0 n  m := by
  intro m
  induction m with
  | zero => funext x0_0 x0_1 x0_2 x0_3 x0_4; exact lp_zero _
  | succ m ih =>
    funext x0_0 x0_1 x0_2 x0_3 x0_4
    show lp C7 f34wh n Lf (codeOf f34wf) [1, 1, 1, 0, 1, 0] [] (endK C7 f34wh f34wf) (m + 1) (f34wH0 x0_0 x0_1 x0_2 x0_3 x0_4) = f34wS0   (f34wL0 n  m) x0_0 x0_1 x0_2 x0_3 x0_4
    rw [lp_succ, f34wS0_ev, ih]
noncomputable def f34wT (l0 : f34wG0) (z : Int) (ws : List Int) : Option Lf :=
 l0 (false : Bool) (zn ws.length : Int) (0 : Int) (z : Int) (ws : List Int)
noncomputable def f34wM (n : Nat) (z : Int) (ws : List Int) : Option Lf := f34wT (f34wL0 n n) z ws
theorem f34wT_ev (n : Nat) (z : Int) (ws : List Int) : evF C7 f34wh n f34wf [(D.p (Pt.one (L.pv (Id.mk 0 0) 0))), (D.p (Pt.one L.np)), (D.p (Pt.one (L.fn 40 [])))] [(Ob.va [(L.d (Pv.fz true) (Sh.i IntKind.i64) z), (L.rw (Id.mk 0 1))]), (Ob.ro true 0 60 (Sh.i IntKind.u64) Ow.z ws Option.none)] = f34wT (f34wW0 (lp C7 f34wh n Lf (codeOf f34wf) [1, 1, 1, 0, 1, 0] [] (endK C7 f34wh f34wf) n)) z ws := by kernel_rfl
theorem f34w_ev (n : Nat) (z : Int) (ws : List Int) : evF C7 f34wh n f34wf [(D.p (Pt.one (L.pv (Id.mk 0 0) 0))), (D.p (Pt.one L.np)), (D.p (Pt.one (L.fn 40 [])))] [(Ob.va [(L.d (Pv.fz true) (Sh.i IntKind.i64) z), (L.rw (Id.mk 0 1))]), (Ob.ro true 0 60 (Sh.i IntKind.u64) Ow.z ws Option.none)] = f34wM n z ws := by
  rw [f34wT_ev, f34wW0_ev]
  rfl
end Go.S1
