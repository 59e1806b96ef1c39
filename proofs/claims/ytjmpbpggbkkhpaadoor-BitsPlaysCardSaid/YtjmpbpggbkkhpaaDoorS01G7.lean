/-
  Seat 01: functional forms of turn with two sets.
-/
import Derived.Test.YtjmpbpggbkkhpaaDoorS01E
open Go Go.En Go.S1
namespace Go.S1
def bopS (op : BinOp) : En.Spec := ⟨[], fun ds os => match ds, os with
  | [.p (.one (.d (.fz true) (.i .u64) a)), .p (.one (.d (.fz true) (.i .u64) b))], [] => .leaf [pU (bitsF op .u64 a b)] [] []
  | _, _ => .fail⟩
noncomputable def l7 : List (Nat × En.Spec) := [(35, bopS .or), (39, bopS .andNot), (40, bopS .and)]
noncomputable def C7 : Ctx := ctxOf C0 l7
def h34 : Hn := ⟨fun | 5 => [0, 1, 2, 7, 16, 17, 18] | _ => [], fun _ => [], fun _ => false⟩

abbrev f35h : Hn := hn0
noncomputable abbrev f35f : Func := fn 35
noncomputable def f35T  (a : Int) (b : Int) : Option Lf :=
 some (Lf.mk [(Pt.one (L.d (Pv.fz true) (Sh.i IntKind.u64) (bitsF BinOp.or IntKind.u64 a b : Int)))] [] [])
noncomputable def f35M (_ : Nat) (a : Int) (b : Int) : Option Lf := f35T  a b
theorem f35T_ev (n : Nat) (a : Int) (b : Int) : evF C1 f35h n f35f [(D.p (Pt.one (L.d (Pv.fz true) (Sh.i IntKind.u64) a))), (D.p (Pt.one (L.d (Pv.fz true) (Sh.i IntKind.u64) b)))] [] = f35T  a b := by kernel_rfl
theorem f35_ev (n : Nat) (a : Int) (b : Int) : evF C1 f35h n f35f [(D.p (Pt.one (L.d (Pv.fz true) (Sh.i IntKind.u64) a))), (D.p (Pt.one (L.d (Pv.fz true) (Sh.i IntKind.u64) b)))] [] = f35M n a b := by
  rw [f35T_ev]
  rfl

abbrev f39h : Hn := hn0
noncomputable abbrev f39f : Func := fn 39
noncomputable def f39T  (a : Int) (b : Int) : Option Lf :=
 some (Lf.mk [(Pt.one (L.d (Pv.fz true) (Sh.i IntKind.u64) (bitsF BinOp.andNot IntKind.u64 a b : Int)))] [] [])
noncomputable def f39M (_ : Nat) (a : Int) (b : Int) : Option Lf := f39T  a b
theorem f39T_ev (n : Nat) (a : Int) (b : Int) : evF C1 f39h n f39f [(D.p (Pt.one (L.d (Pv.fz true) (Sh.i IntKind.u64) a))), (D.p (Pt.one (L.d (Pv.fz true) (Sh.i IntKind.u64) b)))] [] = f39T  a b := by kernel_rfl
theorem f39_ev (n : Nat) (a : Int) (b : Int) : evF C1 f39h n f39f [(D.p (Pt.one (L.d (Pv.fz true) (Sh.i IntKind.u64) a))), (D.p (Pt.one (L.d (Pv.fz true) (Sh.i IntKind.u64) b)))] [] = f39M n a b := by
  rw [f39T_ev]
  rfl

abbrev f40h : Hn := hn0
noncomputable abbrev f40f : Func := fn 40
noncomputable def f40T  (a : Int) (b : Int) : Option Lf :=
 some (Lf.mk [(Pt.one (L.d (Pv.fz true) (Sh.i IntKind.u64) (bitsF BinOp.and IntKind.u64 a b : Int)))] [] [])
noncomputable def f40M (_ : Nat) (a : Int) (b : Int) : Option Lf := f40T  a b
theorem f40T_ev (n : Nat) (a : Int) (b : Int) : evF C1 f40h n f40f [(D.p (Pt.one (L.d (Pv.fz true) (Sh.i IntKind.u64) a))), (D.p (Pt.one (L.d (Pv.fz true) (Sh.i IntKind.u64) b)))] [] = f40T  a b := by kernel_rfl
theorem f40_ev (n : Nat) (a : Int) (b : Int) : evF C1 f40h n f40f [(D.p (Pt.one (L.d (Pv.fz true) (Sh.i IntKind.u64) a))), (D.p (Pt.one (L.d (Pv.fz true) (Sh.i IntKind.u64) b)))] [] = f40M n a b := by
  rw [f40T_ev]
  rfl

abbrev f34jh : Hn := h34
noncomputable abbrev f34jf : Func := fn 34
abbrev f34jG0 := Bool → Int → Int → Int → Int → (List Int) → (List Int) → Option Lf
noncomputable def f34jH0 (x0_0 : Bool) (x0_1 : Int) (x0_2 : Int) (x0_3 : Int) (x0_4 : Int) (x0_5 : List Int) (x0_6 : List Int) : St := (St.mk [(D.p (Pt.one (L.pv (Id.mk 0 0) 0))), (D.p (Pt.one (L.pv (Id.mk 0 1) 0))), (D.p (Pt.one (L.fn 35 []))), dead, dead, dead, dead, (D.p (Pt.one (L.d (Pv.fz true) Sh.b x0_0))), dead, dead, dead, dead, dead, dead, dead, dead, (D.p (Pt.one (L.rw (Id.mk 0 2)))), (D.p (Pt.one (L.d (Pv.fz true) (Sh.i IntKind.i64) x0_1))), (D.p (Pt.one (L.d (Pv.fz true) (Sh.i IntKind.i64) x0_2))), dead, dead, dead, dead, dead, dead, dead, dead, dead, dead, dead, dead, dead, dead, dead, dead, dead, dead, dead, dead, dead, dead, dead, dead, dead, dead, dead, dead, dead, dead, dead, dead, dead, dead, dead, dead, dead, dead, dead, dead, dead, dead, dead, dead, dead, dead, dead, dead, dead, dead, dead, dead, dead, dead, dead, dead, dead, dead, dead, dead, dead, dead, dead, dead, dead, dead, dead, dead, dead, dead, dead] [[(Ob.va [(L.d (Pv.fz true) (Sh.i IntKind.i64) x0_3), (L.rw (Id.mk 0 2))]), (Ob.va [(L.d (Pv.fz true) (Sh.i IntKind.i64) x0_4), (L.rw (Id.mk 0 3))]), (Ob.ro true 0 60 (Sh.i IntKind.u64) Ow.z x0_5 Option.none), (Ob.ro true 0 60 (Sh.i IntKind.u64) Ow.z x0_6 Option.none)], []])
noncomputable def f34jW0 (G : St → Option Lf) : f34jG0 := fun x0_0 x0_1 x0_2 x0_3 x0_4 x0_5 x0_6 => G (f34jH0 x0_0 x0_1 x0_2 x0_3 x0_4 x0_5 x0_6)
noncomputable def f34jS0  (g0 : f34jG0) (x0_0 : Bool) (x0_1 : Int) (x0_2 : Int) (x0_3 : Int) (x0_4 : Int) (x0_5 : List Int) (x0_6 : List Int) : Option Lf :=
 bif decide (x0_2 < x0_1) then
  bif inb x0_2 x0_5.length then
   bif decide (x0_2 < zn x0_6.length) then
    bif inb x0_2 x0_6.length then
     bif Nat.beq 1 1 && (x0_2 == IntKind.i64.wrap (zn x0_5.length - 1) || true) then
      bif x0_2 == IntKind.i64.wrap (zn x0_5.length - 1) && x0_3.tmod 64 != 0 then
       bif decide (0 ≤ x0_3.tmod 64) then
        bif inb x0_2 x0_5.length then
         bif x0_0 || Nat.beq 1 1 && (Nat.beq 1 1 && (inb x0_2 (x0_5.set x0_2.toNat (bitsF BinOp.or IntKind.u64 (x0_5.getD x0_2.toNat 0) (bitsF BinOp.and IntKind.u64 (x0_6.getD x0_2.toNat 0) (IntKind.u64.wrap (shlF IntKind.u64 1 (x0_3.tmod 64) - 1))))).length && true)) then
          g0 (x0_0 || (x0_5.set x0_2.toNat (bitsF BinOp.or IntKind.u64 (x0_5.getD x0_2.toNat 0) (bitsF BinOp.and IntKind.u64 (x0_6.getD x0_2.toNat 0) (IntKind.u64.wrap (shlF IntKind.u64 1 (x0_3.tmod 64) - 1))))).getD x0_2.toNat 0 != x0_5.getD x0_2.toNat 0 : Bool) (x0_1 : Int) (IntKind.i64.wrap (x0_2 + 1) : Int) (x0_3 : Int) (x0_4 : Int) (x0_5.set x0_2.toNat (bitsF BinOp.or IntKind.u64 (x0_5.getD x0_2.toNat 0) (bitsF BinOp.and IntKind.u64 (x0_6.getD x0_2.toNat 0) (IntKind.u64.wrap (shlF IntKind.u64 1 (x0_3.tmod 64) - 1)))) : List Int) (x0_6 : List Int)
         else
          none
        else
         none
       else
        none
      else
       bif inb x0_2 x0_5.length then
        bif x0_0 || Nat.beq 1 1 && (Nat.beq 1 1 && (inb x0_2 (x0_5.set x0_2.toNat (bitsF BinOp.or IntKind.u64 (x0_5.getD x0_2.toNat 0) (x0_6.getD x0_2.toNat 0))).length && true)) then
         g0 (x0_0 || (x0_5.set x0_2.toNat (bitsF BinOp.or IntKind.u64 (x0_5.getD x0_2.toNat 0) (x0_6.getD x0_2.toNat 0))).getD x0_2.toNat 0 != x0_5.getD x0_2.toNat 0 : Bool) (x0_1 : Int) (IntKind.i64.wrap (x0_2 + 1) : Int) (x0_3 : Int) (x0_4 : Int) (x0_5.set x0_2.toNat (bitsF BinOp.or IntKind.u64 (x0_5.getD x0_2.toNat 0) (x0_6.getD x0_2.toNat 0)) : List Int) (x0_6 : List Int)
        else
         none
       else
        none
     else
      none
    else
     none
   else
    bif Nat.beq 1 1 && (x0_2 == IntKind.i64.wrap (zn x0_5.length - 1) || true) then
     bif x0_2 == IntKind.i64.wrap (zn x0_5.length - 1) && x0_3.tmod 64 != 0 then
      bif decide (0 ≤ x0_3.tmod 64) then
       bif inb x0_2 x0_5.length then
        bif x0_0 || Nat.beq 1 1 && (Nat.beq 1 1 && (inb x0_2 (x0_5.set x0_2.toNat (bitsF BinOp.or IntKind.u64 (x0_5.getD x0_2.toNat 0) (bitsF BinOp.and IntKind.u64 0 (IntKind.u64.wrap (shlF IntKind.u64 1 (x0_3.tmod 64) - 1))))).length && true)) then
         g0 (x0_0 || (x0_5.set x0_2.toNat (bitsF BinOp.or IntKind.u64 (x0_5.getD x0_2.toNat 0) (bitsF BinOp.and IntKind.u64 0 (IntKind.u64.wrap (shlF IntKind.u64 1 (x0_3.tmod 64) - 1))))).getD x0_2.toNat 0 != x0_5.getD x0_2.toNat 0 : Bool) (x0_1 : Int) (IntKind.i64.wrap (x0_2 + 1) : Int) (x0_3 : Int) (x0_4 : Int) (x0_5.set x0_2.toNat (bitsF BinOp.or IntKind.u64 (x0_5.getD x0_2.toNat 0) (bitsF BinOp.and IntKind.u64 0 (IntKind.u64.wrap (shlF IntKind.u64 1 (x0_3.tmod 64) - 1)))) : List Int) (x0_6 : List Int)
        else
         none
       else
        none
      else
       none
     else
      bif inb x0_2 x0_5.length then
       bif x0_0 || Nat.beq 1 1 && (Nat.beq 1 1 && (inb x0_2 (x0_5.set x0_2.toNat (bitsF BinOp.or IntKind.u64 (x0_5.getD x0_2.toNat 0) 0)).length && true)) then
        g0 (x0_0 || (x0_5.set x0_2.toNat (bitsF BinOp.or IntKind.u64 (x0_5.getD x0_2.toNat 0) 0)).getD x0_2.toNat 0 != x0_5.getD x0_2.toNat 0 : Bool) (x0_1 : Int) (IntKind.i64.wrap (x0_2 + 1) : Int) (x0_3 : Int) (x0_4 : Int) (x0_5.set x0_2.toNat (bitsF BinOp.or IntKind.u64 (x0_5.getD x0_2.toNat 0) 0) : List Int) (x0_6 : List Int)
       else
        none
      else
       none
    else
     none
  else
   none
 else
  some (Lf.mk [(Pt.one (L.d (Pv.fz true) Sh.b (x0_0 : Bool)))] [(Ob.va [(L.d (Pv.fz true) (Sh.i IntKind.i64) (x0_3 : Int)), (L.rw (Id.mk 0 2))]), (Ob.va [(L.d (Pv.fz true) (Sh.i IntKind.i64) (x0_4 : Int)), (L.rw (Id.mk 0 3))]), (Ob.ro true 0 60 (Sh.i IntKind.u64) Ow.z (x0_5 : List Int) Option.none), (Ob.ro true 0 60 (Sh.i IntKind.u64) Ow.z (x0_6 : List Int) Option.none)] [])
noncomputable def f34jL0 (n : Nat)  : Nat → f34jG0
  | 0 => fun _ _ _ _ _ _ _ => none
  | m + 1 => fun x0_0 x0_1 x0_2 x0_3 x0_4 x0_5 x0_6 => f34jS0   (f34jL0 n  m) x0_0 x0_1 x0_2 x0_3 x0_4 x0_5 x0_6
theorem f34jS0_ev (n : Nat)  (G : St → Option Lf) (x0_0 : Bool) (x0_1 : Int) (x0_2 : Int) (x0_3 : Int) (x0_4 : Int) (x0_5 : List Int) (x0_6 : List Int) : rnd C7 f34jh n Lf (codeOf f34jf) [1, 1, 1, 0, 1, 0] [] (endK C7 f34jh f34jf) G (f34jH0 x0_0 x0_1 x0_2 x0_3 x0_4 x0_5 x0_6) = f34jS0   (f34jW0 G) x0_0 x0_1 x0_2 x0_3 x0_4 x0_5 x0_6 := by kernel_rfl
theorem f34jW0_ev (n : Nat)  : ∀ m, (f34jW0 (lp C7 f34jh n Lf (codeOf f34jf) [1, 1, 1, 0, 1, 0] [] (endK C7 f34jh f34jf) m)) = f34jL0 n  m := by
  intro m
  induction m with
  | zero => funext x0_0 x0_1 x0_2 x0_3 x0_4 x0_5 x0_6; exact lp_zero _
  | succ m ih =>
    funext x0_0 x0_1 x0_2 x0_3 x0_4 x0_5 x0_6
    show lp C7 f34jh n Lf (codeOf f34jf) [1, 1, 1, 0, 1, 0] [] (endK C7 f34jh f34jf) (m + 1) (f34jH0 x0_0 x0_1 x0_2 x0_3 x0_4 x0_5 x0_6) = f34jS0   (f34jL0 n  m) x0_0 x0_1 x0_2 x0_3 x0_4 x0_5 x0_6
    rw [lp_succ, f34jS0_ev, ih]
noncomputable def f34jT (l0 : f34jG0) (z : Int) (m : Int) (ws : List Int) (vs : List Int) : Option Lf :=
 l0 (false : Bool) (zn ws.length : Int) (0 : Int) (z : Int) (m : Int) (ws : List Int) (vs : List Int)
noncomputable def f34jM (n : Nat) (z : Int) (m : Int) (ws : List Int) (vs : List Int) : Option Lf := f34jT (f34jL0 n n) z m ws vs
theorem f34jT_ev (n : Nat) (z : Int) (m : Int) (ws : List Int) (vs : List Int) : evF C7 f34jh n f34jf [(D.p (Pt.one (L.pv (Id.mk 0 0) 0))), (D.p (Pt.one (L.pv (Id.mk 0 1) 0))), (D.p (Pt.one (L.fn 35 [])))] [(Ob.va [(L.d (Pv.fz true) (Sh.i IntKind.i64) z), (L.rw (Id.mk 0 2))]), (Ob.va [(L.d (Pv.fz true) (Sh.i IntKind.i64) m), (L.rw (Id.mk 0 3))]), (Ob.ro true 0 60 (Sh.i IntKind.u64) Ow.z ws Option.none), (Ob.ro true 0 60 (Sh.i IntKind.u64) Ow.z vs Option.none)] = f34jT (f34jW0 (lp C7 f34jh n Lf (codeOf f34jf) [1, 1, 1, 0, 1, 0] [] (endK C7 f34jh f34jf) n)) z m ws vs := by kernel_rfl
theorem f34j_ev (n : Nat) (z : Int) (m : Int) (ws : List Int) (vs : List Int) : evF C7 f34jh n f34jf [(D.p (Pt.one (L.pv (Id.mk 0 0) 0))), (D.p (Pt.one (L.pv (Id.mk 0 1) 0))), (D.p (Pt.one (L.fn 35 [])))] [(Ob.va [(L.d (Pv.fz true) (Sh.i IntKind.i64) z), (L.rw (Id.mk 0 2))]), (Ob.va [(L.d (Pv.fz true) (Sh.i IntKind.i64) m), (L.rw (Id.mk 0 3))]), (Ob.ro true 0 60 (Sh.i IntKind.u64) Ow.z ws Option.none), (Ob.ro true 0 60 (Sh.i IntKind.u64) Ow.z vs Option.none)] = f34jM n z m ws vs := by
  rw [f34jT_ev, f34jW0_ev]
  rfl
end Go.S1
