/-
  Seat 01: functional forms of Count, Same, Copy and of turn for Minus and Meet.
-/
import Derived.Test.YtjmpbpggbkkhpaaDoorS01Q
import Derived.Test.YtjmpbpggbkkhpaaDoorS01F
import Derived.Test.YtjmpbpggbkkhpaaDoorS01M
open Go Go.En Go.S1
namespace Go.S1
def onesS : En.Spec := ⟨[], fun ds os => match ds, os with
  | [.p (.one (.d (.fz true) (.i .u64) x))], [] => .br (decide (0 ≤ x) && decide (x < 18446744073709551616)) (.leaf [pI (pc x.toNat)] [] []) .fail
  | _, _ => .fail⟩
def eqS : En.Spec := ⟨[], fun ds os => match ds, os with
  | [.p (.one (.d (.fz false) (.l (.i .u64)) a)), .p (.one (.d (.fz false) (.l (.i .u64)) b))], [] => .br (Nat.ble a.length 1000000 && Nat.ble b.length 1000000) (.leaf [pB (sameI a b)] [] []) .fail
  | _, _ => .fail⟩
def cloneS : En.Spec := ⟨[], fun ds os => match ds, os with
  | [.p (.one (.d (.fz false) (.l (.i .u64)) v))], [] => .br (Nat.ble v.length 1000000) (.leaf [.one (.rw ⟨1, 0⟩)] [] [roW v]) .fail
  | _, _ => .fail⟩
noncomputable def l10 : List (Nat × En.Spec) := [(37, onesS), (36, eqS), (41, cloneS)]
noncomputable def C10 : Ctx := ctxOf C0 l10
def h41 : Hn := ⟨fun _ => [], fun | 1000000 => [⟨2, none, 60, .z⟩] | _ => [], fun _ => false⟩

abbrev f41h : Hn := h41
noncomputable abbrev f41f : Func := fn 41
noncomputable def f41T  (v : List Int) : Option Lf :=
 bif zn v.length == 0 then
  both (
   some (Lf.mk [(Pt.one (L.rw (Id.mk 1 0)))] [] [(Ob.ro true 0 60 (Sh.i IntKind.u64) Ow.z ([] : List Int) Option.none)]))
  (
   bif decide ((0 + v.length) * 8 ≤ 140737488355328) then
    some (Lf.mk [(Pt.one (L.rw (Id.mk 1 0)))] [] [(Ob.ro true 0 60 (Sh.i IntKind.u64) Ow.z (v : List Int) Option.none)])
   else
    none)
 else
  bif decide ((0 + v.length) * 8 ≤ 140737488355328) then
   some (Lf.mk [(Pt.one (L.rw (Id.mk 1 0)))] [] [(Ob.ro true 0 60 (Sh.i IntKind.u64) Ow.z (v : List Int) Option.none)])
  else
   none
noncomputable def f41M (_ : Nat) (v : List Int) : Option Lf := f41T  v
theorem f41T_ev (n : Nat) (v : List Int) : evF C1 f41h n f41f [(D.p (Pt.one (L.d (Pv.fz false) (Sh.l (Sh.i IntKind.u64)) v)))] [] = f41T  v := by kernel_rfl
theorem f41_ev (n : Nat) (v : List Int) : evF C1 f41h n f41f [(D.p (Pt.one (L.d (Pv.fz false) (Sh.l (Sh.i IntKind.u64)) v)))] [] = f41M n v := by
  rw [f41T_ev]
  rfl

abbrev f20kh : Hn := h20
noncomputable abbrev f20kf : Func := fn 20
noncomputable def f20kT   : Option Lf :=
 some (Lf.mk [(Pt.one (L.d (Pv.fz true) (Sh.i IntKind.i64) (0 : Int)))] [] [])
noncomputable def f20kM (_ : Nat)  : Option Lf := f20kT  
theorem f20kT_ev (n : Nat)  : evF C10 f20kh n f20kf [(D.p (Pt.one L.np))] [] = f20kT   := by kernel_rfl
theorem f20k_ev (n : Nat)  : evF C10 f20kh n f20kf [(D.p (Pt.one L.np))] [] = f20kM n  := by
  rw [f20kT_ev]
  rfl

abbrev f20jh : Hn := h20
noncomputable abbrev f20jf : Func := fn 20
abbrev f20jG0 := Int → Int → Int → Int → (List Int) → Option Lf
noncomputable def f20jH0 (x0_0 : Int) (x0_1 : Int) (x0_2 : Int) (x0_3 : Int) (x0_4 : List Int) : St := (St.mk [dead, dead, dead, (D.p (Pt.one (L.d (Pv.fz true) (Sh.i IntKind.i64) x0_0))), dead, dead, dead, dead, dead, dead, dead, (D.p (Pt.one (L.rw (Id.mk 0 1)))), (D.p (Pt.one (L.d (Pv.fz true) (Sh.i IntKind.i64) x0_1))), (D.p (Pt.one (L.d (Pv.fz true) (Sh.i IntKind.i64) x0_2))), dead, dead, dead, dead, dead, dead, dead, dead, dead] [[(Ob.va [(L.d (Pv.fz true) (Sh.i IntKind.i64) x0_3), (L.rw (Id.mk 0 1))]), (Ob.ro true 0 60 (Sh.i IntKind.u64) Ow.z x0_4 Option.none)], []])
noncomputable def f20jW0 (G : St → Option Lf) : f20jG0 := fun x0_0 x0_1 x0_2 x0_3 x0_4 => G (f20jH0 x0_0 x0_1 x0_2 x0_3 x0_4)
noncomputable def f20jS0  (g0 : f20jG0) (x0_0 : Int) (x0_1 : Int) (x0_2 : Int) (x0_3 : Int) (x0_4 : List Int) : Option Lf :=
 bif decide (x0_2 < x0_1) then
  bif inb x0_2 x0_4.length then
   bif decide (0 ≤ x0_4.getD x0_2.toNat 0) && decide (x0_4.getD x0_2.toNat 0 < 18446744073709551616) then
    g0 (IntKind.i64.wrap (x0_0 + zn (pc (x0_4.getD x0_2.toNat 0).toNat)) : Int) (x0_1 : Int) (IntKind.i64.wrap (x0_2 + 1) : Int) (x0_3 : Int) (x0_4 : List Int)
   else
    none
  else
   none
 else
  some (Lf.mk [(Pt.one (L.d (Pv.fz true) (Sh.i IntKind.i64) (x0_0 : Int)))] [(Ob.va [(L.d (Pv.fz true) (Sh.i IntKind.i64) (x0_3 : Int)), (L.rw (Id.mk 0 1))]), (Ob.ro true 0 60 (Sh.i IntKind.u64) Ow.z (x0_4 : List Int) Option.none)] [])
noncomputable def f20jL0 (n : Nat)  : Nat → f20jG0
  | 0 => fun _ _ _ _ _ => none
  | m + 1 => fun x0_0 x0_1 x0_2 x0_3 x0_4 => f20jS0   (f20jL0 n  m) x0_0 x0_1 x0_2 x0_3 x0_4
theorem f20jS0_ev (n : Nat)  (G : St → Option Lf) (x0_0 : Int) (x0_1 : Int) (x0_2 : Int) (x0_3 : Int) (x0_4 : List Int) : rnd C10 f20jh n Lf (codeOf f20jf) [1, 1, 1, 0, 1, 0] [] (endK C10 f20jh f20jf) G (f20jH0 x0_0 x0_1 x0_2 x0_3 x0_4) = f20jS0   (f20jW0 G) x0_0 x0_1 x0_2 x0_3 x0_4 := by kernel_rfl
theorem f20jW0_ev (n : Nat)  : ∀ m, (f20jW0 (lp C10 f20jh n Lf (codeOf f20jf) [1, 1, 1, 0, 1, 0] [] (endK C10 f20jh f20jf) m)) = f20jL0 n  m := by
  intro m
  induction m with
  | zero => funext x0_0 x0_1 x0_2 x0_3 x0_4; exact lp_zero _
  | succ m ih =>
    funext x0_0 x0_1 x0_2 x0_3 x0_4
    show lp C10 f20jh n Lf (codeOf f20jf) [1, 1, 1, 0, 1, 0] [] (endK C10 f20jh f20jf) (m + 1) (f20jH0 x0_0 x0_1 x0_2 x0_3 x0_4) = f20jS0   (f20jL0 n  m) x0_0 x0_1 x0_2 x0_3 x0_4
    rw [lp_succ, f20jS0_ev, ih]
noncomputable def f20jT (l0 : f20jG0) (z : Int) (ws : List Int) : Option Lf :=
 l0 (0 : Int) (zn ws.length : Int) (0 : Int) (z : Int) (ws : List Int)
noncomputable def f20jM (n : Nat) (z : Int) (ws : List Int) : Option Lf := f20jT (f20jL0 n n) z ws
theorem f20jT_ev (n : Nat) (z : Int) (ws : List Int) : evF C10 f20jh n f20jf [(D.p (Pt.one (L.pv (Id.mk 0 0) 0)))] [(Ob.va [(L.d (Pv.fz true) (Sh.i IntKind.i64) z), (L.rw (Id.mk 0 1))]), (Ob.ro true 0 60 (Sh.i IntKind.u64) Ow.z ws Option.none)] = f20jT (f20jW0 (lp C10 f20jh n Lf (codeOf f20jf) [1, 1, 1, 0, 1, 0] [] (endK C10 f20jh f20jf) n)) z ws := by kernel_rfl
theorem f20j_ev (n : Nat) (z : Int) (ws : List Int) : evF C10 f20jh n f20jf [(D.p (Pt.one (L.pv (Id.mk 0 0) 0)))] [(Ob.va [(L.d (Pv.fz true) (Sh.i IntKind.i64) z), (L.rw (Id.mk 0 1))]), (Ob.ro true 0 60 (Sh.i IntKind.u64) Ow.z ws Option.none)] = f20jM n z ws := by
  rw [f20jT_ev, f20jW0_ev]
  rfl

abbrev f18kh : Hn := hn0
noncomputable abbrev f18kf : Func := fn 18
noncomputable def f18kT   : Option Lf :=
 some (Lf.mk [(Pt.one (L.d (Pv.fz true) Sh.b (true : Bool)))] [] [])
noncomputable def f18kM (_ : Nat)  : Option Lf := f18kT  
theorem f18kT_ev (n : Nat)  : evF C10 f18kh n f18kf [(D.p (Pt.one L.np)), (D.p (Pt.one L.np))] [] = f18kT   := by kernel_rfl
theorem f18k_ev (n : Nat)  : evF C10 f18kh n f18kf [(D.p (Pt.one L.np)), (D.p (Pt.one L.np))] [] = f18kM n  := by
  rw [f18kT_ev]
  rfl

abbrev f18ph : Hn := hn0
noncomputable abbrev f18pf : Func := fn 18
noncomputable def f18pT  (z : Int) (ws : List Int) : Option Lf :=
 some (Lf.mk [(Pt.one (L.d (Pv.fz true) Sh.b (false : Bool)))] [(Ob.va [(L.d (Pv.fz true) (Sh.i IntKind.i64) (z : Int)), (L.rw (Id.mk 0 1))]), (Ob.ro true 0 60 (Sh.i IntKind.u64) Ow.z (ws : List Int) Option.none)] [])
noncomputable def f18pM (_ : Nat) (z : Int) (ws : List Int) : Option Lf := f18pT  z ws
theorem f18pT_ev (n : Nat) (z : Int) (ws : List Int) : evF C10 f18ph n f18pf [(D.p (Pt.one (L.pv (Id.mk 0 0) 0))), (D.p (Pt.one L.np))] [(Ob.va [(L.d (Pv.fz true) (Sh.i IntKind.i64) z), (L.rw (Id.mk 0 1))]), (Ob.ro true 0 60 (Sh.i IntKind.u64) Ow.z ws Option.none)] = f18pT  z ws := by kernel_rfl
theorem f18p_ev (n : Nat) (z : Int) (ws : List Int) : evF C10 f18ph n f18pf [(D.p (Pt.one (L.pv (Id.mk 0 0) 0))), (D.p (Pt.one L.np))] [(Ob.va [(L.d (Pv.fz true) (Sh.i IntKind.i64) z), (L.rw (Id.mk 0 1))]), (Ob.ro true 0 60 (Sh.i IntKind.u64) Ow.z ws Option.none)] = f18pM n z ws := by
  rw [f18pT_ev]
  rfl

abbrev f18jh : Hn := hn0
noncomputable abbrev f18jf : Func := fn 18
noncomputable def f18jT  (z : Int) (m : Int) (ws : List Int) (vs : List Int) : Option Lf :=
 bif Nat.beq 1 1 && (Nat.beq 1 1 && bif z == m then Nat.beq 1 1 && (Nat.beq 1 1 && (Nat.beq 0 0 && (Nat.beq 0 0 && (ws.length.ble 1000000 && vs.length.ble 1000000 && true)))) else true) then
  some (Lf.mk [(Pt.one (L.d (Pv.fz true) Sh.b (z == m && sameI ws vs : Bool)))] [(Ob.va [(L.d (Pv.fz true) (Sh.i IntKind.i64) (z : Int)), (L.rw (Id.mk 0 2))]), (Ob.va [(L.d (Pv.fz true) (Sh.i IntKind.i64) (m : Int)), (L.rw (Id.mk 0 3))]), (Ob.ro true 0 60 (Sh.i IntKind.u64) Ow.z (ws : List Int) Option.none), (Ob.ro true 0 60 (Sh.i IntKind.u64) Ow.z (vs : List Int) Option.none)] [])
 else
  none
noncomputable def f18jM (_ : Nat) (z : Int) (m : Int) (ws : List Int) (vs : List Int) : Option Lf := f18jT  z m ws vs
theorem f18jT_ev (n : Nat) (z : Int) (m : Int) (ws : List Int) (vs : List Int) : evF C10 f18jh n f18jf [(D.p (Pt.one (L.pv (Id.mk 0 0) 0))), (D.p (Pt.one (L.pv (Id.mk 0 1) 0)))] [(Ob.va [(L.d (Pv.fz true) (Sh.i IntKind.i64) z), (L.rw (Id.mk 0 2))]), (Ob.va [(L.d (Pv.fz true) (Sh.i IntKind.i64) m), (L.rw (Id.mk 0 3))]), (Ob.ro true 0 60 (Sh.i IntKind.u64) Ow.z ws Option.none), (Ob.ro true 0 60 (Sh.i IntKind.u64) Ow.z vs Option.none)] = f18jT  z m ws vs := by kernel_rfl
theorem f18j_ev (n : Nat) (z : Int) (m : Int) (ws : List Int) (vs : List Int) : evF C10 f18jh n f18jf [(D.p (Pt.one (L.pv (Id.mk 0 0) 0))), (D.p (Pt.one (L.pv (Id.mk 0 1) 0)))] [(Ob.va [(L.d (Pv.fz true) (Sh.i IntKind.i64) z), (L.rw (Id.mk 0 2))]), (Ob.va [(L.d (Pv.fz true) (Sh.i IntKind.i64) m), (L.rw (Id.mk 0 3))]), (Ob.ro true 0 60 (Sh.i IntKind.u64) Ow.z ws Option.none), (Ob.ro true 0 60 (Sh.i IntKind.u64) Ow.z vs Option.none)] = f18jM n z m ws vs := by
  rw [f18jT_ev]
  rfl

abbrev f31kh : Hn := hn0
noncomputable abbrev f31kf : Func := fn 31
noncomputable def f31kT   : Option Lf :=
 some (Lf.mk [(Pt.one L.np)] [] [])
noncomputable def f31kM (_ : Nat)  : Option Lf := f31kT  
theorem f31kT_ev (n : Nat)  : evF C10 f31kh n f31kf [(D.p (Pt.one L.np))] [] = f31kT   := by kernel_rfl
theorem f31k_ev (n : Nat)  : evF C10 f31kh n f31kf [(D.p (Pt.one L.np))] [] = f31kM n  := by
  rw [f31kT_ev]
  rfl

abbrev f31jh : Hn := hn0
noncomputable abbrev f31jf : Func := fn 31
noncomputable def f31jT  (z : Int) (ws : List Int) : Option Lf :=
 bif ws.length.ble 1000000 then
  some (Lf.mk [(Pt.one (L.pv (Id.mk 1 0) 0))] [(Ob.va [(L.d (Pv.fz true) (Sh.i IntKind.i64) (z : Int)), (L.rw (Id.mk 0 1))]), (Ob.ro true 0 60 (Sh.i IntKind.u64) Ow.z (ws : List Int) Option.none)] [(Ob.va [(L.d (Pv.fz true) (Sh.i IntKind.i64) (z : Int)), (L.rw (Id.mk 1 1))]), (Ob.ro true 0 60 (Sh.i IntKind.u64) Ow.z (ws : List Int) Option.none)])
 else
  none
noncomputable def f31jM (_ : Nat) (z : Int) (ws : List Int) : Option Lf := f31jT  z ws
theorem f31jT_ev (n : Nat) (z : Int) (ws : List Int) : evF C10 f31jh n f31jf [(D.p (Pt.one (L.pv (Id.mk 0 0) 0)))] [(Ob.va [(L.d (Pv.fz true) (Sh.i IntKind.i64) z), (L.rw (Id.mk 0 1))]), (Ob.ro true 0 60 (Sh.i IntKind.u64) Ow.z ws Option.none)] = f31jT  z ws := by kernel_rfl
theorem f31j_ev (n : Nat) (z : Int) (ws : List Int) : evF C10 f31jh n f31jf [(D.p (Pt.one (L.pv (Id.mk 0 0) 0)))] [(Ob.va [(L.d (Pv.fz true) (Sh.i IntKind.i64) z), (L.rw (Id.mk 0 1))]), (Ob.ro true 0 60 (Sh.i IntKind.u64) Ow.z ws Option.none)] = f31jM n z ws := by
  rw [f31jT_ev]
  rfl

abbrev f34mh : Hn := h34
noncomputable abbrev f34mf : Func := fn 34
abbrev f34mG0 := Bool → Int → Int → Int → Int → (List Int) → (List Int) → Option Lf
noncomputable def f34mH0 (x0_0 : Bool) (x0_1 : Int) (x0_2 : Int) (x0_3 : Int) (x0_4 : Int) (x0_5 : List Int) (x0_6 : List Int) : St := (St.mk [(D.p (Pt.one (L.pv (Id.mk 0 0) 0))), (D.p (Pt.one (L.pv (Id.mk 0 1) 0))), (D.p (Pt.one (L.fn 39 []))), dead, dead, dead, dead, (D.p (Pt.one (L.d (Pv.fz true) Sh.b x0_0))), dead, dead, dead, dead, dead, dead, dead, dead, (D.p (Pt.one (L.rw (Id.mk 0 2)))), (D.p (Pt.one (L.d (Pv.fz true) (Sh.i IntKind.i64) x0_1))), (D.p (Pt.one (L.d (Pv.fz true) (Sh.i IntKind.i64) x0_2))), dead, dead, dead, dead, dead, dead, dead, dead, dead, dead, dead, dead, dead, dead, dead, dead, dead, dead, dead, dead, dead, dead, dead, dead, dead, dead, dead, dead, dead, dead, dead, dead, dead, dead, dead, dead, dead, dead, dead, dead, dead, dead, dead, dead, dead, dead, dead, dead, dead, dead, dead, dead, dead, dead, dead, dead, dead, dead, dead, dead, dead, dead, dead, dead, dead, dead, dead, dead, dead, dead, dead] [[(Ob.va [(L.d (Pv.fz true) (Sh.i IntKind.i64) x0_3), (L.rw (Id.mk 0 2))]), (Ob.va [(L.d (Pv.fz true) (Sh.i IntKind.i64) x0_4), (L.rw (Id.mk 0 3))]), (Ob.ro true 0 60 (Sh.i IntKind.u64) Ow.z x0_5 Option.none), (Ob.ro true 0 60 (Sh.i IntKind.u64) Ow.z x0_6 Option.none)], []])
noncomputable def f34mW0 (G : St → Option Lf) : f34mG0 := fun x0_0 x0_1 x0_2 x0_3 x0_4 x0_5 x0_6 => G (f34mH0 x0_0 x0_1 x0_2 x0_3 x0_4 x0_5 x0_6)
noncomputable def f34mS0  (g0 : f34mG0) (x0_0 : Bool) (x0_1 : Int) (x0_2 : Int) (x0_3 : Int) (x0_4 : Int) (x0_5 : List Int) (x0_6 : List Int) : Option Lf :=
 bif decide (x0_2 < x0_1) then
  bif inb x0_2 x0_5.length then
   bif decide (x0_2 < zn x0_6.length) then
    bif inb x0_2 x0_6.length then
     bif Nat.beq 1 1 && (x0_2 == IntKind.i64.wrap (zn x0_5.length - 1) || true) then
      bif x0_2 == IntKind.i64.wrap (zn x0_5.length - 1) && x0_3.tmod 64 != 0 then
       bif decide (0 ≤ x0_3.tmod 64) then
        bif inb x0_2 x0_5.length then
         bif x0_0 || Nat.beq 1 1 && (Nat.beq 1 1 && (inb x0_2 (x0_5.set x0_2.toNat (bitsF BinOp.andNot IntKind.u64 (x0_5.getD x0_2.toNat 0) (bitsF BinOp.and IntKind.u64 (x0_6.getD x0_2.toNat 0) (IntKind.u64.wrap (shlF IntKind.u64 1 (x0_3.tmod 64) - 1))))).length && true)) then
          g0 (x0_0 || (x0_5.set x0_2.toNat (bitsF BinOp.andNot IntKind.u64 (x0_5.getD x0_2.toNat 0) (bitsF BinOp.and IntKind.u64 (x0_6.getD x0_2.toNat 0) (IntKind.u64.wrap (shlF IntKind.u64 1 (x0_3.tmod 64) - 1))))).getD x0_2.toNat 0 != x0_5.getD x0_2.toNat 0 : Bool) (x0_1 : Int) (IntKind.i64.wrap (x0_2 + 1) : Int) (x0_3 : Int) (x0_4 : Int) (x0_5.set x0_2.toNat (bitsF BinOp.andNot IntKind.u64 (x0_5.getD x0_2.toNat 0) (bitsF BinOp.and IntKind.u64 (x0_6.getD x0_2.toNat 0) (IntKind.u64.wrap (shlF IntKind.u64 1 (x0_3.tmod 64) - 1)))) : List Int) (x0_6 : List Int)
         else
          none
        else
         none
       else
        none
      else
       bif inb x0_2 x0_5.length then
        bif x0_0 || Nat.beq 1 1 && (Nat.beq 1 1 && (inb x0_2 (x0_5.set x0_2.toNat (bitsF BinOp.andNot IntKind.u64 (x0_5.getD x0_2.toNat 0) (x0_6.getD x0_2.toNat 0))).length && true)) then
         g0 (x0_0 || (x0_5.set x0_2.toNat (bitsF BinOp.andNot IntKind.u64 (x0_5.getD x0_2.toNat 0) (x0_6.getD x0_2.toNat 0))).getD x0_2.toNat 0 != x0_5.getD x0_2.toNat 0 : Bool) (x0_1 : Int) (IntKind.i64.wrap (x0_2 + 1) : Int) (x0_3 : Int) (x0_4 : Int) (x0_5.set x0_2.toNat (bitsF BinOp.andNot IntKind.u64 (x0_5.getD x0_2.toNat 0) (x0_6.getD x0_2.toNat 0)) : List Int) (x0_6 : List Int)
        else
         none
       else
        none
     else
      none
    else
     none
   else
    bif Nat.beq 1 1 && (x0_2 == IntKind.i64.wrap (zn x0_5.length - 1) || true) then
     bif x0_2 == IntKind.i64.wrap (zn x0_5.length - 1) && x0_3.tmod 64 != 0 then
      bif decide (0 ≤ x0_3.tmod 64) then
       bif inb x0_2 x0_5.length then
        bif x0_0 || Nat.beq 1 1 && (Nat.beq 1 1 && (inb x0_2 (x0_5.set x0_2.toNat (bitsF BinOp.andNot IntKind.u64 (x0_5.getD x0_2.toNat 0) (bitsF BinOp.and IntKind.u64 0 (IntKind.u64.wrap (shlF IntKind.u64 1 (x0_3.tmod 64) - 1))))).length && true)) then
         g0 (x0_0 || (x0_5.set x0_2.toNat (bitsF BinOp.andNot IntKind.u64 (x0_5.getD x0_2.toNat 0) (bitsF BinOp.and IntKind.u64 0 (IntKind.u64.wrap (shlF IntKind.u64 1 (x0_3.tmod 64) - 1))))).getD x0_2.toNat 0 != x0_5.getD x0_2.toNat 0 : Bool) (x0_1 : Int) (IntKind.i64.wrap (x0_2 + 1) : Int) (x0_3 : Int) (x0_4 : Int) (x0_5.set x0_2.toNat (bitsF BinOp.andNot IntKind.u64 (x0_5.getD x0_2.toNat 0) (bitsF BinOp.and IntKind.u64 0 (IntKind.u64.wrap (shlF IntKind.u64 1 (x0_3.tmod 64) - 1)))) : List Int) (x0_6 : List Int)
        else
         none
       else
        none
      else
       none
     else
      bif inb x0_2 x0_5.length then
       bif x0_0 || Nat.beq 1 1 && (Nat.beq 1 1 && (inb x0_2 (x0_5.set x0_2.toNat (bitsF BinOp.andNot IntKind.u64 (x0_5.getD x0_2.toNat 0) 0)).length && true)) then
        g0 (x0_0 || (x0_5.set x0_2.toNat (bitsF BinOp.andNot IntKind.u64 (x0_5.getD x0_2.toNat 0) 0)).getD x0_2.toNat 0 != x0_5.getD x0_2.toNat 0 : Bool) (x0_1 : Int) (IntKind.i64.wrap (x0_2 + 1) : Int) (x0_3 : Int) (x0_4 : Int) (x0_5.set x0_2.toNat (bitsF BinOp.andNot IntKind.u64 (x0_5.getD x0_2.toNat 0) 0) : List Int) (x0_6 : List Int)
       else
        none
      else
       none
    else
     none
  else
   none
 else
  some (Lf.mk [(Pt.one (L.d (Pv.fz true) Sh.b (x0_0 : Bool)))] [(Ob.va [(L.d (Pv.fz true) (Sh.i IntKind.i64) (x0_3 : Int)), (L.rw (Id.mk 0 2))]), (Ob.va [(L.d (Pv.fz true) (Sh.i IntKind.i64) (x0_4 : Int)), (L.rw (Id.mk 0 3))]), (Ob.ro true 0 60 (Sh.i IntKind.u64) Ow.z (x0_5 : List Int) Option.none), (Ob.ro true 0 60 (Sh.i IntKind.u64) Ow.z (x0_6 : List Int) Option.none)] [])
noncomputable def f34mL0 (n : Nat)  : Nat → f34mG0
  | 0 => fun _ _ _ _ _ _ _ => none
  | m + 1 => fun x0_0 x0_1 x0_2 x0_3 x0_4 x0_5 x0_6 => f34mS0   (f34mL0 n  m) x0_0 x0_1 x0_2 x0_3 x0_4 x0_5 x0_6
theorem f34mS0_ev (n : Nat)  (G : St → Option Lf) (x0_0 : Bool) (x0_1 : Int) (x0_2 : Int) (x0_3 : Int) (x0_4 : Int) (x0_5 : List Int) (x0_6 : List Int) : rnd C7 f34mh n Lf (codeOf f34mf) [1, 1, 1, 0, 1, 0] [] (endK C7 f34mh f34mf) G (f34mH0 x0_0 x0_1 x0_2 x0_3 x0_4 x0_5 x0_6) = f34mS0   (f34mW0 G) x0_0 x0_1 x0_2 x0_3 x0_4 x0_5 x0_6 := by kernel_rfl
theorem f34mW0_ev (n : Nat)  : ∀ m, (f34mW0 (lp C7 f34mh n Lf (codeOf f34mf) [1, 1, 1, 0, 1, 0] [] (endK C7 f34mh f34mf) m)) = f34mL0 n  m := by
  intro m
  induction m with
  | zero => funext x0_0 x0_1 x0_2 x0_3 x0_4 x0_5 x0_6; exact lp_zero _
  | succ m ih =>
    funext x0_0 x0_1 x0_2 x0_3 x0_4 x0_5 x0_6
    show lp C7 f34mh n Lf (codeOf f34mf) [1, 1, 1, 0, 1, 0] [] (endK C7 f34mh f34mf) (m + 1) (f34mH0 x0_0 x0_1 x0_2 x0_3 x0_4 x0_5 x0_6) = f34mS0   (f34mL0 n  m) x0_0 x0_1 x0_2 x0_3 x0_4 x0_5 x0_6
    rw [lp_succ, f34mS0_ev, ih]
noncomputable def f34mT (l0 : f34mG0) (z : Int) (m : Int) (ws : List Int) (vs : List Int) : Option Lf :=
 l0 (false : Bool) (zn ws.length : Int) (0 : Int) (z : Int) (m : Int) (ws : List Int) (vs : List Int)
noncomputable def f34mM (n : Nat) (z : Int) (m : Int) (ws : List Int) (vs : List Int) : Option Lf := f34mT (f34mL0 n n) z m ws vs
theorem f34mT_ev (n : Nat) (z : Int) (m : Int) (ws : List Int) (vs : List Int) : evF C7 f34mh n f34mf [(D.p (Pt.one (L.pv (Id.mk 0 0) 0))), (D.p (Pt.one (L.pv (Id.mk 0 1) 0))), (D.p (Pt.one (L.fn 39 [])))] [(Ob.va [(L.d (Pv.fz true) (Sh.i IntKind.i64) z), (L.rw (Id.mk 0 2))]), (Ob.va [(L.d (Pv.fz true) (Sh.i IntKind.i64) m), (L.rw (Id.mk 0 3))]), (Ob.ro true 0 60 (Sh.i IntKind.u64) Ow.z ws Option.none), (Ob.ro true 0 60 (Sh.i IntKind.u64) Ow.z vs Option.none)] = f34mT (f34mW0 (lp C7 f34mh n Lf (codeOf f34mf) [1, 1, 1, 0, 1, 0] [] (endK C7 f34mh f34mf) n)) z m ws vs := by kernel_rfl
theorem f34m_ev (n : Nat) (z : Int) (m : Int) (ws : List Int) (vs : List Int) : evF C7 f34mh n f34mf [(D.p (Pt.one (L.pv (Id.mk 0 0) 0))), (D.p (Pt.one (L.pv (Id.mk 0 1) 0))), (D.p (Pt.one (L.fn 39 [])))] [(Ob.va [(L.d (Pv.fz true) (Sh.i IntKind.i64) z), (L.rw (Id.mk 0 2))]), (Ob.va [(L.d (Pv.fz true) (Sh.i IntKind.i64) m), (L.rw (Id.mk 0 3))]), (Ob.ro true 0 60 (Sh.i IntKind.u64) Ow.z ws Option.none), (Ob.ro true 0 60 (Sh.i IntKind.u64) Ow.z vs Option.none)] = f34mM n z m ws vs := by
  rw [f34mT_ev, f34mW0_ev]
  rfl

abbrev f34ah : Hn := h34
noncomputable abbrev f34af : Func := fn 34
abbrev f34aG0 := Bool → Int → Int → Int → Int → (List Int) → (List Int) → Option Lf
noncomputable def f34aH0 (x0_0 : Bool) (x0_1 : Int) (x0_2 : Int) (x0_3 : Int) (x0_4 : Int) (x0_5 : List Int) (x0_6 : List Int) : St := (St.mk [(D.p (Pt.one (L.pv (Id.mk 0 0) 0))), (D.p (Pt.one (L.pv (Id.mk 0 1) 0))), (D.p (Pt.one (L.fn 40 []))), dead, dead, dead, dead, (D.p (Pt.one (L.d (Pv.fz true) Sh.b x0_0))), dead, dead, dead, dead, dead, dead, dead, dead, (D.p (Pt.one (L.rw (Id.mk 0 2)))), (D.p (Pt.one (L.d (Pv.fz true) (Sh.i IntKind.i64) x0_1))), (D.p (Pt.one (L.d (Pv.fz true) (Sh.i IntKind.i64) x0_2))), dead, dead, dead, dead, dead, dead, dead, dead, dead, dead, dead, dead, dead, dead, dead, dead, dead, dead, dead, dead, dead, dead, dead, dead, dead, dead, dead, dead, dead, dead, dead, dead, dead, dead, dead, dead, dead, dead, dead, dead, dead, dead, dead, dead, dead, dead, dead, dead, dead, dead, dead, dead, dead, dead, dead, dead, dead, dead, dead, dead, dead, dead, dead, dead, dead, dead, dead, dead, dead, dead, dead] [[(Ob.va [(L.d (Pv.fz true) (Sh.i IntKind.i64) x0_3), (L.rw (Id.mk 0 2))]), (Ob.va [(L.d (Pv.fz true) (Sh.i IntKind.i64) x0_4), (L.rw (Id.mk 0 3))]), (Ob.ro true 0 60 (Sh.i IntKind.u64) Ow.z x0_5 Option.none), (Ob.ro true 0 60 (Sh.i IntKind.u64) Ow.z x0_6 Option.none)], []])
noncomputable def f34aW0 (G : St → Option Lf) : f34aG0 := fun x0_0 x0_1 x0_2 x0_3 x0_4 x0_5 x0_6 => G (f34aH0 x0_0 x0_1 x0_2 x0_3 x0_4 x0_5 x0_6)
noncomputable def f34aS0  (g0 : f34aG0) (x0_0 : Bool) (x0_1 : Int) (x0_2 : Int) (x0_3 : Int) (x0_4 : Int) (x0_5 : List Int) (x0_6 : List Int) : Option Lf :=
 bif decide (x0_2 < x0_1) then
  bif inb x0_2 x0_5.length then
   bif decide (x0_2 < zn x0_6.length) then
    bif inb x0_2 x0_6.length then
     bif Nat.beq 1 1 && (x0_2 == IntKind.i64.wrap (zn x0_5.length - 1) || true) then
      bif x0_2 == IntKind.i64.wrap (zn x0_5.length - 1) && x0_3.tmod 64 != 0 then
       bif decide (0 ≤ x0_3.tmod 64) then
        bif inb x0_2 x0_5.length then
         bif x0_0 || Nat.beq 1 1 && (Nat.beq 1 1 && (inb x0_2 (x0_5.set x0_2.toNat (bitsF BinOp.and IntKind.u64 (x0_5.getD x0_2.toNat 0) (bitsF BinOp.and IntKind.u64 (x0_6.getD x0_2.toNat 0) (IntKind.u64.wrap (shlF IntKind.u64 1 (x0_3.tmod 64) - 1))))).length && true)) then
          g0 (x0_0 || (x0_5.set x0_2.toNat (bitsF BinOp.and IntKind.u64 (x0_5.getD x0_2.toNat 0) (bitsF BinOp.and IntKind.u64 (x0_6.getD x0_2.toNat 0) (IntKind.u64.wrap (shlF IntKind.u64 1 (x0_3.tmod 64) - 1))))).getD x0_2.toNat 0 != x0_5.getD x0_2.toNat 0 : Bool) (x0_1 : Int) (IntKind.i64.wrap (x0_2 + 1) : Int) (x0_3 : Int) (x0_4 : Int) (x0_5.set x0_2.toNat (bitsF BinOp.and IntKind.u64 (x0_5.getD x0_2.toNat 0) (bitsF BinOp.and IntKind.u64 (x0_6.getD x0_2.toNat 0) (IntKind.u64.wrap (shlF IntKind.u64 1 (x0_3.tmod 64) - 1)))) : List Int) (x0_6 : List Int)
         else
          none
        else
         none
       else
        none
      else
       bif inb x0_2 x0_5.length then
        bif x0_0 || Nat.beq 1 1 && (Nat.beq 1 1 && (inb x0_2 (x0_5.set x0_2.toNat (bitsF BinOp.and IntKind.u64 (x0_5.getD x0_2.toNat 0) (x0_6.getD x0_2.toNat 0))).length && true)) then
         g0 (x0_0 || (x0_5.set x0_2.toNat (bitsF BinOp.and IntKind.u64 (x0_5.getD x0_2.toNat 0) (x0_6.getD x0_2.toNat 0))).getD x0_2.toNat 0 != x0_5.getD x0_2.toNat 0 : Bool) (x0_1 : Int) (IntKind.i64.wrap (x0_2 + 1) : Int) (x0_3 : Int) (x0_4 : Int) (x0_5.set x0_2.toNat (bitsF BinOp.and IntKind.u64 (x0_5.getD x0_2.toNat 0) (x0_6.getD x0_2.toNat 0)) : List Int) (x0_6 : List Int)
        else
         none
       else
        none
     else
      none
    else
     none
   else
    bif Nat.beq 1 1 && (x0_2 == IntKind.i64.wrap (zn x0_5.length - 1) || true) then
     bif x0_2 == IntKind.i64.wrap (zn x0_5.length - 1) && x0_3.tmod 64 != 0 then
      bif decide (0 ≤ x0_3.tmod 64) then
       bif inb x0_2 x0_5.length then
        bif x0_0 || Nat.beq 1 1 && (Nat.beq 1 1 && (inb x0_2 (x0_5.set x0_2.toNat (bitsF BinOp.and IntKind.u64 (x0_5.getD x0_2.toNat 0) (bitsF BinOp.and IntKind.u64 0 (IntKind.u64.wrap (shlF IntKind.u64 1 (x0_3.tmod 64) - 1))))).length && true)) then
         g0 (x0_0 || (x0_5.set x0_2.toNat (bitsF BinOp.and IntKind.u64 (x0_5.getD x0_2.toNat 0) (bitsF BinOp.and IntKind.u64 0 (IntKind.u64.wrap (shlF IntKind.u64 1 (x0_3.tmod 64) - 1))))).getD x0_2.toNat 0 != x0_5.getD x0_2.toNat 0 : Bool) (x0_1 : Int) (IntKind.i64.wrap (x0_2 + 1) : Int) (x0_3 : Int) (x0_4 : Int) (x0_5.set x0_2.toNat (bitsF BinOp.and IntKind.u64 (x0_5.getD x0_2.toNat 0) (bitsF BinOp.and IntKind.u64 0 (IntKind.u64.wrap (shlF IntKind.u64 1 (x0_3.tmod 64) - 1)))) : List Int) (x0_6 : List Int)
        else
         none
       else
        none
      else
       none
     else
      bif inb x0_2 x0_5.length then
       bif x0_0 || Nat.beq 1 1 && (Nat.beq 1 1 && (inb x0_2 (x0_5.set x0_2.toNat (bitsF BinOp.and IntKind.u64 (x0_5.getD x0_2.toNat 0) 0)).length && true)) then
        g0 (x0_0 || (x0_5.set x0_2.toNat (bitsF BinOp.and IntKind.u64 (x0_5.getD x0_2.toNat 0) 0)).getD x0_2.toNat 0 != x0_5.getD x0_2.toNat 0 : Bool) (x0_1 : Int) (IntKind.i64.wrap (x0_2 + 1) : Int) (x0_3 : Int) (x0_4 : Int) (x0_5.set x0_2.toNat (bitsF BinOp.and IntKind.u64 (x0_5.getD x0_2.toNat 0) 0) : List Int) (x0_6 : List Int)
       else
        none
      else
       none
    else
     none
  else
   none
 else
  some (Lf.mk [(Pt.one (L.d (Pv.fz true) Sh.b (x0_0 : Bool)))] [(Ob.va [(L.d (Pv.fz true) (Sh.i IntKind.i64) (x0_3 : Int)), (L.rw (Id.mk 0 2))]), (Ob.va [(L.d (Pv.fz true) (Sh.i IntKind.i64) (x0_4 : Int)), (L.rw (Id.mk 0 3))]), (Ob.ro true 0 60 (Sh.i IntKind.u64) Ow.z (x0_5 : List Int) Option.none), (Ob.ro true 0 60 (Sh.i IntKind.u64) Ow.z (x0_6 : List Int) Option.none)] [])
noncomputable def f34aL0 (n : Nat)  : Nat → f34aG0
  | 0 => fun _ _ _ _ _ _ _ => none
  | m + 1 => fun x0_0 x0_1 x0_2 x0_3 x0_4 x0_5 x0_6 => f34aS0   (f34aL0 n  m) x0_0 x0_1 x0_2 x0_3 x0_4 x0_5 x0_6
theorem f34aS0_ev (n : Nat)  (G : St → Option Lf) (x0_0 : Bool) (x0_1 : Int) (x0_2 : Int) (x0_3 : Int) (x0_4 : Int) (x0_5 : List Int) (x0_6 : List Int) : rnd C7 f34ah n Lf (codeOf f34af) [1, 1, 1, 0, 1, 0] [] (endK C7 f34ah f34af) G (f34aH0 x0_0 x0_1 x0_2 x0_3 x0_4 x0_5 x0_6) = f34aS0   (f34aW0 G) x0_0 x0_1 x0_2 x0_3 x0_4 x0_5 x0_6 := by kernel_rfl
theorem f34aW0_ev (n : Nat)  : ∀ m, (f34aW0 (lp C7 f34ah n Lf (codeOf f34af) [1, 1, 1, 0, 1, 0] [] (endK C7 f34ah f34af) m)) = f34aL0 n  m := by
  intro m
  induction m with
  | zero => funext x0_0 x0_1 x0_2 x0_3 x0_4 x0_5 x0_6; exact lp_zero _
  | succ m ih =>
    funext x0_0 x0_1 x0_2 x0_3 x0_4 x0_5 x0_6
    show lp C7 f34ah n Lf (codeOf f34af) [1, 1, 1, 0, 1, 0] [] (endK C7 f34ah f34af) (m + 1) (f34aH0 x0_0 x0_1 x0_2 x0_3 x0_4 x0_5 x0_6) = f34aS0   (f34aL0 n  m) x0_0 x0_1 x0_2 x0_3 x0_4 x0_5 x0_6
    rw [lp_succ, f34aS0_ev, ih]
noncomputable def f34aT (l0 : f34aG0) (z : Int) (m : Int) (ws : List Int) (vs : List Int) : Option Lf :=
 l0 (false : Bool) (zn ws.length : Int) (0 : Int) (z : Int) (m : Int) (ws : List Int) (vs : List Int)
noncomputable def f34aM (n : Nat) (z : Int) (m : Int) (ws : List Int) (vs : List Int) : Option Lf := f34aT (f34aL0 n n) z m ws vs
theorem f34aT_ev (n : Nat) (z : Int) (m : Int) (ws : List Int) (vs : List Int) : evF C7 f34ah n f34af [(D.p (Pt.one (L.pv (Id.mk 0 0) 0))), (D.p (Pt.one (L.pv (Id.mk 0 1) 0))), (D.p (Pt.one (L.fn 40 [])))] [(Ob.va [(L.d (Pv.fz true) (Sh.i IntKind.i64) z), (L.rw (Id.mk 0 2))]), (Ob.va [(L.d (Pv.fz true) (Sh.i IntKind.i64) m), (L.rw (Id.mk 0 3))]), (Ob.ro true 0 60 (Sh.i IntKind.u64) Ow.z ws Option.none), (Ob.ro true 0 60 (Sh.i IntKind.u64) Ow.z vs Option.none)] = f34aT (f34aW0 (lp C7 f34ah n Lf (codeOf f34af) [1, 1, 1, 0, 1, 0] [] (endK C7 f34ah f34af) n)) z m ws vs := by kernel_rfl
theorem f34a_ev (n : Nat) (z : Int) (m : Int) (ws : List Int) (vs : List Int) : evF C7 f34ah n f34af [(D.p (Pt.one (L.pv (Id.mk 0 0) 0))), (D.p (Pt.one (L.pv (Id.mk 0 1) 0))), (D.p (Pt.one (L.fn 40 [])))] [(Ob.va [(L.d (Pv.fz true) (Sh.i IntKind.i64) z), (L.rw (Id.mk 0 2))]), (Ob.va [(L.d (Pv.fz true) (Sh.i IntKind.i64) m), (L.rw (Id.mk 0 3))]), (Ob.ro true 0 60 (Sh.i IntKind.u64) Ow.z ws Option.none), (Ob.ro true 0 60 (Sh.i IntKind.u64) Ow.z vs Option.none)] = f34aM n z m ws vs := by
  rw [f34aT_ev, f34aW0_ev]
  rfl

abbrev f34kh : Hn := h34
noncomputable abbrev f34kf : Func := fn 34
noncomputable def f34kT  (g : Nat) : Option Lf :=
 some (Lf.mk [(Pt.one (L.d (Pv.fz true) Sh.b (false : Bool)))] [] [])
noncomputable def f34kM (_ : Nat) (g : Nat) : Option Lf := f34kT  g
theorem f34kT_ev (n : Nat) (g : Nat) : evF C7 f34kh n f34kf [(D.p (Pt.one L.np)), (D.p (Pt.one L.np)), (D.p (Pt.one (L.fn (g) [])))] [] = f34kT  g := by kernel_rfl
theorem f34k_ev (n : Nat) (g : Nat) : evF C7 f34kh n f34kf [(D.p (Pt.one L.np)), (D.p (Pt.one L.np)), (D.p (Pt.one (L.fn (g) [])))] [] = f34kM n g := by
  rw [f34kT_ev]
  rfl
end Go.S1
