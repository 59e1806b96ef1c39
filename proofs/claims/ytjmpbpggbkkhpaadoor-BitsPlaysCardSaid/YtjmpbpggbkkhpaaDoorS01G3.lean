/-
  Seat 01: functional forms of Add, Del and Items.
-/
import Derived.Test.YtjmpbpggbkkhpaaDoorS01C
open Go Go.En Go.S1
namespace Go.S1
noncomputable def l3 : List (Nat × En.Spec) := (15, hasS) :: (12, nextS) :: l2
noncomputable def C3 : Ctx := ctxOf C0 l3
def h11 : Hn := ⟨fun | 3 => [0, 3, 4, 5] | _ => [], fun | 3 => [⟨3, none, 3, .z⟩] | 1000000 => [⟨2, none, 3, .z⟩] | _ => [], fun _ => false⟩

abbrev f10h : Hn := hn0
noncomputable abbrev f10f : Func := fn 10
noncomputable def f10T  (z : Int) (ws : List Int) (i : Int) : Option Lf :=
 bif !inF z i then
  some (Lf.mk [(Pt.one (L.d (Pv.fz true) Sh.b (false : Bool)))] [(Ob.va [(L.d (Pv.fz true) (Sh.i IntKind.i64) (z : Int)), (L.rw (Id.mk 0 1))]), (Ob.ro true 0 60 (Sh.i IntKind.u64) Ow.z (ws : List Int) Option.none)] [])
 else
  bif okS z ws then
   bif hasF z ws i then
    some (Lf.mk [(Pt.one (L.d (Pv.fz true) Sh.b (false : Bool)))] [(Ob.va [(L.d (Pv.fz true) (Sh.i IntKind.i64) (z : Int)), (L.rw (Id.mk 0 1))]), (Ob.ro true 0 60 (Sh.i IntKind.u64) Ow.z (ws : List Int) Option.none)] [])
   else
    bif inb (IntKind.i64.wrap (i.tdiv 64)) ws.length then
     bif decide (0 ≤ i.tmod 64) then
      bif inb (IntKind.i64.wrap (i.tdiv 64)) ws.length then
       some (Lf.mk [(Pt.one (L.d (Pv.fz true) Sh.b (true : Bool)))] [(Ob.va [(L.d (Pv.fz true) (Sh.i IntKind.i64) (z : Int)), (L.rw (Id.mk 0 1))]), (Ob.ro true 0 60 (Sh.i IntKind.u64) Ow.z (ws.set (IntKind.i64.wrap (i.tdiv 64)).toNat (bitsF BinOp.or IntKind.u64 (ws.getD (IntKind.i64.wrap (i.tdiv 64)).toNat 0) (shlF IntKind.u64 1 (i.tmod 64))) : List Int) Option.none)] [])
      else
       none
     else
      none
    else
     none
  else
   none
noncomputable def f10M (_ : Nat) (z : Int) (ws : List Int) (i : Int) : Option Lf := f10T  z ws i
theorem f10T_ev (n : Nat) (z : Int) (ws : List Int) (i : Int) : evF C3 f10h n f10f [(D.p (Pt.one (L.pv (Id.mk 0 0) 0))), (D.p (Pt.one (L.d (Pv.fz true) (Sh.i IntKind.i64) i)))] [(Ob.va [(L.d (Pv.fz true) (Sh.i IntKind.i64) z), (L.rw (Id.mk 0 1))]), (Ob.ro true 0 60 (Sh.i IntKind.u64) Ow.z ws Option.none)] = f10T  z ws i := by kernel_rfl
theorem f10_ev (n : Nat) (z : Int) (ws : List Int) (i : Int) : evF C3 f10h n f10f [(D.p (Pt.one (L.pv (Id.mk 0 0) 0))), (D.p (Pt.one (L.d (Pv.fz true) (Sh.i IntKind.i64) i)))] [(Ob.va [(L.d (Pv.fz true) (Sh.i IntKind.i64) z), (L.rw (Id.mk 0 1))]), (Ob.ro true 0 60 (Sh.i IntKind.u64) Ow.z ws Option.none)] = f10M n z ws i := by
  rw [f10T_ev]
  rfl

abbrev f10nh : Hn := hn0
noncomputable abbrev f10nf : Func := fn 10
noncomputable def f10nT  (i : Int) : Option Lf :=
 some (Lf.mk [(Pt.one (L.d (Pv.fz true) Sh.b (false : Bool)))] [] [])
noncomputable def f10nM (_ : Nat) (i : Int) : Option Lf := f10nT  i
theorem f10nT_ev (n : Nat) (i : Int) : evF C3 f10nh n f10nf [(D.p (Pt.one L.np)), (D.p (Pt.one (L.d (Pv.fz true) (Sh.i IntKind.i64) i)))] [] = f10nT  i := by kernel_rfl
theorem f10n_ev (n : Nat) (i : Int) : evF C3 f10nh n f10nf [(D.p (Pt.one L.np)), (D.p (Pt.one (L.d (Pv.fz true) (Sh.i IntKind.i64) i)))] [] = f10nM n i := by
  rw [f10nT_ev]
  rfl

abbrev f28h : Hn := hn0
noncomputable abbrev f28f : Func := fn 28
noncomputable def f28T  (z : Int) (ws : List Int) (i : Int) : Option Lf :=
 bif okS z ws then
  bif !hasF z ws i then
   some (Lf.mk [(Pt.one (L.d (Pv.fz true) Sh.b (false : Bool)))] [(Ob.va [(L.d (Pv.fz true) (Sh.i IntKind.i64) (z : Int)), (L.rw (Id.mk 0 1))]), (Ob.ro true 0 60 (Sh.i IntKind.u64) Ow.z (ws : List Int) Option.none)] [])
  else
   bif inb (IntKind.i64.wrap (i.tdiv 64)) ws.length then
    bif decide (0 ≤ i.tmod 64) then
     bif inb (IntKind.i64.wrap (i.tdiv 64)) ws.length then
      some (Lf.mk [(Pt.one (L.d (Pv.fz true) Sh.b (true : Bool)))] [(Ob.va [(L.d (Pv.fz true) (Sh.i IntKind.i64) (z : Int)), (L.rw (Id.mk 0 1))]), (Ob.ro true 0 60 (Sh.i IntKind.u64) Ow.z (ws.set (IntKind.i64.wrap (i.tdiv 64)).toNat (bitsF BinOp.andNot IntKind.u64 (ws.getD (IntKind.i64.wrap (i.tdiv 64)).toNat 0) (shlF IntKind.u64 1 (i.tmod 64))) : List Int) Option.none)] [])
     else
      none
    else
     none
   else
    none
 else
  none
noncomputable def f28M (_ : Nat) (z : Int) (ws : List Int) (i : Int) : Option Lf := f28T  z ws i
theorem f28T_ev (n : Nat) (z : Int) (ws : List Int) (i : Int) : evF C3 f28h n f28f [(D.p (Pt.one (L.pv (Id.mk 0 0) 0))), (D.p (Pt.one (L.d (Pv.fz true) (Sh.i IntKind.i64) i)))] [(Ob.va [(L.d (Pv.fz true) (Sh.i IntKind.i64) z), (L.rw (Id.mk 0 1))]), (Ob.ro true 0 60 (Sh.i IntKind.u64) Ow.z ws Option.none)] = f28T  z ws i := by kernel_rfl
theorem f28_ev (n : Nat) (z : Int) (ws : List Int) (i : Int) : evF C3 f28h n f28f [(D.p (Pt.one (L.pv (Id.mk 0 0) 0))), (D.p (Pt.one (L.d (Pv.fz true) (Sh.i IntKind.i64) i)))] [(Ob.va [(L.d (Pv.fz true) (Sh.i IntKind.i64) z), (L.rw (Id.mk 0 1))]), (Ob.ro true 0 60 (Sh.i IntKind.u64) Ow.z ws Option.none)] = f28M n z ws i := by
  rw [f28T_ev]
  rfl

abbrev f28nh : Hn := hn0
noncomputable abbrev f28nf : Func := fn 28
noncomputable def f28nT  (i : Int) : Option Lf :=
 some (Lf.mk [(Pt.one (L.d (Pv.fz true) Sh.b (false : Bool)))] [] [])
noncomputable def f28nM (_ : Nat) (i : Int) : Option Lf := f28nT  i
theorem f28nT_ev (n : Nat) (i : Int) : evF C3 f28nh n f28nf [(D.p (Pt.one L.np)), (D.p (Pt.one (L.d (Pv.fz true) (Sh.i IntKind.i64) i)))] [] = f28nT  i := by kernel_rfl
theorem f28n_ev (n : Nat) (i : Int) : evF C3 f28nh n f28nf [(D.p (Pt.one L.np)), (D.p (Pt.one (L.d (Pv.fz true) (Sh.i IntKind.i64) i)))] [] = f28nM n i := by
  rw [f28nT_ev]
  rfl

abbrev f11h : Hn := h11
noncomputable abbrev f11f : Func := fn 11
abbrev f11G0 := Int → Bool → Int → (List Int) → (List Int) → Option Lf
noncomputable def f11H0 (x0_0 : Int) (x0_1 : Bool) (x0_2 : Int) (x0_3 : List Int) (x0_4 : List Int) : St := (St.mk [(D.p (Pt.one (L.pv (Id.mk 0 0) 0))), dead, dead, (D.p (Pt.one (L.rw (Id.mk 1 0)))), (D.p (Pt.one (L.d (Pv.fz true) (Sh.i IntKind.i64) x0_0))), (D.p (Pt.one (L.d (Pv.fz true) Sh.b x0_1))), dead, dead, dead, dead, dead, dead, dead, dead, dead, dead, dead, dead, dead, dead, dead, dead, dead, dead] [[(Ob.va [(L.d (Pv.fz true) (Sh.i IntKind.i64) x0_2), (L.rw (Id.mk 0 1))]), (Ob.ro true 0 60 (Sh.i IntKind.u64) Ow.z x0_3 Option.none)], [(Ob.ro true 0 3 (Sh.i IntKind.i64) Ow.z x0_4 Option.none)]])
noncomputable def f11W0 (G : St → Option Lf) : f11G0 := fun x0_0 x0_1 x0_2 x0_3 x0_4 => G (f11H0 x0_0 x0_1 x0_2 x0_3 x0_4)
noncomputable def f11S0  (g0 : f11G0) (x0_0 : Int) (x0_1 : Bool) (x0_2 : Int) (x0_3 : List Int) (x0_4 : List Int) : Option Lf :=
 bif x0_1 then
  bif decide ((x0_4.length + [x0_0].length) * 8 ≤ 140737488355328) then
   bif okS x0_2 x0_3 then
    g0 ((nextF x0_2 x0_3 (IntKind.i64.wrap (x0_0 + 1))).fst : Int) ((nextF x0_2 x0_3 (IntKind.i64.wrap (x0_0 + 1))).snd : Bool) (x0_2 : Int) (x0_3 : List Int) (x0_4 ++ [x0_0] : List Int)
   else
    none
  else
   none
 else
  some (Lf.mk [(Pt.one (L.rw (Id.mk 1 0)))] [(Ob.va [(L.d (Pv.fz true) (Sh.i IntKind.i64) (x0_2 : Int)), (L.rw (Id.mk 0 1))]), (Ob.ro true 0 60 (Sh.i IntKind.u64) Ow.z (x0_3 : List Int) Option.none)] [(Ob.ro true 0 3 (Sh.i IntKind.i64) Ow.z (x0_4 : List Int) Option.none)])
noncomputable def f11L0 (n : Nat)  : Nat → f11G0
  | 0 => fun _ _ _ _ _ => none
  | m + 1 => fun x0_0 x0_1 x0_2 x0_3 x0_4 => f11S0   (f11L0 n  m) x0_0 x0_1 x0_2 x0_3 x0_4
theorem f11S0_ev (n : Nat)  (G : St → Option Lf) (x0_0 : Int) (x0_1 : Bool) (x0_2 : Int) (x0_3 : List Int) (x0_4 : List Int) : rnd C3 f11h n Lf (codeOf f11f) [1, 1, 0, 1, 0] [] (endK C3 f11h f11f) G (f11H0 x0_0 x0_1 x0_2 x0_3 x0_4) = f11S0   (f11W0 G) x0_0 x0_1 x0_2 x0_3 x0_4 := by kernel_rfl
theorem f11W0_ev (n : Nat)  : ∀ m, (f11W0 (lp C3 f11h n Lf (codeOf f11f) [1, 1, 0, 1, 0] [] (endK C3 f11h f11f) m)) = f11L0 n  m := by
  intro m
  induction m with
  | zero => funext x0_0 x0_1 x0_2 x0_3 x0_4; exact lp_zero _
  | succ m ih =>
    funext x0_0 x0_1 x0_2 x0_3 x0_4
    show lp C3 f11h n Lf (codeOf f11f) [1, 1, 0, 1, 0] [] (endK C3 f11h f11f) (m + 1) (f11H0 x0_0 x0_1 x0_2 x0_3 x0_4) = f11S0   (f11L0 n  m) x0_0 x0_1 x0_2 x0_3 x0_4
    rw [lp_succ, f11S0_ev, ih]
noncomputable def f11T (l0 : f11G0) (z : Int) (ws : List Int) : Option Lf :=
 bif okS z ws then
  l0 ((nextF z ws 0).fst : Int) ((nextF z ws 0).snd : Bool) (z : Int) (ws : List Int) ([] : List Int)
 else
  none
noncomputable def f11M (n : Nat) (z : Int) (ws : List Int) : Option Lf := f11T (f11L0 n n) z ws
theorem f11T_ev (n : Nat) (z : Int) (ws : List Int) : evF C3 f11h n f11f [(D.p (Pt.one (L.pv (Id.mk 0 0) 0)))] [(Ob.va [(L.d (Pv.fz true) (Sh.i IntKind.i64) z), (L.rw (Id.mk 0 1))]), (Ob.ro true 0 60 (Sh.i IntKind.u64) Ow.z ws Option.none)] = f11T (f11W0 (lp C3 f11h n Lf (codeOf f11f) [1, 1, 0, 1, 0] [] (endK C3 f11h f11f) n)) z ws := by kernel_rfl
theorem f11_ev (n : Nat) (z : Int) (ws : List Int) : evF C3 f11h n f11f [(D.p (Pt.one (L.pv (Id.mk 0 0) 0)))] [(Ob.va [(L.d (Pv.fz true) (Sh.i IntKind.i64) z), (L.rw (Id.mk 0 1))]), (Ob.ro true 0 60 (Sh.i IntKind.u64) Ow.z ws Option.none)] = f11M n z ws := by
  rw [f11T_ev, f11W0_ev]
  rfl

abbrev f11nh : Hn := h11
noncomputable abbrev f11nf : Func := fn 11
abbrev f11nG0 := Int → Bool → (List Int) → Option Lf
noncomputable def f11nH0 (x0_0 : Int) (x0_1 : Bool) (x0_2 : List Int) : St := (St.mk [(D.p (Pt.one L.np)), dead, dead, (D.p (Pt.one (L.rw (Id.mk 1 0)))), (D.p (Pt.one (L.d (Pv.fz true) (Sh.i IntKind.i64) x0_0))), (D.p (Pt.one (L.d (Pv.fz true) Sh.b x0_1))), dead, dead, dead, dead, dead, dead, dead, dead, dead, dead, dead, dead, dead, dead, dead, dead, dead, dead] [[], [(Ob.ro true 0 3 (Sh.i IntKind.i64) Ow.z x0_2 Option.none)]])
noncomputable def f11nW0 (G : St → Option Lf) : f11nG0 := fun x0_0 x0_1 x0_2 => G (f11nH0 x0_0 x0_1 x0_2)
noncomputable def f11nS0  (g0 : f11nG0) (x0_0 : Int) (x0_1 : Bool) (x0_2 : List Int) : Option Lf :=
 bif x0_1 then
  bif decide ((x0_2.length + [x0_0].length) * 8 ≤ 140737488355328) then
   g0 (0 : Int) (false : Bool) (x0_2 ++ [x0_0] : List Int)
  else
   none
 else
  some (Lf.mk [(Pt.one (L.rw (Id.mk 1 0)))] [] [(Ob.ro true 0 3 (Sh.i IntKind.i64) Ow.z (x0_2 : List Int) Option.none)])
noncomputable def f11nL0 (n : Nat)  : Nat → f11nG0
  | 0 => fun _ _ _ => none
  | m + 1 => fun x0_0 x0_1 x0_2 => f11nS0   (f11nL0 n  m) x0_0 x0_1 x0_2
theorem f11nS0_ev (n : Nat)  (G : St → Option Lf) (x0_0 : Int) (x0_1 : Bool) (x0_2 : List Int) : rnd C3 f11nh n Lf (codeOf f11nf) [1, 1, 0, 1, 0] [] (endK C3 f11nh f11nf) G (f11nH0 x0_0 x0_1 x0_2) = f11nS0   (f11nW0 G) x0_0 x0_1 x0_2 := by kernel_rfl
theorem f11nW0_ev (n : Nat)  : ∀ m, (f11nW0 (lp C3 f11nh n Lf (codeOf f11nf) [1, 1, 0, 1, 0] [] (endK C3 f11nh f11nf) m)) = f11nL0 n  m := by
  intro m
  induction m with
  | zero => funext x0_0 x0_1 x0_2; exact lp_zero _
  | succ m ih =>
    funext x0_0 x0_1 x0_2
    show lp C3 f11nh n Lf (codeOf f11nf) [1, 1, 0, 1, 0] [] (endK C3 f11nh f11nf) (m + 1) (f11nH0 x0_0 x0_1 x0_2) = f11nS0   (f11nL0 n  m) x0_0 x0_1 x0_2
    rw [lp_succ, f11nS0_ev, ih]
noncomputable def f11nT (l0 : f11nG0)  : Option Lf :=
 l0 (0 : Int) (false : Bool) ([] : List Int)
noncomputable def f11nM (n : Nat)  : Option Lf := f11nT (f11nL0 n n) 
theorem f11nT_ev (n : Nat)  : evF C3 f11nh n f11nf [(D.p (Pt.one L.np))] [] = f11nT (f11nW0 (lp C3 f11nh n Lf (codeOf f11nf) [1, 1, 0, 1, 0] [] (endK C3 f11nh f11nf) n))  := by kernel_rfl
theorem f11n_ev (n : Nat)  : evF C3 f11nh n f11nf [(D.p (Pt.one L.np))] [] = f11nM n  := by
  rw [f11nT_ev, f11nW0_ev]
  rfl
end Go.S1
