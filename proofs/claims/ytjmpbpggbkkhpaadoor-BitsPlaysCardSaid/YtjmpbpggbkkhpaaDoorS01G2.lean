/-
  Seat 01: functional forms of Has and Next.
-/
import Derived.Test.YtjmpbpggbkkhpaaDoorS01B
open Go Go.En Go.S1
namespace Go.S1
noncomputable def l2 : List (Nat × En.Spec) := [(32, inS), (16, sizeS), (9, newS), (20, np1 [pI 0]), (31, np1 [.one .np]), (18, np2 [pB true]), (33, tzS)]
noncomputable def C2 : Ctx := ctxOf C0 l2
def h12 : Hn := ⟨fun | 6 => [0, 6, 7] | _ => [], fun _ => [], fun _ => false⟩

abbrev f15h : Hn := hn0
noncomputable abbrev f15f : Func := fn 15
noncomputable def f15T  (z : Int) (ws : List Int) (i : Int) : Option Lf :=
 bif inF z i then
  bif inb (IntKind.i64.wrap (i.tdiv 64)) ws.length then
   bif decide (0 ≤ i.tmod 64) then
    some (Lf.mk [(Pt.one (L.d (Pv.fz true) Sh.b (bitsF BinOp.and IntKind.u64 (shrF IntKind.u64 (ws.getD (IntKind.i64.wrap (i.tdiv 64)).toNat 0) (i.tmod 64)) 1 == 1 : Bool)))] [(Ob.va [(L.d (Pv.fz true) (Sh.i IntKind.i64) (z : Int)), (L.rw (Id.mk 0 1))]), (Ob.ro true 0 60 (Sh.i IntKind.u64) Ow.z (ws : List Int) Option.none)] [])
   else
    none
  else
   none
 else
  some (Lf.mk [(Pt.one (L.d (Pv.fz true) Sh.b (false : Bool)))] [(Ob.va [(L.d (Pv.fz true) (Sh.i IntKind.i64) (z : Int)), (L.rw (Id.mk 0 1))]), (Ob.ro true 0 60 (Sh.i IntKind.u64) Ow.z (ws : List Int) Option.none)] [])
noncomputable def f15M (_ : Nat) (z : Int) (ws : List Int) (i : Int) : Option Lf := f15T  z ws i
theorem f15T_ev (n : Nat) (z : Int) (ws : List Int) (i : Int) : evF C2 f15h n f15f [(D.p (Pt.one (L.pv (Id.mk 0 0) 0))), (D.p (Pt.one (L.d (Pv.fz true) (Sh.i IntKind.i64) i)))] [(Ob.va [(L.d (Pv.fz true) (Sh.i IntKind.i64) z), (L.rw (Id.mk 0 1))]), (Ob.ro true 0 60 (Sh.i IntKind.u64) Ow.z ws Option.none)] = f15T  z ws i := by kernel_rfl
theorem f15_ev (n : Nat) (z : Int) (ws : List Int) (i : Int) : evF C2 f15h n f15f [(D.p (Pt.one (L.pv (Id.mk 0 0) 0))), (D.p (Pt.one (L.d (Pv.fz true) (Sh.i IntKind.i64) i)))] [(Ob.va [(L.d (Pv.fz true) (Sh.i IntKind.i64) z), (L.rw (Id.mk 0 1))]), (Ob.ro true 0 60 (Sh.i IntKind.u64) Ow.z ws Option.none)] = f15M n z ws i := by
  rw [f15T_ev]
  rfl

abbrev f15nh : Hn := hn0
noncomputable abbrev f15nf : Func := fn 15
noncomputable def f15nT  (i : Int) : Option Lf :=
 some (Lf.mk [(Pt.one (L.d (Pv.fz true) Sh.b (false : Bool)))] [] [])
noncomputable def f15nM (_ : Nat) (i : Int) : Option Lf := f15nT  i
theorem f15nT_ev (n : Nat) (i : Int) : evF C2 f15nh n f15nf [(D.p (Pt.one L.np)), (D.p (Pt.one (L.d (Pv.fz true) (Sh.i IntKind.i64) i)))] [] = f15nT  i := by kernel_rfl
theorem f15n_ev (n : Nat) (i : Int) : evF C2 f15nh n f15nf [(D.p (Pt.one L.np)), (D.p (Pt.one (L.d (Pv.fz true) (Sh.i IntKind.i64) i)))] [] = f15nM n i := by
  rw [f15nT_ev]
  rfl

abbrev f12h : Hn := h12
noncomputable abbrev f12f : Func := fn 12
abbrev f12G0 := Int → Int → Int → (List Int) → Option Lf
noncomputable def f12H0 (x0_0 : Int) (x0_1 : Int) (x0_2 : Int) (x0_3 : List Int) : St := (St.mk [(D.p (Pt.one (L.pv (Id.mk 0 0) 0))), dead, dead, dead, dead, dead, (D.p (Pt.one (L.d (Pv.fz true) (Sh.i IntKind.i64) x0_0))), (D.p (Pt.one (L.d (Pv.fz true) (Sh.i IntKind.u64) x0_1))), dead, dead, dead, dead, dead, dead, dead, dead, dead, dead, dead, dead, dead, dead, dead, dead, dead, dead, dead, dead, dead, dead, dead, dead, dead, dead, dead, dead, dead, dead, dead, dead, dead, dead, dead, dead, dead, dead, dead, dead, dead, dead, dead, dead] [[(Ob.va [(L.d (Pv.fz true) (Sh.i IntKind.i64) x0_2), (L.rw (Id.mk 0 1))]), (Ob.ro true 0 60 (Sh.i IntKind.u64) Ow.z x0_3 Option.none)], []])
noncomputable def f12W0 (G : St → Option Lf) : f12G0 := fun x0_0 x0_1 x0_2 x0_3 => G (f12H0 x0_0 x0_1 x0_2 x0_3)
noncomputable def f12S0  (g0 : f12G0) (x0_0 : Int) (x0_1 : Int) (x0_2 : Int) (x0_3 : List Int) : Option Lf :=
 bif x0_1 == 0 then
  bif IntKind.i64.wrap (x0_0 + 1) == zn x0_3.length then
   some (Lf.mk [(Pt.one (L.d (Pv.fz true) (Sh.i IntKind.i64) (0 : Int))), (Pt.one (L.d (Pv.fz true) Sh.b (false : Bool)))] [(Ob.va [(L.d (Pv.fz true) (Sh.i IntKind.i64) (x0_2 : Int)), (L.rw (Id.mk 0 1))]), (Ob.ro true 0 60 (Sh.i IntKind.u64) Ow.z (x0_3 : List Int) Option.none)] [])
  else
   bif inb (IntKind.i64.wrap (x0_0 + 1)) x0_3.length then
    g0 (IntKind.i64.wrap (x0_0 + 1) : Int) (x0_3.getD (IntKind.i64.wrap (x0_0 + 1)).toNat 0 : Int) (x0_2 : Int) (x0_3 : List Int)
   else
    none
 else
  bif decide (0 ≤ x0_1) && decide (x0_1 < 18446744073709551616) then
   some (Lf.mk [(Pt.one (L.d (Pv.fz true) (Sh.i IntKind.i64) (IntKind.i64.wrap (IntKind.i64.wrap (x0_0 * 64) + zn (Lib.ctz 64 x0_1.toNat)) : Int))), (Pt.one (L.d (Pv.fz true) Sh.b (true : Bool)))] [(Ob.va [(L.d (Pv.fz true) (Sh.i IntKind.i64) (x0_2 : Int)), (L.rw (Id.mk 0 1))]), (Ob.ro true 0 60 (Sh.i IntKind.u64) Ow.z (x0_3 : List Int) Option.none)] [])
  else
   none
noncomputable def f12L0 (n : Nat)  : Nat → f12G0
  | 0 => fun _ _ _ _ => none
  | m + 1 => fun x0_0 x0_1 x0_2 x0_3 => f12S0   (f12L0 n  m) x0_0 x0_1 x0_2 x0_3
theorem f12S0_ev (n : Nat)  (G : St → Option Lf) (x0_0 : Int) (x0_1 : Int) (x0_2 : Int) (x0_3 : List Int) : rnd C2 f12h n Lf (codeOf f12f) [1, 1, 1, 1, 1, 0, 0] [] (endK C2 f12h f12f) G (f12H0 x0_0 x0_1 x0_2 x0_3) = f12S0   (f12W0 G) x0_0 x0_1 x0_2 x0_3 := by kernel_rfl
theorem f12W0_ev (n : Nat)  : ∀ m, (f12W0 (lp C2 f12h n Lf (codeOf f12f) [1, 1, 1, 1, 1, 0, 0] [] (endK C2 f12h f12f) m)) = f12L0 n  m := by
  intro m
  induction m with
  | zero => funext x0_0 x0_1 x0_2 x0_3; exact lp_zero _
  | succ m ih =>
    funext x0_0 x0_1 x0_2 x0_3
    show lp C2 f12h n Lf (codeOf f12f) [1, 1, 1, 1, 1, 0, 0] [] (endK C2 f12h f12f) (m + 1) (f12H0 x0_0 x0_1 x0_2 x0_3) = f12S0   (f12L0 n  m) x0_0 x0_1 x0_2 x0_3
    rw [lp_succ, f12S0_ev, ih]
noncomputable def f12T (l0 : f12G0) (z : Int) (ws : List Int) (i : Int) : Option Lf :=
 bif !inF z (if 0 > i then 0 else i) then
  some (Lf.mk [(Pt.one (L.d (Pv.fz true) (Sh.i IntKind.i64) (0 : Int))), (Pt.one (L.d (Pv.fz true) Sh.b (false : Bool)))] [(Ob.va [(L.d (Pv.fz true) (Sh.i IntKind.i64) (z : Int)), (L.rw (Id.mk 0 1))]), (Ob.ro true 0 60 (Sh.i IntKind.u64) Ow.z (ws : List Int) Option.none)] [])
 else
  bif inb (IntKind.i64.wrap ((if 0 > i then 0 else i).tdiv 64)) ws.length then
   bif decide (0 ≤ (if 0 > i then 0 else i).tmod 64) then
    bif decide (0 ≤ (if 0 > i then 0 else i).tmod 64) then
     l0 (IntKind.i64.wrap ((if 0 > i then 0 else i).tdiv 64) : Int) (shlF IntKind.u64 (shrF IntKind.u64 (ws.getD (IntKind.i64.wrap ((if 0 > i then 0 else i).tdiv 64)).toNat 0) ((if 0 > i then 0 else i).tmod 64)) ((if 0 > i then 0 else i).tmod 64) : Int) (z : Int) (ws : List Int)
    else
     none
   else
    none
  else
   none
noncomputable def f12M (n : Nat) (z : Int) (ws : List Int) (i : Int) : Option Lf := f12T (f12L0 n n) z ws i
theorem f12T_ev (n : Nat) (z : Int) (ws : List Int) (i : Int) : evF C2 f12h n f12f [(D.p (Pt.one (L.pv (Id.mk 0 0) 0))), (D.p (Pt.one (L.d (Pv.fz true) (Sh.i IntKind.i64) i)))] [(Ob.va [(L.d (Pv.fz true) (Sh.i IntKind.i64) z), (L.rw (Id.mk 0 1))]), (Ob.ro true 0 60 (Sh.i IntKind.u64) Ow.z ws Option.none)] = f12T (f12W0 (lp C2 f12h n Lf (codeOf f12f) [1, 1, 1, 1, 1, 0, 0] [] (endK C2 f12h f12f) n)) z ws i := by kernel_rfl
theorem f12_ev (n : Nat) (z : Int) (ws : List Int) (i : Int) : evF C2 f12h n f12f [(D.p (Pt.one (L.pv (Id.mk 0 0) 0))), (D.p (Pt.one (L.d (Pv.fz true) (Sh.i IntKind.i64) i)))] [(Ob.va [(L.d (Pv.fz true) (Sh.i IntKind.i64) z), (L.rw (Id.mk 0 1))]), (Ob.ro true 0 60 (Sh.i IntKind.u64) Ow.z ws Option.none)] = f12M n z ws i := by
  rw [f12T_ev, f12W0_ev]
  rfl

abbrev f12nh : Hn := h12
noncomputable abbrev f12nf : Func := fn 12
noncomputable def f12nT  (i : Int) : Option Lf :=
 some (Lf.mk [(Pt.one (L.d (Pv.fz true) (Sh.i IntKind.i64) (0 : Int))), (Pt.one (L.d (Pv.fz true) Sh.b (false : Bool)))] [] [])
noncomputable def f12nM (_ : Nat) (i : Int) : Option Lf := f12nT  i
theorem f12nT_ev (n : Nat) (i : Int) : evF C2 f12nh n f12nf [(D.p (Pt.one L.np)), (D.p (Pt.one (L.d (Pv.fz true) (Sh.i IntKind.i64) i)))] [] = f12nT  i := by kernel_rfl
theorem f12n_ev (n : Nat) (i : Int) : evF C2 f12nh n f12nf [(D.p (Pt.one L.np)), (D.p (Pt.one (L.d (Pv.fz true) (Sh.i IntKind.i64) i)))] [] = f12nM n i := by
  rw [f12nT_ev]
  rfl
end Go.S1
