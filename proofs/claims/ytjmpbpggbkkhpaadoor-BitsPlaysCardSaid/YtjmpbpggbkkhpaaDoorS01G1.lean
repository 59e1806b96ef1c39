/-
  Seat 01: functional forms.
-/
import Derived.Test.YtjmpbpggbkkhpaaDoorS01A
open Go Go.En Go.S1
namespace Go.S1
noncomputable def C1 : Ctx := ctxOf C0 []
def h16 : Hn := hn0

abbrev f32h : Hn := hn0
noncomputable abbrev f32f : Func := fn 32
noncomputable def f32T  (z : Int) (ws : List Int) (i : Int) : Option Lf :=
 bif decide (i ≥ 0) || true then
  some (Lf.mk [(Pt.one (L.d (Pv.fz true) Sh.b (decide (i ≥ 0) && decide (i < z) : Bool)))] [(Ob.va [(L.d (Pv.fz true) (Sh.i IntKind.i64) (z : Int)), (L.rw (Id.mk 0 1))]), (Ob.ro true 0 60 (Sh.i IntKind.u64) Ow.z (ws : List Int) Option.none)] [])
 else
  none
noncomputable def f32M (_ : Nat) (z : Int) (ws : List Int) (i : Int) : Option Lf := f32T  z ws i
theorem f32T_ev (n : Nat) (z : Int) (ws : List Int) (i : Int) : evF C1 f32h n f32f [(D.p (Pt.one (L.pv (Id.mk 0 0) 0))), (D.p (Pt.one (L.d (Pv.fz true) (Sh.i IntKind.i64) i)))] [(Ob.va [(L.d (Pv.fz true) (Sh.i IntKind.i64) z), (L.rw (Id.mk 0 1))]), (Ob.ro true 0 60 (Sh.i IntKind.u64) Ow.z ws Option.none)] = f32T  z ws i := by kernel_rfl
theorem f32_ev (n : Nat) (z : Int) (ws : List Int) (i : Int) : evF C1 f32h n f32f [(D.p (Pt.one (L.pv (Id.mk 0 0) 0))), (D.p (Pt.one (L.d (Pv.fz true) (Sh.i IntKind.i64) i)))] [(Ob.va [(L.d (Pv.fz true) (Sh.i IntKind.i64) z), (L.rw (Id.mk 0 1))]), (Ob.ro true 0 60 (Sh.i IntKind.u64) Ow.z ws Option.none)] = f32M n z ws i := by
  rw [f32T_ev]
  rfl

abbrev f32nh : Hn := hn0
noncomputable abbrev f32nf : Func := fn 32
noncomputable def f32nT  (i : Int) : Option Lf :=
 some (Lf.mk [(Pt.one (L.d (Pv.fz true) Sh.b (false : Bool)))] [] [])
noncomputable def f32nM (_ : Nat) (i : Int) : Option Lf := f32nT  i
theorem f32nT_ev (n : Nat) (i : Int) : evF C1 f32nh n f32nf [(D.p (Pt.one L.np)), (D.p (Pt.one (L.d (Pv.fz true) (Sh.i IntKind.i64) i)))] [] = f32nT  i := by kernel_rfl
theorem f32n_ev (n : Nat) (i : Int) : evF C1 f32nh n f32nf [(D.p (Pt.one L.np)), (D.p (Pt.one (L.d (Pv.fz true) (Sh.i IntKind.i64) i)))] [] = f32nM n i := by
  rw [f32nT_ev]
  rfl

abbrev f9h : Hn := hn0
noncomputable abbrev f9f : Func := fn 9
noncomputable def f9T  (z : Int) : Option Lf :=
 bif decide (z < 0) || decide (z > 4096) then
  some (Lf.mk [(Pt.one L.np), (Pt.one (L.d (Pv.fz true) Sh.e (Er.no 1 : Er)))] [] [])
 else
  bif decide (0 ≤ IntKind.i64.wrap ((IntKind.i64.wrap (IntKind.i64.wrap (z + 64) - 1)).tdiv 64)) && (decide (IntKind.i64.wrap ((IntKind.i64.wrap (IntKind.i64.wrap (z + 64) - 1)).tdiv 64) ≤ IntKind.i64.wrap ((IntKind.i64.wrap (IntKind.i64.wrap (z + 64) - 1)).tdiv 64)) && decide (8 * (IntKind.i64.wrap ((IntKind.i64.wrap (IntKind.i64.wrap (z + 64) - 1)).tdiv 64)).toNat ≤ 140737488355328)) then
   some (Lf.mk [(Pt.one (L.pv (Id.mk 1 0) 0)), (Pt.one (L.d (Pv.fz true) Sh.e (Er.nil : Er)))] [] [(Ob.va [(L.d (Pv.fz true) (Sh.i IntKind.i64) (z : Int)), (L.rw (Id.mk 1 1))]), (Ob.ro true 0 60 (Sh.i IntKind.u64) Ow.z (List.replicate (IntKind.i64.wrap ((IntKind.i64.wrap (IntKind.i64.wrap (z + 64) - 1)).tdiv 64)).toNat 0 : List Int) Option.none)])
  else
   none
noncomputable def f9M (_ : Nat) (z : Int) : Option Lf := f9T  z
theorem f9T_ev (n : Nat) (z : Int) : evF C1 f9h n f9f [(D.p (Pt.one (L.d (Pv.fz true) (Sh.i IntKind.i64) z)))] [] = f9T  z := by kernel_rfl
theorem f9_ev (n : Nat) (z : Int) : evF C1 f9h n f9f [(D.p (Pt.one (L.d (Pv.fz true) (Sh.i IntKind.i64) z)))] [] = f9M n z := by
  rw [f9T_ev]
  rfl

abbrev f16h : Hn := hn0
noncomputable abbrev f16f : Func := fn 16
noncomputable def f16T  (z : Int) (ws : List Int) : Option Lf :=
 some (Lf.mk [(Pt.one (L.d (Pv.fz true) (Sh.i IntKind.i64) (z : Int)))] [(Ob.va [(L.d (Pv.fz true) (Sh.i IntKind.i64) (z : Int)), (L.rw (Id.mk 0 1))]), (Ob.ro true 0 60 (Sh.i IntKind.u64) Ow.z (ws : List Int) Option.none)] [])
noncomputable def f16M (_ : Nat) (z : Int) (ws : List Int) : Option Lf := f16T  z ws
theorem f16T_ev (n : Nat) (z : Int) (ws : List Int) : evF C1 f16h n f16f [(D.p (Pt.one (L.pv (Id.mk 0 0) 0)))] [(Ob.va [(L.d (Pv.fz true) (Sh.i IntKind.i64) z), (L.rw (Id.mk 0 1))]), (Ob.ro true 0 60 (Sh.i IntKind.u64) Ow.z ws Option.none)] = f16T  z ws := by kernel_rfl
theorem f16_ev (n : Nat) (z : Int) (ws : List Int) : evF C1 f16h n f16f [(D.p (Pt.one (L.pv (Id.mk 0 0) 0)))] [(Ob.va [(L.d (Pv.fz true) (Sh.i IntKind.i64) z), (L.rw (Id.mk 0 1))]), (Ob.ro true 0 60 (Sh.i IntKind.u64) Ow.z ws Option.none)] = f16M n z ws := by
  rw [f16T_ev]
  rfl

abbrev f16nh : Hn := hn0
noncomputable abbrev f16nf : Func := fn 16
noncomputable def f16nT   : Option Lf :=
 some (Lf.mk [(Pt.one (L.d (Pv.fz true) (Sh.i IntKind.i64) (0 : Int)))] [] [])
noncomputable def f16nM (_ : Nat)  : Option Lf := f16nT  
theorem f16nT_ev (n : Nat)  : evF C1 f16nh n f16nf [(D.p (Pt.one L.np))] [] = f16nT   := by kernel_rfl
theorem f16n_ev (n : Nat)  : evF C1 f16nh n f16nf [(D.p (Pt.one L.np))] [] = f16nM n  := by
  rw [f16nT_ev]
  rfl

abbrev f20nh : Hn := hn0
noncomputable abbrev f20nf : Func := fn 20
noncomputable def f20nT   : Option Lf :=
 some (Lf.mk [(Pt.one (L.d (Pv.fz true) (Sh.i IntKind.i64) (0 : Int)))] [] [])
noncomputable def f20nM (_ : Nat)  : Option Lf := f20nT  
theorem f20nT_ev (n : Nat)  : evF C1 f20nh n f20nf [(D.p (Pt.one L.np))] [] = f20nT   := by kernel_rfl
theorem f20n_ev (n : Nat)  : evF C1 f20nh n f20nf [(D.p (Pt.one L.np))] [] = f20nM n  := by
  rw [f20nT_ev]
  rfl

abbrev f18nh : Hn := hn0
noncomputable abbrev f18nf : Func := fn 18
noncomputable def f18nT   : Option Lf :=
 some (Lf.mk [(Pt.one (L.d (Pv.fz true) Sh.b (true : Bool)))] [] [])
noncomputable def f18nM (_ : Nat)  : Option Lf := f18nT  
theorem f18nT_ev (n : Nat)  : evF C1 f18nh n f18nf [(D.p (Pt.one L.np)), (D.p (Pt.one L.np))] [] = f18nT   := by kernel_rfl
theorem f18n_ev (n : Nat)  : evF C1 f18nh n f18nf [(D.p (Pt.one L.np)), (D.p (Pt.one L.np))] [] = f18nM n  := by
  rw [f18nT_ev]
  rfl

abbrev f31nh : Hn := hn0
noncomputable abbrev f31nf : Func := fn 31
noncomputable def f31nT   : Option Lf :=
 some (Lf.mk [(Pt.one L.np)] [] [])
noncomputable def f31nM (_ : Nat)  : Option Lf := f31nT  
theorem f31nT_ev (n : Nat)  : evF C1 f31nh n f31nf [(D.p (Pt.one L.np))] [] = f31nT   := by kernel_rfl
theorem f31n_ev (n : Nat)  : evF C1 f31nh n f31nf [(D.p (Pt.one L.np))] [] = f31nM n  := by
  rw [f31nT_ev]
  rfl

abbrev f34nh : Hn := hn0
noncomputable abbrev f34nf : Func := fn 34
noncomputable def f34nT  (g : Nat) : Option Lf :=
 some (Lf.mk [(Pt.one (L.d (Pv.fz true) Sh.b (false : Bool)))] [] [])
noncomputable def f34nM (_ : Nat) (g : Nat) : Option Lf := f34nT  g
theorem f34nT_ev (n : Nat) (g : Nat) : evF C1 f34nh n f34nf [(D.p (Pt.one L.np)), (D.p (Pt.one L.np)), (D.p (Pt.one (L.fn (g) [])))] [] = f34nT  g := by kernel_rfl
theorem f34n_ev (n : Nat) (g : Nat) : evF C1 f34nh n f34nf [(D.p (Pt.one L.np)), (D.p (Pt.one L.np)), (D.p (Pt.one (L.fn (g) [])))] [] = f34nM n g := by
  rw [f34nT_ev]
  rfl
end Go.S1
