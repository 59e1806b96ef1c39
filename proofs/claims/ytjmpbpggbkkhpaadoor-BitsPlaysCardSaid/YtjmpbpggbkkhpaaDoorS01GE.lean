/-
  Seat 01: functional forms of Join, Minus, Meet with no second set.
-/
import Derived.Test.YtjmpbpggbkkhpaaDoorS01X
open Go Go.En Go.S1
namespace Go.S1
noncomputable def l14 : List (Nat × En.Spec) := [(34, turn3S)]
noncomputable def C14 : Ctx := ctxOf C0 l14
def bin3S (op : BinOp) : En.Spec := ⟨[], fun ds os => match ds, os with
  | [.p (.one (.pv ⟨0, 0⟩ 0)), .p (.one .np)], [.va [.d (.fz true) (.i .i64) n, .rw ⟨0, 1⟩], .ro true 0 e (.i .u64) .z ws none] =>
    gS e <| .br (okS n ws) (.leaf [pB (turnB op n ws [])] [vaS ⟨0, 1⟩ n, roW (turnW op n ws [])] []) .fail
  | [.p (.one (.pv ⟨0, 0⟩ 0)), .p (.one (.pv ⟨0, 1⟩ 0))], [.va [.d (.fz true) (.i .i64) n, .rw ⟨0, 2⟩], .va [.d (.fz true) (.i .i64) m, .rw ⟨0, 3⟩], .ro true 0 e (.i .u64) .z ws none, .ro true 0 e' (.i .u64) .z vs none] =>
    gS2 e e' <| .br (okS n ws) (.leaf [pB (turnB op n ws vs)] [vaS ⟨0, 2⟩ n, vaS ⟨0, 3⟩ m, roW (turnW op n ws vs), roW vs] []) .fail
  | _, _ => .fail⟩
def ofrS : En.Spec := ⟨[], fun ds os => match ds, os with
  | [.p (.one (.d (.fz true) (.i .i64) z)), .p (.one (.d (.fz false) (.l (.i .i64)) l))], [] => .br (Nat.ble l.length 9223372036854775806)
    (.br (rOk z l) (.leaf [.one (.pv ⟨1, 0⟩ 0), pE .nil] [] [vaS ⟨1, 1⟩ z, roW (ofW z l)]) (.leaf [.one .np, pE (.no 1)] [] [])) .fail
  | _, _ => .fail⟩
noncomputable def l15 : List (Nat × En.Spec) := (8, aliveS) :: (21, farS) :: (17, ofrS) :: (22, rOfS) :: (23, numS) :: (24, rWithS) :: (13, bin3S .or) :: (25, bin3S .andNot) :: (26, bin3S .and) :: (10, addS) :: (28, delS) :: (27, rPutS) :: (12, nextS) :: (29, rHasS) :: (20, countS) :: (30, rItemsS) :: (15, hasS) :: (16, sizeS) :: (11, itemsS) :: (19, intsS) :: []
noncomputable def C15 : Ctx := ctxOf C0 l15
def h5 : Hn := ⟨fun | 12 => [0, 2, 7, 9, 11] | 10047 => [0, 2, 7, 9, 11, 12, 13, 14] | 40 => [0, 2, 7, 9, 11, 12, 13, 14, 19, 20, 21, 22, 23] | _ => [], fun _ => [], fun r => r.beq 5 || r.beq 20⟩

abbrev f13xh : Hn := hn0
noncomputable abbrev f13xf : Func := fn 13
noncomputable def f13xT  (z : Int) (ws : List Int) : Option Lf :=
 bif okS z ws then
  some (Lf.mk [(Pt.one (L.d (Pv.fz true) Sh.b (turnB BinOp.or z ws [] : Bool)))] [(Ob.va [(L.d (Pv.fz true) (Sh.i IntKind.i64) (z : Int)), (L.rw (Id.mk 0 1))]), (Ob.ro true 0 60 (Sh.i IntKind.u64) Ow.z (turnW BinOp.or z ws [] : List Int) Option.none)] [])
 else
  none
noncomputable def f13xM (_ : Nat) (z : Int) (ws : List Int) : Option Lf := f13xT  z ws
theorem f13xT_ev (n : Nat) (z : Int) (ws : List Int) : evF C14 f13xh n f13xf [(D.p (Pt.one (L.pv (Id.mk 0 0) 0))), (D.p (Pt.one L.np))] [(Ob.va [(L.d (Pv.fz true) (Sh.i IntKind.i64) z), (L.rw (Id.mk 0 1))]), (Ob.ro true 0 60 (Sh.i IntKind.u64) Ow.z ws Option.none)] = f13xT  z ws := by kernel_rfl
theorem f13x_ev (n : Nat) (z : Int) (ws : List Int) : evF C14 f13xh n f13xf [(D.p (Pt.one (L.pv (Id.mk 0 0) 0))), (D.p (Pt.one L.np))] [(Ob.va [(L.d (Pv.fz true) (Sh.i IntKind.i64) z), (L.rw (Id.mk 0 1))]), (Ob.ro true 0 60 (Sh.i IntKind.u64) Ow.z ws Option.none)] = f13xM n z ws := by
  rw [f13xT_ev]
  rfl

abbrev f25xh : Hn := hn0
noncomputable abbrev f25xf : Func := fn 25
noncomputable def f25xT  (z : Int) (ws : List Int) : Option Lf :=
 bif okS z ws then
  some (Lf.mk [(Pt.one (L.d (Pv.fz true) Sh.b (turnB BinOp.andNot z ws [] : Bool)))] [(Ob.va [(L.d (Pv.fz true) (Sh.i IntKind.i64) (z : Int)), (L.rw (Id.mk 0 1))]), (Ob.ro true 0 60 (Sh.i IntKind.u64) Ow.z (turnW BinOp.andNot z ws [] : List Int) Option.none)] [])
 else
  none
noncomputable def f25xM (_ : Nat) (z : Int) (ws : List Int) : Option Lf := f25xT  z ws
theorem f25xT_ev (n : Nat) (z : Int) (ws : List Int) : evF C14 f25xh n f25xf [(D.p (Pt.one (L.pv (Id.mk 0 0) 0))), (D.p (Pt.one L.np))] [(Ob.va [(L.d (Pv.fz true) (Sh.i IntKind.i64) z), (L.rw (Id.mk 0 1))]), (Ob.ro true 0 60 (Sh.i IntKind.u64) Ow.z ws Option.none)] = f25xT  z ws := by kernel_rfl
theorem f25x_ev (n : Nat) (z : Int) (ws : List Int) : evF C14 f25xh n f25xf [(D.p (Pt.one (L.pv (Id.mk 0 0) 0))), (D.p (Pt.one L.np))] [(Ob.va [(L.d (Pv.fz true) (Sh.i IntKind.i64) z), (L.rw (Id.mk 0 1))]), (Ob.ro true 0 60 (Sh.i IntKind.u64) Ow.z ws Option.none)] = f25xM n z ws := by
  rw [f25xT_ev]
  rfl

abbrev f26xh : Hn := hn0
noncomputable abbrev f26xf : Func := fn 26
noncomputable def f26xT  (z : Int) (ws : List Int) : Option Lf :=
 bif okS z ws then
  some (Lf.mk [(Pt.one (L.d (Pv.fz true) Sh.b (turnB BinOp.and z ws [] : Bool)))] [(Ob.va [(L.d (Pv.fz true) (Sh.i IntKind.i64) (z : Int)), (L.rw (Id.mk 0 1))]), (Ob.ro true 0 60 (Sh.i IntKind.u64) Ow.z (turnW BinOp.and z ws [] : List Int) Option.none)] [])
 else
  none
noncomputable def f26xM (_ : Nat) (z : Int) (ws : List Int) : Option Lf := f26xT  z ws
theorem f26xT_ev (n : Nat) (z : Int) (ws : List Int) : evF C14 f26xh n f26xf [(D.p (Pt.one (L.pv (Id.mk 0 0) 0))), (D.p (Pt.one L.np))] [(Ob.va [(L.d (Pv.fz true) (Sh.i IntKind.i64) z), (L.rw (Id.mk 0 1))]), (Ob.ro true 0 60 (Sh.i IntKind.u64) Ow.z ws Option.none)] = f26xT  z ws := by kernel_rfl
theorem f26x_ev (n : Nat) (z : Int) (ws : List Int) : evF C14 f26xh n f26xf [(D.p (Pt.one (L.pv (Id.mk 0 0) 0))), (D.p (Pt.one L.np))] [(Ob.va [(L.d (Pv.fz true) (Sh.i IntKind.i64) z), (L.rw (Id.mk 0 1))]), (Ob.ro true 0 60 (Sh.i IntKind.u64) Ow.z ws Option.none)] = f26xM n z ws := by
  rw [f26xT_ev]
  rfl
end Go.S1
