/-
  Seat 02 (plays): functional form of Put.
-/
import Derived.Test.YtbdicebddicbkaaDoorS42G2
open Go Go.En Go.S2
namespace Go.S2
noncomputable def l3 : List (Nat × En.Spec) := (7, findS) :: (11, atS) :: l2
noncomputable def C3 : Ctx := ctxOf C0 l3

abbrev f8h : Hn := hn0
noncomputable abbrev f8f : Func := fn 8
noncomputable def f8T  (l : List (List Int)) (a : List Int) (b : List Int) (v : List Int) : Option Lf :=
 bif decide (zn v.length > 64) then
  some (Lf.mk [(Pt.one (L.d (Pv.fz true) (Sh.i IntKind.i64) (0 : Int))), (Pt.one (L.d (Pv.fz true) Sh.b (false : Bool))), (Pt.one (L.d (Pv.fz true) Sh.e (Er.no 2 : Er)))] [(Ob.va [(L.rw (Id.mk 0 1)), (L.d (Pv.fz true) (Sh.v 257 (Sh.i IntKind.i64)) (a : List Int)), (L.rw (Id.mk 0 2))]), (Ob.ro true 0 26 (Sh.l (Sh.i IntKind.i32)) (Ow.l 21 Ow.z) (l : List (List Int)) Option.none), (Ob.ro true 0 3 (Sh.i IntKind.i64) Ow.z (b : List Int) Option.none)] [])
 else
  bif okT l a b && big v then
   bif (fnd l v).snd then
    some (Lf.mk [(Pt.one (L.d (Pv.fz true) (Sh.i IntKind.i64) ((fnd l v).fst : Int))), (Pt.one (L.d (Pv.fz true) Sh.b (false : Bool))), (Pt.one (L.d (Pv.fz true) Sh.e (Er.nil : Er)))] [(Ob.va [(L.rw (Id.mk 0 1)), (L.d (Pv.fz true) (Sh.v 257 (Sh.i IntKind.i64)) (firstOf l : List Int)), (L.rw (Id.mk 0 2))]), (Ob.ro true 0 26 (Sh.l (Sh.i IntKind.i32)) (Ow.l 21 Ow.z) (l : List (List Int)) Option.none), (Ob.ro true 0 3 (Sh.i IntKind.i64) Ow.z (nextOf l : List Int) Option.none)] [])
   else
    bif big v then
     bif v.length.ble 1000000 then
      bif decide ((l.length + [v].length) * 24 ≤ 140737488355328) then
       bif inb (S2.hash v) 257 then
        bif decide (((nextOf l).length + [(firstOf l).getD (S2.hash v).toNat 0].length) * 8 ≤ 140737488355328) then
         bif inb (S2.hash v) 257 then
          some (Lf.mk [(Pt.one (L.d (Pv.fz true) (Sh.i IntKind.i64) (IntKind.i64.wrap (zn (l ++ [v]).length - 1) : Int))), (Pt.one (L.d (Pv.fz true) Sh.b (true : Bool))), (Pt.one (L.d (Pv.fz true) Sh.e (Er.nil : Er)))] [(Ob.va [(L.rw (Id.mk 1 0)), (L.d (Pv.fz true) (Sh.v 257 (Sh.i IntKind.i64)) ((firstOf l).set (S2.hash v).toNat (zn (l ++ [v]).length) : List Int)), (L.rw (Id.mk 1 1))]), Ob.gone, Ob.gone] [(Ob.ro true 0 26 (Sh.l (Sh.i IntKind.i32)) (Ow.l 21 Ow.z) (l ++ [v] : List (List Int)) Option.none), (Ob.ro true 0 3 (Sh.i IntKind.i64) Ow.z (nextOf l ++ [(firstOf l).getD (S2.hash v).toNat 0] : List Int) Option.none)])
         else
          none
        else
         none
       else
        none
      else
       none
     else
      none
    else
     none
  else
   none
noncomputable def f8M (_ : Nat) (l : List (List Int)) (a : List Int) (b : List Int) (v : List Int) : Option Lf := f8T  l a b v
theorem f8T_ev (n : Nat) (l : List (List Int)) (a : List Int) (b : List Int) (v : List Int) : evF C3 f8h n f8f [(D.p (Pt.one (L.pv (Id.mk 0 0) 0))), (D.p (Pt.one (L.d (Pv.fz false) (Sh.l (Sh.i IntKind.i32)) v)))] [(Ob.va [(L.rw (Id.mk 0 1)), (L.d (Pv.fz true) (Sh.v 257 (Sh.i IntKind.i64)) a), (L.rw (Id.mk 0 2))]), (Ob.ro true 0 26 (Sh.l (Sh.i IntKind.i32)) (Ow.l 21 Ow.z) l Option.none), (Ob.ro true 0 3 (Sh.i IntKind.i64) Ow.z b Option.none)] = f8T  l a b v := by kernel_rfl
theorem f8_ev (n : Nat) (l : List (List Int)) (a : List Int) (b : List Int) (v : List Int) : evF C3 f8h n f8f [(D.p (Pt.one (L.pv (Id.mk 0 0) 0))), (D.p (Pt.one (L.d (Pv.fz false) (Sh.l (Sh.i IntKind.i32)) v)))] [(Ob.va [(L.rw (Id.mk 0 1)), (L.d (Pv.fz true) (Sh.v 257 (Sh.i IntKind.i64)) a), (L.rw (Id.mk 0 2))]), (Ob.ro true 0 26 (Sh.l (Sh.i IntKind.i32)) (Ow.l 21 Ow.z) l Option.none), (Ob.ro true 0 3 (Sh.i IntKind.i64) Ow.z b Option.none)] = f8M n l a b v := by
  rw [f8T_ev]
  rfl
end Go.S2
