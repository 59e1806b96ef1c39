/-
  Seat 22: functional forms of laws (f).
-/
import Derived.Test.YtjkojhpmiijgfaaDoorS22P
open Go Go.En Go.S22
namespace Go.S22


abbrev r8h : Hn := hn0
noncomputable abbrev r8f : Func := fn 8
noncomputable def r8T   : Option Lf :=
 bif ofMG [[({ data := #[] }, [(0, 1, ())], ()), ({ data := #[] }, [(1, 1, ())], ())], [({ data := #[] }, [(1, 1, ())], ())]] [] ([] :: (fun (x : List Int) => x :: (fun (x : List Int) => []) x) []) then
  bif ofMG [[({ data := #[] }, [(0, 1, ())], ()), ({ data := #[] }, [(1, 1, ())], ())], [({ data := #[] }, [(1, 1, ())], ())]] [] ([] :: (fun (x : List Int) => x :: (fun (x : List Int) => []) x) []) then
   bif ofMG [[({ data := #[] }, [(0, 1, ())], ()), ({ data := #[] }, [(1, 1, ())], ())], [({ data := #[] }, [(1, 1, ())], ())]] [] ([] :: (fun (x : List Int) => x :: (fun (x : List Int) => []) x) []) then
    bif ofMG [[({ data := #[] }, [(0, 1, ())], ()), ({ data := #[] }, [(1, 1, ())], ())], [({ data := #[] }, [(1, 1, ())], ())]] [] ([] :: (fun (x : List Int) => x :: (fun (x : List Int) => []) x) []) then
     some (Lf.mk [(Pt.one (L.d (Pv.fz true) Sh.b (Er.nil.isNil && (Er.nil.isNil && (Er.nil.isNil && ([true, true].getD 0 false && ([true, true].getD 0 false && (![false, true].getD 0 false && ([false, true].getD 1 false && true)))))) : Bool)))] [] [])
    else
     none
   else
    none
  else
   none
 else
  none
noncomputable def r8M (_ : Nat)  : Option Lf := r8T  
theorem r8T_ev (n : Nat)  : evF C21 r8h n r8f [] [] = r8T   := by kernel_rfl
theorem r8_ev (n : Nat)  : evF C21 r8h n r8f [] [] = r8M n  := by
  rw [r8T_ev]
  rfl

abbrev r3h : Hn := hn0
noncomputable abbrev r3f : Func := fn 3
noncomputable def r3T  (i : Int) (ch : List (List (ByteArray × List (Int × Int × Unit) × Unit))) (nm : List ByteArray) (ho : List (List Int)) (set : List Bool) : Option Lf :=
 bif farM ch nm ho || decide (zn set.length > 60) then
  some (Lf.mk [(Pt.one (L.d (Pv.fz true) Sh.b (true : Bool)))] [] [])
 else
  bif ofMG ch nm ho then
   bif ofMG ch nm ho then
    bif ofMG ch nm ho then
     bif ofMG ch nm ho then
      bif ofMG ch nm ho then
       bif mdG ch nm ho && (!mdOk i ch nm ho || true) then
        bif !mdOk i ch nm ho || zn set.length != zn ch.length then
         bif plain (mayV i ch nm ho set).snd.snd && bif numOf (mayV i ch nm ho set).snd.snd == 1 then plain (sureV i ch nm ho set).snd.snd && bif numOf (sureV i ch nm ho set).snd.snd == 1 then plain (mustMayV i ch nm ho set).snd && bif numOf (mustMayV i ch nm ho set).snd == 1 then plain (mustSureV i ch nm ho set).snd && true else true else true else true then
          some (Lf.mk [(Pt.one (L.d (Pv.fz true) Sh.b (numOf (mayV i ch nm ho set).snd.snd == 1 && (numOf (sureV i ch nm ho set).snd.snd == 1 && (numOf (mustMayV i ch nm ho set).snd == 1 && (numOf (mustSureV i ch nm ho set).snd == 1 && IntKind.i64.wrap (IntKind.i64.wrap (IntKind.i64.wrap (zn (mayV i ch nm ho set).fst.length + zn (sureV i ch nm ho set).fst.length) + zn (mustMayV i ch nm ho set).fst.length) + zn (mustSureV i ch nm ho set).fst.length) == 0))) : Bool)))] [] [])
         else
          none
        else
         bif ofMG ch nm ho then
          bif decide (picksF 1 ch > 1500) then
           some (Lf.mk [(Pt.one (L.d (Pv.fz true) Sh.b (true : Bool)))] [] [])
          else
           bif ofMG ch nm ho && (rgS ch set && full ch) then
            bif bif (mayV i ch nm ho set).snd.snd.isNil then bif (sureV i ch nm ho set).snd.snd.isNil then bif (mustMayV i ch nm ho set).snd.isNil then bif (mustSureV i ch nm ho set).snd.isNil then Nat.beq 1 1 && (Nat.beq 1 1 && ((mayV i ch nm ho set).fst.length.ble 1000000 && (all4F ch set).fst.length.ble 1000000 && bif sameB (mayV i ch nm ho set).fst (all4F ch set).fst then Nat.beq 1 1 && (Nat.beq 1 1 && ((sureV i ch nm ho set).fst.length.ble 1000000 && (all4F ch set).snd.fst.length.ble 1000000 && bif sameB (sureV i ch nm ho set).fst (all4F ch set).snd.fst then Nat.beq 1 1 && (Nat.beq 1 1 && ((mustMayV i ch nm ho set).fst.length.ble 1000000 && (all4F ch set).snd.snd.fst.length.ble 1000000 && bif sameB (mustMayV i ch nm ho set).fst (all4F ch set).snd.snd.fst then Nat.beq 1 1 && (Nat.beq 1 1 && ((mustSureV i ch nm ho set).fst.length.ble 1000000 && (all4F ch set).snd.snd.snd.length.ble 1000000 && true)) else true)) else true)) else true)) else true else true else true else true then
             some (Lf.mk [(Pt.one (L.d (Pv.fz true) Sh.b ((mayV i ch nm ho set).snd.snd.isNil && ((sureV i ch nm ho set).snd.snd.isNil && ((mustMayV i ch nm ho set).snd.isNil && ((mustSureV i ch nm ho set).snd.isNil && (sameB (mayV i ch nm ho set).fst (all4F ch set).fst && (sameB (sureV i ch nm ho set).fst (all4F ch set).snd.fst && (sameB (mustMayV i ch nm ho set).fst (all4F ch set).snd.snd.fst && sameB (mustSureV i ch nm ho set).fst (all4F ch set).snd.snd.snd)))))) : Bool)))] [] [])
            else
             none
           else
            none
         else
          none
       else
        none
      else
       none
     else
      none
    else
     none
   else
    none
  else
   none
noncomputable def r3M (_ : Nat) (i : Int) (ch : List (List (ByteArray × List (Int × Int × Unit) × Unit))) (nm : List ByteArray) (ho : List (List Int)) (set : List Bool) : Option Lf := r3T  i ch nm ho set
theorem r3T_ev (n : Nat) (i : Int) (ch : List (List (ByteArray × List (Int × Int × Unit) × Unit))) (nm : List ByteArray) (ho : List (List Int)) (set : List Bool) : evF C22 r3h n r3f [(D.p (Pt.agg [(L.d (Pv.fz true) (Sh.i IntKind.i64) i), (L.d (Pv.fz false) (Sh.l (Sh.l (Sh.p Sh.s (Sh.p (Sh.l (Sh.p (Sh.i IntKind.i64) (Sh.p (Sh.i IntKind.i64) Sh.u))) Sh.u)))) ch), (L.d (Pv.fz false) (Sh.l Sh.s) nm), (L.d (Pv.fz false) (Sh.l (Sh.l (Sh.i IntKind.i64))) ho)])), (D.p (Pt.one (L.d (Pv.fz false) (Sh.l Sh.b) set)))] [] = r3T  i ch nm ho set := by kernel_rfl
theorem r3_ev (n : Nat) (i : Int) (ch : List (List (ByteArray × List (Int × Int × Unit) × Unit))) (nm : List ByteArray) (ho : List (List Int)) (set : List Bool) : evF C22 r3h n r3f [(D.p (Pt.agg [(L.d (Pv.fz true) (Sh.i IntKind.i64) i), (L.d (Pv.fz false) (Sh.l (Sh.l (Sh.p Sh.s (Sh.p (Sh.l (Sh.p (Sh.i IntKind.i64) (Sh.p (Sh.i IntKind.i64) Sh.u))) Sh.u)))) ch), (L.d (Pv.fz false) (Sh.l Sh.s) nm), (L.d (Pv.fz false) (Sh.l (Sh.l (Sh.i IntKind.i64))) ho)])), (D.p (Pt.one (L.d (Pv.fz false) (Sh.l Sh.b) set)))] [] = r3M n i ch nm ho set := by
  rw [r3T_ev]
  rfl
end Go.S22
