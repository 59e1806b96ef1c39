/-
  Seat 23: the functional form of ProductPlain.
-/
import Derived.Test.YtkbablmhgnpmmaaDoorS23X
open Go Go.En Go.S23
namespace Go.S23


abbrev f7h : Hn := hn0
noncomputable abbrev f7f : Func := fn 7
noncomputable def f7T  (i : Int) (ch : List (List (ByteArray × List (Int × Int × Unit) × Unit))) (nm : List ByteArray) (ho : List (List Int)) (le : List Int) (p : Int) (i2 : Int) (nx : List (List Int)) (ps : List (List Int × List Int × Unit)) : Option Lf :=
 bif farM ch nm ho || (farF nx ps || (decide (zn le.length > 60) || allG ch nm ho le nx ps && true)) then
  bif farM ch nm ho || (farF nx ps || (decide (zn le.length > 60) || !allOk i ch nm ho le p i2 nx ps)) then
   some (Lf.mk [(Pt.one (L.d (Pv.fz true) Sh.b (true : Bool)))] [] [])
  else
   bif ofMG ch nm ho then
    bif inb 0 nx.length then
     bif decide (0 ≤ zn (nx.getD 0 []).length) && (decide (zn (nx.getD 0 []).length ≤ zn (nx.getD 0 []).length) && decide (8 * (zn (nx.getD 0 []).length).toNat ≤ 140737488355328)) then
      bif makeG ch nm ho le [List.replicate (zn (nx.getD 0 []).length).toNat 0] [] then
       bif !(makeV i ch nm ho le p 0 [List.replicate (zn (nx.getD 0 []).length).toNat 0] [] 4096).snd.snd.snd.isNil || Nat.beq 1 1 && (Nat.beq 1 1 && (Nat.beq 1 1 && (Nat.beq 1 1 && (ofMG ch nm ho && true)))) then
        bif !(makeV i ch nm ho le p 0 [List.replicate (zn (nx.getD 0 []).length).toNat 0] [] 4096).snd.snd.snd.isNil || zn (makeV i ch nm ho le p 0 [List.replicate (zn (nx.getD 0 []).length).toNat 0] [] 4096).snd.fst.length != zn (reachL i ch nm ho).length then
         some (Lf.mk [(Pt.one (L.d (Pv.fz true) Sh.b (false : Bool)))] [] [])
        else
         bif ofG nx ps then
          bif makeG ch nm ho le nx ps then
           bif ofG nx ps then
            bif makeG ch nm ho le nx ps then
             bif ofG nx ps then
              bif makeG ch nm ho le nx ps then
               bif bif (makeV i ch nm ho le p i2 nx ps 4096).snd.snd.snd.isNil then Nat.beq 1 1 && bif decide (zn (makeV i ch nm ho le p i2 nx ps 4096).snd.fst.length ≥ zn (makeV i ch nm ho le p 0 [List.replicate (zn (nx.getD 0 []).length).toNat 0] [] 4096).snd.fst.length) then Nat.beq 1 1 && (Nat.beq 1 1 && bif decide (zn (makeV i ch nm ho le p i2 nx ps 4096).snd.fst.length ≤ IntKind.i64.wrap (zn (makeV i ch nm ho le p 0 [List.replicate (zn (nx.getD 0 []).length).toNat 0] [] 4096).snd.fst.length * zn nx.length)) then bif (makeV i ch nm ho le p i2 nx ps (zn (makeV i ch nm ho le p i2 nx ps 4096).snd.fst.length)).snd.snd.snd.isNil then bif zn (makeV i ch nm ho le p i2 nx ps 4096).snd.fst.length == 1 then plain (makeV i ch nm ho le p i2 nx ps (IntKind.i64.wrap (zn (makeV i ch nm ho le p i2 nx ps 4096).snd.fst.length - 1))).snd.snd.snd && (numOf (makeV i ch nm ho le p i2 nx ps (IntKind.i64.wrap (zn (makeV i ch nm ho le p i2 nx ps 4096).snd.fst.length - 1))).snd.snd.snd == 1 || bif decide (zn (makeV i ch nm ho le p i2 nx ps 4096).snd.fst.length > 1) then plain (makeV i ch nm ho le p i2 nx ps (IntKind.i64.wrap (zn (makeV i ch nm ho le p i2 nx ps 4096).snd.fst.length - 1))).snd.snd.snd && true else true) else bif decide (zn (makeV i ch nm ho le p i2 nx ps 4096).snd.fst.length > 1) then plain (makeV i ch nm ho le p i2 nx ps (IntKind.i64.wrap (zn (makeV i ch nm ho le p i2 nx ps 4096).snd.fst.length - 1))).snd.snd.snd && true else true else true else true) else true else true then
                some (Lf.mk [(Pt.one (L.d (Pv.fz true) Sh.b ((makeV i ch nm ho le p i2 nx ps 4096).snd.snd.snd.isNil && (decide (zn (makeV i ch nm ho le p i2 nx ps 4096).snd.fst.length ≥ zn (makeV i ch nm ho le p 0 [List.replicate (zn (nx.getD 0 []).length).toNat 0] [] 4096).snd.fst.length) && (decide (zn (makeV i ch nm ho le p i2 nx ps 4096).snd.fst.length ≤ IntKind.i64.wrap (zn (makeV i ch nm ho le p 0 [List.replicate (zn (nx.getD 0 []).length).toNat 0] [] 4096).snd.fst.length * zn nx.length)) && ((makeV i ch nm ho le p i2 nx ps (zn (makeV i ch nm ho le p i2 nx ps 4096).snd.fst.length)).snd.snd.snd.isNil && bif zn (makeV i ch nm ho le p i2 nx ps 4096).snd.fst.length == 1 then numOf (makeV i ch nm ho le p i2 nx ps (IntKind.i64.wrap (zn (makeV i ch nm ho le p i2 nx ps 4096).snd.fst.length - 1))).snd.snd.snd == 1 || decide (zn (makeV i ch nm ho le p i2 nx ps 4096).snd.fst.length > 1) && numOf (makeV i ch nm ho le p i2 nx ps (IntKind.i64.wrap (zn (makeV i ch nm ho le p i2 nx ps 4096).snd.fst.length - 1))).snd.snd.snd == 41 else decide (zn (makeV i ch nm ho le p i2 nx ps 4096).snd.fst.length > 1) && numOf (makeV i ch nm ho le p i2 nx ps (IntKind.i64.wrap (zn (makeV i ch nm ho le p i2 nx ps 4096).snd.fst.length - 1))).snd.snd.snd == 41))) : Bool)))] [] [])
               else
                none
              else
               none
             else
              none
            else
             none
           else
            none
          else
           none
         else
          none
       else
        none
      else
       none
     else
      none
    else
     none
   else
    none
 else
  none
noncomputable def f7M (_ : Nat) (i : Int) (ch : List (List (ByteArray × List (Int × Int × Unit) × Unit))) (nm : List ByteArray) (ho : List (List Int)) (le : List Int) (p : Int) (i2 : Int) (nx : List (List Int)) (ps : List (List Int × List Int × Unit)) : Option Lf := f7T  i ch nm ho le p i2 nx ps
theorem f7T_ev (n : Nat) (i : Int) (ch : List (List (ByteArray × List (Int × Int × Unit) × Unit))) (nm : List ByteArray) (ho : List (List Int)) (le : List Int) (p : Int) (i2 : Int) (nx : List (List Int)) (ps : List (List Int × List Int × Unit)) : evF C41 f7h n f7f [(D.p (Pt.agg [(L.d (Pv.fz true) (Sh.i IntKind.i64) i), (L.d (Pv.fz false) (Sh.l (Sh.l (Sh.p Sh.s (Sh.p (Sh.l (Sh.p (Sh.i IntKind.i64) (Sh.p (Sh.i IntKind.i64) Sh.u))) Sh.u)))) ch), (L.d (Pv.fz false) (Sh.l Sh.s) nm), (L.d (Pv.fz false) (Sh.l (Sh.l (Sh.i IntKind.i64))) ho)])), (D.p (Pt.one (L.d (Pv.fz false) (Sh.l (Sh.i IntKind.i64)) le))), (D.p (Pt.agg [(L.d (Pv.fz true) (Sh.i IntKind.i64) p), (L.d (Pv.fz true) (Sh.i IntKind.i64) i2), (L.d (Pv.fz false) (Sh.l (Sh.l (Sh.i IntKind.i64))) nx), (L.d (Pv.fz false) (Sh.l (Sh.p (Sh.l (Sh.i IntKind.i64)) (Sh.p (Sh.l (Sh.i IntKind.i64)) Sh.u))) ps)]))] [] = f7T  i ch nm ho le p i2 nx ps := by kernel_rfl
theorem f7_ev (n : Nat) (i : Int) (ch : List (List (ByteArray × List (Int × Int × Unit) × Unit))) (nm : List ByteArray) (ho : List (List Int)) (le : List Int) (p : Int) (i2 : Int) (nx : List (List Int)) (ps : List (List Int × List Int × Unit)) : evF C41 f7h n f7f [(D.p (Pt.agg [(L.d (Pv.fz true) (Sh.i IntKind.i64) i), (L.d (Pv.fz false) (Sh.l (Sh.l (Sh.p Sh.s (Sh.p (Sh.l (Sh.p (Sh.i IntKind.i64) (Sh.p (Sh.i IntKind.i64) Sh.u))) Sh.u)))) ch), (L.d (Pv.fz false) (Sh.l Sh.s) nm), (L.d (Pv.fz false) (Sh.l (Sh.l (Sh.i IntKind.i64))) ho)])), (D.p (Pt.one (L.d (Pv.fz false) (Sh.l (Sh.i IntKind.i64)) le))), (D.p (Pt.agg [(L.d (Pv.fz true) (Sh.i IntKind.i64) p), (L.d (Pv.fz true) (Sh.i IntKind.i64) i2), (L.d (Pv.fz false) (Sh.l (Sh.l (Sh.i IntKind.i64))) nx), (L.d (Pv.fz false) (Sh.l (Sh.p (Sh.l (Sh.i IntKind.i64)) (Sh.p (Sh.l (Sh.i IntKind.i64)) Sh.u))) ps)]))] [] = f7M n i ch nm ho le p i2 nx ps := by
  rw [f7T_ev]
  rfl
end Go.S23
