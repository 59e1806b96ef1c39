/-
  Seat 01: functional forms of alive, and of what no set answers.
-/
import Derived.Test.YtjmpbpggbkkhpaaDoorS01E
open Go Go.En Go.S1
namespace Go.S1
noncomputable def l5 : List (Nat × En.Spec) := (17, ofS) :: (19, intsS) :: (23, numS) :: (34, turn0S) :: l4
noncomputable def C5 : Ctx := ctxOf C0 l5
def h8 : Hn := ⟨fun _ => [], fun _ => [], fun r => r.beq 1 || r.beq 2⟩

abbrev f13nh : Hn := hn0
noncomputable abbrev f13nf : Func := fn 13
noncomputable def f13nT   : Option Lf :=
 some (Lf.mk [(Pt.one (L.d (Pv.fz true) Sh.b (false : Bool)))] [] [])
noncomputable def f13nM (_ : Nat)  : Option Lf := f13nT  
theorem f13nT_ev (n : Nat)  : evF C5 f13nh n f13nf [(D.p (Pt.one L.np)), (D.p (Pt.one L.np))] [] = f13nT   := by kernel_rfl
theorem f13n_ev (n : Nat)  : evF C5 f13nh n f13nf [(D.p (Pt.one L.np)), (D.p (Pt.one L.np))] [] = f13nM n  := by
  rw [f13nT_ev]
  rfl

abbrev f25nh : Hn := hn0
noncomputable abbrev f25nf : Func := fn 25
noncomputable def f25nT   : Option Lf :=
 some (Lf.mk [(Pt.one (L.d (Pv.fz true) Sh.b (false : Bool)))] [] [])
noncomputable def f25nM (_ : Nat)  : Option Lf := f25nT  
theorem f25nT_ev (n : Nat)  : evF C5 f25nh n f25nf [(D.p (Pt.one L.np)), (D.p (Pt.one L.np))] [] = f25nT   := by kernel_rfl
theorem f25n_ev (n : Nat)  : evF C5 f25nh n f25nf [(D.p (Pt.one L.np)), (D.p (Pt.one L.np))] [] = f25nM n  := by
  rw [f25nT_ev]
  rfl

abbrev f26nh : Hn := hn0
noncomputable abbrev f26nf : Func := fn 26
noncomputable def f26nT   : Option Lf :=
 some (Lf.mk [(Pt.one (L.d (Pv.fz true) Sh.b (false : Bool)))] [] [])
noncomputable def f26nM (_ : Nat)  : Option Lf := f26nT  
theorem f26nT_ev (n : Nat)  : evF C5 f26nh n f26nf [(D.p (Pt.one L.np)), (D.p (Pt.one L.np))] [] = f26nT   := by kernel_rfl
theorem f26n_ev (n : Nat)  : evF C5 f26nh n f26nf [(D.p (Pt.one L.np)), (D.p (Pt.one L.np))] [] = f26nM n  := by
  rw [f26nT_ev]
  rfl

abbrev f8h : Hn := h8
noncomputable abbrev f8f : Func := fn 8
noncomputable def f8T   : Option Lf :=
 bif ofB 5 [3, 1] then
  bif okS 5 (ofW 5 [3, 1]) then
   bif sameI [zn 1, zn 3] [1, 3] then
    bif plain (Er.no 1) then
     bif okS 5 (ofW 5 [3, 1]) then
      bif addB 5 (ofW 5 [3, 1]) 4 then
       bif okS 5 (addW 5 (ofW 5 [3, 1]) 4) then
        some (Lf.mk [(Pt.one (L.d (Pv.fz true) Sh.b (hasF 5 (addW 5 (ofW 5 [3, 1]) 4) 4 : Bool)))] [] [])
       else
        none
      else
       some (Lf.mk [(Pt.one (L.d (Pv.fz true) Sh.b (false : Bool)))] [] [])
     else
      none
    else
     none
   else
    some (Lf.mk [(Pt.one (L.d (Pv.fz true) Sh.b (false : Bool)))] [] [])
  else
   none
 else
  some (Lf.mk [(Pt.one (L.d (Pv.fz true) Sh.b ((Er.no 1).isNil && false : Bool)))] [] [])
noncomputable def f8M (_ : Nat)  : Option Lf := f8T  
theorem f8T_ev (n : Nat)  : evF C5 f8h n f8f [] [] = f8T   := by kernel_rfl
theorem f8_ev (n : Nat)  : evF C5 f8h n f8f [] [] = f8M n  := by
  rw [f8T_ev]
  rfl
end Go.S1
