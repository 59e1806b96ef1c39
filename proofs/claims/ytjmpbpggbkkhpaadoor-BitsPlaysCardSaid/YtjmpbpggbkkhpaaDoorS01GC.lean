/-
  Seat 01: functional forms of Minus, Meet, BitsOf and BitsLaws.
-/
import Derived.Test.YtjmpbpggbkkhpaaDoorS01U
import Derived.Test.YtjmpbpggbkkhpaaDoorS01P
open Go Go.En Go.S1
namespace Go.S1
def binS (op : BinOp) : En.Spec := ⟨[], fun ds os => match ds, os with
  | [.p (.one .np), .p (.one .np)], [] => .leaf [pB false] [] []
  | [.p (.one (.pv ⟨0, 0⟩ 0)), .p (.one (.pv ⟨0, 1⟩ 0))], [.va [.d (.fz true) (.i .i64) n, .rw ⟨0, 2⟩], .va [.d (.fz true) (.i .i64) m, .rw ⟨0, 3⟩], .ro true 0 e (.i .u64) .z ws none, .ro true 0 e' (.i .u64) .z vs none] =>
    gS2 e e' <| .br (okS n ws) (.leaf [pB (turnB op n ws vs)] [vaS ⟨0, 2⟩ n, vaS ⟨0, 3⟩ m, roW (turnW op n ws vs), roW vs] []) .fail
  | _, _ => .fail⟩
def newgS : En.Spec := ⟨[], fun ds os => match ds, os with
  | [.p (.one (.d (.fz true) (.i .i64) n))], [] => .br (decide (0 ≤ n) && decide (n ≤ 4096)) (.leaf [.one (.pv ⟨1, 0⟩ 0), pE .nil] [] [vaS ⟨1, 1⟩ n, roW (List.replicate ((n.toNat + 63) / 64) 0)]) .fail
  | _, _ => .fail⟩
def ofgS : En.Spec := ⟨[], fun ds os => match ds, os with
  | [.p (.one (.d (.fz true) (.i .i64) z)), .p (.one (.d (.fz false) (.l (.i .i64)) l))], [] => .br (Nat.ble l.length 9223372036854775806 && (decide (0 ≤ z) && (decide (z ≤ 4096) && ofB z l)))
    (.leaf [.one (.pv ⟨1, 0⟩ 0), pE .nil] [] [vaS ⟨1, 1⟩ z, roW (ofW z l)]) .fail
  | _, _ => .fail⟩
noncomputable def l11 : List (Nat × En.Spec) := [(34, turn2S)]
noncomputable def C11 : Ctx := ctxOf C0 l11
noncomputable def l12 : List (Nat × En.Spec) := (8, aliveS) :: (9, newgS) :: (17, ofgS) :: (13, joinS) :: (25, binS .andNot) :: (26, binS .and) :: (18, sameS) :: (20, countS) :: (31, copyS) :: (19, intsS) :: (10, addS) :: (28, delS) :: (11, itemsS) :: []
noncomputable def C12 : Ctx := ctxOf C0 l12
def h4 : Hn := ⟨fun | 8 => [1, 5, 6, 7, 8] | _ => [], fun | 8 => [⟨6, none, 3, .z⟩, ⟨7, none, 3, .z⟩] | _ => [], fun _ => false⟩
def h6 : Hn := ⟨fun | 9 => [1, 2, 7, 8, 10, 12] | 13 => [2, 7, 8, 10, 13] | _ => [], fun _ => [], fun _ => false⟩

abbrev f25jh : Hn := hn0
noncomputable abbrev f25jf : Func := fn 25
noncomputable def f25jT  (z : Int) (m : Int) (ws : List Int) (vs : List Int) : Option Lf :=
 bif okS z ws then
  some (Lf.mk [(Pt.one (L.d (Pv.fz true) Sh.b (turnB BinOp.andNot z ws vs : Bool)))] [(Ob.va [(L.d (Pv.fz true) (Sh.i IntKind.i64) (z : Int)), (L.rw (Id.mk 0 2))]), (Ob.va [(L.d (Pv.fz true) (Sh.i IntKind.i64) (m : Int)), (L.rw (Id.mk 0 3))]), (Ob.ro true 0 60 (Sh.i IntKind.u64) Ow.z (turnW BinOp.andNot z ws vs : List Int) Option.none), (Ob.ro true 0 60 (Sh.i IntKind.u64) Ow.z (vs : List Int) Option.none)] [])
 else
  none
noncomputable def f25jM (_ : Nat) (z : Int) (m : Int) (ws : List Int) (vs : List Int) : Option Lf := f25jT  z m ws vs
theorem f25jT_ev (n : Nat) (z : Int) (m : Int) (ws : List Int) (vs : List Int) : evF C11 f25jh n f25jf [(D.p (Pt.one (L.pv (Id.mk 0 0) 0))), (D.p (Pt.one (L.pv (Id.mk 0 1) 0)))] [(Ob.va [(L.d (Pv.fz true) (Sh.i IntKind.i64) z), (L.rw (Id.mk 0 2))]), (Ob.va [(L.d (Pv.fz true) (Sh.i IntKind.i64) m), (L.rw (Id.mk 0 3))]), (Ob.ro true 0 60 (Sh.i IntKind.u64) Ow.z ws Option.none), (Ob.ro true 0 60 (Sh.i IntKind.u64) Ow.z vs Option.none)] = f25jT  z m ws vs := by kernel_rfl
theorem f25j_ev (n : Nat) (z : Int) (m : Int) (ws : List Int) (vs : List Int) : evF C11 f25jh n f25jf [(D.p (Pt.one (L.pv (Id.mk 0 0) 0))), (D.p (Pt.one (L.pv (Id.mk 0 1) 0)))] [(Ob.va [(L.d (Pv.fz true) (Sh.i IntKind.i64) z), (L.rw (Id.mk 0 2))]), (Ob.va [(L.d (Pv.fz true) (Sh.i IntKind.i64) m), (L.rw (Id.mk 0 3))]), (Ob.ro true 0 60 (Sh.i IntKind.u64) Ow.z ws Option.none), (Ob.ro true 0 60 (Sh.i IntKind.u64) Ow.z vs Option.none)] = f25jM n z m ws vs := by
  rw [f25jT_ev]
  rfl

abbrev f25kh : Hn := hn0
noncomputable abbrev f25kf : Func := fn 25
noncomputable def f25kT   : Option Lf :=
 some (Lf.mk [(Pt.one (L.d (Pv.fz true) Sh.b (false : Bool)))] [] [])
noncomputable def f25kM (_ : Nat)  : Option Lf := f25kT  
theorem f25kT_ev (n : Nat)  : evF C11 f25kh n f25kf [(D.p (Pt.one L.np)), (D.p (Pt.one L.np))] [] = f25kT   := by kernel_rfl
theorem f25k_ev (n : Nat)  : evF C11 f25kh n f25kf [(D.p (Pt.one L.np)), (D.p (Pt.one L.np))] [] = f25kM n  := by
  rw [f25kT_ev]
  rfl

abbrev f26jh : Hn := hn0
noncomputable abbrev f26jf : Func := fn 26
noncomputable def f26jT  (z : Int) (m : Int) (ws : List Int) (vs : List Int) : Option Lf :=
 bif okS z ws then
  some (Lf.mk [(Pt.one (L.d (Pv.fz true) Sh.b (turnB BinOp.and z ws vs : Bool)))] [(Ob.va [(L.d (Pv.fz true) (Sh.i IntKind.i64) (z : Int)), (L.rw (Id.mk 0 2))]), (Ob.va [(L.d (Pv.fz true) (Sh.i IntKind.i64) (m : Int)), (L.rw (Id.mk 0 3))]), (Ob.ro true 0 60 (Sh.i IntKind.u64) Ow.z (turnW BinOp.and z ws vs : List Int) Option.none), (Ob.ro true 0 60 (Sh.i IntKind.u64) Ow.z (vs : List Int) Option.none)] [])
 else
  none
noncomputable def f26jM (_ : Nat) (z : Int) (m : Int) (ws : List Int) (vs : List Int) : Option Lf := f26jT  z m ws vs
theorem f26jT_ev (n : Nat) (z : Int) (m : Int) (ws : List Int) (vs : List Int) : evF C11 f26jh n f26jf [(D.p (Pt.one (L.pv (Id.mk 0 0) 0))), (D.p (Pt.one (L.pv (Id.mk 0 1) 0)))] [(Ob.va [(L.d (Pv.fz true) (Sh.i IntKind.i64) z), (L.rw (Id.mk 0 2))]), (Ob.va [(L.d (Pv.fz true) (Sh.i IntKind.i64) m), (L.rw (Id.mk 0 3))]), (Ob.ro true 0 60 (Sh.i IntKind.u64) Ow.z ws Option.none), (Ob.ro true 0 60 (Sh.i IntKind.u64) Ow.z vs Option.none)] = f26jT  z m ws vs := by kernel_rfl
theorem f26j_ev (n : Nat) (z : Int) (m : Int) (ws : List Int) (vs : List Int) : evF C11 f26jh n f26jf [(D.p (Pt.one (L.pv (Id.mk 0 0) 0))), (D.p (Pt.one (L.pv (Id.mk 0 1) 0)))] [(Ob.va [(L.d (Pv.fz true) (Sh.i IntKind.i64) z), (L.rw (Id.mk 0 2))]), (Ob.va [(L.d (Pv.fz true) (Sh.i IntKind.i64) m), (L.rw (Id.mk 0 3))]), (Ob.ro true 0 60 (Sh.i IntKind.u64) Ow.z ws Option.none), (Ob.ro true 0 60 (Sh.i IntKind.u64) Ow.z vs Option.none)] = f26jM n z m ws vs := by
  rw [f26jT_ev]
  rfl

abbrev f26kh : Hn := hn0
noncomputable abbrev f26kf : Func := fn 26
noncomputable def f26kT   : Option Lf :=
 some (Lf.mk [(Pt.one (L.d (Pv.fz true) Sh.b (false : Bool)))] [] [])
noncomputable def f26kM (_ : Nat)  : Option Lf := f26kT  
theorem f26kT_ev (n : Nat)  : evF C11 f26kh n f26kf [(D.p (Pt.one L.np)), (D.p (Pt.one L.np))] [] = f26kT   := by kernel_rfl
theorem f26k_ev (n : Nat)  : evF C11 f26kh n f26kf [(D.p (Pt.one L.np)), (D.p (Pt.one L.np))] [] = f26kM n  := by
  rw [f26kT_ev]
  rfl

abbrev f4h : Hn := h4
noncomputable abbrev f4f : Func := fn 4
abbrev f4G0 := (List Int) → Int → Int → (List Int) → (List Int) → Option Lf
noncomputable def f4H0 (x0_0 : List Int) (x0_1 : Int) (x0_2 : Int) (x0_3 : List Int) (x0_4 : List Int) : St := (St.mk [dead, (D.p (Pt.one (L.d (Pv.fz false) (Sh.l (Sh.i IntKind.u8)) x0_0))), dead, dead, dead, (D.p (Pt.one (L.d (Pv.fz true) (Sh.i IntKind.i64) x0_1))), (D.p (Pt.one (L.rw (Id.mk 1 0)))), (D.p (Pt.one (L.rw (Id.mk 1 1)))), (D.p (Pt.one (L.d (Pv.fz true) (Sh.i IntKind.i64) x0_2))), dead, dead, dead, dead, dead, dead, dead, dead, dead, dead, dead, dead, dead, dead, dead, dead, dead, dead, dead, dead, dead, dead, dead, dead, dead, dead, dead, dead, dead, dead, dead, dead, dead, dead, dead, dead, dead, dead, dead, dead, dead, dead, dead, dead, dead, dead, dead, dead, dead, dead, dead, dead, dead, dead, dead, dead, dead, dead, dead, dead, dead, dead, dead, dead, dead, dead, dead, dead, dead, dead, dead, dead, dead, dead, dead, dead, dead, dead, dead, dead, dead, dead] [[], [(Ob.ro true 0 3 (Sh.i IntKind.i64) Ow.z x0_3 Option.none), (Ob.ro true 0 3 (Sh.i IntKind.i64) Ow.z x0_4 Option.none)]])
noncomputable def f4W0 (G : St → Option Lf) : f4G0 := fun x0_0 x0_1 x0_2 x0_3 x0_4 => G (f4H0 x0_0 x0_1 x0_2 x0_3 x0_4)
noncomputable def f4S0  (g0 : f4G0) (x0_0 : List Int) (x0_1 : Int) (x0_2 : Int) (x0_3 : List Int) (x0_4 : List Int) : Option Lf :=
 bif decide (x0_2 < zn x0_0.length) then
  bif inb x0_2 x0_0.length then
   bif decide (x0_1 ≠ 0) then
    bif decide ((x0_3.length + [(IntKind.i64.wrap (x0_0.getD x0_2.toNat 0)).tmod x0_1].length) * 8 ≤ 140737488355328) then
     bif inb x0_2 x0_0.length then
      bif decide (x0_1 ≠ 0) then
       bif inb x0_2 x0_0.length then
        bif decide (x0_1 ≠ 0) then
         bif decide (([(IntKind.i64.wrap (x0_0.getD x0_2.toNat 0)).tmod x0_1, (IntKind.i64.wrap (x0_0.getD x0_2.toNat 0)).tmod x0_1].length + x0_4.length) * 8 ≤ 140737488355328) then
          g0 (x0_0 : List Int) (x0_1 : Int) (IntKind.i64.wrap (x0_2 + 1) : Int) (x0_3 ++ [(IntKind.i64.wrap (x0_0.getD x0_2.toNat 0)).tmod x0_1] : List Int) ((IntKind.i64.wrap (x0_0.getD x0_2.toNat 0)).tmod x0_1 :: (IntKind.i64.wrap (x0_0.getD x0_2.toNat 0)).tmod x0_1 :: x0_4 : List Int)
         else
          none
        else
         none
       else
        none
      else
       none
     else
      none
    else
     none
   else
    none
  else
   none
 else
  bif x0_3.length.ble 9223372036854775806 && (decide (0 ≤ x0_1) && (decide (x0_1 ≤ 4096) && ofB x0_1 x0_3)) then
   bif x0_4.length.ble 9223372036854775806 && (decide (0 ≤ x0_1) && (decide (x0_1 ≤ 4096) && ofB x0_1 x0_4)) then
    bif okS x0_1 (ofW x0_1 x0_3) && okS x0_1 (ofW x0_1 x0_4) then
     bif x0_1 == x0_1 && sameI (ofW x0_1 x0_3) (ofW x0_1 x0_4) then
      bif okS x0_1 (ofW x0_1 x0_3) then
       bif okS x0_1 (ofW x0_1 x0_4) then
        bif (items x0_1 (ofW x0_1 x0_3)).length.ble 9223372036854775806 && (items x0_1 (ofW x0_1 x0_4)).length.ble 9223372036854775806 then
         bif sameI (items x0_1 (ofW x0_1 x0_3)) (items x0_1 (ofW x0_1 x0_4)) then
          bif okS x0_1 (ofW x0_1 x0_3) then
           some (Lf.mk [(Pt.one (L.d (Pv.fz true) Sh.b (decide (zn (cnt (ofW x0_1 x0_3)) ≤ zn x0_0.length) : Bool)))] [] [])
          else
           none
         else
          some (Lf.mk [(Pt.one (L.d (Pv.fz true) Sh.b (false : Bool)))] [] [])
        else
         none
       else
        none
      else
       none
     else
      some (Lf.mk [(Pt.one (L.d (Pv.fz true) Sh.b (false : Bool)))] [] [])
    else
     none
   else
    none
  else
   none
noncomputable def f4L0 (n : Nat)  : Nat → f4G0
  | 0 => fun _ _ _ _ _ => none
  | m + 1 => fun x0_0 x0_1 x0_2 x0_3 x0_4 => f4S0   (f4L0 n  m) x0_0 x0_1 x0_2 x0_3 x0_4
theorem f4S0_ev (n : Nat)  (G : St → Option Lf) (x0_0 : List Int) (x0_1 : Int) (x0_2 : Int) (x0_3 : List Int) (x0_4 : List Int) : rnd C12 f4h n Lf (codeOf f4f) [1, 1, 1, 1, 1, 0, 1, 0] [] (endK C12 f4h f4f) G (f4H0 x0_0 x0_1 x0_2 x0_3 x0_4) = f4S0   (f4W0 G) x0_0 x0_1 x0_2 x0_3 x0_4 := by kernel_rfl
theorem f4W0_ev (n : Nat)  : ∀ m, (f4W0 (lp C12 f4h n Lf (codeOf f4f) [1, 1, 1, 1, 1, 0, 1, 0] [] (endK C12 f4h f4f) m)) = f4L0 n  m := by
  intro m
  induction m with
  | zero => funext x0_0 x0_1 x0_2 x0_3 x0_4; exact lp_zero _
  | succ m ih =>
    funext x0_0 x0_1 x0_2 x0_3 x0_4
    show lp C12 f4h n Lf (codeOf f4f) [1, 1, 1, 1, 1, 0, 1, 0] [] (endK C12 f4h f4f) (m + 1) (f4H0 x0_0 x0_1 x0_2 x0_3 x0_4) = f4S0   (f4L0 n  m) x0_0 x0_1 x0_2 x0_3 x0_4
    rw [lp_succ, f4S0_ev, ih]
noncomputable def f4T (l0 : f4G0) (z : Int) (l : List Int) : Option Lf :=
 bif decide (zn l.length > 200) then
  some (Lf.mk [(Pt.one (L.d (Pv.fz true) Sh.b (true : Bool)))] [] [])
 else
  l0 (l : List Int) (IntKind.i64.wrap (1 + IntKind.i64.wrap z) : Int) (0 : Int) ([] : List Int) ([] : List Int)
noncomputable def f4M (n : Nat) (z : Int) (l : List Int) : Option Lf := f4T (f4L0 n n) z l
theorem f4T_ev (n : Nat) (z : Int) (l : List Int) : evF C12 f4h n f4f [(D.p (Pt.one (L.d (Pv.fz true) (Sh.i IntKind.u8) z))), (D.p (Pt.one (L.d (Pv.fz false) (Sh.l (Sh.i IntKind.u8)) l)))] [] = f4T (f4W0 (lp C12 f4h n Lf (codeOf f4f) [1, 1, 1, 1, 1, 0, 1, 0] [] (endK C12 f4h f4f) n)) z l := by kernel_rfl
theorem f4_ev (n : Nat) (z : Int) (l : List Int) : evF C12 f4h n f4f [(D.p (Pt.one (L.d (Pv.fz true) (Sh.i IntKind.u8) z))), (D.p (Pt.one (L.d (Pv.fz false) (Sh.l (Sh.i IntKind.u8)) l)))] [] = f4M n z l := by
  rw [f4T_ev, f4W0_ev]
  rfl

abbrev f6h : Hn := h6
noncomputable abbrev f6f : Func := fn 6
abbrev f6G0 := (List Int) → (List Int) → Int → Int → Int → Int → (List Int) → (List Int) → Option Lf
noncomputable def f6H0 (x0_0 : List Int) (x0_1 : List Int) (x0_2 : Int) (x0_3 : Int) (x0_4 : Int) (x0_5 : Int) (x0_6 : List Int) (x0_7 : List Int) : St := (St.mk [dead, (D.p (Pt.one (L.d (Pv.fz false) (Sh.l (Sh.i IntKind.u8)) x0_0))), (D.p (Pt.one (L.d (Pv.fz false) (Sh.l (Sh.i IntKind.u8)) x0_1))), dead, dead, dead, dead, (D.p (Pt.one (L.d (Pv.fz true) (Sh.i IntKind.i64) x0_2))), (D.p (Pt.one (L.pv (Id.mk 1 0) 0))), dead, (D.p (Pt.one (L.pv (Id.mk 1 1) 0))), dead, (D.p (Pt.one (L.d (Pv.fz true) (Sh.i IntKind.i64) x0_3))), dead, dead, dead, dead, dead, dead, dead, dead, dead, dead, dead, dead, dead, dead, dead, dead, dead, dead, dead, dead, dead, dead, dead, dead, dead, dead, dead, dead, dead, dead, dead, dead, dead, dead, dead, dead, dead, dead, dead, dead, dead, dead, dead, dead, dead, dead, dead, dead, dead, dead, dead, dead, dead, dead, dead, dead, dead, dead, dead, dead, dead, dead, dead, dead, dead, dead, dead, dead, dead, dead, dead, dead, dead, dead, dead, dead, dead, dead, dead, dead, dead, dead, dead, dead, dead, dead, dead, dead, dead, dead, dead, dead, dead, dead, dead, dead, dead, dead, dead, dead, dead, dead, dead, dead, dead, dead, dead, dead, dead, dead, dead, dead, dead, dead, dead, dead, dead, dead, dead, dead, dead, dead, dead, dead, dead, dead, dead, dead, dead, dead, dead, dead, dead, dead, dead, dead, dead, dead, dead] [[], [(Ob.va [(L.d (Pv.fz true) (Sh.i IntKind.i64) x0_4), (L.rw (Id.mk 1 2))]), (Ob.va [(L.d (Pv.fz true) (Sh.i IntKind.i64) x0_5), (L.rw (Id.mk 1 3))]), (Ob.ro true 0 60 (Sh.i IntKind.u64) Ow.z x0_6 Option.none), (Ob.ro true 0 60 (Sh.i IntKind.u64) Ow.z x0_7 Option.none)]])
noncomputable def f6W0 (G : St → Option Lf) : f6G0 := fun x0_0 x0_1 x0_2 x0_3 x0_4 x0_5 x0_6 x0_7 => G (f6H0 x0_0 x0_1 x0_2 x0_3 x0_4 x0_5 x0_6 x0_7)
abbrev f6G1 := (List Int) → Int → Int → Int → Int → (List Int) → (List Int) → Option Lf
noncomputable def f6H1 (x1_0 : List Int) (x1_1 : Int) (x1_2 : Int) (x1_3 : Int) (x1_4 : Int) (x1_5 : List Int) (x1_6 : List Int) : St := (St.mk [dead, dead, (D.p (Pt.one (L.d (Pv.fz false) (Sh.l (Sh.i IntKind.u8)) x1_0))), dead, dead, dead, dead, (D.p (Pt.one (L.d (Pv.fz true) (Sh.i IntKind.i64) x1_1))), (D.p (Pt.one (L.pv (Id.mk 1 0) 0))), dead, (D.p (Pt.one (L.pv (Id.mk 1 1) 0))), dead, dead, (D.p (Pt.one (L.d (Pv.fz true) (Sh.i IntKind.i64) x1_2))), dead, dead, dead, dead, dead, dead, dead, dead, dead, dead, dead, dead, dead, dead, dead, dead, dead, dead, dead, dead, dead, dead, dead, dead, dead, dead, dead, dead, dead, dead, dead, dead, dead, dead, dead, dead, dead, dead, dead, dead, dead, dead, dead, dead, dead, dead, dead, dead, dead, dead, dead, dead, dead, dead, dead, dead, dead, dead, dead, dead, dead, dead, dead, dead, dead, dead, dead, dead, dead, dead, dead, dead, dead, dead, dead, dead, dead, dead, dead, dead, dead, dead, dead, dead, dead, dead, dead, dead, dead, dead, dead, dead, dead, dead, dead, dead, dead, dead, dead, dead, dead, dead, dead, dead, dead, dead, dead, dead, dead, dead, dead, dead, dead, dead, dead, dead, dead, dead, dead, dead, dead, dead, dead, dead, dead, dead, dead, dead, dead, dead, dead, dead, dead, dead, dead, dead, dead, dead] [[], [(Ob.va [(L.d (Pv.fz true) (Sh.i IntKind.i64) x1_3), (L.rw (Id.mk 1 2))]), (Ob.va [(L.d (Pv.fz true) (Sh.i IntKind.i64) x1_4), (L.rw (Id.mk 1 3))]), (Ob.ro true 0 60 (Sh.i IntKind.u64) Ow.z x1_5 Option.none), (Ob.ro true 0 60 (Sh.i IntKind.u64) Ow.z x1_6 Option.none)]])
noncomputable def f6W1 (G : St → Option Lf) : f6G1 := fun x1_0 x1_1 x1_2 x1_3 x1_4 x1_5 x1_6 => G (f6H1 x1_0 x1_1 x1_2 x1_3 x1_4 x1_5 x1_6)
noncomputable def f6S1  (g1 : f6G1) (x1_0 : List Int) (x1_1 : Int) (x1_2 : Int) (x1_3 : Int) (x1_4 : Int) (x1_5 : List Int) (x1_6 : List Int) : Option Lf :=
 bif decide (x1_2 < zn x1_0.length) then
  bif inb x1_2 x1_0.length then
   bif decide (x1_1 ≠ 0) then
    bif okS x1_4 x1_6 then
     g1 (x1_0 : List Int) (x1_1 : Int) (IntKind.i64.wrap (x1_2 + 1) : Int) (x1_3 : Int) (x1_4 : Int) (x1_5 : List Int) (addW x1_4 x1_6 ((IntKind.i64.wrap (x1_0.getD x1_2.toNat 0)).tmod x1_1) : List Int)
    else
     none
   else
    none
  else
   none
 else
  bif okS x1_3 x1_5 then
   bif okS x1_3 x1_5 then
    bif okS x1_3 x1_5 then
     bif okS x1_3 x1_5 then
      bif okS x1_3 (turnW BinOp.or x1_3 x1_5 x1_6) then
       bif okS x1_3 x1_5 then
        bif okS x1_4 x1_6 then
         bif okS x1_3 (turnW BinOp.and x1_3 x1_5 x1_6) then
          bif zn (cnt (turnW BinOp.or x1_3 x1_5 x1_6)) != IntKind.i64.wrap (IntKind.i64.wrap (zn (cnt x1_5) + zn (cnt x1_6)) - zn (cnt (turnW BinOp.and x1_3 x1_5 x1_6))) then
           some (Lf.mk [(Pt.one (L.d (Pv.fz true) Sh.b (false : Bool)))] [] [])
          else
           bif okS x1_3 (turnW BinOp.or x1_3 x1_5 x1_6) then
            bif turnB BinOp.or x1_3 (turnW BinOp.or x1_3 x1_5 x1_6) x1_6 then
             some (Lf.mk [(Pt.one (L.d (Pv.fz true) Sh.b (false : Bool)))] [] [])
            else
             bif okS x1_3 (turnW BinOp.or x1_3 (turnW BinOp.or x1_3 x1_5 x1_6) x1_6) then
              bif turnB BinOp.or x1_3 (turnW BinOp.or x1_3 (turnW BinOp.or x1_3 x1_5 x1_6) x1_6) x1_5 then
               some (Lf.mk [(Pt.one (L.d (Pv.fz true) Sh.b (false : Bool)))] [] [])
              else
               bif okS x1_3 (turnW BinOp.or x1_3 (turnW BinOp.or x1_3 (turnW BinOp.or x1_3 x1_5 x1_6) x1_6) x1_5) then
                bif okS x1_3 x1_5 then
                 bif okS x1_3 (turnW BinOp.andNot x1_3 (turnW BinOp.or x1_3 (turnW BinOp.or x1_3 (turnW BinOp.or x1_3 x1_5 x1_6) x1_6) x1_5) x1_6) && okS x1_3 (turnW BinOp.andNot x1_3 x1_5 (turnW BinOp.and x1_3 x1_5 x1_6)) then
                  bif !(x1_3 == x1_3 && sameI (turnW BinOp.andNot x1_3 (turnW BinOp.or x1_3 (turnW BinOp.or x1_3 (turnW BinOp.or x1_3 x1_5 x1_6) x1_6) x1_5) x1_6) (turnW BinOp.andNot x1_3 x1_5 (turnW BinOp.and x1_3 x1_5 x1_6))) then
                   some (Lf.mk [(Pt.one (L.d (Pv.fz true) Sh.b (false : Bool)))] [] [])
                  else
                   bif okS x1_3 (turnW BinOp.andNot x1_3 x1_5 (turnW BinOp.and x1_3 x1_5 x1_6)) && okS x1_3 (turnW BinOp.andNot x1_3 (turnW BinOp.or x1_3 (turnW BinOp.or x1_3 (turnW BinOp.or x1_3 x1_5 x1_6) x1_6) x1_5) x1_6) then
                    bif !(x1_3 == x1_3 && sameI (turnW BinOp.andNot x1_3 x1_5 (turnW BinOp.and x1_3 x1_5 x1_6)) (turnW BinOp.andNot x1_3 (turnW BinOp.or x1_3 (turnW BinOp.or x1_3 (turnW BinOp.or x1_3 x1_5 x1_6) x1_6) x1_5) x1_6)) then
                     some (Lf.mk [(Pt.one (L.d (Pv.fz true) Sh.b (false : Bool)))] [] [])
                    else
                     bif okS x1_3 (turnW BinOp.andNot x1_3 (turnW BinOp.or x1_3 (turnW BinOp.or x1_3 (turnW BinOp.or x1_3 x1_5 x1_6) x1_6) x1_5) x1_6) then
                      bif turnB BinOp.andNot x1_3 (turnW BinOp.andNot x1_3 (turnW BinOp.or x1_3 (turnW BinOp.or x1_3 (turnW BinOp.or x1_3 x1_5 x1_6) x1_6) x1_5) x1_6) x1_6 then
                       some (Lf.mk [(Pt.one (L.d (Pv.fz true) Sh.b (false : Bool)))] [] [])
                      else
                       bif okS x1_3 (turnW BinOp.andNot x1_3 (turnW BinOp.andNot x1_3 (turnW BinOp.or x1_3 (turnW BinOp.or x1_3 (turnW BinOp.or x1_3 x1_5 x1_6) x1_6) x1_5) x1_6) x1_6) then
                        bif okS x1_3 (turnW BinOp.andNot x1_3 (turnW BinOp.andNot x1_3 (turnW BinOp.or x1_3 (turnW BinOp.or x1_3 (turnW BinOp.or x1_3 x1_5 x1_6) x1_6) x1_5) x1_6) x1_6) then
                         bif okS x1_3 (addW x1_3 (turnW BinOp.andNot x1_3 (turnW BinOp.andNot x1_3 (turnW BinOp.or x1_3 (turnW BinOp.or x1_3 (turnW BinOp.or x1_3 x1_5 x1_6) x1_6) x1_5) x1_6) x1_6) 0) then
                          bif decide (0 ≤ IntKind.i64.wrap (x1_1 + 1)) && decide (IntKind.i64.wrap (x1_1 + 1) ≤ 4096) then
                           bif okS x1_3 (turnW BinOp.andNot x1_3 (turnW BinOp.andNot x1_3 (turnW BinOp.or x1_3 (turnW BinOp.or x1_3 (turnW BinOp.or x1_3 x1_5 x1_6) x1_6) x1_5) x1_6) x1_6) && okS x1_3 (turnW BinOp.andNot x1_3 x1_5 (turnW BinOp.and x1_3 x1_5 x1_6)) then
                            bif x1_3 == x1_3 && sameI (turnW BinOp.andNot x1_3 (turnW BinOp.andNot x1_3 (turnW BinOp.or x1_3 (turnW BinOp.or x1_3 (turnW BinOp.or x1_3 x1_5 x1_6) x1_6) x1_5) x1_6) x1_6) (turnW BinOp.andNot x1_3 x1_5 (turnW BinOp.and x1_3 x1_5 x1_6)) then
                             bif okS (IntKind.i64.wrap (x1_1 + 1)) (List.replicate (((IntKind.i64.wrap (x1_1 + 1)).toNat + 63) / 64) 0) && okS x1_4 x1_6 then
                              bif !(IntKind.i64.wrap (x1_1 + 1) == x1_4 && sameI (List.replicate (((IntKind.i64.wrap (x1_1 + 1)).toNat + 63) / 64) 0) x1_6) then
                               some (Lf.mk [(Pt.one (L.d (Pv.fz true) Sh.b (true : Bool)))] [] [])
                              else
                               some (Lf.mk [(Pt.one (L.d (Pv.fz true) Sh.b (false : Bool)))] [] [])
                             else
                              none
                            else
                             some (Lf.mk [(Pt.one (L.d (Pv.fz true) Sh.b (false : Bool)))] [] [])
                           else
                            none
                          else
                           none
                         else
                          none
                        else
                         none
                       else
                        none
                     else
                      none
                   else
                    none
                 else
                  none
                else
                 none
               else
                none
             else
              none
           else
            none
         else
          none
        else
         none
       else
        none
      else
       none
     else
      none
    else
     none
   else
    none
  else
   none
noncomputable def f6L1 (n : Nat)  : Nat → f6G1
  | 0 => fun _ _ _ _ _ _ _ => none
  | m + 1 => fun x1_0 x1_1 x1_2 x1_3 x1_4 x1_5 x1_6 => f6S1   (f6L1 n  m) x1_0 x1_1 x1_2 x1_3 x1_4 x1_5 x1_6
theorem f6S1_ev (n : Nat)  (G : St → Option Lf) (x1_0 : List Int) (x1_1 : Int) (x1_2 : Int) (x1_3 : Int) (x1_4 : Int) (x1_5 : List Int) (x1_6 : List Int) : rnd C12 f6h n Lf (codeOf f6f) [1, 1, 1, 1, 1, 1, 1, 0, 1, 0] [] (endK C12 f6h f6f) G (f6H1 x1_0 x1_1 x1_2 x1_3 x1_4 x1_5 x1_6) = f6S1   (f6W1 G) x1_0 x1_1 x1_2 x1_3 x1_4 x1_5 x1_6 := by kernel_rfl
theorem f6W1_ev (n : Nat)  : ∀ m, (f6W1 (lp C12 f6h n Lf (codeOf f6f) [1, 1, 1, 1, 1, 1, 1, 0, 1, 0] [] (endK C12 f6h f6f) m)) = f6L1 n  m := by
  intro m
  induction m with
  | zero => funext x1_0 x1_1 x1_2 x1_3 x1_4 x1_5 x1_6; exact lp_zero _
  | succ m ih =>
    funext x1_0 x1_1 x1_2 x1_3 x1_4 x1_5 x1_6
    show lp C12 f6h n Lf (codeOf f6f) [1, 1, 1, 1, 1, 1, 1, 0, 1, 0] [] (endK C12 f6h f6f) (m + 1) (f6H1 x1_0 x1_1 x1_2 x1_3 x1_4 x1_5 x1_6) = f6S1   (f6L1 n  m) x1_0 x1_1 x1_2 x1_3 x1_4 x1_5 x1_6
    rw [lp_succ, f6S1_ev, ih]
noncomputable def f6S0 (l1 : f6G1) (g0 : f6G0) (x0_0 : List Int) (x0_1 : List Int) (x0_2 : Int) (x0_3 : Int) (x0_4 : Int) (x0_5 : Int) (x0_6 : List Int) (x0_7 : List Int) : Option Lf :=
 bif decide (x0_3 < zn x0_0.length) then
  bif inb x0_3 x0_0.length then
   bif decide (x0_2 ≠ 0) then
    bif okS x0_4 x0_6 then
     g0 (x0_0 : List Int) (x0_1 : List Int) (x0_2 : Int) (IntKind.i64.wrap (x0_3 + 1) : Int) (x0_4 : Int) (x0_5 : Int) (addW x0_4 x0_6 ((IntKind.i64.wrap (x0_0.getD x0_3.toNat 0)).tmod x0_2) : List Int) (x0_7 : List Int)
    else
     none
   else
    none
  else
   none
 else
  l1 (x0_1 : List Int) (x0_2 : Int) (0 : Int) (x0_4 : Int) (x0_5 : Int) (x0_6 : List Int) (x0_7 : List Int)
noncomputable def f6L0 (n : Nat)  : Nat → f6G0
  | 0 => fun _ _ _ _ _ _ _ _ => none
  | m + 1 => fun x0_0 x0_1 x0_2 x0_3 x0_4 x0_5 x0_6 x0_7 => f6S0 (f6L1 n  n)  (f6L0 n  m) x0_0 x0_1 x0_2 x0_3 x0_4 x0_5 x0_6 x0_7
theorem f6S0_ev (n : Nat)  (G : St → Option Lf) (x0_0 : List Int) (x0_1 : List Int) (x0_2 : Int) (x0_3 : Int) (x0_4 : Int) (x0_5 : Int) (x0_6 : List Int) (x0_7 : List Int) : rnd C12 f6h n Lf (codeOf f6f) [1, 1, 1, 1, 1, 1, 0, 1, 0] [] (endK C12 f6h f6f) G (f6H0 x0_0 x0_1 x0_2 x0_3 x0_4 x0_5 x0_6 x0_7) = f6S0 (f6W1 (lp C12 f6h n Lf (codeOf f6f) [1, 1, 1, 1, 1, 1, 1, 0, 1, 0] [] (endK C12 f6h f6f) n))  (f6W0 G) x0_0 x0_1 x0_2 x0_3 x0_4 x0_5 x0_6 x0_7 := by kernel_rfl
theorem f6W0_ev (n : Nat)  : ∀ m, (f6W0 (lp C12 f6h n Lf (codeOf f6f) [1, 1, 1, 1, 1, 1, 0, 1, 0] [] (endK C12 f6h f6f) m)) = f6L0 n  m := by
  intro m
  induction m with
  | zero => funext x0_0 x0_1 x0_2 x0_3 x0_4 x0_5 x0_6 x0_7; exact lp_zero _
  | succ m ih =>
    have e1 : (f6W1 (lp C12 f6h n Lf (codeOf f6f) [1, 1, 1, 1, 1, 1, 1, 0, 1, 0] [] (endK C12 f6h f6f) n)) = (f6L1 n  n) := by
      rw [f6W1_ev]
    funext x0_0 x0_1 x0_2 x0_3 x0_4 x0_5 x0_6 x0_7
    show lp C12 f6h n Lf (codeOf f6f) [1, 1, 1, 1, 1, 1, 0, 1, 0] [] (endK C12 f6h f6f) (m + 1) (f6H0 x0_0 x0_1 x0_2 x0_3 x0_4 x0_5 x0_6 x0_7) = f6S0 (f6L1 n  n)  (f6L0 n  m) x0_0 x0_1 x0_2 x0_3 x0_4 x0_5 x0_6 x0_7
    rw [lp_succ, f6S0_ev, ih, e1]
noncomputable def f6T (l0 : f6G0) (z : Int) (a : List Int) (b : List Int) : Option Lf :=
 bif decide (zn a.length > 200) || decide (zn b.length > 200) then
  some (Lf.mk [(Pt.one (L.d (Pv.fz true) Sh.b (true : Bool)))] [] [])
 else
  bif decide (0 ≤ IntKind.i64.wrap (IntKind.i64.wrap z + 1)) && decide (IntKind.i64.wrap (IntKind.i64.wrap z + 1) ≤ 4096) then
   bif decide (0 ≤ IntKind.i64.wrap (IntKind.i64.wrap z + 1)) && decide (IntKind.i64.wrap (IntKind.i64.wrap z + 1) ≤ 4096) then
    l0 (a : List Int) (b : List Int) (IntKind.i64.wrap (IntKind.i64.wrap z + 1) : Int) (0 : Int) (IntKind.i64.wrap (IntKind.i64.wrap z + 1) : Int) (IntKind.i64.wrap (IntKind.i64.wrap z + 1) : Int) (List.replicate (((IntKind.i64.wrap (IntKind.i64.wrap z + 1)).toNat + 63) / 64) 0 : List Int) (List.replicate (((IntKind.i64.wrap (IntKind.i64.wrap z + 1)).toNat + 63) / 64) 0 : List Int)
   else
    none
  else
   none
noncomputable def f6M (n : Nat) (z : Int) (a : List Int) (b : List Int) : Option Lf := f6T (f6L0 n n) z a b
theorem f6T_ev (n : Nat) (z : Int) (a : List Int) (b : List Int) : evF C12 f6h n f6f [(D.p (Pt.one (L.d (Pv.fz true) (Sh.i IntKind.u8) z))), (D.p (Pt.one (L.d (Pv.fz false) (Sh.l (Sh.i IntKind.u8)) a))), (D.p (Pt.one (L.d (Pv.fz false) (Sh.l (Sh.i IntKind.u8)) b)))] [] = f6T (f6W0 (lp C12 f6h n Lf (codeOf f6f) [1, 1, 1, 1, 1, 1, 0, 1, 0] [] (endK C12 f6h f6f) n)) z a b := by kernel_rfl
theorem f6_ev (n : Nat) (z : Int) (a : List Int) (b : List Int) : evF C12 f6h n f6f [(D.p (Pt.one (L.d (Pv.fz true) (Sh.i IntKind.u8) z))), (D.p (Pt.one (L.d (Pv.fz false) (Sh.l (Sh.i IntKind.u8)) a))), (D.p (Pt.one (L.d (Pv.fz false) (Sh.l (Sh.i IntKind.u8)) b)))] [] = f6M n z a b := by
  rw [f6T_ev, f6W0_ev]
  rfl
end Go.S1
