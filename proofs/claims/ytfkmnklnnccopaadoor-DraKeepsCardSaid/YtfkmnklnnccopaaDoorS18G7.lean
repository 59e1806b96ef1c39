/-
  Seat 18: part: the form.
-/
import Derived.Test.YtfkmnklnnccopaaDoorS18V
open Go Go.En Go.S18
namespace Go.S18


abbrev f39h : Hn := h39
noncomputable abbrev f39f : Func := fn 39
abbrev f39G0 := (List Int) → (List Int) → Int → Int → (List Int) → Option Lf
noncomputable def f39H0 (x0_0 : List Int) (x0_1 : List Int) (x0_2 : Int) (x0_3 : Int) (x0_4 : List Int) : St := (St.mk [dead, (D.p (Pt.one (L.d (Pv.fz false) (Sh.l (Sh.i IntKind.i64)) x0_0))), dead, dead, dead, (D.p (Pt.one (L.rw (Id.mk 1 0)))), dead, dead, (D.p (Pt.one (L.d (Pv.fz false) (Sh.l (Sh.i IntKind.i64)) x0_1))), (D.p (Pt.one (L.d (Pv.fz true) (Sh.i IntKind.i64) x0_2))), (D.p (Pt.one (L.d (Pv.fz true) (Sh.i IntKind.i64) x0_3))), dead, dead, dead, dead, dead, dead, dead, dead, dead, dead, dead, dead, dead, dead, dead, dead, dead, dead, dead, dead] [[], [(Ob.ro true 0 3 (Sh.i IntKind.i64) Ow.z x0_4 Option.none)]])
noncomputable def f39W0 (G : St → Option Lf) : f39G0 := fun x0_0 x0_1 x0_2 x0_3 x0_4 => G (f39H0 x0_0 x0_1 x0_2 x0_3 x0_4)
noncomputable def f39S0  (g0 : f39G0) (x0_0 : List Int) (x0_1 : List Int) (x0_2 : Int) (x0_3 : Int) (x0_4 : List Int) : Option Lf :=
 bif decide (x0_3 < x0_2) then
  bif inb x0_3 x0_1.length then
   bif inb (x0_1.getD x0_3.toNat 0) x0_0.length then
    bif decide (x0_0.getD (x0_1.getD x0_3.toNat 0).toNat 0 > 0) then
     bif inb (x0_1.getD x0_3.toNat 0) x0_0.length then
      bif decide ((x0_4.length + [IntKind.i64.wrap (x0_0.getD (x0_1.getD x0_3.toNat 0).toNat 0 - 1)].length) * 8 ≤ 140737488355328) then
       g0 (x0_0 : List Int) (x0_1 : List Int) (x0_2 : Int) (IntKind.i64.wrap (x0_3 + 1) : Int) (x0_4 ++ [IntKind.i64.wrap (x0_0.getD (x0_1.getD x0_3.toNat 0).toNat 0 - 1)] : List Int)
      else
       none
     else
      none
    else
     g0 (x0_0 : List Int) (x0_1 : List Int) (x0_2 : Int) (IntKind.i64.wrap (x0_3 + 1) : Int) (x0_4 : List Int)
   else
    none
  else
   none
 else
  bif x0_4.length.ble 1000000 then
   some (Lf.mk [(Pt.one (L.rw (Id.mk 1 0)))] [] [(Ob.ro true 0 3 (Sh.i IntKind.i64) Ow.z (x0_4.mergeSort fun (x y : Int) => decide (x ≤ y) : List Int) Option.none)])
  else
   none
noncomputable def f39L0 (n : Nat)  : Nat → f39G0
  | 0 => fun _ _ _ _ _ => none
  | m + 1 => fun x0_0 x0_1 x0_2 x0_3 x0_4 => f39S0   (f39L0 n  m) x0_0 x0_1 x0_2 x0_3 x0_4
theorem f39S0_ev (n : Nat)  (G : St → Option Lf) (x0_0 : List Int) (x0_1 : List Int) (x0_2 : Int) (x0_3 : Int) (x0_4 : List Int) : rnd C17 f39h n Lf (codeOf f39f) [1, 1, 0, 1, 0] [] (endK C17 f39h f39f) G (f39H0 x0_0 x0_1 x0_2 x0_3 x0_4) = f39S0   (f39W0 G) x0_0 x0_1 x0_2 x0_3 x0_4 := by kernel_rfl
theorem f39W0_ev (n : Nat)  : ∀ m, (f39W0 (lp C17 f39h n Lf (codeOf f39f) [1, 1, 0, 1, 0] [] (endK C17 f39h f39f) m)) = f39L0 n  m := by
  intro m
  induction m with
  | zero => funext x0_0 x0_1 x0_2 x0_3 x0_4; exact lp_zero _
  | succ m ih =>
    funext x0_0 x0_1 x0_2 x0_3 x0_4
    show lp C17 f39h n Lf (codeOf f39f) [1, 1, 0, 1, 0] [] (endK C17 f39h f39f) (m + 1) (f39H0 x0_0 x0_1 x0_2 x0_3 x0_4) = f39S0   (f39L0 n  m) x0_0 x0_1 x0_2 x0_3 x0_4
    rw [lp_succ, f39S0_ev, ih]
noncomputable def f39T (l0 : f39G0) (l : List Int) (num : List Int) : Option Lf :=
 l0 (num : List Int) (l : List Int) (zn l.length : Int) (0 : Int) ([] : List Int)
noncomputable def f39M (n : Nat) (l : List Int) (num : List Int) : Option Lf := f39T (f39L0 n n) l num
theorem f39T_ev (n : Nat) (l : List Int) (num : List Int) : evF C17 f39h n f39f [(D.p (Pt.one (L.d (Pv.fz false) (Sh.l (Sh.i IntKind.i64)) l))), (D.p (Pt.one (L.d (Pv.fz false) (Sh.l (Sh.i IntKind.i64)) num)))] [] = f39T (f39W0 (lp C17 f39h n Lf (codeOf f39f) [1, 1, 0, 1, 0] [] (endK C17 f39h f39f) n)) l num := by kernel_rfl
theorem f39_ev (n : Nat) (l : List Int) (num : List Int) : evF C17 f39h n f39f [(D.p (Pt.one (L.d (Pv.fz false) (Sh.l (Sh.i IntKind.i64)) l))), (D.p (Pt.one (L.d (Pv.fz false) (Sh.l (Sh.i IntKind.i64)) num)))] [] = f39M n l num := by
  rw [f39T_ev, f39W0_ev]
  rfl
end Go.S18
