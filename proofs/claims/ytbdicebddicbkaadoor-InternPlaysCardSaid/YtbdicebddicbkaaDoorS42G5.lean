/-
  Seat 02 (plays): functional form of InternPlays.
-/
import Derived.Test.YtbdicebddicbkaaDoorS42G4
open Go Go.En Go.S2
namespace Go.S2
noncomputable def l5 : List (Nat × En.Spec) := (4, aliveS) :: (6, rfindS) :: l4
noncomputable def C5 : Ctx := ctxOf C0 l5
def h3 : Hn := ⟨fun | 8 => [0, 1, 5, 6, 7] | _ => [], fun | 8 => [⟨6, none, 26, .z⟩] | _ => [], fun _ => false⟩

abbrev f3h : Hn := h3
noncomputable abbrev f3f : Func := fn 3
abbrev f3G0 := (List (List Int)) → Int → Int → (List Int) → (List (List Int)) → (List (List Int)) → (List Int) → Option Lf
noncomputable def f3H0 (x0_0 : List (List Int)) (x0_1 : Int) (x0_2 : Int) (x0_3 : List Int) (x0_4 : List (List Int)) (x0_5 : List (List Int)) (x0_6 : List Int) : St := (St.mk [(D.p (Pt.one (L.d (Pv.fz false) (Sh.l (Sh.l (Sh.i IntKind.i32))) x0_0))), (D.p (Pt.one (L.d (Pv.fz true) (Sh.i IntKind.i64) x0_1))), dead, dead, dead, (D.p (Pt.one (L.pv (Id.mk 1 0) 0))), (D.p (Pt.one (L.rw (Id.mk 1 1)))), (D.p (Pt.one (L.d (Pv.fz true) (Sh.i IntKind.i64) x0_2))), dead, dead, dead, dead, dead, dead, dead, dead, dead, dead, dead, dead, dead, dead, dead, dead, dead, dead, dead, dead, dead, dead, dead, dead, dead, dead, dead, dead, dead, dead, dead, dead, dead, dead, dead, dead, dead, dead, dead, dead, dead, dead, dead, dead, dead, dead, dead, dead, dead, dead, dead, dead, dead, dead, dead, dead, dead, dead, dead, dead, dead, dead, dead, dead, dead, dead, dead, dead, dead, dead, dead, dead, dead, dead, dead, dead, dead, dead, dead, dead, dead, dead, dead, dead, dead, dead, dead, dead, dead, dead, dead, dead, dead, dead, dead, dead, dead, dead, dead, dead, dead, dead, dead, dead, dead, dead, dead, dead, dead, dead, dead, dead, dead, dead, dead, dead, dead, dead, dead, dead, dead, dead, dead, dead, dead, dead, dead, dead, dead, dead, dead, dead, dead, dead, dead, dead, dead, dead, dead, dead, dead, dead, dead, dead, dead, dead, dead, dead, dead, dead, dead, dead, dead, dead, dead, dead] [[], [(Ob.va [(L.rw (Id.mk 1 2)), (L.d (Pv.fz true) (Sh.v 257 (Sh.i IntKind.i64)) x0_3), (L.rw (Id.mk 1 3))]), (Ob.ro false 0 26 (Sh.l (Sh.i IntKind.i32)) Ow.z x0_4 Option.none), (Ob.ro true 0 26 (Sh.l (Sh.i IntKind.i32)) (Ow.l 21 Ow.z) x0_5 Option.none), (Ob.ro true 0 3 (Sh.i IntKind.i64) Ow.z x0_6 Option.none)]])
noncomputable def f3W0 (G : St → Option Lf) : f3G0 := fun x0_0 x0_1 x0_2 x0_3 x0_4 x0_5 x0_6 => G (f3H0 x0_0 x0_1 x0_2 x0_3 x0_4 x0_5 x0_6)
noncomputable def f3S0  (g0 : f3G0) (x0_0 : List (List Int)) (x0_1 : Int) (x0_2 : Int) (x0_3 : List Int) (x0_4 : List (List Int)) (x0_5 : List (List Int)) (x0_6 : List Int) : Option Lf :=
 bif decide (x0_2 < zn x0_0.length) then
  bif inb x0_2 x0_0.length then
   bif decide (zn (x0_0.getD x0_2.toNat []).length > 200) then
    some (Lf.mk [(Pt.one (L.d (Pv.fz true) Sh.b (true : Bool)))] [] [])
   else
    bif inb x0_2 x0_0.length then
     bif x0_4.length.ble 100000 && (bigs x0_4 && big (x0_0.getD x0_2.toNat [])) then
      bif inb x0_2 x0_0.length then
       bif okT x0_5 x0_3 x0_6 && big (x0_0.getD x0_2.toNat []) then
        bif !(fnd x0_5 (x0_0.getD x0_2.toNat [])).snd == decide (rfind x0_4 (x0_0.getD x0_2.toNat []) ≥ 0) || (fnd x0_5 (x0_0.getD x0_2.toNat [])).snd && (fnd x0_5 (x0_0.getD x0_2.toNat [])).fst != rfind x0_4 (x0_0.getD x0_2.toNat []) then
         some (Lf.mk [(Pt.one (L.d (Pv.fz true) Sh.b (false : Bool)))] [] [])
        else
         bif inb x0_2 x0_0.length then
          bif okT x0_5 (firstOf x0_5) (nextOf x0_5) && big (x0_0.getD x0_2.toNat []) then
           bif putB x0_5 (x0_0.getD x0_2.toNat []) then
            bif inb x0_2 x0_0.length then
             bif decide (zn (x0_0.getD x0_2.toNat []).length > 64) then
              bif numOf Er.nil != 2 || (putN x0_5 (x0_0.getD x0_2.toNat []) != 0 || true) then
               some (Lf.mk [(Pt.one (L.d (Pv.fz true) Sh.b (false : Bool)))] [] [])
              else
               g0 (x0_0 : List (List Int)) (x0_1 : Int) (IntKind.i64.wrap (x0_2 + 1) : Int) (firstOf (x0_5 ++ [x0_0.getD x0_2.toNat []]) : List Int) (x0_4 : List (List Int)) (x0_5 ++ [x0_0.getD x0_2.toNat []] : List (List Int)) (nextOf (x0_5 ++ [x0_0.getD x0_2.toNat []]) : List Int)
             else
              bif decide (rfind x0_4 (x0_0.getD x0_2.toNat []) < 0) then
               bif inb x0_2 x0_0.length then
                bif decide ((x0_4.length + [x0_0.getD x0_2.toNat []].length) * 24 ≤ 140737488355328) then
                 bif putN x0_5 (x0_0.getD x0_2.toNat []) != zn x0_4.length then
                  some (Lf.mk [(Pt.one (L.d (Pv.fz true) Sh.b (false : Bool)))] [] [])
                 else
                  bif true == (fnd x0_5 (x0_0.getD x0_2.toNat [])).snd then
                   some (Lf.mk [(Pt.one (L.d (Pv.fz true) Sh.b (false : Bool)))] [] [])
                  else
                   bif okT (x0_5 ++ [x0_0.getD x0_2.toNat []]) (firstOf (x0_5 ++ [x0_0.getD x0_2.toNat []])) (nextOf (x0_5 ++ [x0_0.getD x0_2.toNat []])) then
                    bif zn (x0_5 ++ [x0_0.getD x0_2.toNat []]).length != zn (x0_4 ++ [x0_0.getD x0_2.toNat []]).length then
                     some (Lf.mk [(Pt.one (L.d (Pv.fz true) Sh.b (false : Bool)))] [] [])
                    else
                     bif okT (x0_5 ++ [x0_0.getD x0_2.toNat []]) (firstOf (x0_5 ++ [x0_0.getD x0_2.toNat []])) (nextOf (x0_5 ++ [x0_0.getD x0_2.toNat []])) then
                      bif !(atF (x0_5 ++ [x0_0.getD x0_2.toNat []]) (zn x0_4.length)).snd || Nat.beq 1 1 && (inb x0_2 x0_0.length && (Nat.beq 1 1 && (Nat.beq 1 1 && (big (atF (x0_5 ++ [x0_0.getD x0_2.toNat []]) (zn x0_4.length)).fst && big (x0_0.getD x0_2.toNat []) && true)))) then
                       bif !(atF (x0_5 ++ [x0_0.getD x0_2.toNat []]) (zn x0_4.length)).snd || !same (atF (x0_5 ++ [x0_0.getD x0_2.toNat []]) (zn x0_4.length)).fst (x0_0.getD x0_2.toNat []) then
                        some (Lf.mk [(Pt.one (L.d (Pv.fz true) Sh.b (false : Bool)))] [] [])
                       else
                        g0 (x0_0 : List (List Int)) (x0_1 : Int) (IntKind.i64.wrap (x0_2 + 1) : Int) (firstOf (x0_5 ++ [x0_0.getD x0_2.toNat []]) : List Int) (x0_4 ++ [x0_0.getD x0_2.toNat []] : List (List Int)) (x0_5 ++ [x0_0.getD x0_2.toNat []] : List (List Int)) (nextOf (x0_5 ++ [x0_0.getD x0_2.toNat []]) : List Int)
                      else
                       none
                     else
                      none
                   else
                    none
                else
                 none
               else
                none
              else
               bif putN x0_5 (x0_0.getD x0_2.toNat []) != rfind x0_4 (x0_0.getD x0_2.toNat []) then
                some (Lf.mk [(Pt.one (L.d (Pv.fz true) Sh.b (false : Bool)))] [] [])
               else
                bif true == (fnd x0_5 (x0_0.getD x0_2.toNat [])).snd then
                 some (Lf.mk [(Pt.one (L.d (Pv.fz true) Sh.b (false : Bool)))] [] [])
                else
                 bif okT (x0_5 ++ [x0_0.getD x0_2.toNat []]) (firstOf (x0_5 ++ [x0_0.getD x0_2.toNat []])) (nextOf (x0_5 ++ [x0_0.getD x0_2.toNat []])) then
                  bif zn (x0_5 ++ [x0_0.getD x0_2.toNat []]).length != zn x0_4.length then
                   some (Lf.mk [(Pt.one (L.d (Pv.fz true) Sh.b (false : Bool)))] [] [])
                  else
                   bif okT (x0_5 ++ [x0_0.getD x0_2.toNat []]) (firstOf (x0_5 ++ [x0_0.getD x0_2.toNat []])) (nextOf (x0_5 ++ [x0_0.getD x0_2.toNat []])) then
                    bif !(atF (x0_5 ++ [x0_0.getD x0_2.toNat []]) (rfind x0_4 (x0_0.getD x0_2.toNat []))).snd || Nat.beq 1 1 && (inb x0_2 x0_0.length && (Nat.beq 1 1 && (Nat.beq 1 1 && (big (atF (x0_5 ++ [x0_0.getD x0_2.toNat []]) (rfind x0_4 (x0_0.getD x0_2.toNat []))).fst && big (x0_0.getD x0_2.toNat []) && true)))) then
                     bif !(atF (x0_5 ++ [x0_0.getD x0_2.toNat []]) (rfind x0_4 (x0_0.getD x0_2.toNat []))).snd || !same (atF (x0_5 ++ [x0_0.getD x0_2.toNat []]) (rfind x0_4 (x0_0.getD x0_2.toNat []))).fst (x0_0.getD x0_2.toNat []) then
                      some (Lf.mk [(Pt.one (L.d (Pv.fz true) Sh.b (false : Bool)))] [] [])
                     else
                      g0 (x0_0 : List (List Int)) (x0_1 : Int) (IntKind.i64.wrap (x0_2 + 1) : Int) (firstOf (x0_5 ++ [x0_0.getD x0_2.toNat []]) : List Int) (x0_4 : List (List Int)) (x0_5 ++ [x0_0.getD x0_2.toNat []] : List (List Int)) (nextOf (x0_5 ++ [x0_0.getD x0_2.toNat []]) : List Int)
                    else
                     none
                   else
                    none
                 else
                  none
            else
             none
           else
            bif inb x0_2 x0_0.length then
             bif decide (zn (x0_0.getD x0_2.toNat []).length > 64) then
              bif plain (putE (x0_0.getD x0_2.toNat [])) && true then
               bif numOf (putE (x0_0.getD x0_2.toNat [])) != 2 || putN x0_5 (x0_0.getD x0_2.toNat []) != 0 && true then
                some (Lf.mk [(Pt.one (L.d (Pv.fz true) Sh.b (false : Bool)))] [] [])
               else
                g0 (x0_0 : List (List Int)) (x0_1 : Int) (IntKind.i64.wrap (x0_2 + 1) : Int) (firstOf x0_5 : List Int) (x0_4 : List (List Int)) (x0_5 : List (List Int)) (nextOf x0_5 : List Int)
              else
               none
             else
              bif decide (rfind x0_4 (x0_0.getD x0_2.toNat []) < 0) then
               bif inb x0_2 x0_0.length then
                bif decide ((x0_4.length + [x0_0.getD x0_2.toNat []].length) * 24 ≤ 140737488355328) then
                 bif !(putE (x0_0.getD x0_2.toNat [])).isNil then
                  some (Lf.mk [(Pt.one (L.d (Pv.fz true) Sh.b (false : Bool)))] [] [])
                 else
                  bif putN x0_5 (x0_0.getD x0_2.toNat []) != zn x0_4.length then
                   some (Lf.mk [(Pt.one (L.d (Pv.fz true) Sh.b (false : Bool)))] [] [])
                  else
                   bif false == (fnd x0_5 (x0_0.getD x0_2.toNat [])).snd then
                    some (Lf.mk [(Pt.one (L.d (Pv.fz true) Sh.b (false : Bool)))] [] [])
                   else
                    bif okT x0_5 (firstOf x0_5) (nextOf x0_5) then
                     bif zn x0_5.length != zn (x0_4 ++ [x0_0.getD x0_2.toNat []]).length then
                      some (Lf.mk [(Pt.one (L.d (Pv.fz true) Sh.b (false : Bool)))] [] [])
                     else
                      bif okT x0_5 (firstOf x0_5) (nextOf x0_5) then
                       bif !(atF x0_5 (zn x0_4.length)).snd || Nat.beq 1 1 && (inb x0_2 x0_0.length && (Nat.beq 1 1 && (Nat.beq 1 1 && (big (atF x0_5 (zn x0_4.length)).fst && big (x0_0.getD x0_2.toNat []) && true)))) then
                        bif !(atF x0_5 (zn x0_4.length)).snd || !same (atF x0_5 (zn x0_4.length)).fst (x0_0.getD x0_2.toNat []) then
                         some (Lf.mk [(Pt.one (L.d (Pv.fz true) Sh.b (false : Bool)))] [] [])
                        else
                         g0 (x0_0 : List (List Int)) (x0_1 : Int) (IntKind.i64.wrap (x0_2 + 1) : Int) (firstOf x0_5 : List Int) (x0_4 ++ [x0_0.getD x0_2.toNat []] : List (List Int)) (x0_5 : List (List Int)) (nextOf x0_5 : List Int)
                       else
                        none
                      else
                       none
                    else
                     none
                else
                 none
               else
                none
              else
               bif !(putE (x0_0.getD x0_2.toNat [])).isNil then
                some (Lf.mk [(Pt.one (L.d (Pv.fz true) Sh.b (false : Bool)))] [] [])
               else
                bif putN x0_5 (x0_0.getD x0_2.toNat []) != rfind x0_4 (x0_0.getD x0_2.toNat []) then
                 some (Lf.mk [(Pt.one (L.d (Pv.fz true) Sh.b (false : Bool)))] [] [])
                else
                 bif false == (fnd x0_5 (x0_0.getD x0_2.toNat [])).snd then
                  some (Lf.mk [(Pt.one (L.d (Pv.fz true) Sh.b (false : Bool)))] [] [])
                 else
                  bif okT x0_5 (firstOf x0_5) (nextOf x0_5) then
                   bif zn x0_5.length != zn x0_4.length then
                    some (Lf.mk [(Pt.one (L.d (Pv.fz true) Sh.b (false : Bool)))] [] [])
                   else
                    bif okT x0_5 (firstOf x0_5) (nextOf x0_5) then
                     bif !(atF x0_5 (rfind x0_4 (x0_0.getD x0_2.toNat []))).snd || Nat.beq 1 1 && (inb x0_2 x0_0.length && (Nat.beq 1 1 && (Nat.beq 1 1 && (big (atF x0_5 (rfind x0_4 (x0_0.getD x0_2.toNat []))).fst && big (x0_0.getD x0_2.toNat []) && true)))) then
                      bif !(atF x0_5 (rfind x0_4 (x0_0.getD x0_2.toNat []))).snd || !same (atF x0_5 (rfind x0_4 (x0_0.getD x0_2.toNat []))).fst (x0_0.getD x0_2.toNat []) then
                       some (Lf.mk [(Pt.one (L.d (Pv.fz true) Sh.b (false : Bool)))] [] [])
                      else
                       g0 (x0_0 : List (List Int)) (x0_1 : Int) (IntKind.i64.wrap (x0_2 + 1) : Int) (firstOf x0_5 : List Int) (x0_4 : List (List Int)) (x0_5 : List (List Int)) (nextOf x0_5 : List Int)
                     else
                      none
                    else
                     none
                  else
                   none
            else
             none
          else
           none
         else
          none
       else
        none
      else
       none
     else
      none
    else
     none
  else
   none
 else
  bif okT x0_5 x0_3 x0_6 then
   bif bif decide (x0_1 ≥ 0) then bif (atF x0_5 x0_1).snd == decide (x0_1 < zn x0_4.length) then !(atF x0_5 x0_1).snd || Nat.beq 1 1 && (inb x0_1 x0_4.length && (Nat.beq 1 1 && (Nat.beq 1 1 && (big (atF x0_5 x0_1).fst && big (x0_4.getD x0_1.toNat []) && true)))) else true else bif (atF x0_5 x0_1).snd == false then !(atF x0_5 x0_1).snd || Nat.beq 1 1 && (inb x0_1 x0_4.length && (Nat.beq 1 1 && (Nat.beq 1 1 && (big (atF x0_5 x0_1).fst && big (x0_4.getD x0_1.toNat []) && true)))) else true then
    some (Lf.mk [(Pt.one (L.d (Pv.fz true) Sh.b (bif decide (x0_1 ≥ 0) then (atF x0_5 x0_1).snd == decide (x0_1 < zn x0_4.length) && (!(atF x0_5 x0_1).snd || same (atF x0_5 x0_1).fst (x0_4.getD x0_1.toNat [])) else (atF x0_5 x0_1).snd == false && (!(atF x0_5 x0_1).snd || same (atF x0_5 x0_1).fst (x0_4.getD x0_1.toNat [])) : Bool)))] [] [])
   else
    none
  else
   none
noncomputable def f3L0 (n : Nat)  : Nat → f3G0
  | 0 => fun _ _ _ _ _ _ _ => none
  | m + 1 => fun x0_0 x0_1 x0_2 x0_3 x0_4 x0_5 x0_6 => f3S0   (f3L0 n  m) x0_0 x0_1 x0_2 x0_3 x0_4 x0_5 x0_6
theorem f3S0_ev (n : Nat)  (G : St → Option Lf) (x0_0 : List (List Int)) (x0_1 : Int) (x0_2 : Int) (x0_3 : List Int) (x0_4 : List (List Int)) (x0_5 : List (List Int)) (x0_6 : List Int) : rnd C5 f3h n Lf (codeOf f3f) [1, 1, 1, 1, 1, 0, 1, 0] [] (endK C5 f3h f3f) G (f3H0 x0_0 x0_1 x0_2 x0_3 x0_4 x0_5 x0_6) = f3S0   (f3W0 G) x0_0 x0_1 x0_2 x0_3 x0_4 x0_5 x0_6 := by kernel_rfl
theorem f3W0_ev (n : Nat)  : ∀ m, (f3W0 (lp C5 f3h n Lf (codeOf f3f) [1, 1, 1, 1, 1, 0, 1, 0] [] (endK C5 f3h f3f) m)) = f3L0 n  m := by
  intro m
  induction m with
  | zero => funext x0_0 x0_1 x0_2 x0_3 x0_4 x0_5 x0_6; exact lp_zero _
  | succ m ih =>
    funext x0_0 x0_1 x0_2 x0_3 x0_4 x0_5 x0_6
    show lp C5 f3h n Lf (codeOf f3f) [1, 1, 1, 1, 1, 0, 1, 0] [] (endK C5 f3h f3f) (m + 1) (f3H0 x0_0 x0_1 x0_2 x0_3 x0_4 x0_5 x0_6) = f3S0   (f3L0 n  m) x0_0 x0_1 x0_2 x0_3 x0_4 x0_5 x0_6
    rw [lp_succ, f3S0_ev, ih]
noncomputable def f3T (l0 : f3G0) (l : List (List Int)) (i : Int) : Option Lf :=
 bif decide (zn l.length > 200) then
  some (Lf.mk [(Pt.one (L.d (Pv.fz true) Sh.b (true : Bool)))] [] [])
 else
  l0 (l : List (List Int)) (i : Int) (0 : Int) (firstOf [] : List Int) ([] : List (List Int)) ([] : List (List Int)) ([] : List Int)
noncomputable def f3M (n : Nat) (l : List (List Int)) (i : Int) : Option Lf := f3T (f3L0 n n) l i
theorem f3T_ev (n : Nat) (l : List (List Int)) (i : Int) : evF C5 f3h n f3f [(D.p (Pt.one (L.d (Pv.fz false) (Sh.l (Sh.l (Sh.i IntKind.i32))) l))), (D.p (Pt.one (L.d (Pv.fz true) (Sh.i IntKind.i64) i)))] [] = f3T (f3W0 (lp C5 f3h n Lf (codeOf f3f) [1, 1, 1, 1, 1, 0, 1, 0] [] (endK C5 f3h f3f) n)) l i := by kernel_rfl
theorem f3_ev (n : Nat) (l : List (List Int)) (i : Int) : evF C5 f3h n f3f [(D.p (Pt.one (L.d (Pv.fz false) (Sh.l (Sh.l (Sh.i IntKind.i32))) l))), (D.p (Pt.one (L.d (Pv.fz true) (Sh.i IntKind.i64) i)))] [] = f3M n l i := by
  rw [f3T_ev, f3W0_ev]
  rfl
end Go.S2
