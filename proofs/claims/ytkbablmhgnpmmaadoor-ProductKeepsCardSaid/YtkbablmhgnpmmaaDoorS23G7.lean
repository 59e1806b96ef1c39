/-
  Seat 23: what the laws compute.
-/
import Derived.Test.YtkbablmhgnpmmaaDoorS23K
open Go Go.En Go.S23
namespace Go.S23
noncomputable def l31 : List (Nat × En.Spec) := (8, aliveS) :: (9, farMS) :: (10, farS) :: (11, makeS) :: (12, ofMS) :: (13, ofS) :: (14, refS) :: (15, numS) :: (16, sameS) :: (17, toS) :: (18, intsS) :: (19, rightAS) :: (20, setsS) :: (21, rightS) :: (22, hasS) :: []
noncomputable def C31 : Ctx := ctxOf C0 l31
def h4 : Hn := ⟨fun | 9 => [1, 3, 5, 7, 9] | 12 => [1, 3, 5, 7, 9, 10] | 20 => [1, 3, 5, 7, 9, 11, 12] | 25 => [1, 3, 5, 7, 9, 11, 12, 13] | _ => [], fun _ => [], fun _ => false⟩
def h5 : Hn := ⟨fun | 8 => [0, 2, 4, 7, 8, 9, 10, 11] | 16 => [0, 2, 4, 7, 8, 12] | _ => [], fun _ => [], fun _ => false⟩

abbrev f5h : Hn := h5
noncomputable abbrev f5f : Func := fn 5
abbrev f5G0 := (List Int) → Int → Er → Bool → Int → Int → Int → (List (List Int)) → (List (List Int × List Int × Unit)) → (List Bool) → (List Bool) → Option Lf
noncomputable def f5H0 (x0_0 : List Int) (x0_1 : Int) (x0_2 : Er) (x0_3 : Bool) (x0_4 : Int) (x0_5 : Int) (x0_6 : Int) (x0_7 : List (List Int)) (x0_8 : List (List Int × List Int × Unit)) (x0_9 : List Bool) (x0_10 : List Bool) : St := (St.mk [(D.p (Pt.one (L.d (Pv.fz false) (Sh.l (Sh.i IntKind.i64)) x0_0))), dead, (D.p (Pt.one (L.d (Pv.fz true) (Sh.i IntKind.i64) x0_1))), dead, (D.p (Pt.one (L.pv (Id.mk 1 0) 0))), dead, dead, (D.p (Pt.one (L.rw (Id.mk 1 1)))), (D.p (Pt.one (L.rw (Id.mk 1 2)))), (D.p (Pt.one (L.d (Pv.fz true) Sh.e x0_2))), (D.p (Pt.one (L.d (Pv.fz true) Sh.b x0_3))), (D.p (Pt.one (L.d (Pv.fz true) (Sh.i IntKind.i64) x0_4))), dead, dead, dead, dead, dead, dead, dead, dead, dead, dead, dead, dead, dead, dead, dead, dead, dead, dead, dead, dead, dead, dead, dead, dead, dead, dead, dead, dead, dead, dead, dead, dead, dead, dead, dead, dead, dead, dead, dead, dead, dead, dead, dead, dead, dead, dead, dead, dead, dead, dead, dead, dead, dead, dead, dead, dead, dead, dead, dead, dead, dead, dead, dead, dead, dead, dead, dead, dead, dead, dead, dead, dead, dead, dead, dead, dead, dead, dead, dead, dead, dead, dead, dead, dead, dead, dead, dead, dead, dead, dead, dead, dead, dead, dead, dead, dead, dead, dead, dead, dead, dead, dead, dead, dead, dead, dead, dead, dead, dead, dead, dead, dead, dead, dead, dead, dead, dead, dead, dead, dead, dead, dead, dead, dead, dead, dead] [[], [(Ob.va [(L.d (Pv.fz true) (Sh.i IntKind.i64) x0_5), (L.d (Pv.fz true) (Sh.i IntKind.i64) x0_6), (L.d (Pv.fz false) (Sh.l (Sh.l (Sh.i IntKind.i64))) x0_7), (L.d (Pv.fz false) (Sh.l (Sh.p (Sh.l (Sh.i IntKind.i64)) (Sh.p (Sh.l (Sh.i IntKind.i64)) Sh.u))) x0_8)]), (Ob.ro true 0 4 Sh.b Ow.z x0_9 Option.none), (Ob.ro true 0 4 Sh.b Ow.z x0_10 Option.none)]])
noncomputable def f5W0 (G : St → Option Lf) : f5G0 := fun x0_0 x0_1 x0_2 x0_3 x0_4 x0_5 x0_6 x0_7 x0_8 x0_9 x0_10 => G (f5H0 x0_0 x0_1 x0_2 x0_3 x0_4 x0_5 x0_6 x0_7 x0_8 x0_9 x0_10)
abbrev f5G1 := (List Int) → Int → Int → Int → Int → (List (List Int)) → (List (List Int × List Int × Unit)) → (List Bool) → (List Bool) → Option Lf
noncomputable def f5H1 (x1_0 : List Int) (x1_1 : Int) (x1_2 : Int) (x1_3 : Int) (x1_4 : Int) (x1_5 : List (List Int)) (x1_6 : List (List Int × List Int × Unit)) (x1_7 : List Bool) (x1_8 : List Bool) : St := (St.mk [(D.p (Pt.one (L.d (Pv.fz false) (Sh.l (Sh.i IntKind.i64)) x1_0))), dead, (D.p (Pt.one (L.d (Pv.fz true) (Sh.i IntKind.i64) x1_1))), dead, (D.p (Pt.one (L.pv (Id.mk 1 0) 0))), dead, dead, (D.p (Pt.one (L.rw (Id.mk 1 1)))), (D.p (Pt.one (L.rw (Id.mk 1 2)))), dead, dead, dead, (D.p (Pt.one (L.d (Pv.fz true) (Sh.i IntKind.i64) x1_2))), dead, dead, dead, dead, dead, dead, dead, dead, dead, dead, dead, dead, dead, dead, dead, dead, dead, dead, dead, dead, dead, dead, dead, dead, dead, dead, dead, dead, dead, dead, dead, dead, dead, dead, dead, dead, dead, dead, dead, dead, dead, dead, dead, dead, dead, dead, dead, dead, dead, dead, dead, dead, dead, dead, dead, dead, dead, dead, dead, dead, dead, dead, dead, dead, dead, dead, dead, dead, dead, dead, dead, dead, dead, dead, dead, dead, dead, dead, dead, dead, dead, dead, dead, dead, dead, dead, dead, dead, dead, dead, dead, dead, dead, dead, dead, dead, dead, dead, dead, dead, dead, dead, dead, dead, dead, dead, dead, dead, dead, dead, dead, dead, dead, dead, dead, dead, dead, dead, dead, dead, dead, dead, dead, dead, dead] [[], [(Ob.va [(L.d (Pv.fz true) (Sh.i IntKind.i64) x1_3), (L.d (Pv.fz true) (Sh.i IntKind.i64) x1_4), (L.d (Pv.fz false) (Sh.l (Sh.l (Sh.i IntKind.i64))) x1_5), (L.d (Pv.fz false) (Sh.l (Sh.p (Sh.l (Sh.i IntKind.i64)) (Sh.p (Sh.l (Sh.i IntKind.i64)) Sh.u))) x1_6)]), (Ob.ro true 0 4 Sh.b Ow.z x1_7 Option.none), (Ob.ro true 0 4 Sh.b Ow.z x1_8 Option.none)]])
noncomputable def f5W1 (G : St → Option Lf) : f5G1 := fun x1_0 x1_1 x1_2 x1_3 x1_4 x1_5 x1_6 x1_7 x1_8 => G (f5H1 x1_0 x1_1 x1_2 x1_3 x1_4 x1_5 x1_6 x1_7 x1_8)
noncomputable def f5S1  (g1 : f5G1) (x1_0 : List Int) (x1_1 : Int) (x1_2 : Int) (x1_3 : Int) (x1_4 : Int) (x1_5 : List (List Int)) (x1_6 : List (List Int × List Int × Unit)) (x1_7 : List Bool) (x1_8 : List Bool) : Option Lf :=
 bif decide (x1_2 < zn x1_0.length) then
  bif Nat.beq 1 1 && (inb x1_2 x1_7.length && (Nat.beq 1 1 && (Nat.beq 1 1 && (Nat.beq 2 2 && (inb x1_1 x1_6.length && (Nat.beq 1 1 && (Nat.beq 1 1 && (inb x1_2 x1_0.length && (Nat.beq 1 1 && (big (x1_6.getD x1_1.toNat ([], [], ())).fst.length && (!x1_7.getD x1_2.toNat false == has (x1_6.getD x1_1.toNat ([], [], ())).fst (x1_0.getD x1_2.toNat 0) || Nat.beq 1 1 && (inb x1_2 x1_8.length && (Nat.beq 1 1 && (Nat.beq 1 1 && (Nat.beq 2 2 && (inb x1_1 x1_6.length && (Nat.beq 1 1 && (Nat.beq 1 1 && (inb x1_2 x1_0.length && (Nat.beq 1 1 && (big (x1_6.getD x1_1.toNat ([], [], ())).snd.fst.length && true))))))))))))))))))))) then
   bif !x1_7.getD x1_2.toNat false == has (x1_6.getD x1_1.toNat ([], [], ())).fst (x1_0.getD x1_2.toNat 0) || !x1_8.getD x1_2.toNat false == has (x1_6.getD x1_1.toNat ([], [], ())).snd.fst (x1_0.getD x1_2.toNat 0) then
    some (Lf.mk [(Pt.one (L.d (Pv.fz true) Sh.b (false : Bool)))] [] [])
   else
    g1 (x1_0 : List Int) (x1_1 : Int) (IntKind.i64.wrap (x1_2 + 1) : Int) (x1_3 : Int) (x1_4 : Int) (x1_5 : List (List Int)) (x1_6 : List (List Int × List Int × Unit)) (x1_7 : List Bool) (x1_8 : List Bool)
  else
   none
 else
  some (Lf.mk [(Pt.one (L.d (Pv.fz true) Sh.b (true : Bool)))] [] [])
noncomputable def f5L1 (n : Nat)  : Nat → f5G1
  | 0 => fun _ _ _ _ _ _ _ _ _ => none
  | m + 1 => fun x1_0 x1_1 x1_2 x1_3 x1_4 x1_5 x1_6 x1_7 x1_8 => f5S1   (f5L1 n  m) x1_0 x1_1 x1_2 x1_3 x1_4 x1_5 x1_6 x1_7 x1_8
theorem f5S1_ev (n : Nat)  (G : St → Option Lf) (x1_0 : List Int) (x1_1 : Int) (x1_2 : Int) (x1_3 : Int) (x1_4 : Int) (x1_5 : List (List Int)) (x1_6 : List (List Int × List Int × Unit)) (x1_7 : List Bool) (x1_8 : List Bool) : rnd C31 f5h n Lf (codeOf f5f) [1, 1, 1, 1, 1, 1, 1, 1, 0, 1, 0] [] (endK C31 f5h f5f) G (f5H1 x1_0 x1_1 x1_2 x1_3 x1_4 x1_5 x1_6 x1_7 x1_8) = f5S1   (f5W1 G) x1_0 x1_1 x1_2 x1_3 x1_4 x1_5 x1_6 x1_7 x1_8 := by kernel_rfl
theorem f5W1_ev (n : Nat)  : ∀ m, (f5W1 (lp C31 f5h n Lf (codeOf f5f) [1, 1, 1, 1, 1, 1, 1, 1, 0, 1, 0] [] (endK C31 f5h f5f) m)) = f5L1 n  m := by
  intro m
  induction m with
  | zero => funext x1_0 x1_1 x1_2 x1_3 x1_4 x1_5 x1_6 x1_7 x1_8; exact lp_zero _
  | succ m ih =>
    funext x1_0 x1_1 x1_2 x1_3 x1_4 x1_5 x1_6 x1_7 x1_8
    show lp C31 f5h n Lf (codeOf f5f) [1, 1, 1, 1, 1, 1, 1, 1, 0, 1, 0] [] (endK C31 f5h f5f) (m + 1) (f5H1 x1_0 x1_1 x1_2 x1_3 x1_4 x1_5 x1_6 x1_7 x1_8) = f5S1   (f5L1 n  m) x1_0 x1_1 x1_2 x1_3 x1_4 x1_5 x1_6 x1_7 x1_8
    rw [lp_succ, f5S1_ev, ih]
noncomputable def f5S0 (l1 : f5G1) (g0 : f5G0) (x0_0 : List Int) (x0_1 : Int) (x0_2 : Er) (x0_3 : Bool) (x0_4 : Int) (x0_5 : Int) (x0_6 : Int) (x0_7 : List (List Int)) (x0_8 : List (List Int × List Int × Unit)) (x0_9 : List Bool) (x0_10 : List Bool) : Option Lf :=
 bif decide (x0_4 < zn x0_0.length) && x0_3 then
  bif Nat.beq 1 1 && (inb x0_4 x0_0.length && (Nat.beq 1 1 && bif decide (x0_0.getD x0_4.toNat 0 ≥ 0) then Nat.beq 1 1 && (inb x0_4 x0_0.length && true) else true)) then
   g0 (x0_0 : List Int) (x0_1 : Int) (x0_2 : Er) (decide (x0_0.getD x0_4.toNat 0 ≥ 0) && decide (x0_0.getD x0_4.toNat 0 < zn x0_7.length) : Bool) (IntKind.i64.wrap (x0_4 + 1) : Int) (x0_5 : Int) (x0_6 : Int) (x0_7 : List (List Int)) (x0_8 : List (List Int × List Int × Unit)) (x0_9 : List Bool) (x0_10 : List Bool)
  else
   none
 else
  bif !x0_3 then
   bif plain x0_2 && true then
    some (Lf.mk [(Pt.one (L.d (Pv.fz true) Sh.b (numOf x0_2 == 1 && IntKind.i64.wrap (zn x0_9.length + zn x0_10.length) == 0 : Bool)))] [] [])
   else
    none
  else
   bif !x0_2.isNil || (zn x0_9.length != zn x0_0.length || zn x0_10.length != zn x0_0.length) then
    some (Lf.mk [(Pt.one (L.d (Pv.fz true) Sh.b (false : Bool)))] [] [])
   else
    l1 (x0_0 : List Int) (x0_1 : Int) (0 : Int) (x0_5 : Int) (x0_6 : Int) (x0_7 : List (List Int)) (x0_8 : List (List Int × List Int × Unit)) (x0_9 : List Bool) (x0_10 : List Bool)
noncomputable def f5L0 (n : Nat)  : Nat → f5G0
  | 0 => fun _ _ _ _ _ _ _ _ _ _ _ => none
  | m + 1 => fun x0_0 x0_1 x0_2 x0_3 x0_4 x0_5 x0_6 x0_7 x0_8 x0_9 x0_10 => f5S0 (f5L1 n  n)  (f5L0 n  m) x0_0 x0_1 x0_2 x0_3 x0_4 x0_5 x0_6 x0_7 x0_8 x0_9 x0_10
theorem f5S0_ev (n : Nat)  (G : St → Option Lf) (x0_0 : List Int) (x0_1 : Int) (x0_2 : Er) (x0_3 : Bool) (x0_4 : Int) (x0_5 : Int) (x0_6 : Int) (x0_7 : List (List Int)) (x0_8 : List (List Int × List Int × Unit)) (x0_9 : List Bool) (x0_10 : List Bool) : rnd C31 f5h n Lf (codeOf f5f) [1, 1, 1, 1, 1, 0, 1, 0] [] (endK C31 f5h f5f) G (f5H0 x0_0 x0_1 x0_2 x0_3 x0_4 x0_5 x0_6 x0_7 x0_8 x0_9 x0_10) = f5S0 (f5W1 (lp C31 f5h n Lf (codeOf f5f) [1, 1, 1, 1, 1, 1, 1, 1, 0, 1, 0] [] (endK C31 f5h f5f) n))  (f5W0 G) x0_0 x0_1 x0_2 x0_3 x0_4 x0_5 x0_6 x0_7 x0_8 x0_9 x0_10 := by kernel_rfl
theorem f5W0_ev (n : Nat)  : ∀ m, (f5W0 (lp C31 f5h n Lf (codeOf f5f) [1, 1, 1, 1, 1, 0, 1, 0] [] (endK C31 f5h f5f) m)) = f5L0 n  m := by
  intro m
  induction m with
  | zero => funext x0_0 x0_1 x0_2 x0_3 x0_4 x0_5 x0_6 x0_7 x0_8 x0_9 x0_10; exact lp_zero _
  | succ m ih =>
    have e1 : (f5W1 (lp C31 f5h n Lf (codeOf f5f) [1, 1, 1, 1, 1, 1, 1, 1, 0, 1, 0] [] (endK C31 f5h f5f) n)) = (f5L1 n  n) := by
      rw [f5W1_ev]
    funext x0_0 x0_1 x0_2 x0_3 x0_4 x0_5 x0_6 x0_7 x0_8 x0_9 x0_10
    show lp C31 f5h n Lf (codeOf f5f) [1, 1, 1, 1, 1, 0, 1, 0] [] (endK C31 f5h f5f) (m + 1) (f5H0 x0_0 x0_1 x0_2 x0_3 x0_4 x0_5 x0_6 x0_7 x0_8 x0_9 x0_10) = f5S0 (f5L1 n  n)  (f5L0 n  m) x0_0 x0_1 x0_2 x0_3 x0_4 x0_5 x0_6 x0_7 x0_8 x0_9 x0_10
    rw [lp_succ, f5S0_ev, ih, e1]
noncomputable def f5T (l0 : f5G0) (Q : List Int) (p : Int) (i2 : Int) (nx : List (List Int)) (ps : List (List Int × List Int × Unit)) (k : Int) : Option Lf :=
 bif farF nx ps || decide (zn Q.length > 60) then
  some (Lf.mk [(Pt.one (L.d (Pv.fz true) Sh.b (true : Bool)))] [] [])
 else
  bif ofG nx ps then
   bif setG Q nx ps then
    bif drG nx ps && bif drOk p i2 nx ps then decide (k ≥ 0) || true else true then
     l0 (Q : List Int) (k : Int) (er1 (setOk p i2 nx ps k Q) : Er) (bif drOk p i2 nx ps then bif decide (k ≥ 0) then decide (k < zn ps.length) else false else false : Bool) (0 : Int) (p : Int) (i2 : Int) (nx : List (List Int)) (ps : List (List Int × List Int × Unit)) (bif setOk p i2 nx ps k Q then finF ps k Q else [] : List Bool) (bif setOk p i2 nx ps k Q then infF ps k Q else [] : List Bool)
    else
     none
   else
    none
  else
   none
noncomputable def f5M (n : Nat) (Q : List Int) (p : Int) (i2 : Int) (nx : List (List Int)) (ps : List (List Int × List Int × Unit)) (k : Int) : Option Lf := f5T (f5L0 n n) Q p i2 nx ps k
theorem f5T_ev (n : Nat) (Q : List Int) (p : Int) (i2 : Int) (nx : List (List Int)) (ps : List (List Int × List Int × Unit)) (k : Int) : evF C31 f5h n f5f [(D.p (Pt.one (L.d (Pv.fz false) (Sh.l (Sh.i IntKind.i64)) Q))), (D.p (Pt.agg [(L.d (Pv.fz true) (Sh.i IntKind.i64) p), (L.d (Pv.fz true) (Sh.i IntKind.i64) i2), (L.d (Pv.fz false) (Sh.l (Sh.l (Sh.i IntKind.i64))) nx), (L.d (Pv.fz false) (Sh.l (Sh.p (Sh.l (Sh.i IntKind.i64)) (Sh.p (Sh.l (Sh.i IntKind.i64)) Sh.u))) ps)])), (D.p (Pt.one (L.d (Pv.fz true) (Sh.i IntKind.i64) k)))] [] = f5T (f5W0 (lp C31 f5h n Lf (codeOf f5f) [1, 1, 1, 1, 1, 0, 1, 0] [] (endK C31 f5h f5f) n)) Q p i2 nx ps k := by kernel_rfl
theorem f5_ev (n : Nat) (Q : List Int) (p : Int) (i2 : Int) (nx : List (List Int)) (ps : List (List Int × List Int × Unit)) (k : Int) : evF C31 f5h n f5f [(D.p (Pt.one (L.d (Pv.fz false) (Sh.l (Sh.i IntKind.i64)) Q))), (D.p (Pt.agg [(L.d (Pv.fz true) (Sh.i IntKind.i64) p), (L.d (Pv.fz true) (Sh.i IntKind.i64) i2), (L.d (Pv.fz false) (Sh.l (Sh.l (Sh.i IntKind.i64))) nx), (L.d (Pv.fz false) (Sh.l (Sh.p (Sh.l (Sh.i IntKind.i64)) (Sh.p (Sh.l (Sh.i IntKind.i64)) Sh.u))) ps)])), (D.p (Pt.one (L.d (Pv.fz true) (Sh.i IntKind.i64) k)))] [] = f5M n Q p i2 nx ps k := by
  rw [f5T_ev, f5W0_ev]
  rfl

abbrev f3h : Hn := hn0
noncomputable abbrev f3f : Func := fn 3
noncomputable def f3T  (i : Int) (ch : List (List (ByteArray × List (Int × Int × Unit) × Unit))) (nm : List ByteArray) (ho : List (List Int)) (le : List Int) (p : Int) (i2 : Int) (nx : List (List Int)) (ps : List (List Int × List Int × Unit)) (lim : Int) : Option Lf :=
 bif farM ch nm ho || (farF nx ps || Nat.beq 1 1 && (decide (zn ch.length > 12) || true)) then
  bif farM ch nm ho || (farF nx ps || (decide (zn ch.length > 12) || (decide (zn nx.length > 12) || decide (zn le.length > 60)))) then
   some (Lf.mk [(Pt.one (L.d (Pv.fz true) Sh.b (true : Bool)))] [] [])
  else
   bif ofMG ch nm ho then
    bif ofG nx ps then
     bif makeG ch nm ho le nx ps then
      bif makeG ch nm ho le nx ps then
       bif plain (makeV i ch nm ho le p i2 nx ps lim).snd.snd.snd then
        bif numOf (makeV i ch nm ho le p i2 nx ps lim).snd.snd.snd == (refV i ch nm ho le p i2 nx ps lim).snd.snd.snd then
         bif chM6 (makeV i ch nm ho le p i2 nx ps lim).fst then
          bif sameG (makeV i ch nm ho le p i2 nx ps lim).fst [] (List.map (fun (x : List ChV) => []) (makeV i ch nm ho le p i2 nx ps lim).fst) then
           bif sameM 0 (makeV i ch nm ho le p i2 nx ps lim).fst [] (List.map (fun (x : List ChV) => []) (makeV i ch nm ho le p i2 nx ps lim).fst) 0 (refV i ch nm ho le p i2 nx ps lim).fst [] (List.map (fun (x : List ChV) => []) (refV i ch nm ho le p i2 nx ps lim).fst) then
            bif big (makeV i ch nm ho le p i2 nx ps lim).snd.fst.length then
             bif sameI (makeV i ch nm ho le p i2 nx ps lim).snd.fst (refV i ch nm ho le p i2 nx ps lim).snd.fst then
              bif big (makeV i ch nm ho le p i2 nx ps lim).snd.snd.fst.length then
               some (Lf.mk [(Pt.one (L.d (Pv.fz true) Sh.b (sameI (makeV i ch nm ho le p i2 nx ps lim).snd.snd.fst (refV i ch nm ho le p i2 nx ps lim).snd.snd.fst : Bool)))] [] [])
              else
               none
             else
              some (Lf.mk [(Pt.one (L.d (Pv.fz true) Sh.b (false : Bool)))] [] [])
            else
             none
           else
            some (Lf.mk [(Pt.one (L.d (Pv.fz true) Sh.b (false : Bool)))] [] [])
          else
           none
         else
          none
        else
         some (Lf.mk [(Pt.one (L.d (Pv.fz true) Sh.b (false : Bool)))] [] [])
       else
        none
      else
       none
     else
      none
    else
     none
   else
    none
 else
  none
noncomputable def f3M (_ : Nat) (i : Int) (ch : List (List (ByteArray × List (Int × Int × Unit) × Unit))) (nm : List ByteArray) (ho : List (List Int)) (le : List Int) (p : Int) (i2 : Int) (nx : List (List Int)) (ps : List (List Int × List Int × Unit)) (lim : Int) : Option Lf := f3T  i ch nm ho le p i2 nx ps lim
theorem f3T_ev (n : Nat) (i : Int) (ch : List (List (ByteArray × List (Int × Int × Unit) × Unit))) (nm : List ByteArray) (ho : List (List Int)) (le : List Int) (p : Int) (i2 : Int) (nx : List (List Int)) (ps : List (List Int × List Int × Unit)) (lim : Int) : evF C31 f3h n f3f [(D.p (Pt.agg [(L.d (Pv.fz true) (Sh.i IntKind.i64) i), (L.d (Pv.fz false) (Sh.l (Sh.l (Sh.p Sh.s (Sh.p (Sh.l (Sh.p (Sh.i IntKind.i64) (Sh.p (Sh.i IntKind.i64) Sh.u))) Sh.u)))) ch), (L.d (Pv.fz false) (Sh.l Sh.s) nm), (L.d (Pv.fz false) (Sh.l (Sh.l (Sh.i IntKind.i64))) ho)])), (D.p (Pt.one (L.d (Pv.fz false) (Sh.l (Sh.i IntKind.i64)) le))), (D.p (Pt.agg [(L.d (Pv.fz true) (Sh.i IntKind.i64) p), (L.d (Pv.fz true) (Sh.i IntKind.i64) i2), (L.d (Pv.fz false) (Sh.l (Sh.l (Sh.i IntKind.i64))) nx), (L.d (Pv.fz false) (Sh.l (Sh.p (Sh.l (Sh.i IntKind.i64)) (Sh.p (Sh.l (Sh.i IntKind.i64)) Sh.u))) ps)])), (D.p (Pt.one (L.d (Pv.fz true) (Sh.i IntKind.i64) lim)))] [] = f3T  i ch nm ho le p i2 nx ps lim := by kernel_rfl
theorem f3_ev (n : Nat) (i : Int) (ch : List (List (ByteArray × List (Int × Int × Unit) × Unit))) (nm : List ByteArray) (ho : List (List Int)) (le : List Int) (p : Int) (i2 : Int) (nx : List (List Int)) (ps : List (List Int × List Int × Unit)) (lim : Int) : evF C31 f3h n f3f [(D.p (Pt.agg [(L.d (Pv.fz true) (Sh.i IntKind.i64) i), (L.d (Pv.fz false) (Sh.l (Sh.l (Sh.p Sh.s (Sh.p (Sh.l (Sh.p (Sh.i IntKind.i64) (Sh.p (Sh.i IntKind.i64) Sh.u))) Sh.u)))) ch), (L.d (Pv.fz false) (Sh.l Sh.s) nm), (L.d (Pv.fz false) (Sh.l (Sh.l (Sh.i IntKind.i64))) ho)])), (D.p (Pt.one (L.d (Pv.fz false) (Sh.l (Sh.i IntKind.i64)) le))), (D.p (Pt.agg [(L.d (Pv.fz true) (Sh.i IntKind.i64) p), (L.d (Pv.fz true) (Sh.i IntKind.i64) i2), (L.d (Pv.fz false) (Sh.l (Sh.l (Sh.i IntKind.i64))) nx), (L.d (Pv.fz false) (Sh.l (Sh.p (Sh.l (Sh.i IntKind.i64)) (Sh.p (Sh.l (Sh.i IntKind.i64)) Sh.u))) ps)])), (D.p (Pt.one (L.d (Pv.fz true) (Sh.i IntKind.i64) lim)))] [] = f3M n i ch nm ho le p i2 nx ps lim := by
  rw [f3T_ev]
  rfl

abbrev f4h : Hn := h4
noncomputable abbrev f4f : Func := fn 4
abbrev f4G0 := (List Int) → Int → Int → (List (List (ByteArray × List (Int × Int × Unit) × Unit))) → (List ByteArray) → (List (List Int)) → Int → Int → (List (List Int)) → (List (List Int × List Int × Unit)) → Int → (List ByteArray) → (List (List (ByteArray × List (Int × Int × Unit) × Unit))) → (List (List Int)) → (List Int) → (List Int) → Option Lf
noncomputable def f4H0 (x0_0 : List Int) (x0_1 : Int) (x0_2 : Int) (x0_3 : List (List (ByteArray × List (Int × Int × Unit) × Unit))) (x0_4 : List ByteArray) (x0_5 : List (List Int)) (x0_6 : Int) (x0_7 : Int) (x0_8 : List (List Int)) (x0_9 : List (List Int × List Int × Unit)) (x0_10 : Int) (x0_11 : List ByteArray) (x0_12 : List (List (ByteArray × List (Int × Int × Unit) × Unit))) (x0_13 : List (List Int)) (x0_14 : List Int) (x0_15 : List Int) : St := (St.mk [dead, (D.p (Pt.one (L.d (Pv.fz false) (Sh.l (Sh.i IntKind.i64)) x0_0))), dead, (D.p (Pt.one (L.pv (Id.mk 1 0) 0))), dead, (D.p (Pt.one (L.pv (Id.mk 1 1) 0))), dead, (D.p (Pt.one (L.pv (Id.mk 1 2) 0))), dead, (D.p (Pt.one (L.d (Pv.fz true) (Sh.i IntKind.i64) x0_1))), dead, dead, dead, dead, dead, dead, dead, dead, dead, dead, dead, dead, dead, dead, dead, dead, dead, dead, dead, dead, dead, dead, dead, dead, dead, dead, dead, dead, dead, dead, dead, dead, dead, dead, dead, dead, dead, dead, dead, dead, dead, dead, dead, dead, dead, dead, dead, dead, dead, dead, dead, dead, dead, dead, dead, dead, dead, dead, dead, dead, dead, dead, dead, dead, dead, dead, dead, dead, dead, dead, dead, dead, dead, dead, dead, dead, dead, dead, dead, dead, dead, dead, dead, dead, dead, dead, dead, dead, dead, dead, dead, dead, dead, dead, dead, dead, dead, dead, dead, dead, dead, dead, dead, dead, dead, dead, dead, dead, dead, dead, dead, dead, dead, dead, dead, dead, dead, dead, dead, dead, dead, dead, dead, dead, dead, dead, dead, dead, dead, dead, dead, dead, dead, dead, dead, dead, dead, dead, dead, dead, dead, dead, dead, dead, dead, dead, dead, dead, dead, dead, dead, dead, dead, dead, dead, dead, dead, dead, dead, dead, dead, dead, dead, dead, dead, dead, dead, dead, dead, dead, dead, dead, dead, dead, dead, dead, dead, dead, dead, dead, dead, dead, dead, dead, dead, dead, dead, dead, dead, dead, dead, dead, dead, dead, dead, dead, dead, dead, dead, dead, dead, dead, dead, dead, dead, dead, dead, dead, dead, dead, dead, dead, dead, dead, dead, dead, dead, dead, dead, dead, dead, dead, dead, dead, dead, dead, dead, dead, dead, dead, dead, dead, dead, dead, dead, dead, dead, dead, dead, dead, dead, dead, dead, dead, dead] [[], [(Ob.va [(L.d (Pv.fz true) (Sh.i IntKind.i64) x0_2), (L.d (Pv.fz false) (Sh.l (Sh.l (Sh.p Sh.s (Sh.p (Sh.l (Sh.p (Sh.i IntKind.i64) (Sh.p (Sh.i IntKind.i64) Sh.u))) Sh.u)))) x0_3), (L.d (Pv.fz false) (Sh.l Sh.s) x0_4), (L.d (Pv.fz false) (Sh.l (Sh.l (Sh.i IntKind.i64))) x0_5)]), (Ob.va [(L.d (Pv.fz true) (Sh.i IntKind.i64) x0_6), (L.d (Pv.fz true) (Sh.i IntKind.i64) x0_7), (L.d (Pv.fz false) (Sh.l (Sh.l (Sh.i IntKind.i64))) x0_8), (L.d (Pv.fz false) (Sh.l (Sh.p (Sh.l (Sh.i IntKind.i64)) (Sh.p (Sh.l (Sh.i IntKind.i64)) Sh.u))) x0_9)]), (Ob.va [(L.d (Pv.fz true) (Sh.i IntKind.i64) x0_10), (L.rw (Id.mk 1 3)), (L.d (Pv.fz true) (Sh.l Sh.s) x0_11), (L.rw (Id.mk 1 4)), (L.rw (Id.mk 1 5)), (L.rw (Id.mk 1 6))]), (Ob.ro true 0 59 (Sh.l (Sh.p Sh.s (Sh.p (Sh.l (Sh.p (Sh.i IntKind.i64) (Sh.p (Sh.i IntKind.i64) Sh.u))) Sh.u))) (Ow.l 62 (Ow.p Ow.z (Ow.p (Ow.l 67 Ow.z) Ow.z))) x0_12 Option.none), (Ob.ro true 0 27 (Sh.l (Sh.i IntKind.i64)) (Ow.l 3 Ow.z) x0_13 Option.none), (Ob.ro true 0 3 (Sh.i IntKind.i64) Ow.z x0_14 Option.none), (Ob.ro true 0 3 (Sh.i IntKind.i64) Ow.z x0_15 Option.none)]])
noncomputable def f4W0 (G : St → Option Lf) : f4G0 := fun x0_0 x0_1 x0_2 x0_3 x0_4 x0_5 x0_6 x0_7 x0_8 x0_9 x0_10 x0_11 x0_12 x0_13 x0_14 x0_15 => G (f4H0 x0_0 x0_1 x0_2 x0_3 x0_4 x0_5 x0_6 x0_7 x0_8 x0_9 x0_10 x0_11 x0_12 x0_13 x0_14 x0_15)
abbrev f4G1 := (List Int) → Int → Int → Int → (List (List (ByteArray × List (Int × Int × Unit) × Unit))) → (List ByteArray) → (List (List Int)) → Int → Int → (List (List Int)) → (List (List Int × List Int × Unit)) → Int → (List ByteArray) → (List (List (ByteArray × List (Int × Int × Unit) × Unit))) → (List (List Int)) → (List Int) → (List Int) → Option Lf
noncomputable def f4H1 (x1_0 : List Int) (x1_1 : Int) (x1_2 : Int) (x1_3 : Int) (x1_4 : List (List (ByteArray × List (Int × Int × Unit) × Unit))) (x1_5 : List ByteArray) (x1_6 : List (List Int)) (x1_7 : Int) (x1_8 : Int) (x1_9 : List (List Int)) (x1_10 : List (List Int × List Int × Unit)) (x1_11 : Int) (x1_12 : List ByteArray) (x1_13 : List (List (ByteArray × List (Int × Int × Unit) × Unit))) (x1_14 : List (List Int)) (x1_15 : List Int) (x1_16 : List Int) : St := (St.mk [dead, (D.p (Pt.one (L.d (Pv.fz false) (Sh.l (Sh.i IntKind.i64)) x1_0))), dead, (D.p (Pt.one (L.pv (Id.mk 1 0) 0))), dead, (D.p (Pt.one (L.pv (Id.mk 1 1) 0))), dead, (D.p (Pt.one (L.pv (Id.mk 1 2) 0))), dead, (D.p (Pt.one (L.d (Pv.fz true) (Sh.i IntKind.i64) x1_1))), (D.p (Pt.one (L.d (Pv.fz true) (Sh.i IntKind.i64) x1_2))), dead, dead, dead, dead, dead, dead, dead, dead, dead, dead, dead, dead, dead, dead, dead, dead, dead, dead, dead, dead, dead, dead, dead, dead, dead, dead, dead, dead, dead, dead, dead, dead, dead, dead, dead, dead, dead, dead, dead, dead, dead, dead, dead, dead, dead, dead, dead, dead, dead, dead, dead, dead, dead, dead, dead, dead, dead, dead, dead, dead, dead, dead, dead, dead, dead, dead, dead, dead, dead, dead, dead, dead, dead, dead, dead, dead, dead, dead, dead, dead, dead, dead, dead, dead, dead, dead, dead, dead, dead, dead, dead, dead, dead, dead, dead, dead, dead, dead, dead, dead, dead, dead, dead, dead, dead, dead, dead, dead, dead, dead, dead, dead, dead, dead, dead, dead, dead, dead, dead, dead, dead, dead, dead, dead, dead, dead, dead, dead, dead, dead, dead, dead, dead, dead, dead, dead, dead, dead, dead, dead, dead, dead, dead, dead, dead, dead, dead, dead, dead, dead, dead, dead, dead, dead, dead, dead, dead, dead, dead, dead, dead, dead, dead, dead, dead, dead, dead, dead, dead, dead, dead, dead, dead, dead, dead, dead, dead, dead, dead, dead, dead, dead, dead, dead, dead, dead, dead, dead, dead, dead, dead, dead, dead, dead, dead, dead, dead, dead, dead, dead, dead, dead, dead, dead, dead, dead, dead, dead, dead, dead, dead, dead, dead, dead, dead, dead, dead, dead, dead, dead, dead, dead, dead, dead, dead, dead, dead, dead, dead, dead, dead, dead, dead, dead, dead, dead, dead, dead, dead, dead, dead, dead, dead, dead] [[], [(Ob.va [(L.d (Pv.fz true) (Sh.i IntKind.i64) x1_3), (L.d (Pv.fz false) (Sh.l (Sh.l (Sh.p Sh.s (Sh.p (Sh.l (Sh.p (Sh.i IntKind.i64) (Sh.p (Sh.i IntKind.i64) Sh.u))) Sh.u)))) x1_4), (L.d (Pv.fz false) (Sh.l Sh.s) x1_5), (L.d (Pv.fz false) (Sh.l (Sh.l (Sh.i IntKind.i64))) x1_6)]), (Ob.va [(L.d (Pv.fz true) (Sh.i IntKind.i64) x1_7), (L.d (Pv.fz true) (Sh.i IntKind.i64) x1_8), (L.d (Pv.fz false) (Sh.l (Sh.l (Sh.i IntKind.i64))) x1_9), (L.d (Pv.fz false) (Sh.l (Sh.p (Sh.l (Sh.i IntKind.i64)) (Sh.p (Sh.l (Sh.i IntKind.i64)) Sh.u))) x1_10)]), (Ob.va [(L.d (Pv.fz true) (Sh.i IntKind.i64) x1_11), (L.rw (Id.mk 1 3)), (L.d (Pv.fz true) (Sh.l Sh.s) x1_12), (L.rw (Id.mk 1 4)), (L.rw (Id.mk 1 5)), (L.rw (Id.mk 1 6))]), (Ob.ro true 0 59 (Sh.l (Sh.p Sh.s (Sh.p (Sh.l (Sh.p (Sh.i IntKind.i64) (Sh.p (Sh.i IntKind.i64) Sh.u))) Sh.u))) (Ow.l 62 (Ow.p Ow.z (Ow.p (Ow.l 67 Ow.z) Ow.z))) x1_13 Option.none), (Ob.ro true 0 27 (Sh.l (Sh.i IntKind.i64)) (Ow.l 3 Ow.z) x1_14 Option.none), (Ob.ro true 0 3 (Sh.i IntKind.i64) Ow.z x1_15 Option.none), (Ob.ro true 0 3 (Sh.i IntKind.i64) Ow.z x1_16 Option.none)]])
noncomputable def f4W1 (G : St → Option Lf) : f4G1 := fun x1_0 x1_1 x1_2 x1_3 x1_4 x1_5 x1_6 x1_7 x1_8 x1_9 x1_10 x1_11 x1_12 x1_13 x1_14 x1_15 x1_16 => G (f4H1 x1_0 x1_1 x1_2 x1_3 x1_4 x1_5 x1_6 x1_7 x1_8 x1_9 x1_10 x1_11 x1_12 x1_13 x1_14 x1_15 x1_16)
abbrev f4G2 := (List Int) → Int → (List (ByteArray × List (Int × Int × Unit) × Unit)) → Int → Int → (List (List (ByteArray × List (Int × Int × Unit) × Unit))) → (List ByteArray) → (List (List Int)) → Int → Int → (List (List Int)) → (List (List Int × List Int × Unit)) → Int → (List ByteArray) → (List (List (ByteArray × List (Int × Int × Unit) × Unit))) → (List (List Int)) → (List Int) → (List Int) → Option Lf
noncomputable def f4H2 (x2_0 : List Int) (x2_1 : Int) (x2_2 : List (ByteArray × List (Int × Int × Unit) × Unit)) (x2_3 : Int) (x2_4 : Int) (x2_5 : List (List (ByteArray × List (Int × Int × Unit) × Unit))) (x2_6 : List ByteArray) (x2_7 : List (List Int)) (x2_8 : Int) (x2_9 : Int) (x2_10 : List (List Int)) (x2_11 : List (List Int × List Int × Unit)) (x2_12 : Int) (x2_13 : List ByteArray) (x2_14 : List (List (ByteArray × List (Int × Int × Unit) × Unit))) (x2_15 : List (List Int)) (x2_16 : List Int) (x2_17 : List Int) : St := (St.mk [dead, (D.p (Pt.one (L.d (Pv.fz false) (Sh.l (Sh.i IntKind.i64)) x2_0))), dead, (D.p (Pt.one (L.pv (Id.mk 1 0) 0))), dead, (D.p (Pt.one (L.pv (Id.mk 1 1) 0))), dead, (D.p (Pt.one (L.pv (Id.mk 1 2) 0))), dead, (D.p (Pt.one (L.d (Pv.fz true) (Sh.i IntKind.i64) x2_1))), dead, (D.p (Pt.one (L.d (Pv.fz false) (Sh.l (Sh.p Sh.s (Sh.p (Sh.l (Sh.p (Sh.i IntKind.i64) (Sh.p (Sh.i IntKind.i64) Sh.u))) Sh.u))) x2_2))), (D.p (Pt.one (L.d (Pv.fz true) (Sh.i IntKind.i64) x2_3))), dead, dead, dead, dead, dead, dead, dead, dead, dead, dead, dead, dead, dead, dead, dead, dead, dead, dead, dead, dead, dead, dead, dead, dead, dead, dead, dead, dead, dead, dead, dead, dead, dead, dead, dead, dead, dead, dead, dead, dead, dead, dead, dead, dead, dead, dead, dead, dead, dead, dead, dead, dead, dead, dead, dead, dead, dead, dead, dead, dead, dead, dead, dead, dead, dead, dead, dead, dead, dead, dead, dead, dead, dead, dead, dead, dead, dead, dead, dead, dead, dead, dead, dead, dead, dead, dead, dead, dead, dead, dead, dead, dead, dead, dead, dead, dead, dead, dead, dead, dead, dead, dead, dead, dead, dead, dead, dead, dead, dead, dead, dead, dead, dead, dead, dead, dead, dead, dead, dead, dead, dead, dead, dead, dead, dead, dead, dead, dead, dead, dead, dead, dead, dead, dead, dead, dead, dead, dead, dead, dead, dead, dead, dead, dead, dead, dead, dead, dead, dead, dead, dead, dead, dead, dead, dead, dead, dead, dead, dead, dead, dead, dead, dead, dead, dead, dead, dead, dead, dead, dead, dead, dead, dead, dead, dead, dead, dead, dead, dead, dead, dead, dead, dead, dead, dead, dead, dead, dead, dead, dead, dead, dead, dead, dead, dead, dead, dead, dead, dead, dead, dead, dead, dead, dead, dead, dead, dead, dead, dead, dead, dead, dead, dead, dead, dead, dead, dead, dead, dead, dead, dead, dead, dead, dead, dead, dead, dead, dead, dead, dead, dead, dead, dead, dead, dead, dead, dead, dead, dead, dead, dead, dead] [[], [(Ob.va [(L.d (Pv.fz true) (Sh.i IntKind.i64) x2_4), (L.d (Pv.fz false) (Sh.l (Sh.l (Sh.p Sh.s (Sh.p (Sh.l (Sh.p (Sh.i IntKind.i64) (Sh.p (Sh.i IntKind.i64) Sh.u))) Sh.u)))) x2_5), (L.d (Pv.fz false) (Sh.l Sh.s) x2_6), (L.d (Pv.fz false) (Sh.l (Sh.l (Sh.i IntKind.i64))) x2_7)]), (Ob.va [(L.d (Pv.fz true) (Sh.i IntKind.i64) x2_8), (L.d (Pv.fz true) (Sh.i IntKind.i64) x2_9), (L.d (Pv.fz false) (Sh.l (Sh.l (Sh.i IntKind.i64))) x2_10), (L.d (Pv.fz false) (Sh.l (Sh.p (Sh.l (Sh.i IntKind.i64)) (Sh.p (Sh.l (Sh.i IntKind.i64)) Sh.u))) x2_11)]), (Ob.va [(L.d (Pv.fz true) (Sh.i IntKind.i64) x2_12), (L.rw (Id.mk 1 3)), (L.d (Pv.fz true) (Sh.l Sh.s) x2_13), (L.rw (Id.mk 1 4)), (L.rw (Id.mk 1 5)), (L.rw (Id.mk 1 6))]), (Ob.ro true 0 59 (Sh.l (Sh.p Sh.s (Sh.p (Sh.l (Sh.p (Sh.i IntKind.i64) (Sh.p (Sh.i IntKind.i64) Sh.u))) Sh.u))) (Ow.l 62 (Ow.p Ow.z (Ow.p (Ow.l 67 Ow.z) Ow.z))) x2_14 Option.none), (Ob.ro true 0 27 (Sh.l (Sh.i IntKind.i64)) (Ow.l 3 Ow.z) x2_15 Option.none), (Ob.ro true 0 3 (Sh.i IntKind.i64) Ow.z x2_16 Option.none), (Ob.ro true 0 3 (Sh.i IntKind.i64) Ow.z x2_17 Option.none)]])
noncomputable def f4W2 (G : St → Option Lf) : f4G2 := fun x2_0 x2_1 x2_2 x2_3 x2_4 x2_5 x2_6 x2_7 x2_8 x2_9 x2_10 x2_11 x2_12 x2_13 x2_14 x2_15 x2_16 x2_17 => G (f4H2 x2_0 x2_1 x2_2 x2_3 x2_4 x2_5 x2_6 x2_7 x2_8 x2_9 x2_10 x2_11 x2_12 x2_13 x2_14 x2_15 x2_16 x2_17)
abbrev f4G3 := (List Int) → Int → (List (ByteArray × List (Int × Int × Unit) × Unit)) → Int → Int → Int → (List (List (ByteArray × List (Int × Int × Unit) × Unit))) → (List ByteArray) → (List (List Int)) → Int → Int → (List (List Int)) → (List (List Int × List Int × Unit)) → Int → (List ByteArray) → (List (List (ByteArray × List (Int × Int × Unit) × Unit))) → (List (List Int)) → (List Int) → (List Int) → Option Lf
noncomputable def f4H3 (x3_0 : List Int) (x3_1 : Int) (x3_2 : List (ByteArray × List (Int × Int × Unit) × Unit)) (x3_3 : Int) (x3_4 : Int) (x3_5 : Int) (x3_6 : List (List (ByteArray × List (Int × Int × Unit) × Unit))) (x3_7 : List ByteArray) (x3_8 : List (List Int)) (x3_9 : Int) (x3_10 : Int) (x3_11 : List (List Int)) (x3_12 : List (List Int × List Int × Unit)) (x3_13 : Int) (x3_14 : List ByteArray) (x3_15 : List (List (ByteArray × List (Int × Int × Unit) × Unit))) (x3_16 : List (List Int)) (x3_17 : List Int) (x3_18 : List Int) : St := (St.mk [dead, (D.p (Pt.one (L.d (Pv.fz false) (Sh.l (Sh.i IntKind.i64)) x3_0))), dead, (D.p (Pt.one (L.pv (Id.mk 1 0) 0))), dead, (D.p (Pt.one (L.pv (Id.mk 1 1) 0))), dead, (D.p (Pt.one (L.pv (Id.mk 1 2) 0))), dead, (D.p (Pt.one (L.d (Pv.fz true) (Sh.i IntKind.i64) x3_1))), dead, (D.p (Pt.one (L.d (Pv.fz false) (Sh.l (Sh.p Sh.s (Sh.p (Sh.l (Sh.p (Sh.i IntKind.i64) (Sh.p (Sh.i IntKind.i64) Sh.u))) Sh.u))) x3_2))), (D.p (Pt.one (L.d (Pv.fz true) (Sh.i IntKind.i64) x3_3))), (D.p (Pt.one (L.d (Pv.fz true) (Sh.i IntKind.i64) x3_4))), dead, dead, dead, dead, dead, dead, dead, dead, dead, dead, dead, dead, dead, dead, dead, dead, dead, dead, dead, dead, dead, dead, dead, dead, dead, dead, dead, dead, dead, dead, dead, dead, dead, dead, dead, dead, dead, dead, dead, dead, dead, dead, dead, dead, dead, dead, dead, dead, dead, dead, dead, dead, dead, dead, dead, dead, dead, dead, dead, dead, dead, dead, dead, dead, dead, dead, dead, dead, dead, dead, dead, dead, dead, dead, dead, dead, dead, dead, dead, dead, dead, dead, dead, dead, dead, dead, dead, dead, dead, dead, dead, dead, dead, dead, dead, dead, dead, dead, dead, dead, dead, dead, dead, dead, dead, dead, dead, dead, dead, dead, dead, dead, dead, dead, dead, dead, dead, dead, dead, dead, dead, dead, dead, dead, dead, dead, dead, dead, dead, dead, dead, dead, dead, dead, dead, dead, dead, dead, dead, dead, dead, dead, dead, dead, dead, dead, dead, dead, dead, dead, dead, dead, dead, dead, dead, dead, dead, dead, dead, dead, dead, dead, dead, dead, dead, dead, dead, dead, dead, dead, dead, dead, dead, dead, dead, dead, dead, dead, dead, dead, dead, dead, dead, dead, dead, dead, dead, dead, dead, dead, dead, dead, dead, dead, dead, dead, dead, dead, dead, dead, dead, dead, dead, dead, dead, dead, dead, dead, dead, dead, dead, dead, dead, dead, dead, dead, dead, dead, dead, dead, dead, dead, dead, dead, dead, dead, dead, dead, dead, dead, dead, dead, dead, dead, dead, dead, dead, dead, dead, dead, dead] [[], [(Ob.va [(L.d (Pv.fz true) (Sh.i IntKind.i64) x3_5), (L.d (Pv.fz false) (Sh.l (Sh.l (Sh.p Sh.s (Sh.p (Sh.l (Sh.p (Sh.i IntKind.i64) (Sh.p (Sh.i IntKind.i64) Sh.u))) Sh.u)))) x3_6), (L.d (Pv.fz false) (Sh.l Sh.s) x3_7), (L.d (Pv.fz false) (Sh.l (Sh.l (Sh.i IntKind.i64))) x3_8)]), (Ob.va [(L.d (Pv.fz true) (Sh.i IntKind.i64) x3_9), (L.d (Pv.fz true) (Sh.i IntKind.i64) x3_10), (L.d (Pv.fz false) (Sh.l (Sh.l (Sh.i IntKind.i64))) x3_11), (L.d (Pv.fz false) (Sh.l (Sh.p (Sh.l (Sh.i IntKind.i64)) (Sh.p (Sh.l (Sh.i IntKind.i64)) Sh.u))) x3_12)]), (Ob.va [(L.d (Pv.fz true) (Sh.i IntKind.i64) x3_13), (L.rw (Id.mk 1 3)), (L.d (Pv.fz true) (Sh.l Sh.s) x3_14), (L.rw (Id.mk 1 4)), (L.rw (Id.mk 1 5)), (L.rw (Id.mk 1 6))]), (Ob.ro true 0 59 (Sh.l (Sh.p Sh.s (Sh.p (Sh.l (Sh.p (Sh.i IntKind.i64) (Sh.p (Sh.i IntKind.i64) Sh.u))) Sh.u))) (Ow.l 62 (Ow.p Ow.z (Ow.p (Ow.l 67 Ow.z) Ow.z))) x3_15 Option.none), (Ob.ro true 0 27 (Sh.l (Sh.i IntKind.i64)) (Ow.l 3 Ow.z) x3_16 Option.none), (Ob.ro true 0 3 (Sh.i IntKind.i64) Ow.z x3_17 Option.none), (Ob.ro true 0 3 (Sh.i IntKind.i64) Ow.z x3_18 Option.none)]])
noncomputable def f4W3 (G : St → Option Lf) : f4G3 := fun x3_0 x3_1 x3_2 x3_3 x3_4 x3_5 x3_6 x3_7 x3_8 x3_9 x3_10 x3_11 x3_12 x3_13 x3_14 x3_15 x3_16 x3_17 x3_18 => G (f4H3 x3_0 x3_1 x3_2 x3_3 x3_4 x3_5 x3_6 x3_7 x3_8 x3_9 x3_10 x3_11 x3_12 x3_13 x3_14 x3_15 x3_16 x3_17 x3_18)
noncomputable def f4S3  (g0 : f4G0) (g2 : f4G2) (g3 : f4G3) (x3_0 : List Int) (x3_1 : Int) (x3_2 : List (ByteArray × List (Int × Int × Unit) × Unit)) (x3_3 : Int) (x3_4 : Int) (x3_5 : Int) (x3_6 : List (List (ByteArray × List (Int × Int × Unit) × Unit))) (x3_7 : List ByteArray) (x3_8 : List (List Int)) (x3_9 : Int) (x3_10 : Int) (x3_11 : List (List Int)) (x3_12 : List (List Int × List Int × Unit)) (x3_13 : Int) (x3_14 : List ByteArray) (x3_15 : List (List (ByteArray × List (Int × Int × Unit) × Unit))) (x3_16 : List (List Int)) (x3_17 : List Int) (x3_18 : List Int) : Option Lf :=
 bif inb x3_3 x3_2.length then
  bif decide (x3_4 < zn (x3_2.getD x3_3.toNat ({ data := #[] }, [], ())).snd.fst.length) then
   bif inb x3_1 x3_15.length then
    bif inb x3_3 (x3_15.getD x3_1.toNat []).length then
     bif inb x3_4 ((x3_15.getD x3_1.toNat []).getD x3_3.toNat ({ data := #[] }, [], ())).snd.fst.length then
      bif Nat.beq 1 1 && (Nat.beq 1 1 && (Nat.beq 1 1 && (inb (((x3_15.getD x3_1.toNat []).getD x3_3.toNat ({ data := #[] }, [], ())).snd.fst.getD x3_4.toNat (0, 0, ())).fst x3_17.length && (Nat.beq 1 1 && (Nat.beq 2 2 && (inb x3_3 x3_2.length && (Nat.beq 1 1 && (Nat.beq 2 2 && (inb x3_4 (x3_2.getD x3_3.toNat ({ data := #[] }, [], ())).snd.fst.length && (Nat.beq 1 1 && (x3_17.getD (((x3_15.getD x3_1.toNat []).getD x3_3.toNat ({ data := #[] }, [], ())).snd.fst.getD x3_4.toNat (0, 0, ())).fst.toNat 0 != ((x3_2.getD x3_3.toNat ({ data := #[] }, [], ())).snd.fst.getD x3_4.toNat (0, 0, ())).fst || Nat.beq 1 1 && (Nat.beq 2 2 && (inb x3_3 x3_2.length && (Nat.beq 1 1 && (Nat.beq 2 2 && (inb x3_4 (x3_2.getD x3_3.toNat ({ data := #[] }, [], ())).snd.fst.length && (Nat.beq 1 1 && ((((x3_15.getD x3_1.toNat []).getD x3_3.toNat ({ data := #[] }, [], ())).snd.fst.getD x3_4.toNat (0, 0, ())).snd.fst != ((x3_2.getD x3_3.toNat ({ data := #[] }, [], ())).snd.fst.getD x3_4.toNat (0, 0, ())).snd.fst || Nat.beq 1 1 && (Nat.beq 1 1 && (Nat.beq 1 1 && (inb (((x3_15.getD x3_1.toNat []).getD x3_3.toNat ({ data := #[] }, [], ())).snd.fst.getD x3_4.toNat (0, 0, ())).fst x3_18.length && (Nat.beq 1 1 && (Nat.beq 1 1 && (Nat.beq 1 1 && (Nat.beq 1 1 && (inb x3_1 x3_18.length && (Nat.beq 1 1 && (Nat.beq 1 1 && (inb (x3_18.getD x3_1.toNat 0) x3_11.length && (Nat.beq 1 1 && (Nat.beq 1 1 && (Nat.beq 1 1 && (inb x3_1 x3_17.length && (Nat.beq 1 1 && (Nat.beq 1 1 && (inb (x3_17.getD x3_1.toNat 0) x3_0.length && (Nat.beq 1 1 && (Nat.beq 1 1 && (inb (x3_0.getD (x3_17.getD x3_1.toNat 0).toNat 0) (x3_11.getD (x3_18.getD x3_1.toNat 0).toNat []).length && true))))))))))))))))))))))))))))))))))))))) then
       bif x3_17.getD (((x3_15.getD x3_1.toNat []).getD x3_3.toNat ({ data := #[] }, [], ())).snd.fst.getD x3_4.toNat (0, 0, ())).fst.toNat 0 != ((x3_2.getD x3_3.toNat ({ data := #[] }, [], ())).snd.fst.getD x3_4.toNat (0, 0, ())).fst || ((((x3_15.getD x3_1.toNat []).getD x3_3.toNat ({ data := #[] }, [], ())).snd.fst.getD x3_4.toNat (0, 0, ())).snd.fst != ((x3_2.getD x3_3.toNat ({ data := #[] }, [], ())).snd.fst.getD x3_4.toNat (0, 0, ())).snd.fst || x3_18.getD (((x3_15.getD x3_1.toNat []).getD x3_3.toNat ({ data := #[] }, [], ())).snd.fst.getD x3_4.toNat (0, 0, ())).fst.toNat 0 != (x3_11.getD (x3_18.getD x3_1.toNat 0).toNat []).getD (x3_0.getD (x3_17.getD x3_1.toNat 0).toNat 0).toNat 0) then
        some (Lf.mk [(Pt.one (L.d (Pv.fz true) Sh.b (false : Bool)))] [] [])
       else
        g3 (x3_0 : List Int) (x3_1 : Int) (x3_2 : List (ByteArray × List (Int × Int × Unit) × Unit)) (x3_3 : Int) (IntKind.i64.wrap (x3_4 + 1) : Int) (x3_5 : Int) (x3_6 : List (List (ByteArray × List (Int × Int × Unit) × Unit))) (x3_7 : List ByteArray) (x3_8 : List (List Int)) (x3_9 : Int) (x3_10 : Int) (x3_11 : List (List Int)) (x3_12 : List (List Int × List Int × Unit)) (x3_13 : Int) (x3_14 : List ByteArray) (x3_15 : List (List (ByteArray × List (Int × Int × Unit) × Unit))) (x3_16 : List (List Int)) (x3_17 : List Int) (x3_18 : List Int)
      else
       none
     else
      none
    else
     none
   else
    none
  else
   g2 (x3_0 : List Int) (x3_1 : Int) (x3_2 : List (ByteArray × List (Int × Int × Unit) × Unit)) (IntKind.i64.wrap (x3_3 + 1) : Int) (x3_5 : Int) (x3_6 : List (List (ByteArray × List (Int × Int × Unit) × Unit))) (x3_7 : List ByteArray) (x3_8 : List (List Int)) (x3_9 : Int) (x3_10 : Int) (x3_11 : List (List Int)) (x3_12 : List (List Int × List Int × Unit)) (x3_13 : Int) (x3_14 : List ByteArray) (x3_15 : List (List (ByteArray × List (Int × Int × Unit) × Unit))) (x3_16 : List (List Int)) (x3_17 : List Int) (x3_18 : List Int)
 else
  none
noncomputable def f4L3 (n : Nat) (g0 : f4G0) (g2 : f4G2) : Nat → f4G3
  | 0 => fun _ _ _ _ _ _ _ _ _ _ _ _ _ _ _ _ _ _ _ => none
  | m + 1 => fun x3_0 x3_1 x3_2 x3_3 x3_4 x3_5 x3_6 x3_7 x3_8 x3_9 x3_10 x3_11 x3_12 x3_13 x3_14 x3_15 x3_16 x3_17 x3_18 => f4S3  g0 g2 (f4L3 n g0 g2 m) x3_0 x3_1 x3_2 x3_3 x3_4 x3_5 x3_6 x3_7 x3_8 x3_9 x3_10 x3_11 x3_12 x3_13 x3_14 x3_15 x3_16 x3_17 x3_18
theorem f4S3_ev (n : Nat) (G0 : St → Option Lf) (G2 : St → Option Lf) (G : St → Option Lf) (x3_0 : List Int) (x3_1 : Int) (x3_2 : List (ByteArray × List (Int × Int × Unit) × Unit)) (x3_3 : Int) (x3_4 : Int) (x3_5 : Int) (x3_6 : List (List (ByteArray × List (Int × Int × Unit) × Unit))) (x3_7 : List ByteArray) (x3_8 : List (List Int)) (x3_9 : Int) (x3_10 : Int) (x3_11 : List (List Int)) (x3_12 : List (List Int × List Int × Unit)) (x3_13 : Int) (x3_14 : List ByteArray) (x3_15 : List (List (ByteArray × List (Int × Int × Unit) × Unit))) (x3_16 : List (List Int)) (x3_17 : List Int) (x3_18 : List Int) : rnd C31 f4h n Lf (codeOf f4f) [1, 1, 1, 1, 1, 0, 1, 0, 0, 1, 0, 0, 1, 1, 1, 1, 0, 0, 1, 0, 0, 1, 1, 0] [G0, G2] (endK C31 f4h f4f) G (f4H3 x3_0 x3_1 x3_2 x3_3 x3_4 x3_5 x3_6 x3_7 x3_8 x3_9 x3_10 x3_11 x3_12 x3_13 x3_14 x3_15 x3_16 x3_17 x3_18) = f4S3  (f4W0 G0) (f4W2 G2) (f4W3 G) x3_0 x3_1 x3_2 x3_3 x3_4 x3_5 x3_6 x3_7 x3_8 x3_9 x3_10 x3_11 x3_12 x3_13 x3_14 x3_15 x3_16 x3_17 x3_18 := by kernel_rfl
theorem f4W3_ev (n : Nat) (G0 : St → Option Lf) (G2 : St → Option Lf) : ∀ m, (f4W3 (lp C31 f4h n Lf (codeOf f4f) [1, 1, 1, 1, 1, 0, 1, 0, 0, 1, 0, 0, 1, 1, 1, 1, 0, 0, 1, 0, 0, 1, 1, 0] [G0, G2] (endK C31 f4h f4f) m)) = f4L3 n (f4W0 G0) (f4W2 G2) m := by
  intro m
  induction m with
  | zero => funext x3_0 x3_1 x3_2 x3_3 x3_4 x3_5 x3_6 x3_7 x3_8 x3_9 x3_10 x3_11 x3_12 x3_13 x3_14 x3_15 x3_16 x3_17 x3_18; exact lp_zero _
  | succ m ih =>
    funext x3_0 x3_1 x3_2 x3_3 x3_4 x3_5 x3_6 x3_7 x3_8 x3_9 x3_10 x3_11 x3_12 x3_13 x3_14 x3_15 x3_16 x3_17 x3_18
    show lp C31 f4h n Lf (codeOf f4f) [1, 1, 1, 1, 1, 0, 1, 0, 0, 1, 0, 0, 1, 1, 1, 1, 0, 0, 1, 0, 0, 1, 1, 0] [G0, G2] (endK C31 f4h f4f) (m + 1) (f4H3 x3_0 x3_1 x3_2 x3_3 x3_4 x3_5 x3_6 x3_7 x3_8 x3_9 x3_10 x3_11 x3_12 x3_13 x3_14 x3_15 x3_16 x3_17 x3_18) = f4S3  (f4W0 G0) (f4W2 G2) (f4L3 n (f4W0 G0) (f4W2 G2) m) x3_0 x3_1 x3_2 x3_3 x3_4 x3_5 x3_6 x3_7 x3_8 x3_9 x3_10 x3_11 x3_12 x3_13 x3_14 x3_15 x3_16 x3_17 x3_18
    rw [lp_succ, f4S3_ev, ih]
noncomputable def f4S2 (l3 : f4G3) (g0 : f4G0) (g2 : f4G2) (x2_0 : List Int) (x2_1 : Int) (x2_2 : List (ByteArray × List (Int × Int × Unit) × Unit)) (x2_3 : Int) (x2_4 : Int) (x2_5 : List (List (ByteArray × List (Int × Int × Unit) × Unit))) (x2_6 : List ByteArray) (x2_7 : List (List Int)) (x2_8 : Int) (x2_9 : Int) (x2_10 : List (List Int)) (x2_11 : List (List Int × List Int × Unit)) (x2_12 : Int) (x2_13 : List ByteArray) (x2_14 : List (List (ByteArray × List (Int × Int × Unit) × Unit))) (x2_15 : List (List Int)) (x2_16 : List Int) (x2_17 : List Int) : Option Lf :=
 bif decide (x2_3 < zn x2_2.length) then
  bif Nat.beq 1 1 && (Nat.beq 1 1 && (inb x2_1 x2_14.length && (Nat.beq 1 1 && (Nat.beq 0 0 && (Nat.beq 2 2 && (inb x2_3 (x2_14.getD x2_1.toNat []).length && (Nat.beq 0 0 && (Nat.beq 0 0 && (Nat.beq 1 1 && (Nat.beq 2 2 && (inb x2_3 x2_2.length && (Nat.beq 1 1 && (!((x2_14.getD x2_1.toNat []).getD x2_3.toNat ({ data := #[] }, [], ())).fst.toList == (x2_2.getD x2_3.toNat ({ data := #[] }, [], ())).fst.toList || Nat.beq 1 1 && (Nat.beq 1 1 && (inb x2_1 x2_14.length && (Nat.beq 1 1 && (Nat.beq 0 0 && (Nat.beq 2 2 && (inb x2_3 (x2_14.getD x2_1.toNat []).length && (Nat.beq 0 0 && (Nat.beq 0 0 && (Nat.beq 1 1 && (Nat.beq 0 0 && (Nat.beq 2 2 && (inb x2_3 x2_2.length && true))))))))))))))))))))))))) then
   bif !((x2_14.getD x2_1.toNat []).getD x2_3.toNat ({ data := #[] }, [], ())).fst.toList == (x2_2.getD x2_3.toNat ({ data := #[] }, [], ())).fst.toList || zn ((x2_14.getD x2_1.toNat []).getD x2_3.toNat ({ data := #[] }, [], ())).snd.fst.length != zn (x2_2.getD x2_3.toNat ({ data := #[] }, [], ())).snd.fst.length then
    some (Lf.mk [(Pt.one (L.d (Pv.fz true) Sh.b (false : Bool)))] [] [])
   else
    l3 (x2_0 : List Int) (x2_1 : Int) (x2_2 : List (ByteArray × List (Int × Int × Unit) × Unit)) (x2_3 : Int) (0 : Int) (x2_4 : Int) (x2_5 : List (List (ByteArray × List (Int × Int × Unit) × Unit))) (x2_6 : List ByteArray) (x2_7 : List (List Int)) (x2_8 : Int) (x2_9 : Int) (x2_10 : List (List Int)) (x2_11 : List (List Int × List Int × Unit)) (x2_12 : Int) (x2_13 : List ByteArray) (x2_14 : List (List (ByteArray × List (Int × Int × Unit) × Unit))) (x2_15 : List (List Int)) (x2_16 : List Int) (x2_17 : List Int)
  else
   none
 else
  g0 (x2_0 : List Int) (IntKind.i64.wrap (x2_1 + 1) : Int) (x2_4 : Int) (x2_5 : List (List (ByteArray × List (Int × Int × Unit) × Unit))) (x2_6 : List ByteArray) (x2_7 : List (List Int)) (x2_8 : Int) (x2_9 : Int) (x2_10 : List (List Int)) (x2_11 : List (List Int × List Int × Unit)) (x2_12 : Int) (x2_13 : List ByteArray) (x2_14 : List (List (ByteArray × List (Int × Int × Unit) × Unit))) (x2_15 : List (List Int)) (x2_16 : List Int) (x2_17 : List Int)
noncomputable def f4L2 (n : Nat) (g0 : f4G0) : Nat → f4G2
  | 0 => fun _ _ _ _ _ _ _ _ _ _ _ _ _ _ _ _ _ _ => none
  | m + 1 => fun x2_0 x2_1 x2_2 x2_3 x2_4 x2_5 x2_6 x2_7 x2_8 x2_9 x2_10 x2_11 x2_12 x2_13 x2_14 x2_15 x2_16 x2_17 => f4S2 (f4L3 n g0 (f4L2 n g0 m) n) g0 (f4L2 n g0 m) x2_0 x2_1 x2_2 x2_3 x2_4 x2_5 x2_6 x2_7 x2_8 x2_9 x2_10 x2_11 x2_12 x2_13 x2_14 x2_15 x2_16 x2_17
theorem f4S2_ev (n : Nat) (G0 : St → Option Lf) (G : St → Option Lf) (x2_0 : List Int) (x2_1 : Int) (x2_2 : List (ByteArray × List (Int × Int × Unit) × Unit)) (x2_3 : Int) (x2_4 : Int) (x2_5 : List (List (ByteArray × List (Int × Int × Unit) × Unit))) (x2_6 : List ByteArray) (x2_7 : List (List Int)) (x2_8 : Int) (x2_9 : Int) (x2_10 : List (List Int)) (x2_11 : List (List Int × List Int × Unit)) (x2_12 : Int) (x2_13 : List ByteArray) (x2_14 : List (List (ByteArray × List (Int × Int × Unit) × Unit))) (x2_15 : List (List Int)) (x2_16 : List Int) (x2_17 : List Int) : rnd C31 f4h n Lf (codeOf f4f) [1, 1, 1, 1, 1, 0, 1, 0, 0, 1, 0, 0, 1, 1, 1, 1, 0] [G0] (endK C31 f4h f4f) G (f4H2 x2_0 x2_1 x2_2 x2_3 x2_4 x2_5 x2_6 x2_7 x2_8 x2_9 x2_10 x2_11 x2_12 x2_13 x2_14 x2_15 x2_16 x2_17) = f4S2 (f4W3 (lp C31 f4h n Lf (codeOf f4f) [1, 1, 1, 1, 1, 0, 1, 0, 0, 1, 0, 0, 1, 1, 1, 1, 0, 0, 1, 0, 0, 1, 1, 0] [G0, G] (endK C31 f4h f4f) n)) (f4W0 G0) (f4W2 G) x2_0 x2_1 x2_2 x2_3 x2_4 x2_5 x2_6 x2_7 x2_8 x2_9 x2_10 x2_11 x2_12 x2_13 x2_14 x2_15 x2_16 x2_17 := by kernel_rfl
theorem f4W2_ev (n : Nat) (G0 : St → Option Lf) : ∀ m, (f4W2 (lp C31 f4h n Lf (codeOf f4f) [1, 1, 1, 1, 1, 0, 1, 0, 0, 1, 0, 0, 1, 1, 1, 1, 0] [G0] (endK C31 f4h f4f) m)) = f4L2 n (f4W0 G0) m := by
  intro m
  induction m with
  | zero => funext x2_0 x2_1 x2_2 x2_3 x2_4 x2_5 x2_6 x2_7 x2_8 x2_9 x2_10 x2_11 x2_12 x2_13 x2_14 x2_15 x2_16 x2_17; exact lp_zero _
  | succ m ih =>
    have e3 : (f4W3 (lp C31 f4h n Lf (codeOf f4f) [1, 1, 1, 1, 1, 0, 1, 0, 0, 1, 0, 0, 1, 1, 1, 1, 0, 0, 1, 0, 0, 1, 1, 0] [G0, (lp C31 f4h n Lf (codeOf f4f) [1, 1, 1, 1, 1, 0, 1, 0, 0, 1, 0, 0, 1, 1, 1, 1, 0] [G0] (endK C31 f4h f4f) m)] (endK C31 f4h f4f) n)) = (f4L3 n (f4W0 G0) (f4L2 n (f4W0 G0) m) n) := by
      rw [f4W3_ev, ih]
    funext x2_0 x2_1 x2_2 x2_3 x2_4 x2_5 x2_6 x2_7 x2_8 x2_9 x2_10 x2_11 x2_12 x2_13 x2_14 x2_15 x2_16 x2_17
    show lp C31 f4h n Lf (codeOf f4f) [1, 1, 1, 1, 1, 0, 1, 0, 0, 1, 0, 0, 1, 1, 1, 1, 0] [G0] (endK C31 f4h f4f) (m + 1) (f4H2 x2_0 x2_1 x2_2 x2_3 x2_4 x2_5 x2_6 x2_7 x2_8 x2_9 x2_10 x2_11 x2_12 x2_13 x2_14 x2_15 x2_16 x2_17) = f4S2 (f4L3 n (f4W0 G0) (f4L2 n (f4W0 G0) m) n) (f4W0 G0) (f4L2 n (f4W0 G0) m) x2_0 x2_1 x2_2 x2_3 x2_4 x2_5 x2_6 x2_7 x2_8 x2_9 x2_10 x2_11 x2_12 x2_13 x2_14 x2_15 x2_16 x2_17
    rw [lp_succ, f4S2_ev, ih, e3]
noncomputable def f4S1 (l2 : f4G2) (g0 : f4G0) (g1 : f4G1) (x1_0 : List Int) (x1_1 : Int) (x1_2 : Int) (x1_3 : Int) (x1_4 : List (List (ByteArray × List (Int × Int × Unit) × Unit))) (x1_5 : List ByteArray) (x1_6 : List (List Int)) (x1_7 : Int) (x1_8 : Int) (x1_9 : List (List Int)) (x1_10 : List (List Int × List Int × Unit)) (x1_11 : Int) (x1_12 : List ByteArray) (x1_13 : List (List (ByteArray × List (Int × Int × Unit) × Unit))) (x1_14 : List (List Int)) (x1_15 : List Int) (x1_16 : List Int) : Option Lf :=
 bif decide (x1_2 < x1_1) then
  bif Nat.beq 1 1 && (Nat.beq 1 1 && (inb x1_2 x1_15.length && (Nat.beq 1 1 && (Nat.beq 1 1 && (Nat.beq 1 1 && (inb x1_1 x1_15.length && (Nat.beq 1 1 && bif x1_15.getD x1_2.toNat 0 == x1_15.getD x1_1.toNat 0 then Nat.beq 1 1 && (Nat.beq 1 1 && (inb x1_2 x1_16.length && (Nat.beq 1 1 && (Nat.beq 1 1 && (Nat.beq 1 1 && (inb x1_1 x1_16.length && true)))))) else true))))))) then
   bif x1_15.getD x1_2.toNat 0 == x1_15.getD x1_1.toNat 0 && x1_16.getD x1_2.toNat 0 == x1_16.getD x1_1.toNat 0 then
    some (Lf.mk [(Pt.one (L.d (Pv.fz true) Sh.b (false : Bool)))] [] [])
   else
    g1 (x1_0 : List Int) (x1_1 : Int) (IntKind.i64.wrap (x1_2 + 1) : Int) (x1_3 : Int) (x1_4 : List (List (ByteArray × List (Int × Int × Unit) × Unit))) (x1_5 : List ByteArray) (x1_6 : List (List Int)) (x1_7 : Int) (x1_8 : Int) (x1_9 : List (List Int)) (x1_10 : List (List Int × List Int × Unit)) (x1_11 : Int) (x1_12 : List ByteArray) (x1_13 : List (List (ByteArray × List (Int × Int × Unit) × Unit))) (x1_14 : List (List Int)) (x1_15 : List Int) (x1_16 : List Int)
  else
   none
 else
  bif inb x1_1 x1_15.length then
   bif inb (x1_15.getD x1_1.toNat 0) x1_4.length then
    bif inb x1_1 x1_13.length then
     bif zn (x1_13.getD x1_1.toNat []).length != zn (x1_4.getD (x1_15.getD x1_1.toNat 0).toNat []).length then
      some (Lf.mk [(Pt.one (L.d (Pv.fz true) Sh.b (false : Bool)))] [] [])
     else
      l2 (x1_0 : List Int) (x1_1 : Int) (x1_4.getD (x1_15.getD x1_1.toNat 0).toNat [] : List (ByteArray × List (Int × Int × Unit) × Unit)) (0 : Int) (x1_3 : Int) (x1_4 : List (List (ByteArray × List (Int × Int × Unit) × Unit))) (x1_5 : List ByteArray) (x1_6 : List (List Int)) (x1_7 : Int) (x1_8 : Int) (x1_9 : List (List Int)) (x1_10 : List (List Int × List Int × Unit)) (x1_11 : Int) (x1_12 : List ByteArray) (x1_13 : List (List (ByteArray × List (Int × Int × Unit) × Unit))) (x1_14 : List (List Int)) (x1_15 : List Int) (x1_16 : List Int)
    else
     none
   else
    none
  else
   none
noncomputable def f4L1 (n : Nat) (g0 : f4G0) : Nat → f4G1
  | 0 => fun _ _ _ _ _ _ _ _ _ _ _ _ _ _ _ _ _ => none
  | m + 1 => fun x1_0 x1_1 x1_2 x1_3 x1_4 x1_5 x1_6 x1_7 x1_8 x1_9 x1_10 x1_11 x1_12 x1_13 x1_14 x1_15 x1_16 => f4S1 (f4L2 n g0 n) g0 (f4L1 n g0 m) x1_0 x1_1 x1_2 x1_3 x1_4 x1_5 x1_6 x1_7 x1_8 x1_9 x1_10 x1_11 x1_12 x1_13 x1_14 x1_15 x1_16
theorem f4S1_ev (n : Nat) (G0 : St → Option Lf) (G : St → Option Lf) (x1_0 : List Int) (x1_1 : Int) (x1_2 : Int) (x1_3 : Int) (x1_4 : List (List (ByteArray × List (Int × Int × Unit) × Unit))) (x1_5 : List ByteArray) (x1_6 : List (List Int)) (x1_7 : Int) (x1_8 : Int) (x1_9 : List (List Int)) (x1_10 : List (List Int × List Int × Unit)) (x1_11 : Int) (x1_12 : List ByteArray) (x1_13 : List (List (ByteArray × List (Int × Int × Unit) × Unit))) (x1_14 : List (List Int)) (x1_15 : List Int) (x1_16 : List Int) : rnd C31 f4h n Lf (codeOf f4f) [1, 1, 1, 1, 1, 0, 1, 0, 0, 1, 0, 0, 0, 1, 0] [G0] (endK C31 f4h f4f) G (f4H1 x1_0 x1_1 x1_2 x1_3 x1_4 x1_5 x1_6 x1_7 x1_8 x1_9 x1_10 x1_11 x1_12 x1_13 x1_14 x1_15 x1_16) = f4S1 (f4W2 (lp C31 f4h n Lf (codeOf f4f) [1, 1, 1, 1, 1, 0, 1, 0, 0, 1, 0, 0, 1, 1, 1, 1, 0] [G0] (endK C31 f4h f4f) n)) (f4W0 G0) (f4W1 G) x1_0 x1_1 x1_2 x1_3 x1_4 x1_5 x1_6 x1_7 x1_8 x1_9 x1_10 x1_11 x1_12 x1_13 x1_14 x1_15 x1_16 := by kernel_rfl
theorem f4W1_ev (n : Nat) (G0 : St → Option Lf) : ∀ m, (f4W1 (lp C31 f4h n Lf (codeOf f4f) [1, 1, 1, 1, 1, 0, 1, 0, 0, 1, 0, 0, 0, 1, 0] [G0] (endK C31 f4h f4f) m)) = f4L1 n (f4W0 G0) m := by
  intro m
  induction m with
  | zero => funext x1_0 x1_1 x1_2 x1_3 x1_4 x1_5 x1_6 x1_7 x1_8 x1_9 x1_10 x1_11 x1_12 x1_13 x1_14 x1_15 x1_16; exact lp_zero _
  | succ m ih =>
    have e2 : (f4W2 (lp C31 f4h n Lf (codeOf f4f) [1, 1, 1, 1, 1, 0, 1, 0, 0, 1, 0, 0, 1, 1, 1, 1, 0] [G0] (endK C31 f4h f4f) n)) = (f4L2 n (f4W0 G0) n) := by
      rw [f4W2_ev]
    funext x1_0 x1_1 x1_2 x1_3 x1_4 x1_5 x1_6 x1_7 x1_8 x1_9 x1_10 x1_11 x1_12 x1_13 x1_14 x1_15 x1_16
    show lp C31 f4h n Lf (codeOf f4f) [1, 1, 1, 1, 1, 0, 1, 0, 0, 1, 0, 0, 0, 1, 0] [G0] (endK C31 f4h f4f) (m + 1) (f4H1 x1_0 x1_1 x1_2 x1_3 x1_4 x1_5 x1_6 x1_7 x1_8 x1_9 x1_10 x1_11 x1_12 x1_13 x1_14 x1_15 x1_16) = f4S1 (f4L2 n (f4W0 G0) n) (f4W0 G0) (f4L1 n (f4W0 G0) m) x1_0 x1_1 x1_2 x1_3 x1_4 x1_5 x1_6 x1_7 x1_8 x1_9 x1_10 x1_11 x1_12 x1_13 x1_14 x1_15 x1_16
    rw [lp_succ, f4S1_ev, ih, e2]
noncomputable def f4S0 (l1 : f4G1) (g0 : f4G0) (x0_0 : List Int) (x0_1 : Int) (x0_2 : Int) (x0_3 : List (List (ByteArray × List (Int × Int × Unit) × Unit))) (x0_4 : List ByteArray) (x0_5 : List (List Int)) (x0_6 : Int) (x0_7 : Int) (x0_8 : List (List Int)) (x0_9 : List (List Int × List Int × Unit)) (x0_10 : Int) (x0_11 : List ByteArray) (x0_12 : List (List (ByteArray × List (Int × Int × Unit) × Unit))) (x0_13 : List (List Int)) (x0_14 : List Int) (x0_15 : List Int) : Option Lf :=
 bif decide (x0_1 < zn x0_14.length) then
  l1 (x0_0 : List Int) (x0_1 : Int) (0 : Int) (x0_2 : Int) (x0_3 : List (List (ByteArray × List (Int × Int × Unit) × Unit))) (x0_4 : List ByteArray) (x0_5 : List (List Int)) (x0_6 : Int) (x0_7 : Int) (x0_8 : List (List Int)) (x0_9 : List (List Int × List Int × Unit)) (x0_10 : Int) (x0_11 : List ByteArray) (x0_12 : List (List (ByteArray × List (Int × Int × Unit) × Unit))) (x0_13 : List (List Int)) (x0_14 : List Int) (x0_15 : List Int)
 else
  some (Lf.mk [(Pt.one (L.d (Pv.fz true) Sh.b (true : Bool)))] [] [])
noncomputable def f4L0 (n : Nat)  : Nat → f4G0
  | 0 => fun _ _ _ _ _ _ _ _ _ _ _ _ _ _ _ _ => none
  | m + 1 => fun x0_0 x0_1 x0_2 x0_3 x0_4 x0_5 x0_6 x0_7 x0_8 x0_9 x0_10 x0_11 x0_12 x0_13 x0_14 x0_15 => f4S0 (f4L1 n (f4L0 n  m) n)  (f4L0 n  m) x0_0 x0_1 x0_2 x0_3 x0_4 x0_5 x0_6 x0_7 x0_8 x0_9 x0_10 x0_11 x0_12 x0_13 x0_14 x0_15
theorem f4S0_ev (n : Nat)  (G : St → Option Lf) (x0_0 : List Int) (x0_1 : Int) (x0_2 : Int) (x0_3 : List (List (ByteArray × List (Int × Int × Unit) × Unit))) (x0_4 : List ByteArray) (x0_5 : List (List Int)) (x0_6 : Int) (x0_7 : Int) (x0_8 : List (List Int)) (x0_9 : List (List Int × List Int × Unit)) (x0_10 : Int) (x0_11 : List ByteArray) (x0_12 : List (List (ByteArray × List (Int × Int × Unit) × Unit))) (x0_13 : List (List Int)) (x0_14 : List Int) (x0_15 : List Int) : rnd C31 f4h n Lf (codeOf f4f) [1, 1, 1, 1, 1, 0, 1, 0] [] (endK C31 f4h f4f) G (f4H0 x0_0 x0_1 x0_2 x0_3 x0_4 x0_5 x0_6 x0_7 x0_8 x0_9 x0_10 x0_11 x0_12 x0_13 x0_14 x0_15) = f4S0 (f4W1 (lp C31 f4h n Lf (codeOf f4f) [1, 1, 1, 1, 1, 0, 1, 0, 0, 1, 0, 0, 0, 1, 0] [G] (endK C31 f4h f4f) n))  (f4W0 G) x0_0 x0_1 x0_2 x0_3 x0_4 x0_5 x0_6 x0_7 x0_8 x0_9 x0_10 x0_11 x0_12 x0_13 x0_14 x0_15 := by kernel_rfl
theorem f4W0_ev (n : Nat)  : ∀ m, (f4W0 (lp C31 f4h n Lf (codeOf f4f) [1, 1, 1, 1, 1, 0, 1, 0] [] (endK C31 f4h f4f) m)) = f4L0 n  m := by
  intro m
  induction m with
  | zero => funext x0_0 x0_1 x0_2 x0_3 x0_4 x0_5 x0_6 x0_7 x0_8 x0_9 x0_10 x0_11 x0_12 x0_13 x0_14 x0_15; exact lp_zero _
  | succ m ih =>
    have e1 : (f4W1 (lp C31 f4h n Lf (codeOf f4f) [1, 1, 1, 1, 1, 0, 1, 0, 0, 1, 0, 0, 0, 1, 0] [(lp C31 f4h n Lf (codeOf f4f) [1, 1, 1, 1, 1, 0, 1, 0] [] (endK C31 f4h f4f) m)] (endK C31 f4h f4f) n)) = (f4L1 n (f4L0 n  m) n) := by
      rw [f4W1_ev, ih]
    funext x0_0 x0_1 x0_2 x0_3 x0_4 x0_5 x0_6 x0_7 x0_8 x0_9 x0_10 x0_11 x0_12 x0_13 x0_14 x0_15
    show lp C31 f4h n Lf (codeOf f4f) [1, 1, 1, 1, 1, 0, 1, 0] [] (endK C31 f4h f4f) (m + 1) (f4H0 x0_0 x0_1 x0_2 x0_3 x0_4 x0_5 x0_6 x0_7 x0_8 x0_9 x0_10 x0_11 x0_12 x0_13 x0_14 x0_15) = f4S0 (f4L1 n (f4L0 n  m) n)  (f4L0 n  m) x0_0 x0_1 x0_2 x0_3 x0_4 x0_5 x0_6 x0_7 x0_8 x0_9 x0_10 x0_11 x0_12 x0_13 x0_14 x0_15
    rw [lp_succ, f4S0_ev, ih, e1]
noncomputable def f4T (l0 : f4G0) (i : Int) (ch : List (List (ByteArray × List (Int × Int × Unit) × Unit))) (nm : List ByteArray) (ho : List (List Int)) (le : List Int) (p : Int) (i2 : Int) (nx : List (List Int)) (ps : List (List Int × List Int × Unit)) : Option Lf :=
 bif farM ch nm ho || (farF nx ps || (decide (zn le.length > 60) || Nat.beq 1 1 && (decide (zn ch.length > 12) || Nat.beq 1 1 && (decide (zn nx.length > 12) || allG ch nm ho le nx ps && true)))) then
  bif farM ch nm ho || (farF nx ps || (decide (zn le.length > 60) || (decide (zn ch.length > 12) || (decide (zn nx.length > 12) || !allOk i ch nm ho le p i2 nx ps)))) then
   some (Lf.mk [(Pt.one (L.d (Pv.fz true) Sh.b (true : Bool)))] [] [])
  else
   bif ofMG ch nm ho then
    bif ofG nx ps then
     bif makeG ch nm ho le nx ps then
      bif !(makeV i ch nm ho le p i2 nx ps 4096).snd.snd.snd.isNil || Nat.beq 1 1 && (Nat.beq 1 1 && (zn (makeV i ch nm ho le p i2 nx ps 4096).snd.fst.length != zn (makeV i ch nm ho le p i2 nx ps 4096).snd.snd.fst.length || true)) then
       bif !(makeV i ch nm ho le p i2 nx ps 4096).snd.snd.snd.isNil || (zn (makeV i ch nm ho le p i2 nx ps 4096).snd.fst.length != zn (makeV i ch nm ho le p i2 nx ps 4096).snd.snd.fst.length || zn (makeV i ch nm ho le p i2 nx ps 4096).fst.length != zn (makeV i ch nm ho le p i2 nx ps 4096).snd.fst.length) then
        some (Lf.mk [(Pt.one (L.d (Pv.fz true) Sh.b (false : Bool)))] [] [])
       else
        l0 (le : List Int) (0 : Int) (i : Int) (ch : List (List (ByteArray × List (Int × Int × Unit) × Unit))) (nm : List ByteArray) (ho : List (List Int)) (p : Int) (i2 : Int) (nx : List (List Int)) (ps : List (List Int × List Int × Unit)) (0 : Int) ([] : List ByteArray) ((makeV i ch nm ho le p i2 nx ps 4096).fst : List (List (ByteArray × List (Int × Int × Unit) × Unit))) (List.map (fun (x : List ChV) => []) (makeV i ch nm ho le p i2 nx ps 4096).fst : List (List Int)) ((makeV i ch nm ho le p i2 nx ps 4096).snd.fst : List Int) ((makeV i ch nm ho le p i2 nx ps 4096).snd.snd.fst : List Int)
      else
       none
     else
      none
    else
     none
   else
    none
 else
  none
noncomputable def f4M (n : Nat) (i : Int) (ch : List (List (ByteArray × List (Int × Int × Unit) × Unit))) (nm : List ByteArray) (ho : List (List Int)) (le : List Int) (p : Int) (i2 : Int) (nx : List (List Int)) (ps : List (List Int × List Int × Unit)) : Option Lf := f4T (f4L0 n n) i ch nm ho le p i2 nx ps
theorem f4T_ev (n : Nat) (i : Int) (ch : List (List (ByteArray × List (Int × Int × Unit) × Unit))) (nm : List ByteArray) (ho : List (List Int)) (le : List Int) (p : Int) (i2 : Int) (nx : List (List Int)) (ps : List (List Int × List Int × Unit)) : evF C31 f4h n f4f [(D.p (Pt.agg [(L.d (Pv.fz true) (Sh.i IntKind.i64) i), (L.d (Pv.fz false) (Sh.l (Sh.l (Sh.p Sh.s (Sh.p (Sh.l (Sh.p (Sh.i IntKind.i64) (Sh.p (Sh.i IntKind.i64) Sh.u))) Sh.u)))) ch), (L.d (Pv.fz false) (Sh.l Sh.s) nm), (L.d (Pv.fz false) (Sh.l (Sh.l (Sh.i IntKind.i64))) ho)])), (D.p (Pt.one (L.d (Pv.fz false) (Sh.l (Sh.i IntKind.i64)) le))), (D.p (Pt.agg [(L.d (Pv.fz true) (Sh.i IntKind.i64) p), (L.d (Pv.fz true) (Sh.i IntKind.i64) i2), (L.d (Pv.fz false) (Sh.l (Sh.l (Sh.i IntKind.i64))) nx), (L.d (Pv.fz false) (Sh.l (Sh.p (Sh.l (Sh.i IntKind.i64)) (Sh.p (Sh.l (Sh.i IntKind.i64)) Sh.u))) ps)]))] [] = f4T (f4W0 (lp C31 f4h n Lf (codeOf f4f) [1, 1, 1, 1, 1, 0, 1, 0] [] (endK C31 f4h f4f) n)) i ch nm ho le p i2 nx ps := by kernel_rfl
theorem f4_ev (n : Nat) (i : Int) (ch : List (List (ByteArray × List (Int × Int × Unit) × Unit))) (nm : List ByteArray) (ho : List (List Int)) (le : List Int) (p : Int) (i2 : Int) (nx : List (List Int)) (ps : List (List Int × List Int × Unit)) : evF C31 f4h n f4f [(D.p (Pt.agg [(L.d (Pv.fz true) (Sh.i IntKind.i64) i), (L.d (Pv.fz false) (Sh.l (Sh.l (Sh.p Sh.s (Sh.p (Sh.l (Sh.p (Sh.i IntKind.i64) (Sh.p (Sh.i IntKind.i64) Sh.u))) Sh.u)))) ch), (L.d (Pv.fz false) (Sh.l Sh.s) nm), (L.d (Pv.fz false) (Sh.l (Sh.l (Sh.i IntKind.i64))) ho)])), (D.p (Pt.one (L.d (Pv.fz false) (Sh.l (Sh.i IntKind.i64)) le))), (D.p (Pt.agg [(L.d (Pv.fz true) (Sh.i IntKind.i64) p), (L.d (Pv.fz true) (Sh.i IntKind.i64) i2), (L.d (Pv.fz false) (Sh.l (Sh.l (Sh.i IntKind.i64))) nx), (L.d (Pv.fz false) (Sh.l (Sh.p (Sh.l (Sh.i IntKind.i64)) (Sh.p (Sh.l (Sh.i IntKind.i64)) Sh.u))) ps)]))] [] = f4M n i ch nm ho le p i2 nx ps := by
  rw [f4T_ev, f4W0_ev]
  rfl
end Go.S23
