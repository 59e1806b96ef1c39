/-
  Seat 23: what Check, the document's Right and Of compute.
-/
import Derived.Test.YtkbablmhgnpmmaaDoorS23N
open Go Go.En Go.S23
namespace Go.S23
/-! ### what the functions come to -/
def badL (n p : Int) (l : List Int) : Bool := !(zn l.length == ((2 ^ p.toNat : Nat) : Int)) || l.any (nin n)
def badP (n : Int) (q : PairV) : Bool := !(riseF n (-1) q.1) || !(riseF n (-1) q.2.1)
def headOk (p i : Int) (nx : List (List Int)) (ps : List PairV) : Bool := (decide (0 ≤ p) && decide (p ≤ 6)) && ((decide (1 ≤ zn nx.length) && decide (zn nx.length ≤ 4096)) && (inF (zn nx.length) i && decide (zn ps.length ≤ 4096)))
def drOk (p i : Int) (nx : List (List Int)) (ps : List PairV) : Bool := headOk p i nx ps && (!(nx.any (badL (zn nx.length) p)) && !(ps.any (badP (zn nx.length))))
def drG (nx : List (List Int)) (ps : List PairV) : Bool := big nx.length && (nx.all (fun l => big l.length) && (big ps.length && ps.all (fun q => big q.1.length && big q.2.1.length)))
def pairG (q : PairV) : Bool := big q.1.length && big q.2.1.length
/-! ### contracts -/
def m6 (n : Nat) : Bool := Nat.ble n 1000000
def ofG (nx : List (List Int)) (ps : List PairV) : Bool := m6 nx.length && (nx.all (fun l => m6 l.length) && (m6 ps.length && ps.all (fun q => Nat.ble q.1.length 17592186044416 && Nat.ble q.2.1.length 17592186044416)))
def roN (nx : List (List Int)) : Ob := .ro true 0 27 (.l (.i .i64)) (.l 3 .z) nx none
def roP (ps : List PairV) : Ob := .ro true 0 92 (.p (.l (.i .i64)) (.p (.l (.i .i64)) .u)) (.p (.l 3 .z) (.p (.l 3 .z) .z)) ps none
def er1 (b : Bool) : Er := bif b then .nil else .no 1
def ofS : En.Spec := ⟨[], fun ds os => match ds, os with
  | [.p (.agg [.d (.fz true) (.i .i64) p, .d (.fz true) (.i .i64) i, .d (.fz false) (.l (.l (.i .i64))) nx, .d (.fz false) (.l (.p (.l (.i .i64)) (.p (.l (.i .i64)) .u))) ps])], [] =>
    .br (ofG nx ps) (.leaf [.agg [.d (.fz true) (.i .i64) p, .d (.fz true) (.i .i64) i, .rw ⟨1, 0⟩, .rw ⟨1, 1⟩]] [] [roN nx, roP ps]) .fail
  | _, _ => .fail⟩
def checkS : En.Spec := ⟨[], fun ds os => match ds, os with
  | [.p (.agg [.d (.fz true) (.i .i64) p, .d (.fz true) (.i .i64) i, .d (.fz false) (.l (.l (.i .i64))) nx, .d (.fz false) (.l (.p (.l (.i .i64)) (.p (.l (.i .i64)) .u))) ps])], [] =>
    .br (drG nx ps) (.leaf [pE (er1 (drOk p i nx ps))] [] []) .fail
  | _, _ => .fail⟩
def rightS : En.Spec := ⟨[], fun ds os => match ds, os with
  | [.p (.agg [.d (.fz true) (.i .i64) p, .d (.fz true) (.i .i64) i, .d (.fz false) (.l (.l (.i .i64))) nx, .d (.fz false) (.l (.p (.l (.i .i64)) (.p (.l (.i .i64)) .u))) ps])], [] =>
    .br (drG nx ps) (.leaf [pB (drOk p i nx ps)] [] []) .fail
  | _, _ => .fail⟩
def checkMS : En.Spec := ⟨[], fun ds os => match ds, os with
  | [.p (.agg [.d (.fz true) (.i .i64) i, .d (.fz false) (.l (.l (.p .s (.p (.l (.p (.i .i64) (.p (.i .i64) .u))) .u)))) ch, .d (.fz false) (.l .s) nm, .d (.fz false) (.l (.l (.i .i64))) ho])], [] =>
    .br (mdG ch nm ho) (.leaf [pE (er1 (mdOk i ch nm ho))] [] []) .fail
  | _, _ => .fail⟩
/-- a process copied -/
abbrev owC : Ow := .p .z (.p (.l 67 .z) .z)
def roCh (ch : List (List ChV)) : Ob := .ro true 0 59 (.l chSh) (.l 62 owC) ch none
def roNm (nm : List ByteArray) : Ob := .ro true 0 9 .s .z nm none
def ofMG (ch : List (List ChV)) (nm : List ByteArray) (ho : List (List Int)) : Bool := (m6 ch.length && ch.all (fun l => m6 l.length && l.all fun c => m6 c.2.1.length)) && (m6 nm.length && (m6 ho.length && ho.all fun l => m6 l.length))
def ofMS : En.Spec := ⟨[], fun ds os => match ds, os with
  | [.p (.agg [.d (.fz true) (.i .i64) i, .d (.fz false) (.l (.l (.p .s (.p (.l (.p (.i .i64) (.p (.i .i64) .u))) .u)))) ch, .d (.fz false) (.l .s) nm, .d (.fz false) (.l (.l (.i .i64))) ho])], [] =>
    .br (ofMG ch nm ho) (.leaf [.agg [.d (.fz true) (.i .i64) i, .rw ⟨1, 0⟩, .rw ⟨1, 1⟩, .rw ⟨1, 2⟩]] [] [roCh ch, roNm nm, roN ho]) .fail
  | _, _ => .fail⟩
/-- an error that isn't at a place -/
def plain : Er → Bool
  | .at .. => false
  | _ => true
def numOf : Er → Int
  | .nil => 0
  | .no n => n
  | .at _ e => numOf e
def numS : En.Spec := ⟨[], fun ds os => match ds with
  | [.p (.one (.d (.fz _) .e v))] => .br (plain v) (.leaf [pI (numOf v)] os []) .fail
  | _ => .fail⟩
noncomputable def l10 : List (Nat × En.Spec) := (28, con28S) :: (35, lettersS) :: (36, riseS) :: (37, differS) :: (38, risesS) :: (39, con39S) :: (44, risesS) :: []
noncomputable def C10 : Ctx := ctxOf C0 l10
def h12 : Hn := ⟨fun | 4 => [1, 2, 3, 4] | 8 => [1, 2, 3, 4, 5, 6] | 12 => [1, 2, 3, 4, 5, 6, 7, 8] | 18 => [1, 2, 3, 9] | _ => [], fun | 4 => [⟨3, some 1, 59, .l 62 owC⟩, ⟨3, some 3, 27, .l 3 .z⟩] | 8 => [⟨5, none, 62, owC⟩] | 12 => [⟨7, some 1, 67, .z⟩] | _ => [], fun _ => false⟩
def h13 : Hn := ⟨fun | 3 => [1, 2, 3, 4] | 7 => [1, 2, 3, 5] | _ => [], fun | 3 => [⟨3, some 2, 27, .l 3 .z⟩, ⟨3, some 3, 92, .p (.l 3 .z) (.p (.l 3 .z) .z)⟩] | _ => [], fun _ => false⟩
def h27 : Hn := ⟨fun | 5 => [1, 3, 46, 47, 48] | 11 => [3, 66, 67, 68] | _ => [], fun _ => [], fun _ => false⟩
def h21 : Hn := ⟨fun | 5 => [1, 3, 4] | 10 => [1, 3, 4, 5] | 15 => [1, 3, 6] | _ => [], fun _ => [], fun _ => false⟩
def h23 : Hn := ⟨fun | 5 => [1, 3, 41, 42, 43] | _ => [], fun _ => [], fun _ => false⟩

abbrev f13h : Hn := h13
noncomputable abbrev f13f : Func := fn 13
abbrev f13G0 := Int → Int → Int → (List (List Int)) → (List (List Int × List Int × Unit)) → Int → Int → Int → Int → (List (List Int)) → (List (List Int × List Int × Unit)) → Option Lf
noncomputable def f13H0 (x0_0 : Int) (x0_1 : Int) (x0_2 : Int) (x0_3 : List (List Int)) (x0_4 : List (List Int × List Int × Unit)) (x0_5 : Int) (x0_6 : Int) (x0_7 : Int) (x0_8 : Int) (x0_9 : List (List Int)) (x0_10 : List (List Int × List Int × Unit)) : St := (St.mk [dead, (D.p (Pt.one (L.pv (Id.mk 1 0) 0))), (D.p (Pt.one (L.pv (Id.mk 1 1) 0))), (D.p (Pt.one (L.pv (Id.mk 1 2) 0))), (D.p (Pt.one (L.d (Pv.fz true) (Sh.i IntKind.i64) x0_0))), dead, dead, dead, dead, dead, dead, dead, dead, dead, dead, dead, dead, dead, dead, dead, dead, dead, dead, dead, dead, dead, dead, dead, dead, dead, dead, dead, dead, dead, dead, dead, dead, dead, dead, dead, dead, dead, dead, dead, dead, dead, dead, dead, dead, dead, dead, dead, dead, dead, dead, dead, dead, dead, dead, dead] [[], [(Ob.va [(L.d (Pv.fz true) (Sh.i IntKind.i64) x0_1), (L.d (Pv.fz true) (Sh.i IntKind.i64) x0_2), (L.d (Pv.fz false) (Sh.l (Sh.l (Sh.i IntKind.i64))) x0_3), (L.d (Pv.fz false) (Sh.l (Sh.p (Sh.l (Sh.i IntKind.i64)) (Sh.p (Sh.l (Sh.i IntKind.i64)) Sh.u))) x0_4)]), (Ob.va [(L.d (Pv.fz true) (Sh.i IntKind.i64) x0_5), (L.d (Pv.fz true) (Sh.i IntKind.i64) x0_6), L.nl, L.nl]), (Ob.va [(L.d (Pv.fz true) (Sh.i IntKind.i64) x0_7), (L.d (Pv.fz true) (Sh.i IntKind.i64) x0_8), (L.rw (Id.mk 1 3)), (L.rw (Id.mk 1 4))]), (Ob.ro true 0 27 (Sh.l (Sh.i IntKind.i64)) (Ow.l 3 Ow.z) x0_9 Option.none), (Ob.ro true 0 92 (Sh.p (Sh.l (Sh.i IntKind.i64)) (Sh.p (Sh.l (Sh.i IntKind.i64)) Sh.u)) (Ow.p (Ow.l 3 Ow.z) (Ow.p (Ow.l 3 Ow.z) Ow.z)) x0_10 Option.none)]])
noncomputable def f13W0 (G : St → Option Lf) : f13G0 := fun x0_0 x0_1 x0_2 x0_3 x0_4 x0_5 x0_6 x0_7 x0_8 x0_9 x0_10 => G (f13H0 x0_0 x0_1 x0_2 x0_3 x0_4 x0_5 x0_6 x0_7 x0_8 x0_9 x0_10)
abbrev f13G1 := Int → Int → Int → (List (List Int)) → (List (List Int × List Int × Unit)) → Int → Int → Int → Int → (List (List Int)) → (List (List Int × List Int × Unit)) → Option Lf
noncomputable def f13H1 (x1_0 : Int) (x1_1 : Int) (x1_2 : Int) (x1_3 : List (List Int)) (x1_4 : List (List Int × List Int × Unit)) (x1_5 : Int) (x1_6 : Int) (x1_7 : Int) (x1_8 : Int) (x1_9 : List (List Int)) (x1_10 : List (List Int × List Int × Unit)) : St := (St.mk [dead, (D.p (Pt.one (L.pv (Id.mk 1 0) 0))), (D.p (Pt.one (L.pv (Id.mk 1 1) 0))), (D.p (Pt.one (L.pv (Id.mk 1 2) 0))), dead, (D.p (Pt.one (L.d (Pv.fz true) (Sh.i IntKind.i64) x1_0))), dead, dead, dead, dead, dead, dead, dead, dead, dead, dead, dead, dead, dead, dead, dead, dead, dead, dead, dead, dead, dead, dead, dead, dead, dead, dead, dead, dead, dead, dead, dead, dead, dead, dead, dead, dead, dead, dead, dead, dead, dead, dead, dead, dead, dead, dead, dead, dead, dead, dead, dead, dead, dead, dead] [[], [(Ob.va [(L.d (Pv.fz true) (Sh.i IntKind.i64) x1_1), (L.d (Pv.fz true) (Sh.i IntKind.i64) x1_2), (L.d (Pv.fz false) (Sh.l (Sh.l (Sh.i IntKind.i64))) x1_3), (L.d (Pv.fz false) (Sh.l (Sh.p (Sh.l (Sh.i IntKind.i64)) (Sh.p (Sh.l (Sh.i IntKind.i64)) Sh.u))) x1_4)]), (Ob.va [(L.d (Pv.fz true) (Sh.i IntKind.i64) x1_5), (L.d (Pv.fz true) (Sh.i IntKind.i64) x1_6), L.nl, L.nl]), (Ob.va [(L.d (Pv.fz true) (Sh.i IntKind.i64) x1_7), (L.d (Pv.fz true) (Sh.i IntKind.i64) x1_8), (L.rw (Id.mk 1 3)), (L.rw (Id.mk 1 4))]), (Ob.ro true 0 27 (Sh.l (Sh.i IntKind.i64)) (Ow.l 3 Ow.z) x1_9 Option.none), (Ob.ro true 0 92 (Sh.p (Sh.l (Sh.i IntKind.i64)) (Sh.p (Sh.l (Sh.i IntKind.i64)) Sh.u)) (Ow.p (Ow.l 3 Ow.z) (Ow.p (Ow.l 3 Ow.z) Ow.z)) x1_10 Option.none)]])
noncomputable def f13W1 (G : St → Option Lf) : f13G1 := fun x1_0 x1_1 x1_2 x1_3 x1_4 x1_5 x1_6 x1_7 x1_8 x1_9 x1_10 => G (f13H1 x1_0 x1_1 x1_2 x1_3 x1_4 x1_5 x1_6 x1_7 x1_8 x1_9 x1_10)
noncomputable def f13S1  (g1 : f13G1) (x1_0 : Int) (x1_1 : Int) (x1_2 : Int) (x1_3 : List (List Int)) (x1_4 : List (List Int × List Int × Unit)) (x1_5 : Int) (x1_6 : Int) (x1_7 : Int) (x1_8 : Int) (x1_9 : List (List Int)) (x1_10 : List (List Int × List Int × Unit)) : Option Lf :=
 bif decide (x1_0 < zn x1_4.length) then
  bif inb x1_0 x1_4.length then
   bif decide ((0 + (x1_4.getD x1_0.toNat ([], [], ())).fst.length) * 8 ≤ 140737488355328) then
    bif inb x1_0 x1_4.length then
     bif decide ((0 + (x1_4.getD x1_0.toNat ([], [], ())).snd.fst.length) * 8 ≤ 140737488355328) then
      bif decide ((x1_10.length + [([] ++ (x1_4.getD x1_0.toNat ([], [], ())).fst, [] ++ (x1_4.getD x1_0.toNat ([], [], ())).snd.fst, ())].length) * 48 ≤ 140737488355328) then
       g1 (IntKind.i64.wrap (x1_0 + 1) : Int) (x1_1 : Int) (x1_2 : Int) (x1_3 : List (List Int)) (x1_4 : List (List Int × List Int × Unit)) (x1_5 : Int) (x1_6 : Int) (x1_7 : Int) (x1_8 : Int) (x1_9 : List (List Int)) (x1_10 ++ [([] ++ (x1_4.getD x1_0.toNat ([], [], ())).fst, [] ++ (x1_4.getD x1_0.toNat ([], [], ())).snd.fst, ())] : List (List Int × List Int × Unit))
      else
       none
     else
      none
    else
     none
   else
    none
  else
   none
 else
  some (Lf.mk [(Pt.agg [(L.d (Pv.fz true) (Sh.i IntKind.i64) (x1_7 : Int)), (L.d (Pv.fz true) (Sh.i IntKind.i64) (x1_8 : Int)), (L.rw (Id.mk 1 0)), (L.rw (Id.mk 1 1))])] [] [(Ob.ro true 0 27 (Sh.l (Sh.i IntKind.i64)) (Ow.l 3 Ow.z) (x1_9 : List (List Int)) Option.none), (Ob.ro true 0 92 (Sh.p (Sh.l (Sh.i IntKind.i64)) (Sh.p (Sh.l (Sh.i IntKind.i64)) Sh.u)) (Ow.p (Ow.l 3 Ow.z) (Ow.p (Ow.l 3 Ow.z) Ow.z)) (x1_10 : List (List Int × List Int × Unit)) Option.none)])
noncomputable def f13L1 (n : Nat)  : Nat → f13G1
  | 0 => fun _ _ _ _ _ _ _ _ _ _ _ => none
  | m + 1 => fun x1_0 x1_1 x1_2 x1_3 x1_4 x1_5 x1_6 x1_7 x1_8 x1_9 x1_10 => f13S1   (f13L1 n  m) x1_0 x1_1 x1_2 x1_3 x1_4 x1_5 x1_6 x1_7 x1_8 x1_9 x1_10
theorem f13S1_ev (n : Nat)  (G : St → Option Lf) (x1_0 : Int) (x1_1 : Int) (x1_2 : Int) (x1_3 : List (List Int)) (x1_4 : List (List Int × List Int × Unit)) (x1_5 : Int) (x1_6 : Int) (x1_7 : Int) (x1_8 : Int) (x1_9 : List (List Int)) (x1_10 : List (List Int × List Int × Unit)) : rnd C10 f13h n Lf (codeOf f13f) [1, 1, 1, 0, 1, 0] [] (endK C10 f13h f13f) G (f13H1 x1_0 x1_1 x1_2 x1_3 x1_4 x1_5 x1_6 x1_7 x1_8 x1_9 x1_10) = f13S1   (f13W1 G) x1_0 x1_1 x1_2 x1_3 x1_4 x1_5 x1_6 x1_7 x1_8 x1_9 x1_10 := by kernel_rfl
theorem f13W1_ev (n : Nat)  : ∀ m, (f13W1 (lp C10 f13h n Lf (codeOf f13f) [1, 1, 1, 0, 1, 0] [] (endK C10 f13h f13f) m)) = f13L1 n  m := by
  intro m
  induction m with
  | zero => funext x1_0 x1_1 x1_2 x1_3 x1_4 x1_5 x1_6 x1_7 x1_8 x1_9 x1_10; exact lp_zero _
  | succ m ih =>
    funext x1_0 x1_1 x1_2 x1_3 x1_4 x1_5 x1_6 x1_7 x1_8 x1_9 x1_10
    show lp C10 f13h n Lf (codeOf f13f) [1, 1, 1, 0, 1, 0] [] (endK C10 f13h f13f) (m + 1) (f13H1 x1_0 x1_1 x1_2 x1_3 x1_4 x1_5 x1_6 x1_7 x1_8 x1_9 x1_10) = f13S1   (f13L1 n  m) x1_0 x1_1 x1_2 x1_3 x1_4 x1_5 x1_6 x1_7 x1_8 x1_9 x1_10
    rw [lp_succ, f13S1_ev, ih]
noncomputable def f13S0 (l1 : f13G1) (g0 : f13G0) (x0_0 : Int) (x0_1 : Int) (x0_2 : Int) (x0_3 : List (List Int)) (x0_4 : List (List Int × List Int × Unit)) (x0_5 : Int) (x0_6 : Int) (x0_7 : Int) (x0_8 : Int) (x0_9 : List (List Int)) (x0_10 : List (List Int × List Int × Unit)) : Option Lf :=
 bif decide (x0_0 < zn x0_3.length) then
  bif inb x0_0 x0_3.length then
   bif decide ((0 + (x0_3.getD x0_0.toNat []).length) * 8 ≤ 140737488355328) then
    bif decide ((x0_9.length + [[] ++ x0_3.getD x0_0.toNat []].length) * 24 ≤ 140737488355328) then
     g0 (IntKind.i64.wrap (x0_0 + 1) : Int) (x0_1 : Int) (x0_2 : Int) (x0_3 : List (List Int)) (x0_4 : List (List Int × List Int × Unit)) (x0_5 : Int) (x0_6 : Int) (x0_7 : Int) (x0_8 : Int) (x0_9 ++ [[] ++ x0_3.getD x0_0.toNat []] : List (List Int)) (x0_10 : List (List Int × List Int × Unit))
    else
     none
   else
    none
  else
   none
 else
  l1 (0 : Int) (x0_1 : Int) (x0_2 : Int) (x0_3 : List (List Int)) (x0_4 : List (List Int × List Int × Unit)) (x0_5 : Int) (x0_6 : Int) (x0_7 : Int) (x0_8 : Int) (x0_9 : List (List Int)) (x0_10 : List (List Int × List Int × Unit))
noncomputable def f13L0 (n : Nat)  : Nat → f13G0
  | 0 => fun _ _ _ _ _ _ _ _ _ _ _ => none
  | m + 1 => fun x0_0 x0_1 x0_2 x0_3 x0_4 x0_5 x0_6 x0_7 x0_8 x0_9 x0_10 => f13S0 (f13L1 n  n)  (f13L0 n  m) x0_0 x0_1 x0_2 x0_3 x0_4 x0_5 x0_6 x0_7 x0_8 x0_9 x0_10
theorem f13S0_ev (n : Nat)  (G : St → Option Lf) (x0_0 : Int) (x0_1 : Int) (x0_2 : Int) (x0_3 : List (List Int)) (x0_4 : List (List Int × List Int × Unit)) (x0_5 : Int) (x0_6 : Int) (x0_7 : Int) (x0_8 : Int) (x0_9 : List (List Int)) (x0_10 : List (List Int × List Int × Unit)) : rnd C10 f13h n Lf (codeOf f13f) [1, 1, 0, 1, 0] [] (endK C10 f13h f13f) G (f13H0 x0_0 x0_1 x0_2 x0_3 x0_4 x0_5 x0_6 x0_7 x0_8 x0_9 x0_10) = f13S0 (f13W1 (lp C10 f13h n Lf (codeOf f13f) [1, 1, 1, 0, 1, 0] [] (endK C10 f13h f13f) n))  (f13W0 G) x0_0 x0_1 x0_2 x0_3 x0_4 x0_5 x0_6 x0_7 x0_8 x0_9 x0_10 := by kernel_rfl
theorem f13W0_ev (n : Nat)  : ∀ m, (f13W0 (lp C10 f13h n Lf (codeOf f13f) [1, 1, 0, 1, 0] [] (endK C10 f13h f13f) m)) = f13L0 n  m := by
  intro m
  induction m with
  | zero => funext x0_0 x0_1 x0_2 x0_3 x0_4 x0_5 x0_6 x0_7 x0_8 x0_9 x0_10; exact lp_zero _
  | succ m ih =>
    have e1 : (f13W1 (lp C10 f13h n Lf (codeOf f13f) [1, 1, 1, 0, 1, 0] [] (endK C10 f13h f13f) n)) = (f13L1 n  n) := by
      rw [f13W1_ev]
    funext x0_0 x0_1 x0_2 x0_3 x0_4 x0_5 x0_6 x0_7 x0_8 x0_9 x0_10
    show lp C10 f13h n Lf (codeOf f13f) [1, 1, 0, 1, 0] [] (endK C10 f13h f13f) (m + 1) (f13H0 x0_0 x0_1 x0_2 x0_3 x0_4 x0_5 x0_6 x0_7 x0_8 x0_9 x0_10) = f13S0 (f13L1 n  n)  (f13L0 n  m) x0_0 x0_1 x0_2 x0_3 x0_4 x0_5 x0_6 x0_7 x0_8 x0_9 x0_10
    rw [lp_succ, f13S0_ev, ih, e1]
noncomputable def f13T (l0 : f13G0) (p : Int) (i : Int) (nx : List (List Int)) (ps : List (List Int × List Int × Unit)) : Option Lf :=
 l0 (0 : Int) (p : Int) (i : Int) (nx : List (List Int)) (ps : List (List Int × List Int × Unit)) (0 : Int) (0 : Int) (p : Int) (i : Int) ([] : List (List Int)) ([] : List (List Int × List Int × Unit))
noncomputable def f13M (n : Nat) (p : Int) (i : Int) (nx : List (List Int)) (ps : List (List Int × List Int × Unit)) : Option Lf := f13T (f13L0 n n) p i nx ps
theorem f13T_ev (n : Nat) (p : Int) (i : Int) (nx : List (List Int)) (ps : List (List Int × List Int × Unit)) : evF C10 f13h n f13f [(D.p (Pt.agg [(L.d (Pv.fz true) (Sh.i IntKind.i64) p), (L.d (Pv.fz true) (Sh.i IntKind.i64) i), (L.d (Pv.fz false) (Sh.l (Sh.l (Sh.i IntKind.i64))) nx), (L.d (Pv.fz false) (Sh.l (Sh.p (Sh.l (Sh.i IntKind.i64)) (Sh.p (Sh.l (Sh.i IntKind.i64)) Sh.u))) ps)]))] [] = f13T (f13W0 (lp C10 f13h n Lf (codeOf f13f) [1, 1, 0, 1, 0] [] (endK C10 f13h f13f) n)) p i nx ps := by kernel_rfl
theorem f13_ev (n : Nat) (p : Int) (i : Int) (nx : List (List Int)) (ps : List (List Int × List Int × Unit)) : evF C10 f13h n f13f [(D.p (Pt.agg [(L.d (Pv.fz true) (Sh.i IntKind.i64) p), (L.d (Pv.fz true) (Sh.i IntKind.i64) i), (L.d (Pv.fz false) (Sh.l (Sh.l (Sh.i IntKind.i64))) nx), (L.d (Pv.fz false) (Sh.l (Sh.p (Sh.l (Sh.i IntKind.i64)) (Sh.p (Sh.l (Sh.i IntKind.i64)) Sh.u))) ps)]))] [] = f13M n p i nx ps := by
  rw [f13T_ev, f13W0_ev]
  rfl

abbrev f27h : Hn := h27
noncomputable abbrev f27f : Func := fn 27
abbrev f27G0 := (List (List Int)) → Int → Int → Int → Int → (List (List Int)) → (List (List Int × List Int × Unit)) → Int → Option Lf
noncomputable def f27H0 (x0_0 : List (List Int)) (x0_1 : Int) (x0_2 : Int) (x0_3 : Int) (x0_4 : Int) (x0_5 : List (List Int)) (x0_6 : List (List Int × List Int × Unit)) (x0_7 : Int) : St := (St.mk [dead, (D.p (Pt.one (L.pv (Id.mk 1 0) 0))), dead, (D.p (Pt.one (L.pv (Id.mk 1 1) 0))), dead, dead, dead, dead, dead, dead, dead, dead, dead, dead, dead, dead, dead, dead, dead, dead, dead, dead, dead, dead, dead, dead, dead, dead, dead, dead, dead, dead, dead, dead, dead, dead, dead, dead, dead, dead, dead, dead, dead, dead, dead, dead, (D.p (Pt.one (L.d (Pv.fz false) (Sh.l (Sh.l (Sh.i IntKind.i64))) x0_0))), (D.p (Pt.one (L.d (Pv.fz true) (Sh.i IntKind.i64) x0_1))), (D.p (Pt.one (L.d (Pv.fz true) (Sh.i IntKind.i64) x0_2))), dead, dead, dead, dead, dead, dead, dead, dead, dead, dead, dead, dead, dead, dead, dead, dead, dead, dead, dead, dead, dead, dead, dead, dead, dead, dead, dead, dead, dead, dead, dead, dead, dead, dead, dead, dead, dead] [[], [(Ob.va [(L.d (Pv.fz true) (Sh.i IntKind.i64) x0_3), (L.d (Pv.fz true) (Sh.i IntKind.i64) x0_4), (L.d (Pv.fz false) (Sh.l (Sh.l (Sh.i IntKind.i64))) x0_5), (L.d (Pv.fz false) (Sh.l (Sh.p (Sh.l (Sh.i IntKind.i64)) (Sh.p (Sh.l (Sh.i IntKind.i64)) Sh.u))) x0_6)]), (Ob.va [(L.d (Pv.fz true) (Sh.i IntKind.i64) x0_7)])]])
noncomputable def f27W0 (G : St → Option Lf) : f27G0 := fun x0_0 x0_1 x0_2 x0_3 x0_4 x0_5 x0_6 x0_7 => G (f27H0 x0_0 x0_1 x0_2 x0_3 x0_4 x0_5 x0_6 x0_7)
abbrev f27G1 := (List (List Int × List Int × Unit)) → Int → Int → Int → Option Lf
noncomputable def f27H1 (x1_0 : List (List Int × List Int × Unit)) (x1_1 : Int) (x1_2 : Int) (x1_3 : Int) : St := (St.mk [dead, dead, dead, (D.p (Pt.one (L.pv (Id.mk 1 0) 0))), dead, dead, dead, dead, dead, dead, dead, dead, dead, dead, dead, dead, dead, dead, dead, dead, dead, dead, dead, dead, dead, dead, dead, dead, dead, dead, dead, dead, dead, dead, dead, dead, dead, dead, dead, dead, dead, dead, dead, dead, dead, dead, dead, dead, dead, dead, dead, dead, dead, dead, dead, dead, dead, dead, dead, dead, dead, dead, dead, dead, dead, dead, (D.p (Pt.one (L.d (Pv.fz false) (Sh.l (Sh.p (Sh.l (Sh.i IntKind.i64)) (Sh.p (Sh.l (Sh.i IntKind.i64)) Sh.u))) x1_0))), (D.p (Pt.one (L.d (Pv.fz true) (Sh.i IntKind.i64) x1_1))), (D.p (Pt.one (L.d (Pv.fz true) (Sh.i IntKind.i64) x1_2))), dead, dead, dead, dead, dead, dead, dead, dead, dead, dead, dead, dead, dead, dead, dead, dead, dead] [[], [(Ob.va [(L.d (Pv.fz true) (Sh.i IntKind.i64) x1_3)])]])
noncomputable def f27W1 (G : St → Option Lf) : f27G1 := fun x1_0 x1_1 x1_2 x1_3 => G (f27H1 x1_0 x1_1 x1_2 x1_3)
noncomputable def f27S1  (g1 : f27G1) (x1_0 : List (List Int × List Int × Unit)) (x1_1 : Int) (x1_2 : Int) (x1_3 : Int) : Option Lf :=
 bif decide (x1_2 < x1_1) then
  bif inb x1_2 x1_0.length then
   bif Nat.beq 1 1 && (Nat.beq 1 1 && (big (x1_0.getD x1_2.toNat ([], [], ())).fst.length && (!riseF x1_3 (-1) (x1_0.getD x1_2.toNat ([], [], ())).fst || Nat.beq 1 1 && (Nat.beq 1 1 && (big (x1_0.getD x1_2.toNat ([], [], ())).snd.fst.length && true))))) then
    bif !riseF x1_3 (-1) (x1_0.getD x1_2.toNat ([], [], ())).fst || !riseF x1_3 (-1) (x1_0.getD x1_2.toNat ([], [], ())).snd.fst then
     some (Lf.mk [(Pt.one (L.d (Pv.fz true) Sh.e (Er.no 1 : Er)))] [] [])
    else
     g1 (x1_0 : List (List Int × List Int × Unit)) (x1_1 : Int) (IntKind.i64.wrap (x1_2 + 1) : Int) (x1_3 : Int)
   else
    none
  else
   none
 else
  some (Lf.mk [(Pt.one (L.d (Pv.fz true) Sh.e (Er.nil : Er)))] [] [])
noncomputable def f27L1 (n : Nat)  : Nat → f27G1
  | 0 => fun _ _ _ _ => none
  | m + 1 => fun x1_0 x1_1 x1_2 x1_3 => f27S1   (f27L1 n  m) x1_0 x1_1 x1_2 x1_3
theorem f27S1_ev (n : Nat)  (G : St → Option Lf) (x1_0 : List (List Int × List Int × Unit)) (x1_1 : Int) (x1_2 : Int) (x1_3 : Int) : rnd C10 f27h n Lf (codeOf f27f) [1, 1, 1, 1, 0, 1, 0] [] (endK C10 f27h f27f) G (f27H1 x1_0 x1_1 x1_2 x1_3) = f27S1   (f27W1 G) x1_0 x1_1 x1_2 x1_3 := by kernel_rfl
theorem f27W1_ev (n : Nat)  : ∀ m, (f27W1 (lp C10 f27h n Lf (codeOf f27f) [1, 1, 1, 1, 0, 1, 0] [] (endK C10 f27h f27f) m)) = f27L1 n  m := by
  intro m
  induction m with
  | zero => funext x1_0 x1_1 x1_2 x1_3; exact lp_zero _
  | succ m ih =>
    funext x1_0 x1_1 x1_2 x1_3
    show lp C10 f27h n Lf (codeOf f27f) [1, 1, 1, 1, 0, 1, 0] [] (endK C10 f27h f27f) (m + 1) (f27H1 x1_0 x1_1 x1_2 x1_3) = f27S1   (f27L1 n  m) x1_0 x1_1 x1_2 x1_3
    rw [lp_succ, f27S1_ev, ih]
noncomputable def f27S0 (l1 : f27G1) (g0 : f27G0) (x0_0 : List (List Int)) (x0_1 : Int) (x0_2 : Int) (x0_3 : Int) (x0_4 : Int) (x0_5 : List (List Int)) (x0_6 : List (List Int × List Int × Unit)) (x0_7 : Int) : Option Lf :=
 bif decide (x0_2 < x0_1) then
  bif inb x0_2 x0_0.length then
   bif decide (0 ≤ x0_3) then
    bif zn (x0_0.getD x0_2.toNat []).length != shlF IntKind.i64 1 x0_3 then
     some (Lf.mk [(Pt.one (L.d (Pv.fz true) Sh.e (Er.no 1 : Er)))] [] [])
    else
     bif big (x0_0.getD x0_2.toNat []).length then
      bif (x0_0.getD x0_2.toNat []).any (nin x0_7) then
       some (Lf.mk [(Pt.one (L.d (Pv.fz true) Sh.e (Er.no 1 : Er)))] [] [])
      else
       g0 (x0_0 : List (List Int)) (x0_1 : Int) (IntKind.i64.wrap (x0_2 + 1) : Int) (x0_3 : Int) (x0_4 : Int) (x0_5 : List (List Int)) (x0_6 : List (List Int × List Int × Unit)) (x0_7 : Int)
     else
      none
   else
    none
  else
   none
 else
  l1 (x0_6 : List (List Int × List Int × Unit)) (zn x0_6.length : Int) (0 : Int) (x0_7 : Int)
noncomputable def f27L0 (n : Nat)  : Nat → f27G0
  | 0 => fun _ _ _ _ _ _ _ _ => none
  | m + 1 => fun x0_0 x0_1 x0_2 x0_3 x0_4 x0_5 x0_6 x0_7 => f27S0 (f27L1 n  n)  (f27L0 n  m) x0_0 x0_1 x0_2 x0_3 x0_4 x0_5 x0_6 x0_7
theorem f27S0_ev (n : Nat)  (G : St → Option Lf) (x0_0 : List (List Int)) (x0_1 : Int) (x0_2 : Int) (x0_3 : Int) (x0_4 : Int) (x0_5 : List (List Int)) (x0_6 : List (List Int × List Int × Unit)) (x0_7 : Int) : rnd C10 f27h n Lf (codeOf f27f) [1, 1, 1, 0, 1, 0] [] (endK C10 f27h f27f) G (f27H0 x0_0 x0_1 x0_2 x0_3 x0_4 x0_5 x0_6 x0_7) = f27S0 (f27W1 (lp C10 f27h n Lf (codeOf f27f) [1, 1, 1, 1, 0, 1, 0] [] (endK C10 f27h f27f) n))  (f27W0 G) x0_0 x0_1 x0_2 x0_3 x0_4 x0_5 x0_6 x0_7 := by kernel_rfl
theorem f27W0_ev (n : Nat)  : ∀ m, (f27W0 (lp C10 f27h n Lf (codeOf f27f) [1, 1, 1, 0, 1, 0] [] (endK C10 f27h f27f) m)) = f27L0 n  m := by
  intro m
  induction m with
  | zero => funext x0_0 x0_1 x0_2 x0_3 x0_4 x0_5 x0_6 x0_7; exact lp_zero _
  | succ m ih =>
    have e1 : (f27W1 (lp C10 f27h n Lf (codeOf f27f) [1, 1, 1, 1, 0, 1, 0] [] (endK C10 f27h f27f) n)) = (f27L1 n  n) := by
      rw [f27W1_ev]
    funext x0_0 x0_1 x0_2 x0_3 x0_4 x0_5 x0_6 x0_7
    show lp C10 f27h n Lf (codeOf f27f) [1, 1, 1, 0, 1, 0] [] (endK C10 f27h f27f) (m + 1) (f27H0 x0_0 x0_1 x0_2 x0_3 x0_4 x0_5 x0_6 x0_7) = f27S0 (f27L1 n  n)  (f27L0 n  m) x0_0 x0_1 x0_2 x0_3 x0_4 x0_5 x0_6 x0_7
    rw [lp_succ, f27S0_ev, ih, e1]
noncomputable def f27T (l0 : f27G0) (p : Int) (i : Int) (nx : List (List Int)) (ps : List (List Int × List Int × Unit)) : Option Lf :=
 bif Nat.beq 1 1 && (decide (p < 0) || Nat.beq 1 1 && (decide (p > 6) || Nat.beq 1 1 && (decide (zn nx.length < 1) || Nat.beq 1 1 && (decide (zn nx.length > 4096) || Nat.beq 1 1 && (decide (i < 0) || Nat.beq 1 1 && (Nat.beq 1 1 && (decide (i ≥ zn nx.length) || true))))))) then
  bif decide (p < 0) || (decide (p > 6) || (decide (zn nx.length < 1) || (decide (zn nx.length > 4096) || (decide (i < 0) || (decide (i ≥ zn nx.length) || decide (zn ps.length > 4096)))))) then
   some (Lf.mk [(Pt.one (L.d (Pv.fz true) Sh.e (Er.no 1 : Er)))] [] [])
  else
   l0 (nx : List (List Int)) (zn nx.length : Int) (0 : Int) (p : Int) (i : Int) (nx : List (List Int)) (ps : List (List Int × List Int × Unit)) (zn nx.length : Int)
 else
  none
noncomputable def f27M (n : Nat) (p : Int) (i : Int) (nx : List (List Int)) (ps : List (List Int × List Int × Unit)) : Option Lf := f27T (f27L0 n n) p i nx ps
theorem f27T_ev (n : Nat) (p : Int) (i : Int) (nx : List (List Int)) (ps : List (List Int × List Int × Unit)) : evF C10 f27h n f27f [(D.p (Pt.agg [(L.d (Pv.fz true) (Sh.i IntKind.i64) p), (L.d (Pv.fz true) (Sh.i IntKind.i64) i), (L.d (Pv.fz false) (Sh.l (Sh.l (Sh.i IntKind.i64))) nx), (L.d (Pv.fz false) (Sh.l (Sh.p (Sh.l (Sh.i IntKind.i64)) (Sh.p (Sh.l (Sh.i IntKind.i64)) Sh.u))) ps)]))] [] = f27T (f27W0 (lp C10 f27h n Lf (codeOf f27f) [1, 1, 1, 0, 1, 0] [] (endK C10 f27h f27f) n)) p i nx ps := by kernel_rfl
theorem f27_ev (n : Nat) (p : Int) (i : Int) (nx : List (List Int)) (ps : List (List Int × List Int × Unit)) : evF C10 f27h n f27f [(D.p (Pt.agg [(L.d (Pv.fz true) (Sh.i IntKind.i64) p), (L.d (Pv.fz true) (Sh.i IntKind.i64) i), (L.d (Pv.fz false) (Sh.l (Sh.l (Sh.i IntKind.i64))) nx), (L.d (Pv.fz false) (Sh.l (Sh.p (Sh.l (Sh.i IntKind.i64)) (Sh.p (Sh.l (Sh.i IntKind.i64)) Sh.u))) ps)]))] [] = f27M n p i nx ps := by
  rw [f27T_ev, f27W0_ev]
  rfl

abbrev f21h : Hn := h21
noncomputable abbrev f21f : Func := fn 21
abbrev f21G0 := Int → Int → Int → Int → (List (List Int)) → (List (List Int × List Int × Unit)) → Option Lf
noncomputable def f21H0 (x0_0 : Int) (x0_1 : Int) (x0_2 : Int) (x0_3 : Int) (x0_4 : List (List Int)) (x0_5 : List (List Int × List Int × Unit)) : St := (St.mk [dead, (D.p (Pt.one (L.pv (Id.mk 1 0) 0))), dead, (D.p (Pt.one (L.d (Pv.fz true) (Sh.i IntKind.i64) x0_0))), (D.p (Pt.one (L.d (Pv.fz true) (Sh.i IntKind.i64) x0_1))), dead, dead, dead, dead, dead, dead, dead, dead, dead, dead, dead, dead, dead, dead, dead, dead, dead, dead, dead, dead, dead, dead, dead, dead, dead, dead, dead, dead, dead, dead, dead, dead, dead, dead, dead, dead, dead, dead, dead, dead, dead, dead, dead, dead, dead, dead, dead, dead, dead, dead, dead, dead, dead, dead, dead, dead, dead, dead, dead, dead, dead, dead, dead, dead, dead, dead, dead, dead, dead, dead, dead, dead, dead, dead, dead, dead, dead, dead, dead, dead, dead, dead, dead, dead, dead, dead, dead, dead, dead, dead, dead, dead, dead, dead, dead, dead, dead, dead, dead, dead, dead, dead, dead, dead, dead, dead, dead, dead, dead, dead, dead] [[], [(Ob.va [(L.d (Pv.fz true) (Sh.i IntKind.i64) x0_2), (L.d (Pv.fz true) (Sh.i IntKind.i64) x0_3), (L.d (Pv.fz false) (Sh.l (Sh.l (Sh.i IntKind.i64))) x0_4), (L.d (Pv.fz false) (Sh.l (Sh.p (Sh.l (Sh.i IntKind.i64)) (Sh.p (Sh.l (Sh.i IntKind.i64)) Sh.u))) x0_5)])]])
noncomputable def f21W0 (G : St → Option Lf) : f21G0 := fun x0_0 x0_1 x0_2 x0_3 x0_4 x0_5 => G (f21H0 x0_0 x0_1 x0_2 x0_3 x0_4 x0_5)
abbrev f21G1 := Int → Int → Int → Int → Int → (List (List Int)) → (List (List Int × List Int × Unit)) → Option Lf
noncomputable def f21H1 (x1_0 : Int) (x1_1 : Int) (x1_2 : Int) (x1_3 : Int) (x1_4 : Int) (x1_5 : List (List Int)) (x1_6 : List (List Int × List Int × Unit)) : St := (St.mk [dead, (D.p (Pt.one (L.pv (Id.mk 1 0) 0))), dead, (D.p (Pt.one (L.d (Pv.fz true) (Sh.i IntKind.i64) x1_0))), (D.p (Pt.one (L.d (Pv.fz true) (Sh.i IntKind.i64) x1_1))), (D.p (Pt.one (L.d (Pv.fz true) (Sh.i IntKind.i64) x1_2))), dead, dead, dead, dead, dead, dead, dead, dead, dead, dead, dead, dead, dead, dead, dead, dead, dead, dead, dead, dead, dead, dead, dead, dead, dead, dead, dead, dead, dead, dead, dead, dead, dead, dead, dead, dead, dead, dead, dead, dead, dead, dead, dead, dead, dead, dead, dead, dead, dead, dead, dead, dead, dead, dead, dead, dead, dead, dead, dead, dead, dead, dead, dead, dead, dead, dead, dead, dead, dead, dead, dead, dead, dead, dead, dead, dead, dead, dead, dead, dead, dead, dead, dead, dead, dead, dead, dead, dead, dead, dead, dead, dead, dead, dead, dead, dead, dead, dead, dead, dead, dead, dead, dead, dead, dead, dead, dead, dead, dead, dead] [[], [(Ob.va [(L.d (Pv.fz true) (Sh.i IntKind.i64) x1_3), (L.d (Pv.fz true) (Sh.i IntKind.i64) x1_4), (L.d (Pv.fz false) (Sh.l (Sh.l (Sh.i IntKind.i64))) x1_5), (L.d (Pv.fz false) (Sh.l (Sh.p (Sh.l (Sh.i IntKind.i64)) (Sh.p (Sh.l (Sh.i IntKind.i64)) Sh.u))) x1_6)])]])
noncomputable def f21W1 (G : St → Option Lf) : f21G1 := fun x1_0 x1_1 x1_2 x1_3 x1_4 x1_5 x1_6 => G (f21H1 x1_0 x1_1 x1_2 x1_3 x1_4 x1_5 x1_6)
noncomputable def f21S1  (g0 : f21G0) (g1 : f21G1) (x1_0 : Int) (x1_1 : Int) (x1_2 : Int) (x1_3 : Int) (x1_4 : Int) (x1_5 : List (List Int)) (x1_6 : List (List Int × List Int × Unit)) : Option Lf :=
 bif inb x1_1 x1_5.length then
  bif decide (x1_2 < zn (x1_5.getD x1_1.toNat []).length) then
   bif Nat.beq 1 1 && (Nat.beq 1 1 && (inb x1_1 x1_5.length && (Nat.beq 1 1 && (Nat.beq 1 1 && (inb x1_2 (x1_5.getD x1_1.toNat []).length && (Nat.beq 1 1 && (decide ((x1_5.getD x1_1.toNat []).getD x1_2.toNat 0 < 0) || Nat.beq 1 1 && (Nat.beq 1 1 && (inb x1_1 x1_5.length && (Nat.beq 1 1 && (Nat.beq 1 1 && (inb x1_2 (x1_5.getD x1_1.toNat []).length && true)))))))))))) then
    bif decide ((x1_5.getD x1_1.toNat []).getD x1_2.toNat 0 < 0) || decide ((x1_5.getD x1_1.toNat []).getD x1_2.toNat 0 ≥ x1_0) then
     some (Lf.mk [(Pt.one (L.d (Pv.fz true) Sh.b (false : Bool)))] [] [])
    else
     g1 (x1_0 : Int) (x1_1 : Int) (IntKind.i64.wrap (x1_2 + 1) : Int) (x1_3 : Int) (x1_4 : Int) (x1_5 : List (List Int)) (x1_6 : List (List Int × List Int × Unit))
   else
    none
  else
   g0 (x1_0 : Int) (IntKind.i64.wrap (x1_1 + 1) : Int) (x1_3 : Int) (x1_4 : Int) (x1_5 : List (List Int)) (x1_6 : List (List Int × List Int × Unit))
 else
  none
noncomputable def f21L1 (n : Nat) (g0 : f21G0) : Nat → f21G1
  | 0 => fun _ _ _ _ _ _ _ => none
  | m + 1 => fun x1_0 x1_1 x1_2 x1_3 x1_4 x1_5 x1_6 => f21S1  g0 (f21L1 n g0 m) x1_0 x1_1 x1_2 x1_3 x1_4 x1_5 x1_6
theorem f21S1_ev (n : Nat) (G0 : St → Option Lf) (G : St → Option Lf) (x1_0 : Int) (x1_1 : Int) (x1_2 : Int) (x1_3 : Int) (x1_4 : Int) (x1_5 : List (List Int)) (x1_6 : List (List Int × List Int × Unit)) : rnd C10 f21h n Lf (codeOf f21f) [1, 1, 1, 0, 1, 0, 0, 1, 0, 0, 1, 1, 0] [G0] (endK C10 f21h f21f) G (f21H1 x1_0 x1_1 x1_2 x1_3 x1_4 x1_5 x1_6) = f21S1  (f21W0 G0) (f21W1 G) x1_0 x1_1 x1_2 x1_3 x1_4 x1_5 x1_6 := by kernel_rfl
theorem f21W1_ev (n : Nat) (G0 : St → Option Lf) : ∀ m, (f21W1 (lp C10 f21h n Lf (codeOf f21f) [1, 1, 1, 0, 1, 0, 0, 1, 0, 0, 1, 1, 0] [G0] (endK C10 f21h f21f) m)) = f21L1 n (f21W0 G0) m := by
  intro m
  induction m with
  | zero => funext x1_0 x1_1 x1_2 x1_3 x1_4 x1_5 x1_6; exact lp_zero _
  | succ m ih =>
    funext x1_0 x1_1 x1_2 x1_3 x1_4 x1_5 x1_6
    show lp C10 f21h n Lf (codeOf f21f) [1, 1, 1, 0, 1, 0, 0, 1, 0, 0, 1, 1, 0] [G0] (endK C10 f21h f21f) (m + 1) (f21H1 x1_0 x1_1 x1_2 x1_3 x1_4 x1_5 x1_6) = f21S1  (f21W0 G0) (f21L1 n (f21W0 G0) m) x1_0 x1_1 x1_2 x1_3 x1_4 x1_5 x1_6
    rw [lp_succ, f21S1_ev, ih]
abbrev f21G2 := Int → Int → Int → Int → (List (List Int)) → (List (List Int × List Int × Unit)) → Option Lf
noncomputable def f21H2 (x2_0 : Int) (x2_1 : Int) (x2_2 : Int) (x2_3 : Int) (x2_4 : List (List Int)) (x2_5 : List (List Int × List Int × Unit)) : St := (St.mk [dead, (D.p (Pt.one (L.pv (Id.mk 1 0) 0))), dead, (D.p (Pt.one (L.d (Pv.fz true) (Sh.i IntKind.i64) x2_0))), dead, dead, (D.p (Pt.one (L.d (Pv.fz true) (Sh.i IntKind.i64) x2_1))), dead, dead, dead, dead, dead, dead, dead, dead, dead, dead, dead, dead, dead, dead, dead, dead, dead, dead, dead, dead, dead, dead, dead, dead, dead, dead, dead, dead, dead, dead, dead, dead, dead, dead, dead, dead, dead, dead, dead, dead, dead, dead, dead, dead, dead, dead, dead, dead, dead, dead, dead, dead, dead, dead, dead, dead, dead, dead, dead, dead, dead, dead, dead, dead, dead, dead, dead, dead, dead, dead, dead, dead, dead, dead, dead, dead, dead, dead, dead, dead, dead, dead, dead, dead, dead, dead, dead, dead, dead, dead, dead, dead, dead, dead, dead, dead, dead, dead, dead, dead, dead, dead, dead, dead, dead, dead, dead, dead, dead] [[], [(Ob.va [(L.d (Pv.fz true) (Sh.i IntKind.i64) x2_2), (L.d (Pv.fz true) (Sh.i IntKind.i64) x2_3), (L.d (Pv.fz false) (Sh.l (Sh.l (Sh.i IntKind.i64))) x2_4), (L.d (Pv.fz false) (Sh.l (Sh.p (Sh.l (Sh.i IntKind.i64)) (Sh.p (Sh.l (Sh.i IntKind.i64)) Sh.u))) x2_5)])]])
noncomputable def f21W2 (G : St → Option Lf) : f21G2 := fun x2_0 x2_1 x2_2 x2_3 x2_4 x2_5 => G (f21H2 x2_0 x2_1 x2_2 x2_3 x2_4 x2_5)
noncomputable def f21S2  (g2 : f21G2) (x2_0 : Int) (x2_1 : Int) (x2_2 : Int) (x2_3 : Int) (x2_4 : List (List Int)) (x2_5 : List (List Int × List Int × Unit)) : Option Lf :=
 bif decide (x2_1 < zn x2_5.length) then
  bif Nat.beq 1 1 && (Nat.beq 2 2 && (inb x2_1 x2_5.length && (Nat.beq 1 1 && (big (x2_5.getD x2_1.toNat ([], [], ())).fst.length && (!riseF x2_0 (-1) (x2_5.getD x2_1.toNat ([], [], ())).fst || Nat.beq 1 1 && (Nat.beq 2 2 && (inb x2_1 x2_5.length && (Nat.beq 1 1 && (big (x2_5.getD x2_1.toNat ([], [], ())).snd.fst.length && true))))))))) then
   bif !riseF x2_0 (-1) (x2_5.getD x2_1.toNat ([], [], ())).fst || !riseF x2_0 (-1) (x2_5.getD x2_1.toNat ([], [], ())).snd.fst then
    some (Lf.mk [(Pt.one (L.d (Pv.fz true) Sh.b (false : Bool)))] [] [])
   else
    g2 (x2_0 : Int) (IntKind.i64.wrap (x2_1 + 1) : Int) (x2_2 : Int) (x2_3 : Int) (x2_4 : List (List Int)) (x2_5 : List (List Int × List Int × Unit))
  else
   none
 else
  some (Lf.mk [(Pt.one (L.d (Pv.fz true) Sh.b (true : Bool)))] [] [])
noncomputable def f21L2 (n : Nat)  : Nat → f21G2
  | 0 => fun _ _ _ _ _ _ => none
  | m + 1 => fun x2_0 x2_1 x2_2 x2_3 x2_4 x2_5 => f21S2   (f21L2 n  m) x2_0 x2_1 x2_2 x2_3 x2_4 x2_5
theorem f21S2_ev (n : Nat)  (G : St → Option Lf) (x2_0 : Int) (x2_1 : Int) (x2_2 : Int) (x2_3 : Int) (x2_4 : List (List Int)) (x2_5 : List (List Int × List Int × Unit)) : rnd C10 f21h n Lf (codeOf f21f) [1, 1, 1, 1, 0, 1, 0] [] (endK C10 f21h f21f) G (f21H2 x2_0 x2_1 x2_2 x2_3 x2_4 x2_5) = f21S2   (f21W2 G) x2_0 x2_1 x2_2 x2_3 x2_4 x2_5 := by kernel_rfl
theorem f21W2_ev (n : Nat)  : ∀ m, (f21W2 (lp C10 f21h n Lf (codeOf f21f) [1, 1, 1, 1, 0, 1, 0] [] (endK C10 f21h f21f) m)) = f21L2 n  m := by
  intro m
  induction m with
  | zero => funext x2_0 x2_1 x2_2 x2_3 x2_4 x2_5; exact lp_zero _
  | succ m ih =>
    funext x2_0 x2_1 x2_2 x2_3 x2_4 x2_5
    show lp C10 f21h n Lf (codeOf f21f) [1, 1, 1, 1, 0, 1, 0] [] (endK C10 f21h f21f) (m + 1) (f21H2 x2_0 x2_1 x2_2 x2_3 x2_4 x2_5) = f21S2   (f21L2 n  m) x2_0 x2_1 x2_2 x2_3 x2_4 x2_5
    rw [lp_succ, f21S2_ev, ih]
noncomputable def f21S0 (l1 : f21G1) (l2 : f21G2) (g0 : f21G0) (x0_0 : Int) (x0_1 : Int) (x0_2 : Int) (x0_3 : Int) (x0_4 : List (List Int)) (x0_5 : List (List Int × List Int × Unit)) : Option Lf :=
 bif decide (x0_1 < x0_0) then
  bif inb x0_1 x0_4.length then
   bif decide (0 ≤ x0_2) && decide (x0_2 ≤ 62) then
    bif zn (x0_4.getD x0_1.toNat []).length != zn (2 ^ x0_2.toNat) then
     some (Lf.mk [(Pt.one (L.d (Pv.fz true) Sh.b (false : Bool)))] [] [])
    else
     l1 (x0_0 : Int) (x0_1 : Int) (0 : Int) (x0_2 : Int) (x0_3 : Int) (x0_4 : List (List Int)) (x0_5 : List (List Int × List Int × Unit))
   else
    none
  else
   none
 else
  l2 (x0_0 : Int) (0 : Int) (x0_2 : Int) (x0_3 : Int) (x0_4 : List (List Int)) (x0_5 : List (List Int × List Int × Unit))
noncomputable def f21L0 (n : Nat)  : Nat → f21G0
  | 0 => fun _ _ _ _ _ _ => none
  | m + 1 => fun x0_0 x0_1 x0_2 x0_3 x0_4 x0_5 => f21S0 (f21L1 n (f21L0 n  m) n) (f21L2 n  n)  (f21L0 n  m) x0_0 x0_1 x0_2 x0_3 x0_4 x0_5
theorem f21S0_ev (n : Nat)  (G : St → Option Lf) (x0_0 : Int) (x0_1 : Int) (x0_2 : Int) (x0_3 : Int) (x0_4 : List (List Int)) (x0_5 : List (List Int × List Int × Unit)) : rnd C10 f21h n Lf (codeOf f21f) [1, 1, 1, 0, 1, 0] [] (endK C10 f21h f21f) G (f21H0 x0_0 x0_1 x0_2 x0_3 x0_4 x0_5) = f21S0 (f21W1 (lp C10 f21h n Lf (codeOf f21f) [1, 1, 1, 0, 1, 0, 0, 1, 0, 0, 1, 1, 0] [G] (endK C10 f21h f21f) n)) (f21W2 (lp C10 f21h n Lf (codeOf f21f) [1, 1, 1, 1, 0, 1, 0] [] (endK C10 f21h f21f) n))  (f21W0 G) x0_0 x0_1 x0_2 x0_3 x0_4 x0_5 := by kernel_rfl
theorem f21W0_ev (n : Nat)  : ∀ m, (f21W0 (lp C10 f21h n Lf (codeOf f21f) [1, 1, 1, 0, 1, 0] [] (endK C10 f21h f21f) m)) = f21L0 n  m := by
  intro m
  induction m with
  | zero => funext x0_0 x0_1 x0_2 x0_3 x0_4 x0_5; exact lp_zero _
  | succ m ih =>
    have e1 : (f21W1 (lp C10 f21h n Lf (codeOf f21f) [1, 1, 1, 0, 1, 0, 0, 1, 0, 0, 1, 1, 0] [(lp C10 f21h n Lf (codeOf f21f) [1, 1, 1, 0, 1, 0] [] (endK C10 f21h f21f) m)] (endK C10 f21h f21f) n)) = (f21L1 n (f21L0 n  m) n) := by
      rw [f21W1_ev, ih]
    have e2 : (f21W2 (lp C10 f21h n Lf (codeOf f21f) [1, 1, 1, 1, 0, 1, 0] [] (endK C10 f21h f21f) n)) = (f21L2 n  n) := by
      rw [f21W2_ev]
    funext x0_0 x0_1 x0_2 x0_3 x0_4 x0_5
    show lp C10 f21h n Lf (codeOf f21f) [1, 1, 1, 0, 1, 0] [] (endK C10 f21h f21f) (m + 1) (f21H0 x0_0 x0_1 x0_2 x0_3 x0_4 x0_5) = f21S0 (f21L1 n (f21L0 n  m) n) (f21L2 n  n)  (f21L0 n  m) x0_0 x0_1 x0_2 x0_3 x0_4 x0_5
    rw [lp_succ, f21S0_ev, ih, e1, e2]
noncomputable def f21T (l0 : f21G0) (p : Int) (i : Int) (nx : List (List Int)) (ps : List (List Int × List Int × Unit)) : Option Lf :=
 bif Nat.beq 1 1 && (decide (p < 0) || Nat.beq 1 1 && (decide (p > 6) || (decide (zn nx.length < 1) || (decide (zn nx.length > 4096) || Nat.beq 1 1 && (decide (i < 0) || Nat.beq 1 1 && (decide (i ≥ zn nx.length) || true)))))) then
  bif decide (p < 0) || (decide (p > 6) || (decide (zn nx.length < 1) || (decide (zn nx.length > 4096) || (decide (i < 0) || (decide (i ≥ zn nx.length) || decide (zn ps.length > 4096)))))) then
   some (Lf.mk [(Pt.one (L.d (Pv.fz true) Sh.b (false : Bool)))] [] [])
  else
   l0 (zn nx.length : Int) (0 : Int) (p : Int) (i : Int) (nx : List (List Int)) (ps : List (List Int × List Int × Unit))
 else
  none
noncomputable def f21M (n : Nat) (p : Int) (i : Int) (nx : List (List Int)) (ps : List (List Int × List Int × Unit)) : Option Lf := f21T (f21L0 n n) p i nx ps
theorem f21T_ev (n : Nat) (p : Int) (i : Int) (nx : List (List Int)) (ps : List (List Int × List Int × Unit)) : evF C10 f21h n f21f [(D.p (Pt.agg [(L.d (Pv.fz true) (Sh.i IntKind.i64) p), (L.d (Pv.fz true) (Sh.i IntKind.i64) i), (L.d (Pv.fz false) (Sh.l (Sh.l (Sh.i IntKind.i64))) nx), (L.d (Pv.fz false) (Sh.l (Sh.p (Sh.l (Sh.i IntKind.i64)) (Sh.p (Sh.l (Sh.i IntKind.i64)) Sh.u))) ps)]))] [] = f21T (f21W0 (lp C10 f21h n Lf (codeOf f21f) [1, 1, 1, 0, 1, 0] [] (endK C10 f21h f21f) n)) p i nx ps := by kernel_rfl
theorem f21_ev (n : Nat) (p : Int) (i : Int) (nx : List (List Int)) (ps : List (List Int × List Int × Unit)) : evF C10 f21h n f21f [(D.p (Pt.agg [(L.d (Pv.fz true) (Sh.i IntKind.i64) p), (L.d (Pv.fz true) (Sh.i IntKind.i64) i), (L.d (Pv.fz false) (Sh.l (Sh.l (Sh.i IntKind.i64))) nx), (L.d (Pv.fz false) (Sh.l (Sh.p (Sh.l (Sh.i IntKind.i64)) (Sh.p (Sh.l (Sh.i IntKind.i64)) Sh.u))) ps)]))] [] = f21M n p i nx ps := by
  rw [f21T_ev, f21W0_ev]
  rfl

abbrev f23h : Hn := h23
noncomputable abbrev f23f : Func := fn 23
abbrev f23G0 := (List (List (ByteArray × List (Int × Int × Unit) × Unit))) → Int → Int → Int → (List (List (ByteArray × List (Int × Int × Unit) × Unit))) → (List ByteArray) → (List (List Int)) → Int → Option Lf
noncomputable def f23H0 (x0_0 : List (List (ByteArray × List (Int × Int × Unit) × Unit))) (x0_1 : Int) (x0_2 : Int) (x0_3 : Int) (x0_4 : List (List (ByteArray × List (Int × Int × Unit) × Unit))) (x0_5 : List ByteArray) (x0_6 : List (List Int)) (x0_7 : Int) : St := (St.mk [dead, (D.p (Pt.one (L.pv (Id.mk 1 0) 0))), dead, (D.p (Pt.one (L.pv (Id.mk 1 1) 0))), dead, dead, dead, dead, dead, dead, dead, dead, dead, dead, dead, dead, dead, dead, dead, dead, dead, dead, dead, dead, dead, dead, dead, dead, dead, dead, dead, dead, dead, dead, dead, dead, dead, dead, dead, dead, dead, (D.p (Pt.one (L.d (Pv.fz false) (Sh.l (Sh.l (Sh.p Sh.s (Sh.p (Sh.l (Sh.p (Sh.i IntKind.i64) (Sh.p (Sh.i IntKind.i64) Sh.u))) Sh.u)))) x0_0))), (D.p (Pt.one (L.d (Pv.fz true) (Sh.i IntKind.i64) x0_1))), (D.p (Pt.one (L.d (Pv.fz true) (Sh.i IntKind.i64) x0_2))), dead, dead, dead, dead, dead, dead, dead, dead, dead, dead, dead, dead, dead, dead, dead, dead, dead, dead, dead, dead, dead, dead, dead, dead, dead, dead] [[], [(Ob.va [(L.d (Pv.fz true) (Sh.i IntKind.i64) x0_3), (L.d (Pv.fz false) (Sh.l (Sh.l (Sh.p Sh.s (Sh.p (Sh.l (Sh.p (Sh.i IntKind.i64) (Sh.p (Sh.i IntKind.i64) Sh.u))) Sh.u)))) x0_4), (L.d (Pv.fz false) (Sh.l Sh.s) x0_5), (L.d (Pv.fz false) (Sh.l (Sh.l (Sh.i IntKind.i64))) x0_6)]), (Ob.va [(L.d (Pv.fz true) (Sh.i IntKind.i64) x0_7)])]])
noncomputable def f23W0 (G : St → Option Lf) : f23G0 := fun x0_0 x0_1 x0_2 x0_3 x0_4 x0_5 x0_6 x0_7 => G (f23H0 x0_0 x0_1 x0_2 x0_3 x0_4 x0_5 x0_6 x0_7)
noncomputable def f23S0  (g0 : f23G0) (x0_0 : List (List (ByteArray × List (Int × Int × Unit) × Unit))) (x0_1 : Int) (x0_2 : Int) (x0_3 : Int) (x0_4 : List (List (ByteArray × List (Int × Int × Unit) × Unit))) (x0_5 : List ByteArray) (x0_6 : List (List Int)) (x0_7 : Int) : Option Lf :=
 bif decide (x0_2 < x0_1) then
  bif inb x0_2 x0_0.length then
   bif zn (x0_0.getD x0_2.toNat []).length == 0 then
    some (Lf.mk [(Pt.one (L.d (Pv.fz true) Sh.e (Er.no 1 : Er)))] [] [])
   else
    bif inb x0_2 x0_6.length then
     bif big (x0_6.getD x0_2.toNat []).length then
      bif !riseF (zn x0_5.length) (-1) (x0_6.getD x0_2.toNat []) then
       some (Lf.mk [(Pt.one (L.d (Pv.fz true) Sh.e (Er.no 1 : Er)))] [] [])
      else
       bif big (x0_0.getD x0_2.toNat []).length && (x0_0.getD x0_2.toNat []).all mvG then
        bif (x0_0.getD x0_2.toNat []).any fun (c : ByteArray × List (Int × Int × Unit) × Unit) => !rightV x0_7 c then
         some (Lf.mk [(Pt.one (L.d (Pv.fz true) Sh.e (Er.no 1 : Er)))] [] [])
        else
         g0 (x0_0 : List (List (ByteArray × List (Int × Int × Unit) × Unit))) (x0_1 : Int) (IntKind.i64.wrap (x0_2 + 1) : Int) (x0_3 : Int) (x0_4 : List (List (ByteArray × List (Int × Int × Unit) × Unit))) (x0_5 : List ByteArray) (x0_6 : List (List Int)) (x0_7 : Int)
       else
        none
     else
      none
    else
     none
  else
   none
 else
  some (Lf.mk [(Pt.one (L.d (Pv.fz true) Sh.e (Er.nil : Er)))] [] [])
noncomputable def f23L0 (n : Nat)  : Nat → f23G0
  | 0 => fun _ _ _ _ _ _ _ _ => none
  | m + 1 => fun x0_0 x0_1 x0_2 x0_3 x0_4 x0_5 x0_6 x0_7 => f23S0   (f23L0 n  m) x0_0 x0_1 x0_2 x0_3 x0_4 x0_5 x0_6 x0_7
theorem f23S0_ev (n : Nat)  (G : St → Option Lf) (x0_0 : List (List (ByteArray × List (Int × Int × Unit) × Unit))) (x0_1 : Int) (x0_2 : Int) (x0_3 : Int) (x0_4 : List (List (ByteArray × List (Int × Int × Unit) × Unit))) (x0_5 : List ByteArray) (x0_6 : List (List Int)) (x0_7 : Int) : rnd C10 f23h n Lf (codeOf f23f) [1, 1, 1, 0, 1, 0] [] (endK C10 f23h f23f) G (f23H0 x0_0 x0_1 x0_2 x0_3 x0_4 x0_5 x0_6 x0_7) = f23S0   (f23W0 G) x0_0 x0_1 x0_2 x0_3 x0_4 x0_5 x0_6 x0_7 := by kernel_rfl
theorem f23W0_ev (n : Nat)  : ∀ m, (f23W0 (lp C10 f23h n Lf (codeOf f23f) [1, 1, 1, 0, 1, 0] [] (endK C10 f23h f23f) m)) = f23L0 n  m := by
  intro m
  induction m with
  | zero => funext x0_0 x0_1 x0_2 x0_3 x0_4 x0_5 x0_6 x0_7; exact lp_zero _
  | succ m ih =>
    funext x0_0 x0_1 x0_2 x0_3 x0_4 x0_5 x0_6 x0_7
    show lp C10 f23h n Lf (codeOf f23f) [1, 1, 1, 0, 1, 0] [] (endK C10 f23h f23f) (m + 1) (f23H0 x0_0 x0_1 x0_2 x0_3 x0_4 x0_5 x0_6 x0_7) = f23S0   (f23L0 n  m) x0_0 x0_1 x0_2 x0_3 x0_4 x0_5 x0_6 x0_7
    rw [lp_succ, f23S0_ev, ih]
noncomputable def f23T (l0 : f23G0) (i : Int) (ch : List (List (ByteArray × List (Int × Int × Unit) × Unit))) (nm : List ByteArray) (ho : List (List Int)) : Option Lf :=
 bif Nat.beq 1 1 && (decide (zn ch.length < 1) || Nat.beq 1 1 && (decide (zn ch.length > 4096) || Nat.beq 1 1 && (decide (i < 0) || Nat.beq 1 1 && (Nat.beq 1 1 && (decide (i ≥ zn ch.length) || Nat.beq 1 1 && (Nat.beq 1 1 && (zn ho.length != zn ch.length || Nat.beq 1 1 && (big nm.length && true)))))))) then
  bif decide (zn ch.length < 1) || (decide (zn ch.length > 4096) || (decide (i < 0) || (decide (i ≥ zn ch.length) || (zn ho.length != zn ch.length || !differF nm)))) then
   some (Lf.mk [(Pt.one (L.d (Pv.fz true) Sh.e (Er.no 1 : Er)))] [] [])
  else
   l0 (ch : List (List (ByteArray × List (Int × Int × Unit) × Unit))) (zn ch.length : Int) (0 : Int) (i : Int) (ch : List (List (ByteArray × List (Int × Int × Unit) × Unit))) (nm : List ByteArray) (ho : List (List Int)) (zn ch.length : Int)
 else
  none
noncomputable def f23M (n : Nat) (i : Int) (ch : List (List (ByteArray × List (Int × Int × Unit) × Unit))) (nm : List ByteArray) (ho : List (List Int)) : Option Lf := f23T (f23L0 n n) i ch nm ho
theorem f23T_ev (n : Nat) (i : Int) (ch : List (List (ByteArray × List (Int × Int × Unit) × Unit))) (nm : List ByteArray) (ho : List (List Int)) : evF C10 f23h n f23f [(D.p (Pt.agg [(L.d (Pv.fz true) (Sh.i IntKind.i64) i), (L.d (Pv.fz false) (Sh.l (Sh.l (Sh.p Sh.s (Sh.p (Sh.l (Sh.p (Sh.i IntKind.i64) (Sh.p (Sh.i IntKind.i64) Sh.u))) Sh.u)))) ch), (L.d (Pv.fz false) (Sh.l Sh.s) nm), (L.d (Pv.fz false) (Sh.l (Sh.l (Sh.i IntKind.i64))) ho)]))] [] = f23T (f23W0 (lp C10 f23h n Lf (codeOf f23f) [1, 1, 1, 0, 1, 0] [] (endK C10 f23h f23f) n)) i ch nm ho := by kernel_rfl
theorem f23_ev (n : Nat) (i : Int) (ch : List (List (ByteArray × List (Int × Int × Unit) × Unit))) (nm : List ByteArray) (ho : List (List Int)) : evF C10 f23h n f23f [(D.p (Pt.agg [(L.d (Pv.fz true) (Sh.i IntKind.i64) i), (L.d (Pv.fz false) (Sh.l (Sh.l (Sh.p Sh.s (Sh.p (Sh.l (Sh.p (Sh.i IntKind.i64) (Sh.p (Sh.i IntKind.i64) Sh.u))) Sh.u)))) ch), (L.d (Pv.fz false) (Sh.l Sh.s) nm), (L.d (Pv.fz false) (Sh.l (Sh.l (Sh.i IntKind.i64))) ho)]))] [] = f23M n i ch nm ho := by
  rw [f23T_ev, f23W0_ev]
  rfl

abbrev f12h : Hn := h12
noncomputable abbrev f12f : Func := fn 12
abbrev f12G0 := Int → Int → (List (List (ByteArray × List (Int × Int × Unit) × Unit))) → (List ByteArray) → (List (List Int)) → Int → Int → (List (List (ByteArray × List (Int × Int × Unit) × Unit))) → (List ByteArray) → (List (List Int)) → Option Lf
noncomputable def f12H0 (x0_0 : Int) (x0_1 : Int) (x0_2 : List (List (ByteArray × List (Int × Int × Unit) × Unit))) (x0_3 : List ByteArray) (x0_4 : List (List Int)) (x0_5 : Int) (x0_6 : Int) (x0_7 : List (List (ByteArray × List (Int × Int × Unit) × Unit))) (x0_8 : List ByteArray) (x0_9 : List (List Int)) : St := (St.mk [dead, (D.p (Pt.one (L.pv (Id.mk 1 0) 0))), (D.p (Pt.one (L.pv (Id.mk 1 1) 0))), (D.p (Pt.one (L.pv (Id.mk 1 2) 0))), (D.p (Pt.one (L.d (Pv.fz true) (Sh.i IntKind.i64) x0_0))), dead, dead, dead, dead, dead, dead, dead, dead, dead, dead, dead, dead, dead, dead, dead, dead, dead, dead, dead, dead, dead, dead, dead, dead, dead, dead, dead, dead, dead, dead, dead, dead, dead, dead, dead, dead, dead, dead, dead, dead, dead, dead, dead, dead, dead, dead, dead, dead, dead, dead, dead, dead, dead, dead, dead, dead, dead, dead, dead, dead, dead, dead, dead, dead, dead, dead, dead, dead, dead, dead, dead, dead, dead, dead, dead, dead, dead, dead, dead, dead, dead, dead, dead, dead, dead, dead, dead, dead, dead, dead, dead, dead, dead, dead, dead, dead, dead, dead, dead, dead, dead, dead] [[], [(Ob.va [(L.d (Pv.fz true) (Sh.i IntKind.i64) x0_1), (L.d (Pv.fz false) (Sh.l (Sh.l (Sh.p Sh.s (Sh.p (Sh.l (Sh.p (Sh.i IntKind.i64) (Sh.p (Sh.i IntKind.i64) Sh.u))) Sh.u)))) x0_2), (L.d (Pv.fz false) (Sh.l Sh.s) x0_3), (L.d (Pv.fz false) (Sh.l (Sh.l (Sh.i IntKind.i64))) x0_4)]), (Ob.va [(L.d (Pv.fz true) (Sh.i IntKind.i64) x0_5), L.nl, L.nl, L.nl]), (Ob.va [(L.d (Pv.fz true) (Sh.i IntKind.i64) x0_6), (L.rw (Id.mk 1 3)), (L.rw (Id.mk 1 4)), (L.rw (Id.mk 1 5))]), (Ob.ro true 0 59 (Sh.l (Sh.p Sh.s (Sh.p (Sh.l (Sh.p (Sh.i IntKind.i64) (Sh.p (Sh.i IntKind.i64) Sh.u))) Sh.u))) (Ow.l 62 (Ow.p Ow.z (Ow.p (Ow.l 67 Ow.z) Ow.z))) x0_7 Option.none), (Ob.ro true 0 9 Sh.s Ow.z x0_8 Option.none), (Ob.ro true 0 27 (Sh.l (Sh.i IntKind.i64)) (Ow.l 3 Ow.z) x0_9 Option.none)]])
noncomputable def f12W0 (G : St → Option Lf) : f12G0 := fun x0_0 x0_1 x0_2 x0_3 x0_4 x0_5 x0_6 x0_7 x0_8 x0_9 => G (f12H0 x0_0 x0_1 x0_2 x0_3 x0_4 x0_5 x0_6 x0_7 x0_8 x0_9)
abbrev f12G1 := Int → Int → Int → (List (List (ByteArray × List (Int × Int × Unit) × Unit))) → (List ByteArray) → (List (List Int)) → Int → Int → (List (ByteArray × List (Int × Int × Unit) × Unit)) → (List (List (ByteArray × List (Int × Int × Unit) × Unit))) → (List ByteArray) → (List (List Int)) → Option Lf
noncomputable def f12H1 (x1_0 : Int) (x1_1 : Int) (x1_2 : Int) (x1_3 : List (List (ByteArray × List (Int × Int × Unit) × Unit))) (x1_4 : List ByteArray) (x1_5 : List (List Int)) (x1_6 : Int) (x1_7 : Int) (x1_8 : List (ByteArray × List (Int × Int × Unit) × Unit)) (x1_9 : List (List (ByteArray × List (Int × Int × Unit) × Unit))) (x1_10 : List ByteArray) (x1_11 : List (List Int)) : St := (St.mk [dead, (D.p (Pt.one (L.pv (Id.mk 1 0) 0))), (D.p (Pt.one (L.pv (Id.mk 1 1) 0))), (D.p (Pt.one (L.pv (Id.mk 1 2) 0))), (D.p (Pt.one (L.d (Pv.fz true) (Sh.i IntKind.i64) x1_0))), (D.p (Pt.one (L.rw (Id.mk 1 3)))), (D.p (Pt.one (L.d (Pv.fz true) (Sh.i IntKind.i64) x1_1))), dead, dead, dead, dead, dead, dead, dead, dead, dead, dead, dead, dead, dead, dead, dead, dead, dead, dead, dead, dead, dead, dead, dead, dead, dead, dead, dead, dead, dead, dead, dead, dead, dead, dead, dead, dead, dead, dead, dead, dead, dead, dead, dead, dead, dead, dead, dead, dead, dead, dead, dead, dead, dead, dead, dead, dead, dead, dead, dead, dead, dead, dead, dead, dead, dead, dead, dead, dead, dead, dead, dead, dead, dead, dead, dead, dead, dead, dead, dead, dead, dead, dead, dead, dead, dead, dead, dead, dead, dead, dead, dead, dead, dead, dead, dead, dead, dead, dead, dead, dead] [[], [(Ob.va [(L.d (Pv.fz true) (Sh.i IntKind.i64) x1_2), (L.d (Pv.fz false) (Sh.l (Sh.l (Sh.p Sh.s (Sh.p (Sh.l (Sh.p (Sh.i IntKind.i64) (Sh.p (Sh.i IntKind.i64) Sh.u))) Sh.u)))) x1_3), (L.d (Pv.fz false) (Sh.l Sh.s) x1_4), (L.d (Pv.fz false) (Sh.l (Sh.l (Sh.i IntKind.i64))) x1_5)]), (Ob.va [(L.d (Pv.fz true) (Sh.i IntKind.i64) x1_6), L.nl, L.nl, L.nl]), (Ob.va [(L.d (Pv.fz true) (Sh.i IntKind.i64) x1_7), (L.rw (Id.mk 1 4)), (L.rw (Id.mk 1 5)), (L.rw (Id.mk 1 6))]), (Ob.ro true 0 62 (Sh.p Sh.s (Sh.p (Sh.l (Sh.p (Sh.i IntKind.i64) (Sh.p (Sh.i IntKind.i64) Sh.u))) Sh.u)) (Ow.p Ow.z (Ow.p (Ow.l 67 Ow.z) Ow.z)) x1_8 Option.none), (Ob.ro true 0 59 (Sh.l (Sh.p Sh.s (Sh.p (Sh.l (Sh.p (Sh.i IntKind.i64) (Sh.p (Sh.i IntKind.i64) Sh.u))) Sh.u))) (Ow.l 62 (Ow.p Ow.z (Ow.p (Ow.l 67 Ow.z) Ow.z))) x1_9 Option.none), (Ob.ro true 0 9 Sh.s Ow.z x1_10 Option.none), (Ob.ro true 0 27 (Sh.l (Sh.i IntKind.i64)) (Ow.l 3 Ow.z) x1_11 Option.none)]])
noncomputable def f12W1 (G : St → Option Lf) : f12G1 := fun x1_0 x1_1 x1_2 x1_3 x1_4 x1_5 x1_6 x1_7 x1_8 x1_9 x1_10 x1_11 => G (f12H1 x1_0 x1_1 x1_2 x1_3 x1_4 x1_5 x1_6 x1_7 x1_8 x1_9 x1_10 x1_11)
abbrev f12G2 := Int → Int → Int → Int → (List (List (ByteArray × List (Int × Int × Unit) × Unit))) → (List ByteArray) → (List (List Int)) → Int → Int → (List (ByteArray × List (Int × Int × Unit) × Unit)) → ByteArray → (List (List (ByteArray × List (Int × Int × Unit) × Unit))) → (List ByteArray) → (List (List Int)) → (List (Int × Int × Unit)) → Option Lf
noncomputable def f12H2 (x2_0 : Int) (x2_1 : Int) (x2_2 : Int) (x2_3 : Int) (x2_4 : List (List (ByteArray × List (Int × Int × Unit) × Unit))) (x2_5 : List ByteArray) (x2_6 : List (List Int)) (x2_7 : Int) (x2_8 : Int) (x2_9 : List (ByteArray × List (Int × Int × Unit) × Unit)) (x2_10 : ByteArray) (x2_11 : List (List (ByteArray × List (Int × Int × Unit) × Unit))) (x2_12 : List ByteArray) (x2_13 : List (List Int)) (x2_14 : List (Int × Int × Unit)) : St := (St.mk [dead, (D.p (Pt.one (L.pv (Id.mk 1 0) 0))), (D.p (Pt.one (L.pv (Id.mk 1 1) 0))), (D.p (Pt.one (L.pv (Id.mk 1 2) 0))), (D.p (Pt.one (L.d (Pv.fz true) (Sh.i IntKind.i64) x2_0))), (D.p (Pt.one (L.rw (Id.mk 1 3)))), (D.p (Pt.one (L.d (Pv.fz true) (Sh.i IntKind.i64) x2_1))), (D.p (Pt.one (L.pv (Id.mk 1 4) 0))), (D.p (Pt.one (L.d (Pv.fz true) (Sh.i IntKind.i64) x2_2))), dead, dead, dead, dead, dead, dead, dead, dead, dead, dead, dead, dead, dead, dead, dead, dead, dead, dead, dead, dead, dead, dead, dead, dead, dead, dead, dead, dead, dead, dead, dead, dead, dead, dead, dead, dead, dead, dead, dead, dead, dead, dead, dead, dead, dead, dead, dead, dead, dead, dead, dead, dead, dead, dead, dead, dead, dead, dead, dead, dead, dead, dead, dead, dead, dead, dead, dead, dead, dead, dead, dead, dead, dead, dead, dead, dead, dead, dead, dead, dead, dead, dead, dead, dead, dead, dead, dead, dead, dead, dead, dead, dead, dead, dead, dead, dead, dead, dead] [[], [(Ob.va [(L.d (Pv.fz true) (Sh.i IntKind.i64) x2_3), (L.d (Pv.fz false) (Sh.l (Sh.l (Sh.p Sh.s (Sh.p (Sh.l (Sh.p (Sh.i IntKind.i64) (Sh.p (Sh.i IntKind.i64) Sh.u))) Sh.u)))) x2_4), (L.d (Pv.fz false) (Sh.l Sh.s) x2_5), (L.d (Pv.fz false) (Sh.l (Sh.l (Sh.i IntKind.i64))) x2_6)]), (Ob.va [(L.d (Pv.fz true) (Sh.i IntKind.i64) x2_7), L.nl, L.nl, L.nl]), (Ob.va [(L.d (Pv.fz true) (Sh.i IntKind.i64) x2_8), (L.rw (Id.mk 1 5)), (L.rw (Id.mk 1 6)), (L.rw (Id.mk 1 7))]), (Ob.ro true 0 62 (Sh.p Sh.s (Sh.p (Sh.l (Sh.p (Sh.i IntKind.i64) (Sh.p (Sh.i IntKind.i64) Sh.u))) Sh.u)) (Ow.p Ow.z (Ow.p (Ow.l 67 Ow.z) Ow.z)) x2_9 Option.none), (Ob.va [(L.d (Pv.fz true) Sh.s x2_10), (L.rw (Id.mk 1 8))]), (Ob.ro true 0 59 (Sh.l (Sh.p Sh.s (Sh.p (Sh.l (Sh.p (Sh.i IntKind.i64) (Sh.p (Sh.i IntKind.i64) Sh.u))) Sh.u))) (Ow.l 62 (Ow.p Ow.z (Ow.p (Ow.l 67 Ow.z) Ow.z))) x2_11 Option.none), (Ob.ro true 0 9 Sh.s Ow.z x2_12 Option.none), (Ob.ro true 0 27 (Sh.l (Sh.i IntKind.i64)) (Ow.l 3 Ow.z) x2_13 Option.none), (Ob.ro true 0 67 (Sh.p (Sh.i IntKind.i64) (Sh.p (Sh.i IntKind.i64) Sh.u)) Ow.z x2_14 Option.none)]])
noncomputable def f12W2 (G : St → Option Lf) : f12G2 := fun x2_0 x2_1 x2_2 x2_3 x2_4 x2_5 x2_6 x2_7 x2_8 x2_9 x2_10 x2_11 x2_12 x2_13 x2_14 => G (f12H2 x2_0 x2_1 x2_2 x2_3 x2_4 x2_5 x2_6 x2_7 x2_8 x2_9 x2_10 x2_11 x2_12 x2_13 x2_14)
noncomputable def f12S2  (g0 : f12G0) (g1 : f12G1) (g2 : f12G2) (x2_0 : Int) (x2_1 : Int) (x2_2 : Int) (x2_3 : Int) (x2_4 : List (List (ByteArray × List (Int × Int × Unit) × Unit))) (x2_5 : List ByteArray) (x2_6 : List (List Int)) (x2_7 : Int) (x2_8 : Int) (x2_9 : List (ByteArray × List (Int × Int × Unit) × Unit)) (x2_10 : ByteArray) (x2_11 : List (List (ByteArray × List (Int × Int × Unit) × Unit))) (x2_12 : List ByteArray) (x2_13 : List (List Int)) (x2_14 : List (Int × Int × Unit)) : Option Lf :=
 bif inb x2_0 x2_4.length then
  bif inb x2_1 (x2_4.getD x2_0.toNat []).length then
   bif decide (x2_2 < zn ((x2_4.getD x2_0.toNat []).getD x2_1.toNat ({ data := #[] }, [], ())).snd.fst.length) then
    bif inb x2_0 x2_4.length then
     bif inb x2_1 (x2_4.getD x2_0.toNat []).length then
      bif inb x2_2 ((x2_4.getD x2_0.toNat []).getD x2_1.toNat ({ data := #[] }, [], ())).snd.fst.length then
       bif decide ((x2_14.length + [((((x2_4.getD x2_0.toNat []).getD x2_1.toNat ({ data := #[] }, [], ())).snd.fst.getD x2_2.toNat (0, 0, ())).fst, (((x2_4.getD x2_0.toNat []).getD x2_1.toNat ({ data := #[] }, [], ())).snd.fst.getD x2_2.toNat (0, 0, ())).snd.fst, ())].length) * 16 ≤ 140737488355328) then
        g2 (x2_0 : Int) (x2_1 : Int) (IntKind.i64.wrap (x2_2 + 1) : Int) (x2_3 : Int) (x2_4 : List (List (ByteArray × List (Int × Int × Unit) × Unit))) (x2_5 : List ByteArray) (x2_6 : List (List Int)) (x2_7 : Int) (x2_8 : Int) (x2_9 : List (ByteArray × List (Int × Int × Unit) × Unit)) (x2_10 : ByteArray) (x2_11 : List (List (ByteArray × List (Int × Int × Unit) × Unit))) (x2_12 : List ByteArray) (x2_13 : List (List Int)) (x2_14 ++ [((((x2_4.getD x2_0.toNat []).getD x2_1.toNat ({ data := #[] }, [], ())).snd.fst.getD x2_2.toNat (0, 0, ())).fst, (((x2_4.getD x2_0.toNat []).getD x2_1.toNat ({ data := #[] }, [], ())).snd.fst.getD x2_2.toNat (0, 0, ())).snd.fst, ())] : List (Int × Int × Unit))
       else
        none
      else
       none
     else
      none
    else
     none
   else
    bif decide ((x2_9.length + [(x2_10, x2_14, ())].length) * 40 ≤ 140737488355328) then
     g1 (x2_0 : Int) (IntKind.i64.wrap (x2_1 + 1) : Int) (x2_3 : Int) (x2_4 : List (List (ByteArray × List (Int × Int × Unit) × Unit))) (x2_5 : List ByteArray) (x2_6 : List (List Int)) (x2_7 : Int) (x2_8 : Int) (x2_9 ++ [(x2_10, x2_14, ())] : List (ByteArray × List (Int × Int × Unit) × Unit)) (x2_11 : List (List (ByteArray × List (Int × Int × Unit) × Unit))) (x2_12 : List ByteArray) (x2_13 : List (List Int))
    else
     none
  else
   none
 else
  none
noncomputable def f12L2 (n : Nat) (g0 : f12G0) (g1 : f12G1) : Nat → f12G2
  | 0 => fun _ _ _ _ _ _ _ _ _ _ _ _ _ _ _ => none
  | m + 1 => fun x2_0 x2_1 x2_2 x2_3 x2_4 x2_5 x2_6 x2_7 x2_8 x2_9 x2_10 x2_11 x2_12 x2_13 x2_14 => f12S2  g0 g1 (f12L2 n g0 g1 m) x2_0 x2_1 x2_2 x2_3 x2_4 x2_5 x2_6 x2_7 x2_8 x2_9 x2_10 x2_11 x2_12 x2_13 x2_14
theorem f12S2_ev (n : Nat) (G0 : St → Option Lf) (G1 : St → Option Lf) (G : St → Option Lf) (x2_0 : Int) (x2_1 : Int) (x2_2 : Int) (x2_3 : Int) (x2_4 : List (List (ByteArray × List (Int × Int × Unit) × Unit))) (x2_5 : List ByteArray) (x2_6 : List (List Int)) (x2_7 : Int) (x2_8 : Int) (x2_9 : List (ByteArray × List (Int × Int × Unit) × Unit)) (x2_10 : ByteArray) (x2_11 : List (List (ByteArray × List (Int × Int × Unit) × Unit))) (x2_12 : List ByteArray) (x2_13 : List (List Int)) (x2_14 : List (Int × Int × Unit)) : rnd C10 f12h n Lf (codeOf f12f) [1, 1, 1, 0, 1, 0, 0, 1, 0, 0, 1, 0, 1, 0, 0, 1, 0, 0, 1, 0, 1, 0] [G0, G1] (endK C10 f12h f12f) G (f12H2 x2_0 x2_1 x2_2 x2_3 x2_4 x2_5 x2_6 x2_7 x2_8 x2_9 x2_10 x2_11 x2_12 x2_13 x2_14) = f12S2  (f12W0 G0) (f12W1 G1) (f12W2 G) x2_0 x2_1 x2_2 x2_3 x2_4 x2_5 x2_6 x2_7 x2_8 x2_9 x2_10 x2_11 x2_12 x2_13 x2_14 := by kernel_rfl
theorem f12W2_ev (n : Nat) (G0 : St → Option Lf) (G1 : St → Option Lf) : ∀ m, (f12W2 (lp C10 f12h n Lf (codeOf f12f) [1, 1, 1, 0, 1, 0, 0, 1, 0, 0, 1, 0, 1, 0, 0, 1, 0, 0, 1, 0, 1, 0] [G0, G1] (endK C10 f12h f12f) m)) = f12L2 n (f12W0 G0) (f12W1 G1) m := by
  intro m
  induction m with
  | zero => funext x2_0 x2_1 x2_2 x2_3 x2_4 x2_5 x2_6 x2_7 x2_8 x2_9 x2_10 x2_11 x2_12 x2_13 x2_14; exact lp_zero _
  | succ m ih =>
    funext x2_0 x2_1 x2_2 x2_3 x2_4 x2_5 x2_6 x2_7 x2_8 x2_9 x2_10 x2_11 x2_12 x2_13 x2_14
    show lp C10 f12h n Lf (codeOf f12f) [1, 1, 1, 0, 1, 0, 0, 1, 0, 0, 1, 0, 1, 0, 0, 1, 0, 0, 1, 0, 1, 0] [G0, G1] (endK C10 f12h f12f) (m + 1) (f12H2 x2_0 x2_1 x2_2 x2_3 x2_4 x2_5 x2_6 x2_7 x2_8 x2_9 x2_10 x2_11 x2_12 x2_13 x2_14) = f12S2  (f12W0 G0) (f12W1 G1) (f12L2 n (f12W0 G0) (f12W1 G1) m) x2_0 x2_1 x2_2 x2_3 x2_4 x2_5 x2_6 x2_7 x2_8 x2_9 x2_10 x2_11 x2_12 x2_13 x2_14
    rw [lp_succ, f12S2_ev, ih]
noncomputable def f12S1 (l2 : f12G2) (g0 : f12G0) (g1 : f12G1) (x1_0 : Int) (x1_1 : Int) (x1_2 : Int) (x1_3 : List (List (ByteArray × List (Int × Int × Unit) × Unit))) (x1_4 : List ByteArray) (x1_5 : List (List Int)) (x1_6 : Int) (x1_7 : Int) (x1_8 : List (ByteArray × List (Int × Int × Unit) × Unit)) (x1_9 : List (List (ByteArray × List (Int × Int × Unit) × Unit))) (x1_10 : List ByteArray) (x1_11 : List (List Int)) : Option Lf :=
 bif inb x1_0 x1_3.length then
  bif decide (x1_1 < zn (x1_3.getD x1_0.toNat []).length) then
   bif inb x1_0 x1_3.length then
    bif inb x1_1 (x1_3.getD x1_0.toNat []).length then
     l2 (x1_0 : Int) (x1_1 : Int) (0 : Int) (x1_2 : Int) (x1_3 : List (List (ByteArray × List (Int × Int × Unit) × Unit))) (x1_4 : List ByteArray) (x1_5 : List (List Int)) (x1_6 : Int) (x1_7 : Int) (x1_8 : List (ByteArray × List (Int × Int × Unit) × Unit)) (((x1_3.getD x1_0.toNat []).getD x1_1.toNat ({ data := #[] }, [], ())).fst : ByteArray) (x1_9 : List (List (ByteArray × List (Int × Int × Unit) × Unit))) (x1_10 : List ByteArray) (x1_11 : List (List Int)) ([] : List (Int × Int × Unit))
    else
     none
   else
    none
  else
   bif decide ((x1_9.length + [x1_8].length) * 24 ≤ 140737488355328) then
    g0 (IntKind.i64.wrap (x1_0 + 1) : Int) (x1_2 : Int) (x1_3 : List (List (ByteArray × List (Int × Int × Unit) × Unit))) (x1_4 : List ByteArray) (x1_5 : List (List Int)) (x1_6 : Int) (x1_7 : Int) (x1_9 ++ [x1_8] : List (List (ByteArray × List (Int × Int × Unit) × Unit))) (x1_10 : List ByteArray) (x1_11 : List (List Int))
   else
    none
 else
  none
noncomputable def f12L1 (n : Nat) (g0 : f12G0) : Nat → f12G1
  | 0 => fun _ _ _ _ _ _ _ _ _ _ _ _ => none
  | m + 1 => fun x1_0 x1_1 x1_2 x1_3 x1_4 x1_5 x1_6 x1_7 x1_8 x1_9 x1_10 x1_11 => f12S1 (f12L2 n g0 (f12L1 n g0 m) n) g0 (f12L1 n g0 m) x1_0 x1_1 x1_2 x1_3 x1_4 x1_5 x1_6 x1_7 x1_8 x1_9 x1_10 x1_11
theorem f12S1_ev (n : Nat) (G0 : St → Option Lf) (G : St → Option Lf) (x1_0 : Int) (x1_1 : Int) (x1_2 : Int) (x1_3 : List (List (ByteArray × List (Int × Int × Unit) × Unit))) (x1_4 : List ByteArray) (x1_5 : List (List Int)) (x1_6 : Int) (x1_7 : Int) (x1_8 : List (ByteArray × List (Int × Int × Unit) × Unit)) (x1_9 : List (List (ByteArray × List (Int × Int × Unit) × Unit))) (x1_10 : List ByteArray) (x1_11 : List (List Int)) : rnd C10 f12h n Lf (codeOf f12f) [1, 1, 1, 0, 1, 0, 0, 1, 0, 0, 1, 0, 1, 0] [G0] (endK C10 f12h f12f) G (f12H1 x1_0 x1_1 x1_2 x1_3 x1_4 x1_5 x1_6 x1_7 x1_8 x1_9 x1_10 x1_11) = f12S1 (f12W2 (lp C10 f12h n Lf (codeOf f12f) [1, 1, 1, 0, 1, 0, 0, 1, 0, 0, 1, 0, 1, 0, 0, 1, 0, 0, 1, 0, 1, 0] [G0, G] (endK C10 f12h f12f) n)) (f12W0 G0) (f12W1 G) x1_0 x1_1 x1_2 x1_3 x1_4 x1_5 x1_6 x1_7 x1_8 x1_9 x1_10 x1_11 := by kernel_rfl
theorem f12W1_ev (n : Nat) (G0 : St → Option Lf) : ∀ m, (f12W1 (lp C10 f12h n Lf (codeOf f12f) [1, 1, 1, 0, 1, 0, 0, 1, 0, 0, 1, 0, 1, 0] [G0] (endK C10 f12h f12f) m)) = f12L1 n (f12W0 G0) m := by
  intro m
  induction m with
  | zero => funext x1_0 x1_1 x1_2 x1_3 x1_4 x1_5 x1_6 x1_7 x1_8 x1_9 x1_10 x1_11; exact lp_zero _
  | succ m ih =>
    have e2 : (f12W2 (lp C10 f12h n Lf (codeOf f12f) [1, 1, 1, 0, 1, 0, 0, 1, 0, 0, 1, 0, 1, 0, 0, 1, 0, 0, 1, 0, 1, 0] [G0, (lp C10 f12h n Lf (codeOf f12f) [1, 1, 1, 0, 1, 0, 0, 1, 0, 0, 1, 0, 1, 0] [G0] (endK C10 f12h f12f) m)] (endK C10 f12h f12f) n)) = (f12L2 n (f12W0 G0) (f12L1 n (f12W0 G0) m) n) := by
      rw [f12W2_ev, ih]
    funext x1_0 x1_1 x1_2 x1_3 x1_4 x1_5 x1_6 x1_7 x1_8 x1_9 x1_10 x1_11
    show lp C10 f12h n Lf (codeOf f12f) [1, 1, 1, 0, 1, 0, 0, 1, 0, 0, 1, 0, 1, 0] [G0] (endK C10 f12h f12f) (m + 1) (f12H1 x1_0 x1_1 x1_2 x1_3 x1_4 x1_5 x1_6 x1_7 x1_8 x1_9 x1_10 x1_11) = f12S1 (f12L2 n (f12W0 G0) (f12L1 n (f12W0 G0) m) n) (f12W0 G0) (f12L1 n (f12W0 G0) m) x1_0 x1_1 x1_2 x1_3 x1_4 x1_5 x1_6 x1_7 x1_8 x1_9 x1_10 x1_11
    rw [lp_succ, f12S1_ev, ih, e2]
abbrev f12G3 := Int → Int → (List (List (ByteArray × List (Int × Int × Unit) × Unit))) → (List ByteArray) → (List (List Int)) → Int → Int → (List (List (ByteArray × List (Int × Int × Unit) × Unit))) → (List ByteArray) → (List (List Int)) → Option Lf
noncomputable def f12H3 (x3_0 : Int) (x3_1 : Int) (x3_2 : List (List (ByteArray × List (Int × Int × Unit) × Unit))) (x3_3 : List ByteArray) (x3_4 : List (List Int)) (x3_5 : Int) (x3_6 : Int) (x3_7 : List (List (ByteArray × List (Int × Int × Unit) × Unit))) (x3_8 : List ByteArray) (x3_9 : List (List Int)) : St := (St.mk [dead, (D.p (Pt.one (L.pv (Id.mk 1 0) 0))), (D.p (Pt.one (L.pv (Id.mk 1 1) 0))), (D.p (Pt.one (L.pv (Id.mk 1 2) 0))), dead, dead, dead, dead, dead, (D.p (Pt.one (L.d (Pv.fz true) (Sh.i IntKind.i64) x3_0))), dead, dead, dead, dead, dead, dead, dead, dead, dead, dead, dead, dead, dead, dead, dead, dead, dead, dead, dead, dead, dead, dead, dead, dead, dead, dead, dead, dead, dead, dead, dead, dead, dead, dead, dead, dead, dead, dead, dead, dead, dead, dead, dead, dead, dead, dead, dead, dead, dead, dead, dead, dead, dead, dead, dead, dead, dead, dead, dead, dead, dead, dead, dead, dead, dead, dead, dead, dead, dead, dead, dead, dead, dead, dead, dead, dead, dead, dead, dead, dead, dead, dead, dead, dead, dead, dead, dead, dead, dead, dead, dead, dead, dead, dead, dead, dead, dead] [[], [(Ob.va [(L.d (Pv.fz true) (Sh.i IntKind.i64) x3_1), (L.d (Pv.fz false) (Sh.l (Sh.l (Sh.p Sh.s (Sh.p (Sh.l (Sh.p (Sh.i IntKind.i64) (Sh.p (Sh.i IntKind.i64) Sh.u))) Sh.u)))) x3_2), (L.d (Pv.fz false) (Sh.l Sh.s) x3_3), (L.d (Pv.fz false) (Sh.l (Sh.l (Sh.i IntKind.i64))) x3_4)]), (Ob.va [(L.d (Pv.fz true) (Sh.i IntKind.i64) x3_5), L.nl, L.nl, L.nl]), (Ob.va [(L.d (Pv.fz true) (Sh.i IntKind.i64) x3_6), (L.rw (Id.mk 1 3)), (L.rw (Id.mk 1 4)), (L.rw (Id.mk 1 5))]), (Ob.ro true 0 59 (Sh.l (Sh.p Sh.s (Sh.p (Sh.l (Sh.p (Sh.i IntKind.i64) (Sh.p (Sh.i IntKind.i64) Sh.u))) Sh.u))) (Ow.l 62 (Ow.p Ow.z (Ow.p (Ow.l 67 Ow.z) Ow.z))) x3_7 Option.none), (Ob.ro true 0 9 Sh.s Ow.z x3_8 Option.none), (Ob.ro true 0 27 (Sh.l (Sh.i IntKind.i64)) (Ow.l 3 Ow.z) x3_9 Option.none)]])
noncomputable def f12W3 (G : St → Option Lf) : f12G3 := fun x3_0 x3_1 x3_2 x3_3 x3_4 x3_5 x3_6 x3_7 x3_8 x3_9 => G (f12H3 x3_0 x3_1 x3_2 x3_3 x3_4 x3_5 x3_6 x3_7 x3_8 x3_9)
noncomputable def f12S3  (g3 : f12G3) (x3_0 : Int) (x3_1 : Int) (x3_2 : List (List (ByteArray × List (Int × Int × Unit) × Unit))) (x3_3 : List ByteArray) (x3_4 : List (List Int)) (x3_5 : Int) (x3_6 : Int) (x3_7 : List (List (ByteArray × List (Int × Int × Unit) × Unit))) (x3_8 : List ByteArray) (x3_9 : List (List Int)) : Option Lf :=
 bif decide (x3_0 < zn x3_4.length) then
  bif inb x3_0 x3_4.length then
   bif decide ((0 + (x3_4.getD x3_0.toNat []).length) * 8 ≤ 140737488355328) then
    bif decide ((x3_9.length + [[] ++ x3_4.getD x3_0.toNat []].length) * 24 ≤ 140737488355328) then
     g3 (IntKind.i64.wrap (x3_0 + 1) : Int) (x3_1 : Int) (x3_2 : List (List (ByteArray × List (Int × Int × Unit) × Unit))) (x3_3 : List ByteArray) (x3_4 : List (List Int)) (x3_5 : Int) (x3_6 : Int) (x3_7 : List (List (ByteArray × List (Int × Int × Unit) × Unit))) (x3_8 : List ByteArray) (x3_9 ++ [[] ++ x3_4.getD x3_0.toNat []] : List (List Int))
    else
     none
   else
    none
  else
   none
 else
  some (Lf.mk [(Pt.agg [(L.d (Pv.fz true) (Sh.i IntKind.i64) (x3_6 : Int)), (L.rw (Id.mk 1 0)), (L.rw (Id.mk 1 1)), (L.rw (Id.mk 1 2))])] [] [(Ob.ro true 0 59 (Sh.l (Sh.p Sh.s (Sh.p (Sh.l (Sh.p (Sh.i IntKind.i64) (Sh.p (Sh.i IntKind.i64) Sh.u))) Sh.u))) (Ow.l 62 (Ow.p Ow.z (Ow.p (Ow.l 67 Ow.z) Ow.z))) (x3_7 : List (List (ByteArray × List (Int × Int × Unit) × Unit))) Option.none), (Ob.ro true 0 9 Sh.s Ow.z (x3_8 : List ByteArray) Option.none), (Ob.ro true 0 27 (Sh.l (Sh.i IntKind.i64)) (Ow.l 3 Ow.z) (x3_9 : List (List Int)) Option.none)])
noncomputable def f12L3 (n : Nat)  : Nat → f12G3
  | 0 => fun _ _ _ _ _ _ _ _ _ _ => none
  | m + 1 => fun x3_0 x3_1 x3_2 x3_3 x3_4 x3_5 x3_6 x3_7 x3_8 x3_9 => f12S3   (f12L3 n  m) x3_0 x3_1 x3_2 x3_3 x3_4 x3_5 x3_6 x3_7 x3_8 x3_9
theorem f12S3_ev (n : Nat)  (G : St → Option Lf) (x3_0 : Int) (x3_1 : Int) (x3_2 : List (List (ByteArray × List (Int × Int × Unit) × Unit))) (x3_3 : List ByteArray) (x3_4 : List (List Int)) (x3_5 : Int) (x3_6 : Int) (x3_7 : List (List (ByteArray × List (Int × Int × Unit) × Unit))) (x3_8 : List ByteArray) (x3_9 : List (List Int)) : rnd C10 f12h n Lf (codeOf f12f) [1, 1, 1, 1, 0, 1, 0] [] (endK C10 f12h f12f) G (f12H3 x3_0 x3_1 x3_2 x3_3 x3_4 x3_5 x3_6 x3_7 x3_8 x3_9) = f12S3   (f12W3 G) x3_0 x3_1 x3_2 x3_3 x3_4 x3_5 x3_6 x3_7 x3_8 x3_9 := by kernel_rfl
theorem f12W3_ev (n : Nat)  : ∀ m, (f12W3 (lp C10 f12h n Lf (codeOf f12f) [1, 1, 1, 1, 0, 1, 0] [] (endK C10 f12h f12f) m)) = f12L3 n  m := by
  intro m
  induction m with
  | zero => funext x3_0 x3_1 x3_2 x3_3 x3_4 x3_5 x3_6 x3_7 x3_8 x3_9; exact lp_zero _
  | succ m ih =>
    funext x3_0 x3_1 x3_2 x3_3 x3_4 x3_5 x3_6 x3_7 x3_8 x3_9
    show lp C10 f12h n Lf (codeOf f12f) [1, 1, 1, 1, 0, 1, 0] [] (endK C10 f12h f12f) (m + 1) (f12H3 x3_0 x3_1 x3_2 x3_3 x3_4 x3_5 x3_6 x3_7 x3_8 x3_9) = f12S3   (f12L3 n  m) x3_0 x3_1 x3_2 x3_3 x3_4 x3_5 x3_6 x3_7 x3_8 x3_9
    rw [lp_succ, f12S3_ev, ih]
noncomputable def f12S0 (l1 : f12G1) (l3 : f12G3) (g0 : f12G0) (x0_0 : Int) (x0_1 : Int) (x0_2 : List (List (ByteArray × List (Int × Int × Unit) × Unit))) (x0_3 : List ByteArray) (x0_4 : List (List Int)) (x0_5 : Int) (x0_6 : Int) (x0_7 : List (List (ByteArray × List (Int × Int × Unit) × Unit))) (x0_8 : List ByteArray) (x0_9 : List (List Int)) : Option Lf :=
 bif decide (x0_0 < zn x0_2.length) then
  l1 (x0_0 : Int) (0 : Int) (x0_1 : Int) (x0_2 : List (List (ByteArray × List (Int × Int × Unit) × Unit))) (x0_3 : List ByteArray) (x0_4 : List (List Int)) (x0_5 : Int) (x0_6 : Int) ([] : List (ByteArray × List (Int × Int × Unit) × Unit)) (x0_7 : List (List (ByteArray × List (Int × Int × Unit) × Unit))) (x0_8 : List ByteArray) (x0_9 : List (List Int))
 else
  l3 (0 : Int) (x0_1 : Int) (x0_2 : List (List (ByteArray × List (Int × Int × Unit) × Unit))) (x0_3 : List ByteArray) (x0_4 : List (List Int)) (x0_5 : Int) (x0_6 : Int) (x0_7 : List (List (ByteArray × List (Int × Int × Unit) × Unit))) (x0_8 : List ByteArray) (x0_9 : List (List Int))
noncomputable def f12L0 (n : Nat)  : Nat → f12G0
  | 0 => fun _ _ _ _ _ _ _ _ _ _ => none
  | m + 1 => fun x0_0 x0_1 x0_2 x0_3 x0_4 x0_5 x0_6 x0_7 x0_8 x0_9 => f12S0 (f12L1 n (f12L0 n  m) n) (f12L3 n  n)  (f12L0 n  m) x0_0 x0_1 x0_2 x0_3 x0_4 x0_5 x0_6 x0_7 x0_8 x0_9
theorem f12S0_ev (n : Nat)  (G : St → Option Lf) (x0_0 : Int) (x0_1 : Int) (x0_2 : List (List (ByteArray × List (Int × Int × Unit) × Unit))) (x0_3 : List ByteArray) (x0_4 : List (List Int)) (x0_5 : Int) (x0_6 : Int) (x0_7 : List (List (ByteArray × List (Int × Int × Unit) × Unit))) (x0_8 : List ByteArray) (x0_9 : List (List Int)) : rnd C10 f12h n Lf (codeOf f12f) [1, 1, 1, 0, 1, 0] [] (endK C10 f12h f12f) G (f12H0 x0_0 x0_1 x0_2 x0_3 x0_4 x0_5 x0_6 x0_7 x0_8 x0_9) = f12S0 (f12W1 (lp C10 f12h n Lf (codeOf f12f) [1, 1, 1, 0, 1, 0, 0, 1, 0, 0, 1, 0, 1, 0] [G] (endK C10 f12h f12f) n)) (f12W3 (lp C10 f12h n Lf (codeOf f12f) [1, 1, 1, 1, 0, 1, 0] [] (endK C10 f12h f12f) n))  (f12W0 G) x0_0 x0_1 x0_2 x0_3 x0_4 x0_5 x0_6 x0_7 x0_8 x0_9 := by kernel_rfl
theorem f12W0_ev (n : Nat)  : ∀ m, (f12W0 (lp C10 f12h n Lf (codeOf f12f) [1, 1, 1, 0, 1, 0] [] (endK C10 f12h f12f) m)) = f12L0 n  m := by
  intro m
  induction m with
  | zero => funext x0_0 x0_1 x0_2 x0_3 x0_4 x0_5 x0_6 x0_7 x0_8 x0_9; exact lp_zero _
  | succ m ih =>
    have e1 : (f12W1 (lp C10 f12h n Lf (codeOf f12f) [1, 1, 1, 0, 1, 0, 0, 1, 0, 0, 1, 0, 1, 0] [(lp C10 f12h n Lf (codeOf f12f) [1, 1, 1, 0, 1, 0] [] (endK C10 f12h f12f) m)] (endK C10 f12h f12f) n)) = (f12L1 n (f12L0 n  m) n) := by
      rw [f12W1_ev, ih]
    have e3 : (f12W3 (lp C10 f12h n Lf (codeOf f12f) [1, 1, 1, 1, 0, 1, 0] [] (endK C10 f12h f12f) n)) = (f12L3 n  n) := by
      rw [f12W3_ev]
    funext x0_0 x0_1 x0_2 x0_3 x0_4 x0_5 x0_6 x0_7 x0_8 x0_9
    show lp C10 f12h n Lf (codeOf f12f) [1, 1, 1, 0, 1, 0] [] (endK C10 f12h f12f) (m + 1) (f12H0 x0_0 x0_1 x0_2 x0_3 x0_4 x0_5 x0_6 x0_7 x0_8 x0_9) = f12S0 (f12L1 n (f12L0 n  m) n) (f12L3 n  n)  (f12L0 n  m) x0_0 x0_1 x0_2 x0_3 x0_4 x0_5 x0_6 x0_7 x0_8 x0_9
    rw [lp_succ, f12S0_ev, ih, e1, e3]
noncomputable def f12T (l0 : f12G0) (i : Int) (ch : List (List (ByteArray × List (Int × Int × Unit) × Unit))) (nm : List ByteArray) (ho : List (List Int)) : Option Lf :=
 bif decide ((0 + nm.length) * 16 ≤ 140737488355328) then
  l0 (0 : Int) (i : Int) (ch : List (List (ByteArray × List (Int × Int × Unit) × Unit))) (nm : List ByteArray) (ho : List (List Int)) (0 : Int) (i : Int) ([] : List (List (ByteArray × List (Int × Int × Unit) × Unit))) (nm : List ByteArray) ([] : List (List Int))
 else
  none
noncomputable def f12M (n : Nat) (i : Int) (ch : List (List (ByteArray × List (Int × Int × Unit) × Unit))) (nm : List ByteArray) (ho : List (List Int)) : Option Lf := f12T (f12L0 n n) i ch nm ho
theorem f12T_ev (n : Nat) (i : Int) (ch : List (List (ByteArray × List (Int × Int × Unit) × Unit))) (nm : List ByteArray) (ho : List (List Int)) : evF C10 f12h n f12f [(D.p (Pt.agg [(L.d (Pv.fz true) (Sh.i IntKind.i64) i), (L.d (Pv.fz false) (Sh.l (Sh.l (Sh.p Sh.s (Sh.p (Sh.l (Sh.p (Sh.i IntKind.i64) (Sh.p (Sh.i IntKind.i64) Sh.u))) Sh.u)))) ch), (L.d (Pv.fz false) (Sh.l Sh.s) nm), (L.d (Pv.fz false) (Sh.l (Sh.l (Sh.i IntKind.i64))) ho)]))] [] = f12T (f12W0 (lp C10 f12h n Lf (codeOf f12f) [1, 1, 1, 0, 1, 0] [] (endK C10 f12h f12f) n)) i ch nm ho := by kernel_rfl
theorem f12_ev (n : Nat) (i : Int) (ch : List (List (ByteArray × List (Int × Int × Unit) × Unit))) (nm : List ByteArray) (ho : List (List Int)) : evF C10 f12h n f12f [(D.p (Pt.agg [(L.d (Pv.fz true) (Sh.i IntKind.i64) i), (L.d (Pv.fz false) (Sh.l (Sh.l (Sh.p Sh.s (Sh.p (Sh.l (Sh.p (Sh.i IntKind.i64) (Sh.p (Sh.i IntKind.i64) Sh.u))) Sh.u)))) ch), (L.d (Pv.fz false) (Sh.l Sh.s) nm), (L.d (Pv.fz false) (Sh.l (Sh.l (Sh.i IntKind.i64))) ho)]))] [] = f12M n i ch nm ho := by
  rw [f12T_ev, f12W0_ev]
  rfl
end Go.S23
