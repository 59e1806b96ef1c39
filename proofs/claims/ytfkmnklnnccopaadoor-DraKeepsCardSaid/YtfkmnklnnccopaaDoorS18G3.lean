/-
  Seat 18: functional forms of Of, Check, Good, Seen, Accepts and of the document's.
-/
import Derived.Test.YtfkmnklnnccopaaDoorS18C
open Go Go.En Go.S18
namespace Go.S18
/-! ### contracts -/
def m6 (n : Nat) : Bool := Nat.ble n 1000000
def ofG (nx : List (List Int)) (ps : List PairV) : Bool := m6 nx.length && (nx.all (fun l => m6 l.length) && (m6 ps.length && ps.all (fun q => Nat.ble q.1.length 17592186044416 && Nat.ble q.2.1.length 17592186044416)))
def roN (nx : List (List Int)) : Ob := .ro true 0 26 (.l (.i .i64)) (.l 3 .z) nx none
def roP (ps : List PairV) : Ob := .ro true 0 63 (.p (.l (.i .i64)) (.p (.l (.i .i64)) .u)) (.p (.l 3 .z) (.p (.l 3 .z) .z)) ps none
def er1 (b : Bool) : Er := bif b then .nil else .no 1
def ofS : En.Spec := ⟨[], fun ds os => match ds, os with
  | [.p (.agg [.d (.fz true) (.i .i64) p, .d (.fz true) (.i .i64) i, .d (.fz false) (.l (.l (.i .i64))) nx, .d (.fz false) (.l (.p (.l (.i .i64)) (.p (.l (.i .i64)) .u))) ps])], [] =>
    .br (ofG nx ps) (.leaf [.agg [.d (.fz true) (.i .i64) p, .d (.fz true) (.i .i64) i, .rw ⟨1, 0⟩, .rw ⟨1, 1⟩]] [] [roN nx, roP ps]) .fail
  | _, _ => .fail⟩
def checkS : En.Spec := ⟨[], fun ds os => match ds, os with
  | [.p (.agg [.d (.fz true) (.i .i64) p, .d (.fz true) (.i .i64) i, .d (.fz false) (.l (.l (.i .i64))) nx, .d (.fz false) (.l (.p (.l (.i .i64)) (.p (.l (.i .i64)) .u))) ps])], [] =>
    .br (drG nx ps) (.leaf [pE (er1 (drOk p i nx ps))] [] []) .fail
  | _, _ => .fail⟩
def rightS : En.Spec := ⟨[], fun ds os => match ds, os with
  | [.p (.agg [.d (.fz true) (.i .i64) p, .d (.fz true) (.i .i64) i, .d (.fz false) (.l (.l (.i .i64))) nx, .d (.fz false) (.l (.p (.l (.i .i64)) (.p (.l (.i .i64)) .u))) ps])], [] =>
    .br (drG nx ps) (.leaf [pB (drOk p i nx ps)] [] []) .fail
  | _, _ => .fail⟩
def goodS : En.Spec := ⟨[], fun ds os => match ds, os with
  | [.p (.agg [.d (.fz true) (.i .i64) p, .d (.fz true) (.i .i64) i, .d (.fz false) (.l (.l (.i .i64))) nx, .d (.fz false) (.l (.p (.l (.i .i64)) (.p (.l (.i .i64)) .u))) ps]), .p (.one (.d (.fz false) (.l (.i .i64)) l))], [] =>
    .br (drG nx ps && big l.length) (.leaf [pI (bif drOk p i nx ps && decide (goodI l ps ≥ 0) then goodI l ps else 0), pB (drOk p i nx ps && decide (goodI l ps ≥ 0))] [] []) .fail
  | _, _ => .fail⟩
def rgoodS : En.Spec := ⟨[], fun ds os => match ds, os with
  | [.p (.agg [.d (.fz true) (.i .i64) _p, .d (.fz true) (.i .i64) _i, .d (.fz false) (.l (.l (.i .i64))) _nx, .d (.fz false) (.l (.p (.l (.i .i64)) (.p (.l (.i .i64)) .u))) ps]), .p (.one (.d (.fz false) (.l (.i .i64)) l))], [] =>
    .br (big ps.length && (ps.all pairG && big l.length)) (.leaf [pI (goodI l ps)] [] []) .fail
  | _, _ => .fail⟩
def seenOk (p i : Int) (nx : List (List Int)) (ps : List PairV) (s l : List Int) : Bool := drOk p i nx ps && wdOk p s l
def seenS : En.Spec := ⟨[], fun ds os => match ds, os with
  | [.p (.agg [.d (.fz true) (.i .i64) p, .d (.fz true) (.i .i64) i, .d (.fz false) (.l (.l (.i .i64))) nx, .d (.fz false) (.l (.p (.l (.i .i64)) (.p (.l (.i .i64)) .u))) ps]), .p (.agg [.d (.fz false) (.l (.i .i64)) s, .d (.fz false) (.l (.i .i64)) l])], [] =>
    .br (drG nx ps && (m6 s.length && m6 l.length)) (.leaf [.one (.rw ⟨1, 0⟩), pE (er1 (seenOk p i nx ps s l))] [] [roI (bif seenOk p i nx ps s l then seenF i nx s l else [])]) .fail
  | _, _ => .fail⟩
def acceptsS : En.Spec := ⟨[], fun ds os => match ds, os with
  | [.p (.agg [.d (.fz true) (.i .i64) p, .d (.fz true) (.i .i64) i, .d (.fz false) (.l (.l (.i .i64))) nx, .d (.fz false) (.l (.p (.l (.i .i64)) (.p (.l (.i .i64)) .u))) ps]), .p (.agg [.d (.fz false) (.l (.i .i64)) s, .d (.fz false) (.l (.i .i64)) l])], [] =>
    .br (drG nx ps && (m6 s.length && m6 l.length)) (.leaf [pB (seenOk p i nx ps s l && decide (goodI (seenF i nx s l) ps ≥ 0)), pE (er1 (seenOk p i nx ps s l))] [] []) .fail
  | _, _ => .fail⟩
def rseenS : En.Spec := ⟨[], fun ds os => match ds, os with
  | [.p (.agg [.d (.fz true) (.i .i64) p, .d (.fz true) (.i .i64) i, .d (.fz false) (.l (.l (.i .i64))) nx, .d (.fz false) (.l (.p (.l (.i .i64)) (.p (.l (.i .i64)) .u))) ps]), .p (.agg [.d (.fz false) (.l (.i .i64)) s, .d (.fz false) (.l (.i .i64)) l])], [] =>
    .br (seenOk p i nx ps s l) (.leaf [.one (.rw ⟨1, 0⟩)] [] [roI (seenF i nx s l)]) .fail
  | _, _ => .fail⟩
/-- an error that isn't at a place -/
def plain : Er → Bool
  | .at .. => false
  | _ => true
def numOf : Er → Int
  | .nil => 0
  | .no n => n
  | .at _ e => numOf e
def numS : En.Spec := ⟨[], fun ds os => match ds with
  | [.p (.one (.d (.fz _) .e v))] => .br (plain v) (.leaf [pI (numOf v)] os []) .fail
  | _ => .fail⟩
def u8 (v : List Int) : Bool := v.all fun x => decide (0 ≤ x) && decide (x ≤ 255)
/-- letters of any numbers -/
def lettersF (z : Int) (v : List Int) : List Int := (v.take 8).map fun x => x.tmod ((2 ^ z.toNat : Nat) : Int)
def loopF (z : Int) (v : List Int) : List Int := match v with
  | [] => [0]
  | v => lettersF z v
def wordS : En.Spec := ⟨[], fun ds os => match ds, os with
  | [.p (.one (.d (.fz false) (.l (.i .u8)) s)), .p (.one (.d (.fz false) (.l (.i .u8)) l)), .p (.one (.d (.fz true) (.i .i64) z))], [] =>
    .br ((decide (0 ≤ z) && decide (z ≤ 6)) && (u8 s && u8 l)) (.leaf [.agg [.rw ⟨1, 0⟩, .rw ⟨1, 1⟩]] [] [roI (lettersF z s), roI (loopF z l)]) .fail
  | _, _ => .fail⟩
noncomputable def l10 : List (Nat × En.Spec) := (13, numS) :: (26, con26S) :: (28, risesS) :: (29, lettersS) :: (30, riseS) :: (32, idx32S) :: (35, hasS) :: (36, concatS) :: (38, letterS) :: []
noncomputable def C10 : Ctx := ctxOf C0 l10
noncomputable def C11 : Ctx := ctxOf C0 ((11, checkS) :: l10)
noncomputable def C12 : Ctx := ctxOf C0 [(14, goodS), (16, seenS)]
def h10 : Hn := ⟨fun | 3 => [1, 2, 3, 4] | 7 => [1, 2, 3, 5] | _ => [], fun | 3 => [⟨3, some 2, 26, .l 3 .z⟩, ⟨3, some 3, 63, .p (.l 3 .z) (.p (.l 3 .z) .z)⟩] | _ => [], fun _ => false⟩
def h11 : Hn := ⟨fun | 5 => [1, 3, 46, 47, 48] | 11 => [3, 66, 67, 68] | _ => [], fun _ => [], fun _ => false⟩
def h12 : Hn := ⟨fun | 5 => [1, 3, 4] | 10 => [1, 3, 4, 5] | 15 => [1, 3, 6] | _ => [], fun _ => [], fun _ => false⟩
def h15 : Hn := ⟨fun | 2 => [1, 2, 5] | 6 => [1, 2, 5, 6, 7, 8] | _ => [], fun _ => [], fun _ => false⟩
def h16 : Hn := ⟨fun | 7 => [2, 3, 8, 51, 52, 53] | 12 => [2, 3, 8, 68, 69] | 14 => [2, 3, 8, 68, 69, 72, 73, 74] | 22 => [2, 3, 8, 13, 14, 15] | 25 => [2, 3, 8, 13, 14, 98, 99, 100] | 32 => [18, 116, 117, 118] | _ => [], fun | 32 => [⟨18, none, 3, .z⟩] | 1000000 => [⟨4, none, 3, .z⟩] | _ => [], fun _ => false⟩
def h18 : Hn := ⟨fun | 5 => [0, 3, 5, 6] | 9 => [0, 3, 5, 6, 7] | 14 => [3, 5, 8] | _ => [], fun _ => [], fun _ => false⟩
def h19 : Hn := ⟨fun | 6 => [2, 3, 5, 6, 7, 8, 9] | 13 => [6, 7, 10, 11] | _ => [], fun | 13 => [⟨10, none, 3, .z⟩] | 1000000 => [⟨4, none, 3, .z⟩] | _ => [], fun _ => false⟩
def h21 : Hn := ⟨fun | 3 => [0, 1, 2, 6, 7, 8] | 7 => [1, 2, 6, 7, 9] | _ => [], fun | 3 => [⟨7, some 0, 3, .z⟩, ⟨7, some 1, 3, .z⟩] | _ => [], fun _ => false⟩
def d8l (v : List Int) : D := one (.d (.fz false) (.l (.i .u8)) v)

abbrev f10h : Hn := h10
noncomputable abbrev f10f : Func := fn 10
abbrev f10G0 := Int → Int → Int → (List (List Int)) → (List (List Int × List Int × Unit)) → Int → Int → Int → Int → (List (List Int)) → (List (List Int × List Int × Unit)) → Option Lf
noncomputable def f10H0 (x0_0 : Int) (x0_1 : Int) (x0_2 : Int) (x0_3 : List (List Int)) (x0_4 : List (List Int × List Int × Unit)) (x0_5 : Int) (x0_6 : Int) (x0_7 : Int) (x0_8 : Int) (x0_9 : List (List Int)) (x0_10 : List (List Int × List Int × Unit)) : St := (St.mk [dead, (D.p (Pt.one (L.pv (Id.mk 1 0) 0))), (D.p (Pt.one (L.pv (Id.mk 1 1) 0))), (D.p (Pt.one (L.pv (Id.mk 1 2) 0))), (D.p (Pt.one (L.d (Pv.fz true) (Sh.i IntKind.i64) x0_0))), dead, dead, dead, dead, dead, dead, dead, dead, dead, dead, dead, dead, dead, dead, dead, dead, dead, dead, dead, dead, dead, dead, dead, dead, dead, dead, dead, dead, dead, dead, dead, dead, dead, dead, dead, dead, dead, dead, dead, dead, dead, dead, dead, dead, dead, dead, dead, dead, dead, dead, dead, dead, dead, dead, dead] [[], [(Ob.va [(L.d (Pv.fz true) (Sh.i IntKind.i64) x0_1), (L.d (Pv.fz true) (Sh.i IntKind.i64) x0_2), (L.d (Pv.fz false) (Sh.l (Sh.l (Sh.i IntKind.i64))) x0_3), (L.d (Pv.fz false) (Sh.l (Sh.p (Sh.l (Sh.i IntKind.i64)) (Sh.p (Sh.l (Sh.i IntKind.i64)) Sh.u))) x0_4)]), (Ob.va [(L.d (Pv.fz true) (Sh.i IntKind.i64) x0_5), (L.d (Pv.fz true) (Sh.i IntKind.i64) x0_6), L.nl, L.nl]), (Ob.va [(L.d (Pv.fz true) (Sh.i IntKind.i64) x0_7), (L.d (Pv.fz true) (Sh.i IntKind.i64) x0_8), (L.rw (Id.mk 1 3)), (L.rw (Id.mk 1 4))]), (Ob.ro true 0 26 (Sh.l (Sh.i IntKind.i64)) (Ow.l 3 Ow.z) x0_9 Option.none), (Ob.ro true 0 63 (Sh.p (Sh.l (Sh.i IntKind.i64)) (Sh.p (Sh.l (Sh.i IntKind.i64)) Sh.u)) (Ow.p (Ow.l 3 Ow.z) (Ow.p (Ow.l 3 Ow.z) Ow.z)) x0_10 Option.none)]])
noncomputable def f10W0 (G : St → Option Lf) : f10G0 := fun x0_0 x0_1 x0_2 x0_3 x0_4 x0_5 x0_6 x0_7 x0_8 x0_9 x0_10 => G (f10H0 x0_0 x0_1 x0_2 x0_3 x0_4 x0_5 x0_6 x0_7 x0_8 x0_9 x0_10)
abbrev f10G1 := Int → Int → Int → (List (List Int)) → (List (List Int × List Int × Unit)) → Int → Int → Int → Int → (List (List Int)) → (List (List Int × List Int × Unit)) → Option Lf
noncomputable def f10H1 (x1_0 : Int) (x1_1 : Int) (x1_2 : Int) (x1_3 : List (List Int)) (x1_4 : List (List Int × List Int × Unit)) (x1_5 : Int) (x1_6 : Int) (x1_7 : Int) (x1_8 : Int) (x1_9 : List (List Int)) (x1_10 : List (List Int × List Int × Unit)) : St := (St.mk [dead, (D.p (Pt.one (L.pv (Id.mk 1 0) 0))), (D.p (Pt.one (L.pv (Id.mk 1 1) 0))), (D.p (Pt.one (L.pv (Id.mk 1 2) 0))), dead, (D.p (Pt.one (L.d (Pv.fz true) (Sh.i IntKind.i64) x1_0))), dead, dead, dead, dead, dead, dead, dead, dead, dead, dead, dead, dead, dead, dead, dead, dead, dead, dead, dead, dead, dead, dead, dead, dead, dead, dead, dead, dead, dead, dead, dead, dead, dead, dead, dead, dead, dead, dead, dead, dead, dead, dead, dead, dead, dead, dead, dead, dead, dead, dead, dead, dead, dead, dead] [[], [(Ob.va [(L.d (Pv.fz true) (Sh.i IntKind.i64) x1_1), (L.d (Pv.fz true) (Sh.i IntKind.i64) x1_2), (L.d (Pv.fz false) (Sh.l (Sh.l (Sh.i IntKind.i64))) x1_3), (L.d (Pv.fz false) (Sh.l (Sh.p (Sh.l (Sh.i IntKind.i64)) (Sh.p (Sh.l (Sh.i IntKind.i64)) Sh.u))) x1_4)]), (Ob.va [(L.d (Pv.fz true) (Sh.i IntKind.i64) x1_5), (L.d (Pv.fz true) (Sh.i IntKind.i64) x1_6), L.nl, L.nl]), (Ob.va [(L.d (Pv.fz true) (Sh.i IntKind.i64) x1_7), (L.d (Pv.fz true) (Sh.i IntKind.i64) x1_8), (L.rw (Id.mk 1 3)), (L.rw (Id.mk 1 4))]), (Ob.ro true 0 26 (Sh.l (Sh.i IntKind.i64)) (Ow.l 3 Ow.z) x1_9 Option.none), (Ob.ro true 0 63 (Sh.p (Sh.l (Sh.i IntKind.i64)) (Sh.p (Sh.l (Sh.i IntKind.i64)) Sh.u)) (Ow.p (Ow.l 3 Ow.z) (Ow.p (Ow.l 3 Ow.z) Ow.z)) x1_10 Option.none)]])
noncomputable def f10W1 (G : St → Option Lf) : f10G1 := fun x1_0 x1_1 x1_2 x1_3 x1_4 x1_5 x1_6 x1_7 x1_8 x1_9 x1_10 => G (f10H1 x1_0 x1_1 x1_2 x1_3 x1_4 x1_5 x1_6 x1_7 x1_8 x1_9 x1_10)
noncomputable def f10S1  (g1 : f10G1) (x1_0 : Int) (x1_1 : Int) (x1_2 : Int) (x1_3 : List (List Int)) (x1_4 : List (List Int × List Int × Unit)) (x1_5 : Int) (x1_6 : Int) (x1_7 : Int) (x1_8 : Int) (x1_9 : List (List Int)) (x1_10 : List (List Int × List Int × Unit)) : Option Lf :=
 bif decide (x1_0 < zn x1_4.length) then
  bif inb x1_0 x1_4.length then
   bif decide ((0 + (x1_4.getD x1_0.toNat ([], [], ())).fst.length) * 8 ≤ 140737488355328) then
    bif inb x1_0 x1_4.length then
     bif decide ((0 + (x1_4.getD x1_0.toNat ([], [], ())).snd.fst.length) * 8 ≤ 140737488355328) then
      bif decide ((x1_10.length + [([] ++ (x1_4.getD x1_0.toNat ([], [], ())).fst, [] ++ (x1_4.getD x1_0.toNat ([], [], ())).snd.fst, ())].length) * 48 ≤ 140737488355328) then
       g1 (IntKind.i64.wrap (x1_0 + 1) : Int) (x1_1 : Int) (x1_2 : Int) (x1_3 : List (List Int)) (x1_4 : List (List Int × List Int × Unit)) (x1_5 : Int) (x1_6 : Int) (x1_7 : Int) (x1_8 : Int) (x1_9 : List (List Int)) (x1_10 ++ [([] ++ (x1_4.getD x1_0.toNat ([], [], ())).fst, [] ++ (x1_4.getD x1_0.toNat ([], [], ())).snd.fst, ())] : List (List Int × List Int × Unit))
      else
       none
     else
      none
    else
     none
   else
    none
  else
   none
 else
  some (Lf.mk [(Pt.agg [(L.d (Pv.fz true) (Sh.i IntKind.i64) (x1_7 : Int)), (L.d (Pv.fz true) (Sh.i IntKind.i64) (x1_8 : Int)), (L.rw (Id.mk 1 0)), (L.rw (Id.mk 1 1))])] [] [(Ob.ro true 0 26 (Sh.l (Sh.i IntKind.i64)) (Ow.l 3 Ow.z) (x1_9 : List (List Int)) Option.none), (Ob.ro true 0 63 (Sh.p (Sh.l (Sh.i IntKind.i64)) (Sh.p (Sh.l (Sh.i IntKind.i64)) Sh.u)) (Ow.p (Ow.l 3 Ow.z) (Ow.p (Ow.l 3 Ow.z) Ow.z)) (x1_10 : List (List Int × List Int × Unit)) Option.none)])
noncomputable def f10L1 (n : Nat)  : Nat → f10G1
  | 0 => fun _ _ _ _ _ _ _ _ _ _ _ => none
  | m + 1 => fun x1_0 x1_1 x1_2 x1_3 x1_4 x1_5 x1_6 x1_7 x1_8 x1_9 x1_10 => f10S1   (f10L1 n  m) x1_0 x1_1 x1_2 x1_3 x1_4 x1_5 x1_6 x1_7 x1_8 x1_9 x1_10
theorem f10S1_ev (n : Nat)  (G : St → Option Lf) (x1_0 : Int) (x1_1 : Int) (x1_2 : Int) (x1_3 : List (List Int)) (x1_4 : List (List Int × List Int × Unit)) (x1_5 : Int) (x1_6 : Int) (x1_7 : Int) (x1_8 : Int) (x1_9 : List (List Int)) (x1_10 : List (List Int × List Int × Unit)) : rnd C10 f10h n Lf (codeOf f10f) [1, 1, 1, 0, 1, 0] [] (endK C10 f10h f10f) G (f10H1 x1_0 x1_1 x1_2 x1_3 x1_4 x1_5 x1_6 x1_7 x1_8 x1_9 x1_10) = f10S1   (f10W1 G) x1_0 x1_1 x1_2 x1_3 x1_4 x1_5 x1_6 x1_7 x1_8 x1_9 x1_10 := by kernel_rfl
theorem f10W1_ev (n : Nat)  : ∀ m, (f10W1 (lp C10 f10h n Lf (codeOf f10f) [1, 1, 1, 0, 1, 0] [] (endK C10 f10h f10f) m)) = f10L1 n  m := by
  intro m
  induction m with
  | zero => funext x1_0 x1_1 x1_2 x1_3 x1_4 x1_5 x1_6 x1_7 x1_8 x1_9 x1_10; exact lp_zero _
  | succ m ih =>
    funext x1_0 x1_1 x1_2 x1_3 x1_4 x1_5 x1_6 x1_7 x1_8 x1_9 x1_10
    show lp C10 f10h n Lf (codeOf f10f) [1, 1, 1, 0, 1, 0] [] (endK C10 f10h f10f) (m + 1) (f10H1 x1_0 x1_1 x1_2 x1_3 x1_4 x1_5 x1_6 x1_7 x1_8 x1_9 x1_10) = f10S1   (f10L1 n  m) x1_0 x1_1 x1_2 x1_3 x1_4 x1_5 x1_6 x1_7 x1_8 x1_9 x1_10
    rw [lp_succ, f10S1_ev, ih]
noncomputable def f10S0 (l1 : f10G1) (g0 : f10G0) (x0_0 : Int) (x0_1 : Int) (x0_2 : Int) (x0_3 : List (List Int)) (x0_4 : List (List Int × List Int × Unit)) (x0_5 : Int) (x0_6 : Int) (x0_7 : Int) (x0_8 : Int) (x0_9 : List (List Int)) (x0_10 : List (List Int × List Int × Unit)) : Option Lf :=
 bif decide (x0_0 < zn x0_3.length) then
  bif inb x0_0 x0_3.length then
   bif decide ((0 + (x0_3.getD x0_0.toNat []).length) * 8 ≤ 140737488355328) then
    bif decide ((x0_9.length + [[] ++ x0_3.getD x0_0.toNat []].length) * 24 ≤ 140737488355328) then
     g0 (IntKind.i64.wrap (x0_0 + 1) : Int) (x0_1 : Int) (x0_2 : Int) (x0_3 : List (List Int)) (x0_4 : List (List Int × List Int × Unit)) (x0_5 : Int) (x0_6 : Int) (x0_7 : Int) (x0_8 : Int) (x0_9 ++ [[] ++ x0_3.getD x0_0.toNat []] : List (List Int)) (x0_10 : List (List Int × List Int × Unit))
    else
     none
   else
    none
  else
   none
 else
  l1 (0 : Int) (x0_1 : Int) (x0_2 : Int) (x0_3 : List (List Int)) (x0_4 : List (List Int × List Int × Unit)) (x0_5 : Int) (x0_6 : Int) (x0_7 : Int) (x0_8 : Int) (x0_9 : List (List Int)) (x0_10 : List (List Int × List Int × Unit))
noncomputable def f10L0 (n : Nat)  : Nat → f10G0
  | 0 => fun _ _ _ _ _ _ _ _ _ _ _ => none
  | m + 1 => fun x0_0 x0_1 x0_2 x0_3 x0_4 x0_5 x0_6 x0_7 x0_8 x0_9 x0_10 => f10S0 (f10L1 n  n)  (f10L0 n  m) x0_0 x0_1 x0_2 x0_3 x0_4 x0_5 x0_6 x0_7 x0_8 x0_9 x0_10
theorem f10S0_ev (n : Nat)  (G : St → Option Lf) (x0_0 : Int) (x0_1 : Int) (x0_2 : Int) (x0_3 : List (List Int)) (x0_4 : List (List Int × List Int × Unit)) (x0_5 : Int) (x0_6 : Int) (x0_7 : Int) (x0_8 : Int) (x0_9 : List (List Int)) (x0_10 : List (List Int × List Int × Unit)) : rnd C10 f10h n Lf (codeOf f10f) [1, 1, 0, 1, 0] [] (endK C10 f10h f10f) G (f10H0 x0_0 x0_1 x0_2 x0_3 x0_4 x0_5 x0_6 x0_7 x0_8 x0_9 x0_10) = f10S0 (f10W1 (lp C10 f10h n Lf (codeOf f10f) [1, 1, 1, 0, 1, 0] [] (endK C10 f10h f10f) n))  (f10W0 G) x0_0 x0_1 x0_2 x0_3 x0_4 x0_5 x0_6 x0_7 x0_8 x0_9 x0_10 := by kernel_rfl
theorem f10W0_ev (n : Nat)  : ∀ m, (f10W0 (lp C10 f10h n Lf (codeOf f10f) [1, 1, 0, 1, 0] [] (endK C10 f10h f10f) m)) = f10L0 n  m := by
  intro m
  induction m with
  | zero => funext x0_0 x0_1 x0_2 x0_3 x0_4 x0_5 x0_6 x0_7 x0_8 x0_9 x0_10; exact lp_zero _
  | succ m ih =>
    have e1 : (f10W1 (lp C10 f10h n Lf (codeOf f10f) [1, 1, 1, 0, 1, 0] [] (endK C10 f10h f10f) n)) = (f10L1 n  n) := by
      rw [f10W1_ev]
    funext x0_0 x0_1 x0_2 x0_3 x0_4 x0_5 x0_6 x0_7 x0_8 x0_9 x0_10
    show lp C10 f10h n Lf (codeOf f10f) [1, 1, 0, 1, 0] [] (endK C10 f10h f10f) (m + 1) (f10H0 x0_0 x0_1 x0_2 x0_3 x0_4 x0_5 x0_6 x0_7 x0_8 x0_9 x0_10) = f10S0 (f10L1 n  n)  (f10L0 n  m) x0_0 x0_1 x0_2 x0_3 x0_4 x0_5 x0_6 x0_7 x0_8 x0_9 x0_10
    rw [lp_succ, f10S0_ev, ih, e1]
noncomputable def f10T (l0 : f10G0) (p : Int) (i : Int) (nx : List (List Int)) (ps : List (List Int × List Int × Unit)) : Option Lf :=
 l0 (0 : Int) (p : Int) (i : Int) (nx : List (List Int)) (ps : List (List Int × List Int × Unit)) (0 : Int) (0 : Int) (p : Int) (i : Int) ([] : List (List Int)) ([] : List (List Int × List Int × Unit))
noncomputable def f10M (n : Nat) (p : Int) (i : Int) (nx : List (List Int)) (ps : List (List Int × List Int × Unit)) : Option Lf := f10T (f10L0 n n) p i nx ps
theorem f10T_ev (n : Nat) (p : Int) (i : Int) (nx : List (List Int)) (ps : List (List Int × List Int × Unit)) : evF C10 f10h n f10f [(D.p (Pt.agg [(L.d (Pv.fz true) (Sh.i IntKind.i64) p), (L.d (Pv.fz true) (Sh.i IntKind.i64) i), (L.d (Pv.fz false) (Sh.l (Sh.l (Sh.i IntKind.i64))) nx), (L.d (Pv.fz false) (Sh.l (Sh.p (Sh.l (Sh.i IntKind.i64)) (Sh.p (Sh.l (Sh.i IntKind.i64)) Sh.u))) ps)]))] [] = f10T (f10W0 (lp C10 f10h n Lf (codeOf f10f) [1, 1, 0, 1, 0] [] (endK C10 f10h f10f) n)) p i nx ps := by kernel_rfl
theorem f10_ev (n : Nat) (p : Int) (i : Int) (nx : List (List Int)) (ps : List (List Int × List Int × Unit)) : evF C10 f10h n f10f [(D.p (Pt.agg [(L.d (Pv.fz true) (Sh.i IntKind.i64) p), (L.d (Pv.fz true) (Sh.i IntKind.i64) i), (L.d (Pv.fz false) (Sh.l (Sh.l (Sh.i IntKind.i64))) nx), (L.d (Pv.fz false) (Sh.l (Sh.p (Sh.l (Sh.i IntKind.i64)) (Sh.p (Sh.l (Sh.i IntKind.i64)) Sh.u))) ps)]))] [] = f10M n p i nx ps := by
  rw [f10T_ev, f10W0_ev]
  rfl

abbrev f11h : Hn := h11
noncomputable abbrev f11f : Func := fn 11
abbrev f11G0 := (List (List Int)) → Int → Int → Int → Int → (List (List Int)) → (List (List Int × List Int × Unit)) → Int → Option Lf
noncomputable def f11H0 (x0_0 : List (List Int)) (x0_1 : Int) (x0_2 : Int) (x0_3 : Int) (x0_4 : Int) (x0_5 : List (List Int)) (x0_6 : List (List Int × List Int × Unit)) (x0_7 : Int) : St := (St.mk [dead, (D.p (Pt.one (L.pv (Id.mk 1 0) 0))), dead, (D.p (Pt.one (L.pv (Id.mk 1 1) 0))), dead, dead, dead, dead, dead, dead, dead, dead, dead, dead, dead, dead, dead, dead, dead, dead, dead, dead, dead, dead, dead, dead, dead, dead, dead, dead, dead, dead, dead, dead, dead, dead, dead, dead, dead, dead, dead, dead, dead, dead, dead, dead, (D.p (Pt.one (L.d (Pv.fz false) (Sh.l (Sh.l (Sh.i IntKind.i64))) x0_0))), (D.p (Pt.one (L.d (Pv.fz true) (Sh.i IntKind.i64) x0_1))), (D.p (Pt.one (L.d (Pv.fz true) (Sh.i IntKind.i64) x0_2))), dead, dead, dead, dead, dead, dead, dead, dead, dead, dead, dead, dead, dead, dead, dead, dead, dead, dead, dead, dead, dead, dead, dead, dead, dead, dead, dead, dead, dead, dead, dead, dead, dead, dead, dead, dead, dead] [[], [(Ob.va [(L.d (Pv.fz true) (Sh.i IntKind.i64) x0_3), (L.d (Pv.fz true) (Sh.i IntKind.i64) x0_4), (L.d (Pv.fz false) (Sh.l (Sh.l (Sh.i IntKind.i64))) x0_5), (L.d (Pv.fz false) (Sh.l (Sh.p (Sh.l (Sh.i IntKind.i64)) (Sh.p (Sh.l (Sh.i IntKind.i64)) Sh.u))) x0_6)]), (Ob.va [(L.d (Pv.fz true) (Sh.i IntKind.i64) x0_7)])]])
noncomputable def f11W0 (G : St → Option Lf) : f11G0 := fun x0_0 x0_1 x0_2 x0_3 x0_4 x0_5 x0_6 x0_7 => G (f11H0 x0_0 x0_1 x0_2 x0_3 x0_4 x0_5 x0_6 x0_7)
abbrev f11G1 := (List (List Int × List Int × Unit)) → Int → Int → Int → Option Lf
noncomputable def f11H1 (x1_0 : List (List Int × List Int × Unit)) (x1_1 : Int) (x1_2 : Int) (x1_3 : Int) : St := (St.mk [dead, dead, dead, (D.p (Pt.one (L.pv (Id.mk 1 0) 0))), dead, dead, dead, dead, dead, dead, dead, dead, dead, dead, dead, dead, dead, dead, dead, dead, dead, dead, dead, dead, dead, dead, dead, dead, dead, dead, dead, dead, dead, dead, dead, dead, dead, dead, dead, dead, dead, dead, dead, dead, dead, dead, dead, dead, dead, dead, dead, dead, dead, dead, dead, dead, dead, dead, dead, dead, dead, dead, dead, dead, dead, dead, (D.p (Pt.one (L.d (Pv.fz false) (Sh.l (Sh.p (Sh.l (Sh.i IntKind.i64)) (Sh.p (Sh.l (Sh.i IntKind.i64)) Sh.u))) x1_0))), (D.p (Pt.one (L.d (Pv.fz true) (Sh.i IntKind.i64) x1_1))), (D.p (Pt.one (L.d (Pv.fz true) (Sh.i IntKind.i64) x1_2))), dead, dead, dead, dead, dead, dead, dead, dead, dead, dead, dead, dead, dead, dead, dead, dead, dead] [[], [(Ob.va [(L.d (Pv.fz true) (Sh.i IntKind.i64) x1_3)])]])
noncomputable def f11W1 (G : St → Option Lf) : f11G1 := fun x1_0 x1_1 x1_2 x1_3 => G (f11H1 x1_0 x1_1 x1_2 x1_3)
noncomputable def f11S1  (g1 : f11G1) (x1_0 : List (List Int × List Int × Unit)) (x1_1 : Int) (x1_2 : Int) (x1_3 : Int) : Option Lf :=
 bif decide (x1_2 < x1_1) then
  bif inb x1_2 x1_0.length then
   bif Nat.beq 1 1 && (Nat.beq 1 1 && (big (x1_0.getD x1_2.toNat ([], [], ())).fst.length && (!riseF x1_3 (-1) (x1_0.getD x1_2.toNat ([], [], ())).fst || Nat.beq 1 1 && (Nat.beq 1 1 && (big (x1_0.getD x1_2.toNat ([], [], ())).snd.fst.length && true))))) then
    bif !riseF x1_3 (-1) (x1_0.getD x1_2.toNat ([], [], ())).fst || !riseF x1_3 (-1) (x1_0.getD x1_2.toNat ([], [], ())).snd.fst then
     some (Lf.mk [(Pt.one (L.d (Pv.fz true) Sh.e (Er.no 1 : Er)))] [] [])
    else
     g1 (x1_0 : List (List Int × List Int × Unit)) (x1_1 : Int) (IntKind.i64.wrap (x1_2 + 1) : Int) (x1_3 : Int)
   else
    none
  else
   none
 else
  some (Lf.mk [(Pt.one (L.d (Pv.fz true) Sh.e (Er.nil : Er)))] [] [])
noncomputable def f11L1 (n : Nat)  : Nat → f11G1
  | 0 => fun _ _ _ _ => none
  | m + 1 => fun x1_0 x1_1 x1_2 x1_3 => f11S1   (f11L1 n  m) x1_0 x1_1 x1_2 x1_3
theorem f11S1_ev (n : Nat)  (G : St → Option Lf) (x1_0 : List (List Int × List Int × Unit)) (x1_1 : Int) (x1_2 : Int) (x1_3 : Int) : rnd C10 f11h n Lf (codeOf f11f) [1, 1, 1, 1, 0, 1, 0] [] (endK C10 f11h f11f) G (f11H1 x1_0 x1_1 x1_2 x1_3) = f11S1   (f11W1 G) x1_0 x1_1 x1_2 x1_3 := by kernel_rfl
theorem f11W1_ev (n : Nat)  : ∀ m, (f11W1 (lp C10 f11h n Lf (codeOf f11f) [1, 1, 1, 1, 0, 1, 0] [] (endK C10 f11h f11f) m)) = f11L1 n  m := by
  intro m
  induction m with
  | zero => funext x1_0 x1_1 x1_2 x1_3; exact lp_zero _
  | succ m ih =>
    funext x1_0 x1_1 x1_2 x1_3
    show lp C10 f11h n Lf (codeOf f11f) [1, 1, 1, 1, 0, 1, 0] [] (endK C10 f11h f11f) (m + 1) (f11H1 x1_0 x1_1 x1_2 x1_3) = f11S1   (f11L1 n  m) x1_0 x1_1 x1_2 x1_3
    rw [lp_succ, f11S1_ev, ih]
noncomputable def f11S0 (l1 : f11G1) (g0 : f11G0) (x0_0 : List (List Int)) (x0_1 : Int) (x0_2 : Int) (x0_3 : Int) (x0_4 : Int) (x0_5 : List (List Int)) (x0_6 : List (List Int × List Int × Unit)) (x0_7 : Int) : Option Lf :=
 bif decide (x0_2 < x0_1) then
  bif inb x0_2 x0_0.length then
   bif decide (0 ≤ x0_3) then
    bif zn (x0_0.getD x0_2.toNat []).length != shlF IntKind.i64 1 x0_3 then
     some (Lf.mk [(Pt.one (L.d (Pv.fz true) Sh.e (Er.no 1 : Er)))] [] [])
    else
     bif big (x0_0.getD x0_2.toNat []).length then
      bif (x0_0.getD x0_2.toNat []).any (nin x0_7) then
       some (Lf.mk [(Pt.one (L.d (Pv.fz true) Sh.e (Er.no 1 : Er)))] [] [])
      else
       g0 (x0_0 : List (List Int)) (x0_1 : Int) (IntKind.i64.wrap (x0_2 + 1) : Int) (x0_3 : Int) (x0_4 : Int) (x0_5 : List (List Int)) (x0_6 : List (List Int × List Int × Unit)) (x0_7 : Int)
     else
      none
   else
    none
  else
   none
 else
  l1 (x0_6 : List (List Int × List Int × Unit)) (zn x0_6.length : Int) (0 : Int) (x0_7 : Int)
noncomputable def f11L0 (n : Nat)  : Nat → f11G0
  | 0 => fun _ _ _ _ _ _ _ _ => none
  | m + 1 => fun x0_0 x0_1 x0_2 x0_3 x0_4 x0_5 x0_6 x0_7 => f11S0 (f11L1 n  n)  (f11L0 n  m) x0_0 x0_1 x0_2 x0_3 x0_4 x0_5 x0_6 x0_7
theorem f11S0_ev (n : Nat)  (G : St → Option Lf) (x0_0 : List (List Int)) (x0_1 : Int) (x0_2 : Int) (x0_3 : Int) (x0_4 : Int) (x0_5 : List (List Int)) (x0_6 : List (List Int × List Int × Unit)) (x0_7 : Int) : rnd C10 f11h n Lf (codeOf f11f) [1, 1, 1, 0, 1, 0] [] (endK C10 f11h f11f) G (f11H0 x0_0 x0_1 x0_2 x0_3 x0_4 x0_5 x0_6 x0_7) = f11S0 (f11W1 (lp C10 f11h n Lf (codeOf f11f) [1, 1, 1, 1, 0, 1, 0] [] (endK C10 f11h f11f) n))  (f11W0 G) x0_0 x0_1 x0_2 x0_3 x0_4 x0_5 x0_6 x0_7 := by kernel_rfl
theorem f11W0_ev (n : Nat)  : ∀ m, (f11W0 (lp C10 f11h n Lf (codeOf f11f) [1, 1, 1, 0, 1, 0] [] (endK C10 f11h f11f) m)) = f11L0 n  m := by
  intro m
  induction m with
  | zero => funext x0_0 x0_1 x0_2 x0_3 x0_4 x0_5 x0_6 x0_7; exact lp_zero _
  | succ m ih =>
    have e1 : (f11W1 (lp C10 f11h n Lf (codeOf f11f) [1, 1, 1, 1, 0, 1, 0] [] (endK C10 f11h f11f) n)) = (f11L1 n  n) := by
      rw [f11W1_ev]
    funext x0_0 x0_1 x0_2 x0_3 x0_4 x0_5 x0_6 x0_7
    show lp C10 f11h n Lf (codeOf f11f) [1, 1, 1, 0, 1, 0] [] (endK C10 f11h f11f) (m + 1) (f11H0 x0_0 x0_1 x0_2 x0_3 x0_4 x0_5 x0_6 x0_7) = f11S0 (f11L1 n  n)  (f11L0 n  m) x0_0 x0_1 x0_2 x0_3 x0_4 x0_5 x0_6 x0_7
    rw [lp_succ, f11S0_ev, ih, e1]
noncomputable def f11T (l0 : f11G0) (p : Int) (i : Int) (nx : List (List Int)) (ps : List (List Int × List Int × Unit)) : Option Lf :=
 bif Nat.beq 1 1 && (decide (p < 0) || Nat.beq 1 1 && (decide (p > 6) || Nat.beq 1 1 && (decide (zn nx.length < 1) || Nat.beq 1 1 && (decide (zn nx.length > 4096) || Nat.beq 1 1 && (decide (i < 0) || Nat.beq 1 1 && (Nat.beq 1 1 && (decide (i ≥ zn nx.length) || true))))))) then
  bif decide (p < 0) || (decide (p > 6) || (decide (zn nx.length < 1) || (decide (zn nx.length > 4096) || (decide (i < 0) || (decide (i ≥ zn nx.length) || decide (zn ps.length > 4096)))))) then
   some (Lf.mk [(Pt.one (L.d (Pv.fz true) Sh.e (Er.no 1 : Er)))] [] [])
  else
   l0 (nx : List (List Int)) (zn nx.length : Int) (0 : Int) (p : Int) (i : Int) (nx : List (List Int)) (ps : List (List Int × List Int × Unit)) (zn nx.length : Int)
 else
  none
noncomputable def f11M (n : Nat) (p : Int) (i : Int) (nx : List (List Int)) (ps : List (List Int × List Int × Unit)) : Option Lf := f11T (f11L0 n n) p i nx ps
theorem f11T_ev (n : Nat) (p : Int) (i : Int) (nx : List (List Int)) (ps : List (List Int × List Int × Unit)) : evF C10 f11h n f11f [(D.p (Pt.agg [(L.d (Pv.fz true) (Sh.i IntKind.i64) p), (L.d (Pv.fz true) (Sh.i IntKind.i64) i), (L.d (Pv.fz false) (Sh.l (Sh.l (Sh.i IntKind.i64))) nx), (L.d (Pv.fz false) (Sh.l (Sh.p (Sh.l (Sh.i IntKind.i64)) (Sh.p (Sh.l (Sh.i IntKind.i64)) Sh.u))) ps)]))] [] = f11T (f11W0 (lp C10 f11h n Lf (codeOf f11f) [1, 1, 1, 0, 1, 0] [] (endK C10 f11h f11f) n)) p i nx ps := by kernel_rfl
theorem f11_ev (n : Nat) (p : Int) (i : Int) (nx : List (List Int)) (ps : List (List Int × List Int × Unit)) : evF C10 f11h n f11f [(D.p (Pt.agg [(L.d (Pv.fz true) (Sh.i IntKind.i64) p), (L.d (Pv.fz true) (Sh.i IntKind.i64) i), (L.d (Pv.fz false) (Sh.l (Sh.l (Sh.i IntKind.i64))) nx), (L.d (Pv.fz false) (Sh.l (Sh.p (Sh.l (Sh.i IntKind.i64)) (Sh.p (Sh.l (Sh.i IntKind.i64)) Sh.u))) ps)]))] [] = f11M n p i nx ps := by
  rw [f11T_ev, f11W0_ev]
  rfl

abbrev f12h : Hn := h12
noncomputable abbrev f12f : Func := fn 12
abbrev f12G0 := Int → Int → Int → Int → (List (List Int)) → (List (List Int × List Int × Unit)) → Option Lf
noncomputable def f12H0 (x0_0 : Int) (x0_1 : Int) (x0_2 : Int) (x0_3 : Int) (x0_4 : List (List Int)) (x0_5 : List (List Int × List Int × Unit)) : St := (St.mk [dead, (D.p (Pt.one (L.pv (Id.mk 1 0) 0))), dead, (D.p (Pt.one (L.d (Pv.fz true) (Sh.i IntKind.i64) x0_0))), (D.p (Pt.one (L.d (Pv.fz true) (Sh.i IntKind.i64) x0_1))), dead, dead, dead, dead, dead, dead, dead, dead, dead, dead, dead, dead, dead, dead, dead, dead, dead, dead, dead, dead, dead, dead, dead, dead, dead, dead, dead, dead, dead, dead, dead, dead, dead, dead, dead, dead, dead, dead, dead, dead, dead, dead, dead, dead, dead, dead, dead, dead, dead, dead, dead, dead, dead, dead, dead, dead, dead, dead, dead, dead, dead, dead, dead, dead, dead, dead, dead, dead, dead, dead, dead, dead, dead, dead, dead, dead, dead, dead, dead, dead, dead, dead, dead, dead, dead, dead, dead, dead, dead, dead, dead, dead, dead, dead, dead, dead, dead, dead, dead, dead, dead, dead, dead, dead, dead, dead, dead, dead, dead, dead, dead] [[], [(Ob.va [(L.d (Pv.fz true) (Sh.i IntKind.i64) x0_2), (L.d (Pv.fz true) (Sh.i IntKind.i64) x0_3), (L.d (Pv.fz false) (Sh.l (Sh.l (Sh.i IntKind.i64))) x0_4), (L.d (Pv.fz false) (Sh.l (Sh.p (Sh.l (Sh.i IntKind.i64)) (Sh.p (Sh.l (Sh.i IntKind.i64)) Sh.u))) x0_5)])]])
noncomputable def f12W0 (G : St → Option Lf) : f12G0 := fun x0_0 x0_1 x0_2 x0_3 x0_4 x0_5 => G (f12H0 x0_0 x0_1 x0_2 x0_3 x0_4 x0_5)
abbrev f12G1 := Int → Int → Int → Int → Int → (List (List Int)) → (List (List Int × List Int × Unit)) → Option Lf
noncomputable def f12H1 (x1_0 : Int) (x1_1 : Int) (x1_2 : Int) (x1_3 : Int) (x1_4 : Int) (x1_5 : List (List Int)) (x1_6 : List (List Int × List Int × Unit)) : St := (St.mk [dead, (D.p (Pt.one (L.pv (Id.mk 1 0) 0))), dead, (D.p (Pt.one (L.d (Pv.fz true) (Sh.i IntKind.i64) x1_0))), (D.p (Pt.one (L.d (Pv.fz true) (Sh.i IntKind.i64) x1_1))), (D.p (Pt.one (L.d (Pv.fz true) (Sh.i IntKind.i64) x1_2))), dead, dead, dead, dead, dead, dead, dead, dead, dead, dead, dead, dead, dead, dead, dead, dead, dead, dead, dead, dead, dead, dead, dead, dead, dead, dead, dead, dead, dead, dead, dead, dead, dead, dead, dead, dead, dead, dead, dead, dead, dead, dead, dead, dead, dead, dead, dead, dead, dead, dead, dead, dead, dead, dead, dead, dead, dead, dead, dead, dead, dead, dead, dead, dead, dead, dead, dead, dead, dead, dead, dead, dead, dead, dead, dead, dead, dead, dead, dead, dead, dead, dead, dead, dead, dead, dead, dead, dead, dead, dead, dead, dead, dead, dead, dead, dead, dead, dead, dead, dead, dead, dead, dead, dead, dead, dead, dead, dead, dead, dead] [[], [(Ob.va [(L.d (Pv.fz true) (Sh.i IntKind.i64) x1_3), (L.d (Pv.fz true) (Sh.i IntKind.i64) x1_4), (L.d (Pv.fz false) (Sh.l (Sh.l (Sh.i IntKind.i64))) x1_5), (L.d (Pv.fz false) (Sh.l (Sh.p (Sh.l (Sh.i IntKind.i64)) (Sh.p (Sh.l (Sh.i IntKind.i64)) Sh.u))) x1_6)])]])
noncomputable def f12W1 (G : St → Option Lf) : f12G1 := fun x1_0 x1_1 x1_2 x1_3 x1_4 x1_5 x1_6 => G (f12H1 x1_0 x1_1 x1_2 x1_3 x1_4 x1_5 x1_6)
noncomputable def f12S1  (g0 : f12G0) (g1 : f12G1) (x1_0 : Int) (x1_1 : Int) (x1_2 : Int) (x1_3 : Int) (x1_4 : Int) (x1_5 : List (List Int)) (x1_6 : List (List Int × List Int × Unit)) : Option Lf :=
 bif inb x1_1 x1_5.length then
  bif decide (x1_2 < zn (x1_5.getD x1_1.toNat []).length) then
   bif Nat.beq 1 1 && (Nat.beq 1 1 && (inb x1_1 x1_5.length && (Nat.beq 1 1 && (Nat.beq 1 1 && (inb x1_2 (x1_5.getD x1_1.toNat []).length && (Nat.beq 1 1 && (decide ((x1_5.getD x1_1.toNat []).getD x1_2.toNat 0 < 0) || Nat.beq 1 1 && (Nat.beq 1 1 && (inb x1_1 x1_5.length && (Nat.beq 1 1 && (Nat.beq 1 1 && (inb x1_2 (x1_5.getD x1_1.toNat []).length && true)))))))))))) then
    bif decide ((x1_5.getD x1_1.toNat []).getD x1_2.toNat 0 < 0) || decide ((x1_5.getD x1_1.toNat []).getD x1_2.toNat 0 ≥ x1_0) then
     some (Lf.mk [(Pt.one (L.d (Pv.fz true) Sh.b (false : Bool)))] [] [])
    else
     g1 (x1_0 : Int) (x1_1 : Int) (IntKind.i64.wrap (x1_2 + 1) : Int) (x1_3 : Int) (x1_4 : Int) (x1_5 : List (List Int)) (x1_6 : List (List Int × List Int × Unit))
   else
    none
  else
   g0 (x1_0 : Int) (IntKind.i64.wrap (x1_1 + 1) : Int) (x1_3 : Int) (x1_4 : Int) (x1_5 : List (List Int)) (x1_6 : List (List Int × List Int × Unit))
 else
  none
noncomputable def f12L1 (n : Nat) (g0 : f12G0) : Nat → f12G1
  | 0 => fun _ _ _ _ _ _ _ => none
  | m + 1 => fun x1_0 x1_1 x1_2 x1_3 x1_4 x1_5 x1_6 => f12S1  g0 (f12L1 n g0 m) x1_0 x1_1 x1_2 x1_3 x1_4 x1_5 x1_6
theorem f12S1_ev (n : Nat) (G0 : St → Option Lf) (G : St → Option Lf) (x1_0 : Int) (x1_1 : Int) (x1_2 : Int) (x1_3 : Int) (x1_4 : Int) (x1_5 : List (List Int)) (x1_6 : List (List Int × List Int × Unit)) : rnd C10 f12h n Lf (codeOf f12f) [1, 1, 1, 0, 1, 0, 0, 1, 0, 0, 1, 1, 0] [G0] (endK C10 f12h f12f) G (f12H1 x1_0 x1_1 x1_2 x1_3 x1_4 x1_5 x1_6) = f12S1  (f12W0 G0) (f12W1 G) x1_0 x1_1 x1_2 x1_3 x1_4 x1_5 x1_6 := by kernel_rfl
theorem f12W1_ev (n : Nat) (G0 : St → Option Lf) : ∀ m, (f12W1 (lp C10 f12h n Lf (codeOf f12f) [1, 1, 1, 0, 1, 0, 0, 1, 0, 0, 1, 1, 0] [G0] (endK C10 f12h f12f) m)) = f12L1 n (f12W0 G0) m := by
  intro m
  induction m with
  | zero => funext x1_0 x1_1 x1_2 x1_3 x1_4 x1_5 x1_6; exact lp_zero _
  | succ m ih =>
    funext x1_0 x1_1 x1_2 x1_3 x1_4 x1_5 x1_6
    show lp C10 f12h n Lf (codeOf f12f) [1, 1, 1, 0, 1, 0, 0, 1, 0, 0, 1, 1, 0] [G0] (endK C10 f12h f12f) (m + 1) (f12H1 x1_0 x1_1 x1_2 x1_3 x1_4 x1_5 x1_6) = f12S1  (f12W0 G0) (f12L1 n (f12W0 G0) m) x1_0 x1_1 x1_2 x1_3 x1_4 x1_5 x1_6
    rw [lp_succ, f12S1_ev, ih]
abbrev f12G2 := Int → Int → Int → Int → (List (List Int)) → (List (List Int × List Int × Unit)) → Option Lf
noncomputable def f12H2 (x2_0 : Int) (x2_1 : Int) (x2_2 : Int) (x2_3 : Int) (x2_4 : List (List Int)) (x2_5 : List (List Int × List Int × Unit)) : St := (St.mk [dead, (D.p (Pt.one (L.pv (Id.mk 1 0) 0))), dead, (D.p (Pt.one (L.d (Pv.fz true) (Sh.i IntKind.i64) x2_0))), dead, dead, (D.p (Pt.one (L.d (Pv.fz true) (Sh.i IntKind.i64) x2_1))), dead, dead, dead, dead, dead, dead, dead, dead, dead, dead, dead, dead, dead, dead, dead, dead, dead, dead, dead, dead, dead, dead, dead, dead, dead, dead, dead, dead, dead, dead, dead, dead, dead, dead, dead, dead, dead, dead, dead, dead, dead, dead, dead, dead, dead, dead, dead, dead, dead, dead, dead, dead, dead, dead, dead, dead, dead, dead, dead, dead, dead, dead, dead, dead, dead, dead, dead, dead, dead, dead, dead, dead, dead, dead, dead, dead, dead, dead, dead, dead, dead, dead, dead, dead, dead, dead, dead, dead, dead, dead, dead, dead, dead, dead, dead, dead, dead, dead, dead, dead, dead, dead, dead, dead, dead, dead, dead, dead, dead] [[], [(Ob.va [(L.d (Pv.fz true) (Sh.i IntKind.i64) x2_2), (L.d (Pv.fz true) (Sh.i IntKind.i64) x2_3), (L.d (Pv.fz false) (Sh.l (Sh.l (Sh.i IntKind.i64))) x2_4), (L.d (Pv.fz false) (Sh.l (Sh.p (Sh.l (Sh.i IntKind.i64)) (Sh.p (Sh.l (Sh.i IntKind.i64)) Sh.u))) x2_5)])]])
noncomputable def f12W2 (G : St → Option Lf) : f12G2 := fun x2_0 x2_1 x2_2 x2_3 x2_4 x2_5 => G (f12H2 x2_0 x2_1 x2_2 x2_3 x2_4 x2_5)
noncomputable def f12S2  (g2 : f12G2) (x2_0 : Int) (x2_1 : Int) (x2_2 : Int) (x2_3 : Int) (x2_4 : List (List Int)) (x2_5 : List (List Int × List Int × Unit)) : Option Lf :=
 bif decide (x2_1 < zn x2_5.length) then
  bif Nat.beq 1 1 && (Nat.beq 2 2 && (inb x2_1 x2_5.length && (Nat.beq 1 1 && (big (x2_5.getD x2_1.toNat ([], [], ())).fst.length && (!riseF x2_0 (-1) (x2_5.getD x2_1.toNat ([], [], ())).fst || Nat.beq 1 1 && (Nat.beq 2 2 && (inb x2_1 x2_5.length && (Nat.beq 1 1 && (big (x2_5.getD x2_1.toNat ([], [], ())).snd.fst.length && true))))))))) then
   bif !riseF x2_0 (-1) (x2_5.getD x2_1.toNat ([], [], ())).fst || !riseF x2_0 (-1) (x2_5.getD x2_1.toNat ([], [], ())).snd.fst then
    some (Lf.mk [(Pt.one (L.d (Pv.fz true) Sh.b (false : Bool)))] [] [])
   else
    g2 (x2_0 : Int) (IntKind.i64.wrap (x2_1 + 1) : Int) (x2_2 : Int) (x2_3 : Int) (x2_4 : List (List Int)) (x2_5 : List (List Int × List Int × Unit))
  else
   none
 else
  some (Lf.mk [(Pt.one (L.d (Pv.fz true) Sh.b (true : Bool)))] [] [])
noncomputable def f12L2 (n : Nat)  : Nat → f12G2
  | 0 => fun _ _ _ _ _ _ => none
  | m + 1 => fun x2_0 x2_1 x2_2 x2_3 x2_4 x2_5 => f12S2   (f12L2 n  m) x2_0 x2_1 x2_2 x2_3 x2_4 x2_5
theorem f12S2_ev (n : Nat)  (G : St → Option Lf) (x2_0 : Int) (x2_1 : Int) (x2_2 : Int) (x2_3 : Int) (x2_4 : List (List Int)) (x2_5 : List (List Int × List Int × Unit)) : rnd C10 f12h n Lf (codeOf f12f) [1, 1, 1, 1, 0, 1, 0] [] (endK C10 f12h f12f) G (f12H2 x2_0 x2_1 x2_2 x2_3 x2_4 x2_5) = f12S2   (f12W2 G) x2_0 x2_1 x2_2 x2_3 x2_4 x2_5 := by kernel_rfl
theorem f12W2_ev (n : Nat)  : ∀ m, (f12W2 (lp C10 f12h n Lf (codeOf f12f) [1, 1, 1, 1, 0, 1, 0] [] (endK C10 f12h f12f) m)) = f12L2 n  m := by
  intro m
  induction m with
  | zero => funext x2_0 x2_1 x2_2 x2_3 x2_4 x2_5; exact lp_zero _
  | succ m ih =>
    funext x2_0 x2_1 x2_2 x2_3 x2_4 x2_5
    show lp C10 f12h n Lf (codeOf f12f) [1, 1, 1, 1, 0, 1, 0] [] (endK C10 f12h f12f) (m + 1) (f12H2 x2_0 x2_1 x2_2 x2_3 x2_4 x2_5) = f12S2   (f12L2 n  m) x2_0 x2_1 x2_2 x2_3 x2_4 x2_5
    rw [lp_succ, f12S2_ev, ih]
noncomputable def f12S0 (l1 : f12G1) (l2 : f12G2) (g0 : f12G0) (x0_0 : Int) (x0_1 : Int) (x0_2 : Int) (x0_3 : Int) (x0_4 : List (List Int)) (x0_5 : List (List Int × List Int × Unit)) : Option Lf :=
 bif decide (x0_1 < x0_0) then
  bif inb x0_1 x0_4.length then
   bif decide (0 ≤ x0_2) && decide (x0_2 ≤ 62) then
    bif zn (x0_4.getD x0_1.toNat []).length != zn (2 ^ x0_2.toNat) then
     some (Lf.mk [(Pt.one (L.d (Pv.fz true) Sh.b (false : Bool)))] [] [])
    else
     l1 (x0_0 : Int) (x0_1 : Int) (0 : Int) (x0_2 : Int) (x0_3 : Int) (x0_4 : List (List Int)) (x0_5 : List (List Int × List Int × Unit))
   else
    none
  else
   none
 else
  l2 (x0_0 : Int) (0 : Int) (x0_2 : Int) (x0_3 : Int) (x0_4 : List (List Int)) (x0_5 : List (List Int × List Int × Unit))
noncomputable def f12L0 (n : Nat)  : Nat → f12G0
  | 0 => fun _ _ _ _ _ _ => none
  | m + 1 => fun x0_0 x0_1 x0_2 x0_3 x0_4 x0_5 => f12S0 (f12L1 n (f12L0 n  m) n) (f12L2 n  n)  (f12L0 n  m) x0_0 x0_1 x0_2 x0_3 x0_4 x0_5
theorem f12S0_ev (n : Nat)  (G : St → Option Lf) (x0_0 : Int) (x0_1 : Int) (x0_2 : Int) (x0_3 : Int) (x0_4 : List (List Int)) (x0_5 : List (List Int × List Int × Unit)) : rnd C10 f12h n Lf (codeOf f12f) [1, 1, 1, 0, 1, 0] [] (endK C10 f12h f12f) G (f12H0 x0_0 x0_1 x0_2 x0_3 x0_4 x0_5) = f12S0 (f12W1 (lp C10 f12h n Lf (codeOf f12f) [1, 1, 1, 0, 1, 0, 0, 1, 0, 0, 1, 1, 0] [G] (endK C10 f12h f12f) n)) (f12W2 (lp C10 f12h n Lf (codeOf f12f) [1, 1, 1, 1, 0, 1, 0] [] (endK C10 f12h f12f) n))  (f12W0 G) x0_0 x0_1 x0_2 x0_3 x0_4 x0_5 := by kernel_rfl
theorem f12W0_ev (n : Nat)  : ∀ m, (f12W0 (lp C10 f12h n Lf (codeOf f12f) [1, 1, 1, 0, 1, 0] [] (endK C10 f12h f12f) m)) = f12L0 n  m := by
  intro m
  induction m with
  | zero => funext x0_0 x0_1 x0_2 x0_3 x0_4 x0_5; exact lp_zero _
  | succ m ih =>
    have e1 : (f12W1 (lp C10 f12h n Lf (codeOf f12f) [1, 1, 1, 0, 1, 0, 0, 1, 0, 0, 1, 1, 0] [(lp C10 f12h n Lf (codeOf f12f) [1, 1, 1, 0, 1, 0] [] (endK C10 f12h f12f) m)] (endK C10 f12h f12f) n)) = (f12L1 n (f12L0 n  m) n) := by
      rw [f12W1_ev, ih]
    have e2 : (f12W2 (lp C10 f12h n Lf (codeOf f12f) [1, 1, 1, 1, 0, 1, 0] [] (endK C10 f12h f12f) n)) = (f12L2 n  n) := by
      rw [f12W2_ev]
    funext x0_0 x0_1 x0_2 x0_3 x0_4 x0_5
    show lp C10 f12h n Lf (codeOf f12f) [1, 1, 1, 0, 1, 0] [] (endK C10 f12h f12f) (m + 1) (f12H0 x0_0 x0_1 x0_2 x0_3 x0_4 x0_5) = f12S0 (f12L1 n (f12L0 n  m) n) (f12L2 n  n)  (f12L0 n  m) x0_0 x0_1 x0_2 x0_3 x0_4 x0_5
    rw [lp_succ, f12S0_ev, ih, e1, e2]
noncomputable def f12T (l0 : f12G0) (p : Int) (i : Int) (nx : List (List Int)) (ps : List (List Int × List Int × Unit)) : Option Lf :=
 bif Nat.beq 1 1 && (decide (p < 0) || Nat.beq 1 1 && (decide (p > 6) || (decide (zn nx.length < 1) || (decide (zn nx.length > 4096) || Nat.beq 1 1 && (decide (i < 0) || Nat.beq 1 1 && (decide (i ≥ zn nx.length) || true)))))) then
  bif decide (p < 0) || (decide (p > 6) || (decide (zn nx.length < 1) || (decide (zn nx.length > 4096) || (decide (i < 0) || (decide (i ≥ zn nx.length) || decide (zn ps.length > 4096)))))) then
   some (Lf.mk [(Pt.one (L.d (Pv.fz true) Sh.b (false : Bool)))] [] [])
  else
   l0 (zn nx.length : Int) (0 : Int) (p : Int) (i : Int) (nx : List (List Int)) (ps : List (List Int × List Int × Unit))
 else
  none
noncomputable def f12M (n : Nat) (p : Int) (i : Int) (nx : List (List Int)) (ps : List (List Int × List Int × Unit)) : Option Lf := f12T (f12L0 n n) p i nx ps
theorem f12T_ev (n : Nat) (p : Int) (i : Int) (nx : List (List Int)) (ps : List (List Int × List Int × Unit)) : evF C10 f12h n f12f [(D.p (Pt.agg [(L.d (Pv.fz true) (Sh.i IntKind.i64) p), (L.d (Pv.fz true) (Sh.i IntKind.i64) i), (L.d (Pv.fz false) (Sh.l (Sh.l (Sh.i IntKind.i64))) nx), (L.d (Pv.fz false) (Sh.l (Sh.p (Sh.l (Sh.i IntKind.i64)) (Sh.p (Sh.l (Sh.i IntKind.i64)) Sh.u))) ps)]))] [] = f12T (f12W0 (lp C10 f12h n Lf (codeOf f12f) [1, 1, 1, 0, 1, 0] [] (endK C10 f12h f12f) n)) p i nx ps := by kernel_rfl
theorem f12_ev (n : Nat) (p : Int) (i : Int) (nx : List (List Int)) (ps : List (List Int × List Int × Unit)) : evF C10 f12h n f12f [(D.p (Pt.agg [(L.d (Pv.fz true) (Sh.i IntKind.i64) p), (L.d (Pv.fz true) (Sh.i IntKind.i64) i), (L.d (Pv.fz false) (Sh.l (Sh.l (Sh.i IntKind.i64))) nx), (L.d (Pv.fz false) (Sh.l (Sh.p (Sh.l (Sh.i IntKind.i64)) (Sh.p (Sh.l (Sh.i IntKind.i64)) Sh.u))) ps)]))] [] = f12M n p i nx ps := by
  rw [f12T_ev, f12W0_ev]
  rfl

abbrev f14h : Hn := hn0
noncomputable abbrev f14f : Func := fn 14
noncomputable def f14T  (p : Int) (i : Int) (nx : List (List Int)) (ps : List (List Int × List Int × Unit)) (l : List Int) : Option Lf :=
 bif drG nx ps then
  bif !(er1 (drOk p i nx ps)).isNil then
   some (Lf.mk [(Pt.one (L.d (Pv.fz true) (Sh.i IntKind.i64) (0 : Int))), (Pt.one (L.d (Pv.fz true) Sh.b (false : Bool)))] [] [])
  else
   bif big ps.length && (ps.all pairG && big l.length) then
    some (Lf.mk [(Pt.one (L.d (Pv.fz true) (Sh.i IntKind.i64) (if 0 > goodI l ps then 0 else goodI l ps : Int))), (Pt.one (L.d (Pv.fz true) Sh.b (decide (goodI l ps ≥ 0) : Bool)))] [] [])
   else
    none
 else
  none
noncomputable def f14M (_ : Nat) (p : Int) (i : Int) (nx : List (List Int)) (ps : List (List Int × List Int × Unit)) (l : List Int) : Option Lf := f14T  p i nx ps l
theorem f14T_ev (n : Nat) (p : Int) (i : Int) (nx : List (List Int)) (ps : List (List Int × List Int × Unit)) (l : List Int) : evF C11 f14h n f14f [(D.p (Pt.agg [(L.d (Pv.fz true) (Sh.i IntKind.i64) p), (L.d (Pv.fz true) (Sh.i IntKind.i64) i), (L.d (Pv.fz false) (Sh.l (Sh.l (Sh.i IntKind.i64))) nx), (L.d (Pv.fz false) (Sh.l (Sh.p (Sh.l (Sh.i IntKind.i64)) (Sh.p (Sh.l (Sh.i IntKind.i64)) Sh.u))) ps)])), (D.p (Pt.one (L.d (Pv.fz false) (Sh.l (Sh.i IntKind.i64)) l)))] [] = f14T  p i nx ps l := by kernel_rfl
theorem f14_ev (n : Nat) (p : Int) (i : Int) (nx : List (List Int)) (ps : List (List Int × List Int × Unit)) (l : List Int) : evF C11 f14h n f14f [(D.p (Pt.agg [(L.d (Pv.fz true) (Sh.i IntKind.i64) p), (L.d (Pv.fz true) (Sh.i IntKind.i64) i), (L.d (Pv.fz false) (Sh.l (Sh.l (Sh.i IntKind.i64))) nx), (L.d (Pv.fz false) (Sh.l (Sh.p (Sh.l (Sh.i IntKind.i64)) (Sh.p (Sh.l (Sh.i IntKind.i64)) Sh.u))) ps)])), (D.p (Pt.one (L.d (Pv.fz false) (Sh.l (Sh.i IntKind.i64)) l)))] [] = f14M n p i nx ps l := by
  rw [f14T_ev]
  rfl

abbrev f15h : Hn := h15
noncomputable abbrev f15f : Func := fn 15
abbrev f15G0 := (List Int) → Int → Int → Int → (List (List Int)) → (List (List Int × List Int × Unit)) → Option Lf
noncomputable def f15H0 (x0_0 : List Int) (x0_1 : Int) (x0_2 : Int) (x0_3 : Int) (x0_4 : List (List Int)) (x0_5 : List (List Int × List Int × Unit)) : St := (St.mk [dead, (D.p (Pt.one (L.d (Pv.fz false) (Sh.l (Sh.i IntKind.i64)) x0_0))), (D.p (Pt.one (L.pv (Id.mk 1 0) 0))), dead, dead, (D.p (Pt.one (L.d (Pv.fz true) (Sh.i IntKind.i64) x0_1))), dead, dead, dead, dead, dead, dead, dead, dead, dead, dead, dead, dead, dead, dead, dead, dead, dead, dead, dead, dead, dead, dead, dead, dead, dead, dead, dead, dead, dead, dead, dead, dead, dead, dead, dead, dead, dead, dead, dead, dead, dead, dead, dead, dead, dead, dead, dead, dead, dead, dead] [[], [(Ob.va [(L.d (Pv.fz true) (Sh.i IntKind.i64) x0_2), (L.d (Pv.fz true) (Sh.i IntKind.i64) x0_3), (L.d (Pv.fz false) (Sh.l (Sh.l (Sh.i IntKind.i64))) x0_4), (L.d (Pv.fz false) (Sh.l (Sh.p (Sh.l (Sh.i IntKind.i64)) (Sh.p (Sh.l (Sh.i IntKind.i64)) Sh.u))) x0_5)])]])
noncomputable def f15W0 (G : St → Option Lf) : f15G0 := fun x0_0 x0_1 x0_2 x0_3 x0_4 x0_5 => G (f15H0 x0_0 x0_1 x0_2 x0_3 x0_4 x0_5)
abbrev f15G1 := (List Int) → Int → Bool → Bool → Int → Int → Int → (List (List Int)) → (List (List Int × List Int × Unit)) → Option Lf
noncomputable def f15H1 (x1_0 : List Int) (x1_1 : Int) (x1_2 : Bool) (x1_3 : Bool) (x1_4 : Int) (x1_5 : Int) (x1_6 : Int) (x1_7 : List (List Int)) (x1_8 : List (List Int × List Int × Unit)) : St := (St.mk [dead, (D.p (Pt.one (L.d (Pv.fz false) (Sh.l (Sh.i IntKind.i64)) x1_0))), (D.p (Pt.one (L.pv (Id.mk 1 0) 0))), dead, dead, (D.p (Pt.one (L.d (Pv.fz true) (Sh.i IntKind.i64) x1_1))), (D.p (Pt.one (L.d (Pv.fz true) Sh.b x1_2))), (D.p (Pt.one (L.d (Pv.fz true) Sh.b x1_3))), (D.p (Pt.one (L.d (Pv.fz true) (Sh.i IntKind.i64) x1_4))), dead, dead, dead, dead, dead, dead, dead, dead, dead, dead, dead, dead, dead, dead, dead, dead, dead, dead, dead, dead, dead, dead, dead, dead, dead, dead, dead, dead, dead, dead, dead, dead, dead, dead, dead, dead, dead, dead, dead, dead, dead, dead, dead, dead, dead, dead, dead] [[], [(Ob.va [(L.d (Pv.fz true) (Sh.i IntKind.i64) x1_5), (L.d (Pv.fz true) (Sh.i IntKind.i64) x1_6), (L.d (Pv.fz false) (Sh.l (Sh.l (Sh.i IntKind.i64))) x1_7), (L.d (Pv.fz false) (Sh.l (Sh.p (Sh.l (Sh.i IntKind.i64)) (Sh.p (Sh.l (Sh.i IntKind.i64)) Sh.u))) x1_8)])]])
noncomputable def f15W1 (G : St → Option Lf) : f15G1 := fun x1_0 x1_1 x1_2 x1_3 x1_4 x1_5 x1_6 x1_7 x1_8 => G (f15H1 x1_0 x1_1 x1_2 x1_3 x1_4 x1_5 x1_6 x1_7 x1_8)
noncomputable def f15S1  (g0 : f15G0) (g1 : f15G1) (x1_0 : List Int) (x1_1 : Int) (x1_2 : Bool) (x1_3 : Bool) (x1_4 : Int) (x1_5 : Int) (x1_6 : Int) (x1_7 : List (List Int)) (x1_8 : List (List Int × List Int × Unit)) : Option Lf :=
 bif decide (x1_4 < zn x1_0.length) then
  bif x1_2 || Nat.beq 1 1 && (Nat.beq 2 2 && (inb x1_1 x1_8.length && (Nat.beq 1 1 && (Nat.beq 1 1 && (inb x1_4 x1_0.length && (Nat.beq 1 1 && (big (x1_8.getD x1_1.toNat ([], [], ())).fst.length && true))))))) then
   bif x1_3 || Nat.beq 1 1 && (Nat.beq 2 2 && (inb x1_1 x1_8.length && (Nat.beq 1 1 && (Nat.beq 1 1 && (inb x1_4 x1_0.length && (Nat.beq 1 1 && (big (x1_8.getD x1_1.toNat ([], [], ())).snd.fst.length && true))))))) then
    g1 (x1_0 : List Int) (x1_1 : Int) (x1_2 || has (x1_8.getD x1_1.toNat ([], [], ())).fst (x1_0.getD x1_4.toNat 0) : Bool) (x1_3 || has (x1_8.getD x1_1.toNat ([], [], ())).snd.fst (x1_0.getD x1_4.toNat 0) : Bool) (IntKind.i64.wrap (x1_4 + 1) : Int) (x1_5 : Int) (x1_6 : Int) (x1_7 : List (List Int)) (x1_8 : List (List Int × List Int × Unit))
   else
    none
  else
   none
 else
  bif !x1_2 && x1_3 then
   some (Lf.mk [(Pt.one (L.d (Pv.fz true) (Sh.i IntKind.i64) (x1_1 : Int)))] [] [])
  else
   g0 (x1_0 : List Int) (IntKind.i64.wrap (x1_1 + 1) : Int) (x1_5 : Int) (x1_6 : Int) (x1_7 : List (List Int)) (x1_8 : List (List Int × List Int × Unit))
noncomputable def f15L1 (n : Nat) (g0 : f15G0) : Nat → f15G1
  | 0 => fun _ _ _ _ _ _ _ _ _ => none
  | m + 1 => fun x1_0 x1_1 x1_2 x1_3 x1_4 x1_5 x1_6 x1_7 x1_8 => f15S1  g0 (f15L1 n g0 m) x1_0 x1_1 x1_2 x1_3 x1_4 x1_5 x1_6 x1_7 x1_8
theorem f15S1_ev (n : Nat) (G0 : St → Option Lf) (G : St → Option Lf) (x1_0 : List Int) (x1_1 : Int) (x1_2 : Bool) (x1_3 : Bool) (x1_4 : Int) (x1_5 : Int) (x1_6 : Int) (x1_7 : List (List Int)) (x1_8 : List (List Int × List Int × Unit)) : rnd C10 f15h n Lf (codeOf f15f) [1, 0, 1, 0, 0, 1, 0, 0, 1, 0, 1, 0] [G0] (endK C10 f15h f15f) G (f15H1 x1_0 x1_1 x1_2 x1_3 x1_4 x1_5 x1_6 x1_7 x1_8) = f15S1  (f15W0 G0) (f15W1 G) x1_0 x1_1 x1_2 x1_3 x1_4 x1_5 x1_6 x1_7 x1_8 := by kernel_rfl
theorem f15W1_ev (n : Nat) (G0 : St → Option Lf) : ∀ m, (f15W1 (lp C10 f15h n Lf (codeOf f15f) [1, 0, 1, 0, 0, 1, 0, 0, 1, 0, 1, 0] [G0] (endK C10 f15h f15f) m)) = f15L1 n (f15W0 G0) m := by
  intro m
  induction m with
  | zero => funext x1_0 x1_1 x1_2 x1_3 x1_4 x1_5 x1_6 x1_7 x1_8; exact lp_zero _
  | succ m ih =>
    funext x1_0 x1_1 x1_2 x1_3 x1_4 x1_5 x1_6 x1_7 x1_8
    show lp C10 f15h n Lf (codeOf f15f) [1, 0, 1, 0, 0, 1, 0, 0, 1, 0, 1, 0] [G0] (endK C10 f15h f15f) (m + 1) (f15H1 x1_0 x1_1 x1_2 x1_3 x1_4 x1_5 x1_6 x1_7 x1_8) = f15S1  (f15W0 G0) (f15L1 n (f15W0 G0) m) x1_0 x1_1 x1_2 x1_3 x1_4 x1_5 x1_6 x1_7 x1_8
    rw [lp_succ, f15S1_ev, ih]
noncomputable def f15S0 (l1 : f15G1) (g0 : f15G0) (x0_0 : List Int) (x0_1 : Int) (x0_2 : Int) (x0_3 : Int) (x0_4 : List (List Int)) (x0_5 : List (List Int × List Int × Unit)) : Option Lf :=
 bif decide (x0_1 < zn x0_5.length) then
  l1 (x0_0 : List Int) (x0_1 : Int) (false : Bool) (false : Bool) (0 : Int) (x0_2 : Int) (x0_3 : Int) (x0_4 : List (List Int)) (x0_5 : List (List Int × List Int × Unit))
 else
  some (Lf.mk [(Pt.one (L.d (Pv.fz true) (Sh.i IntKind.i64) (-1 : Int)))] [] [])
noncomputable def f15L0 (n : Nat)  : Nat → f15G0
  | 0 => fun _ _ _ _ _ _ => none
  | m + 1 => fun x0_0 x0_1 x0_2 x0_3 x0_4 x0_5 => f15S0 (f15L1 n (f15L0 n  m) n)  (f15L0 n  m) x0_0 x0_1 x0_2 x0_3 x0_4 x0_5
theorem f15S0_ev (n : Nat)  (G : St → Option Lf) (x0_0 : List Int) (x0_1 : Int) (x0_2 : Int) (x0_3 : Int) (x0_4 : List (List Int)) (x0_5 : List (List Int × List Int × Unit)) : rnd C10 f15h n Lf (codeOf f15f) [1, 0, 1, 0] [] (endK C10 f15h f15f) G (f15H0 x0_0 x0_1 x0_2 x0_3 x0_4 x0_5) = f15S0 (f15W1 (lp C10 f15h n Lf (codeOf f15f) [1, 0, 1, 0, 0, 1, 0, 0, 1, 0, 1, 0] [G] (endK C10 f15h f15f) n))  (f15W0 G) x0_0 x0_1 x0_2 x0_3 x0_4 x0_5 := by kernel_rfl
theorem f15W0_ev (n : Nat)  : ∀ m, (f15W0 (lp C10 f15h n Lf (codeOf f15f) [1, 0, 1, 0] [] (endK C10 f15h f15f) m)) = f15L0 n  m := by
  intro m
  induction m with
  | zero => funext x0_0 x0_1 x0_2 x0_3 x0_4 x0_5; exact lp_zero _
  | succ m ih =>
    have e1 : (f15W1 (lp C10 f15h n Lf (codeOf f15f) [1, 0, 1, 0, 0, 1, 0, 0, 1, 0, 1, 0] [(lp C10 f15h n Lf (codeOf f15f) [1, 0, 1, 0] [] (endK C10 f15h f15f) m)] (endK C10 f15h f15f) n)) = (f15L1 n (f15L0 n  m) n) := by
      rw [f15W1_ev, ih]
    funext x0_0 x0_1 x0_2 x0_3 x0_4 x0_5
    show lp C10 f15h n Lf (codeOf f15f) [1, 0, 1, 0] [] (endK C10 f15h f15f) (m + 1) (f15H0 x0_0 x0_1 x0_2 x0_3 x0_4 x0_5) = f15S0 (f15L1 n (f15L0 n  m) n)  (f15L0 n  m) x0_0 x0_1 x0_2 x0_3 x0_4 x0_5
    rw [lp_succ, f15S0_ev, ih, e1]
noncomputable def f15T (l0 : f15G0) (p : Int) (i : Int) (nx : List (List Int)) (ps : List (List Int × List Int × Unit)) (l : List Int) : Option Lf :=
 l0 (l : List Int) (0 : Int) (p : Int) (i : Int) (nx : List (List Int)) (ps : List (List Int × List Int × Unit))
noncomputable def f15M (n : Nat) (p : Int) (i : Int) (nx : List (List Int)) (ps : List (List Int × List Int × Unit)) (l : List Int) : Option Lf := f15T (f15L0 n n) p i nx ps l
theorem f15T_ev (n : Nat) (p : Int) (i : Int) (nx : List (List Int)) (ps : List (List Int × List Int × Unit)) (l : List Int) : evF C10 f15h n f15f [(D.p (Pt.agg [(L.d (Pv.fz true) (Sh.i IntKind.i64) p), (L.d (Pv.fz true) (Sh.i IntKind.i64) i), (L.d (Pv.fz false) (Sh.l (Sh.l (Sh.i IntKind.i64))) nx), (L.d (Pv.fz false) (Sh.l (Sh.p (Sh.l (Sh.i IntKind.i64)) (Sh.p (Sh.l (Sh.i IntKind.i64)) Sh.u))) ps)])), (D.p (Pt.one (L.d (Pv.fz false) (Sh.l (Sh.i IntKind.i64)) l)))] [] = f15T (f15W0 (lp C10 f15h n Lf (codeOf f15f) [1, 0, 1, 0] [] (endK C10 f15h f15f) n)) p i nx ps l := by kernel_rfl
theorem f15_ev (n : Nat) (p : Int) (i : Int) (nx : List (List Int)) (ps : List (List Int × List Int × Unit)) (l : List Int) : evF C10 f15h n f15f [(D.p (Pt.agg [(L.d (Pv.fz true) (Sh.i IntKind.i64) p), (L.d (Pv.fz true) (Sh.i IntKind.i64) i), (L.d (Pv.fz false) (Sh.l (Sh.l (Sh.i IntKind.i64))) nx), (L.d (Pv.fz false) (Sh.l (Sh.p (Sh.l (Sh.i IntKind.i64)) (Sh.p (Sh.l (Sh.i IntKind.i64)) Sh.u))) ps)])), (D.p (Pt.one (L.d (Pv.fz false) (Sh.l (Sh.i IntKind.i64)) l)))] [] = f15M n p i nx ps l := by
  rw [f15T_ev, f15W0_ev]
  rfl

abbrev f16h : Hn := h16
noncomputable abbrev f16f : Func := fn 16
abbrev f16G0 := Int → (List Int) → Int → Int → Int → Int → (List (List Int)) → (List (List Int × List Int × Unit)) → (List Int) → (List Int) → Option Lf
noncomputable def f16H0 (x0_0 : Int) (x0_1 : List Int) (x0_2 : Int) (x0_3 : Int) (x0_4 : Int) (x0_5 : Int) (x0_6 : List (List Int)) (x0_7 : List (List Int × List Int × Unit)) (x0_8 : List Int) (x0_9 : List Int) : St := (St.mk [dead, dead, (D.p (Pt.one (L.pv (Id.mk 1 0) 0))), (D.p (Pt.one (L.pv (Id.mk 1 1) 0))), dead, dead, dead, dead, (D.p (Pt.one (L.d (Pv.fz true) (Sh.i IntKind.i64) x0_0))), dead, dead, dead, dead, dead, dead, dead, dead, dead, dead, dead, dead, dead, dead, dead, dead, dead, dead, dead, dead, dead, dead, dead, dead, dead, dead, dead, dead, dead, dead, dead, dead, dead, dead, dead, dead, dead, dead, dead, dead, dead, dead, (D.p (Pt.one (L.d (Pv.fz false) (Sh.l (Sh.i IntKind.i64)) x0_1))), (D.p (Pt.one (L.d (Pv.fz true) (Sh.i IntKind.i64) x0_2))), (D.p (Pt.one (L.d (Pv.fz true) (Sh.i IntKind.i64) x0_3))), dead, dead, dead, dead, dead, dead, dead, dead, dead, dead, dead, dead, dead, dead, dead, dead, dead, dead, dead, dead, dead, dead, dead, dead, dead, dead, dead, dead, dead, dead, dead, dead, dead, dead, dead, dead, dead, dead, dead, dead, dead, dead, dead, dead, dead, dead, dead, dead, dead, dead, dead, dead, dead, dead, dead, dead, dead, dead, dead, dead, dead, dead, dead, dead, dead, dead, dead, dead, dead, dead, dead, dead, dead, dead, dead, dead] [[], [(Ob.va [(L.d (Pv.fz true) (Sh.i IntKind.i64) x0_4), (L.d (Pv.fz true) (Sh.i IntKind.i64) x0_5), (L.d (Pv.fz false) (Sh.l (Sh.l (Sh.i IntKind.i64))) x0_6), (L.d (Pv.fz false) (Sh.l (Sh.p (Sh.l (Sh.i IntKind.i64)) (Sh.p (Sh.l (Sh.i IntKind.i64)) Sh.u))) x0_7)]), (Ob.va [(L.d (Pv.fz false) (Sh.l (Sh.i IntKind.i64)) x0_8), (L.d (Pv.fz false) (Sh.l (Sh.i IntKind.i64)) x0_9)])]])
noncomputable def f16W0 (G : St → Option Lf) : f16G0 := fun x0_0 x0_1 x0_2 x0_3 x0_4 x0_5 x0_6 x0_7 x0_8 x0_9 => G (f16H0 x0_0 x0_1 x0_2 x0_3 x0_4 x0_5 x0_6 x0_7 x0_8 x0_9)
abbrev f16G1 := Int → Int → Int → Int → Int → (List (List Int)) → (List (List Int × List Int × Unit)) → (List Int) → (List Int) → Option Lf
noncomputable def f16H1 (x1_0 : Int) (x1_1 : Int) (x1_2 : Int) (x1_3 : Int) (x1_4 : Int) (x1_5 : List (List Int)) (x1_6 : List (List Int × List Int × Unit)) (x1_7 : List Int) (x1_8 : List Int) : St := (St.mk [dead, dead, (D.p (Pt.one (L.pv (Id.mk 1 0) 0))), (D.p (Pt.one (L.pv (Id.mk 1 1) 0))), dead, dead, dead, dead, (D.p (Pt.one (L.d (Pv.fz true) (Sh.i IntKind.i64) x1_0))), dead, dead, dead, dead, dead, dead, dead, dead, dead, dead, dead, dead, dead, dead, dead, dead, dead, dead, dead, dead, dead, dead, dead, dead, dead, dead, dead, dead, dead, dead, dead, dead, dead, dead, dead, dead, dead, dead, dead, dead, dead, dead, dead, dead, dead, dead, dead, dead, dead, dead, dead, dead, dead, dead, dead, dead, dead, dead, dead, (D.p (Pt.one (L.d (Pv.fz true) (Sh.i IntKind.i64) x1_1))), (D.p (Pt.one (L.d (Pv.fz true) (Sh.i IntKind.i64) x1_2))), dead, dead, dead, dead, dead, dead, dead, dead, dead, dead, dead, dead, dead, dead, dead, dead, dead, dead, dead, dead, dead, dead, dead, dead, dead, dead, dead, dead, dead, dead, dead, dead, dead, dead, dead, dead, dead, dead, dead, dead, dead, dead, dead, dead, dead, dead, dead, dead, dead, dead, dead, dead, dead, dead, dead, dead, dead, dead, dead, dead] [[], [(Ob.va [(L.d (Pv.fz true) (Sh.i IntKind.i64) x1_3), (L.d (Pv.fz true) (Sh.i IntKind.i64) x1_4), (L.d (Pv.fz false) (Sh.l (Sh.l (Sh.i IntKind.i64))) x1_5), (L.d (Pv.fz false) (Sh.l (Sh.p (Sh.l (Sh.i IntKind.i64)) (Sh.p (Sh.l (Sh.i IntKind.i64)) Sh.u))) x1_6)]), (Ob.va [(L.d (Pv.fz false) (Sh.l (Sh.i IntKind.i64)) x1_7), (L.d (Pv.fz false) (Sh.l (Sh.i IntKind.i64)) x1_8)])]])
noncomputable def f16W1 (G : St → Option Lf) : f16G1 := fun x1_0 x1_1 x1_2 x1_3 x1_4 x1_5 x1_6 x1_7 x1_8 => G (f16H1 x1_0 x1_1 x1_2 x1_3 x1_4 x1_5 x1_6 x1_7 x1_8)
abbrev f16G2 := Int → Int → Int → (List Int) → Int → Int → Int → Int → (List (List Int)) → (List (List Int × List Int × Unit)) → (List Int) → (List Int) → Option Lf
noncomputable def f16H2 (x2_0 : Int) (x2_1 : Int) (x2_2 : Int) (x2_3 : List Int) (x2_4 : Int) (x2_5 : Int) (x2_6 : Int) (x2_7 : Int) (x2_8 : List (List Int)) (x2_9 : List (List Int × List Int × Unit)) (x2_10 : List Int) (x2_11 : List Int) : St := (St.mk [dead, dead, (D.p (Pt.one (L.pv (Id.mk 1 0) 0))), (D.p (Pt.one (L.pv (Id.mk 1 1) 0))), dead, dead, dead, dead, (D.p (Pt.one (L.d (Pv.fz true) (Sh.i IntKind.i64) x2_0))), dead, dead, dead, dead, dead, dead, dead, dead, dead, dead, dead, dead, dead, dead, dead, dead, dead, dead, dead, dead, dead, dead, dead, dead, dead, dead, dead, dead, dead, dead, dead, dead, dead, dead, dead, dead, dead, dead, dead, dead, dead, dead, dead, dead, dead, dead, dead, dead, dead, dead, dead, dead, dead, dead, dead, dead, dead, dead, dead, (D.p (Pt.one (L.d (Pv.fz true) (Sh.i IntKind.i64) x2_1))), (D.p (Pt.one (L.d (Pv.fz true) (Sh.i IntKind.i64) x2_2))), dead, dead, (D.p (Pt.one (L.d (Pv.fz false) (Sh.l (Sh.i IntKind.i64)) x2_3))), (D.p (Pt.one (L.d (Pv.fz true) (Sh.i IntKind.i64) x2_4))), (D.p (Pt.one (L.d (Pv.fz true) (Sh.i IntKind.i64) x2_5))), dead, dead, dead, dead, dead, dead, dead, dead, dead, dead, dead, dead, dead, dead, dead, dead, dead, dead, dead, dead, dead, dead, dead, dead, dead, dead, dead, dead, dead, dead, dead, dead, dead, dead, dead, dead, dead, dead, dead, dead, dead, dead, dead, dead, dead, dead, dead, dead, dead, dead, dead, dead, dead, dead, dead] [[], [(Ob.va [(L.d (Pv.fz true) (Sh.i IntKind.i64) x2_6), (L.d (Pv.fz true) (Sh.i IntKind.i64) x2_7), (L.d (Pv.fz false) (Sh.l (Sh.l (Sh.i IntKind.i64))) x2_8), (L.d (Pv.fz false) (Sh.l (Sh.p (Sh.l (Sh.i IntKind.i64)) (Sh.p (Sh.l (Sh.i IntKind.i64)) Sh.u))) x2_9)]), (Ob.va [(L.d (Pv.fz false) (Sh.l (Sh.i IntKind.i64)) x2_10), (L.d (Pv.fz false) (Sh.l (Sh.i IntKind.i64)) x2_11)])]])
noncomputable def f16W2 (G : St → Option Lf) : f16G2 := fun x2_0 x2_1 x2_2 x2_3 x2_4 x2_5 x2_6 x2_7 x2_8 x2_9 x2_10 x2_11 => G (f16H2 x2_0 x2_1 x2_2 x2_3 x2_4 x2_5 x2_6 x2_7 x2_8 x2_9 x2_10 x2_11)
noncomputable def f16S2  (g1 : f16G1) (g2 : f16G2) (x2_0 : Int) (x2_1 : Int) (x2_2 : Int) (x2_3 : List Int) (x2_4 : Int) (x2_5 : Int) (x2_6 : Int) (x2_7 : Int) (x2_8 : List (List Int)) (x2_9 : List (List Int × List Int × Unit)) (x2_10 : List Int) (x2_11 : List Int) : Option Lf :=
 bif decide (x2_5 < x2_4) then
  bif inb x2_5 x2_3.length then
   bif inb x2_0 x2_8.length then
    bif inb (x2_3.getD x2_5.toNat 0) (x2_8.getD x2_0.toNat []).length then
     g2 ((x2_8.getD x2_0.toNat []).getD (x2_3.getD x2_5.toNat 0).toNat 0 : Int) (x2_1 : Int) (x2_2 : Int) (x2_3 : List Int) (x2_4 : Int) (IntKind.i64.wrap (x2_5 + 1) : Int) (x2_6 : Int) (x2_7 : Int) (x2_8 : List (List Int)) (x2_9 : List (List Int × List Int × Unit)) (x2_10 : List Int) (x2_11 : List Int)
    else
     none
   else
    none
  else
   none
 else
  g1 (x2_0 : Int) (x2_1 : Int) (IntKind.i64.wrap (x2_2 + 1) : Int) (x2_6 : Int) (x2_7 : Int) (x2_8 : List (List Int)) (x2_9 : List (List Int × List Int × Unit)) (x2_10 : List Int) (x2_11 : List Int)
noncomputable def f16L2 (n : Nat) (g1 : f16G1) : Nat → f16G2
  | 0 => fun _ _ _ _ _ _ _ _ _ _ _ _ => none
  | m + 1 => fun x2_0 x2_1 x2_2 x2_3 x2_4 x2_5 x2_6 x2_7 x2_8 x2_9 x2_10 x2_11 => f16S2  g1 (f16L2 n g1 m) x2_0 x2_1 x2_2 x2_3 x2_4 x2_5 x2_6 x2_7 x2_8 x2_9 x2_10 x2_11
theorem f16S2_ev (n : Nat) (G1 : St → Option Lf) (G : St → Option Lf) (x2_0 : Int) (x2_1 : Int) (x2_2 : Int) (x2_3 : List Int) (x2_4 : Int) (x2_5 : Int) (x2_6 : Int) (x2_7 : Int) (x2_8 : List (List Int)) (x2_9 : List (List Int × List Int × Unit)) (x2_10 : List Int) (x2_11 : List Int) : rnd C11 f16h n Lf (codeOf f16f) [1, 1, 1, 1, 1, 1, 0, 1, 0, 0, 1, 1, 0, 0, 1, 0] [G1] (endK C11 f16h f16f) G (f16H2 x2_0 x2_1 x2_2 x2_3 x2_4 x2_5 x2_6 x2_7 x2_8 x2_9 x2_10 x2_11) = f16S2  (f16W1 G1) (f16W2 G) x2_0 x2_1 x2_2 x2_3 x2_4 x2_5 x2_6 x2_7 x2_8 x2_9 x2_10 x2_11 := by kernel_rfl
theorem f16W2_ev (n : Nat) (G1 : St → Option Lf) : ∀ m, (f16W2 (lp C11 f16h n Lf (codeOf f16f) [1, 1, 1, 1, 1, 1, 0, 1, 0, 0, 1, 1, 0, 0, 1, 0] [G1] (endK C11 f16h f16f) m)) = f16L2 n (f16W1 G1) m := by
  intro m
  induction m with
  | zero => funext x2_0 x2_1 x2_2 x2_3 x2_4 x2_5 x2_6 x2_7 x2_8 x2_9 x2_10 x2_11; exact lp_zero _
  | succ m ih =>
    funext x2_0 x2_1 x2_2 x2_3 x2_4 x2_5 x2_6 x2_7 x2_8 x2_9 x2_10 x2_11
    show lp C11 f16h n Lf (codeOf f16f) [1, 1, 1, 1, 1, 1, 0, 1, 0, 0, 1, 1, 0, 0, 1, 0] [G1] (endK C11 f16h f16f) (m + 1) (f16H2 x2_0 x2_1 x2_2 x2_3 x2_4 x2_5 x2_6 x2_7 x2_8 x2_9 x2_10 x2_11) = f16S2  (f16W1 G1) (f16L2 n (f16W1 G1) m) x2_0 x2_1 x2_2 x2_3 x2_4 x2_5 x2_6 x2_7 x2_8 x2_9 x2_10 x2_11
    rw [lp_succ, f16S2_ev, ih]
abbrev f16G3 := Int → Int → Bool → Int → Int → (List (List Int)) → (List (List Int × List Int × Unit)) → (List Int) → (List Int) → (List Bool) → Option Lf
noncomputable def f16H3 (x3_0 : Int) (x3_1 : Int) (x3_2 : Bool) (x3_3 : Int) (x3_4 : Int) (x3_5 : List (List Int)) (x3_6 : List (List Int × List Int × Unit)) (x3_7 : List Int) (x3_8 : List Int) (x3_9 : List Bool) : St := (St.mk [dead, dead, (D.p (Pt.one (L.pv (Id.mk 1 0) 0))), (D.p (Pt.one (L.pv (Id.mk 1 1) 0))), dead, dead, dead, dead, (D.p (Pt.one (L.d (Pv.fz true) (Sh.i IntKind.i64) x3_0))), dead, dead, dead, dead, (D.p (Pt.one (L.d (Pv.fz true) (Sh.i IntKind.i64) x3_1))), (D.p (Pt.one (L.rw (Id.mk 1 2)))), (D.p (Pt.one (L.d (Pv.fz true) Sh.b x3_2))), dead, dead, dead, dead, dead, dead, dead, dead, dead, dead, dead, dead, dead, dead, dead, dead, dead, dead, dead, dead, dead, dead, dead, dead, dead, dead, dead, dead, dead, dead, dead, dead, dead, dead, dead, dead, dead, dead, dead, dead, dead, dead, dead, dead, dead, dead, dead, dead, dead, dead, dead, dead, dead, dead, dead, dead, dead, dead, dead, dead, dead, dead, dead, dead, dead, dead, dead, dead, dead, dead, dead, dead, dead, dead, dead, dead, dead, dead, dead, dead, dead, dead, dead, dead, dead, dead, dead, dead, dead, dead, dead, dead, dead, dead, dead, dead, dead, dead, dead, dead, dead, dead, dead, dead, dead, dead, dead, dead, dead, dead, dead, dead, dead, dead] [[], [(Ob.va [(L.d (Pv.fz true) (Sh.i IntKind.i64) x3_3), (L.d (Pv.fz true) (Sh.i IntKind.i64) x3_4), (L.d (Pv.fz false) (Sh.l (Sh.l (Sh.i IntKind.i64))) x3_5), (L.d (Pv.fz false) (Sh.l (Sh.p (Sh.l (Sh.i IntKind.i64)) (Sh.p (Sh.l (Sh.i IntKind.i64)) Sh.u))) x3_6)]), (Ob.va [(L.d (Pv.fz false) (Sh.l (Sh.i IntKind.i64)) x3_7), (L.d (Pv.fz false) (Sh.l (Sh.i IntKind.i64)) x3_8)]), (Ob.ro true 0 4 Sh.b Ow.z x3_9 Option.none)]])
noncomputable def f16W3 (G : St → Option Lf) : f16G3 := fun x3_0 x3_1 x3_2 x3_3 x3_4 x3_5 x3_6 x3_7 x3_8 x3_9 => G (f16H3 x3_0 x3_1 x3_2 x3_3 x3_4 x3_5 x3_6 x3_7 x3_8 x3_9)
abbrev f16G4 := Int → Int → (List Int) → Int → Int → Int → Int → (List (List Int)) → (List (List Int × List Int × Unit)) → (List Int) → (List Int) → (List Bool) → Option Lf
noncomputable def f16H4 (x4_0 : Int) (x4_1 : Int) (x4_2 : List Int) (x4_3 : Int) (x4_4 : Int) (x4_5 : Int) (x4_6 : Int) (x4_7 : List (List Int)) (x4_8 : List (List Int × List Int × Unit)) (x4_9 : List Int) (x4_10 : List Int) (x4_11 : List Bool) : St := (St.mk [dead, dead, (D.p (Pt.one (L.pv (Id.mk 1 0) 0))), (D.p (Pt.one (L.pv (Id.mk 1 1) 0))), dead, dead, dead, dead, (D.p (Pt.one (L.d (Pv.fz true) (Sh.i IntKind.i64) x4_0))), dead, dead, dead, dead, (D.p (Pt.one (L.d (Pv.fz true) (Sh.i IntKind.i64) x4_1))), (D.p (Pt.one (L.rw (Id.mk 1 2)))), dead, dead, dead, dead, dead, dead, dead, dead, dead, dead, dead, dead, dead, dead, dead, dead, dead, dead, dead, dead, dead, dead, dead, dead, dead, dead, dead, dead, dead, dead, dead, dead, dead, dead, dead, dead, dead, dead, dead, dead, dead, dead, dead, dead, dead, dead, dead, dead, dead, dead, dead, dead, dead, dead, dead, dead, dead, dead, dead, dead, dead, dead, dead, dead, dead, dead, dead, dead, dead, dead, dead, dead, dead, dead, dead, dead, dead, dead, dead, dead, dead, dead, dead, (D.p (Pt.one (L.d (Pv.fz false) (Sh.l (Sh.i IntKind.i64)) x4_2))), (D.p (Pt.one (L.d (Pv.fz true) (Sh.i IntKind.i64) x4_3))), (D.p (Pt.one (L.d (Pv.fz true) (Sh.i IntKind.i64) x4_4))), dead, dead, dead, dead, dead, dead, dead, dead, dead, dead, dead, dead, dead, dead, dead, dead, dead, dead, dead, dead, dead, dead, dead, dead, dead, dead, dead, dead, dead] [[], [(Ob.va [(L.d (Pv.fz true) (Sh.i IntKind.i64) x4_5), (L.d (Pv.fz true) (Sh.i IntKind.i64) x4_6), (L.d (Pv.fz false) (Sh.l (Sh.l (Sh.i IntKind.i64))) x4_7), (L.d (Pv.fz false) (Sh.l (Sh.p (Sh.l (Sh.i IntKind.i64)) (Sh.p (Sh.l (Sh.i IntKind.i64)) Sh.u))) x4_8)]), (Ob.va [(L.d (Pv.fz false) (Sh.l (Sh.i IntKind.i64)) x4_9), (L.d (Pv.fz false) (Sh.l (Sh.i IntKind.i64)) x4_10)]), (Ob.ro true 0 4 Sh.b Ow.z x4_11 Option.none)]])
noncomputable def f16W4 (G : St → Option Lf) : f16G4 := fun x4_0 x4_1 x4_2 x4_3 x4_4 x4_5 x4_6 x4_7 x4_8 x4_9 x4_10 x4_11 => G (f16H4 x4_0 x4_1 x4_2 x4_3 x4_4 x4_5 x4_6 x4_7 x4_8 x4_9 x4_10 x4_11)
noncomputable def f16S4  (g3 : f16G3) (g4 : f16G4) (x4_0 : Int) (x4_1 : Int) (x4_2 : List Int) (x4_3 : Int) (x4_4 : Int) (x4_5 : Int) (x4_6 : Int) (x4_7 : List (List Int)) (x4_8 : List (List Int × List Int × Unit)) (x4_9 : List Int) (x4_10 : List Int) (x4_11 : List Bool) : Option Lf :=
 bif decide (x4_4 < x4_3) then
  bif inb x4_4 x4_2.length then
   bif inb x4_0 x4_11.length then
    bif inb x4_0 x4_7.length then
     bif inb (x4_2.getD x4_4.toNat 0) (x4_7.getD x4_0.toNat []).length then
      g4 ((x4_7.getD x4_0.toNat []).getD (x4_2.getD x4_4.toNat 0).toNat 0 : Int) (x4_1 : Int) (x4_2 : List Int) (x4_3 : Int) (IntKind.i64.wrap (x4_4 + 1) : Int) (x4_5 : Int) (x4_6 : Int) (x4_7 : List (List Int)) (x4_8 : List (List Int × List Int × Unit)) (x4_9 : List Int) (x4_10 : List Int) (x4_11.set x4_0.toNat true : List Bool)
     else
      none
    else
     none
   else
    none
  else
   none
 else
  g3 (x4_0 : Int) (x4_1 : Int) (x4_0 != x4_1 : Bool) (x4_5 : Int) (x4_6 : Int) (x4_7 : List (List Int)) (x4_8 : List (List Int × List Int × Unit)) (x4_9 : List Int) (x4_10 : List Int) (x4_11 : List Bool)
noncomputable def f16L4 (n : Nat) (g3 : f16G3) : Nat → f16G4
  | 0 => fun _ _ _ _ _ _ _ _ _ _ _ _ => none
  | m + 1 => fun x4_0 x4_1 x4_2 x4_3 x4_4 x4_5 x4_6 x4_7 x4_8 x4_9 x4_10 x4_11 => f16S4  g3 (f16L4 n g3 m) x4_0 x4_1 x4_2 x4_3 x4_4 x4_5 x4_6 x4_7 x4_8 x4_9 x4_10 x4_11
theorem f16S4_ev (n : Nat) (G3 : St → Option Lf) (G : St → Option Lf) (x4_0 : Int) (x4_1 : Int) (x4_2 : List Int) (x4_3 : Int) (x4_4 : Int) (x4_5 : Int) (x4_6 : Int) (x4_7 : List (List Int)) (x4_8 : List (List Int × List Int × Unit)) (x4_9 : List Int) (x4_10 : List Int) (x4_11 : List Bool) : rnd C11 f16h n Lf (codeOf f16f) [1, 1, 1, 1, 1, 1, 1, 1, 1, 0, 1, 0, 0, 1, 0, 0, 1, 0] [G3] (endK C11 f16h f16f) G (f16H4 x4_0 x4_1 x4_2 x4_3 x4_4 x4_5 x4_6 x4_7 x4_8 x4_9 x4_10 x4_11) = f16S4  (f16W3 G3) (f16W4 G) x4_0 x4_1 x4_2 x4_3 x4_4 x4_5 x4_6 x4_7 x4_8 x4_9 x4_10 x4_11 := by kernel_rfl
theorem f16W4_ev (n : Nat) (G3 : St → Option Lf) : ∀ m, (f16W4 (lp C11 f16h n Lf (codeOf f16f) [1, 1, 1, 1, 1, 1, 1, 1, 1, 0, 1, 0, 0, 1, 0, 0, 1, 0] [G3] (endK C11 f16h f16f) m)) = f16L4 n (f16W3 G3) m := by
  intro m
  induction m with
  | zero => funext x4_0 x4_1 x4_2 x4_3 x4_4 x4_5 x4_6 x4_7 x4_8 x4_9 x4_10 x4_11; exact lp_zero _
  | succ m ih =>
    funext x4_0 x4_1 x4_2 x4_3 x4_4 x4_5 x4_6 x4_7 x4_8 x4_9 x4_10 x4_11
    show lp C11 f16h n Lf (codeOf f16f) [1, 1, 1, 1, 1, 1, 1, 1, 1, 0, 1, 0, 0, 1, 0, 0, 1, 0] [G3] (endK C11 f16h f16f) (m + 1) (f16H4 x4_0 x4_1 x4_2 x4_3 x4_4 x4_5 x4_6 x4_7 x4_8 x4_9 x4_10 x4_11) = f16S4  (f16W3 G3) (f16L4 n (f16W3 G3) m) x4_0 x4_1 x4_2 x4_3 x4_4 x4_5 x4_6 x4_7 x4_8 x4_9 x4_10 x4_11
    rw [lp_succ, f16S4_ev, ih]
abbrev f16G5 := Int → Int → (List Int) → (List Bool) → Option Lf
noncomputable def f16H5 (x5_0 : Int) (x5_1 : Int) (x5_2 : List Int) (x5_3 : List Bool) : St := (St.mk [dead, dead, dead, dead, dead, dead, dead, dead, dead, dead, dead, dead, dead, dead, dead, dead, dead, dead, (D.p (Pt.one (L.rw (Id.mk 1 0)))), dead, dead, dead, dead, dead, dead, dead, dead, dead, dead, dead, dead, dead, dead, dead, dead, dead, dead, dead, dead, dead, dead, dead, dead, dead, dead, dead, dead, dead, dead, dead, dead, dead, dead, dead, dead, dead, dead, dead, dead, dead, dead, dead, dead, dead, dead, dead, dead, dead, dead, dead, dead, dead, dead, dead, dead, dead, dead, dead, dead, dead, dead, dead, dead, dead, dead, dead, dead, dead, dead, dead, dead, dead, dead, dead, dead, dead, dead, dead, dead, dead, dead, dead, dead, dead, dead, dead, dead, dead, dead, dead, dead, dead, dead, dead, dead, dead, (D.p (Pt.one (L.rw (Id.mk 1 1)))), (D.p (Pt.one (L.d (Pv.fz true) (Sh.i IntKind.i64) x5_0))), (D.p (Pt.one (L.d (Pv.fz true) (Sh.i IntKind.i64) x5_1))), dead, dead, dead, dead, dead, dead, dead, dead, dead, dead, dead] [[], [(Ob.ro true 0 3 (Sh.i IntKind.i64) Ow.z x5_2 Option.none), (Ob.ro true 0 4 Sh.b Ow.z x5_3 Option.none)]])
noncomputable def f16W5 (G : St → Option Lf) : f16G5 := fun x5_0 x5_1 x5_2 x5_3 => G (f16H5 x5_0 x5_1 x5_2 x5_3)
noncomputable def f16S5  (g5 : f16G5) (x5_0 : Int) (x5_1 : Int) (x5_2 : List Int) (x5_3 : List Bool) : Option Lf :=
 bif decide (x5_1 < x5_0) then
  bif inb x5_1 x5_3.length then
   bif x5_3.getD x5_1.toNat false then
    bif decide ((x5_2.length + [x5_1].length) * 8 ≤ 140737488355328) then
     g5 (x5_0 : Int) (IntKind.i64.wrap (x5_1 + 1) : Int) (x5_2 ++ [x5_1] : List Int) (x5_3 : List Bool)
    else
     none
   else
    g5 (x5_0 : Int) (IntKind.i64.wrap (x5_1 + 1) : Int) (x5_2 : List Int) (x5_3 : List Bool)
  else
   none
 else
  some (Lf.mk [(Pt.one (L.rw (Id.mk 1 0))), (Pt.one (L.d (Pv.fz true) Sh.e (Er.nil : Er)))] [] [(Ob.ro true 0 3 (Sh.i IntKind.i64) Ow.z (x5_2 : List Int) Option.none)])
noncomputable def f16L5 (n : Nat)  : Nat → f16G5
  | 0 => fun _ _ _ _ => none
  | m + 1 => fun x5_0 x5_1 x5_2 x5_3 => f16S5   (f16L5 n  m) x5_0 x5_1 x5_2 x5_3
theorem f16S5_ev (n : Nat)  (G : St → Option Lf) (x5_0 : Int) (x5_1 : Int) (x5_2 : List Int) (x5_3 : List Bool) : rnd C11 f16h n Lf (codeOf f16f) [1, 1, 1, 1, 1, 1, 1, 1, 1, 1, 1, 0, 1, 0] [] (endK C11 f16h f16f) G (f16H5 x5_0 x5_1 x5_2 x5_3) = f16S5   (f16W5 G) x5_0 x5_1 x5_2 x5_3 := by kernel_rfl
theorem f16W5_ev (n : Nat)  : ∀ m, (f16W5 (lp C11 f16h n Lf (codeOf f16f) [1, 1, 1, 1, 1, 1, 1, 1, 1, 1, 1, 0, 1, 0] [] (endK C11 f16h f16f) m)) = f16L5 n  m := by
  intro m
  induction m with
  | zero => funext x5_0 x5_1 x5_2 x5_3; exact lp_zero _
  | succ m ih =>
    funext x5_0 x5_1 x5_2 x5_3
    show lp C11 f16h n Lf (codeOf f16f) [1, 1, 1, 1, 1, 1, 1, 1, 1, 1, 1, 0, 1, 0] [] (endK C11 f16h f16f) (m + 1) (f16H5 x5_0 x5_1 x5_2 x5_3) = f16S5   (f16L5 n  m) x5_0 x5_1 x5_2 x5_3
    rw [lp_succ, f16S5_ev, ih]
noncomputable def f16S3 (l4 : f16G4) (l5 : f16G5) (g3 : f16G3) (x3_0 : Int) (x3_1 : Int) (x3_2 : Bool) (x3_3 : Int) (x3_4 : Int) (x3_5 : List (List Int)) (x3_6 : List (List Int × List Int × Unit)) (x3_7 : List Int) (x3_8 : List Int) (x3_9 : List Bool) : Option Lf :=
 bif x3_2 then
  l4 (x3_0 : Int) (x3_1 : Int) (x3_8 : List Int) (zn x3_8.length : Int) (0 : Int) (x3_3 : Int) (x3_4 : Int) (x3_5 : List (List Int)) (x3_6 : List (List Int × List Int × Unit)) (x3_7 : List Int) (x3_8 : List Int) (x3_9 : List Bool)
 else
  l5 (zn x3_9.length : Int) (0 : Int) ([] : List Int) (x3_9 : List Bool)
noncomputable def f16L3 (n : Nat)  : Nat → f16G3
  | 0 => fun _ _ _ _ _ _ _ _ _ _ => none
  | m + 1 => fun x3_0 x3_1 x3_2 x3_3 x3_4 x3_5 x3_6 x3_7 x3_8 x3_9 => f16S3 (f16L4 n (f16L3 n  m) n) (f16L5 n  n)  (f16L3 n  m) x3_0 x3_1 x3_2 x3_3 x3_4 x3_5 x3_6 x3_7 x3_8 x3_9
theorem f16S3_ev (n : Nat)  (G : St → Option Lf) (x3_0 : Int) (x3_1 : Int) (x3_2 : Bool) (x3_3 : Int) (x3_4 : Int) (x3_5 : List (List Int)) (x3_6 : List (List Int × List Int × Unit)) (x3_7 : List Int) (x3_8 : List Int) (x3_9 : List Bool) : rnd C11 f16h n Lf (codeOf f16f) [1, 1, 1, 1, 1, 1, 1, 1, 1, 0, 1, 0] [] (endK C11 f16h f16f) G (f16H3 x3_0 x3_1 x3_2 x3_3 x3_4 x3_5 x3_6 x3_7 x3_8 x3_9) = f16S3 (f16W4 (lp C11 f16h n Lf (codeOf f16f) [1, 1, 1, 1, 1, 1, 1, 1, 1, 0, 1, 0, 0, 1, 0, 0, 1, 0] [G] (endK C11 f16h f16f) n)) (f16W5 (lp C11 f16h n Lf (codeOf f16f) [1, 1, 1, 1, 1, 1, 1, 1, 1, 1, 1, 0, 1, 0] [] (endK C11 f16h f16f) n))  (f16W3 G) x3_0 x3_1 x3_2 x3_3 x3_4 x3_5 x3_6 x3_7 x3_8 x3_9 := by kernel_rfl
theorem f16W3_ev (n : Nat)  : ∀ m, (f16W3 (lp C11 f16h n Lf (codeOf f16f) [1, 1, 1, 1, 1, 1, 1, 1, 1, 0, 1, 0] [] (endK C11 f16h f16f) m)) = f16L3 n  m := by
  intro m
  induction m with
  | zero => funext x3_0 x3_1 x3_2 x3_3 x3_4 x3_5 x3_6 x3_7 x3_8 x3_9; exact lp_zero _
  | succ m ih =>
    have e4 : (f16W4 (lp C11 f16h n Lf (codeOf f16f) [1, 1, 1, 1, 1, 1, 1, 1, 1, 0, 1, 0, 0, 1, 0, 0, 1, 0] [(lp C11 f16h n Lf (codeOf f16f) [1, 1, 1, 1, 1, 1, 1, 1, 1, 0, 1, 0] [] (endK C11 f16h f16f) m)] (endK C11 f16h f16f) n)) = (f16L4 n (f16L3 n  m) n) := by
      rw [f16W4_ev, ih]
    have e5 : (f16W5 (lp C11 f16h n Lf (codeOf f16f) [1, 1, 1, 1, 1, 1, 1, 1, 1, 1, 1, 0, 1, 0] [] (endK C11 f16h f16f) n)) = (f16L5 n  n) := by
      rw [f16W5_ev]
    funext x3_0 x3_1 x3_2 x3_3 x3_4 x3_5 x3_6 x3_7 x3_8 x3_9
    show lp C11 f16h n Lf (codeOf f16f) [1, 1, 1, 1, 1, 1, 1, 1, 1, 0, 1, 0] [] (endK C11 f16h f16f) (m + 1) (f16H3 x3_0 x3_1 x3_2 x3_3 x3_4 x3_5 x3_6 x3_7 x3_8 x3_9) = f16S3 (f16L4 n (f16L3 n  m) n) (f16L5 n  n)  (f16L3 n  m) x3_0 x3_1 x3_2 x3_3 x3_4 x3_5 x3_6 x3_7 x3_8 x3_9
    rw [lp_succ, f16S3_ev, ih, e4, e5]
noncomputable def f16S1 (l2 : f16G2) (l3 : f16G3) (g1 : f16G1) (x1_0 : Int) (x1_1 : Int) (x1_2 : Int) (x1_3 : Int) (x1_4 : Int) (x1_5 : List (List Int)) (x1_6 : List (List Int × List Int × Unit)) (x1_7 : List Int) (x1_8 : List Int) : Option Lf :=
 bif decide (x1_2 < x1_1) then
  l2 (x1_0 : Int) (x1_1 : Int) (x1_2 : Int) (x1_8 : List Int) (zn x1_8.length : Int) (0 : Int) (x1_3 : Int) (x1_4 : Int) (x1_5 : List (List Int)) (x1_6 : List (List Int × List Int × Unit)) (x1_7 : List Int) (x1_8 : List Int)
 else
  bif decide (0 ≤ zn x1_5.length) && (decide (zn x1_5.length ≤ zn x1_5.length) && decide (1 * (zn x1_5.length).toNat ≤ 140737488355328)) then
   l3 (x1_0 : Int) (x1_0 : Int) (true : Bool) (x1_3 : Int) (x1_4 : Int) (x1_5 : List (List Int)) (x1_6 : List (List Int × List Int × Unit)) (x1_7 : List Int) (x1_8 : List Int) (List.replicate (zn x1_5.length).toNat false : List Bool)
  else
   none
noncomputable def f16L1 (n : Nat)  : Nat → f16G1
  | 0 => fun _ _ _ _ _ _ _ _ _ => none
  | m + 1 => fun x1_0 x1_1 x1_2 x1_3 x1_4 x1_5 x1_6 x1_7 x1_8 => f16S1 (f16L2 n (f16L1 n  m) n) (f16L3 n  n)  (f16L1 n  m) x1_0 x1_1 x1_2 x1_3 x1_4 x1_5 x1_6 x1_7 x1_8
theorem f16S1_ev (n : Nat)  (G : St → Option Lf) (x1_0 : Int) (x1_1 : Int) (x1_2 : Int) (x1_3 : Int) (x1_4 : Int) (x1_5 : List (List Int)) (x1_6 : List (List Int × List Int × Unit)) (x1_7 : List Int) (x1_8 : List Int) : rnd C11 f16h n Lf (codeOf f16f) [1, 1, 1, 1, 1, 1, 0, 1, 0] [] (endK C11 f16h f16f) G (f16H1 x1_0 x1_1 x1_2 x1_3 x1_4 x1_5 x1_6 x1_7 x1_8) = f16S1 (f16W2 (lp C11 f16h n Lf (codeOf f16f) [1, 1, 1, 1, 1, 1, 0, 1, 0, 0, 1, 1, 0, 0, 1, 0] [G] (endK C11 f16h f16f) n)) (f16W3 (lp C11 f16h n Lf (codeOf f16f) [1, 1, 1, 1, 1, 1, 1, 1, 1, 0, 1, 0] [] (endK C11 f16h f16f) n))  (f16W1 G) x1_0 x1_1 x1_2 x1_3 x1_4 x1_5 x1_6 x1_7 x1_8 := by kernel_rfl
theorem f16W1_ev (n : Nat)  : ∀ m, (f16W1 (lp C11 f16h n Lf (codeOf f16f) [1, 1, 1, 1, 1, 1, 0, 1, 0] [] (endK C11 f16h f16f) m)) = f16L1 n  m := by
  intro m
  induction m with
  | zero => funext x1_0 x1_1 x1_2 x1_3 x1_4 x1_5 x1_6 x1_7 x1_8; exact lp_zero _
  | succ m ih =>
    have e2 : (f16W2 (lp C11 f16h n Lf (codeOf f16f) [1, 1, 1, 1, 1, 1, 0, 1, 0, 0, 1, 1, 0, 0, 1, 0] [(lp C11 f16h n Lf (codeOf f16f) [1, 1, 1, 1, 1, 1, 0, 1, 0] [] (endK C11 f16h f16f) m)] (endK C11 f16h f16f) n)) = (f16L2 n (f16L1 n  m) n) := by
      rw [f16W2_ev, ih]
    have e3 : (f16W3 (lp C11 f16h n Lf (codeOf f16f) [1, 1, 1, 1, 1, 1, 1, 1, 1, 0, 1, 0] [] (endK C11 f16h f16f) n)) = (f16L3 n  n) := by
      rw [f16W3_ev]
    funext x1_0 x1_1 x1_2 x1_3 x1_4 x1_5 x1_6 x1_7 x1_8
    show lp C11 f16h n Lf (codeOf f16f) [1, 1, 1, 1, 1, 1, 0, 1, 0] [] (endK C11 f16h f16f) (m + 1) (f16H1 x1_0 x1_1 x1_2 x1_3 x1_4 x1_5 x1_6 x1_7 x1_8) = f16S1 (f16L2 n (f16L1 n  m) n) (f16L3 n  n)  (f16L1 n  m) x1_0 x1_1 x1_2 x1_3 x1_4 x1_5 x1_6 x1_7 x1_8
    rw [lp_succ, f16S1_ev, ih, e2, e3]
noncomputable def f16S0 (l1 : f16G1) (g0 : f16G0) (x0_0 : Int) (x0_1 : List Int) (x0_2 : Int) (x0_3 : Int) (x0_4 : Int) (x0_5 : Int) (x0_6 : List (List Int)) (x0_7 : List (List Int × List Int × Unit)) (x0_8 : List Int) (x0_9 : List Int) : Option Lf :=
 bif decide (x0_3 < x0_2) then
  bif inb x0_3 x0_1.length then
   bif inb x0_0 x0_6.length then
    bif inb (x0_1.getD x0_3.toNat 0) (x0_6.getD x0_0.toNat []).length then
     g0 ((x0_6.getD x0_0.toNat []).getD (x0_1.getD x0_3.toNat 0).toNat 0 : Int) (x0_1 : List Int) (x0_2 : Int) (IntKind.i64.wrap (x0_3 + 1) : Int) (x0_4 : Int) (x0_5 : Int) (x0_6 : List (List Int)) (x0_7 : List (List Int × List Int × Unit)) (x0_8 : List Int) (x0_9 : List Int)
    else
     none
   else
    none
  else
   none
 else
  l1 (x0_0 : Int) (zn x0_6.length : Int) (0 : Int) (x0_4 : Int) (x0_5 : Int) (x0_6 : List (List Int)) (x0_7 : List (List Int × List Int × Unit)) (x0_8 : List Int) (x0_9 : List Int)
noncomputable def f16L0 (n : Nat)  : Nat → f16G0
  | 0 => fun _ _ _ _ _ _ _ _ _ _ => none
  | m + 1 => fun x0_0 x0_1 x0_2 x0_3 x0_4 x0_5 x0_6 x0_7 x0_8 x0_9 => f16S0 (f16L1 n  n)  (f16L0 n  m) x0_0 x0_1 x0_2 x0_3 x0_4 x0_5 x0_6 x0_7 x0_8 x0_9
theorem f16S0_ev (n : Nat)  (G : St → Option Lf) (x0_0 : Int) (x0_1 : List Int) (x0_2 : Int) (x0_3 : Int) (x0_4 : Int) (x0_5 : Int) (x0_6 : List (List Int)) (x0_7 : List (List Int × List Int × Unit)) (x0_8 : List Int) (x0_9 : List Int) : rnd C11 f16h n Lf (codeOf f16f) [1, 1, 1, 1, 1, 0, 1, 0] [] (endK C11 f16h f16f) G (f16H0 x0_0 x0_1 x0_2 x0_3 x0_4 x0_5 x0_6 x0_7 x0_8 x0_9) = f16S0 (f16W1 (lp C11 f16h n Lf (codeOf f16f) [1, 1, 1, 1, 1, 1, 0, 1, 0] [] (endK C11 f16h f16f) n))  (f16W0 G) x0_0 x0_1 x0_2 x0_3 x0_4 x0_5 x0_6 x0_7 x0_8 x0_9 := by kernel_rfl
theorem f16W0_ev (n : Nat)  : ∀ m, (f16W0 (lp C11 f16h n Lf (codeOf f16f) [1, 1, 1, 1, 1, 0, 1, 0] [] (endK C11 f16h f16f) m)) = f16L0 n  m := by
  intro m
  induction m with
  | zero => funext x0_0 x0_1 x0_2 x0_3 x0_4 x0_5 x0_6 x0_7 x0_8 x0_9; exact lp_zero _
  | succ m ih =>
    have e1 : (f16W1 (lp C11 f16h n Lf (codeOf f16f) [1, 1, 1, 1, 1, 1, 0, 1, 0] [] (endK C11 f16h f16f) n)) = (f16L1 n  n) := by
      rw [f16W1_ev]
    funext x0_0 x0_1 x0_2 x0_3 x0_4 x0_5 x0_6 x0_7 x0_8 x0_9
    show lp C11 f16h n Lf (codeOf f16f) [1, 1, 1, 1, 1, 0, 1, 0] [] (endK C11 f16h f16f) (m + 1) (f16H0 x0_0 x0_1 x0_2 x0_3 x0_4 x0_5 x0_6 x0_7 x0_8 x0_9) = f16S0 (f16L1 n  n)  (f16L0 n  m) x0_0 x0_1 x0_2 x0_3 x0_4 x0_5 x0_6 x0_7 x0_8 x0_9
    rw [lp_succ, f16S0_ev, ih, e1]
noncomputable def f16T (l0 : f16G0) (p : Int) (i : Int) (nx : List (List Int)) (ps : List (List Int × List Int × Unit)) (s : List Int) (l : List Int) : Option Lf :=
 bif [s, l].length.ble 2 && [s, l].all fun (v : List Int) => v.length.ble 1000000 then
  bif drG nx ps && (!(er1 (drOk p i nx ps)).isNil || Nat.beq 1 1 && (zn l.length == 0 || decide (zn [s, l].flatten.length > 64) && true)) then
   bif !(er1 (drOk p i nx ps)).isNil || (zn l.length == 0 || true) then
    some (Lf.mk [(Pt.one (L.rw (Id.mk 1 0))), (Pt.one (L.d (Pv.fz true) Sh.e (Er.no 1 : Er)))] [] [(Ob.ro true 0 3 (Sh.i IntKind.i64) Ow.z ([] : List Int) Option.none)])
   else
    l0 (i : Int) (s : List Int) (zn s.length : Int) (0 : Int) (p : Int) (i : Int) (nx : List (List Int)) (ps : List (List Int × List Int × Unit)) (s : List Int) (l : List Int)
  else
   none
 else
  none
noncomputable def f16M (n : Nat) (p : Int) (i : Int) (nx : List (List Int)) (ps : List (List Int × List Int × Unit)) (s : List Int) (l : List Int) : Option Lf := f16T (f16L0 n n) p i nx ps s l
theorem f16T_ev (n : Nat) (p : Int) (i : Int) (nx : List (List Int)) (ps : List (List Int × List Int × Unit)) (s : List Int) (l : List Int) : evF C11 f16h n f16f [(D.p (Pt.agg [(L.d (Pv.fz true) (Sh.i IntKind.i64) p), (L.d (Pv.fz true) (Sh.i IntKind.i64) i), (L.d (Pv.fz false) (Sh.l (Sh.l (Sh.i IntKind.i64))) nx), (L.d (Pv.fz false) (Sh.l (Sh.p (Sh.l (Sh.i IntKind.i64)) (Sh.p (Sh.l (Sh.i IntKind.i64)) Sh.u))) ps)])), (D.p (Pt.agg [(L.d (Pv.fz false) (Sh.l (Sh.i IntKind.i64)) s), (L.d (Pv.fz false) (Sh.l (Sh.i IntKind.i64)) l)]))] [] = f16T (f16W0 (lp C11 f16h n Lf (codeOf f16f) [1, 1, 1, 1, 1, 0, 1, 0] [] (endK C11 f16h f16f) n)) p i nx ps s l := by kernel_rfl
theorem f16_ev (n : Nat) (p : Int) (i : Int) (nx : List (List Int)) (ps : List (List Int × List Int × Unit)) (s : List Int) (l : List Int) : evF C11 f16h n f16f [(D.p (Pt.agg [(L.d (Pv.fz true) (Sh.i IntKind.i64) p), (L.d (Pv.fz true) (Sh.i IntKind.i64) i), (L.d (Pv.fz false) (Sh.l (Sh.l (Sh.i IntKind.i64))) nx), (L.d (Pv.fz false) (Sh.l (Sh.p (Sh.l (Sh.i IntKind.i64)) (Sh.p (Sh.l (Sh.i IntKind.i64)) Sh.u))) ps)])), (D.p (Pt.agg [(L.d (Pv.fz false) (Sh.l (Sh.i IntKind.i64)) s), (L.d (Pv.fz false) (Sh.l (Sh.i IntKind.i64)) l)]))] [] = f16M n p i nx ps s l := by
  rw [f16T_ev, f16W0_ev]
  rfl

abbrev f17h : Hn := hn0
noncomputable abbrev f17f : Func := fn 17
noncomputable def f17T  (p : Int) (i : Int) (nx : List (List Int)) (ps : List (List Int × List Int × Unit)) (s : List Int) (l : List Int) : Option Lf :=
 bif drG nx ps && (m6 s.length && m6 l.length) then
  bif !(er1 (seenOk p i nx ps s l)).isNil then
   some (Lf.mk [(Pt.one (L.d (Pv.fz true) Sh.b (false : Bool))), (Pt.one (L.d (Pv.fz true) Sh.e (er1 (seenOk p i nx ps s l) : Er)))] [] [])
  else
   bif drG nx ps && big (bif seenOk p i nx ps s l then seenF i nx s l else []).length then
    some (Lf.mk [(Pt.one (L.d (Pv.fz true) Sh.b (drOk p i nx ps && decide (goodI (bif seenOk p i nx ps s l then seenF i nx s l else []) ps ≥ 0) : Bool))), (Pt.one (L.d (Pv.fz true) Sh.e (Er.nil : Er)))] [] [])
   else
    none
 else
  none
noncomputable def f17M (_ : Nat) (p : Int) (i : Int) (nx : List (List Int)) (ps : List (List Int × List Int × Unit)) (s : List Int) (l : List Int) : Option Lf := f17T  p i nx ps s l
theorem f17T_ev (n : Nat) (p : Int) (i : Int) (nx : List (List Int)) (ps : List (List Int × List Int × Unit)) (s : List Int) (l : List Int) : evF C12 f17h n f17f [(D.p (Pt.agg [(L.d (Pv.fz true) (Sh.i IntKind.i64) p), (L.d (Pv.fz true) (Sh.i IntKind.i64) i), (L.d (Pv.fz false) (Sh.l (Sh.l (Sh.i IntKind.i64))) nx), (L.d (Pv.fz false) (Sh.l (Sh.p (Sh.l (Sh.i IntKind.i64)) (Sh.p (Sh.l (Sh.i IntKind.i64)) Sh.u))) ps)])), (D.p (Pt.agg [(L.d (Pv.fz false) (Sh.l (Sh.i IntKind.i64)) s), (L.d (Pv.fz false) (Sh.l (Sh.i IntKind.i64)) l)]))] [] = f17T  p i nx ps s l := by kernel_rfl
theorem f17_ev (n : Nat) (p : Int) (i : Int) (nx : List (List Int)) (ps : List (List Int × List Int × Unit)) (s : List Int) (l : List Int) : evF C12 f17h n f17f [(D.p (Pt.agg [(L.d (Pv.fz true) (Sh.i IntKind.i64) p), (L.d (Pv.fz true) (Sh.i IntKind.i64) i), (L.d (Pv.fz false) (Sh.l (Sh.l (Sh.i IntKind.i64))) nx), (L.d (Pv.fz false) (Sh.l (Sh.p (Sh.l (Sh.i IntKind.i64)) (Sh.p (Sh.l (Sh.i IntKind.i64)) Sh.u))) ps)])), (D.p (Pt.agg [(L.d (Pv.fz false) (Sh.l (Sh.i IntKind.i64)) s), (L.d (Pv.fz false) (Sh.l (Sh.i IntKind.i64)) l)]))] [] = f17M n p i nx ps s l := by
  rw [f17T_ev]
  rfl

abbrev f19h : Hn := h19
noncomputable abbrev f19f : Func := fn 19
abbrev f19G0 := Int → Int → Int → Int → Int → Int → (List (List Int)) → (List (List Int × List Int × Unit)) → (List Int) → (List Int) → (List Bool) → Option Lf
noncomputable def f19H0 (x0_0 : Int) (x0_1 : Int) (x0_2 : Int) (x0_3 : Int) (x0_4 : Int) (x0_5 : Int) (x0_6 : List (List Int)) (x0_7 : List (List Int × List Int × Unit)) (x0_8 : List Int) (x0_9 : List Int) (x0_10 : List Bool) : St := (St.mk [dead, dead, (D.p (Pt.one (L.pv (Id.mk 1 0) 0))), (D.p (Pt.one (L.pv (Id.mk 1 1) 0))), dead, (D.p (Pt.one (L.d (Pv.fz true) (Sh.i IntKind.i64) x0_0))), (D.p (Pt.one (L.d (Pv.fz true) (Sh.i IntKind.i64) x0_1))), (D.p (Pt.one (L.rw (Id.mk 1 2)))), (D.p (Pt.one (L.d (Pv.fz true) (Sh.i IntKind.i64) x0_2))), (D.p (Pt.one (L.d (Pv.fz true) (Sh.i IntKind.i64) x0_3))), dead, dead, dead, dead, dead, dead, dead, dead, dead, dead, dead, dead, dead, dead, dead, dead, dead, dead, dead, dead, dead, dead, dead, dead, dead, dead, dead, dead, dead, dead, dead, dead, dead, dead, dead, dead, dead, dead, dead, dead, dead, dead, dead, dead, dead, dead, dead, dead, dead, dead, dead, dead, dead, dead, dead, dead, dead, dead] [[], [(Ob.va [(L.d (Pv.fz true) (Sh.i IntKind.i64) x0_4), (L.d (Pv.fz true) (Sh.i IntKind.i64) x0_5), (L.d (Pv.fz false) (Sh.l (Sh.l (Sh.i IntKind.i64))) x0_6), (L.d (Pv.fz false) (Sh.l (Sh.p (Sh.l (Sh.i IntKind.i64)) (Sh.p (Sh.l (Sh.i IntKind.i64)) Sh.u))) x0_7)]), (Ob.va [(L.d (Pv.fz false) (Sh.l (Sh.i IntKind.i64)) x0_8), (L.d (Pv.fz false) (Sh.l (Sh.i IntKind.i64)) x0_9)]), (Ob.ro true 0 4 Sh.b Ow.z x0_10 Option.none)]])
noncomputable def f19W0 (G : St → Option Lf) : f19G0 := fun x0_0 x0_1 x0_2 x0_3 x0_4 x0_5 x0_6 x0_7 x0_8 x0_9 x0_10 => G (f19H0 x0_0 x0_1 x0_2 x0_3 x0_4 x0_5 x0_6 x0_7 x0_8 x0_9 x0_10)
abbrev f19G1 := Int → Int → (List Bool) → (List Int) → Option Lf
noncomputable def f19H1 (x1_0 : Int) (x1_1 : Int) (x1_2 : List Bool) (x1_3 : List Int) : St := (St.mk [dead, dead, dead, dead, dead, dead, (D.p (Pt.one (L.d (Pv.fz true) (Sh.i IntKind.i64) x1_0))), (D.p (Pt.one (L.rw (Id.mk 1 0)))), dead, dead, (D.p (Pt.one (L.rw (Id.mk 1 1)))), (D.p (Pt.one (L.d (Pv.fz true) (Sh.i IntKind.i64) x1_1))), dead, dead, dead, dead, dead, dead, dead, dead, dead, dead, dead, dead, dead, dead, dead, dead, dead, dead, dead, dead, dead, dead, dead, dead, dead, dead, dead, dead, dead, dead, dead, dead, dead, dead, dead, dead, dead, dead, dead, dead, dead, dead, dead, dead, dead, dead, dead, dead, dead, dead, dead, dead, dead, dead, dead, dead] [[], [(Ob.ro true 0 4 Sh.b Ow.z x1_2 Option.none), (Ob.ro true 0 3 (Sh.i IntKind.i64) Ow.z x1_3 Option.none)]])
noncomputable def f19W1 (G : St → Option Lf) : f19G1 := fun x1_0 x1_1 x1_2 x1_3 => G (f19H1 x1_0 x1_1 x1_2 x1_3)
noncomputable def f19S1  (g1 : f19G1) (x1_0 : Int) (x1_1 : Int) (x1_2 : List Bool) (x1_3 : List Int) : Option Lf :=
 bif decide (x1_1 < x1_0) then
  bif inb x1_1 x1_2.length then
   bif x1_2.getD x1_1.toNat false then
    bif decide ((x1_3.length + [x1_1].length) * 8 ≤ 140737488355328) then
     g1 (x1_0 : Int) (IntKind.i64.wrap (x1_1 + 1) : Int) (x1_2 : List Bool) (x1_3 ++ [x1_1] : List Int)
    else
     none
   else
    g1 (x1_0 : Int) (IntKind.i64.wrap (x1_1 + 1) : Int) (x1_2 : List Bool) (x1_3 : List Int)
  else
   none
 else
  some (Lf.mk [(Pt.one (L.rw (Id.mk 1 0)))] [] [(Ob.ro true 0 3 (Sh.i IntKind.i64) Ow.z (x1_3 : List Int) Option.none)])
noncomputable def f19L1 (n : Nat)  : Nat → f19G1
  | 0 => fun _ _ _ _ => none
  | m + 1 => fun x1_0 x1_1 x1_2 x1_3 => f19S1   (f19L1 n  m) x1_0 x1_1 x1_2 x1_3
theorem f19S1_ev (n : Nat)  (G : St → Option Lf) (x1_0 : Int) (x1_1 : Int) (x1_2 : List Bool) (x1_3 : List Int) : rnd C10 f19h n Lf (codeOf f19f) [1, 1, 1, 1, 1, 1, 1, 0, 1, 0] [] (endK C10 f19h f19f) G (f19H1 x1_0 x1_1 x1_2 x1_3) = f19S1   (f19W1 G) x1_0 x1_1 x1_2 x1_3 := by kernel_rfl
theorem f19W1_ev (n : Nat)  : ∀ m, (f19W1 (lp C10 f19h n Lf (codeOf f19f) [1, 1, 1, 1, 1, 1, 1, 0, 1, 0] [] (endK C10 f19h f19f) m)) = f19L1 n  m := by
  intro m
  induction m with
  | zero => funext x1_0 x1_1 x1_2 x1_3; exact lp_zero _
  | succ m ih =>
    funext x1_0 x1_1 x1_2 x1_3
    show lp C10 f19h n Lf (codeOf f19f) [1, 1, 1, 1, 1, 1, 1, 0, 1, 0] [] (endK C10 f19h f19f) (m + 1) (f19H1 x1_0 x1_1 x1_2 x1_3) = f19S1   (f19L1 n  m) x1_0 x1_1 x1_2 x1_3
    rw [lp_succ, f19S1_ev, ih]
noncomputable def f19S0 (l1 : f19G1) (g0 : f19G0) (x0_0 : Int) (x0_1 : Int) (x0_2 : Int) (x0_3 : Int) (x0_4 : Int) (x0_5 : Int) (x0_6 : List (List Int)) (x0_7 : List (List Int × List Int × Unit)) (x0_8 : List Int) (x0_9 : List Int) (x0_10 : List Bool) : Option Lf :=
 bif decide (x0_3 < IntKind.i64.wrap (IntKind.i64.wrap (2 * x0_2) + zn x0_9.length)) then
  bif decide (x0_3 ≥ x0_2) then
   bif inb x0_0 x0_10.length then
    bif inb x0_0 x0_6.length then
     bif big x0_8.length && (Nat.blt 0 x0_9.length && (big x0_9.length && (decide (0 ≤ x0_3) && decide (x0_3 ≤ 9223372036854775806)))) then
      bif inb (letF x0_8 x0_9 x0_3.toNat) (x0_6.getD x0_0.toNat []).length then
       g0 ((x0_6.getD x0_0.toNat []).getD (letF x0_8 x0_9 x0_3.toNat).toNat 0 : Int) (x0_1 : Int) (x0_2 : Int) (IntKind.i64.wrap (x0_3 + 1) : Int) (x0_4 : Int) (x0_5 : Int) (x0_6 : List (List Int)) (x0_7 : List (List Int × List Int × Unit)) (x0_8 : List Int) (x0_9 : List Int) (x0_10.set x0_0.toNat true : List Bool)
      else
       none
     else
      none
    else
     none
   else
    none
  else
   bif inb x0_0 x0_6.length then
    bif big x0_8.length && (Nat.blt 0 x0_9.length && (big x0_9.length && (decide (0 ≤ x0_3) && decide (x0_3 ≤ 9223372036854775806)))) then
     bif inb (letF x0_8 x0_9 x0_3.toNat) (x0_6.getD x0_0.toNat []).length then
      g0 ((x0_6.getD x0_0.toNat []).getD (letF x0_8 x0_9 x0_3.toNat).toNat 0 : Int) (x0_1 : Int) (x0_2 : Int) (IntKind.i64.wrap (x0_3 + 1) : Int) (x0_4 : Int) (x0_5 : Int) (x0_6 : List (List Int)) (x0_7 : List (List Int × List Int × Unit)) (x0_8 : List Int) (x0_9 : List Int) (x0_10 : List Bool)
     else
      none
    else
     none
   else
    none
 else
  l1 (x0_1 : Int) (0 : Int) (x0_10 : List Bool) ([] : List Int)
noncomputable def f19L0 (n : Nat)  : Nat → f19G0
  | 0 => fun _ _ _ _ _ _ _ _ _ _ _ => none
  | m + 1 => fun x0_0 x0_1 x0_2 x0_3 x0_4 x0_5 x0_6 x0_7 x0_8 x0_9 x0_10 => f19S0 (f19L1 n  n)  (f19L0 n  m) x0_0 x0_1 x0_2 x0_3 x0_4 x0_5 x0_6 x0_7 x0_8 x0_9 x0_10
theorem f19S0_ev (n : Nat)  (G : St → Option Lf) (x0_0 : Int) (x0_1 : Int) (x0_2 : Int) (x0_3 : Int) (x0_4 : Int) (x0_5 : Int) (x0_6 : List (List Int)) (x0_7 : List (List Int × List Int × Unit)) (x0_8 : List Int) (x0_9 : List Int) (x0_10 : List Bool) : rnd C10 f19h n Lf (codeOf f19f) [1, 1, 1, 1, 1, 0, 1, 0] [] (endK C10 f19h f19f) G (f19H0 x0_0 x0_1 x0_2 x0_3 x0_4 x0_5 x0_6 x0_7 x0_8 x0_9 x0_10) = f19S0 (f19W1 (lp C10 f19h n Lf (codeOf f19f) [1, 1, 1, 1, 1, 1, 1, 0, 1, 0] [] (endK C10 f19h f19f) n))  (f19W0 G) x0_0 x0_1 x0_2 x0_3 x0_4 x0_5 x0_6 x0_7 x0_8 x0_9 x0_10 := by kernel_rfl
theorem f19W0_ev (n : Nat)  : ∀ m, (f19W0 (lp C10 f19h n Lf (codeOf f19f) [1, 1, 1, 1, 1, 0, 1, 0] [] (endK C10 f19h f19f) m)) = f19L0 n  m := by
  intro m
  induction m with
  | zero => funext x0_0 x0_1 x0_2 x0_3 x0_4 x0_5 x0_6 x0_7 x0_8 x0_9 x0_10; exact lp_zero _
  | succ m ih =>
    have e1 : (f19W1 (lp C10 f19h n Lf (codeOf f19f) [1, 1, 1, 1, 1, 1, 1, 0, 1, 0] [] (endK C10 f19h f19f) n)) = (f19L1 n  n) := by
      rw [f19W1_ev]
    funext x0_0 x0_1 x0_2 x0_3 x0_4 x0_5 x0_6 x0_7 x0_8 x0_9 x0_10
    show lp C10 f19h n Lf (codeOf f19f) [1, 1, 1, 1, 1, 0, 1, 0] [] (endK C10 f19h f19f) (m + 1) (f19H0 x0_0 x0_1 x0_2 x0_3 x0_4 x0_5 x0_6 x0_7 x0_8 x0_9 x0_10) = f19S0 (f19L1 n  n)  (f19L0 n  m) x0_0 x0_1 x0_2 x0_3 x0_4 x0_5 x0_6 x0_7 x0_8 x0_9 x0_10
    rw [lp_succ, f19S0_ev, ih, e1]
noncomputable def f19T (l0 : f19G0) (p : Int) (i : Int) (nx : List (List Int)) (ps : List (List Int × List Int × Unit)) (s : List Int) (l : List Int) : Option Lf :=
 bif decide (0 ≤ zn nx.length) && (decide (zn nx.length ≤ zn nx.length) && decide (1 * (zn nx.length).toNat ≤ 140737488355328)) then
  l0 (i : Int) (zn nx.length : Int) (IntKind.i64.wrap (zn s.length + IntKind.i64.wrap (zn nx.length * zn l.length)) : Int) (0 : Int) (p : Int) (i : Int) (nx : List (List Int)) (ps : List (List Int × List Int × Unit)) (s : List Int) (l : List Int) (List.replicate (zn nx.length).toNat false : List Bool)
 else
  none
noncomputable def f19M (n : Nat) (p : Int) (i : Int) (nx : List (List Int)) (ps : List (List Int × List Int × Unit)) (s : List Int) (l : List Int) : Option Lf := f19T (f19L0 n n) p i nx ps s l
theorem f19T_ev (n : Nat) (p : Int) (i : Int) (nx : List (List Int)) (ps : List (List Int × List Int × Unit)) (s : List Int) (l : List Int) : evF C10 f19h n f19f [(D.p (Pt.agg [(L.d (Pv.fz true) (Sh.i IntKind.i64) p), (L.d (Pv.fz true) (Sh.i IntKind.i64) i), (L.d (Pv.fz false) (Sh.l (Sh.l (Sh.i IntKind.i64))) nx), (L.d (Pv.fz false) (Sh.l (Sh.p (Sh.l (Sh.i IntKind.i64)) (Sh.p (Sh.l (Sh.i IntKind.i64)) Sh.u))) ps)])), (D.p (Pt.agg [(L.d (Pv.fz false) (Sh.l (Sh.i IntKind.i64)) s), (L.d (Pv.fz false) (Sh.l (Sh.i IntKind.i64)) l)]))] [] = f19T (f19W0 (lp C10 f19h n Lf (codeOf f19f) [1, 1, 1, 1, 1, 0, 1, 0] [] (endK C10 f19h f19f) n)) p i nx ps s l := by kernel_rfl
theorem f19_ev (n : Nat) (p : Int) (i : Int) (nx : List (List Int)) (ps : List (List Int × List Int × Unit)) (s : List Int) (l : List Int) : evF C10 f19h n f19f [(D.p (Pt.agg [(L.d (Pv.fz true) (Sh.i IntKind.i64) p), (L.d (Pv.fz true) (Sh.i IntKind.i64) i), (L.d (Pv.fz false) (Sh.l (Sh.l (Sh.i IntKind.i64))) nx), (L.d (Pv.fz false) (Sh.l (Sh.p (Sh.l (Sh.i IntKind.i64)) (Sh.p (Sh.l (Sh.i IntKind.i64)) Sh.u))) ps)])), (D.p (Pt.agg [(L.d (Pv.fz false) (Sh.l (Sh.i IntKind.i64)) s), (L.d (Pv.fz false) (Sh.l (Sh.i IntKind.i64)) l)]))] [] = f19M n p i nx ps s l := by
  rw [f19T_ev, f19W0_ev]
  rfl

abbrev f21h : Hn := h21
noncomputable abbrev f21f : Func := fn 21
abbrev f21G0 := (List Int) → (List Int) → Int → Int → (List Int) → (List Int) → Option Lf
noncomputable def f21H0 (x0_0 : List Int) (x0_1 : List Int) (x0_2 : Int) (x0_3 : Int) (x0_4 : List Int) (x0_5 : List Int) : St := (St.mk [(D.p (Pt.one (L.d (Pv.fz false) (Sh.l (Sh.i IntKind.u8)) x0_0))), (D.p (Pt.one (L.d (Pv.fz false) (Sh.l (Sh.i IntKind.u8)) x0_1))), (D.p (Pt.one (L.d (Pv.fz true) (Sh.i IntKind.i64) x0_2))), dead, dead, dead, (D.p (Pt.one (L.pv (Id.mk 1 0) 0))), (D.p (Pt.one (L.pv (Id.mk 1 1) 0))), (D.p (Pt.one (L.d (Pv.fz true) (Sh.i IntKind.i64) x0_3))), dead, dead, dead, dead, dead, dead, dead, dead, dead, dead, dead, dead, dead, dead, dead, dead, dead, dead, dead, dead, dead, dead, dead, dead, dead, dead, dead, dead, dead, dead, dead, dead, dead, dead, dead, dead, dead, dead, dead, dead, dead, dead, dead, dead, dead, dead, dead, dead, dead, dead, dead, dead, dead, dead, dead, dead, dead] [[], [(Ob.va [L.nl, L.nl]), (Ob.va [(L.rw (Id.mk 1 2)), (L.rw (Id.mk 1 3))]), (Ob.ro true 0 3 (Sh.i IntKind.i64) Ow.z x0_4 Option.none), (Ob.ro true 0 3 (Sh.i IntKind.i64) Ow.z x0_5 Option.none)]])
noncomputable def f21W0 (G : St → Option Lf) : f21G0 := fun x0_0 x0_1 x0_2 x0_3 x0_4 x0_5 => G (f21H0 x0_0 x0_1 x0_2 x0_3 x0_4 x0_5)
abbrev f21G1 := (List Int) → Int → Int → (List Int) → (List Int) → Option Lf
noncomputable def f21H1 (x1_0 : List Int) (x1_1 : Int) (x1_2 : Int) (x1_3 : List Int) (x1_4 : List Int) : St := (St.mk [dead, (D.p (Pt.one (L.d (Pv.fz false) (Sh.l (Sh.i IntKind.u8)) x1_0))), (D.p (Pt.one (L.d (Pv.fz true) (Sh.i IntKind.i64) x1_1))), dead, dead, dead, (D.p (Pt.one (L.pv (Id.mk 1 0) 0))), (D.p (Pt.one (L.pv (Id.mk 1 1) 0))), dead, (D.p (Pt.one (L.d (Pv.fz true) (Sh.i IntKind.i64) x1_2))), dead, dead, dead, dead, dead, dead, dead, dead, dead, dead, dead, dead, dead, dead, dead, dead, dead, dead, dead, dead, dead, dead, dead, dead, dead, dead, dead, dead, dead, dead, dead, dead, dead, dead, dead, dead, dead, dead, dead, dead, dead, dead, dead, dead, dead, dead, dead, dead, dead, dead, dead, dead, dead, dead, dead, dead] [[], [(Ob.va [L.nl, L.nl]), (Ob.va [(L.rw (Id.mk 1 2)), (L.rw (Id.mk 1 3))]), (Ob.ro true 0 3 (Sh.i IntKind.i64) Ow.z x1_3 Option.none), (Ob.ro true 0 3 (Sh.i IntKind.i64) Ow.z x1_4 Option.none)]])
noncomputable def f21W1 (G : St → Option Lf) : f21G1 := fun x1_0 x1_1 x1_2 x1_3 x1_4 => G (f21H1 x1_0 x1_1 x1_2 x1_3 x1_4)
noncomputable def f21S1  (g1 : f21G1) (x1_0 : List Int) (x1_1 : Int) (x1_2 : Int) (x1_3 : List Int) (x1_4 : List Int) : Option Lf :=
 bif decide (x1_2 < zn x1_0.length) && decide (x1_2 < 8) then
  bif inb x1_2 x1_0.length then
   bif decide (0 ≤ IntKind.u64.wrap x1_1) then
    bif decide (shlF IntKind.i64 1 (IntKind.u64.wrap x1_1) ≠ 0) then
     bif decide ((x1_4.length + [(IntKind.i64.wrap (x1_0.getD x1_2.toNat 0)).tmod (shlF IntKind.i64 1 (IntKind.u64.wrap x1_1))].length) * 8 ≤ 140737488355328) then
      g1 (x1_0 : List Int) (x1_1 : Int) (IntKind.i64.wrap (x1_2 + 1) : Int) (x1_3 : List Int) (x1_4 ++ [(IntKind.i64.wrap (x1_0.getD x1_2.toNat 0)).tmod (shlF IntKind.i64 1 (IntKind.u64.wrap x1_1))] : List Int)
     else
      none
    else
     none
   else
    none
  else
   none
 else
  bif zn x1_4.length == 0 then
   some (Lf.mk [(Pt.agg [(L.rw (Id.mk 1 0)), (L.rw (Id.mk 1 1))])] [] [(Ob.ro true 0 3 (Sh.i IntKind.i64) Ow.z (x1_3 : List Int) Option.none), (Ob.ro true 0 3 (Sh.i IntKind.i64) Ow.z ([0] : List Int) Option.none)])
  else
   some (Lf.mk [(Pt.agg [(L.rw (Id.mk 1 0)), (L.rw (Id.mk 1 1))])] [] [(Ob.ro true 0 3 (Sh.i IntKind.i64) Ow.z (x1_3 : List Int) Option.none), (Ob.ro true 0 3 (Sh.i IntKind.i64) Ow.z (x1_4 : List Int) Option.none)])
noncomputable def f21L1 (n : Nat)  : Nat → f21G1
  | 0 => fun _ _ _ _ _ => none
  | m + 1 => fun x1_0 x1_1 x1_2 x1_3 x1_4 => f21S1   (f21L1 n  m) x1_0 x1_1 x1_2 x1_3 x1_4
theorem f21S1_ev (n : Nat)  (G : St → Option Lf) (x1_0 : List Int) (x1_1 : Int) (x1_2 : Int) (x1_3 : List Int) (x1_4 : List Int) : rnd C10 f21h n Lf (codeOf f21f) [1, 1, 1, 0, 1, 0] [] (endK C10 f21h f21f) G (f21H1 x1_0 x1_1 x1_2 x1_3 x1_4) = f21S1   (f21W1 G) x1_0 x1_1 x1_2 x1_3 x1_4 := by kernel_rfl
theorem f21W1_ev (n : Nat)  : ∀ m, (f21W1 (lp C10 f21h n Lf (codeOf f21f) [1, 1, 1, 0, 1, 0] [] (endK C10 f21h f21f) m)) = f21L1 n  m := by
  intro m
  induction m with
  | zero => funext x1_0 x1_1 x1_2 x1_3 x1_4; exact lp_zero _
  | succ m ih =>
    funext x1_0 x1_1 x1_2 x1_3 x1_4
    show lp C10 f21h n Lf (codeOf f21f) [1, 1, 1, 0, 1, 0] [] (endK C10 f21h f21f) (m + 1) (f21H1 x1_0 x1_1 x1_2 x1_3 x1_4) = f21S1   (f21L1 n  m) x1_0 x1_1 x1_2 x1_3 x1_4
    rw [lp_succ, f21S1_ev, ih]
noncomputable def f21S0 (l1 : f21G1) (g0 : f21G0) (x0_0 : List Int) (x0_1 : List Int) (x0_2 : Int) (x0_3 : Int) (x0_4 : List Int) (x0_5 : List Int) : Option Lf :=
 bif decide (x0_3 < zn x0_0.length) && decide (x0_3 < 8) then
  bif inb x0_3 x0_0.length then
   bif decide (0 ≤ IntKind.u64.wrap x0_2) then
    bif decide (shlF IntKind.i64 1 (IntKind.u64.wrap x0_2) ≠ 0) then
     bif decide ((x0_4.length + [(IntKind.i64.wrap (x0_0.getD x0_3.toNat 0)).tmod (shlF IntKind.i64 1 (IntKind.u64.wrap x0_2))].length) * 8 ≤ 140737488355328) then
      g0 (x0_0 : List Int) (x0_1 : List Int) (x0_2 : Int) (IntKind.i64.wrap (x0_3 + 1) : Int) (x0_4 ++ [(IntKind.i64.wrap (x0_0.getD x0_3.toNat 0)).tmod (shlF IntKind.i64 1 (IntKind.u64.wrap x0_2))] : List Int) (x0_5 : List Int)
     else
      none
    else
     none
   else
    none
  else
   none
 else
  l1 (x0_1 : List Int) (x0_2 : Int) (0 : Int) (x0_4 : List Int) (x0_5 : List Int)
noncomputable def f21L0 (n : Nat)  : Nat → f21G0
  | 0 => fun _ _ _ _ _ _ => none
  | m + 1 => fun x0_0 x0_1 x0_2 x0_3 x0_4 x0_5 => f21S0 (f21L1 n  n)  (f21L0 n  m) x0_0 x0_1 x0_2 x0_3 x0_4 x0_5
theorem f21S0_ev (n : Nat)  (G : St → Option Lf) (x0_0 : List Int) (x0_1 : List Int) (x0_2 : Int) (x0_3 : Int) (x0_4 : List Int) (x0_5 : List Int) : rnd C10 f21h n Lf (codeOf f21f) [1, 1, 0, 1, 0] [] (endK C10 f21h f21f) G (f21H0 x0_0 x0_1 x0_2 x0_3 x0_4 x0_5) = f21S0 (f21W1 (lp C10 f21h n Lf (codeOf f21f) [1, 1, 1, 0, 1, 0] [] (endK C10 f21h f21f) n))  (f21W0 G) x0_0 x0_1 x0_2 x0_3 x0_4 x0_5 := by kernel_rfl
theorem f21W0_ev (n : Nat)  : ∀ m, (f21W0 (lp C10 f21h n Lf (codeOf f21f) [1, 1, 0, 1, 0] [] (endK C10 f21h f21f) m)) = f21L0 n  m := by
  intro m
  induction m with
  | zero => funext x0_0 x0_1 x0_2 x0_3 x0_4 x0_5; exact lp_zero _
  | succ m ih =>
    have e1 : (f21W1 (lp C10 f21h n Lf (codeOf f21f) [1, 1, 1, 0, 1, 0] [] (endK C10 f21h f21f) n)) = (f21L1 n  n) := by
      rw [f21W1_ev]
    funext x0_0 x0_1 x0_2 x0_3 x0_4 x0_5
    show lp C10 f21h n Lf (codeOf f21f) [1, 1, 0, 1, 0] [] (endK C10 f21h f21f) (m + 1) (f21H0 x0_0 x0_1 x0_2 x0_3 x0_4 x0_5) = f21S0 (f21L1 n  n)  (f21L0 n  m) x0_0 x0_1 x0_2 x0_3 x0_4 x0_5
    rw [lp_succ, f21S0_ev, ih, e1]
noncomputable def f21T (l0 : f21G0) (s : List Int) (l : List Int) (z : Int) : Option Lf :=
 l0 (s : List Int) (l : List Int) (z : Int) (0 : Int) ([] : List Int) ([] : List Int)
noncomputable def f21M (n : Nat) (s : List Int) (l : List Int) (z : Int) : Option Lf := f21T (f21L0 n n) s l z
theorem f21T_ev (n : Nat) (s : List Int) (l : List Int) (z : Int) : evF C10 f21h n f21f [(D.p (Pt.one (L.d (Pv.fz false) (Sh.l (Sh.i IntKind.u8)) s))), (D.p (Pt.one (L.d (Pv.fz false) (Sh.l (Sh.i IntKind.u8)) l))), (D.p (Pt.one (L.d (Pv.fz true) (Sh.i IntKind.i64) z)))] [] = f21T (f21W0 (lp C10 f21h n Lf (codeOf f21f) [1, 1, 0, 1, 0] [] (endK C10 f21h f21f) n)) s l z := by kernel_rfl
theorem f21_ev (n : Nat) (s : List Int) (l : List Int) (z : Int) : evF C10 f21h n f21f [(D.p (Pt.one (L.d (Pv.fz false) (Sh.l (Sh.i IntKind.u8)) s))), (D.p (Pt.one (L.d (Pv.fz false) (Sh.l (Sh.i IntKind.u8)) l))), (D.p (Pt.one (L.d (Pv.fz true) (Sh.i IntKind.i64) z)))] [] = f21M n s l z := by
  rw [f21T_ev, f21W0_ev]
  rfl
end Go.S18
