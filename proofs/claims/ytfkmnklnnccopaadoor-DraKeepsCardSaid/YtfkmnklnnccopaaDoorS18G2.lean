/-
  Seat 18: what its functions come to; functional forms of those that take closures.
-/
import Derived.Test.YtfkmnklnnccopaaDoorS18B
import Derived.Test.YtfkmnklnnccopaaDoorEd
open Go Go.En Go.S18
namespace Go.S18
/-! ### what the functions come to -/
abbrev PairV := List Int × List Int × Unit
def goodB (l : List Int) (p : PairV) : Bool := !(p.1.any (has l)) && p.2.1.any (has l)
def badL (n p : Int) (l : List Int) : Bool := !(zn l.length == ((2 ^ p.toNat : Nat) : Int)) || l.any (nin n)
def badP (n : Int) (q : PairV) : Bool := !(riseF n (-1) q.1) || !(riseF n (-1) q.2.1)
def headOk (p i : Int) (nx : List (List Int)) (ps : List PairV) : Bool := (decide (0 ≤ p) && decide (p ≤ 6)) && ((decide (1 ≤ zn nx.length) && decide (zn nx.length ≤ 4096)) && (inF (zn nx.length) i && decide (zn ps.length ≤ 4096)))
def drOk (p i : Int) (nx : List (List Int)) (ps : List PairV) : Bool := headOk p i nx ps && (!(nx.any (badL (zn nx.length) p)) && !(ps.any (badP (zn nx.length))))
def drG (nx : List (List Int)) (ps : List PairV) : Bool := big nx.length && (nx.all (fun l => big l.length) && (big ps.length && ps.all (fun q => big q.1.length && big q.2.1.length)))
def goodI (l : List Int) (ps : List PairV) : Int := idxG (goodB l) 0 ps
def wdOk (p : Int) (s l : List Int) : Bool := !(zn l.length == 0) && (decide (zn (s ++ l).length ≤ 64) && !((s ++ l).any (nin ((2 ^ p.toNat : Nat) : Int))))
def stepF (nx : List (List Int)) (q c : Int) : Int := (nx.getD q.toNat []).getD c.toNat 0
def runF (nx : List (List Int)) : Int → List Int → Int
  | q, [] => q
  | q, c :: w => runF nx (stepF nx q c) w
def rounds (nx : List (List Int)) (l : List Int) : Nat → Int → Int
  | 0, q => q
  | m + 1, q => rounds nx l m (runF nx q l)
/-- behind j letters of a loop -/
def stF (nx : List (List Int)) (l : List Int) (q : Int) : Nat → Int
  | 0 => q
  | j + 1 => stepF nx (stF nx l q j) (l.getD (j % l.length) 0)
def beginF (i : Int) (nx : List (List Int)) (s l : List Int) : Int := rounds nx l nx.length (runF nx i s)
def seenIs (i : Int) (nx : List (List Int)) (s l : List Int) (x : Nat) : Bool := (List.range (nx.length * l.length)).any fun j => stF nx l (beginF i nx s l) j == (x : Int)
def seenF (i : Int) (nx : List (List Int)) (s l : List Int) : List Int := ((List.range nx.length).filter (seenIs i nx s l)).map fun (x : Nat) => ((x : Nat) : Int)
def roI (v : List Int) : Ob := .ro true 0 3 (.i .i64) .z v none
/-! ### contracts -/
def gN (a g : Nat) (o : Out) : Out := bif g.beq a then o else .fail
def containsS : En.Spec := ⟨[], fun ds os => match ds, os with
  | [.p (.one (.d (.fz false) (.l (.i .i64)) l)), .p (.one (.d (.fz true) (.i .i64) x))], [] => .br (big l.length) (.leaf [pB (has l x)] [] []) .fail
  | _, _ => .fail⟩
def meet45S : En.Spec := ⟨[], fun ds os => match ds, os with
  | [.p (.one (.d (.fz true) (.i .i64) x)), .p (.one (.pv ⟨0, 0⟩ 0))], [.va [.d (.fz false) (.l (.i .i64)) b]] => .br (big b.length) (.leaf [pB (has b x)] [vaL b] []) .fail
  | _, _ => .fail⟩
def idx40S : En.Spec := ⟨[], fun ds os => match ds, os with
  | [.p (.one (.d (.fz false) (.l (.i .i64)) l)), .p (.one (.fn g [.b ⟨0, 0⟩]))], [.va [.d (.fz true) (.i .i64) n]] => gN 27 g <| .br (big l.length) (.leaf [pI (idxG (nin n) 0 l)] [vaI n] []) .fail
  | [.p (.one (.d (.fz false) (.l (.i .i64)) l)), .p (.one (.fn g [.b ⟨0, 0⟩]))], [.va [.d (.fz false) (.l (.i .i64)) b]] => gN 45 g <| .br (big l.length && big b.length) (.leaf [pI (idxG (has b) 0 l)] [vaL b] []) .fail
  | [.p (.one (.d (.fz false) (.l (.i .i64)) l)), .p (.one (.fn g [.b ⟨0, 0⟩]))], [.va [.d (.fz true) (.i .i64) p, .d (.fz true) (.i .i64) i, .d (.fz false) (.l (.l (.i .i64))) nx, .d (.fz false) (.l (.p (.l (.i .i64)) (.p (.l (.i .i64)) .u))) ps]] =>
    gN 37 g <| .br (big l.length && decide (0 ≤ p)) (.leaf [pI (idxG (nin (shlF .i64 1 p)) 0 l)] [vaD p i nx ps] []) .fail
  | _, _ => .fail⟩
def con26S : En.Spec := ⟨[], fun ds os => match ds, os with
  | [.p (.one (.d (.fz false) (.l (.i .i64)) l)), .p (.one (.fn g [.b ⟨0, 0⟩]))], [.va [.d (.fz true) (.i .i64) n]] => gN 27 g <| .br (big l.length) (.leaf [pB (l.any (nin n))] [vaI n] []) .fail
  | [.p (.one (.d (.fz false) (.l (.i .i64)) l)), .p (.one (.fn g [.b ⟨0, 0⟩]))], [.va [.d (.fz false) (.l (.i .i64)) b]] => gN 45 g <| .br (big l.length && big b.length) (.leaf [pB (l.any (has b))] [vaL b] []) .fail
  | [.p (.one (.d (.fz false) (.l (.i .i64)) l)), .p (.one (.fn g [.b ⟨0, 0⟩]))], [.va [.d (.fz true) (.i .i64) p, .d (.fz true) (.i .i64) i, .d (.fz false) (.l (.l (.i .i64))) nx, .d (.fz false) (.l (.p (.l (.i .i64)) (.p (.l (.i .i64)) .u))) ps]] =>
    gN 37 g <| .br (big l.length && decide (0 ≤ p)) (.leaf [pB (l.any (nin (shlF .i64 1 p)))] [vaD p i nx ps] []) .fail
  | _, _ => .fail⟩
def meetsS : En.Spec := ⟨[], fun ds os => match ds, os with
  | [.p (.one (.d (.fz false) (.l (.i .i64)) a)), .p (.one (.d (.fz false) (.l (.i .i64)) b))], [] => .br (big a.length && big b.length) (.leaf [pB (a.any (has b))] [] []) .fail
  | _, _ => .fail⟩
def good33S : En.Spec := ⟨[], fun ds os => match ds, os with
  | [.p (.agg [.d (.fz false) (.l (.i .i64)) a, .d (.fz false) (.l (.i .i64)) b]), .p (.one (.pv ⟨0, 0⟩ 0))], [.va [.d (.fz false) (.l (.i .i64)) l]] =>
    .br (big a.length && (big b.length && big l.length)) (.leaf [pB (goodB l (a, b, ()))] [vaL l] []) .fail
  | _, _ => .fail⟩
def pairG (q : PairV) : Bool := big q.1.length && big q.2.1.length
def idx32S : En.Spec := ⟨[], fun ds os => match ds, os with
  | [.p (.one (.d (.fz false) (.l (.p (.l (.i .i64)) (.p (.l (.i .i64)) .u))) ps)), .p (.one (.fn g [.b ⟨0, 0⟩]))], [.va [.d (.fz false) (.l (.i .i64)) l]] => gN 33 g <| .br (big ps.length && (ps.all pairG && big l.length)) (.leaf [pI (goodI l ps)] [vaL l] []) .fail
  | _, _ => .fail⟩
def concatS : En.Spec := ⟨[], fun ds os => match ds, os with
  | [.p (.one (.d (.fz false) (.l (.l (.i .i64))) vs))], [] => .br (Nat.ble vs.length 2 && vs.all fun v => Nat.ble v.length 1000000) (.leaf [.one (.rw ⟨1, 0⟩)] [] [roI vs.flatten]) .fail
  | _, _ => .fail⟩
noncomputable def C2 : Ctx := ctxOf C0 [(52, indexS)]
noncomputable def C3 : Ctx := ctxOf C0 [(46, containsS)]
noncomputable def C4 : Ctx := ctxOf C0 [(27, bad27S), (37, bad37S), (45, meet45S)]
noncomputable def C5 : Ctx := ctxOf C0 [(40, idx40S)]
noncomputable def C6 : Ctx := ctxOf C0 [(26, con26S)]
noncomputable def C7 : Ctx := ctxOf C0 [(34, meetsS)]
noncomputable def C8 : Ctx := ctxOf C0 [(33, good33S)]
noncomputable def C9 : Ctx := ctxOf C0 [(47, growS 3)]
def h40 : Hn := ⟨fun | 2 => [0, 1, 7, 8] | _ => [], fun _ => [], fun _ => false⟩
def h36 : Hn := ⟨fun | 3 => [0, 3, 9, 10, 11] | 11 => [6, 25, 26, 27] | _ => [], fun _ => [], fun _ => false⟩

abbrev f46h : Hn := hn0
noncomputable abbrev f46f : Func := fn 46
noncomputable def f46T  (l : List Int) (x : Int) : Option Lf :=
 bif big l.length then
  some (Lf.mk [(Pt.one (L.d (Pv.fz true) Sh.b (decide (idxG (fun (y : Int) => x == y) 0 l ≥ 0) : Bool)))] [] [])
 else
  none
noncomputable def f46M (_ : Nat) (l : List Int) (x : Int) : Option Lf := f46T  l x
theorem f46T_ev (n : Nat) (l : List Int) (x : Int) : evF C2 f46h n f46f [(D.p (Pt.one (L.d (Pv.fz false) (Sh.l (Sh.i IntKind.i64)) l))), (D.p (Pt.one (L.d (Pv.fz true) (Sh.i IntKind.i64) x)))] [] = f46T  l x := by kernel_rfl
theorem f46_ev (n : Nat) (l : List Int) (x : Int) : evF C2 f46h n f46f [(D.p (Pt.one (L.d (Pv.fz false) (Sh.l (Sh.i IntKind.i64)) l))), (D.p (Pt.one (L.d (Pv.fz true) (Sh.i IntKind.i64) x)))] [] = f46M n l x := by
  rw [f46T_ev]
  rfl

abbrev f45h : Hn := hn0
noncomputable abbrev f45f : Func := fn 45
noncomputable def f45T  (x : Int) (b : List Int) : Option Lf :=
 bif big b.length then
  some (Lf.mk [(Pt.one (L.d (Pv.fz true) Sh.b (has b x : Bool)))] [(Ob.va [(L.d (Pv.fz false) (Sh.l (Sh.i IntKind.i64)) (b : List Int))])] [])
 else
  none
noncomputable def f45M (_ : Nat) (x : Int) (b : List Int) : Option Lf := f45T  x b
theorem f45T_ev (n : Nat) (x : Int) (b : List Int) : evF C3 f45h n f45f [(D.p (Pt.one (L.d (Pv.fz true) (Sh.i IntKind.i64) x))), (D.p (Pt.one (L.pv (Id.mk 0 0) 0)))] [(Ob.va [(L.d (Pv.fz false) (Sh.l (Sh.i IntKind.i64)) b)])] = f45T  x b := by kernel_rfl
theorem f45_ev (n : Nat) (x : Int) (b : List Int) : evF C3 f45h n f45f [(D.p (Pt.one (L.d (Pv.fz true) (Sh.i IntKind.i64) x))), (D.p (Pt.one (L.pv (Id.mk 0 0) 0)))] [(Ob.va [(L.d (Pv.fz false) (Sh.l (Sh.i IntKind.i64)) b)])] = f45M n x b := by
  rw [f45T_ev]
  rfl

abbrev f40ah : Hn := h40
noncomputable abbrev f40af : Func := fn 40
abbrev f40aG0 := (List Int) → Int → Int → Int → Option Lf
noncomputable def f40aH0 (x0_0 : List Int) (x0_1 : Int) (x0_2 : Int) (x0_3 : Int) : St := (St.mk [(D.p (Pt.one (L.d (Pv.fz false) (Sh.l (Sh.i IntKind.i64)) x0_0))), (D.p (Pt.one (L.fn 27 [(Cp.b (Id.mk 0 0))]))), dead, dead, dead, dead, dead, (D.p (Pt.one (L.d (Pv.fz true) (Sh.i IntKind.i64) x0_1))), (D.p (Pt.one (L.d (Pv.fz true) (Sh.i IntKind.i64) x0_2))), dead, dead, dead, dead, dead, dead, dead, dead, dead, dead] [[(Ob.va [(L.d (Pv.fz true) (Sh.i IntKind.i64) x0_3)])], []])
noncomputable def f40aW0 (G : St → Option Lf) : f40aG0 := fun x0_0 x0_1 x0_2 x0_3 => G (f40aH0 x0_0 x0_1 x0_2 x0_3)
noncomputable def f40aS0  (g0 : f40aG0) (x0_0 : List Int) (x0_1 : Int) (x0_2 : Int) (x0_3 : Int) : Option Lf :=
 bif decide (x0_2 < x0_1) then
  bif inb x0_2 x0_0.length then
   bif nin x0_3 (x0_0.getD x0_2.toNat 0) then
    some (Lf.mk [(Pt.one (L.d (Pv.fz true) (Sh.i IntKind.i64) (x0_2 : Int)))] [(Ob.va [(L.d (Pv.fz true) (Sh.i IntKind.i64) (x0_3 : Int))])] [])
   else
    g0 (x0_0 : List Int) (x0_1 : Int) (IntKind.i64.wrap (x0_2 + 1) : Int) (x0_3 : Int)
  else
   none
 else
  some (Lf.mk [(Pt.one (L.d (Pv.fz true) (Sh.i IntKind.i64) (-1 : Int)))] [(Ob.va [(L.d (Pv.fz true) (Sh.i IntKind.i64) (x0_3 : Int))])] [])
noncomputable def f40aL0 (n : Nat)  : Nat → f40aG0
  | 0 => fun _ _ _ _ => none
  | m + 1 => fun x0_0 x0_1 x0_2 x0_3 => f40aS0   (f40aL0 n  m) x0_0 x0_1 x0_2 x0_3
theorem f40aS0_ev (n : Nat)  (G : St → Option Lf) (x0_0 : List Int) (x0_1 : Int) (x0_2 : Int) (x0_3 : Int) : rnd C4 f40ah n Lf (codeOf f40af) [1, 0, 1, 0] [] (endK C4 f40ah f40af) G (f40aH0 x0_0 x0_1 x0_2 x0_3) = f40aS0   (f40aW0 G) x0_0 x0_1 x0_2 x0_3 := by kernel_rfl
theorem f40aW0_ev (n : Nat)  : ∀ m, (f40aW0 (lp C4 f40ah n Lf (codeOf f40af) [1, 0, 1, 0] [] (endK C4 f40ah f40af) m)) = f40aL0 n  m := by
  intro m
  induction m with
  | zero => funext x0_0 x0_1 x0_2 x0_3; exact lp_zero _
  | succ m ih =>
    funext x0_0 x0_1 x0_2 x0_3
    show lp C4 f40ah n Lf (codeOf f40af) [1, 0, 1, 0] [] (endK C4 f40ah f40af) (m + 1) (f40aH0 x0_0 x0_1 x0_2 x0_3) = f40aS0   (f40aL0 n  m) x0_0 x0_1 x0_2 x0_3
    rw [lp_succ, f40aS0_ev, ih]
noncomputable def f40aT (l0 : f40aG0) (l : List Int) (z : Int) : Option Lf :=
 l0 (l : List Int) (zn l.length : Int) (0 : Int) (z : Int)
noncomputable def f40aM (n : Nat) (l : List Int) (z : Int) : Option Lf := f40aT (f40aL0 n n) l z
theorem f40aT_ev (n : Nat) (l : List Int) (z : Int) : evF C4 f40ah n f40af [(D.p (Pt.one (L.d (Pv.fz false) (Sh.l (Sh.i IntKind.i64)) l))), (D.p (Pt.one (L.fn 27 [(Cp.b (Id.mk 0 0))])))] [(Ob.va [(L.d (Pv.fz true) (Sh.i IntKind.i64) z)])] = f40aT (f40aW0 (lp C4 f40ah n Lf (codeOf f40af) [1, 0, 1, 0] [] (endK C4 f40ah f40af) n)) l z := by kernel_rfl
theorem f40a_ev (n : Nat) (l : List Int) (z : Int) : evF C4 f40ah n f40af [(D.p (Pt.one (L.d (Pv.fz false) (Sh.l (Sh.i IntKind.i64)) l))), (D.p (Pt.one (L.fn 27 [(Cp.b (Id.mk 0 0))])))] [(Ob.va [(L.d (Pv.fz true) (Sh.i IntKind.i64) z)])] = f40aM n l z := by
  rw [f40aT_ev, f40aW0_ev]
  rfl

abbrev f40bh : Hn := h40
noncomputable abbrev f40bf : Func := fn 40
abbrev f40bG0 := (List Int) → Int → Int → (List Int) → Option Lf
noncomputable def f40bH0 (x0_0 : List Int) (x0_1 : Int) (x0_2 : Int) (x0_3 : List Int) : St := (St.mk [(D.p (Pt.one (L.d (Pv.fz false) (Sh.l (Sh.i IntKind.i64)) x0_0))), (D.p (Pt.one (L.fn 45 [(Cp.b (Id.mk 0 0))]))), dead, dead, dead, dead, dead, (D.p (Pt.one (L.d (Pv.fz true) (Sh.i IntKind.i64) x0_1))), (D.p (Pt.one (L.d (Pv.fz true) (Sh.i IntKind.i64) x0_2))), dead, dead, dead, dead, dead, dead, dead, dead, dead, dead] [[(Ob.va [(L.d (Pv.fz false) (Sh.l (Sh.i IntKind.i64)) x0_3)])], []])
noncomputable def f40bW0 (G : St → Option Lf) : f40bG0 := fun x0_0 x0_1 x0_2 x0_3 => G (f40bH0 x0_0 x0_1 x0_2 x0_3)
noncomputable def f40bS0  (g0 : f40bG0) (x0_0 : List Int) (x0_1 : Int) (x0_2 : Int) (x0_3 : List Int) : Option Lf :=
 bif decide (x0_2 < x0_1) then
  bif inb x0_2 x0_0.length then
   bif big x0_3.length then
    bif has x0_3 (x0_0.getD x0_2.toNat 0) then
     some (Lf.mk [(Pt.one (L.d (Pv.fz true) (Sh.i IntKind.i64) (x0_2 : Int)))] [(Ob.va [(L.d (Pv.fz false) (Sh.l (Sh.i IntKind.i64)) (x0_3 : List Int))])] [])
    else
     g0 (x0_0 : List Int) (x0_1 : Int) (IntKind.i64.wrap (x0_2 + 1) : Int) (x0_3 : List Int)
   else
    none
  else
   none
 else
  some (Lf.mk [(Pt.one (L.d (Pv.fz true) (Sh.i IntKind.i64) (-1 : Int)))] [(Ob.va [(L.d (Pv.fz false) (Sh.l (Sh.i IntKind.i64)) (x0_3 : List Int))])] [])
noncomputable def f40bL0 (n : Nat)  : Nat → f40bG0
  | 0 => fun _ _ _ _ => none
  | m + 1 => fun x0_0 x0_1 x0_2 x0_3 => f40bS0   (f40bL0 n  m) x0_0 x0_1 x0_2 x0_3
theorem f40bS0_ev (n : Nat)  (G : St → Option Lf) (x0_0 : List Int) (x0_1 : Int) (x0_2 : Int) (x0_3 : List Int) : rnd C4 f40bh n Lf (codeOf f40bf) [1, 0, 1, 0] [] (endK C4 f40bh f40bf) G (f40bH0 x0_0 x0_1 x0_2 x0_3) = f40bS0   (f40bW0 G) x0_0 x0_1 x0_2 x0_3 := by kernel_rfl
theorem f40bW0_ev (n : Nat)  : ∀ m, (f40bW0 (lp C4 f40bh n Lf (codeOf f40bf) [1, 0, 1, 0] [] (endK C4 f40bh f40bf) m)) = f40bL0 n  m := by
  intro m
  induction m with
  | zero => funext x0_0 x0_1 x0_2 x0_3; exact lp_zero _
  | succ m ih =>
    funext x0_0 x0_1 x0_2 x0_3
    show lp C4 f40bh n Lf (codeOf f40bf) [1, 0, 1, 0] [] (endK C4 f40bh f40bf) (m + 1) (f40bH0 x0_0 x0_1 x0_2 x0_3) = f40bS0   (f40bL0 n  m) x0_0 x0_1 x0_2 x0_3
    rw [lp_succ, f40bS0_ev, ih]
noncomputable def f40bT (l0 : f40bG0) (l : List Int) (b : List Int) : Option Lf :=
 l0 (l : List Int) (zn l.length : Int) (0 : Int) (b : List Int)
noncomputable def f40bM (n : Nat) (l : List Int) (b : List Int) : Option Lf := f40bT (f40bL0 n n) l b
theorem f40bT_ev (n : Nat) (l : List Int) (b : List Int) : evF C4 f40bh n f40bf [(D.p (Pt.one (L.d (Pv.fz false) (Sh.l (Sh.i IntKind.i64)) l))), (D.p (Pt.one (L.fn 45 [(Cp.b (Id.mk 0 0))])))] [(Ob.va [(L.d (Pv.fz false) (Sh.l (Sh.i IntKind.i64)) b)])] = f40bT (f40bW0 (lp C4 f40bh n Lf (codeOf f40bf) [1, 0, 1, 0] [] (endK C4 f40bh f40bf) n)) l b := by kernel_rfl
theorem f40b_ev (n : Nat) (l : List Int) (b : List Int) : evF C4 f40bh n f40bf [(D.p (Pt.one (L.d (Pv.fz false) (Sh.l (Sh.i IntKind.i64)) l))), (D.p (Pt.one (L.fn 45 [(Cp.b (Id.mk 0 0))])))] [(Ob.va [(L.d (Pv.fz false) (Sh.l (Sh.i IntKind.i64)) b)])] = f40bM n l b := by
  rw [f40bT_ev, f40bW0_ev]
  rfl

abbrev f40ch : Hn := h40
noncomputable abbrev f40cf : Func := fn 40
abbrev f40cG0 := (List Int) → Int → Int → Int → Int → (List (List Int)) → (List (List Int × List Int × PUnit)) → Option Lf
noncomputable def f40cH0 (x0_0 : List Int) (x0_1 : Int) (x0_2 : Int) (x0_3 : Int) (x0_4 : Int) (x0_5 : List (List Int)) (x0_6 : List (List Int × List Int × PUnit)) : St := (St.mk [(D.p (Pt.one (L.d (Pv.fz false) (Sh.l (Sh.i IntKind.i64)) x0_0))), (D.p (Pt.one (L.fn 37 [(Cp.b (Id.mk 0 0))]))), dead, dead, dead, dead, dead, (D.p (Pt.one (L.d (Pv.fz true) (Sh.i IntKind.i64) x0_1))), (D.p (Pt.one (L.d (Pv.fz true) (Sh.i IntKind.i64) x0_2))), dead, dead, dead, dead, dead, dead, dead, dead, dead, dead] [[(Ob.va [(L.d (Pv.fz true) (Sh.i IntKind.i64) x0_3), (L.d (Pv.fz true) (Sh.i IntKind.i64) x0_4), (L.d (Pv.fz false) (Sh.l (Sh.l (Sh.i IntKind.i64))) x0_5), (L.d (Pv.fz false) (Sh.l (Sh.p (Sh.l (Sh.i IntKind.i64)) (Sh.p (Sh.l (Sh.i IntKind.i64)) Sh.u))) x0_6)])], []])
noncomputable def f40cW0 (G : St → Option Lf) : f40cG0 := fun x0_0 x0_1 x0_2 x0_3 x0_4 x0_5 x0_6 => G (f40cH0 x0_0 x0_1 x0_2 x0_3 x0_4 x0_5 x0_6)
noncomputable def f40cS0  (g0 : f40cG0) (x0_0 : List Int) (x0_1 : Int) (x0_2 : Int) (x0_3 : Int) (x0_4 : Int) (x0_5 : List (List Int)) (x0_6 : List (List Int × List Int × PUnit)) : Option Lf :=
 bif decide (x0_2 < x0_1) then
  bif inb x0_2 x0_0.length then
   bif decide (0 ≤ x0_3) then
    bif nin (shlF IntKind.i64 1 x0_3) (x0_0.getD x0_2.toNat 0) then
     some (Lf.mk [(Pt.one (L.d (Pv.fz true) (Sh.i IntKind.i64) (x0_2 : Int)))] [(Ob.va [(L.d (Pv.fz true) (Sh.i IntKind.i64) (x0_3 : Int)), (L.d (Pv.fz true) (Sh.i IntKind.i64) (x0_4 : Int)), (L.d (Pv.fz false) (Sh.l (Sh.l (Sh.i IntKind.i64))) (x0_5 : List (List Int))), (L.d (Pv.fz false) (Sh.l (Sh.p (Sh.l (Sh.i IntKind.i64)) (Sh.p (Sh.l (Sh.i IntKind.i64)) Sh.u))) (x0_6 : List (List Int × List Int × PUnit)))])] [])
    else
     g0 (x0_0 : List Int) (x0_1 : Int) (IntKind.i64.wrap (x0_2 + 1) : Int) (x0_3 : Int) (x0_4 : Int) (x0_5 : List (List Int)) (x0_6 : List (List Int × List Int × PUnit))
   else
    none
  else
   none
 else
  some (Lf.mk [(Pt.one (L.d (Pv.fz true) (Sh.i IntKind.i64) (-1 : Int)))] [(Ob.va [(L.d (Pv.fz true) (Sh.i IntKind.i64) (x0_3 : Int)), (L.d (Pv.fz true) (Sh.i IntKind.i64) (x0_4 : Int)), (L.d (Pv.fz false) (Sh.l (Sh.l (Sh.i IntKind.i64))) (x0_5 : List (List Int))), (L.d (Pv.fz false) (Sh.l (Sh.p (Sh.l (Sh.i IntKind.i64)) (Sh.p (Sh.l (Sh.i IntKind.i64)) Sh.u))) (x0_6 : List (List Int × List Int × PUnit)))])] [])
noncomputable def f40cL0 (n : Nat)  : Nat → f40cG0
  | 0 => fun _ _ _ _ _ _ _ => none
  | m + 1 => fun x0_0 x0_1 x0_2 x0_3 x0_4 x0_5 x0_6 => f40cS0   (f40cL0 n  m) x0_0 x0_1 x0_2 x0_3 x0_4 x0_5 x0_6
theorem f40cS0_ev (n : Nat)  (G : St → Option Lf) (x0_0 : List Int) (x0_1 : Int) (x0_2 : Int) (x0_3 : Int) (x0_4 : Int) (x0_5 : List (List Int)) (x0_6 : List (List Int × List Int × PUnit)) : rnd C4 f40ch n Lf (codeOf f40cf) [1, 0, 1, 0] [] (endK C4 f40ch f40cf) G (f40cH0 x0_0 x0_1 x0_2 x0_3 x0_4 x0_5 x0_6) = f40cS0   (f40cW0 G) x0_0 x0_1 x0_2 x0_3 x0_4 x0_5 x0_6 := by kernel_rfl
theorem f40cW0_ev (n : Nat)  : ∀ m, (f40cW0 (lp C4 f40ch n Lf (codeOf f40cf) [1, 0, 1, 0] [] (endK C4 f40ch f40cf) m)) = f40cL0 n  m := by
  intro m
  induction m with
  | zero => funext x0_0 x0_1 x0_2 x0_3 x0_4 x0_5 x0_6; exact lp_zero _
  | succ m ih =>
    funext x0_0 x0_1 x0_2 x0_3 x0_4 x0_5 x0_6
    show lp C4 f40ch n Lf (codeOf f40cf) [1, 0, 1, 0] [] (endK C4 f40ch f40cf) (m + 1) (f40cH0 x0_0 x0_1 x0_2 x0_3 x0_4 x0_5 x0_6) = f40cS0   (f40cL0 n  m) x0_0 x0_1 x0_2 x0_3 x0_4 x0_5 x0_6
    rw [lp_succ, f40cS0_ev, ih]
noncomputable def f40cT (l0 : f40cG0) (l : List Int) (p : Int) (i : Int) (nx : List (List Int)) (ps : List (List Int × List Int × PUnit)) : Option Lf :=
 l0 (l : List Int) (zn l.length : Int) (0 : Int) (p : Int) (i : Int) (nx : List (List Int)) (ps : List (List Int × List Int × PUnit))
noncomputable def f40cM (n : Nat) (l : List Int) (p : Int) (i : Int) (nx : List (List Int)) (ps : List (List Int × List Int × PUnit)) : Option Lf := f40cT (f40cL0 n n) l p i nx ps
theorem f40cT_ev (n : Nat) (l : List Int) (p : Int) (i : Int) (nx : List (List Int)) (ps : List (List Int × List Int × PUnit)) : evF C4 f40ch n f40cf [(D.p (Pt.one (L.d (Pv.fz false) (Sh.l (Sh.i IntKind.i64)) l))), (D.p (Pt.one (L.fn 37 [(Cp.b (Id.mk 0 0))])))] [(Ob.va [(L.d (Pv.fz true) (Sh.i IntKind.i64) p), (L.d (Pv.fz true) (Sh.i IntKind.i64) i), (L.d (Pv.fz false) (Sh.l (Sh.l (Sh.i IntKind.i64))) nx), (L.d (Pv.fz false) (Sh.l (Sh.p (Sh.l (Sh.i IntKind.i64)) (Sh.p (Sh.l (Sh.i IntKind.i64)) Sh.u))) ps)])] = f40cT (f40cW0 (lp C4 f40ch n Lf (codeOf f40cf) [1, 0, 1, 0] [] (endK C4 f40ch f40cf) n)) l p i nx ps := by kernel_rfl
theorem f40c_ev (n : Nat) (l : List Int) (p : Int) (i : Int) (nx : List (List Int)) (ps : List (List Int × List Int × PUnit)) : evF C4 f40ch n f40cf [(D.p (Pt.one (L.d (Pv.fz false) (Sh.l (Sh.i IntKind.i64)) l))), (D.p (Pt.one (L.fn 37 [(Cp.b (Id.mk 0 0))])))] [(Ob.va [(L.d (Pv.fz true) (Sh.i IntKind.i64) p), (L.d (Pv.fz true) (Sh.i IntKind.i64) i), (L.d (Pv.fz false) (Sh.l (Sh.l (Sh.i IntKind.i64))) nx), (L.d (Pv.fz false) (Sh.l (Sh.p (Sh.l (Sh.i IntKind.i64)) (Sh.p (Sh.l (Sh.i IntKind.i64)) Sh.u))) ps)])] = f40cM n l p i nx ps := by
  rw [f40cT_ev, f40cW0_ev]
  rfl

abbrev f26ah : Hn := hn0
noncomputable abbrev f26af : Func := fn 26
noncomputable def f26aT  (l : List Int) (z : Int) : Option Lf :=
 bif big l.length then
  some (Lf.mk [(Pt.one (L.d (Pv.fz true) Sh.b (decide (idxG (nin z) 0 l ≥ 0) : Bool)))] [(Ob.va [(L.d (Pv.fz true) (Sh.i IntKind.i64) (z : Int))])] [])
 else
  none
noncomputable def f26aM (_ : Nat) (l : List Int) (z : Int) : Option Lf := f26aT  l z
theorem f26aT_ev (n : Nat) (l : List Int) (z : Int) : evF C5 f26ah n f26af [(D.p (Pt.one (L.d (Pv.fz false) (Sh.l (Sh.i IntKind.i64)) l))), (D.p (Pt.one (L.fn 27 [(Cp.b (Id.mk 0 0))])))] [(Ob.va [(L.d (Pv.fz true) (Sh.i IntKind.i64) z)])] = f26aT  l z := by kernel_rfl
theorem f26a_ev (n : Nat) (l : List Int) (z : Int) : evF C5 f26ah n f26af [(D.p (Pt.one (L.d (Pv.fz false) (Sh.l (Sh.i IntKind.i64)) l))), (D.p (Pt.one (L.fn 27 [(Cp.b (Id.mk 0 0))])))] [(Ob.va [(L.d (Pv.fz true) (Sh.i IntKind.i64) z)])] = f26aM n l z := by
  rw [f26aT_ev]
  rfl

abbrev f26bh : Hn := hn0
noncomputable abbrev f26bf : Func := fn 26
noncomputable def f26bT  (l : List Int) (b : List Int) : Option Lf :=
 bif big l.length && big b.length then
  some (Lf.mk [(Pt.one (L.d (Pv.fz true) Sh.b (decide (idxG (has b) 0 l ≥ 0) : Bool)))] [(Ob.va [(L.d (Pv.fz false) (Sh.l (Sh.i IntKind.i64)) (b : List Int))])] [])
 else
  none
noncomputable def f26bM (_ : Nat) (l : List Int) (b : List Int) : Option Lf := f26bT  l b
theorem f26bT_ev (n : Nat) (l : List Int) (b : List Int) : evF C5 f26bh n f26bf [(D.p (Pt.one (L.d (Pv.fz false) (Sh.l (Sh.i IntKind.i64)) l))), (D.p (Pt.one (L.fn 45 [(Cp.b (Id.mk 0 0))])))] [(Ob.va [(L.d (Pv.fz false) (Sh.l (Sh.i IntKind.i64)) b)])] = f26bT  l b := by kernel_rfl
theorem f26b_ev (n : Nat) (l : List Int) (b : List Int) : evF C5 f26bh n f26bf [(D.p (Pt.one (L.d (Pv.fz false) (Sh.l (Sh.i IntKind.i64)) l))), (D.p (Pt.one (L.fn 45 [(Cp.b (Id.mk 0 0))])))] [(Ob.va [(L.d (Pv.fz false) (Sh.l (Sh.i IntKind.i64)) b)])] = f26bM n l b := by
  rw [f26bT_ev]
  rfl

abbrev f26ch : Hn := hn0
noncomputable abbrev f26cf : Func := fn 26
noncomputable def f26cT  (l : List Int) (p : Int) (i : Int) (nx : List (List Int)) (ps : List (List Int × List Int × PUnit)) : Option Lf :=
 bif big l.length && decide (0 ≤ p) then
  some (Lf.mk [(Pt.one (L.d (Pv.fz true) Sh.b (decide (idxG (nin (shlF IntKind.i64 1 p)) 0 l ≥ 0) : Bool)))] [(Ob.va [(L.d (Pv.fz true) (Sh.i IntKind.i64) (p : Int)), (L.d (Pv.fz true) (Sh.i IntKind.i64) (i : Int)), (L.d (Pv.fz false) (Sh.l (Sh.l (Sh.i IntKind.i64))) (nx : List (List Int))), (L.d (Pv.fz false) (Sh.l (Sh.p (Sh.l (Sh.i IntKind.i64)) (Sh.p (Sh.l (Sh.i IntKind.i64)) Sh.u))) (ps : List (List Int × List Int × PUnit)))])] [])
 else
  none
noncomputable def f26cM (_ : Nat) (l : List Int) (p : Int) (i : Int) (nx : List (List Int)) (ps : List (List Int × List Int × PUnit)) : Option Lf := f26cT  l p i nx ps
theorem f26cT_ev (n : Nat) (l : List Int) (p : Int) (i : Int) (nx : List (List Int)) (ps : List (List Int × List Int × PUnit)) : evF C5 f26ch n f26cf [(D.p (Pt.one (L.d (Pv.fz false) (Sh.l (Sh.i IntKind.i64)) l))), (D.p (Pt.one (L.fn 37 [(Cp.b (Id.mk 0 0))])))] [(Ob.va [(L.d (Pv.fz true) (Sh.i IntKind.i64) p), (L.d (Pv.fz true) (Sh.i IntKind.i64) i), (L.d (Pv.fz false) (Sh.l (Sh.l (Sh.i IntKind.i64))) nx), (L.d (Pv.fz false) (Sh.l (Sh.p (Sh.l (Sh.i IntKind.i64)) (Sh.p (Sh.l (Sh.i IntKind.i64)) Sh.u))) ps)])] = f26cT  l p i nx ps := by kernel_rfl
theorem f26c_ev (n : Nat) (l : List Int) (p : Int) (i : Int) (nx : List (List Int)) (ps : List (List Int × List Int × PUnit)) : evF C5 f26ch n f26cf [(D.p (Pt.one (L.d (Pv.fz false) (Sh.l (Sh.i IntKind.i64)) l))), (D.p (Pt.one (L.fn 37 [(Cp.b (Id.mk 0 0))])))] [(Ob.va [(L.d (Pv.fz true) (Sh.i IntKind.i64) p), (L.d (Pv.fz true) (Sh.i IntKind.i64) i), (L.d (Pv.fz false) (Sh.l (Sh.l (Sh.i IntKind.i64))) nx), (L.d (Pv.fz false) (Sh.l (Sh.p (Sh.l (Sh.i IntKind.i64)) (Sh.p (Sh.l (Sh.i IntKind.i64)) Sh.u))) ps)])] = f26cM n l p i nx ps := by
  rw [f26cT_ev]
  rfl

abbrev f34h : Hn := hn0
noncomputable abbrev f34f : Func := fn 34
noncomputable def f34T  (a : List Int) (b : List Int) : Option Lf :=
 bif big a.length && big b.length then
  some (Lf.mk [(Pt.one (L.d (Pv.fz true) Sh.b (a.any (has b) : Bool)))] [] [])
 else
  none
noncomputable def f34M (_ : Nat) (a : List Int) (b : List Int) : Option Lf := f34T  a b
theorem f34T_ev (n : Nat) (a : List Int) (b : List Int) : evF C6 f34h n f34f [(D.p (Pt.one (L.d (Pv.fz false) (Sh.l (Sh.i IntKind.i64)) a))), (D.p (Pt.one (L.d (Pv.fz false) (Sh.l (Sh.i IntKind.i64)) b)))] [] = f34T  a b := by kernel_rfl
theorem f34_ev (n : Nat) (a : List Int) (b : List Int) : evF C6 f34h n f34f [(D.p (Pt.one (L.d (Pv.fz false) (Sh.l (Sh.i IntKind.i64)) a))), (D.p (Pt.one (L.d (Pv.fz false) (Sh.l (Sh.i IntKind.i64)) b)))] [] = f34M n a b := by
  rw [f34T_ev]
  rfl

abbrev f33h : Hn := hn0
noncomputable abbrev f33f : Func := fn 33
noncomputable def f33T  (a : List Int) (b : List Int) (l : List Int) : Option Lf :=
 bif Nat.beq 1 1 && (Nat.beq 1 1 && (big a.length && big l.length && bif !a.any (has l) then Nat.beq 1 1 && (Nat.beq 1 1 && (big b.length && big l.length && true)) else true)) then
  some (Lf.mk [(Pt.one (L.d (Pv.fz true) Sh.b (!a.any (has l) && b.any (has l) : Bool)))] [(Ob.va [(L.d (Pv.fz false) (Sh.l (Sh.i IntKind.i64)) (l : List Int))])] [])
 else
  none
noncomputable def f33M (_ : Nat) (a : List Int) (b : List Int) (l : List Int) : Option Lf := f33T  a b l
theorem f33T_ev (n : Nat) (a : List Int) (b : List Int) (l : List Int) : evF C7 f33h n f33f [(D.p (Pt.agg [(L.d (Pv.fz false) (Sh.l (Sh.i IntKind.i64)) a), (L.d (Pv.fz false) (Sh.l (Sh.i IntKind.i64)) b)])), (D.p (Pt.one (L.pv (Id.mk 0 0) 0)))] [(Ob.va [(L.d (Pv.fz false) (Sh.l (Sh.i IntKind.i64)) l)])] = f33T  a b l := by kernel_rfl
theorem f33_ev (n : Nat) (a : List Int) (b : List Int) (l : List Int) : evF C7 f33h n f33f [(D.p (Pt.agg [(L.d (Pv.fz false) (Sh.l (Sh.i IntKind.i64)) a), (L.d (Pv.fz false) (Sh.l (Sh.i IntKind.i64)) b)])), (D.p (Pt.one (L.pv (Id.mk 0 0) 0)))] [(Ob.va [(L.d (Pv.fz false) (Sh.l (Sh.i IntKind.i64)) l)])] = f33M n a b l := by
  rw [f33T_ev]
  rfl

abbrev f32h : Hn := h40
noncomputable abbrev f32f : Func := fn 32
abbrev f32G0 := (List (List Int × List Int × PUnit)) → Int → Int → (List Int) → Option Lf
noncomputable def f32H0 (x0_0 : List (List Int × List Int × PUnit)) (x0_1 : Int) (x0_2 : Int) (x0_3 : List Int) : St := (St.mk [(D.p (Pt.one (L.d (Pv.fz false) (Sh.l (Sh.p (Sh.l (Sh.i IntKind.i64)) (Sh.p (Sh.l (Sh.i IntKind.i64)) Sh.u))) x0_0))), (D.p (Pt.one (L.fn 33 [(Cp.b (Id.mk 0 0))]))), dead, dead, dead, dead, dead, (D.p (Pt.one (L.d (Pv.fz true) (Sh.i IntKind.i64) x0_1))), (D.p (Pt.one (L.d (Pv.fz true) (Sh.i IntKind.i64) x0_2))), dead, dead, dead, dead, dead, dead, dead, dead, dead, dead] [[(Ob.va [(L.d (Pv.fz false) (Sh.l (Sh.i IntKind.i64)) x0_3)])], []])
noncomputable def f32W0 (G : St → Option Lf) : f32G0 := fun x0_0 x0_1 x0_2 x0_3 => G (f32H0 x0_0 x0_1 x0_2 x0_3)
noncomputable def f32S0  (g0 : f32G0) (x0_0 : List (List Int × List Int × PUnit)) (x0_1 : Int) (x0_2 : Int) (x0_3 : List Int) : Option Lf :=
 bif decide (x0_2 < x0_1) then
  bif inb x0_2 x0_0.length then
   bif big (x0_0.getD x0_2.toNat ([], [], PUnit.unit)).fst.length && (big (x0_0.getD x0_2.toNat ([], [], PUnit.unit)).snd.fst.length && big x0_3.length) then
    bif goodB x0_3 ((x0_0.getD x0_2.toNat ([], [], PUnit.unit)).fst, (x0_0.getD x0_2.toNat ([], [], PUnit.unit)).snd.fst, ()) then
     some (Lf.mk [(Pt.one (L.d (Pv.fz true) (Sh.i IntKind.i64) (x0_2 : Int)))] [(Ob.va [(L.d (Pv.fz false) (Sh.l (Sh.i IntKind.i64)) (x0_3 : List Int))])] [])
    else
     g0 (x0_0 : List (List Int × List Int × PUnit)) (x0_1 : Int) (IntKind.i64.wrap (x0_2 + 1) : Int) (x0_3 : List Int)
   else
    none
  else
   none
 else
  some (Lf.mk [(Pt.one (L.d (Pv.fz true) (Sh.i IntKind.i64) (-1 : Int)))] [(Ob.va [(L.d (Pv.fz false) (Sh.l (Sh.i IntKind.i64)) (x0_3 : List Int))])] [])
noncomputable def f32L0 (n : Nat)  : Nat → f32G0
  | 0 => fun _ _ _ _ => none
  | m + 1 => fun x0_0 x0_1 x0_2 x0_3 => f32S0   (f32L0 n  m) x0_0 x0_1 x0_2 x0_3
theorem f32S0_ev (n : Nat)  (G : St → Option Lf) (x0_0 : List (List Int × List Int × PUnit)) (x0_1 : Int) (x0_2 : Int) (x0_3 : List Int) : rnd C8 f32h n Lf (codeOf f32f) [1, 0, 1, 0] [] (endK C8 f32h f32f) G (f32H0 x0_0 x0_1 x0_2 x0_3) = f32S0   (f32W0 G) x0_0 x0_1 x0_2 x0_3 := by kernel_rfl
theorem f32W0_ev (n : Nat)  : ∀ m, (f32W0 (lp C8 f32h n Lf (codeOf f32f) [1, 0, 1, 0] [] (endK C8 f32h f32f) m)) = f32L0 n  m := by
  intro m
  induction m with
  | zero => funext x0_0 x0_1 x0_2 x0_3; exact lp_zero _
  | succ m ih =>
    funext x0_0 x0_1 x0_2 x0_3
    show lp C8 f32h n Lf (codeOf f32f) [1, 0, 1, 0] [] (endK C8 f32h f32f) (m + 1) (f32H0 x0_0 x0_1 x0_2 x0_3) = f32S0   (f32L0 n  m) x0_0 x0_1 x0_2 x0_3
    rw [lp_succ, f32S0_ev, ih]
noncomputable def f32T (l0 : f32G0) (ps : List (List Int × List Int × PUnit)) (l : List Int) : Option Lf :=
 l0 (ps : List (List Int × List Int × PUnit)) (zn ps.length : Int) (0 : Int) (l : List Int)
noncomputable def f32M (n : Nat) (ps : List (List Int × List Int × PUnit)) (l : List Int) : Option Lf := f32T (f32L0 n n) ps l
theorem f32T_ev (n : Nat) (ps : List (List Int × List Int × PUnit)) (l : List Int) : evF C8 f32h n f32f [(D.p (Pt.one (L.d (Pv.fz false) (Sh.l (Sh.p (Sh.l (Sh.i IntKind.i64)) (Sh.p (Sh.l (Sh.i IntKind.i64)) Sh.u))) ps))), (D.p (Pt.one (L.fn 33 [(Cp.b (Id.mk 0 0))])))] [(Ob.va [(L.d (Pv.fz false) (Sh.l (Sh.i IntKind.i64)) l)])] = f32T (f32W0 (lp C8 f32h n Lf (codeOf f32f) [1, 0, 1, 0] [] (endK C8 f32h f32f) n)) ps l := by kernel_rfl
theorem f32_ev (n : Nat) (ps : List (List Int × List Int × PUnit)) (l : List Int) : evF C8 f32h n f32f [(D.p (Pt.one (L.d (Pv.fz false) (Sh.l (Sh.p (Sh.l (Sh.i IntKind.i64)) (Sh.p (Sh.l (Sh.i IntKind.i64)) Sh.u))) ps))), (D.p (Pt.one (L.fn 33 [(Cp.b (Id.mk 0 0))])))] [(Ob.va [(L.d (Pv.fz false) (Sh.l (Sh.i IntKind.i64)) l)])] = f32M n ps l := by
  rw [f32T_ev, f32W0_ev]
  rfl

abbrev f36h : Hn := h36
noncomputable abbrev f36f : Func := fn 36
abbrev f36G0 := (List (List Int)) → Int → (List (List Int)) → Int → Int → Option Lf
noncomputable def f36H0 (x0_0 : List (List Int)) (x0_1 : Int) (x0_2 : List (List Int)) (x0_3 : Int) (x0_4 : Int) : St := (St.mk [(D.p (Pt.one (L.d (Pv.fz false) (Sh.l (Sh.l (Sh.i IntKind.i64))) x0_0))), dead, dead, (D.p (Pt.one (L.d (Pv.fz true) (Sh.i IntKind.i64) x0_1))), dead, dead, dead, dead, dead, (D.p (Pt.one (L.d (Pv.fz false) (Sh.l (Sh.l (Sh.i IntKind.i64))) x0_2))), (D.p (Pt.one (L.d (Pv.fz true) (Sh.i IntKind.i64) x0_3))), (D.p (Pt.one (L.d (Pv.fz true) (Sh.i IntKind.i64) x0_4))), dead, dead, dead, dead, dead, dead, dead, dead, dead, dead, dead, dead, dead, dead, dead, dead, dead, dead, dead, dead, dead, dead, dead, dead] [[], []])
noncomputable def f36W0 (G : St → Option Lf) : f36G0 := fun x0_0 x0_1 x0_2 x0_3 x0_4 => G (f36H0 x0_0 x0_1 x0_2 x0_3 x0_4)
abbrev f36G1 := (List (List Int)) → Int → Int → (List Int) → Option Lf
noncomputable def f36H1 (x1_0 : List (List Int)) (x1_1 : Int) (x1_2 : Int) (x1_3 : List Int) : St := (St.mk [dead, dead, dead, dead, dead, dead, (D.p (Pt.one (L.rw (Id.mk 1 0)))), dead, dead, dead, dead, dead, dead, dead, dead, dead, dead, dead, dead, dead, dead, dead, dead, dead, dead, (D.p (Pt.one (L.d (Pv.fz false) (Sh.l (Sh.l (Sh.i IntKind.i64))) x1_0))), (D.p (Pt.one (L.d (Pv.fz true) (Sh.i IntKind.i64) x1_1))), (D.p (Pt.one (L.d (Pv.fz true) (Sh.i IntKind.i64) x1_2))), dead, dead, dead, dead, dead, dead, dead, dead] [[], [(Ob.ro true 0 3 (Sh.i IntKind.i64) Ow.z x1_3 Option.none)]])
noncomputable def f36W1 (G : St → Option Lf) : f36G1 := fun x1_0 x1_1 x1_2 x1_3 => G (f36H1 x1_0 x1_1 x1_2 x1_3)
noncomputable def f36S1  (g1 : f36G1) (x1_0 : List (List Int)) (x1_1 : Int) (x1_2 : Int) (x1_3 : List Int) : Option Lf :=
 bif decide (x1_2 < x1_1) then
  bif inb x1_2 x1_0.length then
   bif decide ((x1_3.length + (x1_0.getD x1_2.toNat []).length) * 8 ≤ 140737488355328) then
    g1 (x1_0 : List (List Int)) (x1_1 : Int) (IntKind.i64.wrap (x1_2 + 1) : Int) (x1_3 ++ x1_0.getD x1_2.toNat [] : List Int)
   else
    none
  else
   none
 else
  some (Lf.mk [(Pt.one (L.rw (Id.mk 1 0)))] [] [(Ob.ro true 0 3 (Sh.i IntKind.i64) Ow.z (x1_3 : List Int) Option.none)])
noncomputable def f36L1 (n : Nat)  : Nat → f36G1
  | 0 => fun _ _ _ _ => none
  | m + 1 => fun x1_0 x1_1 x1_2 x1_3 => f36S1   (f36L1 n  m) x1_0 x1_1 x1_2 x1_3
theorem f36S1_ev (n : Nat)  (G : St → Option Lf) (x1_0 : List (List Int)) (x1_1 : Int) (x1_2 : Int) (x1_3 : List Int) : rnd C9 f36h n Lf (codeOf f36f) [1, 1, 1, 1, 0, 1, 0] [] (endK C9 f36h f36f) G (f36H1 x1_0 x1_1 x1_2 x1_3) = f36S1   (f36W1 G) x1_0 x1_1 x1_2 x1_3 := by kernel_rfl
theorem f36W1_ev (n : Nat)  : ∀ m, (f36W1 (lp C9 f36h n Lf (codeOf f36f) [1, 1, 1, 1, 0, 1, 0] [] (endK C9 f36h f36f) m)) = f36L1 n  m := by
  intro m
  induction m with
  | zero => funext x1_0 x1_1 x1_2 x1_3; exact lp_zero _
  | succ m ih =>
    funext x1_0 x1_1 x1_2 x1_3
    show lp C9 f36h n Lf (codeOf f36f) [1, 1, 1, 1, 0, 1, 0] [] (endK C9 f36h f36f) (m + 1) (f36H1 x1_0 x1_1 x1_2 x1_3) = f36S1   (f36L1 n  m) x1_0 x1_1 x1_2 x1_3
    rw [lp_succ, f36S1_ev, ih]
noncomputable def f36S0 (l1 : f36G1) (g0 : f36G0) (x0_0 : List (List Int)) (x0_1 : Int) (x0_2 : List (List Int)) (x0_3 : Int) (x0_4 : Int) : Option Lf :=
 bif decide (x0_4 < x0_3) then
  bif inb x0_4 x0_2.length then
   bif decide (IntKind.i64.wrap (x0_1 + zn (x0_2.getD x0_4.toNat []).length) < 0) then
    none
   else
    g0 (x0_0 : List (List Int)) (IntKind.i64.wrap (x0_1 + zn (x0_2.getD x0_4.toNat []).length) : Int) (x0_2 : List (List Int)) (x0_3 : Int) (IntKind.i64.wrap (x0_4 + 1) : Int)
  else
   none
 else
  bif decide (0 ≤ x0_1) && decide (x0_1 ≤ 1099511627776) then
   l1 (x0_0 : List (List Int)) (zn x0_0.length : Int) (0 : Int) ([] : List Int)
  else
   none
noncomputable def f36L0 (n : Nat)  : Nat → f36G0
  | 0 => fun _ _ _ _ _ => none
  | m + 1 => fun x0_0 x0_1 x0_2 x0_3 x0_4 => f36S0 (f36L1 n  n)  (f36L0 n  m) x0_0 x0_1 x0_2 x0_3 x0_4
theorem f36S0_ev (n : Nat)  (G : St → Option Lf) (x0_0 : List (List Int)) (x0_1 : Int) (x0_2 : List (List Int)) (x0_3 : Int) (x0_4 : Int) : rnd C9 f36h n Lf (codeOf f36f) [1, 1, 0, 1, 0] [] (endK C9 f36h f36f) G (f36H0 x0_0 x0_1 x0_2 x0_3 x0_4) = f36S0 (f36W1 (lp C9 f36h n Lf (codeOf f36f) [1, 1, 1, 1, 0, 1, 0] [] (endK C9 f36h f36f) n))  (f36W0 G) x0_0 x0_1 x0_2 x0_3 x0_4 := by kernel_rfl
theorem f36W0_ev (n : Nat)  : ∀ m, (f36W0 (lp C9 f36h n Lf (codeOf f36f) [1, 1, 0, 1, 0] [] (endK C9 f36h f36f) m)) = f36L0 n  m := by
  intro m
  induction m with
  | zero => funext x0_0 x0_1 x0_2 x0_3 x0_4; exact lp_zero _
  | succ m ih =>
    have e1 : (f36W1 (lp C9 f36h n Lf (codeOf f36f) [1, 1, 1, 1, 0, 1, 0] [] (endK C9 f36h f36f) n)) = (f36L1 n  n) := by
      rw [f36W1_ev]
    funext x0_0 x0_1 x0_2 x0_3 x0_4
    show lp C9 f36h n Lf (codeOf f36f) [1, 1, 0, 1, 0] [] (endK C9 f36h f36f) (m + 1) (f36H0 x0_0 x0_1 x0_2 x0_3 x0_4) = f36S0 (f36L1 n  n)  (f36L0 n  m) x0_0 x0_1 x0_2 x0_3 x0_4
    rw [lp_succ, f36S0_ev, ih, e1]
noncomputable def f36T (l0 : f36G0) (vs : List (List Int)) : Option Lf :=
 l0 (vs : List (List Int)) (0 : Int) (vs : List (List Int)) (zn vs.length : Int) (0 : Int)
noncomputable def f36M (n : Nat) (vs : List (List Int)) : Option Lf := f36T (f36L0 n n) vs
theorem f36T_ev (n : Nat) (vs : List (List Int)) : evF C9 f36h n f36f [(D.p (Pt.one (L.d (Pv.fz false) (Sh.l (Sh.l (Sh.i IntKind.i64))) vs)))] [] = f36T (f36W0 (lp C9 f36h n Lf (codeOf f36f) [1, 1, 0, 1, 0] [] (endK C9 f36h f36f) n)) vs := by kernel_rfl
theorem f36_ev (n : Nat) (vs : List (List Int)) : evF C9 f36h n f36f [(D.p (Pt.one (L.d (Pv.fz false) (Sh.l (Sh.l (Sh.i IntKind.i64))) vs)))] [] = f36M n vs := by
  rw [f36T_ev, f36W0_ev]
  rfl
end Go.S18
