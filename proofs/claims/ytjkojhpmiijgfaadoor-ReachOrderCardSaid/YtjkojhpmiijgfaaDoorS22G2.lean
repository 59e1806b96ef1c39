/-
  Seat 22: functional forms of the small functions of reach.
-/
import Derived.Test.YtjkojhpmiijgfaaDoorS22C
open Go Go.En Go.S22
namespace Go.S22


abbrev r41h : Hn := hn0
noncomputable abbrev r41f : Func := fn 41
noncomputable def r41T  (a : Int) (b : Int) (inn : List Bool) : Option Lf :=
 bif inb a inn.length then
  some (Lf.mk [(Pt.one (L.d (Pv.fz true) Sh.b (inn.getD a.toNat false : Bool)))] [(Ob.va [(L.d (Pv.fz false) (Sh.l Sh.b) (inn : List Bool))])] [])
 else
  none
noncomputable def r41M (_ : Nat) (a : Int) (b : Int) (inn : List Bool) : Option Lf := r41T  a b inn
theorem r41T_ev (n : Nat) (a : Int) (b : Int) (inn : List Bool) : evF C1 r41h n r41f [(D.p (Pt.agg [(L.d (Pv.fz true) (Sh.i IntKind.i64) a), (L.d (Pv.fz true) (Sh.i IntKind.i64) b)])), (D.p (Pt.one (L.pv (Id.mk 0 0) 0)))] [(Ob.va [(L.d (Pv.fz false) (Sh.l Sh.b) inn)])] = r41T  a b inn := by kernel_rfl
theorem r41_ev (n : Nat) (a : Int) (b : Int) (inn : List Bool) : evF C1 r41h n r41f [(D.p (Pt.agg [(L.d (Pv.fz true) (Sh.i IntKind.i64) a), (L.d (Pv.fz true) (Sh.i IntKind.i64) b)])), (D.p (Pt.one (L.pv (Id.mk 0 0) 0)))] [(Ob.va [(L.d (Pv.fz false) (Sh.l Sh.b) inn)])] = r41M n a b inn := by
  rw [r41T_ev]
  rfl

abbrev r39h : Hn := hn0
noncomputable abbrev r39f : Func := fn 39
noncomputable def r39T  (a : Int) (b : Int) (inn : List Bool) : Option Lf :=
 bif inb a inn.length then
  some (Lf.mk [(Pt.one (L.d (Pv.fz true) Sh.b (!inn.getD a.toNat false : Bool)))] [(Ob.va [(L.d (Pv.fz false) (Sh.l Sh.b) (inn : List Bool))])] [])
 else
  none
noncomputable def r39M (_ : Nat) (a : Int) (b : Int) (inn : List Bool) : Option Lf := r39T  a b inn
theorem r39T_ev (n : Nat) (a : Int) (b : Int) (inn : List Bool) : evF C1 r39h n r39f [(D.p (Pt.agg [(L.d (Pv.fz true) (Sh.i IntKind.i64) a), (L.d (Pv.fz true) (Sh.i IntKind.i64) b)])), (D.p (Pt.one (L.pv (Id.mk 0 0) 0)))] [(Ob.va [(L.d (Pv.fz false) (Sh.l Sh.b) inn)])] = r39T  a b inn := by kernel_rfl
theorem r39_ev (n : Nat) (a : Int) (b : Int) (inn : List Bool) : evF C1 r39h n r39f [(D.p (Pt.agg [(L.d (Pv.fz true) (Sh.i IntKind.i64) a), (L.d (Pv.fz true) (Sh.i IntKind.i64) b)])), (D.p (Pt.one (L.pv (Id.mk 0 0) 0)))] [(Ob.va [(L.d (Pv.fz false) (Sh.l Sh.b) inn)])] = r39M n a b inn := by
  rw [r39T_ev]
  rfl

abbrev r50ah : Hn := h45
noncomputable abbrev r50af : Func := fn 50
abbrev r50aG0 := (List (Int × Int × Unit)) → Int → Int → (List Bool) → Option Lf
noncomputable def r50aH0 (x0_0 : List (Int × Int × Unit)) (x0_1 : Int) (x0_2 : Int) (x0_3 : List Bool) : St := (St.mk [(D.p (Pt.one (L.d (Pv.fz false) (Sh.l (Sh.p (Sh.i IntKind.i64) (Sh.p (Sh.i IntKind.i64) Sh.u))) x0_0))), (D.p (Pt.one (L.fn 41 [(Cp.b (Id.mk 0 0))]))), dead, dead, dead, dead, dead, (D.p (Pt.one (L.d (Pv.fz true) (Sh.i IntKind.i64) x0_1))), (D.p (Pt.one (L.d (Pv.fz true) (Sh.i IntKind.i64) x0_2))), dead, dead, dead, dead, dead, dead, dead, dead, dead, dead] [[(Ob.va [(L.d (Pv.fz false) (Sh.l Sh.b) x0_3)])], []])
noncomputable def r50aW0 (G : St → Option Lf) : r50aG0 := fun x0_0 x0_1 x0_2 x0_3 => G (r50aH0 x0_0 x0_1 x0_2 x0_3)
noncomputable def r50aS0  (g0 : r50aG0) (x0_0 : List (Int × Int × Unit)) (x0_1 : Int) (x0_2 : Int) (x0_3 : List Bool) : Option Lf :=
 bif decide (x0_2 < x0_1) then
  bif inb x0_2 x0_0.length then
   bif inF (zn x0_3.length) (x0_0.getD x0_2.toNat (0, 0, ())).fst then
    bif x0_3.getD (x0_0.getD x0_2.toNat (0, 0, ())).fst.toNat false then
     some (Lf.mk [(Pt.one (L.d (Pv.fz true) (Sh.i IntKind.i64) (x0_2 : Int)))] [(Ob.va [(L.d (Pv.fz false) (Sh.l Sh.b) (x0_3 : List Bool))])] [])
    else
     g0 (x0_0 : List (Int × Int × Unit)) (x0_1 : Int) (IntKind.i64.wrap (x0_2 + 1) : Int) (x0_3 : List Bool)
   else
    none
  else
   none
 else
  some (Lf.mk [(Pt.one (L.d (Pv.fz true) (Sh.i IntKind.i64) (-1 : Int)))] [(Ob.va [(L.d (Pv.fz false) (Sh.l Sh.b) (x0_3 : List Bool))])] [])
noncomputable def r50aL0 (n : Nat)  : Nat → r50aG0
  | 0 => fun _ _ _ _ => none
  | m + 1 => fun x0_0 x0_1 x0_2 x0_3 => r50aS0   (r50aL0 n  m) x0_0 x0_1 x0_2 x0_3
theorem r50aS0_ev (n : Nat)  (G : St → Option Lf) (x0_0 : List (Int × Int × Unit)) (x0_1 : Int) (x0_2 : Int) (x0_3 : List Bool) : rnd C11 r50ah n Lf (codeOf r50af) [1, 0, 1, 0] [] (endK C11 r50ah r50af) G (r50aH0 x0_0 x0_1 x0_2 x0_3) = r50aS0   (r50aW0 G) x0_0 x0_1 x0_2 x0_3 := by kernel_rfl
theorem r50aW0_ev (n : Nat)  : ∀ m, (r50aW0 (lp C11 r50ah n Lf (codeOf r50af) [1, 0, 1, 0] [] (endK C11 r50ah r50af) m)) = r50aL0 n  m := by
  intro m
  induction m with
  | zero => funext x0_0 x0_1 x0_2 x0_3; exact lp_zero _
  | succ m ih =>
    funext x0_0 x0_1 x0_2 x0_3
    show lp C11 r50ah n Lf (codeOf r50af) [1, 0, 1, 0] [] (endK C11 r50ah r50af) (m + 1) (r50aH0 x0_0 x0_1 x0_2 x0_3) = r50aS0   (r50aL0 n  m) x0_0 x0_1 x0_2 x0_3
    rw [lp_succ, r50aS0_ev, ih]
noncomputable def r50aT (l0 : r50aG0) (l : List (Int × Int × Unit)) (inn : List Bool) : Option Lf :=
 l0 (l : List (Int × Int × Unit)) (zn l.length : Int) (0 : Int) (inn : List Bool)
noncomputable def r50aM (n : Nat) (l : List (Int × Int × Unit)) (inn : List Bool) : Option Lf := r50aT (r50aL0 n n) l inn
theorem r50aT_ev (n : Nat) (l : List (Int × Int × Unit)) (inn : List Bool) : evF C11 r50ah n r50af [(D.p (Pt.one (L.d (Pv.fz false) (Sh.l (Sh.p (Sh.i IntKind.i64) (Sh.p (Sh.i IntKind.i64) Sh.u))) l))), (D.p (Pt.one (L.fn 41 [(Cp.b (Id.mk 0 0))])))] [(Ob.va [(L.d (Pv.fz false) (Sh.l Sh.b) inn)])] = r50aT (r50aW0 (lp C11 r50ah n Lf (codeOf r50af) [1, 0, 1, 0] [] (endK C11 r50ah r50af) n)) l inn := by kernel_rfl
theorem r50a_ev (n : Nat) (l : List (Int × Int × Unit)) (inn : List Bool) : evF C11 r50ah n r50af [(D.p (Pt.one (L.d (Pv.fz false) (Sh.l (Sh.p (Sh.i IntKind.i64) (Sh.p (Sh.i IntKind.i64) Sh.u))) l))), (D.p (Pt.one (L.fn 41 [(Cp.b (Id.mk 0 0))])))] [(Ob.va [(L.d (Pv.fz false) (Sh.l Sh.b) inn)])] = r50aM n l inn := by
  rw [r50aT_ev, r50aW0_ev]
  rfl

abbrev r50bh : Hn := h45
noncomputable abbrev r50bf : Func := fn 50
abbrev r50bG0 := (List (Int × Int × Unit)) → Int → Int → (List Bool) → Option Lf
noncomputable def r50bH0 (x0_0 : List (Int × Int × Unit)) (x0_1 : Int) (x0_2 : Int) (x0_3 : List Bool) : St := (St.mk [(D.p (Pt.one (L.d (Pv.fz false) (Sh.l (Sh.p (Sh.i IntKind.i64) (Sh.p (Sh.i IntKind.i64) Sh.u))) x0_0))), (D.p (Pt.one (L.fn 39 [(Cp.b (Id.mk 0 0))]))), dead, dead, dead, dead, dead, (D.p (Pt.one (L.d (Pv.fz true) (Sh.i IntKind.i64) x0_1))), (D.p (Pt.one (L.d (Pv.fz true) (Sh.i IntKind.i64) x0_2))), dead, dead, dead, dead, dead, dead, dead, dead, dead, dead] [[(Ob.va [(L.d (Pv.fz false) (Sh.l Sh.b) x0_3)])], []])
noncomputable def r50bW0 (G : St → Option Lf) : r50bG0 := fun x0_0 x0_1 x0_2 x0_3 => G (r50bH0 x0_0 x0_1 x0_2 x0_3)
noncomputable def r50bS0  (g0 : r50bG0) (x0_0 : List (Int × Int × Unit)) (x0_1 : Int) (x0_2 : Int) (x0_3 : List Bool) : Option Lf :=
 bif decide (x0_2 < x0_1) then
  bif inb x0_2 x0_0.length then
   bif inF (zn x0_3.length) (x0_0.getD x0_2.toNat (0, 0, ())).fst then
    bif !x0_3.getD (x0_0.getD x0_2.toNat (0, 0, ())).fst.toNat false then
     some (Lf.mk [(Pt.one (L.d (Pv.fz true) (Sh.i IntKind.i64) (x0_2 : Int)))] [(Ob.va [(L.d (Pv.fz false) (Sh.l Sh.b) (x0_3 : List Bool))])] [])
    else
     g0 (x0_0 : List (Int × Int × Unit)) (x0_1 : Int) (IntKind.i64.wrap (x0_2 + 1) : Int) (x0_3 : List Bool)
   else
    none
  else
   none
 else
  some (Lf.mk [(Pt.one (L.d (Pv.fz true) (Sh.i IntKind.i64) (-1 : Int)))] [(Ob.va [(L.d (Pv.fz false) (Sh.l Sh.b) (x0_3 : List Bool))])] [])
noncomputable def r50bL0 (n : Nat)  : Nat → r50bG0
  | 0 => fun _ _ _ _ => none
  | m + 1 => fun x0_0 x0_1 x0_2 x0_3 => r50bS0   (r50bL0 n  m) x0_0 x0_1 x0_2 x0_3
theorem r50bS0_ev (n : Nat)  (G : St → Option Lf) (x0_0 : List (Int × Int × Unit)) (x0_1 : Int) (x0_2 : Int) (x0_3 : List Bool) : rnd C11 r50bh n Lf (codeOf r50bf) [1, 0, 1, 0] [] (endK C11 r50bh r50bf) G (r50bH0 x0_0 x0_1 x0_2 x0_3) = r50bS0   (r50bW0 G) x0_0 x0_1 x0_2 x0_3 := by kernel_rfl
theorem r50bW0_ev (n : Nat)  : ∀ m, (r50bW0 (lp C11 r50bh n Lf (codeOf r50bf) [1, 0, 1, 0] [] (endK C11 r50bh r50bf) m)) = r50bL0 n  m := by
  intro m
  induction m with
  | zero => funext x0_0 x0_1 x0_2 x0_3; exact lp_zero _
  | succ m ih =>
    funext x0_0 x0_1 x0_2 x0_3
    show lp C11 r50bh n Lf (codeOf r50bf) [1, 0, 1, 0] [] (endK C11 r50bh r50bf) (m + 1) (r50bH0 x0_0 x0_1 x0_2 x0_3) = r50bS0   (r50bL0 n  m) x0_0 x0_1 x0_2 x0_3
    rw [lp_succ, r50bS0_ev, ih]
noncomputable def r50bT (l0 : r50bG0) (l : List (Int × Int × Unit)) (inn : List Bool) : Option Lf :=
 l0 (l : List (Int × Int × Unit)) (zn l.length : Int) (0 : Int) (inn : List Bool)
noncomputable def r50bM (n : Nat) (l : List (Int × Int × Unit)) (inn : List Bool) : Option Lf := r50bT (r50bL0 n n) l inn
theorem r50bT_ev (n : Nat) (l : List (Int × Int × Unit)) (inn : List Bool) : evF C11 r50bh n r50bf [(D.p (Pt.one (L.d (Pv.fz false) (Sh.l (Sh.p (Sh.i IntKind.i64) (Sh.p (Sh.i IntKind.i64) Sh.u))) l))), (D.p (Pt.one (L.fn 39 [(Cp.b (Id.mk 0 0))])))] [(Ob.va [(L.d (Pv.fz false) (Sh.l Sh.b) inn)])] = r50bT (r50bW0 (lp C11 r50bh n Lf (codeOf r50bf) [1, 0, 1, 0] [] (endK C11 r50bh r50bf) n)) l inn := by kernel_rfl
theorem r50b_ev (n : Nat) (l : List (Int × Int × Unit)) (inn : List Bool) : evF C11 r50bh n r50bf [(D.p (Pt.one (L.d (Pv.fz false) (Sh.l (Sh.p (Sh.i IntKind.i64) (Sh.p (Sh.i IntKind.i64) Sh.u))) l))), (D.p (Pt.one (L.fn 39 [(Cp.b (Id.mk 0 0))])))] [(Ob.va [(L.d (Pv.fz false) (Sh.l Sh.b) inn)])] = r50bM n l inn := by
  rw [r50bT_ev, r50bW0_ev]
  rfl

abbrev r38ah : Hn := hn0
noncomputable abbrev r38af : Func := fn 38
noncomputable def r38aT  (l : List (Int × Int × Unit)) (inn : List Bool) : Option Lf :=
 bif rngV inn.length l then
  some (Lf.mk [(Pt.one (L.d (Pv.fz true) Sh.b (decide (idxG (yes inn) 0 l ≥ 0) : Bool)))] [(Ob.va [(L.d (Pv.fz false) (Sh.l Sh.b) (inn : List Bool))])] [])
 else
  none
noncomputable def r38aM (_ : Nat) (l : List (Int × Int × Unit)) (inn : List Bool) : Option Lf := r38aT  l inn
theorem r38aT_ev (n : Nat) (l : List (Int × Int × Unit)) (inn : List Bool) : evF C12 r38ah n r38af [(D.p (Pt.one (L.d (Pv.fz false) (Sh.l (Sh.p (Sh.i IntKind.i64) (Sh.p (Sh.i IntKind.i64) Sh.u))) l))), (D.p (Pt.one (L.fn 41 [(Cp.b (Id.mk 0 0))])))] [(Ob.va [(L.d (Pv.fz false) (Sh.l Sh.b) inn)])] = r38aT  l inn := by kernel_rfl
theorem r38a_ev (n : Nat) (l : List (Int × Int × Unit)) (inn : List Bool) : evF C12 r38ah n r38af [(D.p (Pt.one (L.d (Pv.fz false) (Sh.l (Sh.p (Sh.i IntKind.i64) (Sh.p (Sh.i IntKind.i64) Sh.u))) l))), (D.p (Pt.one (L.fn 41 [(Cp.b (Id.mk 0 0))])))] [(Ob.va [(L.d (Pv.fz false) (Sh.l Sh.b) inn)])] = r38aM n l inn := by
  rw [r38aT_ev]
  rfl

abbrev r38bh : Hn := hn0
noncomputable abbrev r38bf : Func := fn 38
noncomputable def r38bT  (l : List (Int × Int × Unit)) (inn : List Bool) : Option Lf :=
 bif rngV inn.length l then
  some (Lf.mk [(Pt.one (L.d (Pv.fz true) Sh.b (decide (idxG (no inn) 0 l ≥ 0) : Bool)))] [(Ob.va [(L.d (Pv.fz false) (Sh.l Sh.b) (inn : List Bool))])] [])
 else
  none
noncomputable def r38bM (_ : Nat) (l : List (Int × Int × Unit)) (inn : List Bool) : Option Lf := r38bT  l inn
theorem r38bT_ev (n : Nat) (l : List (Int × Int × Unit)) (inn : List Bool) : evF C12 r38bh n r38bf [(D.p (Pt.one (L.d (Pv.fz false) (Sh.l (Sh.p (Sh.i IntKind.i64) (Sh.p (Sh.i IntKind.i64) Sh.u))) l))), (D.p (Pt.one (L.fn 39 [(Cp.b (Id.mk 0 0))])))] [(Ob.va [(L.d (Pv.fz false) (Sh.l Sh.b) inn)])] = r38bT  l inn := by kernel_rfl
theorem r38b_ev (n : Nat) (l : List (Int × Int × Unit)) (inn : List Bool) : evF C12 r38bh n r38bf [(D.p (Pt.one (L.d (Pv.fz false) (Sh.l (Sh.p (Sh.i IntKind.i64) (Sh.p (Sh.i IntKind.i64) Sh.u))) l))), (D.p (Pt.one (L.fn 39 [(Cp.b (Id.mk 0 0))])))] [(Ob.va [(L.d (Pv.fz false) (Sh.l Sh.b) inn)])] = r38bM n l inn := by
  rw [r38bT_ev]
  rfl

abbrev r29h : Hn := hn0
noncomputable abbrev r29f : Func := fn 29
noncomputable def r29T  (a : ByteArray) (mv : List (Int × Int × Unit)) (inn : List Bool) : Option Lf :=
 bif rngV inn.length mv then
  some (Lf.mk [(Pt.one (L.d (Pv.fz true) Sh.b (mv.any (yes inn) : Bool)))] [] [])
 else
  none
noncomputable def r29M (_ : Nat) (a : ByteArray) (mv : List (Int × Int × Unit)) (inn : List Bool) : Option Lf := r29T  a mv inn
theorem r29T_ev (n : Nat) (a : ByteArray) (mv : List (Int × Int × Unit)) (inn : List Bool) : evF C13 r29h n r29f [(D.p (Pt.agg [(L.d (Pv.fz true) Sh.s a), (L.d (Pv.fz false) (Sh.l (Sh.p (Sh.i IntKind.i64) (Sh.p (Sh.i IntKind.i64) Sh.u))) mv)])), (D.p (Pt.one (L.d (Pv.fz false) (Sh.l Sh.b) inn)))] [] = r29T  a mv inn := by kernel_rfl
theorem r29_ev (n : Nat) (a : ByteArray) (mv : List (Int × Int × Unit)) (inn : List Bool) : evF C13 r29h n r29f [(D.p (Pt.agg [(L.d (Pv.fz true) Sh.s a), (L.d (Pv.fz false) (Sh.l (Sh.p (Sh.i IntKind.i64) (Sh.p (Sh.i IntKind.i64) Sh.u))) mv)])), (D.p (Pt.one (L.d (Pv.fz false) (Sh.l Sh.b) inn)))] [] = r29M n a mv inn := by
  rw [r29T_ev]
  rfl

abbrev r26h : Hn := hn0
noncomputable abbrev r26f : Func := fn 26
noncomputable def r26T  (a : ByteArray) (mv : List (Int × Int × Unit)) (inn : List Bool) : Option Lf :=
 bif rngV inn.length mv then
  some (Lf.mk [(Pt.one (L.d (Pv.fz true) Sh.b (!mv.any (no inn) : Bool)))] [] [])
 else
  none
noncomputable def r26M (_ : Nat) (a : ByteArray) (mv : List (Int × Int × Unit)) (inn : List Bool) : Option Lf := r26T  a mv inn
theorem r26T_ev (n : Nat) (a : ByteArray) (mv : List (Int × Int × Unit)) (inn : List Bool) : evF C13 r26h n r26f [(D.p (Pt.agg [(L.d (Pv.fz true) Sh.s a), (L.d (Pv.fz false) (Sh.l (Sh.p (Sh.i IntKind.i64) (Sh.p (Sh.i IntKind.i64) Sh.u))) mv)])), (D.p (Pt.one (L.d (Pv.fz false) (Sh.l Sh.b) inn)))] [] = r26T  a mv inn := by kernel_rfl
theorem r26_ev (n : Nat) (a : ByteArray) (mv : List (Int × Int × Unit)) (inn : List Bool) : evF C13 r26h n r26f [(D.p (Pt.agg [(L.d (Pv.fz true) Sh.s a), (L.d (Pv.fz false) (Sh.l (Sh.p (Sh.i IntKind.i64) (Sh.p (Sh.i IntKind.i64) Sh.u))) mv)])), (D.p (Pt.one (L.d (Pv.fz false) (Sh.l Sh.b) inn)))] [] = r26M n a mv inn := by
  rw [r26T_ev]
  rfl

abbrev r24h : Hn := hn0
noncomputable abbrev r24f : Func := fn 24
noncomputable def r24T  (s : Int) (a : ByteArray) (mv : List (Int × Int × Unit)) : Option Lf :=
 some (Lf.mk [(Pt.one (L.d (Pv.fz true) Sh.b (true : Bool)))] [] [])
noncomputable def r24M (_ : Nat) (s : Int) (a : ByteArray) (mv : List (Int × Int × Unit)) : Option Lf := r24T  s a mv
theorem r24T_ev (n : Nat) (s : Int) (a : ByteArray) (mv : List (Int × Int × Unit)) : evF C1 r24h n r24f [(D.p (Pt.one (L.d (Pv.fz true) (Sh.i IntKind.i64) s))), (D.p (Pt.agg [(L.d (Pv.fz true) Sh.s a), (L.d (Pv.fz false) (Sh.l (Sh.p (Sh.i IntKind.i64) (Sh.p (Sh.i IntKind.i64) Sh.u))) mv)]))] [] = r24T  s a mv := by kernel_rfl
theorem r24_ev (n : Nat) (s : Int) (a : ByteArray) (mv : List (Int × Int × Unit)) : evF C1 r24h n r24f [(D.p (Pt.one (L.d (Pv.fz true) (Sh.i IntKind.i64) s))), (D.p (Pt.agg [(L.d (Pv.fz true) Sh.s a), (L.d (Pv.fz false) (Sh.l (Sh.p (Sh.i IntKind.i64) (Sh.p (Sh.i IntKind.i64) Sh.u))) mv)]))] [] = r24M n s a mv := by
  rw [r24T_ev]
  rfl

abbrev r25h : Hn := hn0
noncomputable abbrev r25f : Func := fn 25
noncomputable def r25T  (s : Int) (a : ByteArray) (mv : List (Int × Int × Unit)) (inn : List Bool) : Option Lf :=
 bif rngV inn.length mv then
  some (Lf.mk [(Pt.one (L.d (Pv.fz true) Sh.b (!mv.any (no inn) : Bool)))] [(Ob.va [(L.rw (Id.mk 0 1))]), (Ob.ro true 0 4 Sh.b Ow.z (inn : List Bool) Option.none)] [])
 else
  none
noncomputable def r25M (_ : Nat) (s : Int) (a : ByteArray) (mv : List (Int × Int × Unit)) (inn : List Bool) : Option Lf := r25T  s a mv inn
theorem r25T_ev (n : Nat) (s : Int) (a : ByteArray) (mv : List (Int × Int × Unit)) (inn : List Bool) : evF C14a r25h n r25f [(D.p (Pt.one (L.d (Pv.fz true) (Sh.i IntKind.i64) s))), (D.p (Pt.agg [(L.d (Pv.fz true) Sh.s a), (L.d (Pv.fz false) (Sh.l (Sh.p (Sh.i IntKind.i64) (Sh.p (Sh.i IntKind.i64) Sh.u))) mv)])), (D.p (Pt.one (L.pv (Id.mk 0 0) 0)))] [(Ob.va [(L.rw (Id.mk 0 1))]), (Ob.ro true 0 4 Sh.b Ow.z inn Option.none)] = r25T  s a mv inn := by kernel_rfl
theorem r25_ev (n : Nat) (s : Int) (a : ByteArray) (mv : List (Int × Int × Unit)) (inn : List Bool) : evF C14a r25h n r25f [(D.p (Pt.one (L.d (Pv.fz true) (Sh.i IntKind.i64) s))), (D.p (Pt.agg [(L.d (Pv.fz true) Sh.s a), (L.d (Pv.fz false) (Sh.l (Sh.p (Sh.i IntKind.i64) (Sh.p (Sh.i IntKind.i64) Sh.u))) mv)])), (D.p (Pt.one (L.pv (Id.mk 0 0) 0)))] [(Ob.va [(L.rw (Id.mk 0 1))]), (Ob.ro true 0 4 Sh.b Ow.z inn Option.none)] = r25M n s a mv inn := by
  rw [r25T_ev]
  rfl

abbrev r37ah : Hn := hn0
noncomputable abbrev r37af : Func := fn 37
noncomputable def r37aT  (a : ByteArray) (mv : List (Int × Int × Unit)) (s : Int) (inn : List Bool) : Option Lf :=
 bif Nat.beq 1 1 && (Nat.beq 0 0 && (rngV inn.length mv && (mv.any (yes inn) || true))) then
  some (Lf.mk [(Pt.one (L.d (Pv.fz true) Sh.b (mv.any (yes inn) && true : Bool)))] [(Ob.va [(L.rw (Id.mk 0 3))]), (Ob.va [(L.fn 24 [])]), (Ob.va [(L.d (Pv.fz true) (Sh.i IntKind.i64) (s : Int))]), (Ob.ro true 0 4 Sh.b Ow.z (inn : List Bool) Option.none)] [])
 else
  none
noncomputable def r37aM (_ : Nat) (a : ByteArray) (mv : List (Int × Int × Unit)) (s : Int) (inn : List Bool) : Option Lf := r37aT  a mv s inn
theorem r37aT_ev (n : Nat) (a : ByteArray) (mv : List (Int × Int × Unit)) (s : Int) (inn : List Bool) : evF C14 r37ah n r37af [(D.p (Pt.agg [(L.d (Pv.fz true) Sh.s a), (L.d (Pv.fz false) (Sh.l (Sh.p (Sh.i IntKind.i64) (Sh.p (Sh.i IntKind.i64) Sh.u))) mv)])), (D.p (Pt.one (L.pv (Id.mk 0 0) 0))), (D.p (Pt.one (L.pv (Id.mk 0 1) 0))), (D.p (Pt.one (L.pv (Id.mk 0 2) 0)))] [(Ob.va [(L.rw (Id.mk 0 3))]), (Ob.va [(L.fn 24 [])]), (Ob.va [(L.d (Pv.fz true) (Sh.i IntKind.i64) s)]), (Ob.ro true 0 4 Sh.b Ow.z inn Option.none)] = r37aT  a mv s inn := by kernel_rfl
theorem r37a_ev (n : Nat) (a : ByteArray) (mv : List (Int × Int × Unit)) (s : Int) (inn : List Bool) : evF C14 r37ah n r37af [(D.p (Pt.agg [(L.d (Pv.fz true) Sh.s a), (L.d (Pv.fz false) (Sh.l (Sh.p (Sh.i IntKind.i64) (Sh.p (Sh.i IntKind.i64) Sh.u))) mv)])), (D.p (Pt.one (L.pv (Id.mk 0 0) 0))), (D.p (Pt.one (L.pv (Id.mk 0 1) 0))), (D.p (Pt.one (L.pv (Id.mk 0 2) 0)))] [(Ob.va [(L.rw (Id.mk 0 3))]), (Ob.va [(L.fn 24 [])]), (Ob.va [(L.d (Pv.fz true) (Sh.i IntKind.i64) s)]), (Ob.ro true 0 4 Sh.b Ow.z inn Option.none)] = r37aM n a mv s inn := by
  rw [r37aT_ev]
  rfl

abbrev r37bh : Hn := hn0
noncomputable abbrev r37bf : Func := fn 37
noncomputable def r37bT  (a : ByteArray) (mv : List (Int × Int × Unit)) (s : Int) (inn : List Bool) (inS : List Bool) : Option Lf :=
 bif rngV inn.length mv then
  bif mv.any (yes inn) then
   bif rngV inS.length mv then
    some (Lf.mk [(Pt.one (L.d (Pv.fz true) Sh.b (!mv.any (no inS) : Bool)))] [(Ob.va [(L.rw (Id.mk 0 3))]), (Ob.va [(L.fn 25 [(Cp.b (Id.mk 0 4))])]), (Ob.va [(L.d (Pv.fz true) (Sh.i IntKind.i64) (s : Int))]), (Ob.ro true 0 4 Sh.b Ow.z (inn : List Bool) Option.none), (Ob.va [(L.rw (Id.mk 0 5))]), (Ob.ro true 0 4 Sh.b Ow.z (inS : List Bool) Option.none)] [])
   else
    none
  else
   some (Lf.mk [(Pt.one (L.d (Pv.fz true) Sh.b (false : Bool)))] [(Ob.va [(L.rw (Id.mk 0 3))]), (Ob.va [(L.fn 25 [(Cp.b (Id.mk 0 4))])]), (Ob.va [(L.d (Pv.fz true) (Sh.i IntKind.i64) (s : Int))]), (Ob.ro true 0 4 Sh.b Ow.z (inn : List Bool) Option.none), (Ob.va [(L.rw (Id.mk 0 5))]), (Ob.ro true 0 4 Sh.b Ow.z (inS : List Bool) Option.none)] [])
 else
  none
noncomputable def r37bM (_ : Nat) (a : ByteArray) (mv : List (Int × Int × Unit)) (s : Int) (inn : List Bool) (inS : List Bool) : Option Lf := r37bT  a mv s inn inS
theorem r37bT_ev (n : Nat) (a : ByteArray) (mv : List (Int × Int × Unit)) (s : Int) (inn : List Bool) (inS : List Bool) : evF C14 r37bh n r37bf [(D.p (Pt.agg [(L.d (Pv.fz true) Sh.s a), (L.d (Pv.fz false) (Sh.l (Sh.p (Sh.i IntKind.i64) (Sh.p (Sh.i IntKind.i64) Sh.u))) mv)])), (D.p (Pt.one (L.pv (Id.mk 0 0) 0))), (D.p (Pt.one (L.pv (Id.mk 0 1) 0))), (D.p (Pt.one (L.pv (Id.mk 0 2) 0)))] [(Ob.va [(L.rw (Id.mk 0 3))]), (Ob.va [(L.fn 25 [(Cp.b (Id.mk 0 4))])]), (Ob.va [(L.d (Pv.fz true) (Sh.i IntKind.i64) s)]), (Ob.ro true 0 4 Sh.b Ow.z inn Option.none), (Ob.va [(L.rw (Id.mk 0 5))]), (Ob.ro true 0 4 Sh.b Ow.z inS Option.none)] = r37bT  a mv s inn inS := by kernel_rfl
theorem r37b_ev (n : Nat) (a : ByteArray) (mv : List (Int × Int × Unit)) (s : Int) (inn : List Bool) (inS : List Bool) : evF C14 r37bh n r37bf [(D.p (Pt.agg [(L.d (Pv.fz true) Sh.s a), (L.d (Pv.fz false) (Sh.l (Sh.p (Sh.i IntKind.i64) (Sh.p (Sh.i IntKind.i64) Sh.u))) mv)])), (D.p (Pt.one (L.pv (Id.mk 0 0) 0))), (D.p (Pt.one (L.pv (Id.mk 0 1) 0))), (D.p (Pt.one (L.pv (Id.mk 0 2) 0)))] [(Ob.va [(L.rw (Id.mk 0 3))]), (Ob.va [(L.fn 25 [(Cp.b (Id.mk 0 4))])]), (Ob.va [(L.d (Pv.fz true) (Sh.i IntKind.i64) s)]), (Ob.ro true 0 4 Sh.b Ow.z inn Option.none), (Ob.va [(L.rw (Id.mk 0 5))]), (Ob.ro true 0 4 Sh.b Ow.z inS Option.none)] = r37bM n a mv s inn inS := by
  rw [r37bT_ev]
  rfl

abbrev r40h : Hn := hn0
noncomputable abbrev r40f : Func := fn 40
noncomputable def r40T  (a : ByteArray) (mv : List (Int × Int × Unit)) (inn : List Bool) : Option Lf :=
 bif rngV inn.length mv then
  some (Lf.mk [(Pt.one (L.d (Pv.fz true) Sh.b (!mv.any (yes inn) : Bool)))] [(Ob.va [(L.fn 29 [])]), (Ob.va [(L.rw (Id.mk 0 2))]), (Ob.ro true 0 4 Sh.b Ow.z (inn : List Bool) Option.none)] [])
 else
  none
noncomputable def r40M (_ : Nat) (a : ByteArray) (mv : List (Int × Int × Unit)) (inn : List Bool) : Option Lf := r40T  a mv inn
theorem r40T_ev (n : Nat) (a : ByteArray) (mv : List (Int × Int × Unit)) (inn : List Bool) : evF C14 r40h n r40f [(D.p (Pt.agg [(L.d (Pv.fz true) Sh.s a), (L.d (Pv.fz false) (Sh.l (Sh.p (Sh.i IntKind.i64) (Sh.p (Sh.i IntKind.i64) Sh.u))) mv)])), (D.p (Pt.one (L.pv (Id.mk 0 0) 0))), (D.p (Pt.one (L.pv (Id.mk 0 1) 0)))] [(Ob.va [(L.fn 29 [])]), (Ob.va [(L.rw (Id.mk 0 2))]), (Ob.ro true 0 4 Sh.b Ow.z inn Option.none)] = r40T  a mv inn := by kernel_rfl
theorem r40_ev (n : Nat) (a : ByteArray) (mv : List (Int × Int × Unit)) (inn : List Bool) : evF C14 r40h n r40f [(D.p (Pt.agg [(L.d (Pv.fz true) Sh.s a), (L.d (Pv.fz false) (Sh.l (Sh.p (Sh.i IntKind.i64) (Sh.p (Sh.i IntKind.i64) Sh.u))) mv)])), (D.p (Pt.one (L.pv (Id.mk 0 0) 0))), (D.p (Pt.one (L.pv (Id.mk 0 1) 0)))] [(Ob.va [(L.fn 29 [])]), (Ob.va [(L.rw (Id.mk 0 2))]), (Ob.ro true 0 4 Sh.b Ow.z inn Option.none)] = r40M n a mv inn := by
  rw [r40T_ev]
  rfl

abbrev r31h : Hn := hn0
noncomputable abbrev r31f : Func := fn 31
noncomputable def r31T  (a : ByteArray) (mv : List (Int × Int × Unit)) (inn : List Bool) : Option Lf :=
 bif rngV inn.length mv then
  some (Lf.mk [(Pt.one (L.d (Pv.fz true) Sh.b (mv.any (yes inn) : Bool)))] [(Ob.va [(L.rw (Id.mk 0 1))]), (Ob.ro true 0 4 Sh.b Ow.z (inn : List Bool) Option.none)] [])
 else
  none
noncomputable def r31M (_ : Nat) (a : ByteArray) (mv : List (Int × Int × Unit)) (inn : List Bool) : Option Lf := r31T  a mv inn
theorem r31T_ev (n : Nat) (a : ByteArray) (mv : List (Int × Int × Unit)) (inn : List Bool) : evF C14 r31h n r31f [(D.p (Pt.agg [(L.d (Pv.fz true) Sh.s a), (L.d (Pv.fz false) (Sh.l (Sh.p (Sh.i IntKind.i64) (Sh.p (Sh.i IntKind.i64) Sh.u))) mv)])), (D.p (Pt.one (L.pv (Id.mk 0 0) 0)))] [(Ob.va [(L.rw (Id.mk 0 1))]), (Ob.ro true 0 4 Sh.b Ow.z inn Option.none)] = r31T  a mv inn := by kernel_rfl
theorem r31_ev (n : Nat) (a : ByteArray) (mv : List (Int × Int × Unit)) (inn : List Bool) : evF C14 r31h n r31f [(D.p (Pt.agg [(L.d (Pv.fz true) Sh.s a), (L.d (Pv.fz false) (Sh.l (Sh.p (Sh.i IntKind.i64) (Sh.p (Sh.i IntKind.i64) Sh.u))) mv)])), (D.p (Pt.one (L.pv (Id.mk 0 0) 0)))] [(Ob.va [(L.rw (Id.mk 0 1))]), (Ob.ro true 0 4 Sh.b Ow.z inn Option.none)] = r31M n a mv inn := by
  rw [r31T_ev]
  rfl

abbrev r35h : Hn := h35
noncomputable abbrev r35f : Func := fn 35
noncomputable def r35T  (v : List Bool) : Option Lf :=
 bif zn v.length == 0 then
  both (
   some (Lf.mk [(Pt.one (L.rw (Id.mk 1 0)))] [] [(Ob.ro true 0 4 Sh.b Ow.z ([] : List Bool) Option.none)]))
  (
   bif decide ((0 + v.length) * 1 ≤ 140737488355328) then
    some (Lf.mk [(Pt.one (L.rw (Id.mk 1 0)))] [] [(Ob.ro true 0 4 Sh.b Ow.z (v : List Bool) Option.none)])
   else
    none)
 else
  bif decide ((0 + v.length) * 1 ≤ 140737488355328) then
   some (Lf.mk [(Pt.one (L.rw (Id.mk 1 0)))] [] [(Ob.ro true 0 4 Sh.b Ow.z (v : List Bool) Option.none)])
  else
   none
noncomputable def r35M (_ : Nat) (v : List Bool) : Option Lf := r35T  v
theorem r35T_ev (n : Nat) (v : List Bool) : evF C1 r35h n r35f [(D.p (Pt.one (L.d (Pv.fz false) (Sh.l Sh.b) v)))] [] = r35T  v := by kernel_rfl
theorem r35_ev (n : Nat) (v : List Bool) : evF C1 r35h n r35f [(D.p (Pt.one (L.d (Pv.fz false) (Sh.l Sh.b) v)))] [] = r35M n v := by
  rw [r35T_ev]
  rfl

abbrev r27h : Hn := h27
noncomputable abbrev r27f : Func := fn 27
abbrev r27G0 := (List Bool) → (List Bool) → Int → Int → Option Lf
noncomputable def r27H0 (x0_0 : List Bool) (x0_1 : List Bool) (x0_2 : Int) (x0_3 : Int) : St := (St.mk [(D.p (Pt.one (L.d (Pv.fz false) (Sh.l Sh.b) x0_0))), (D.p (Pt.one (L.d (Pv.fz false) (Sh.l Sh.b) x0_1))), dead, dead, dead, dead, dead, dead, dead, dead, dead, dead, (D.p (Pt.one (L.d (Pv.fz true) (Sh.i IntKind.i64) x0_2))), (D.p (Pt.one (L.d (Pv.fz true) (Sh.i IntKind.i64) x0_3))), dead, dead, dead, dead, dead, dead, dead, dead, dead, dead, dead, dead] [[], []])
noncomputable def r27W0 (G : St → Option Lf) : r27G0 := fun x0_0 x0_1 x0_2 x0_3 => G (r27H0 x0_0 x0_1 x0_2 x0_3)
noncomputable def r27S0  (g0 : r27G0) (x0_0 : List Bool) (x0_1 : List Bool) (x0_2 : Int) (x0_3 : Int) : Option Lf :=
 bif decide (x0_3 < x0_2) then
  bif inb x0_3 x0_0.length then
   bif inb x0_3 x0_1.length then
    bif !x0_0.getD x0_3.toNat false == x0_1.getD x0_3.toNat false then
     some (Lf.mk [(Pt.one (L.d (Pv.fz true) Sh.b (false : Bool)))] [] [])
    else
     g0 (x0_0 : List Bool) (x0_1 : List Bool) (x0_2 : Int) (IntKind.i64.wrap (x0_3 + 1) : Int)
   else
    none
  else
   none
 else
  some (Lf.mk [(Pt.one (L.d (Pv.fz true) Sh.b (true : Bool)))] [] [])
noncomputable def r27L0 (n : Nat)  : Nat → r27G0
  | 0 => fun _ _ _ _ => none
  | m + 1 => fun x0_0 x0_1 x0_2 x0_3 => r27S0   (r27L0 n  m) x0_0 x0_1 x0_2 x0_3
theorem r27S0_ev (n : Nat)  (G : St → Option Lf) (x0_0 : List Bool) (x0_1 : List Bool) (x0_2 : Int) (x0_3 : Int) : rnd C1 r27h n Lf (codeOf r27f) [1, 1, 0, 1, 0] [] (endK C1 r27h r27f) G (r27H0 x0_0 x0_1 x0_2 x0_3) = r27S0   (r27W0 G) x0_0 x0_1 x0_2 x0_3 := by kernel_rfl
theorem r27W0_ev (n : Nat)  : ∀ m, (r27W0 (lp C1 r27h n Lf (codeOf r27f) [1, 1, 0, 1, 0] [] (endK C1 r27h r27f) m)) = r27L0 n  m := by
  intro m
  induction m with
  | zero => funext x0_0 x0_1 x0_2 x0_3; exact lp_zero _
  | succ m ih =>
    funext x0_0 x0_1 x0_2 x0_3
    show lp C1 r27h n Lf (codeOf r27f) [1, 1, 0, 1, 0] [] (endK C1 r27h r27f) (m + 1) (r27H0 x0_0 x0_1 x0_2 x0_3) = r27S0   (r27L0 n  m) x0_0 x0_1 x0_2 x0_3
    rw [lp_succ, r27S0_ev, ih]
noncomputable def r27T (l0 : r27G0) (a : List Bool) (b : List Bool) : Option Lf :=
 bif zn a.length != zn b.length then
  some (Lf.mk [(Pt.one (L.d (Pv.fz true) Sh.b (false : Bool)))] [] [])
 else
  l0 (a : List Bool) (b : List Bool) (zn a.length : Int) (0 : Int)
noncomputable def r27M (n : Nat) (a : List Bool) (b : List Bool) : Option Lf := r27T (r27L0 n n) a b
theorem r27T_ev (n : Nat) (a : List Bool) (b : List Bool) : evF C1 r27h n r27f [(D.p (Pt.one (L.d (Pv.fz false) (Sh.l Sh.b) a))), (D.p (Pt.one (L.d (Pv.fz false) (Sh.l Sh.b) b)))] [] = r27T (r27W0 (lp C1 r27h n Lf (codeOf r27f) [1, 1, 0, 1, 0] [] (endK C1 r27h r27f) n)) a b := by kernel_rfl
theorem r27_ev (n : Nat) (a : List Bool) (b : List Bool) : evF C1 r27h n r27f [(D.p (Pt.one (L.d (Pv.fz false) (Sh.l Sh.b) a))), (D.p (Pt.one (L.d (Pv.fz false) (Sh.l Sh.b) b)))] [] = r27M n a b := by
  rw [r27T_ev, r27W0_ev]
  rfl

abbrev r19h : Hn := h19
noncomputable abbrev r19f : Func := fn 19
abbrev r19G0 := (List Bool) → (List Bool) → Int → Option Lf
noncomputable def r19H0 (x0_0 : List Bool) (x0_1 : List Bool) (x0_2 : Int) : St := (St.mk [(D.p (Pt.one (L.d (Pv.fz false) (Sh.l Sh.b) x0_0))), (D.p (Pt.one (L.d (Pv.fz false) (Sh.l Sh.b) x0_1))), dead, dead, dead, (D.p (Pt.one (L.d (Pv.fz true) (Sh.i IntKind.i64) x0_2))), dead, dead, dead, dead, dead, dead, dead, dead, dead, dead, dead, dead, dead, dead, dead, dead, dead, dead, dead, dead] [[], []])
noncomputable def r19W0 (G : St → Option Lf) : r19G0 := fun x0_0 x0_1 x0_2 => G (r19H0 x0_0 x0_1 x0_2)
noncomputable def r19S0  (g0 : r19G0) (x0_0 : List Bool) (x0_1 : List Bool) (x0_2 : Int) : Option Lf :=
 bif decide (x0_2 < zn x0_0.length) then
  bif inb x0_2 x0_0.length then
   bif inb x0_2 x0_1.length then
    bif !x0_0.getD x0_2.toNat false == x0_1.getD x0_2.toNat false then
     some (Lf.mk [(Pt.one (L.d (Pv.fz true) Sh.b (false : Bool)))] [] [])
    else
     g0 (x0_0 : List Bool) (x0_1 : List Bool) (IntKind.i64.wrap (x0_2 + 1) : Int)
   else
    none
  else
   none
 else
  some (Lf.mk [(Pt.one (L.d (Pv.fz true) Sh.b (true : Bool)))] [] [])
noncomputable def r19L0 (n : Nat)  : Nat → r19G0
  | 0 => fun _ _ _ => none
  | m + 1 => fun x0_0 x0_1 x0_2 => r19S0   (r19L0 n  m) x0_0 x0_1 x0_2
theorem r19S0_ev (n : Nat)  (G : St → Option Lf) (x0_0 : List Bool) (x0_1 : List Bool) (x0_2 : Int) : rnd C1 r19h n Lf (codeOf r19f) [1, 1, 0, 1, 0] [] (endK C1 r19h r19f) G (r19H0 x0_0 x0_1 x0_2) = r19S0   (r19W0 G) x0_0 x0_1 x0_2 := by kernel_rfl
theorem r19W0_ev (n : Nat)  : ∀ m, (r19W0 (lp C1 r19h n Lf (codeOf r19f) [1, 1, 0, 1, 0] [] (endK C1 r19h r19f) m)) = r19L0 n  m := by
  intro m
  induction m with
  | zero => funext x0_0 x0_1 x0_2; exact lp_zero _
  | succ m ih =>
    funext x0_0 x0_1 x0_2
    show lp C1 r19h n Lf (codeOf r19f) [1, 1, 0, 1, 0] [] (endK C1 r19h r19f) (m + 1) (r19H0 x0_0 x0_1 x0_2) = r19S0   (r19L0 n  m) x0_0 x0_1 x0_2
    rw [lp_succ, r19S0_ev, ih]
noncomputable def r19T (l0 : r19G0) (a : List Bool) (b : List Bool) : Option Lf :=
 bif zn a.length != zn b.length then
  some (Lf.mk [(Pt.one (L.d (Pv.fz true) Sh.b (false : Bool)))] [] [])
 else
  l0 (a : List Bool) (b : List Bool) (0 : Int)
noncomputable def r19M (n : Nat) (a : List Bool) (b : List Bool) : Option Lf := r19T (r19L0 n n) a b
theorem r19T_ev (n : Nat) (a : List Bool) (b : List Bool) : evF C1 r19h n r19f [(D.p (Pt.one (L.d (Pv.fz false) (Sh.l Sh.b) a))), (D.p (Pt.one (L.d (Pv.fz false) (Sh.l Sh.b) b)))] [] = r19T (r19W0 (lp C1 r19h n Lf (codeOf r19f) [1, 1, 0, 1, 0] [] (endK C1 r19h r19f) n)) a b := by kernel_rfl
theorem r19_ev (n : Nat) (a : List Bool) (b : List Bool) : evF C1 r19h n r19f [(D.p (Pt.one (L.d (Pv.fz false) (Sh.l Sh.b) a))), (D.p (Pt.one (L.d (Pv.fz false) (Sh.l Sh.b) b)))] [] = r19M n a b := by
  rw [r19T_ev, r19W0_ev]
  rfl

abbrev r22h : Hn := hn0
noncomputable abbrev r22f : Func := fn 22
noncomputable def r22T  (i : Int) (ch : List (List (ByteArray × List (Int × Int × Unit) × Unit))) (nm : List ByteArray) (ho : List (List Int)) (set : List Bool) : Option Lf :=
 bif mdG ch nm ho && (!(er1 (mdOk i ch nm ho)).isNil || true) then
  bif !(er1 (mdOk i ch nm ho)).isNil || zn set.length != zn ch.length then
   some (Lf.mk [(Pt.one (L.d (Pv.fz true) Sh.e (Er.no 1 : Er)))] [] [])
  else
   some (Lf.mk [(Pt.one (L.d (Pv.fz true) Sh.e (Er.nil : Er)))] [] [])
 else
  none
noncomputable def r22M (_ : Nat) (i : Int) (ch : List (List (ByteArray × List (Int × Int × Unit) × Unit))) (nm : List ByteArray) (ho : List (List Int)) (set : List Bool) : Option Lf := r22T  i ch nm ho set
theorem r22T_ev (n : Nat) (i : Int) (ch : List (List (ByteArray × List (Int × Int × Unit) × Unit))) (nm : List ByteArray) (ho : List (List Int)) (set : List Bool) : evF C15 r22h n r22f [(D.p (Pt.agg [(L.d (Pv.fz true) (Sh.i IntKind.i64) i), (L.d (Pv.fz false) (Sh.l (Sh.l (Sh.p Sh.s (Sh.p (Sh.l (Sh.p (Sh.i IntKind.i64) (Sh.p (Sh.i IntKind.i64) Sh.u))) Sh.u)))) ch), (L.d (Pv.fz false) (Sh.l Sh.s) nm), (L.d (Pv.fz false) (Sh.l (Sh.l (Sh.i IntKind.i64))) ho)])), (D.p (Pt.one (L.d (Pv.fz false) (Sh.l Sh.b) set)))] [] = r22T  i ch nm ho set := by kernel_rfl
theorem r22_ev (n : Nat) (i : Int) (ch : List (List (ByteArray × List (Int × Int × Unit) × Unit))) (nm : List ByteArray) (ho : List (List Int)) (set : List Bool) : evF C15 r22h n r22f [(D.p (Pt.agg [(L.d (Pv.fz true) (Sh.i IntKind.i64) i), (L.d (Pv.fz false) (Sh.l (Sh.l (Sh.p Sh.s (Sh.p (Sh.l (Sh.p (Sh.i IntKind.i64) (Sh.p (Sh.i IntKind.i64) Sh.u))) Sh.u)))) ch), (L.d (Pv.fz false) (Sh.l Sh.s) nm), (L.d (Pv.fz false) (Sh.l (Sh.l (Sh.i IntKind.i64))) ho)])), (D.p (Pt.one (L.d (Pv.fz false) (Sh.l Sh.b) set)))] [] = r22M n i ch nm ho set := by
  rw [r22T_ev]
  rfl
end Go.S22
