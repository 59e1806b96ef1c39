/-
  Seat 23: the contracts of Same, To and Sets.
-/
import Derived.Test.YtkbablmhgnpmmaaDoorS23I
open Go Go.En
namespace Go.S23
/-! ### To -/
def chM6 (ch : List (List ChV)) : Bool := m6 ch.length && ch.all fun l => m6 l.length && l.all fun c => m6 c.2.1.length
def gE5 (e1 e2 e3 e4 e5 : Nat) : Bool := e1.beq 59 && (e2.beq 62 && (e3.beq 67 && (e4.beq 27 && e5.beq 3)))
theorem gE5_eq {e1 e2 e3 e4 e5 : Nat} (h : gE5 e1 e2 e3 e4 e5 = true) : e1 = 59 ∧ e2 = 62 ∧ e3 = 67 ∧ e4 = 27 ∧ e5 = 3 := by
  unfold gE5 at h
  simp only [Bool.and_eq_true, Nat.beq_eq] at h
  exact ⟨h.1, h.2.1, h.2.2.1, h.2.2.2.1, h.2.2.2.2⟩
def toS : En.Spec := ⟨[0], fun ds os => match ds, os with
  | [.p (.agg [.d (.fz true) (.i .i64) i, .rw ⟨0, 0⟩, .d (.fz false) (.l .s) nm, .rw ⟨0, 1⟩])], [.ro true 0 e1 (.l (.p .s (.p (.l (.p (.i .i64) (.p (.i .i64) .u))) .u))) (.l e2 (.p .z (.p (.l e3 .z) .z))) ch none, .ro true 0 e4 (.l (.i .i64)) (.l e5 .z) ho none] =>
    bif gE5 e1 e2 e3 e4 e5 then .br (chM6 ch) (.leaf [.agg [.d (.fz true) (.i .i64) i, .rw ⟨1, 0⟩, .d (.fz false) (.l .s) nm, .rw ⟨0, 1⟩]] [roC ch, roN ho] [roR ch]) .fail else .fail
  | _, _ => .fail⟩
section
variable {ch : List (List ChV)} (ho : List (List Int)) (i : Int) (nm : List ByteArray) (p q : Int) (nm2 : List ByteArray)
theorem to_loop2 (g0 : f17G0) (g1 : f17G1) {s c : Nat} (hs : s < ch.length) (hc : c < (cg ch s).length) (hc2 : c ≤ 1000000) (hl : (cgg ch s c).2.1.length ≤ 1000000) (la : List ChV) (hla : la.length ≤ 1000000) (a : ByteArray) (CH : List (List ChV)) : ∀ (m n k : Nat), k ≤ (cgg ch s c).2.1.length → (cgg ch s c).2.1.length - k < m →
    f17L2 n g0 g1 m (s : Int) (c : Int) (k : Int) ch ho i nm p q nm2 la a CH ((cgg ch s c).2.1.take k) = g1 (s : Int) ((c + 1 : Nat) : Int) ch ho i nm p q nm2 (la ++ [(a, (cgg ch s c).2.1, ())]) CH
  | 0, _, _, _, h => absurd h (Nat.not_lt_zero _)
  | m + 1, n, k, hk, hm => by
    show f17S2 g0 g1 (f17L2 n g0 g1 m) (s : Int) (c : Int) (k : Int) ch ho i nm p q nm2 la a CH ((cgg ch s c).2.1.take k) = _
    unfold f17S2
    rw [inb_k hs, Int.toNat_natCast, inb_k hc, Int.toNat_natCast]
    by_cases h0 : k < (cgg ch s c).2.1.length
    · have e3 : ∀ x : MvV, decide ((((cgg ch s c).2.1.take k).length + [x].length) * 16 ≤ 140737488355328) = true := fun x => by
        rw [decide_eq_true_eq, List.length_take, List.length_singleton]; omega
      have ih := to_loop2 g0 g1 hs hc hc2 hl la hla a CH m n (k + 1) h0 (by omega)
      rw [take_succ_get h0 (0, 0, ())] at ih
      rw [lt_k h0, inb_k h0, wr_k (k := k) (by omega), Int.toNat_natCast, e3]
      exact ih
    · have hke : k = (cgg ch s c).2.1.length := by omega
      have e3 : ∀ x : ChV, decide ((la.length + [x].length) * 40 ≤ 140737488355328) = true := fun x => by
        rw [decide_eq_true_eq, List.length_singleton]; omega
      rw [nlt_k h0, e3, wr_k (k := c) (by omega), hke, List.take_length]; rfl
theorem to_loop1 (g0 : f17G0) {s : Nat} (hs : s < ch.length) (hs2 : s ≤ 1000000) (hl : (cg ch s).length ≤ 1000000) (hm6 : ∀ c ∈ cg ch s, c.2.1.length ≤ 1000000) (CH : List (List ChV)) (hCH : CH.length ≤ 1000000) : ∀ (m c : Nat), c ≤ (cg ch s).length → (cg ch s).length - c < m →
    f17L1 1000001 g0 m (s : Int) (c : Int) ch ho i nm p q nm2 ((cg ch s).take c) CH = g0 ((s + 1 : Nat) : Int) ch ho i nm p q nm2 (CH ++ [cg ch s])
  | 0, _, _, h => absurd h (Nat.not_lt_zero _)
  | m + 1, c, hc, hm => by
    show f17S1 (f17L2 1000001 g0 (f17L1 1000001 g0 m) 1000001) g0 (f17L1 1000001 g0 m) (s : Int) (c : Int) ch ho i nm p q nm2 ((cg ch s).take c) CH = _
    unfold f17S1
    rw [inb_k hs, Int.toNat_natCast]
    by_cases h0 : c < (cg ch s).length
    · have hmv : (cgg ch s c).2.1.length ≤ 1000000 := hm6 _ (get_mem h0 ({ data := #[] }, [], ()))
      have r2 := to_loop2 ho i nm p q nm2 g0 (f17L1 1000001 g0 m) hs h0 (by omega) hmv ((cg ch s).take c) (by rw [List.length_take]; omega) (cgg ch s c).1 CH 1000001 1000001 0 (Nat.zero_le _) (by omega)
      have ih := to_loop1 g0 hs hs2 hl hm6 CH hCH m (c + 1) h0 (by omega)
      rw [take_succ_get h0 ({ data := #[] }, [], ())] at ih
      rw [lt_k h0, inb_k h0, Int.toNat_natCast]
      exact Eq.trans (b := f17L2 1000001 g0 (f17L1 1000001 g0 m) 1000001 (s : Int) (c : Int) ((0 : Nat) : Int) ch ho i nm p q nm2 ((cg ch s).take c) (cgg ch s c).1 CH ((cgg ch s c).2.1.take 0)) rfl (r2.trans ih)
    · have hke : c = (cg ch s).length := by omega
      have e3 : ∀ x : List ChV, decide ((CH.length + [x].length) * 24 ≤ 140737488355328) = true := fun x => by
        rw [decide_eq_true_eq, List.length_singleton]; omega
      rw [nlt_k h0, e3, wr_k (by omega), hke, List.take_length]; rfl
theorem to_loop0 (hl : ch.length ≤ 1000000) (hch : ∀ l ∈ ch, l.length ≤ 1000000 ∧ ∀ c ∈ l, c.2.1.length ≤ 1000000) : ∀ (m s : Nat), s ≤ ch.length → ch.length - s < m →
    f17L0 1000001 m (s : Int) ch ho i nm p q nm2 (ch.take s) = some ⟨[.agg [.d (.fz true) (.i .i64) q, .rw ⟨1, 0⟩, .d (.fz false) (.l .s) nm2, .rw ⟨0, 1⟩]], [roC ch, roN ho], [roR ch]⟩
  | 0, _, _, h => absurd h (Nat.not_lt_zero _)
  | m + 1, s, hs, hm => by
    show f17S0 (f17L1 1000001 (f17L0 1000001 m) 1000001) (f17L0 1000001 m) (s : Int) ch ho i nm p q nm2 (ch.take s) = _
    unfold f17S0
    by_cases h0 : s < ch.length
    · have hm0 := hch _ (get_mem h0 [])
      have hm1 : (cg ch s).length ≤ 1000000 := hm0.1
      have r1 := to_loop1 ho i nm p q nm2 (f17L0 1000001 m) h0 (by omega) hm0.1 hm0.2 (ch.take s) (by rw [List.length_take]; omega) 1000001 0 (Nat.zero_le _) (by omega)
      have ih := to_loop0 hl hch m (s + 1) h0 (by omega)
      rw [take_succ_get h0 []] at ih
      rw [lt_k h0]
      exact Eq.trans (b := f17L1 1000001 (f17L0 1000001 m) 1000001 (s : Int) ((0 : Nat) : Int) ch ho i nm p q nm2 ((cg ch s).take 0) (ch.take s)) rfl (r1.trans ih)
    · have hke : s = ch.length := by omega
      subst hke
      rw [nlt_k h0, List.take_length]; rfl
end
theorem to_T (i : Int) (ch : List (List ChV)) (nm : List ByteArray) (ho : List (List Int)) (h : chM6 ch = true) : f17M 1000001 i ch nm ho = some ⟨[.agg [.d (.fz true) (.i .i64) i, .rw ⟨1, 0⟩, .d (.fz false) (.l .s) nm, .rw ⟨0, 1⟩]], [roC ch, roN ho], [roR ch]⟩ := by
  unfold chM6 m6 at h
  simp only [Bool.and_eq_true, List.all_eq_true] at h
  exact to_loop0 ho i nm 0 i nm (of_ble h.1) (fun l hl => ⟨of_ble (h.2 l hl).1, fun c hc => of_ble ((h.2 l hl).2 c hc)⟩) 1000001 0 (Nat.zero_le _) (by have := of_ble h.1; omega)
theorem to_ok : FnOk P C0 17 toS := by
  refine fn_okC ctx1 (show P.funcs[17]? = some f17f by kernel_rfl) (of_decide_eq_true (by kernel_rfl)) (toS) f17h (fun ds os lf hp => ?_)
  unfold toS at hp
  simp only at hp
  split at hp
  · rename_i i nm e1 e2 e3 ch e4 e5 ho
    obtain ⟨he, hp⟩ := gBool hp
    obtain ⟨rfl, rfl, rfl, rfl, rfl⟩ := gE5_eq he
    change (bif chM6 ch then _ else _) = _ at hp
    cases hll : chM6 ch with
    | false => rw [hll] at hp; cases hp
    | true =>
      rw [hll] at hp
      simp only [cond_true] at hp
      exact ⟨_, (f17_ev _ i ch nm ho).trans ((to_T i ch nm ho hll).trans hp)⟩
  · cases hp
/-! ### Same -/
def all2 {α : Type} (e : α → α → Bool) : List α → List α → Bool
  | [], [] => true
  | x :: a, y :: b => e x y && all2 e a b
  | _, _ => false
theorem all2_len {α : Type} {e : α → α → Bool} : ∀ {a b : List α}, all2 e a b = true → a.length = b.length
  | [], [], _ => rfl
  | x :: a, y :: b, h => by
    have h : (e x y && all2 e a b) = true := h
    rw [Bool.and_eq_true] at h
    rw [List.length_cons, List.length_cons, all2_len h.2]
  | [], _ :: _, h => by cases h
  | _ :: _, [], h => by cases h
theorem all2_ne {α : Type} {e : α → α → Bool} {a b : List α} (h : a.length ≠ b.length) : all2 e a b = false := by
  cases hc : all2 e a b with
  | false => rfl
  | true => exact absurd (all2_len hc) h
def eqS (a b : ByteArray) : Bool := a.toList == b.toList
def eqMv (a b : MvV) : Bool := keyEq kySh a b
def eqC (a b : ChV) : Bool := eqS a.1 b.1 && all2 eqMv a.2.1 b.2.1
def eqI (a b : Int) : Bool := a == b
def sameM (i : Int) (ch : List (List ChV)) (nm : List ByteArray) (ho : List (List Int)) (i2 : Int) (ch2 : List (List ChV)) (nm2 : List ByteArray) (ho2 : List (List Int)) : Bool :=
  i == i2 && (all2 eqS nm nm2 && (all2 (all2 eqI) ho ho2 && all2 (all2 eqC) ch ch2))
def sameG (ch : List (List ChV)) (nm : List ByteArray) (ho : List (List Int)) : Bool := chM6 ch && (m6 nm.length && (m6 ho.length && ho.all fun l => m6 l.length))
def sameS : En.Spec := ⟨[], fun ds os => match ds, os with
  | [.p (.agg [.d (.fz true) (.i .i64) i, .d (.fz false) (.l (.l (.p .s (.p (.l (.p (.i .i64) (.p (.i .i64) .u))) .u)))) ch, .d (.fz false) (.l .s) nm, .d (.fz false) (.l (.l (.i .i64))) ho]),
     .p (.agg [.d (.fz true) (.i .i64) i2, .d (.fz false) (.l (.l (.p .s (.p (.l (.p (.i .i64) (.p (.i .i64) .u))) .u)))) ch2, .d (.fz false) (.l .s) nm2, .d (.fz false) (.l (.l (.i .i64))) ho2])], [] =>
    .br (sameG ch nm ho) (.leaf [pB (sameM i ch nm ho i2 ch2 nm2 ho2)] [] []) .fail
  | _, _ => .fail⟩
section
variable (i : Int) (ch : List (List ChV)) (nm : List ByteArray) (ho : List (List Int)) (i2 : Int) (ch2 : List (List ChV)) (nm2 : List ByteArray) (ho2 : List (List Int))
theorem sm_loop5 (g3 : f16G3) (g4 : f16G4) (s : Int) {c : Nat} (hc : c ≤ 1000000) (a : ByteArray) (mv : List MvV) (a2 : ByteArray) (mv2 : List MvV) (hl : mv.length ≤ 1000000) (he : mv.length = mv2.length) : ∀ (m n k : Nat), k ≤ mv.length → mv.length - k < m →
    f16L5 n g3 g4 m s (c : Int) (k : Int) i ch nm ho i2 ch2 nm2 ho2 a mv a2 mv2 = bif all2 eqMv (mv.drop k) (mv2.drop k) then g4 s ((c + 1 : Nat) : Int) i ch nm ho i2 ch2 nm2 ho2 else some ⟨[pB false], [], []⟩
  | 0, _, _, _, h => absurd h (Nat.not_lt_zero _)
  | m + 1, n, k, hk, hm => by
    show f16S5 g3 g4 (f16L5 n g3 g4 m) s (c : Int) (k : Int) i ch nm ho i2 ch2 nm2 ho2 a mv a2 mv2 = _
    unfold f16S5
    by_cases h0 : k < mv.length
    · have h1 : k < mv2.length := by omega
      rw [lt_k h0, inb_k h0, inb_k h1, wr_k (k := k) (by omega), Int.toNat_natCast, sm_loop5 g3 g4 s hc a mv a2 mv2 hl he m n (k + 1) h0 (by omega), drop_get h0 (0, 0, ()), drop_get h1 (0, 0, ())]
      show (bif true then bif true then bif true then bif !eqMv (mv.getD k (0, 0, ())) (mv2.getD k (0, 0, ())) then _ else _ else _ else _ else _) = bif eqMv (mv.getD k (0, 0, ())) (mv2.getD k (0, 0, ())) && all2 eqMv (mv.drop (k + 1)) (mv2.drop (k + 1)) then _ else _
      cases eqMv (mv.getD k (0, 0, ())) (mv2.getD k (0, 0, ())) <;> rfl
    · rw [nlt_k h0, List.drop_eq_nil_of_le (by omega), List.drop_eq_nil_of_le (by omega), wr_k (k := c) (by omega)]; rfl
theorem sm_loop4 (g3 : f16G3) {s : Nat} (hs : s < ch.length) (hs1 : s < ch2.length) (hs2 : s ≤ 1000000) (hl : (cg ch s).length ≤ 1000000) (he : (cg ch s).length = (cg ch2 s).length) (hm6 : ∀ c ∈ cg ch s, c.2.1.length ≤ 1000000) : ∀ (m c : Nat), c ≤ (cg ch s).length → (cg ch s).length - c < m →
    f16L4 1000001 g3 m (s : Int) (c : Int) i ch nm ho i2 ch2 nm2 ho2 = bif all2 eqC ((cg ch s).drop c) ((cg ch2 s).drop c) then g3 ((s + 1 : Nat) : Int) i ch nm ho i2 ch2 nm2 ho2 else some ⟨[pB false], [], []⟩
  | 0, _, _, h => absurd h (Nat.not_lt_zero _)
  | m + 1, c, hc, hm => by
    show f16S4 (f16L5 1000001 g3 (f16L4 1000001 g3 m) 1000001) g3 (f16L4 1000001 g3 m) (s : Int) (c : Int) i ch nm ho i2 ch2 nm2 ho2 = _
    unfold f16S4
    rw [inb_k hs, inb_k hs1, Int.toNat_natCast]
    by_cases h0 : c < (cg ch s).length
    · have h1 : c < (cg ch2 s).length := by omega
      have hm0 := hm6 _ (get_mem h0 ({ data := #[] }, [], ()))
      rw [lt_k h0, inb_k h0, inb_k h1, Int.toNat_natCast, drop_get h0 (({ data := #[] }, [], ()) : ChV), drop_get h1 (({ data := #[] }, [], ()) : ChV)]
      show (bif true then bif true then bif true then bif true then bif true then bif true then bif true && (true && (!eqS (cgg ch s c).1 (cgg ch2 s c).1 || true)) then bif !eqS (cgg ch s c).1 (cgg ch2 s c).1 || (zn (cgg ch s c).2.1.length != zn (cgg ch2 s c).2.1.length) then _ else f16L5 1000001 g3 (f16L4 1000001 g3 m) 1000001 (s : Int) (c : Int) ((0 : Nat) : Int) i ch nm ho i2 ch2 nm2 ho2 (cgg ch s c).1 (cgg ch s c).2.1 (cgg ch2 s c).1 (cgg ch2 s c).2.1 else _ else _ else _ else _ else _ else _ else _) = bif (eqS (cgg ch s c).1 (cgg ch2 s c).1 && all2 eqMv (cgg ch s c).2.1 (cgg ch2 s c).2.1) && all2 eqC ((cg ch s).drop (c + 1)) ((cg ch2 s).drop (c + 1)) then _ else _
      by_cases hle : (cgg ch s c).2.1.length = (cgg ch2 s c).2.1.length
      · have r5 := sm_loop5 i ch nm ho i2 ch2 nm2 ho2 g3 (f16L4 1000001 g3 m) (s : Int) (c := c) (by omega) (cgg ch s c).1 (cgg ch s c).2.1 (cgg ch2 s c).1 (cgg ch2 s c).2.1 hm0 hle 1000001 1000001 0 (Nat.zero_le _) (by have : (cgg ch s c).2.1.length ≤ 1000000 := hm0; omega)
        rw [sm_loop4 g3 hs hs1 hs2 hl he hm6 m (c + 1) h0 (by omega), List.drop_zero, List.drop_zero] at r5
        have e0 : (zn (cgg ch s c).2.1.length != zn (cgg ch2 s c).2.1.length) = false := by rw [hle]; simp
        rw [r5, e0]
        cases eqS (cgg ch s c).1 (cgg ch2 s c).1 <;> cases all2 eqMv (cgg ch s c).2.1 (cgg ch2 s c).2.1 <;> rfl
      · have e0 : (zn (cgg ch s c).2.1.length != zn (cgg ch2 s c).2.1.length) = true := by simp only [zn, bne_iff_ne, ne_eq]; omega
        rw [e0, all2_ne (e := eqMv) hle]
        cases eqS (cgg ch s c).1 (cgg ch2 s c).1 <;> rfl
    · rw [nlt_k h0, List.drop_eq_nil_of_le (by omega), List.drop_eq_nil_of_le (by omega), wr_k (k := s) (by omega)]; rfl
theorem sm_loop3 (hl : ch.length ≤ 1000000) (he : ch.length = ch2.length) (hch : ∀ l ∈ ch, l.length ≤ 1000000 ∧ ∀ c ∈ l, c.2.1.length ≤ 1000000) : ∀ (m s : Nat), s ≤ ch.length → ch.length - s < m →
    f16L3 1000001 m (s : Int) i ch nm ho i2 ch2 nm2 ho2 = some ⟨[pB (all2 (all2 eqC) (ch.drop s) (ch2.drop s))], [], []⟩
  | 0, _, _, h => absurd h (Nat.not_lt_zero _)
  | m + 1, s, hs, hm => by
    show f16S3 (f16L4 1000001 (f16L3 1000001 m) 1000001) (f16L3 1000001 m) (s : Int) i ch nm ho i2 ch2 nm2 ho2 = _
    unfold f16S3
    by_cases h0 : s < ch.length
    · have h1 : s < ch2.length := by omega
      have hm0 := hch _ (get_mem h0 [])
      have hm1 : (cg ch s).length ≤ 1000000 := hm0.1
      rw [lt_k h0, inb_k h0, inb_k h1, Int.toNat_natCast, drop_get h0 [], drop_get h1 []]
      show (bif true then bif true then bif true then bif zn (cg ch s).length != zn (cg ch2 s).length then _ else f16L4 1000001 (f16L3 1000001 m) 1000001 (s : Int) ((0 : Nat) : Int) i ch nm ho i2 ch2 nm2 ho2 else _ else _ else _) = some (Lf.mk [pB (all2 eqC (cg ch s) (cg ch2 s) && all2 (all2 eqC) (ch.drop (s + 1)) (ch2.drop (s + 1)))] [] [])
      by_cases hle : (cg ch s).length = (cg ch2 s).length
      · have r4 := sm_loop4 i ch nm ho i2 ch2 nm2 ho2 (f16L3 1000001 m) h0 h1 (by omega) hm1 hle hm0.2 1000001 0 (Nat.zero_le _) (by omega)
        rw [sm_loop3 hl he hch m (s + 1) h0 (by omega), List.drop_zero, List.drop_zero] at r4
        have e0 : (zn (cg ch s).length != zn (cg ch2 s).length) = false := by rw [hle]; simp
        rw [r4, e0]
        cases all2 eqC (cg ch s) (cg ch2 s) <;> rfl
      · have e0 : (zn (cg ch s).length != zn (cg ch2 s).length) = true := by simp only [zn, bne_iff_ne, ne_eq]; omega
        rw [e0, all2_ne (e := eqC) hle]; rfl
    · rw [nlt_k h0, List.drop_eq_nil_of_le (by omega), List.drop_eq_nil_of_le (by omega)]; rfl
theorem sm_loop2 (g1 : f16G1) {s : Nat} (hs : s < ho.length) (hs1 : s < ho2.length) (hs2 : s ≤ 1000000) (hl : (ho.getD s []).length ≤ 1000000) (he : (ho.getD s []).length = (ho2.getD s []).length) : ∀ (m n c : Nat), c ≤ (ho.getD s []).length → (ho.getD s []).length - c < m →
    f16L2 n g1 m (s : Int) (c : Int) i ch nm ho i2 ch2 nm2 ho2 = bif all2 eqI ((ho.getD s []).drop c) ((ho2.getD s []).drop c) then g1 ((s + 1 : Nat) : Int) i ch nm ho i2 ch2 nm2 ho2 else some ⟨[pB false], [], []⟩
  | 0, _, _, _, h => absurd h (Nat.not_lt_zero _)
  | m + 1, n, c, hc, hm => by
    show f16S2 g1 (f16L2 n g1 m) (s : Int) (c : Int) i ch nm ho i2 ch2 nm2 ho2 = _
    unfold f16S2
    rw [inb_k hs, inb_k hs1, Int.toNat_natCast]
    by_cases h0 : c < (ho.getD s []).length
    · have h1 : c < (ho2.getD s []).length := by omega
      rw [lt_k h0, inb_k h0, inb_k h1, wr_k (k := c) (by omega), Int.toNat_natCast, sm_loop2 g1 hs hs1 hs2 hl he m n (c + 1) h0 (by omega), drop_get h0 0, drop_get h1 0]
      show (bif true then bif true then bif true then bif true then bif true then bif true then bif !((ho.getD s []).getD c 0 == (ho2.getD s []).getD c 0) then _ else _ else _ else _ else _ else _ else _ else _) = bif ((ho.getD s []).getD c 0 == (ho2.getD s []).getD c 0) && all2 eqI ((ho.getD s []).drop (c + 1)) ((ho2.getD s []).drop (c + 1)) then _ else _
      cases ((ho.getD s []).getD c 0 == (ho2.getD s []).getD c 0) <;> rfl
    · rw [nlt_k h0, List.drop_eq_nil_of_le (by omega), List.drop_eq_nil_of_le (by omega), wr_k (k := s) (by omega)]; rfl
theorem sm_loop1 (hl : ho.length ≤ 1000000) (he : ho.length = ho2.length) (hch : ∀ l ∈ ho, l.length ≤ 1000000) : ∀ (m s : Nat), s ≤ ho.length → ho.length - s < m →
    f16L1 1000001 m (s : Int) i ch nm ho i2 ch2 nm2 ho2 = bif all2 (all2 eqI) (ho.drop s) (ho2.drop s) then f16L3 1000001 1000001 0 i ch nm ho i2 ch2 nm2 ho2 else some ⟨[pB false], [], []⟩
  | 0, _, _, h => absurd h (Nat.not_lt_zero _)
  | m + 1, s, hs, hm => by
    show f16S1 (f16L2 1000001 (f16L1 1000001 m) 1000001) (f16L3 1000001 1000001) (f16L1 1000001 m) (s : Int) i ch nm ho i2 ch2 nm2 ho2 = _
    unfold f16S1
    by_cases h0 : s < ho.length
    · have h1 : s < ho2.length := by omega
      have hm0 := hch _ (get_mem h0 [])
      rw [lt_k h0, inb_k h0, inb_k h1, Int.toNat_natCast, drop_get h0 [], drop_get h1 []]
      show (bif true then bif true then bif true then bif zn (ho.getD s []).length != zn (ho2.getD s []).length then _ else f16L2 1000001 (f16L1 1000001 m) 1000001 (s : Int) ((0 : Nat) : Int) i ch nm ho i2 ch2 nm2 ho2 else _ else _ else _) = bif all2 eqI (ho.getD s []) (ho2.getD s []) && all2 (all2 eqI) (ho.drop (s + 1)) (ho2.drop (s + 1)) then _ else _
      by_cases hle : (ho.getD s []).length = (ho2.getD s []).length
      · have r4 := sm_loop2 i ch nm ho i2 ch2 nm2 ho2 (f16L1 1000001 m) h0 h1 (by omega) hm0 hle 1000001 1000001 0 (Nat.zero_le _) (by omega)
        rw [sm_loop1 hl he hch m (s + 1) h0 (by omega), List.drop_zero, List.drop_zero] at r4
        have e0 : (zn (ho.getD s []).length != zn (ho2.getD s []).length) = false := by rw [hle]; simp
        rw [r4, e0]
        cases all2 eqI (ho.getD s []) (ho2.getD s []) <;> rfl
      · have e0 : (zn (ho.getD s []).length != zn (ho2.getD s []).length) = true := by simp only [zn, bne_iff_ne, ne_eq]; omega
        rw [e0, all2_ne (e := eqI) hle]; rfl
    · rw [nlt_k h0, List.drop_eq_nil_of_le (by omega), List.drop_eq_nil_of_le (by omega)]; rfl
theorem sm_loop0 (hl : nm.length ≤ 1000000) (he : nm.length = nm2.length) : ∀ (m s : Nat), s ≤ nm.length → nm.length - s < m →
    f16L0 1000001 m (s : Int) i ch nm ho i2 ch2 nm2 ho2 = bif all2 eqS (nm.drop s) (nm2.drop s) then f16L1 1000001 1000001 0 i ch nm ho i2 ch2 nm2 ho2 else some ⟨[pB false], [], []⟩
  | 0, _, _, h => absurd h (Nat.not_lt_zero _)
  | m + 1, s, hs, hm => by
    show f16S0 (f16L1 1000001 1000001) (f16L0 1000001 m) (s : Int) i ch nm ho i2 ch2 nm2 ho2 = _
    unfold f16S0
    by_cases h0 : s < nm.length
    · have h1 : s < nm2.length := by omega
      rw [lt_k h0, inb_k h0, inb_k h1, wr_k (by omega), Int.toNat_natCast, sm_loop0 hl he m (s + 1) h0 (by omega), drop_get h0 ({ data := #[] } : ByteArray), drop_get h1 ({ data := #[] } : ByteArray)]
      show (bif true then bif true then bif true then bif !eqS (nm.getD s { data := #[] }) (nm2.getD s { data := #[] }) then _ else _ else _ else _ else _) = bif eqS (nm.getD s { data := #[] }) (nm2.getD s { data := #[] }) && all2 eqS (nm.drop (s + 1)) (nm2.drop (s + 1)) then _ else _
      cases eqS (nm.getD s { data := #[] }) (nm2.getD s { data := #[] }) <;> rfl
    · rw [nlt_k h0, List.drop_eq_nil_of_le (by omega), List.drop_eq_nil_of_le (by omega)]; rfl
theorem same_T (h : sameG ch nm ho = true) : f16M 1000001 i ch nm ho i2 ch2 nm2 ho2 = some ⟨[pB (sameM i ch nm ho i2 ch2 nm2 ho2)], [], []⟩ := by
  unfold sameG chM6 m6 at h
  simp only [Bool.and_eq_true, List.all_eq_true] at h
  obtain ⟨⟨h1, h2⟩, h3, h4, h5⟩ := h
  have h1 := of_ble h1
  have h3 := of_ble h3
  have h4 := of_ble h4
  unfold f16M f16T sameM
  have g : (Nat.beq 1 1 && (Nat.beq 1 1 && (i != i2 || Nat.beq 1 1 && (Nat.beq 1 1 && (zn ch.length != zn ch2.length || Nat.beq 1 1 && (Nat.beq 1 1 && (zn nm.length != zn nm2.length || true))))))) = true := by
    cases (i != i2) <;> cases (zn ch.length != zn ch2.length) <;> cases (zn nm.length != zn nm2.length) <;> rfl
  rw [g]
  have ei : (i != i2) = !(i == i2) := rfl
  rw [ei]
  cases (i == i2) with
  | false => rfl
  | true =>
    by_cases hc : ch.length = ch2.length
    · by_cases hn : nm.length = nm2.length
      · by_cases ho' : ho.length = ho2.length
        · have e1 : (zn ch.length != zn ch2.length) = false := by rw [hc]; simp
          have e2 : (zn nm.length != zn nm2.length) = false := by rw [hn]; simp
          have e3 : (zn ho.length != zn ho2.length) = false := by rw [ho']; simp
          have r0 := sm_loop0 i ch nm ho i2 ch2 nm2 ho2 h3 hn 1000001 0 (Nat.zero_le _) (by omega)
          have r1 := sm_loop1 i ch nm ho i2 ch2 nm2 ho2 h4 ho' (fun l hl => of_ble (h5 l hl)) 1000001 0 (Nat.zero_le _) (by omega)
          have r3 := sm_loop3 i ch nm ho i2 ch2 nm2 ho2 h1 hc (fun l hl => ⟨of_ble (h2 l hl).1, fun c hc => of_ble ((h2 l hl).2 c hc)⟩) 1000001 0 (Nat.zero_le _) (by omega)
          rw [List.drop_zero, List.drop_zero] at r0 r1 r3
          have r3' : f16L3 1000001 1000001 0 i ch nm ho i2 ch2 nm2 ho2 = _ := r3
          rw [r3'] at r1
          have r1' : f16L1 1000001 1000001 0 i ch nm ho i2 ch2 nm2 ho2 = _ := r1
          rw [r1'] at r0
          have r0' : f16L0 1000001 1000001 0 i ch nm ho i2 ch2 nm2 ho2 = _ := r0
          rw [e1, e2, e3, r0']
          cases all2 eqS nm nm2 <;> cases all2 (all2 eqI) ho ho2 <;> rfl
        · have e3 : (zn ho.length != zn ho2.length) = true := by simp only [zn, bne_iff_ne, ne_eq]; omega
          rw [e3, all2_ne (e := all2 eqI) ho']
          cases (zn ch.length != zn ch2.length) <;> cases (zn nm.length != zn nm2.length) <;> cases all2 eqS nm nm2 <;> rfl
      · have e3 : (zn nm.length != zn nm2.length) = true := by simp only [zn, bne_iff_ne, ne_eq]; omega
        rw [e3, all2_ne (e := eqS) hn]
        cases (zn ch.length != zn ch2.length) <;> rfl
    · have e3 : (zn ch.length != zn ch2.length) = true := by simp only [zn, bne_iff_ne, ne_eq]; omega
      rw [e3, all2_ne (e := all2 eqC) hc]
      cases all2 eqS nm nm2 <;> cases all2 (all2 eqI) ho ho2 <;> rfl
end
theorem same_ok : FnOk P C0 16 sameS := by
  refine fn_okC ctx1 (show P.funcs[16]? = some f16f by kernel_rfl) (of_decide_eq_true (by kernel_rfl)) (sameS) f16h (fun ds os lf hp => ?_)
  unfold sameS at hp
  simp only at hp
  split at hp
  · rename_i i ch nm ho i2 ch2 nm2 ho2
    simp only [Out.pick] at hp
    cases hc0 : sameG ch nm ho with
    | false => rw [hc0] at hp; cases hp
    | true =>
      rw [hc0] at hp
      simp only [cond_true] at hp
      simp only [Option.some.injEq] at hp
      subst hp
      exact ⟨_, (f16_ev _ i ch nm ho i2 ch2 nm2 ho2).trans (same_T i ch nm ho i2 ch2 nm2 ho2 hc0)⟩
  · cases hp
/-! ### Sets -/
def pairW (q : PairV) : Bool := Nat.ble q.1.length 17592186044416 && Nat.ble q.2.1.length 17592186044416
def setG (Q : List Int) (nx : List (List Int)) (ps : List PairV) : Bool := m6 Q.length && (drG nx ps && ps.all pairW)
def setOk (p i2 : Int) (nx : List (List Int)) (ps : List PairV) (k : Int) (Q : List Int) : Bool := drOk p i2 nx ps && (inF (zn ps.length) k && !(Q.any (nin (zn nx.length))))
def finF (ps : List PairV) (k : Int) (Q : List Int) : List Bool := Q.map (bsB (ps.getD k.toNat ([], [], ())).1)
def infF (ps : List PairV) (k : Int) (Q : List Int) : List Bool := Q.map (bsB (ps.getD k.toNat ([], [], ())).2.1)
def setsS : En.Spec := ⟨[], fun ds os => match ds, os with
  | [.p (.agg [.d (.fz true) (.i .i64) _i, .d (.fz false) (.l (.l (.p .s (.p (.l (.p (.i .i64) (.p (.i .i64) .u))) .u)))) _ch, .d (.fz false) (.l .s) _nm, .d (.fz false) (.l (.l (.i .i64))) _ho, .d (.fz false) (.l (.i .i64)) _S, .d (.fz false) (.l (.i .i64)) Q]),
     .p (.agg [.d (.fz true) (.i .i64) p, .d (.fz true) (.i .i64) i2, .d (.fz false) (.l (.l (.i .i64))) nx, .d (.fz false) (.l (.p (.l (.i .i64)) (.p (.l (.i .i64)) .u))) ps]), .p (.one (.d (.fz true) (.i .i64) k))], [] =>
    .br (setG Q nx ps) (.leaf [.one (.rw ⟨1, 0⟩), .one (.rw ⟨1, 1⟩), pE (er1 (setOk p i2 nx ps k Q))] [] [roB (bif setOk p i2 nx ps k Q then finF ps k Q else []), roB (bif setOk p i2 nx ps k Q then infF ps k Q else [])]) .fail
  | _, _ => .fail⟩
theorem sets_loop {Q : List Int} (hQ : Q.length ≤ 1000000) (p i2 : Int) (nx : List (List Int)) {ps : List PairV} {k : Nat} (hk : k < ps.length) (hw : pairW (ps.getD k ([], [], ())) = true) : ∀ (m n j : Nat), j ≤ Q.length → Q.length - j < m →
    f20L0 n m (k : Int) Q (zn Q.length) (j : Int) p i2 nx ps ((finF ps (k : Int) Q).take j ++ (List.replicate Q.length false).drop j) ((infF ps (k : Int) Q).take j ++ (List.replicate Q.length false).drop j) = some ⟨[.one (.rw ⟨1, 0⟩), .one (.rw ⟨1, 1⟩), pE .nil], [], [roB (finF ps (k : Int) Q), roB (infF ps (k : Int) Q)]⟩
  | 0, _, _, _, h => absurd h (Nat.not_lt_zero _)
  | m + 1, n, j, hj, hm => by
    have l1 : (finF ps (k : Int) Q).length = (List.replicate Q.length false).length := by unfold finF; simp
    have l2 : (infF ps (k : Int) Q).length = (List.replicate Q.length false).length := by unfold infF; simp
    have lr : (List.replicate Q.length false).length = Q.length := List.length_replicate ..
    show f20S0 (f20L0 n m) (k : Int) Q (zn Q.length) (j : Int) p i2 nx ps ((finF ps (k : Int) Q).take j ++ (List.replicate Q.length false).drop j) ((infF ps (k : Int) Q).take j ++ (List.replicate Q.length false).drop j) = _
    unfold f20S0
    by_cases h0 : j < Q.length
    · unfold pairW at hw
      rw [Bool.and_eq_true] at hw
      have v1 : (finF ps (k : Int) Q).getD j false = bsB (ps.getD k ([], [], ())).1 (Q.getD j 0) := by
        unfold finF
        rw [Int.toNat_natCast, List.getD_eq_getElem?_getD, List.getD_eq_getElem?_getD (l := Q), List.getElem?_map, List.getElem?_eq_getElem h0]; rfl
      have v2 : (infF ps (k : Int) Q).getD j false = bsB (ps.getD k ([], [], ())).2.1 (Q.getD j 0) := by
        unfold infF
        rw [Int.toNat_natCast, List.getD_eq_getElem?_getD, List.getD_eq_getElem?_getD (l := Q), List.getElem?_map, List.getElem?_eq_getElem h0]; rfl
      have ih := sets_loop hQ p i2 nx hk (by unfold pairW; rw [hw.1, hw.2]; rfl) m n (j + 1) h0 (by omega)
      rw [lt_k h0, inb_k h0, inb_k hk, Int.toNat_natCast, Int.toNat_natCast, hw.1, hw.2, inb_k (by rw [cut_len l1 (by omega)]; omega), inb_k (by rw [cut_len l2 (by omega)]; omega), wr_k (k := j) (by omega), cut_set l1 (by omega) v1, cut_set l2 (by omega) v2]
      exact ih
    · have hje : j = Q.length := by omega
      rw [nlt_k h0]
      have a1 := cut_all l1
      have a2 := cut_all l2
      rw [lr] at a1 a2
      rw [hje, a1, a2]; rfl
theorem sets_T (i : Int) (ch : List (List ChV)) (nm : List ByteArray) (ho : List (List Int)) (S Q : List Int) (p i2 : Int) (nx : List (List Int)) (ps : List PairV) (k : Int) (h : setG Q nx ps = true) :
    f20M 1000001 i ch nm ho S Q p i2 nx ps k = some ⟨[.one (.rw ⟨1, 0⟩), .one (.rw ⟨1, 1⟩), pE (er1 (setOk p i2 nx ps k Q))], [], [roB (bif setOk p i2 nx ps k Q then finF ps k Q else []), roB (bif setOk p i2 nx ps k Q then infF ps k Q else [])]⟩ := by
  unfold setG m6 at h
  simp only [Bool.and_eq_true] at h
  obtain ⟨h1, h2, h3⟩ := h
  have h1 := of_ble h1
  unfold f20M f20T setOk
  rw [h2]
  cases drOk p i2 nx ps with
  | false => rfl
  | true =>
    unfold inF
    by_cases k0 : k < 0
    · rw [decide_eq_true k0, decide_eq_false (show ¬ k ≥ 0 by omega)]; rfl
    · rw [decide_eq_false k0, decide_eq_true (show k ≥ 0 by omega)]
      by_cases k1 : k < zn ps.length
      · rw [decide_eq_false (show ¬ k ≥ zn ps.length by omega), decide_eq_true k1, show big Q.length = true from ble_of (by omega)]
        cases Q.any (nin (zn nx.length)) with
        | true => rfl
        | false =>
          obtain ⟨k, rfl⟩ := Int.eq_ofNat_of_zero_le (show 0 ≤ k by omega)
          have hk : k < ps.length := by simp only [zn] at k1; omega
          have e1 : (decide (0 ≤ zn Q.length) && (decide (zn Q.length ≤ zn Q.length) && decide (1 * (zn Q.length).toNat ≤ 140737488355328))) = true := by
            simp only [zn, Int.toNat_natCast, Bool.and_eq_true, decide_eq_true_eq]; omega
          have r := sets_loop h1 p i2 nx hk (List.all_eq_true.1 h3 _ (get_mem hk ([], [], ()))) 1000001 1000001 0 (Nat.zero_le _) (by omega)
          rw [e1]
          exact r
      · rw [decide_eq_true (show k ≥ zn ps.length by omega), decide_eq_false k1]; rfl
theorem sets_ok : FnOk P C0 20 setsS := by
  refine fn_okC ctx23 (show P.funcs[20]? = some f20f by kernel_rfl) (of_decide_eq_true (by kernel_rfl)) (setsS) f20h (fun ds os lf hp => ?_)
  unfold setsS at hp
  simp only at hp
  split at hp
  · rename_i i ch nm ho S Q p i2 nx ps k
    simp only [Out.pick] at hp
    cases hc0 : setG Q nx ps with
    | false => rw [hc0] at hp; cases hp
    | true =>
      rw [hc0] at hp
      simp only [cond_true] at hp
      simp only [Option.some.injEq] at hp
      subst hp
      exact ⟨_, (f20_ev _ i ch nm ho S Q p i2 nx ps k).trans (sets_T i ch nm ho S Q p i2 nx ps k hc0)⟩
  · cases hp
end Go.S23
