/-
  Seat 18: the contracts of the document's Seen and Right of words, of Word and of alive.
-/
import Derived.Test.YtfkmnklnnccopaaDoorS18G5
open Go Go.En
namespace Go.S18
section
variable {C : Nat} {nx : List (List Int)} {s l : List Int} {p i : Int} {ps : List PairV}
/-- behind i letters of a word -/
def walkF (nx : List (List Int)) (s l : List Int) (i0 : Int) : Nat → Int
  | 0 => i0
  | k + 1 => stepF nx (walkF nx s l i0 k) (letF s l k)
theorem run_snoc (c : Int) : ∀ (w : List Int) (q : Int), runF nx q (w ++ [c]) = stepF nx (runF nx q w) c
  | [], _ => rfl
  | x :: w, q => run_snoc c w (stepF nx q x)
theorem let_s {k : Nat} (h : k < s.length) : letF s l k = s.getD k 0 := by
  unfold letF
  rw [show Nat.blt k s.length = true from ble_of h]; rfl
theorem let_l (j : Nat) : letF s l (s.length + j) = l.getD (j % l.length) 0 := by
  unfold letF
  have : Nat.blt (s.length + j) s.length = false := by
    cases hb : Nat.blt (s.length + j) s.length with
    | false => rfl
    | true => have := of_ble hb; omega
  rw [this, show s.length + j - s.length = j from by omega]; rfl
theorem d_s (i0 : Int) : ∀ k, k ≤ s.length → walkF nx s l i0 k = runF nx i0 (s.take k)
  | 0, _ => rfl
  | k + 1, h => by
    rw [take_succ_get (show k < s.length by omega) 0, run_snoc, ← d_s i0 k (by omega)]
    show stepF nx (walkF nx s l i0 k) (letF s l k) = _
    rw [let_s (by omega)]
theorem d_l (i0 : Int) : ∀ j, walkF nx s l i0 (s.length + j) = stF nx l (runF nx i0 s) j
  | 0 => by
    have := d_s (nx := nx) (l := l) i0 s.length (Nat.le_refl _)
    rw [List.take_length] at this
    exact this
  | j + 1 => by
    show stepF nx (walkF nx s l i0 (s.length + j)) (letF s l (s.length + j)) = stepF nx (stF nx l (runF nx i0 s) j) (l.getD (j % l.length) 0)
    rw [d_l i0 j, let_l]
theorem let_in (hs : ∀ c ∈ s, inF (zn C) c = true) (hl : ∀ c ∈ l, inF (zn C) c = true) (h0 : 0 < l.length) (k : Nat) : inF (zn C) (letF s l k) = true := by
  by_cases h : k < s.length
  · rw [let_s h]; exact getl hs h
  · obtain ⟨j, rfl⟩ : ∃ j, k = s.length + j := ⟨k - s.length, by omega⟩
    rw [let_l]; exact getl hl (Nat.mod_lt _ h0)
theorem d_in (h : Aut C nx) (hs : ∀ c ∈ s, inF (zn C) c = true) (hl : ∀ c ∈ l, inF (zn C) c = true) (h0 : 0 < l.length) {i0 : Int} (hi : inF (zn nx.length) i0 = true) : ∀ k, inF (zn nx.length) (walkF nx s l i0 k) = true
  | 0 => hi
  | k + 1 => step_in h (d_in h hs hl h0 hi k) (let_in hs hl h0 k)
theorem rseen_L1 {f : List Bool} (hf : f.length ≤ 4096) : ∀ (m n k : Nat), k ≤ f.length → f.length - k < m →
    f19L1 n m (zn f.length) (k : Int) f (idxs f k) = some ⟨[.one (.rw ⟨1, 0⟩)], [], [roI (idxs f f.length)]⟩
  | 0, _, _, _, h => absurd h (Nat.not_lt_zero _)
  | m + 1, n, k, hk, hm => by
    show f19S1 (f19L1 n m) (zn f.length) (k : Int) f (idxs f k) = _
    unfold f19S1
    by_cases h0 : k < f.length
    · have hlen := idxs_len f k
      have ih := rseen_L1 hf m n (k + 1) h0 (by omega)
      rw [idxs_succ] at ih
      rw [lt_k h0, inb_k h0, wr_k (by omega), Int.toNat_natCast, decide_eq_true (show ((idxs f k).length + [(k : Int)].length) * 8 ≤ 140737488355328 by rw [List.length_singleton]; omega), ← ih]
      cases f.getD k false <;> rfl
    · have hke : k = f.length := by omega
      subst hke
      rw [nlt_k h0]; rfl
theorem rseen_L0 (h : Aut C nx) (hn : nx.length ≤ 4096) (hs : ∀ c ∈ s, inF (zn C) c = true) (hl : ∀ c ∈ l, inF (zn C) c = true) (hs64 : s.length ≤ 64) (hl64 : l.length ≤ 64) (h0l : 0 < l.length) {i0 : Int} (hi : inF (zn nx.length) i0 = true) {n : Nat} (hn2 : nx.length < n) (q0 p0 : Int) {T : Nat} (hT : T = s.length + nx.length * l.length) : ∀ (m k : Nat), k ≤ 2 * T + l.length → 2 * T + l.length - k < m →
    f19L0 n m (walkF nx s l i0 k) (zn nx.length) (T : Int) (k : Int) p0 q0 nx ps s l (FL nx l (beginF i0 nx s l) (k - T)) = some ⟨[.one (.rw ⟨1, 0⟩)], [], [roI (idxs (FL nx l (beginF i0 nx s l) (T + l.length)) nx.length)]⟩
  | 0, _, _, hm => absurd hm (Nat.not_lt_zero _)
  | m + 1, k, hk, hm => by
    show f19S0 (f19L1 n n) (f19L0 n m) (walkF nx s l i0 k) (zn nx.length) (T : Int) (k : Int) p0 q0 nx ps s l _ = _
    unfold f19S0
    have hTb : T ≤ 262208 := by
      have := Nat.mul_le_mul hn hl64
      omega
    have e0 : IntKind.i64.wrap (IntKind.i64.wrap (2 * (T : Int)) + zn l.length) = ((2 * T + l.length : Nat) : Int) := by
      unfold zn
      rw [i64_wrap_in (n := 2 * (T : Int)) (by omega) (by omega), i64_wrap_in (by omega) (by omega)]
      omega
    by_cases h0 : k < 2 * T + l.length
    · have hq := d_in h hs hl h0l hi k
      have hc := let_in hs hl h0l k
      obtain ⟨a1, a2⟩ := look h hq hc
      have e1 : decide ((k : Int) < ((2 * T + l.length : Nat) : Int)) = true := by rw [decide_eq_true_eq]; omega
      have e2 : (big s.length && (Nat.blt 0 l.length && (big l.length && (decide (0 ≤ (k : Int)) && decide ((k : Int) ≤ 9223372036854775806))))) = true := by
        have g1 : big s.length = true := ble_of (by omega)
        have g2 : Nat.blt 0 l.length = true := ble_of h0l
        have g3 : big l.length = true := ble_of (by omega)
        rw [g1, g2, g3, decide_eq_true (show (0 : Int) ≤ (k : Int) by omega), decide_eq_true (show (k : Int) ≤ 9223372036854775806 by omega)]; rfl
      have ih := rseen_L0 h hn hs hl hs64 hl64 h0l hi hn2 q0 p0 hT m (k + 1) h0 (by omega)
      rw [e0, e1, wr_k (by omega), Int.toNat_natCast, a1, a2, e2]
      by_cases h1 : T ≤ k
      · have e3 : decide ((k : Int) ≥ (T : Int)) = true := by rw [decide_eq_true_eq]; omega
        have e4 : walkF nx s l i0 k = stF nx l (beginF i0 nx s l) (k - T) := by
          rw [begin_eq, st_shift, ← d_l, show s.length + (nx.length * l.length + (k - T)) = k from by omega]
        have a3 : inb (walkF nx s l i0 k) (FL nx l (beginF i0 nx s l) (k - T)).length = true := by rw [FL_len]; exact hq
        have e5 : (FL nx l (beginF i0 nx s l) (k - T)).set (walkF nx s l i0 k).toNat true = FL nx l (beginF i0 nx s l) (k + 1 - T) := by
          rw [e4, FL_succ (by rw [← e4]; exact hq), show k + 1 - T = k - T + 1 from by omega]
        rw [e3, a3, e5]
        exact ih
      · have e3 : decide ((k : Int) ≥ (T : Int)) = false := by rw [decide_eq_false_iff_not]; omega
        rw [show k - T = k + 1 - T from by omega, e3]
        exact ih
    · have e1 : decide ((k : Int) < ((2 * T + l.length : Nat) : Int)) = false := by rw [decide_eq_false_iff_not]; omega
      rw [e0, e1, show k - T = T + l.length from by omega]
      have r5 := rseen_L1 (f := FL nx l (beginF i0 nx s l) (T + l.length)) (by rw [FL_len]; exact hn) n n 0 (Nat.zero_le _) (by rw [FL_len]; omega)
      rw [FL_len] at r5
      exact r5
end
theorem rseen_T {p i : Int} {nx : List (List Int)} {ps : List PairV} {s l : List Int} (h : seenOk p i nx ps s l = true) : ∃ n, f19M n p i nx ps s l = some ⟨[.one (.rw ⟨1, 0⟩)], [], [roI (seenF i nx s l)]⟩ := by
  unfold seenOk at h
  rw [Bool.and_eq_true] at h
  obtain ⟨ha, hp, hn, hi⟩ := aut_of h.1
  obtain ⟨h0l, hs64, hl64, hs, hl⟩ := wd_of h.2
  have hq0 := run_in ha hi hs
  obtain ⟨r, r1, r2, r3, _⟩ := back ha hl h0l hq0
  rw [← begin_eq] at r3
  have hm := Nat.mul_le_mul hn.2 hl64
  have hm2 := Nat.mul_le_mul_right l.length r2
  obtain ⟨T, hT⟩ : ∃ T, T = s.length + nx.length * l.length := ⟨_, rfl⟩
  refine ⟨1000000, ?_⟩
  unfold f19M f19T
  have e1 : (decide (0 ≤ zn nx.length) && (decide (zn nx.length ≤ zn nx.length) && decide (1 * (zn nx.length).toNat ≤ 140737488355328))) = true := by
    simp only [zn, Bool.and_eq_true, decide_eq_true_eq]; omega
  have e2 : IntKind.i64.wrap (zn s.length + IntKind.i64.wrap (zn nx.length * zn l.length)) = (T : Int) := by
    unfold zn
    rw [← Int.natCast_mul, i64_wrap_in (n := ((nx.length * l.length : Nat) : Int)) (by omega) (by omega), i64_wrap_in (by omega) (by omega)]
    omega
  have r0 := rseen_L0 (ps := ps) ha hn.2 hs hl hs64 hl64 h0l hi (n := 1000000) (by omega) i p hT 1000000 0 (Nat.zero_le _) (by omega)
  rw [Nat.zero_sub, FL_zero] at r0
  rw [e1, e2]
  refine Eq.trans (b := f19L0 1000000 1000000 (walkF nx s l i 0) (zn nx.length) (T : Int) ((0 : Nat) : Int) p i nx ps s l (List.replicate nx.length false)) rfl (r0.trans ?_)
  rw [seen_eq h0l r1 r2 r3 (by omega)]
theorem rseen_ok : FnOk P C0 19 rseenS := by
  refine fn_okC ctx10 (show P.funcs[19]? = some f19f by kernel_rfl) (of_decide_eq_true (by kernel_rfl)) (rseenS) f19h (fun ds os lf hp => ?_)
  unfold rseenS at hp
  simp only at hp
  split at hp
  · rename_i p i nx ps s l
    simp only [Out.pick] at hp
    cases hc0 : seenOk p i nx ps s l with
    | false => rw [hc0] at hp; cases hp
    | true =>
      rw [hc0] at hp
      simp only [cond_true] at hp
      simp only [Option.some.injEq] at hp
      subst hp
      obtain ⟨n, hn⟩ := rseen_T hc0
      exact ⟨n, (f19_ev n p i nx ps s l).trans hn⟩
  · cases hp
/-! ### Right of words -/
def dupS (ns : List ByteArray) : Bool := (List.range ns.length).any fun i => (List.range i).any fun k => (ns.getD i ⟨#[]⟩).toList == (ns.getD k ⟨#[]⟩).toList
def right14F (ns : List ByteArray) (s l : List Int) : Bool := (decide (zn ns.length ≤ 6) && !(zn l.length == 0)) && (decide (zn s.length + zn l.length ≤ 64) && (!(dupS ns) && !((s ++ l).any (nin ((2 ^ ns.length : Nat) : Int)))))
def right14S : En.Spec := ⟨[], fun ds os => match ds, os with
  | [.p (.one (.d (.fz false) (.l .s) ns)), .p (.agg [.d (.fz false) (.l (.i .i64)) s, .d (.fz false) (.l (.i .i64)) l])], [] =>
    .br (m6 s.length && m6 l.length) (.leaf [pB (right14F ns s l)] [] []) .fail
  | _, _ => .fail⟩
theorem let_app {s l : List Int} {k : Nat} (h : k < (s ++ l).length) : letF s l k = (s ++ l).getD k 0 := by
  rw [List.length_append] at h
  by_cases h1 : k < s.length
  · rw [let_s h1, List.getD_eq_getElem?_getD, List.getD_eq_getElem?_getD, List.getElem?_append_left h1]
  · obtain ⟨j, rfl⟩ : ∃ j, k = s.length + j := ⟨k - s.length, by omega⟩
    rw [let_l, Nat.mod_eq_of_lt (by omega), List.getD_eq_getElem?_getD, List.getD_eq_getElem?_getD, List.getElem?_append_right (by omega), show s.length + j - s.length = j from by omega]
theorem r14_L2 {s l : List Int} (h64 : s.length + l.length ≤ 64) (h0l : 0 < l.length) (M : Int) : ∀ (m n k : Nat), k ≤ (s ++ l).length → (s ++ l).length - k < m →
    f18L2 n m M (k : Int) s l = some ⟨[pB (!(((s ++ l).drop k).any (nin M)))], [], []⟩
  | 0, _, _, _, h => absurd h (Nat.not_lt_zero _)
  | m + 1, n, k, hk, hm => by
    show f18S2 (f18L2 n m) M (k : Int) s l = _
    unfold f18S2
    have e0 : IntKind.i64.wrap (zn s.length + zn l.length) = zn (s ++ l).length := by
      unfold zn; rw [i64_wrap_in (by omega) (by omega), List.length_append]; omega
    have hla : (s ++ l).length = s.length + l.length := List.length_append
    have e2 : (big s.length && (Nat.blt 0 l.length && (big l.length && (decide (0 ≤ (k : Int)) && decide ((k : Int) ≤ 9223372036854775806))))) = true := by
      have g1 : big s.length = true := ble_of (by omega)
      have g2 : Nat.blt 0 l.length = true := ble_of h0l
      have g3 : big l.length = true := ble_of (by omega)
      rw [g1, g2, g3, decide_eq_true (show (0 : Int) ≤ (k : Int) by omega), decide_eq_true (show (k : Int) ≤ 9223372036854775806 by omega)]; rfl
    by_cases h0 : k < (s ++ l).length
    · rw [e0, lt_k h0, wr_k (by omega), Int.toNat_natCast, e2, let_app h0, r14_L2 h64 h0l M m n (k + 1) h0 (by omega), drop_get h0 0, List.any_cons, not_in]
      show (bif true then bif true then bif nin M ((s ++ l).getD k 0) then _ else _ else _ else _) = _
      cases nin M ((s ++ l).getD k 0) <;> rfl
    · rw [e0, nlt_k h0, List.drop_eq_nil_of_le (by omega)]; rfl
theorem r14_L1 {ns : List ByteArray} {k : Nat} (hk : k < ns.length) (h6 : ns.length ≤ 6) (g : f18G0) (M : Int) (s l : List Int) : ∀ (m n j : Nat), j ≤ k → k - j < m →
    (f18L1 n g m ns M (k : Int) (j : Int) s l = bif (List.range' j (k - j)).any (fun x => (ns.getD k ⟨#[]⟩).toList == (ns.getD x ⟨#[]⟩).toList) then some ⟨[pB false], [], []⟩ else g ns M (IntKind.i64.wrap ((k : Int) + 1)) s l)
  | 0, _, _, _, h => absurd h (Nat.not_lt_zero _)
  | m + 1, n, j, hj, hm => by
    show f18S1 g (f18L1 n g m) ns M (k : Int) (j : Int) s l = _
    unfold f18S1
    by_cases h0 : j < k
    · have e1 : decide ((j : Int) < (k : Int)) = true := by rw [decide_eq_true_eq]; omega
      rw [e1, inb_k hk, inb_k (show j < ns.length by omega), wr_k (k := j) (by omega), Int.toNat_natCast, Int.toNat_natCast, r14_L1 hk h6 g M s l m n (j + 1) h0 (by omega), show k - j = (k - (j + 1)) + 1 from by omega, List.range'_succ, List.any_cons]
      cases ((ns.getD k ⟨#[]⟩).toList == (ns.getD j ⟨#[]⟩).toList) <;> rfl
    · have e1 : decide ((j : Int) < (k : Int)) = false := by rw [decide_eq_false_iff_not]; omega
      rw [e1, show k - j = 0 from by omega]; rfl
theorem r14_L0 {ns : List ByteArray} (h6 : ns.length ≤ 6) {s l : List Int} (h64 : s.length + l.length ≤ 64) (h0l : 0 < l.length) {n : Nat} (hn : 70 ≤ n) : ∀ (m k : Nat), k ≤ ns.length → ns.length - k < m →
    f18L0 n m ns ((2 ^ k : Nat) : Int) (k : Int) s l = some ⟨[pB (!((List.range' k (ns.length - k)).any fun i => (List.range i).any fun x => (ns.getD i ⟨#[]⟩).toList == (ns.getD x ⟨#[]⟩).toList) && !((s ++ l).any (nin ((2 ^ ns.length : Nat) : Int))))], [], []⟩
  | 0, _, _, h => absurd h (Nat.not_lt_zero _)
  | m + 1, k, hk, hm => by
    show f18S0 (f18L1 n (f18L0 n m) n) (f18L2 n n) (f18L0 n m) ns _ (k : Int) s l = _
    unfold f18S0
    by_cases h0 : k < ns.length
    · have hp := pow_62 (k := k + 1) (by omega)
      have e2 : IntKind.i64.wrap (2 * ((2 ^ k : Nat) : Int)) = ((2 ^ (k + 1) : Nat) : Int) := by
        have h2 : 2 ^ (k + 1) = 2 * 2 ^ k := by rw [Nat.pow_succ, Nat.mul_comm]
        rw [h2] at hp ⊢
        rw [i64_wrap_in (by omega) (by omega)]; omega
      have r1 := r14_L1 h0 h6 (f18L0 n m) (((2 ^ (k + 1) : Nat) : Int)) s l n n 0 (Nat.zero_le _) (by omega)
      rw [wr_k (by omega), r14_L0 h6 h64 h0l hn m (k + 1) h0 (by omega), Nat.sub_zero] at r1
      rw [lt_k h0, e2, show ns.length - k = (ns.length - (k + 1)) + 1 from by omega, List.range'_succ, List.any_cons]
      refine Eq.trans (b := f18L1 n (f18L0 n m) n ns ((2 ^ (k + 1) : Nat) : Int) (k : Int) ((0 : Nat) : Int) s l) rfl (r1.trans ?_)
      rw [List.range_eq_range']
      cases (List.range' 0 k).any (fun x => (ns.getD k ⟨#[]⟩).toList == (ns.getD x ⟨#[]⟩).toList) <;> rfl
    · have hke : k = ns.length := by omega
      subst hke
      have hla : (s ++ l).length = s.length + l.length := List.length_append
      rw [nlt_k h0, Nat.sub_self]
      exact r14_L2 h64 h0l _ n n 0 (Nat.zero_le _) (by omega)
theorem right14_T {ns : List ByteArray} {s l : List Int} (h : (m6 s.length && m6 l.length) = true) : f18M 70 ns s l = some ⟨[pB (right14F ns s l)], [], []⟩ := by
  unfold m6 at h
  rw [Bool.and_eq_true] at h
  have hs := of_ble h.1
  have hl := of_ble h.2
  unfold f18M f18T right14F
  have e0 : IntKind.i64.wrap (zn s.length + zn l.length) = zn s.length + zn l.length := by unfold zn; exact i64_wrap_in (by omega) (by omega)
  rw [e0]
  by_cases h6 : ns.length ≤ 6
  · rw [decide_eq_false (show ¬ zn ns.length > 6 by simp only [zn]; omega), decide_eq_true (show zn ns.length ≤ 6 by simp only [zn]; omega)]
    cases hz : (zn l.length == 0) with
    | true => rfl
    | false =>
      have h0l : 0 < l.length := by
        rw [beq_eq_false_iff_ne] at hz
        simp only [zn] at hz; omega
      by_cases h64 : s.length + l.length ≤ 64
      · rw [decide_eq_false (show ¬ zn s.length + zn l.length > 64 by simp only [zn]; omega), decide_eq_true (show zn s.length + zn l.length ≤ 64 by simp only [zn]; omega)]
        have r0 := r14_L0 h6 h64 h0l (n := 70) (by omega) 70 0 (Nat.zero_le _) (by omega)
        rw [Nat.sub_zero, ← List.range_eq_range'] at r0
        exact r0
      · rw [decide_eq_true (show zn s.length + zn l.length > 64 by simp only [zn]; omega), decide_eq_false (show ¬ zn s.length + zn l.length ≤ 64 by simp only [zn]; omega)]; rfl
  · rw [decide_eq_true (show zn ns.length > 6 by simp only [zn]; omega), decide_eq_false (show ¬ zn ns.length ≤ 6 by simp only [zn]; omega)]; rfl
theorem right14_ok : FnOk P C0 18 right14S := by
  refine fn_okC ctx10 (show P.funcs[18]? = some f18f by kernel_rfl) (of_decide_eq_true (by kernel_rfl)) (right14S) f18h (fun ds os lf hp => ?_)
  unfold right14S at hp
  simp only at hp
  split at hp
  · rename_i ns s l
    simp only [Out.pick] at hp
    cases hc0 : (m6 s.length && m6 l.length) with
    | false => rw [hc0] at hp; cases hp
    | true =>
      rw [hc0] at hp
      simp only [cond_true] at hp
      simp only [Option.some.injEq] at hp
      subst hp
      exact ⟨70, (f18_ev 70 ns s l).trans (right14_T hc0)⟩
  · cases hp
/-! ### Word -/
theorem u8_get {v : List Int} (h : u8 v = true) {k : Nat} (hk : k < v.length) : 0 ≤ v.getD k 0 ∧ v.getD k 0 ≤ 255 := by
  have := List.all_eq_true.1 h _ (get_mem hk 0)
  rwa [Bool.and_eq_true, decide_eq_true_eq, decide_eq_true_eq] at this
theorem lets_succ {z : Int} {v : List Int} {k : Nat} (h : k < v.length) : (v.take (k + 1)).map (fun x => x.tmod ((2 ^ z.toNat : Nat) : Int)) = (v.take k).map (fun x => x.tmod ((2 ^ z.toNat : Nat) : Int)) ++ [(v.getD k 0).tmod ((2 ^ z.toNat : Nat) : Int)] := by
  rw [take_succ_get h 0, List.map_append]; rfl
theorem lets_end {z : Int} {v : List Int} {k : Nat} (h : k ≤ v.length) (h8 : k ≤ 8) (he : ¬ (k < v.length ∧ k < 8)) : (v.take k).map (fun x => x.tmod ((2 ^ z.toNat : Nat) : Int)) = lettersF z v := by
  unfold lettersF
  by_cases h1 : k < v.length
  · have : k = 8 := by omega
    rw [this]
  · have : k = v.length := by omega
    subst this
    rw [List.take_of_length_le (Nat.le_refl _), List.take_of_length_le h8]
theorem z_facts {z : Int} (h0 : 0 ≤ z) (h6 : z ≤ 6) : IntKind.u64.wrap z = z ∧ shlF .i64 1 z = ((2 ^ z.toNat : Nat) : Int) ∧ decide (((2 ^ z.toNat : Nat) : Int) ≠ 0) = true := by
  refine ⟨u64_wrap_in h0 (by omega), shl_pow h0 (by omega), ?_⟩
  rw [decide_eq_true_eq]
  have := Nat.two_pow_pos z.toNat
  omega
theorem word_cond {k n : Nat} : (decide ((k : Int) < zn n) && decide ((k : Int) < 8)) = decide (k < n ∧ k < 8) := by
  by_cases h1 : k < n
  · by_cases h2 : k < 8
    · rw [lt_k h1, decide_eq_true (show (k : Int) < 8 by omega), decide_eq_true (⟨h1, h2⟩ : k < n ∧ k < 8)]; rfl
    · rw [lt_k h1, decide_eq_false (show ¬ (k : Int) < 8 by omega), decide_eq_false (fun h : k < n ∧ k < 8 => h2 h.2)]; rfl
  · rw [nlt_k h1, decide_eq_false (fun h : k < n ∧ k < 8 => h1 h.1)]; rfl
theorem word_L1 {l : List Int} (hl : u8 l = true) {z : Int} (h0 : 0 ≤ z) (h6 : z ≤ 6) (a : List Int) : ∀ (m n k : Nat), k ≤ l.length → k ≤ 8 → 8 - k < m →
    f21L1 n m l z (k : Int) a ((l.take k).map (fun x => x.tmod ((2 ^ z.toNat : Nat) : Int))) = some ⟨[.agg [.rw ⟨1, 0⟩, .rw ⟨1, 1⟩]], [], [roI a, roI (loopF z l)]⟩
  | 0, _, _, _, _, h => absurd h (Nat.not_lt_zero _)
  | m + 1, n, k, hk, hk8, hm => by
    obtain ⟨z1, z2, z3⟩ := z_facts h0 h6
    show f21S1 (f21L1 n m) l z (k : Int) a _ = _
    unfold f21S1
    rw [word_cond]
    by_cases hc : k < l.length ∧ k < 8
    · have hx := u8_get hl hc.1
      have hw : IntKind.i64.wrap (l.getD k 0) = l.getD k 0 := i64_wrap_in (by omega) (by omega)
      have e : ∀ x : Int, decide ((((l.take k).map (fun x => x.tmod ((2 ^ z.toNat : Nat) : Int))).length + [x].length) * 8 ≤ 140737488355328) = true := fun x => by
        rw [decide_eq_true_eq, List.length_map, List.length_take, List.length_singleton]; omega
      have ih := word_L1 hl h0 h6 a m n (k + 1) hc.1 hc.2 (by omega)
      rw [lets_succ hc.1] at ih
      rw [decide_eq_true hc, inb_k hc.1, z1, z2, z3, wr_k (by omega), Int.toNat_natCast, hw, e, decide_eq_true h0]
      exact ih
    · rw [decide_eq_false hc, lets_end hk hk8 hc]
      cases l with
      | nil => rfl
      | cons x l =>
        have : (zn (lettersF z (x :: l)).length == 0) = false := by
          unfold lettersF
          rw [beq_eq_false_iff_ne, List.length_map, List.length_take]
          simp only [zn, List.length_cons]; omega
        rw [this]; rfl
theorem word_L0 {s l : List Int} (hs : u8 s = true) (hl : u8 l = true) {z : Int} (h0 : 0 ≤ z) (h6 : z ≤ 6) {n : Nat} (hn : 9 ≤ n) : ∀ (m k : Nat), k ≤ s.length → k ≤ 8 → 8 - k < m →
    f21L0 n m s l z (k : Int) ((s.take k).map (fun x => x.tmod ((2 ^ z.toNat : Nat) : Int))) [] = some ⟨[.agg [.rw ⟨1, 0⟩, .rw ⟨1, 1⟩]], [], [roI (lettersF z s), roI (loopF z l)]⟩
  | 0, _, _, _, h => absurd h (Nat.not_lt_zero _)
  | m + 1, k, hk, hk8, hm => by
    obtain ⟨z1, z2, z3⟩ := z_facts h0 h6
    show f21S0 (f21L1 n n) (f21L0 n m) s l z (k : Int) _ [] = _
    unfold f21S0
    rw [word_cond]
    by_cases hc : k < s.length ∧ k < 8
    · have hx := u8_get hs hc.1
      have hw : IntKind.i64.wrap (s.getD k 0) = s.getD k 0 := i64_wrap_in (by omega) (by omega)
      have e : ∀ x : Int, decide ((((s.take k).map (fun x => x.tmod ((2 ^ z.toNat : Nat) : Int))).length + [x].length) * 8 ≤ 140737488355328) = true := fun x => by
        rw [decide_eq_true_eq, List.length_map, List.length_take, List.length_singleton]; omega
      have ih := word_L0 hs hl h0 h6 hn m (k + 1) hc.1 hc.2 (by omega)
      rw [lets_succ hc.1] at ih
      rw [decide_eq_true hc, inb_k hc.1, z1, z2, z3, wr_k (by omega), Int.toNat_natCast, hw, e, decide_eq_true h0]
      exact ih
    · rw [decide_eq_false hc, lets_end hk hk8 hc]
      exact word_L1 hl h0 h6 (lettersF z s) n n 0 (Nat.zero_le _) (by omega) (by omega)
theorem word_T {s l : List Int} {z : Int} (h : ((decide (0 ≤ z) && decide (z ≤ 6)) && (u8 s && u8 l)) = true) : f21M 9 s l z = some ⟨[.agg [.rw ⟨1, 0⟩, .rw ⟨1, 1⟩]], [], [roI (lettersF z s), roI (loopF z l)]⟩ := by
  simp only [Bool.and_eq_true, decide_eq_true_eq] at h
  exact word_L0 h.2.1 h.2.2 h.1.1 h.1.2 (n := 9) (by omega) 9 0 (Nat.zero_le _) (by omega) (by omega)
theorem word_ok : FnOk P C0 21 wordS := by
  refine fn_okC ctx10 (show P.funcs[21]? = some f21f by kernel_rfl) (of_decide_eq_true (by kernel_rfl)) (wordS) f21h (fun ds os lf hp => ?_)
  unfold wordS at hp
  simp only at hp
  split at hp
  · rename_i s l z
    simp only [Out.pick] at hp
    cases hc0 : ((decide ((0 : Int) ≤ z) && decide (z ≤ (6 : Int))) && (u8 s && u8 l)) with
    | false => rw [hc0] at hp; cases hp
    | true =>
      rw [hc0] at hp
      simp only [cond_true] at hp
      simp only [Option.some.injEq] at hp
      subst hp
      exact ⟨9, (f21_ev 9 s l z).trans (word_T hc0)⟩
  · cases hp
/-! ### alive -/
theorem ctx15 : CtxOk C15 := fun _ _ h => tbl_ok (l := [(11, checkS), (13, numS), (17, acceptsS)]) ⟨check_ok, num_ok, accepts_ok, trivial⟩ h
def aliveS : En.Spec := ⟨[], fun ds os => match ds, os with
  | [], [] => .leaf [pB true] [] []
  | _, _ => .fail⟩
theorem alive_T : f8T = some ⟨[pB true], [], []⟩ := by kernel_rfl
theorem alive_ok : FnOk P C0 8 aliveS := by
  refine fn_okC ctx15 (show P.funcs[8]? = some f8f by kernel_rfl) (of_decide_eq_true (by kernel_rfl)) (aliveS) f8h (fun ds os lf hp => ?_)
  unfold aliveS at hp
  simp only at hp
  split at hp
  · skip
    simp only [Out.pick, Option.some.injEq] at hp
    subst hp
    exact ⟨0, (f8_ev 0).trans alive_T⟩
  · cases hp
end Go.S18
