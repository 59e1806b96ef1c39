/-
  Seat 18: the contracts of Seen and Accepts, and of the document's Seen.
-/
import Derived.Test.YtfkmnklnnccopaaDoorS18G4
import Derived.Test.YtfkmnklnnccopaaDoorS18N
open Go Go.En
namespace Go.S18
theorem idx_loop_d {l : List Int} (p i : Int) (nx : List (List Int)) (ps : List PairV) (hl : l.length ≤ 9223372036854775807) (hb : decide (0 ≤ p) = true) : ∀ (m n k : Nat), k ≤ l.length → l.length - k < m → f40dL0 n m (zn l.length) (k : Int) l p i nx ps = some ⟨[pI (idxG (nin (shlF .i64 1 p)) k (l.drop k))], [roI l, vaD p i nx ps], []⟩
  | 0, _, _, _, h => absurd h (Nat.not_lt_zero _)
  | m + 1, n, k, hk, hm => by
    show f40dS0 (f40dL0 n m) (zn l.length) (k : Int) l p i nx ps = _
    unfold f40dS0
    by_cases h0 : k < l.length
    · rw [lt_k h0, inb_k h0, wr_k (by omega), Int.toNat_natCast, hb, idx_loop_d p i nx ps hl hb m n (k + 1) h0 (by omega), drop_get h0 0]
      show _ = some (Lf.mk [pI (bif nin (shlF .i64 1 p) (l.getD k 0) then (k : Int) else idxG (nin (shlF .i64 1 p)) (k + 1) (l.drop (k + 1)))] [roI l, vaD p i nx ps] [])
      cases nin (shlF .i64 1 p) (l.getD k 0) <;> rfl
    · rw [nlt_k h0, List.drop_eq_nil_of_le (by omega)]; rfl
theorem idx40r_ok : FnOk P C0 40 idx40R := by
  refine fn_okC ctx4 (show P.funcs[40]? = some f40df by kernel_rfl) (of_decide_eq_true (by kernel_rfl)) (idx40R) f40dh (fun ds os lf hp => ?_)
  unfold idx40R at hp
  simp only at hp
  split at hp
  · rename_i g e l p i nx ps
    obtain ⟨he, hq1⟩ := gN_pick hp; obtain ⟨hg, hq2⟩ := gN_pick hq1; subst he; subst hg; replace hp := hq2
    simp only [Out.pick] at hp
    cases hc0 : (big l.length && decide ((0 : Int) ≤ p)) with
    | false => rw [hc0] at hp; cases hp
    | true =>
      rw [hc0] at hp
      simp only [cond_true] at hp
      simp only [Option.some.injEq] at hp
      subst hp
      rw [Bool.and_eq_true] at hc0
      exact ⟨l.length + 1, (f40d_ev _ l p i nx ps).trans (idx_loop_d p i nx ps (of_ble hc0.1) hc0.2 _ _ 0 (Nat.zero_le _) (Nat.lt_succ_self _))⟩
  · cases hp
theorem ctx13 : CtxOk C13 := fun _ _ h => tbl_ok (l := [(40, idx40R)]) ⟨idx40r_ok, trivial⟩ h
theorem con_T_d (l : List Int) (p i : Int) (nx : List (List Int)) (ps : List PairV) (h : (big l.length && decide (0 ≤ p)) = true) : f26dT l p i nx ps = some ⟨[pB (l.any (nin (shlF .i64 1 p)))], [roI l, vaD p i nx ps], []⟩ := by
  unfold f26dT
  rw [h, idx_any]; rfl
theorem con26r_ok : FnOk P C0 26 con26R := by
  refine fn_okC ctx13 (show P.funcs[26]? = some f26df by kernel_rfl) (of_decide_eq_true (by kernel_rfl)) (con26R) f26dh (fun ds os lf hp => ?_)
  unfold con26R at hp
  simp only at hp
  split at hp
  · rename_i g e l p i nx ps
    obtain ⟨he, hq1⟩ := gN_pick hp; obtain ⟨hg, hq2⟩ := gN_pick hq1; subst he; subst hg; replace hp := hq2
    simp only [Out.pick] at hp
    cases hc0 : (big l.length && decide ((0 : Int) ≤ p)) with
    | false => rw [hc0] at hp; cases hp
    | true =>
      rw [hc0] at hp
      simp only [cond_true] at hp
      simp only [Option.some.injEq] at hp
      subst hp
      exact ⟨0, (f26d_ev 0 l p i nx ps).trans (con_T_d l p i nx ps hc0)⟩
  · cases hp
theorem ctx14 : CtxOk C14 := fun _ _ h => tbl_ok (l := [(11, checkS), (26, con26R), (36, concatS)]) ⟨check_ok, con26r_ok, concat_ok, trivial⟩ h
/-! ### Seen -/
section
variable {C : Nat} {nx : List (List Int)} {s l : List Int} {p i : Int} {ps : List PairV}
theorem look (h : Aut C nx) {q c : Int} (hq : inF (zn nx.length) q = true) (hc : inF (zn C) c = true) : inb q nx.length = true ∧ inb c (nx.getD q.toNat []).length = true := by
  refine ⟨hq, ?_⟩
  obtain ⟨a, rfl, ha⟩ := in_nat hq
  rw [Int.toNat_natCast, h.len a ha]
  exact hc
theorem seen_L0 (h : Aut C nx) (hs : ∀ c ∈ s, inF (zn C) c = true) (hl64 : s.length ≤ 64) : ∀ (m n k : Nat) (q : Int), k ≤ s.length → s.length - k < m → inF (zn nx.length) q = true →
    f16rL0 n m q s (zn s.length) (k : Int) p i nx ps s l = f16rL1 n n (runF nx q (s.drop k)) (zn nx.length) 0 p i nx ps s l
  | 0, _, _, _, _, h, _ => absurd h (Nat.not_lt_zero _)
  | m + 1, n, k, q, hk, hm, hq => by
    show f16rS0 (f16rL1 n n) (f16rL0 n m) q s (zn s.length) (k : Int) p i nx ps s l = _
    unfold f16rS0
    by_cases h0 : k < s.length
    · have hc := getl hs h0
      obtain ⟨a1, a2⟩ := look h hq hc
      rw [lt_k h0, inb_k h0, wr_k (by omega), Int.toNat_natCast, a1, a2, drop_get h0 0]
      exact seen_L0 h hs hl64 m n (k + 1) _ h0 (by omega) (step_in h hq hc)
    · rw [nlt_k h0, List.drop_eq_nil_of_le (by omega)]; rfl
theorem seen_L2 (h : Aut C nx) (hl : ∀ c ∈ l, inF (zn C) c = true) (hl64 : l.length ≤ 64) (g : f16rG1) (N : Int) (t : Int) : ∀ (m n j : Nat) (q : Int), j ≤ l.length → l.length - j < m → inF (zn nx.length) q = true →
    f16rL2 n g m q N t l (zn l.length) (j : Int) p i nx ps s l = g (runF nx q (l.drop j)) N (IntKind.i64.wrap (t + 1)) p i nx ps s l
  | 0, _, _, _, _, h, _ => absurd h (Nat.not_lt_zero _)
  | m + 1, n, j, q, hj, hm, hq => by
    show f16rS2 g (f16rL2 n g m) q N t l (zn l.length) (j : Int) p i nx ps s l = _
    unfold f16rS2
    by_cases h0 : j < l.length
    · have hc := getl hl h0
      obtain ⟨a1, a2⟩ := look h hq hc
      rw [lt_k h0, inb_k h0, wr_k (k := j) (by omega), Int.toNat_natCast, a1, a2, drop_get h0 0]
      exact seen_L2 h hl hl64 g N t m n (j + 1) _ h0 (by omega) (step_in h hq hc)
    · rw [nlt_k h0, List.drop_eq_nil_of_le (by omega)]; rfl
theorem seen_L1 (h : Aut C nx) (hn : nx.length ≤ 4096) (hl : ∀ c ∈ l, inF (zn C) c = true) (hl64 : l.length ≤ 64) {n : Nat} (hn2 : l.length < n) : ∀ (d m t : Nat) (q : Int), t + d = nx.length → d < m → inF (zn nx.length) q = true →
    f16rL1 n m q (zn nx.length) (t : Int) p i nx ps s l = f16rL3 n n (rounds nx l d q) (rounds nx l d q) true p i nx ps s l (List.replicate nx.length false)
  | _, 0, _, _, _, hm, _ => absurd hm (Nat.not_lt_zero _)
  | 0, m + 1, t, q, ht, _, hq => by
    show f16rS1 (f16rL2 n (f16rL1 n m) n) (f16rL3 n n) (f16rL1 n m) q (zn nx.length) (t : Int) p i nx ps s l = _
    unfold f16rS1
    have e : (decide (0 ≤ zn nx.length) && (decide (zn nx.length ≤ zn nx.length) && decide (1 * (zn nx.length).toNat ≤ 140737488355328))) = true := by
      simp only [zn, Bool.and_eq_true, decide_eq_true_eq]; omega
    rw [nlt_k (show ¬ t < nx.length by omega), e]
    rfl
  | d + 1, m + 1, t, q, ht, hm, hq => by
    show f16rS1 (f16rL2 n (f16rL1 n m) n) (f16rL3 n n) (f16rL1 n m) q (zn nx.length) (t : Int) p i nx ps s l = _
    unfold f16rS1
    have r := seen_L2 (s := s) (p := p) (i := i) (ps := ps) h hl hl64 (f16rL1 n m) (zn nx.length) (t : Int) n n 0 q (Nat.zero_le _) (by omega) hq
    rw [wr_k (by omega), List.drop_zero] at r
    rw [lt_k (show t < nx.length by omega)]
    exact r.trans (seen_L1 h hn hl hl64 hn2 d m (t + 1) _ (by omega) (by omega) (run_in h hq hl))
theorem seen_L4 (h : Aut C nx) (hl : ∀ c ∈ l, inF (zn C) c = true) (hl64 : l.length ≤ 64) {b : Int} (hb : inF (zn nx.length) b = true) (h0l : 0 < l.length) (g : f16rG3) (t : Nat) : ∀ (m n j : Nat), j ≤ l.length → l.length - j < m →
    f16rL4 n g m (stF nx l b (t * l.length + j)) b l (zn l.length) (j : Int) p i nx ps s l (FL nx l b (t * l.length + j)) = g (stF nx l b ((t + 1) * l.length)) b (stF nx l b ((t + 1) * l.length) != b) p i nx ps s l (FL nx l b ((t + 1) * l.length))
  | 0, _, _, _, h => absurd h (Nat.not_lt_zero _)
  | m + 1, n, j, hj, hm => by
    show f16rS4 g (f16rL4 n g m) _ b l (zn l.length) (j : Int) p i nx ps s l _ = _
    unfold f16rS4
    by_cases h0 : j < l.length
    · have hc := getl hl h0
      have hq := st_in h hl h0l hb (t * l.length + j)
      obtain ⟨a1, a2⟩ := look h hq hc
      have a3 : inb (stF nx l b (t * l.length + j)) (FL nx l b (t * l.length + j)).length = true := by rw [FL_len]; exact a1
      have e : (t * l.length + j) % l.length = j := by rw [Nat.mul_comm, Nat.mul_add_mod, Nat.mod_eq_of_lt h0]
      have e2 : stF nx l b (t * l.length + (j + 1)) = (nx.getD (stF nx l b (t * l.length + j)).toNat []).getD (l.getD j 0).toNat 0 := by
        show stepF nx (stF nx l b (t * l.length + j)) (l.getD ((t * l.length + j) % l.length) 0) = _
        rw [e]; rfl
      rw [lt_k h0, inb_k h0, wr_k (k := j) (by omega), Int.toNat_natCast, a1, a2, a3, FL_succ hq, ← e2]
      exact seen_L4 h hl hl64 hb h0l g t m n (j + 1) h0 (by omega)
    · have hj : j = l.length := by omega
      subst hj
      rw [nlt_k h0, show t * l.length + l.length = (t + 1) * l.length from (Nat.succ_mul t _).symm]; rfl
theorem seen_L5 {f : List Bool} (hf : f.length ≤ 4096) : ∀ (m n k : Nat), k ≤ f.length → f.length - k < m →
    f16rL5 n m (zn f.length) (k : Int) (idxs f k) f = some ⟨[.one (.rw ⟨1, 0⟩), pE .nil], [], [roI (idxs f f.length)]⟩
  | 0, _, _, _, h => absurd h (Nat.not_lt_zero _)
  | m + 1, n, k, hk, hm => by
    show f16rS5 (f16rL5 n m) (zn f.length) (k : Int) (idxs f k) f = _
    unfold f16rS5
    by_cases h0 : k < f.length
    · have hlen := idxs_len f k
      have ih := seen_L5 hf m n (k + 1) h0 (by omega)
      rw [idxs_succ] at ih
      rw [lt_k h0, inb_k h0, wr_k (by omega), Int.toNat_natCast, decide_eq_true (show ((idxs f k).length + [(k : Int)].length) * 8 ≤ 140737488355328 by rw [List.length_singleton]; omega), ← ih]
      cases f.getD k false <;> rfl
    · have hke : k = f.length := by omega
      subst hke
      rw [nlt_k h0]; rfl
theorem seen_L3 (h : Aut C nx) (hn : nx.length ≤ 4096) (hl : ∀ c ∈ l, inF (zn C) c = true) (hl64 : l.length ≤ 64) {b : Int} (hb : inF (zn nx.length) b = true) (h0l : 0 < l.length) {r : Nat} (hr1 : 1 ≤ r) (hrb : stF nx l b (r * l.length) = b) (hmin : ∀ t, 1 ≤ t → t < r → ¬ stF nx l b (t * l.length) = b) {n : Nat} (hn2 : l.length < n) (hn3 : nx.length < n) : ∀ (m t : Nat), t < r → r - t < m →
    f16rL3 n m (stF nx l b (t * l.length)) b true p i nx ps s l (FL nx l b (t * l.length)) = some ⟨[.one (.rw ⟨1, 0⟩), pE .nil], [], [roI (idxs (FL nx l b (r * l.length)) nx.length)]⟩
  | 0, _, _, hm => absurd hm (Nat.not_lt_zero _)
  | m + 1, t, ht, hm => by
    show f16rS3 (f16rL4 n (f16rL3 n m) n) (f16rL5 n n) (f16rL3 n m) _ b true p i nx ps s l _ = _
    unfold f16rS3
    have r4 := seen_L4 (s := s) (p := p) (i := i) (ps := ps) h hl hl64 hb h0l (f16rL3 n m) t n n 0 (Nat.zero_le _) (by omega)
    rw [Nat.add_zero] at r4
    refine Eq.trans (b := f16rL4 n (f16rL3 n m) n (stF nx l b (t * l.length)) b l (zn l.length) ((0 : Nat) : Int) p i nx ps s l (FL nx l b (t * l.length))) rfl (r4.trans ?_)
    by_cases he : t + 1 = r
    · subst he
      rw [hrb, bne_self_eq_false]
      match m, hm with
      | 0, hm => exact absurd hm (by omega)
      | m + 1, _ =>
        show f16rS3 (f16rL4 n (f16rL3 n m) n) (f16rL5 n n) (f16rL3 n m) b b false p i nx ps s l _ = _
        unfold f16rS3
        have r5 := seen_L5 (f := FL nx l b ((t + 1) * l.length)) (by rw [FL_len]; exact hn) n n 0 (Nat.zero_le _) (by rw [FL_len]; omega)
        rw [FL_len] at r5
        rw [FL_len]
        exact r5
    · have hne : (stF nx l b ((t + 1) * l.length) != b) = true := bne_iff_ne.2 (hmin (t + 1) (by omega) (by omega))
      rw [hne]
      exact seen_L3 h hn hl hl64 hb h0l hr1 hrb hmin hn2 hn3 m (t + 1) (by omega) (by omega)
end
/-- what Check asks for -/
theorem aut_of {p i : Int} {nx : List (List Int)} {ps : List PairV} (h : drOk p i nx ps = true) : Aut (2 ^ p.toNat) nx ∧ (0 ≤ p ∧ p ≤ 6) ∧ (1 ≤ nx.length ∧ nx.length ≤ 4096) ∧ inF (zn nx.length) i = true := by
  unfold drOk at h
  rw [Bool.and_eq_true, Bool.and_eq_true, Bool.not_eq_true', Bool.not_eq_true', List.any_eq_false, List.any_eq_false] at h
  obtain ⟨h1, h2, _⟩ := h
  have hd := head_p h1
  have row : ∀ q : Nat, q < nx.length → (nx.getD q []).length = 2 ^ p.toNat ∧ ∀ x ∈ nx.getD q [], inF (zn nx.length) x = true := by
    intro q hq
    have := h2 _ (get_mem hq [])
    unfold badL at this
    rw [Bool.or_eq_true, not_or, Bool.not_eq_true', Bool.not_eq_false, Bool.not_eq_true, List.any_eq_false] at this
    refine ⟨by have h3 := eq_of_beq this.1; simp only [zn] at h3; omega, fun x hx => ?_⟩
    have := this.2 x hx
    unfold nin at this
    simpa using this
  refine ⟨⟨fun q hq => (row q hq).1, fun q hq c hc => (row q hq).2 _ (get_mem (by rw [(row q hq).1]; exact hc) 0)⟩, hd.1, hd.2.1, in_iff.2 hd.2.2.1⟩
theorem wd_of {p : Int} {s l : List Int} (h : wdOk p s l = true) : 0 < l.length ∧ s.length ≤ 64 ∧ l.length ≤ 64 ∧ (∀ c ∈ s, inF (zn (2 ^ p.toNat)) c = true) ∧ ∀ c ∈ l, inF (zn (2 ^ p.toNat)) c = true := by
  unfold wdOk at h
  rw [Bool.and_eq_true, Bool.and_eq_true, Bool.not_eq_true', Bool.not_eq_true', List.any_eq_false, decide_eq_true_eq, beq_eq_false_iff_ne] at h
  obtain ⟨h1, h2, h3⟩ := h
  rw [List.length_append] at h2
  simp only [zn] at h1 h2
  have hc : ∀ c ∈ s ++ l, inF (zn (2 ^ p.toNat)) c = true := fun c hc => by
    have := h3 c hc
    unfold nin at this
    simpa using this
  exact ⟨by omega, by omega, by omega, fun c h => hc c (List.mem_append_left _ h), fun c h => hc c (List.mem_append_right _ h)⟩
theorem seen_T {p i : Int} {nx : List (List Int)} {ps : List PairV} {s l : List Int} (h : (drG nx ps && (m6 s.length && m6 l.length)) = true) :
    ∃ n, f16rM n p i nx ps s l = some ⟨[.one (.rw ⟨1, 0⟩), pE (er1 (seenOk p i nx ps s l))], [], [roI (bif seenOk p i nx ps s l then seenF i nx s l else [])]⟩ := by
  rw [Bool.and_eq_true, Bool.and_eq_true] at h
  refine ⟨nx.length + 66, ?_⟩
  unfold f16rM f16rT
  have e1 : ([s, l].length.ble 2 && [s, l].all fun (v : List Int) => v.length.ble 1000000) = true := by
    show (true && (s.length.ble 1000000 && (l.length.ble 1000000 && true))) = true
    have a := h.2.1; have b := h.2.2
    unfold m6 at a b
    rw [a, b]; rfl
  have e2 : [s, l].flatten = s ++ l := by simp
  rw [e1, h.1, e2]
  unfold seenOk
  cases hd : drOk p i nx ps with
  | false => rfl
  | true =>
    obtain ⟨ha, hp, hn, hi⟩ := aut_of hd
    have hsh := shl_pow hp.1 (show p ≤ 62 by omega)
    rw [hsh]
    show (bif zn l.length == 0 then _ else bif decide (zn (s ++ l).length > 64) then _ else bif big (s ++ l).length && decide (0 ≤ p) then bif (s ++ l).any (nin ((2 ^ p.toNat : Nat) : Int)) then _ else _ else _) = _
    cases hw : wdOk p s l with
    | false =>
      unfold wdOk at hw
      cases h1 : (zn l.length == 0) with
      | true => rfl
      | false =>
        rw [h1] at hw
        by_cases h2 : zn (s ++ l).length > 64
        · rw [decide_eq_true h2]; rfl
        · have h2' : decide (zn (s ++ l).length ≤ 64) = true := by rw [decide_eq_true_eq]; omega
          rw [h2'] at hw
          have h3 : (s ++ l).any (nin ((2 ^ p.toNat : Nat) : Int)) = true := by
            cases hx : (s ++ l).any (nin ((2 ^ p.toNat : Nat) : Int)) with
            | true => rfl
            | false => rw [hx] at hw; cases hw
          have h4 : big (s ++ l).length = true := ble_of (by simp only [zn] at h2; omega)
          rw [decide_eq_false h2, h3, h4, decide_eq_true hp.1]; rfl
    | true =>
      obtain ⟨h0l, hs64, hl64, hs, hl⟩ := wd_of hw
      unfold wdOk at hw
      rw [Bool.and_eq_true, Bool.and_eq_true, Bool.not_eq_true', Bool.not_eq_true', decide_eq_true_eq] at hw
      have h4 : big (s ++ l).length = true := ble_of (by have := hw.2.1; simp only [zn] at this; omega)
      rw [hw.1, hw.2.2, h4, decide_eq_true hp.1, decide_eq_false (show ¬ zn (s ++ l).length > 64 by have := hw.2.1; omega)]
      have hq0 := run_in ha hi hs
      obtain ⟨r, r1, r2, r3, r4⟩ := back ha hl h0l hq0
      rw [← begin_eq] at r3 r4
      have hb : inF (zn nx.length) (beginF i nx s l) = true := by rw [begin_eq]; exact st_in ha hl h0l hq0 _
      have t0 := seen_L0 (p := p) (i := i) (ps := ps) (l := l) ha hs hs64 (nx.length + 66) (nx.length + 66) 0 i (Nat.zero_le _) (by omega) hi
      have t1 := seen_L1 (s := s) (p := p) (i := i) (ps := ps) ha hn.2 hl hl64 (n := nx.length + 66) (by omega) nx.length (nx.length + 66) 0 (runF nx i s) (Nat.zero_add _) (by omega) hq0
      have t3 := seen_L3 (s := s) (p := p) (i := i) (ps := ps) ha hn.2 hl hl64 hb h0l r1 r3 r4 (n := nx.length + 66) (by omega) (by omega) (nx.length + 66) 0 (by omega) (by omega)
      rw [Nat.zero_mul, FL_zero] at t3
      rw [List.drop_zero] at t0
      refine t0.trans (t1.trans (t3.trans ?_))
      rw [seen_eq h0l r1 r2 r3 (Nat.le_refl _)]; rfl
theorem seen_ok : FnOk P C0 16 seenS := by
  refine fn_okC ctx14 (show P.funcs[16]? = some f16rf by kernel_rfl) (of_decide_eq_true (by kernel_rfl)) (seenS) f16rh (fun ds os lf hp => ?_)
  unfold seenS at hp
  simp only at hp
  split at hp
  · rename_i p i nx ps s l
    simp only [Out.pick] at hp
    cases hc0 : (drG nx ps && (m6 s.length && m6 l.length)) with
    | false => rw [hc0] at hp; cases hp
    | true =>
      rw [hc0] at hp
      simp only [cond_true] at hp
      simp only [Option.some.injEq] at hp
      subst hp
      obtain ⟨n, hn⟩ := seen_T (p := p) (i := i) hc0
      exact ⟨n, (f16r_ev n p i nx ps s l).trans hn⟩
  · cases hp
/-! ### Accepts -/
theorem ctx12 : CtxOk C12 := fun _ _ h => tbl_ok (l := [(14, goodS), (16, seenS)]) ⟨good_ok, seen_ok, trivial⟩ h
theorem seenF_len (i : Int) (nx : List (List Int)) (s l : List Int) : (seenF i nx s l).length ≤ nx.length := by
  unfold seenF
  rw [List.length_map]
  exact Nat.le_trans (List.length_filter_le ..) (by simp)
theorem accepts_T {p i : Int} {nx : List (List Int)} {ps : List PairV} {s l : List Int} (h : (drG nx ps && (m6 s.length && m6 l.length)) = true) :
    f17T p i nx ps s l = some ⟨[pB (seenOk p i nx ps s l && decide (goodI (seenF i nx s l) ps ≥ 0)), pE (er1 (seenOk p i nx ps s l))], [], []⟩ := by
  unfold f17T
  rw [h]
  rw [Bool.and_eq_true] at h
  cases ho : seenOk p i nx ps s l with
  | false => rfl
  | true =>
    have hd : drOk p i nx ps = true := by unfold seenOk at ho; rw [Bool.and_eq_true] at ho; exact ho.1
    have hb : big (seenF i nx s l).length = true := ble_of (Nat.le_trans (seenF_len i nx s l) (drG_parts h.1).1)
    show (bif drG nx ps && big (seenF i nx s l).length then _ else _) = _
    rw [h.1, hb, hd]; rfl
theorem accepts_ok : FnOk P C0 17 acceptsS := by
  refine fn_okC ctx12 (show P.funcs[17]? = some f17f by kernel_rfl) (of_decide_eq_true (by kernel_rfl)) (acceptsS) f17h (fun ds os lf hp => ?_)
  unfold acceptsS at hp
  simp only at hp
  split at hp
  · rename_i p i nx ps s l
    simp only [Out.pick] at hp
    cases hc0 : (drG nx ps && (m6 s.length && m6 l.length)) with
    | false => rw [hc0] at hp; cases hp
    | true =>
      rw [hc0] at hp
      simp only [cond_true] at hp
      simp only [Option.some.injEq] at hp
      subst hp
      exact ⟨0, (f17_ev 0 p i nx ps s l).trans (accepts_T hc0)⟩
  · cases hp
end Go.S18
