/-
  Seat 18: the contracts of Of, Check, Good and of the document's Right and Good.
-/
import Derived.Test.YtfkmnklnnccopaaDoorS18U
open Go Go.En
namespace Go.S18
/-! ### Of -/
theorem of_loop1 {ps : List PairV} (hp : ps.length ≤ 1000000) (hps : ps.all (fun q => Nat.ble q.1.length 17592186044416 && Nat.ble q.2.1.length 17592186044416) = true) (p i a b p' i' : Int) (nx nx' : List (List Int)) : ∀ (m n k : Nat), k ≤ ps.length → ps.length - k < m →
    f10L1 n m (k : Int) p i nx ps a b p' i' nx' (ps.take k) = some ⟨[.agg [.d (.fz true) (.i .i64) p', .d (.fz true) (.i .i64) i', .rw ⟨1, 0⟩, .rw ⟨1, 1⟩]], [], [roN nx', roP ps]⟩
  | 0, _, _, _, h => absurd h (Nat.not_lt_zero _)
  | m + 1, n, k, hk, hm => by
    show f10S1 (f10L1 n m) (k : Int) p i nx ps a b p' i' nx' (ps.take k) = _
    unfold f10S1
    by_cases h0 : k < ps.length
    · have hg := List.all_eq_true.1 hps _ (get_mem h0 ([], [], ()))
      rw [Bool.and_eq_true] at hg
      have g1 := of_ble hg.1
      have g2 := of_ble hg.2
      rw [lt_k h0, inb_k h0, wr_k (by omega), Int.toNat_natCast]
      have e1 : decide ((0 + (ps.getD k ([], [], ())).1.length) * 8 ≤ 140737488355328) = true := by rw [decide_eq_true_eq]; omega
      have e2 : decide ((0 + (ps.getD k ([], [], ())).2.1.length) * 8 ≤ 140737488355328) = true := by rw [decide_eq_true_eq]; omega
      have e3 : ∀ x : PairV, decide (((ps.take k).length + [x].length) * 48 ≤ 140737488355328) = true := fun x => by
        rw [decide_eq_true_eq, List.length_take, List.length_singleton]; omega
      rw [e1, e2, e3]
      have ih := of_loop1 hp hps p i a b p' i' nx nx' m n (k + 1) h0 (by omega)
      rw [take_succ_get h0 ([], [], ())] at ih
      exact ih
    · have hke : k = ps.length := by omega
      subst hke
      rw [nlt_k h0, List.take_length]; rfl
theorem of_loop0 {nx : List (List Int)} {ps : List PairV} (hn : nx.length ≤ 1000000) (hnx : nx.all (fun l => m6 l.length) = true) (hp : ps.length ≤ 1000000) (hps : ps.all (fun q => Nat.ble q.1.length 17592186044416 && Nat.ble q.2.1.length 17592186044416) = true) (p i a b p' i' : Int) {n : Nat} (hn2 : ps.length < n) : ∀ (m k : Nat), k ≤ nx.length → nx.length - k < m →
    f10L0 n m (k : Int) p i nx ps a b p' i' (nx.take k) [] = some ⟨[.agg [.d (.fz true) (.i .i64) p', .d (.fz true) (.i .i64) i', .rw ⟨1, 0⟩, .rw ⟨1, 1⟩]], [], [roN nx, roP ps]⟩
  | 0, _, _, h => absurd h (Nat.not_lt_zero _)
  | m + 1, k, hk, hm => by
    show f10S0 (f10L1 n n) (f10L0 n m) (k : Int) p i nx ps a b p' i' (nx.take k) [] = _
    unfold f10S0
    by_cases h0 : k < nx.length
    · have g1 := of_ble (List.all_eq_true.1 hnx _ (get_mem h0 []))
      rw [lt_k h0, inb_k h0, wr_k (by omega), Int.toNat_natCast]
      have e1 : decide ((0 + (nx.getD k []).length) * 8 ≤ 140737488355328) = true := by rw [decide_eq_true_eq]; omega
      have e3 : ∀ x : List Int, decide (((nx.take k).length + [x].length) * 24 ≤ 140737488355328) = true := fun x => by
        rw [decide_eq_true_eq, List.length_take, List.length_singleton]; omega
      rw [e1, e3]
      have ih := of_loop0 hn hnx hp hps p i a b p' i' hn2 m (k + 1) h0 (by omega)
      rw [take_succ_get h0 []] at ih
      exact ih
    · have hke : k = nx.length := by omega
      subst hke
      rw [nlt_k h0, List.take_length]
      exact of_loop1 hp hps p i a b p' i' nx nx n n 0 (Nat.zero_le _) hn2
theorem of_T (p i : Int) {nx : List (List Int)} {ps : List PairV} (h : ofG nx ps = true) : f10M (nx.length + ps.length + 1) p i nx ps = some ⟨[.agg [.d (.fz true) (.i .i64) p, .d (.fz true) (.i .i64) i, .rw ⟨1, 0⟩, .rw ⟨1, 1⟩]], [], [roN nx, roP ps]⟩ := by
  unfold ofG m6 at h
  simp only [Bool.and_eq_true] at h
  exact of_loop0 (of_ble h.1) h.2.1 (of_ble h.2.2.1) h.2.2.2 p i 0 0 p i (by omega) (nx.length + ps.length + 1) 0 (Nat.zero_le _) (by omega)
theorem of_ok : FnOk P C0 10 ofS := by
  refine fn_okC ctx10 (show P.funcs[10]? = some f10f by kernel_rfl) (of_decide_eq_true (by kernel_rfl)) (ofS) f10h (fun ds os lf hp => ?_)
  unfold ofS at hp
  simp only at hp
  split at hp
  · rename_i p i nx ps
    simp only [Out.pick] at hp
    cases hc0 : ofG nx ps with
    | false => rw [hc0] at hp; cases hp
    | true =>
      rw [hc0] at hp
      simp only [cond_true] at hp
      simp only [Option.some.injEq] at hp
      subst hp
      exact ⟨nx.length + ps.length + 1, (f10_ev _ p i nx ps).trans (of_T p i hc0)⟩
  · cases hp
/-! ### Check -/
theorem shl_pow {p : Int} (h0 : 0 ≤ p) (h1 : p ≤ 62) : shlF .i64 1 p = ((2 ^ p.toNat : Nat) : Int) := by
  obtain ⟨k, rfl⟩ := Int.eq_ofNat_of_zero_le h0
  rw [Int.toNat_natCast]
  unfold shlF
  have e : min (k : Int).toNat IntKind.i64.bits = k := by
    rw [Int.toNat_natCast]; show min k 64 = k; omega
  rw [e, Int.one_mul, show ((2 : Int) ^ k) = ((2 ^ k : Nat) : Int) from by rw [Int.natCast_pow]; rfl]
  have h2 := pow_62 (k := k) (by omega)
  generalize 2 ^ k = x at *
  exact i64_wrap_in (by omega) (by omega)
theorem head_not (p i : Int) (nx : List (List Int)) (ps : List PairV) :
    (decide (p < 0) || (decide (p > 6) || (decide (zn nx.length < 1) || (decide (zn nx.length > 4096) || (decide (i < 0) || (decide (i ≥ zn nx.length) || decide (zn ps.length > 4096))))))) = !headOk p i nx ps := by
  have n1 : ∀ a b : Int, decide (a < b) = !decide (b ≤ a) := fun a b => by
    by_cases h : a < b
    · rw [decide_eq_true h, decide_eq_false (by omega)]; rfl
    · rw [decide_eq_false h, decide_eq_true (by omega)]; rfl
  have n2 : ∀ a b : Int, decide (a > b) = !decide (a ≤ b) := fun a b => n1 b a
  have n3 : decide (i ≥ zn nx.length) = !decide (i < zn nx.length) := by rw [n1]; simp
  unfold headOk inF
  rw [n1 p 0, n2 p 6, n1 (zn nx.length) 1, n2 (zn nx.length) 4096, n1 i 0, n3, n2 (zn ps.length) 4096]
  show _ = !((decide (0 ≤ p) && decide (p ≤ 6)) && ((decide (1 ≤ zn nx.length) && decide (zn nx.length ≤ 4096)) && ((decide (0 ≤ i) && decide (i < zn nx.length)) && decide (zn ps.length ≤ 4096))))
  cases decide (0 ≤ p) <;> cases decide (p ≤ 6) <;> cases decide (1 ≤ zn nx.length) <;> cases decide (zn nx.length ≤ 4096) <;> cases decide (0 ≤ i) <;> cases decide (i < zn nx.length) <;> rfl
theorem head_p {p i : Int} {nx : List (List Int)} {ps : List PairV} (h : headOk p i nx ps = true) : (0 ≤ p ∧ p ≤ 6) ∧ (1 ≤ nx.length ∧ nx.length ≤ 4096) ∧ (0 ≤ i ∧ i < (nx.length : Int)) ∧ ps.length ≤ 4096 := by
  unfold headOk inF at h
  simp only [Bool.and_eq_true, decide_eq_true_eq, zn] at h
  obtain ⟨⟨h1, h2⟩, ⟨h3, h4⟩, ⟨h5, h6⟩, h7⟩ := h
  exact ⟨⟨h1, h2⟩, ⟨by omega, by omega⟩, ⟨h5, h6⟩, by omega⟩
theorem check_loop1 {ps : List PairV} (hp : ps.length ≤ 9223372036854775807) (hps : ps.all pairG = true) (N : Int) : ∀ (m n k : Nat), k ≤ ps.length → ps.length - k < m →
    f11L1 n m ps (zn ps.length) (k : Int) N = some ⟨[pE (er1 (!((ps.drop k).any (badP N))))], [], []⟩
  | 0, _, _, _, h => absurd h (Nat.not_lt_zero _)
  | m + 1, n, k, hk, hm => by
    show f11S1 (f11L1 n m) ps (zn ps.length) (k : Int) N = _
    unfold f11S1
    by_cases h0 : k < ps.length
    · have hg := List.all_eq_true.1 hps _ (get_mem h0 ([], [], ()))
      unfold pairG at hg
      rw [Bool.and_eq_true] at hg
      rw [lt_k h0, inb_k h0, wr_k (by omega), Int.toNat_natCast, hg.1, hg.2, check_loop1 hp hps N m n (k + 1) h0 (by omega), drop_get h0 ([], [], ()), List.any_cons]
      unfold badP
      cases riseF N (-1) (ps.getD k ([], [], ())).1 <;> cases riseF N (-1) (ps.getD k ([], [], ())).2.1 <;> rfl
    · rw [nlt_k h0, List.drop_eq_nil_of_le (by omega)]; rfl
theorem check_loop0 {nx : List (List Int)} {ps : List PairV} (hn : nx.length ≤ 9223372036854775807) (hnx : nx.all (fun l => big l.length) = true) (hp : ps.length ≤ 9223372036854775807) (hps : ps.all pairG = true) {p : Int} (h0p : 0 ≤ p) (h1p : p ≤ 62) (i N : Int) {n : Nat} (hn2 : ps.length < n) : ∀ (m k : Nat), k ≤ nx.length → nx.length - k < m →
    f11L0 n m nx (zn nx.length) (k : Int) p i nx ps N = some ⟨[pE (er1 (!((nx.drop k).any (badL N p)) && !(ps.any (badP N))))], [], []⟩
  | 0, _, _, h => absurd h (Nat.not_lt_zero _)
  | m + 1, k, hk, hm => by
    show f11S0 (f11L1 n n) (f11L0 n m) nx (zn nx.length) (k : Int) p i nx ps N = _
    unfold f11S0
    by_cases h0 : k < nx.length
    · have hg : big (nx.getD k []).length = true := List.all_eq_true.1 hnx _ (get_mem h0 [])
      rw [lt_k h0, inb_k h0, wr_k (by omega), Int.toNat_natCast, hg, decide_eq_true h0p, shl_pow h0p h1p, check_loop0 hn hnx hp hps h0p h1p i N hn2 m (k + 1) h0 (by omega), drop_get h0 [], List.any_cons]
      unfold badL
      show (bif true then bif true then bif true then bif !(zn (nx.getD k []).length == ((2 ^ p.toNat : Nat) : Int)) then _ else _ else _ else _ else _) = _
      cases (zn (nx.getD k []).length == ((2 ^ p.toNat : Nat) : Int)) <;> cases (nx.getD k []).any (nin N) <;> rfl
    · rw [nlt_k h0, List.drop_eq_nil_of_le (by omega)]
      exact check_loop1 hp hps N n n 0 (Nat.zero_le _) hn2
theorem drG_parts {nx : List (List Int)} {ps : List PairV} (h : drG nx ps = true) : nx.length ≤ 9223372036854775807 ∧ nx.all (fun l => big l.length) = true ∧ ps.length ≤ 9223372036854775807 ∧ ps.all pairG = true := by
  unfold drG at h
  simp only [Bool.and_eq_true] at h
  exact ⟨of_ble h.1, h.2.1, of_ble h.2.2.1, h.2.2.2⟩
theorem check_T (p i : Int) {nx : List (List Int)} {ps : List PairV} (h : drG nx ps = true) : f11M (nx.length + ps.length + 1) p i nx ps = some ⟨[pE (er1 (drOk p i nx ps))], [], []⟩ := by
  obtain ⟨h1, h2, h3, h4⟩ := drG_parts h
  unfold f11M f11T drOk
  rw [head_not]
  have g : (Nat.beq 1 1 && (decide (p < 0) || Nat.beq 1 1 && (decide (p > 6) || Nat.beq 1 1 && (decide (zn nx.length < 1) || Nat.beq 1 1 && (decide (zn nx.length > 4096) || Nat.beq 1 1 && (decide (i < 0) || Nat.beq 1 1 && (Nat.beq 1 1 && (decide (i ≥ zn nx.length) || true)))))))) = true := by
    cases decide (p < 0) <;> cases decide (p > 6) <;> cases decide (zn nx.length < 1) <;> cases decide (zn nx.length > 4096) <;> cases decide (i < 0) <;> cases decide (i ≥ zn nx.length) <;> rfl
  rw [g]
  cases hh : headOk p i nx ps with
  | false => rfl
  | true =>
    have hd := head_p hh
    have := check_loop0 h1 h2 h3 h4 hd.1.1 (by omega) i (zn nx.length) (n := nx.length + ps.length + 1) (by omega) (nx.length + ps.length + 1) 0 (Nat.zero_le _) (by omega)
    exact this
theorem check_ok : FnOk P C0 11 checkS := by
  refine fn_okC ctx10 (show P.funcs[11]? = some f11f by kernel_rfl) (of_decide_eq_true (by kernel_rfl)) (checkS) f11h (fun ds os lf hp => ?_)
  unfold checkS at hp
  simp only at hp
  split at hp
  · rename_i p i nx ps
    simp only [Out.pick] at hp
    cases hc0 : drG nx ps with
    | false => rw [hc0] at hp; cases hp
    | true =>
      rw [hc0] at hp
      simp only [cond_true] at hp
      simp only [Option.some.injEq] at hp
      subst hp
      exact ⟨nx.length + ps.length + 1, (f11_ev _ p i nx ps).trans (check_T p i hc0)⟩
  · cases hp
/-! ### the document's Right -/
theorem right_loop2 {ps : List PairV} (hp : ps.length ≤ 9223372036854775807) (hps : ps.all pairG = true) (N p i : Int) (nx : List (List Int)) : ∀ (m n k : Nat), k ≤ ps.length → ps.length - k < m →
    f12L2 n m N (k : Int) p i nx ps = some ⟨[pB (!((ps.drop k).any (badP N)))], [], []⟩
  | 0, _, _, _, h => absurd h (Nat.not_lt_zero _)
  | m + 1, n, k, hk, hm => by
    show f12S2 (f12L2 n m) N (k : Int) p i nx ps = _
    unfold f12S2
    by_cases h0 : k < ps.length
    · have hg := List.all_eq_true.1 hps _ (get_mem h0 ([], [], ()))
      unfold pairG at hg
      rw [Bool.and_eq_true] at hg
      rw [lt_k h0, inb_k h0, wr_k (by omega), Int.toNat_natCast, hg.1, hg.2, right_loop2 hp hps N p i nx m n (k + 1) h0 (by omega), drop_get h0 ([], [], ()), List.any_cons]
      unfold badP
      cases riseF N (-1) (ps.getD k ([], [], ())).1 <;> cases riseF N (-1) (ps.getD k ([], [], ())).2.1 <;> rfl
    · rw [nlt_k h0, List.drop_eq_nil_of_le (by omega)]; rfl
theorem right_loop1 {nx : List (List Int)} {k : Nat} (h0 : k < nx.length) (hl : (nx.getD k []).length ≤ 64) (g : f12G0) (N p i : Int) (ps : List PairV) : ∀ (m n j : Nat), j ≤ (nx.getD k []).length → (nx.getD k []).length - j < m →
    f12L1 n g m N (k : Int) (j : Int) p i nx ps = bif ((nx.getD k []).drop j).any (nin N) then some ⟨[pB false], [], []⟩ else g N (IntKind.i64.wrap ((k : Int) + 1)) p i nx ps
  | 0, _, _, _, h => absurd h (Nat.not_lt_zero _)
  | m + 1, n, j, hj, hm => by
    show f12S1 g (f12L1 n g m) N (k : Int) (j : Int) p i nx ps = _
    unfold f12S1
    rw [inb_k h0, Int.toNat_natCast]
    by_cases h1 : j < (nx.getD k []).length
    · rw [lt_k h1, inb_k h1, wr_k (k := j) (by omega), Int.toNat_natCast, right_loop1 h0 hl g N p i ps m n (j + 1) h1 (by omega), drop_get h1 0, List.any_cons, not_in]
      show (bif true then bif true then bif true && (true && (true && (true && (true && (true && (true && (decide ((nx.getD k []).getD j 0 < 0) || _))))))) then bif nin N ((nx.getD k []).getD j 0) then _ else _ else _ else _ else _) = _
      cases decide ((nx.getD k []).getD j 0 < 0) <;> cases nin N ((nx.getD k []).getD j 0) <;> rfl
    · rw [nlt_k h1, List.drop_eq_nil_of_le (by omega)]; rfl
theorem right_loop0 {nx : List (List Int)} {ps : List PairV} (hn : nx.length ≤ 9223372036854775807) (hp : ps.length ≤ 9223372036854775807) (hps : ps.all pairG = true) {p : Int} (h0p : 0 ≤ p) (h1p : p ≤ 6) (i N : Int) {n : Nat} (hn2 : ps.length < n) (hn3 : 64 < n) : ∀ (m k : Nat), k ≤ nx.length → nx.length - k < m → N = zn nx.length →
    f12L0 n m N (k : Int) p i nx ps = some ⟨[pB (!((nx.drop k).any (badL N p)) && !(ps.any (badP N)))], [], []⟩
  | 0, _, _, h, _ => absurd h (Nat.not_lt_zero _)
  | m + 1, k, hk, hm, hN => by
    show f12S0 (f12L1 n (f12L0 n m) n) (f12L2 n n) (f12L0 n m) N (k : Int) p i nx ps = _
    unfold f12S0
    by_cases h0 : k < nx.length
    · have e0 : (decide (0 ≤ p) && decide (p ≤ 62)) = true := by rw [decide_eq_true h0p, decide_eq_true (show p ≤ 62 by omega)]; rfl
      have e1 : decide ((k : Int) < N) = true := by rw [hN]; exact lt_k h0
      rw [e1, inb_k h0, Int.toNat_natCast, e0, drop_get h0 [], List.any_cons]
      unfold badL
      show (bif true then bif true then bif true then bif !(zn (nx.getD k []).length == ((2 ^ p.toNat : Nat) : Int)) then _ else _ else _ else _ else _) = _
      cases hc : (zn (nx.getD k []).length == ((2 ^ p.toNat : Nat) : Int)) with
      | false => rfl
      | true =>
        have hl : (nx.getD k []).length ≤ 64 := by
          have h1 : zn (nx.getD k []).length = ((2 ^ p.toNat : Nat) : Int) := eq_of_beq hc
          have h2 : 2 ^ p.toNat ≤ 2 ^ 6 := Nat.pow_le_pow_right (by omega) (by omega)
          have h3 : (2 : Nat) ^ 6 = 64 := by decide
          simp only [zn] at h1; omega
        have ih := right_loop0 hn hp hps h0p h1p i N hn2 hn3 m (k + 1) h0 (by omega) hN
        have r1 := right_loop1 h0 hl (f12L0 n m) N p i ps n n 0 (Nat.zero_le _) (by omega)
        rw [wr_k (by omega), ih] at r1
        refine Eq.trans (b := f12L1 n (f12L0 n m) n N (k : Int) ((0 : Nat) : Int) p i nx ps) rfl (r1.trans ?_)
        rw [List.drop_zero]
        cases (nx.getD k []).any (nin N) <;> rfl
    · have e1 : decide ((k : Int) < N) = false := by rw [hN]; exact nlt_k h0
      rw [e1, List.drop_eq_nil_of_le (by omega)]
      exact right_loop2 hp hps N p i nx n n 0 (Nat.zero_le _) hn2
theorem right_T (p i : Int) {nx : List (List Int)} {ps : List PairV} (h : drG nx ps = true) : f12M (nx.length + ps.length + 65) p i nx ps = some ⟨[pB (drOk p i nx ps)], [], []⟩ := by
  obtain ⟨h1, h2, h3, h4⟩ := drG_parts h
  unfold f12M f12T drOk
  rw [head_not]
  have g : (Nat.beq 1 1 && (decide (p < 0) || Nat.beq 1 1 && (decide (p > 6) || (decide (zn nx.length < 1) || (decide (zn nx.length > 4096) || Nat.beq 1 1 && (decide (i < 0) || Nat.beq 1 1 && (decide (i ≥ zn nx.length) || true))))))) = true := by
    cases decide (p < 0) <;> cases decide (p > 6) <;> cases decide (zn nx.length < 1) <;> cases decide (zn nx.length > 4096) <;> cases decide (i < 0) <;> cases decide (i ≥ zn nx.length) <;> rfl
  rw [g]
  cases hh : headOk p i nx ps with
  | false => rfl
  | true =>
    have hd := head_p hh
    exact right_loop0 h1 h3 h4 hd.1.1 hd.1.2 i (zn nx.length) (n := nx.length + ps.length + 65) (by omega) (by omega) (nx.length + ps.length + 65) 0 (Nat.zero_le _) (by omega) rfl
theorem right_ok : FnOk P C0 12 rightS := by
  refine fn_okC ctx10 (show P.funcs[12]? = some f12f by kernel_rfl) (of_decide_eq_true (by kernel_rfl)) (rightS) f12h (fun ds os lf hp => ?_)
  unfold rightS at hp
  simp only at hp
  split at hp
  · rename_i p i nx ps
    simp only [Out.pick] at hp
    cases hc0 : drG nx ps with
    | false => rw [hc0] at hp; cases hp
    | true =>
      rw [hc0] at hp
      simp only [cond_true] at hp
      simp only [Option.some.injEq] at hp
      subst hp
      exact ⟨nx.length + ps.length + 65, (f12_ev _ p i nx ps).trans (right_T p i hc0)⟩
  · cases hp
/-! ### Good -/
theorem ctx11 : CtxOk C11 := fun _ _ h => tbl_ok (l := (11, checkS) :: l10) ⟨check_ok, num_ok, con26_ok, rises_ok, letters_ok, rise_ok, idx32_ok, has_ok, concat_ok, letter_ok, trivial⟩ h
theorem goodI_lo (l : List Int) (ps : List PairV) : -1 ≤ goodI l ps := by
  have : ∀ (q : List PairV) (k : Nat), -1 ≤ idxG (goodB l) k q := by
    intro q
    induction q with
    | nil => intro k; exact Int.le_refl _
    | cons x q ih =>
      intro k
      unfold idxG
      cases goodB l x with
      | true => rw [cond_true]; omega
      | false => exact ih (k + 1)
  exact this ps 0
theorem good_T (p i : Int) {nx : List (List Int)} {ps : List PairV} {l : List Int} (h : (drG nx ps && big l.length) = true) : f14T p i nx ps l = some ⟨[pI (bif drOk p i nx ps && decide (goodI l ps ≥ 0) then goodI l ps else 0), pB (drOk p i nx ps && decide (goodI l ps ≥ 0))], [], []⟩ := by
  rw [Bool.and_eq_true] at h
  obtain ⟨h1, h2, h3, h4⟩ := drG_parts h.1
  unfold f14T
  rw [h.1, h.2, h4, show big ps.length = true from ble_of h3]
  cases drOk p i nx ps with
  | false => rfl
  | true =>
    by_cases hg : goodI l ps ≥ 0
    · rw [decide_eq_true hg, if_neg (by omega)]; rfl
    · rw [decide_eq_false hg, if_pos (by omega)]; rfl
theorem good_ok : FnOk P C0 14 goodS := by
  refine fn_okC ctx11 (show P.funcs[14]? = some f14f by kernel_rfl) (of_decide_eq_true (by kernel_rfl)) (goodS) f14h (fun ds os lf hp => ?_)
  unfold goodS at hp
  simp only at hp
  split at hp
  · rename_i p i nx ps l
    simp only [Out.pick] at hp
    cases hc0 : (drG nx ps && big l.length) with
    | false => rw [hc0] at hp; cases hp
    | true =>
      rw [hc0] at hp
      simp only [cond_true] at hp
      simp only [Option.some.injEq] at hp
      subst hp
      exact ⟨0, (f14_ev 0 p i nx ps l).trans (good_T p i hc0)⟩
  · cases hp
theorem has_iff {l : List Int} {x : Int} : has l x = true ↔ x ∈ l := by
  unfold has
  rw [List.any_eq_true]
  exact ⟨fun ⟨y, hy, e⟩ => (eq_of_beq e) ▸ hy, fun h => ⟨x, h, beq_self_eq_true x⟩⟩
theorem any_comm (a b : List Int) : a.any (has b) = b.any (has a) := by
  rw [Bool.eq_iff_iff, List.any_eq_true, List.any_eq_true]
  exact ⟨fun ⟨x, h1, h2⟩ => ⟨x, has_iff.1 h2, has_iff.2 h1⟩, fun ⟨x, h1, h2⟩ => ⟨x, has_iff.1 h2, has_iff.2 h1⟩⟩
theorem rgood_loop1 {ps : List PairV} {k : Nat} (h0 : k < ps.length) (hg : pairG (ps.getD k ([], [], ())) = true) {l : List Int} (hl : l.length ≤ 9223372036854775807) (g : f15G0) (p i : Int) (nx : List (List Int)) : ∀ (m n j : Nat) (a b : Bool), j ≤ l.length → l.length - j < m →
    f15L1 n g m l (k : Int) a b (j : Int) p i nx ps = bif !(a || (l.drop j).any (has (ps.getD k ([], [], ())).1)) && (b || (l.drop j).any (has (ps.getD k ([], [], ())).2.1)) then some ⟨[pI (k : Int)], [], []⟩ else g l (IntKind.i64.wrap ((k : Int) + 1)) p i nx ps
  | 0, _, _, _, _, _, h => absurd h (Nat.not_lt_zero _)
  | m + 1, n, j, a, b, hj, hm => by
    show f15S1 g (f15L1 n g m) l (k : Int) a b (j : Int) p i nx ps = _
    unfold f15S1
    unfold pairG at hg
    rw [Bool.and_eq_true] at hg
    by_cases h1 : j < l.length
    · rw [lt_k h1, inb_k h1, inb_k h0, wr_k (k := j) (by omega), Int.toNat_natCast, Int.toNat_natCast, hg.1, hg.2, rgood_loop1 h0 (by unfold pairG; rw [hg.1, hg.2]; rfl) hl g p i nx m n (j + 1) _ _ h1 (by omega), drop_get h1 0, List.any_cons, List.any_cons, ← Bool.or_assoc, ← Bool.or_assoc]
      cases a <;> cases b <;> rfl
    · rw [nlt_k h1, List.drop_eq_nil_of_le (by omega), List.any_nil, List.any_nil, Bool.or_false, Bool.or_false]; rfl
theorem rgood_loop0 {ps : List PairV} (hp : ps.length ≤ 9223372036854775807) (hps : ps.all pairG = true) {l : List Int} (hl : l.length ≤ 9223372036854775807) (p i : Int) (nx : List (List Int)) {n : Nat} (hn : l.length < n) : ∀ (m k : Nat), k ≤ ps.length → ps.length - k < m →
    f15L0 n m l (k : Int) p i nx ps = some ⟨[pI (idxG (goodB l) k (ps.drop k))], [], []⟩
  | 0, _, _, h => absurd h (Nat.not_lt_zero _)
  | m + 1, k, hk, hm => by
    show f15S0 (f15L1 n (f15L0 n m) n) (f15L0 n m) l (k : Int) p i nx ps = _
    unfold f15S0
    by_cases h0 : k < ps.length
    · have r1 := rgood_loop1 h0 (List.all_eq_true.1 hps _ (get_mem h0 ([], [], ()))) hl (f15L0 n m) p i nx n n 0 false false (Nat.zero_le _) (by omega)
      rw [wr_k (by omega), rgood_loop0 hp hps hl p i nx hn m (k + 1) h0 (by omega), List.drop_zero, any_comm l, any_comm l] at r1
      rw [lt_k h0, drop_get h0 ([], [], ())]
      refine Eq.trans (b := f15L1 n (f15L0 n m) n l (k : Int) false false ((0 : Nat) : Int) p i nx ps) rfl (r1.trans ?_)
      show _ = some (Lf.mk [pI (bif goodB l (ps.getD k ([], [], ())) then (k : Int) else idxG (goodB l) (k + 1) (ps.drop (k + 1)))] [] [])
      show (bif goodB l (ps.getD k ([], [], ())) then _ else _) = _
      cases goodB l (ps.getD k ([], [], ())) <;> rfl
    · rw [nlt_k h0, List.drop_eq_nil_of_le (by omega)]; rfl
theorem rgood_ok : FnOk P C0 15 rgoodS := by
  refine fn_okC ctx10 (show P.funcs[15]? = some f15f by kernel_rfl) (of_decide_eq_true (by kernel_rfl)) (rgoodS) f15h (fun ds os lf hp => ?_)
  unfold rgoodS at hp
  simp only at hp
  split at hp
  · rename_i p i nx ps l
    simp only [Out.pick] at hp
    cases hc0 : (big ps.length && (ps.all pairG && big l.length)) with
    | false => rw [hc0] at hp; cases hp
    | true =>
      rw [hc0] at hp
      simp only [cond_true] at hp
      simp only [Option.some.injEq] at hp
      subst hp
      rw [Bool.and_eq_true, Bool.and_eq_true] at hc0
      exact ⟨ps.length + l.length + 1, (f15_ev _ p i nx ps l).trans (rgood_loop0 (of_ble hc0.1) hc0.2.1 (of_ble hc0.2.2) p i nx (n := ps.length + l.length + 1) (Nat.lt_succ_of_le (Nat.le_add_left _ _)) (ps.length + l.length + 1) 0 (Nat.zero_le _) (Nat.lt_succ_of_le (Nat.le_add_right _ _)))⟩
  · cases hp
end Go.S18
