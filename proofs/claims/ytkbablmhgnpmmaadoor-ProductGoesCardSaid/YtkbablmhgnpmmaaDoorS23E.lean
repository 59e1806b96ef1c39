/-
  Seat 23: the contracts of Of, Check and the document's Right of automata; of Of and Check of processes; Num.
-/
import Derived.Test.YtkbablmhgnpmmaaDoorS23G3
import Derived.Test.YtkbablmhgnpmmaaDoorAs93
open Go Go.En Go.RowKit Go.Lib
namespace Go.S23
theorem ctx10 : CtxOk C10 := fun _ _ h => tbl_ok (l := l10) ⟨con28_ok, letters_ok, rise_ok, differ_ok, mrises_ok, con39_ok, rises_ok, trivial⟩ h
theorem hent (k : Nat) {fn : Func} (hf : P.funcs[k]? = some fn) (hnm : fn.name ≠ "runtime.NumGoroutine") (hb : fn.body.isSome = true) (vs : Array Value) (w : World) : (callFunc k vs).run P w = .ok (.enter k vs) w := by
  obtain ⟨c, hb⟩ := Option.isSome_iff_exists.1 hb
  simp [callFunc, hf, hnm, hb]
theorem num_ok : FnOk P C0 15 numS := by
  intro w M γ ds os vs hr lf hp
  unfold numS at hp
  simp only at hp
  split at hp
  · rename_i f v
    simp only [Out.pick] at hp
    cases hv : plain v with
    | false => rw [hv] at hp; cases hp
    | true =>
      rw [hv] at hp
      simp only [cond_true, Option.some.injEq] at hp
      subst hp
      have hsz : vs.size = 1 := hr.n
      obtain ⟨x, rfl⟩ : ∃ x, vs = #[x] := by
        match vs, hsz with
        | ⟨[x]⟩, _ => exact ⟨x, rfl⟩
      have h0 : Ro C0 w (K0 M f) .e v [x] := hr.sl 0
      have fin : ∀ (n : Int) (w' : World), Grow w w' → ∃ K' γ', Rel C0 w M K' γ' (sgOf [resD [pI n]] os []) #[.int .i64 n] w' := by
        intro n w' hg
        have h1 := hr.grow hg
        refine ⟨K0 M, γ, { h1 with n := rfl, sl := fun t => ?_ }⟩
        cases t with
        | zero => exact Ro.i
        | succ t => rfl
      have he := hent 15 (show P.funcs[15]? = some Go.Proofs.Tryd.f15 from Go.Proofs.Tryd.func15) (of_decide_eq_true (by kernel_rfl)) (by kernel_rfl) #[x] w
      unfold CallsF
      rw [he]
      simp only
      cases h0 with
      | enil =>
        refine Calls.mono (As2.num_nil w) (fun e w' he => ?_)
        obtain ⟨rfl, rfl⟩ := he
        exact fin 0 _ (Grow.refl _)
      | eno =>
        rename_i n
        have hgl := (hr.g0.c (by simp [C0])).1 _ rfl
        refine Calls.mono (As2.num_no n w hgl) (fun e w' he => ?_)
        obtain ⟨rfl, h1, h2, h3, h4, h5⟩ := he
        exact fin n _ ⟨h1, h2, h3, h4, h5⟩
      | eat _ _ _ _ => cases hv
  · cases hp
theorem of_loop1 {ps : List PairV} (hp : ps.length ≤ 1000000) (hps : ps.all (fun q => Nat.ble q.1.length 17592186044416 && Nat.ble q.2.1.length 17592186044416) = true) (p i a b p' i' : Int) (nx nx' : List (List Int)) : ∀ (m n k : Nat), k ≤ ps.length → ps.length - k < m →
    f13L1 n m (k : Int) p i nx ps a b p' i' nx' (ps.take k) = some ⟨[.agg [.d (.fz true) (.i .i64) p', .d (.fz true) (.i .i64) i', .rw ⟨1, 0⟩, .rw ⟨1, 1⟩]], [], [roN nx', roP ps]⟩
  | 0, _, _, _, h => absurd h (Nat.not_lt_zero _)
  | m + 1, n, k, hk, hm => by
    show f13S1 (f13L1 n m) (k : Int) p i nx ps a b p' i' nx' (ps.take k) = _
    unfold f13S1
    by_cases h0 : k < ps.length
    · have hg := List.all_eq_true.1 hps _ (get_mem h0 ([], [], ()))
      rw [Bool.and_eq_true] at hg
      have g1 := of_ble hg.1
      have g2 := of_ble hg.2
      rw [lt_k h0, inb_k h0, wr_k (by omega), Int.toNat_natCast]
      have e1 : decide ((0 + (ps.getD k ([], [], ())).1.length) * 8 ≤ 140737488355328) = true := by rw [decide_eq_true_eq]; omega
      have e2 : decide ((0 + (ps.getD k ([], [], ())).2.1.length) * 8 ≤ 140737488355328) = true := by rw [decide_eq_true_eq]; omega
      have e3 : ∀ x : PairV, decide (((ps.take k).length + [x].length) * 48 ≤ 140737488355328) = true := fun x => by
        rw [decide_eq_true_eq, List.length_take, List.length_singleton]; omega
      rw [e1, e2, e3]
      have ih := of_loop1 hp hps p i a b p' i' nx nx' m n (k + 1) h0 (by omega)
      rw [take_succ_get h0 ([], [], ())] at ih
      exact ih
    · have hke : k = ps.length := by omega
      subst hke
      rw [nlt_k h0, List.take_length]; rfl
theorem of_loop0 {nx : List (List Int)} {ps : List PairV} (hn : nx.length ≤ 1000000) (hnx : nx.all (fun l => m6 l.length) = true) (hp : ps.length ≤ 1000000) (hps : ps.all (fun q => Nat.ble q.1.length 17592186044416 && Nat.ble q.2.1.length 17592186044416) = true) (p i a b p' i' : Int) {n : Nat} (hn2 : ps.length < n) : ∀ (m k : Nat), k ≤ nx.length → nx.length - k < m →
    f13L0 n m (k : Int) p i nx ps a b p' i' (nx.take k) [] = some ⟨[.agg [.d (.fz true) (.i .i64) p', .d (.fz true) (.i .i64) i', .rw ⟨1, 0⟩, .rw ⟨1, 1⟩]], [], [roN nx, roP ps]⟩
  | 0, _, _, h => absurd h (Nat.not_lt_zero _)
  | m + 1, k, hk, hm => by
    show f13S0 (f13L1 n n) (f13L0 n m) (k : Int) p i nx ps a b p' i' (nx.take k) [] = _
    unfold f13S0
    by_cases h0 : k < nx.length
    · have g1 := of_ble (List.all_eq_true.1 hnx _ (get_mem h0 []))
      rw [lt_k h0, inb_k h0, wr_k (by omega), Int.toNat_natCast]
      have e1 : decide ((0 + (nx.getD k []).length) * 8 ≤ 140737488355328) = true := by rw [decide_eq_true_eq]; omega
      have e3 : ∀ x : List Int, decide (((nx.take k).length + [x].length) * 24 ≤ 140737488355328) = true := fun x => by
        rw [decide_eq_true_eq, List.length_take, List.length_singleton]; omega
      rw [e1, e3]
      have ih := of_loop0 hn hnx hp hps p i a b p' i' hn2 m (k + 1) h0 (by omega)
      rw [take_succ_get h0 []] at ih
      exact ih
    · have hke : k = nx.length := by omega
      subst hke
      rw [nlt_k h0, List.take_length]
      exact of_loop1 hp hps p i a b p' i' nx nx n n 0 (Nat.zero_le _) hn2
theorem of_T (p i : Int) {nx : List (List Int)} {ps : List PairV} (h : ofG nx ps = true) : f13M (nx.length + ps.length + 1) p i nx ps = some ⟨[.agg [.d (.fz true) (.i .i64) p, .d (.fz true) (.i .i64) i, .rw ⟨1, 0⟩, .rw ⟨1, 1⟩]], [], [roN nx, roP ps]⟩ := by
  unfold ofG m6 at h
  simp only [Bool.and_eq_true] at h
  exact of_loop0 (of_ble h.1) h.2.1 (of_ble h.2.2.1) h.2.2.2 p i 0 0 p i (by omega) (nx.length + ps.length + 1) 0 (Nat.zero_le _) (by omega)
theorem of_ok : FnOk P C0 13 ofS := by
  refine fn_okC ctx10 (show P.funcs[13]? = some f13f by kernel_rfl) (of_decide_eq_true (by kernel_rfl)) (ofS) f13h (fun ds os lf hp => ?_)
  unfold ofS at hp
  simp only at hp
  split at hp
  · rename_i p i nx ps
    simp only [Out.pick] at hp
    cases hc0 : ofG nx ps with
    | false => rw [hc0] at hp; cases hp
    | true =>
      rw [hc0] at hp
      simp only [cond_true] at hp
      simp only [Option.some.injEq] at hp
      subst hp
      exact ⟨nx.length + ps.length + 1, (f13_ev _ p i nx ps).trans (of_T p i hc0)⟩
  · cases hp
theorem shl_pow {p : Int} (h0 : 0 ≤ p) (h1 : p ≤ 62) : shlF .i64 1 p = ((2 ^ p.toNat : Nat) : Int) := by
  obtain ⟨k, rfl⟩ := Int.eq_ofNat_of_zero_le h0
  rw [Int.toNat_natCast]
  unfold shlF
  have e : min (k : Int).toNat IntKind.i64.bits = k := by
    rw [Int.toNat_natCast]; show min k 64 = k; omega
  rw [e, Int.one_mul, show ((2 : Int) ^ k) = ((2 ^ k : Nat) : Int) from by rw [Int.natCast_pow]; rfl]
  have h2 := pow_62 (k := k) (by omega)
  generalize 2 ^ k = x at *
  exact i64_wrap_in (by omega) (by omega)
theorem head_not (p i : Int) (nx : List (List Int)) (ps : List PairV) :
    (decide (p < 0) || (decide (p > 6) || (decide (zn nx.length < 1) || (decide (zn nx.length > 4096) || (decide (i < 0) || (decide (i ≥ zn nx.length) || decide (zn ps.length > 4096))))))) = !headOk p i nx ps := by
  have n1 : ∀ a b : Int, decide (a < b) = !decide (b ≤ a) := fun a b => by
    by_cases h : a < b
    · rw [decide_eq_true h, decide_eq_false (by omega)]; rfl
    · rw [decide_eq_false h, decide_eq_true (by omega)]; rfl
  have n2 : ∀ a b : Int, decide (a > b) = !decide (a ≤ b) := fun a b => n1 b a
  have n3 : decide (i ≥ zn nx.length) = !decide (i < zn nx.length) := by rw [n1]; simp
  unfold headOk inF
  rw [n1 p 0, n2 p 6, n1 (zn nx.length) 1, n2 (zn nx.length) 4096, n1 i 0, n3, n2 (zn ps.length) 4096]
  show _ = !((decide (0 ≤ p) && decide (p ≤ 6)) && ((decide (1 ≤ zn nx.length) && decide (zn nx.length ≤ 4096)) && ((decide (0 ≤ i) && decide (i < zn nx.length)) && decide (zn ps.length ≤ 4096))))
  cases decide (0 ≤ p) <;> cases decide (p ≤ 6) <;> cases decide (1 ≤ zn nx.length) <;> cases decide (zn nx.length ≤ 4096) <;> cases decide (0 ≤ i) <;> cases decide (i < zn nx.length) <;> rfl
theorem head_p {p i : Int} {nx : List (List Int)} {ps : List PairV} (h : headOk p i nx ps = true) : (0 ≤ p ∧ p ≤ 6) ∧ (1 ≤ nx.length ∧ nx.length ≤ 4096) ∧ (0 ≤ i ∧ i < (nx.length : Int)) ∧ ps.length ≤ 4096 := by
  unfold headOk inF at h
  simp only [Bool.and_eq_true, decide_eq_true_eq, zn] at h
  obtain ⟨⟨h1, h2⟩, ⟨h3, h4⟩, ⟨h5, h6⟩, h7⟩ := h
  exact ⟨⟨h1, h2⟩, ⟨by omega, by omega⟩, ⟨h5, h6⟩, by omega⟩
theorem check_loop1 {ps : List PairV} (hp : ps.length ≤ 9223372036854775807) (hps : ps.all pairG = true) (N : Int) : ∀ (m n k : Nat), k ≤ ps.length → ps.length - k < m →
    f27L1 n m ps (zn ps.length) (k : Int) N = some ⟨[pE (er1 (!((ps.drop k).any (badP N))))], [], []⟩
  | 0, _, _, _, h => absurd h (Nat.not_lt_zero _)
  | m + 1, n, k, hk, hm => by
    show f27S1 (f27L1 n m) ps (zn ps.length) (k : Int) N = _
    unfold f27S1
    by_cases h0 : k < ps.length
    · have hg := List.all_eq_true.1 hps _ (get_mem h0 ([], [], ()))
      unfold pairG at hg
      rw [Bool.and_eq_true] at hg
      rw [lt_k h0, inb_k h0, wr_k (by omega), Int.toNat_natCast, hg.1, hg.2, check_loop1 hp hps N m n (k + 1) h0 (by omega), drop_get h0 ([], [], ()), List.any_cons]
      unfold badP
      cases riseF N (-1) (ps.getD k ([], [], ())).1 <;> cases riseF N (-1) (ps.getD k ([], [], ())).2.1 <;> rfl
    · rw [nlt_k h0, List.drop_eq_nil_of_le (by omega)]; rfl
theorem check_loop0 {nx : List (List Int)} {ps : List PairV} (hn : nx.length ≤ 9223372036854775807) (hnx : nx.all (fun l => big l.length) = true) (hp : ps.length ≤ 9223372036854775807) (hps : ps.all pairG = true) {p : Int} (h0p : 0 ≤ p) (h1p : p ≤ 62) (i N : Int) {n : Nat} (hn2 : ps.length < n) : ∀ (m k : Nat), k ≤ nx.length → nx.length - k < m →
    f27L0 n m nx (zn nx.length) (k : Int) p i nx ps N = some ⟨[pE (er1 (!((nx.drop k).any (badL N p)) && !(ps.any (badP N))))], [], []⟩
  | 0, _, _, h => absurd h (Nat.not_lt_zero _)
  | m + 1, k, hk, hm => by
    show f27S0 (f27L1 n n) (f27L0 n m) nx (zn nx.length) (k : Int) p i nx ps N = _
    unfold f27S0
    by_cases h0 : k < nx.length
    · have hg : big (nx.getD k []).length = true := List.all_eq_true.1 hnx _ (get_mem h0 [])
      rw [lt_k h0, inb_k h0, wr_k (by omega), Int.toNat_natCast, hg, decide_eq_true h0p, shl_pow h0p h1p, check_loop0 hn hnx hp hps h0p h1p i N hn2 m (k + 1) h0 (by omega), drop_get h0 [], List.any_cons]
      unfold badL
      show (bif true then bif true then bif true then bif !(zn (nx.getD k []).length == ((2 ^ p.toNat : Nat) : Int)) then _ else _ else _ else _ else _) = _
      cases (zn (nx.getD k []).length == ((2 ^ p.toNat : Nat) : Int)) <;> cases (nx.getD k []).any (nin N) <;> rfl
    · rw [nlt_k h0, List.drop_eq_nil_of_le (by omega)]
      exact check_loop1 hp hps N n n 0 (Nat.zero_le _) hn2
theorem drG_parts {nx : List (List Int)} {ps : List PairV} (h : drG nx ps = true) : nx.length ≤ 9223372036854775807 ∧ nx.all (fun l => big l.length) = true ∧ ps.length ≤ 9223372036854775807 ∧ ps.all pairG = true := by
  unfold drG at h
  simp only [Bool.and_eq_true] at h
  exact ⟨of_ble h.1, h.2.1, of_ble h.2.2.1, h.2.2.2⟩
theorem check_T (p i : Int) {nx : List (List Int)} {ps : List PairV} (h : drG nx ps = true) : f27M (nx.length + ps.length + 1) p i nx ps = some ⟨[pE (er1 (drOk p i nx ps))], [], []⟩ := by
  obtain ⟨h1, h2, h3, h4⟩ := drG_parts h
  unfold f27M f27T drOk
  rw [head_not]
  have g : (Nat.beq 1 1 && (decide (p < 0) || Nat.beq 1 1 && (decide (p > 6) || Nat.beq 1 1 && (decide (zn nx.length < 1) || Nat.beq 1 1 && (decide (zn nx.length > 4096) || Nat.beq 1 1 && (decide (i < 0) || Nat.beq 1 1 && (Nat.beq 1 1 && (decide (i ≥ zn nx.length) || true)))))))) = true := by
    cases decide (p < 0) <;> cases decide (p > 6) <;> cases decide (zn nx.length < 1) <;> cases decide (zn nx.length > 4096) <;> cases decide (i < 0) <;> cases decide (i ≥ zn nx.length) <;> rfl
  rw [g]
  cases hh : headOk p i nx ps with
  | false => rfl
  | true =>
    have hd := head_p hh
    have := check_loop0 h1 h2 h3 h4 hd.1.1 (by omega) i (zn nx.length) (n := nx.length + ps.length + 1) (by omega) (nx.length + ps.length + 1) 0 (Nat.zero_le _) (by omega)
    exact this
theorem check_ok : FnOk P C0 27 checkS := by
  refine fn_okC ctx10 (show P.funcs[27]? = some f27f by kernel_rfl) (of_decide_eq_true (by kernel_rfl)) (checkS) f27h (fun ds os lf hp => ?_)
  unfold checkS at hp
  simp only at hp
  split at hp
  · rename_i p i nx ps
    simp only [Out.pick] at hp
    cases hc0 : drG nx ps with
    | false => rw [hc0] at hp; cases hp
    | true =>
      rw [hc0] at hp
      simp only [cond_true] at hp
      simp only [Option.some.injEq] at hp
      subst hp
      exact ⟨nx.length + ps.length + 1, (f27_ev _ p i nx ps).trans (check_T p i hc0)⟩
  · cases hp
theorem right_loop2 {ps : List PairV} (hp : ps.length ≤ 9223372036854775807) (hps : ps.all pairG = true) (N p i : Int) (nx : List (List Int)) : ∀ (m n k : Nat), k ≤ ps.length → ps.length - k < m →
    f21L2 n m N (k : Int) p i nx ps = some ⟨[pB (!((ps.drop k).any (badP N)))], [], []⟩
  | 0, _, _, _, h => absurd h (Nat.not_lt_zero _)
  | m + 1, n, k, hk, hm => by
    show f21S2 (f21L2 n m) N (k : Int) p i nx ps = _
    unfold f21S2
    by_cases h0 : k < ps.length
    · have hg := List.all_eq_true.1 hps _ (get_mem h0 ([], [], ()))
      unfold pairG at hg
      rw [Bool.and_eq_true] at hg
      rw [lt_k h0, inb_k h0, wr_k (by omega), Int.toNat_natCast, hg.1, hg.2, right_loop2 hp hps N p i nx m n (k + 1) h0 (by omega), drop_get h0 ([], [], ()), List.any_cons]
      unfold badP
      cases riseF N (-1) (ps.getD k ([], [], ())).1 <;> cases riseF N (-1) (ps.getD k ([], [], ())).2.1 <;> rfl
    · rw [nlt_k h0, List.drop_eq_nil_of_le (by omega)]; rfl
theorem right_loop1 {nx : List (List Int)} {k : Nat} (h0 : k < nx.length) (hl : (nx.getD k []).length ≤ 64) (g : f21G0) (N p i : Int) (ps : List PairV) : ∀ (m n j : Nat), j ≤ (nx.getD k []).length → (nx.getD k []).length - j < m →
    f21L1 n g m N (k : Int) (j : Int) p i nx ps = bif ((nx.getD k []).drop j).any (nin N) then some ⟨[pB false], [], []⟩ else g N (IntKind.i64.wrap ((k : Int) + 1)) p i nx ps
  | 0, _, _, _, h => absurd h (Nat.not_lt_zero _)
  | m + 1, n, j, hj, hm => by
    show f21S1 g (f21L1 n g m) N (k : Int) (j : Int) p i nx ps = _
    unfold f21S1
    rw [inb_k h0, Int.toNat_natCast]
    by_cases h1 : j < (nx.getD k []).length
    · rw [lt_k h1, inb_k h1, wr_k (k := j) (by omega), Int.toNat_natCast, right_loop1 h0 hl g N p i ps m n (j + 1) h1 (by omega), drop_get h1 0, List.any_cons, not_in]
      show (bif true then bif true then bif true && (true && (true && (true && (true && (true && (true && (decide ((nx.getD k []).getD j 0 < 0) || _))))))) then bif nin N ((nx.getD k []).getD j 0) then _ else _ else _ else _ else _) = _
      cases decide ((nx.getD k []).getD j 0 < 0) <;> cases nin N ((nx.getD k []).getD j 0) <;> rfl
    · rw [nlt_k h1, List.drop_eq_nil_of_le (by omega)]; rfl
theorem right_loop0 {nx : List (List Int)} {ps : List PairV} (hn : nx.length ≤ 9223372036854775807) (hp : ps.length ≤ 9223372036854775807) (hps : ps.all pairG = true) {p : Int} (h0p : 0 ≤ p) (h1p : p ≤ 6) (i N : Int) {n : Nat} (hn2 : ps.length < n) (hn3 : 64 < n) : ∀ (m k : Nat), k ≤ nx.length → nx.length - k < m → N = zn nx.length →
    f21L0 n m N (k : Int) p i nx ps = some ⟨[pB (!((nx.drop k).any (badL N p)) && !(ps.any (badP N)))], [], []⟩
  | 0, _, _, h, _ => absurd h (Nat.not_lt_zero _)
  | m + 1, k, hk, hm, hN => by
    show f21S0 (f21L1 n (f21L0 n m) n) (f21L2 n n) (f21L0 n m) N (k : Int) p i nx ps = _
    unfold f21S0
    by_cases h0 : k < nx.length
    · have e0 : (decide (0 ≤ p) && decide (p ≤ 62)) = true := by rw [decide_eq_true h0p, decide_eq_true (show p ≤ 62 by omega)]; rfl
      have e1 : decide ((k : Int) < N) = true := by rw [hN]; exact lt_k h0
      rw [e1, inb_k h0, Int.toNat_natCast, e0, drop_get h0 [], List.any_cons]
      unfold badL
      show (bif true then bif true then bif true then bif !(zn (nx.getD k []).length == ((2 ^ p.toNat : Nat) : Int)) then _ else _ else _ else _ else _) = _
      cases hc : (zn (nx.getD k []).length == ((2 ^ p.toNat : Nat) : Int)) with
      | false => rfl
      | true =>
        have hl : (nx.getD k []).length ≤ 64 := by
          have h1 : zn (nx.getD k []).length = ((2 ^ p.toNat : Nat) : Int) := eq_of_beq hc
          have h2 : 2 ^ p.toNat ≤ 2 ^ 6 := Nat.pow_le_pow_right (by omega) (by omega)
          have h3 : (2 : Nat) ^ 6 = 64 := by decide
          simp only [zn] at h1; omega
        have ih := right_loop0 hn hp hps h0p h1p i N hn2 hn3 m (k + 1) h0 (by omega) hN
        have r1 := right_loop1 h0 hl (f21L0 n m) N p i ps n n 0 (Nat.zero_le _) (by omega)
        rw [wr_k (by omega), ih] at r1
        refine Eq.trans (b := f21L1 n (f21L0 n m) n N (k : Int) ((0 : Nat) : Int) p i nx ps) rfl (r1.trans ?_)
        rw [List.drop_zero]
        cases (nx.getD k []).any (nin N) <;> rfl
    · have e1 : decide ((k : Int) < N) = false := by rw [hN]; exact nlt_k h0
      rw [e1, List.drop_eq_nil_of_le (by omega)]
      exact right_loop2 hp hps N p i nx n n 0 (Nat.zero_le _) hn2
theorem right_T (p i : Int) {nx : List (List Int)} {ps : List PairV} (h : drG nx ps = true) : f21M (nx.length + ps.length + 65) p i nx ps = some ⟨[pB (drOk p i nx ps)], [], []⟩ := by
  obtain ⟨h1, h2, h3, h4⟩ := drG_parts h
  unfold f21M f21T drOk
  rw [head_not]
  have g : (Nat.beq 1 1 && (decide (p < 0) || Nat.beq 1 1 && (decide (p > 6) || (decide (zn nx.length < 1) || (decide (zn nx.length > 4096) || Nat.beq 1 1 && (decide (i < 0) || Nat.beq 1 1 && (decide (i ≥ zn nx.length) || true))))))) = true := by
    cases decide (p < 0) <;> cases decide (p > 6) <;> cases decide (zn nx.length < 1) <;> cases decide (zn nx.length > 4096) <;> cases decide (i < 0) <;> cases decide (i ≥ zn nx.length) <;> rfl
  rw [g]
  cases hh : headOk p i nx ps with
  | false => rfl
  | true =>
    have hd := head_p hh
    exact right_loop0 h1 h3 h4 hd.1.1 hd.1.2 i (zn nx.length) (n := nx.length + ps.length + 65) (by omega) (by omega) (nx.length + ps.length + 65) 0 (Nat.zero_le _) (by omega) rfl
theorem right_ok : FnOk P C0 21 rightS := by
  refine fn_okC ctx10 (show P.funcs[21]? = some f21f by kernel_rfl) (of_decide_eq_true (by kernel_rfl)) (rightS) f21h (fun ds os lf hp => ?_)
  unfold rightS at hp
  simp only at hp
  split at hp
  · rename_i p i nx ps
    simp only [Out.pick] at hp
    cases hc0 : drG nx ps with
    | false => rw [hc0] at hp; cases hp
    | true =>
      rw [hc0] at hp
      simp only [cond_true] at hp
      simp only [Option.some.injEq] at hp
      subst hp
      exact ⟨nx.length + ps.length + 65, (f21_ev _ p i nx ps).trans (right_T p i hc0)⟩
  · cases hp
/-! ### Check of processes -/
theorem checkM_loop (i : Int) {ch : List (List ChV)} (nm : List ByteArray) {ho : List (List Int)} (hc : ch.length ≤ 9223372036854775807) (hlen : ho.length = ch.length) (hg : ch.all chG = true) (hgo : (ho.all fun l => big l.length) = true) : ∀ (m n s : Nat), s ≤ ch.length → ch.length - s < m →
    f23L0 n m ch (zn ch.length) (s : Int) i ch nm ho (zn ch.length) = some ⟨[pE (er1 (rowsR (zn ch.length) (zn nm.length) (ch.drop s) (ho.drop s)))], [], []⟩
  | 0, _, _, _, h => absurd h (Nat.not_lt_zero _)
  | m + 1, n, s, hs, hm => by
    show f23S0 (f23L0 n m) ch (zn ch.length) (s : Int) i ch nm ho (zn ch.length) = _
    unfold f23S0
    by_cases h0 : s < ch.length
    · have hm0 := List.all_eq_true.1 hg _ (get_mem h0 [])
      unfold chG at hm0
      have h1 : s < ho.length := by omega
      have hm1 : big (ho.getD s []).length = true := List.all_eq_true.1 hgo _ (get_mem h1 [])
      have e1 : (ho.drop s).getD 0 [] = ho.getD s [] := by
        rw [List.getD_eq_getElem?_getD, List.getD_eq_getElem?_getD, List.getElem?_drop]; rfl
      have e2 : ((ch.getD s []).any fun c => !rightV (zn ch.length) c) = !((ch.getD s []).all (okC (zn ch.length))) := by
        rw [List.all_eq_not_any_not, Bool.not_not]; congr 1; funext c; rw [right_okC]
      rw [lt_k h0, inb_k h0, inb_k h1, wr_k (by omega), Int.toNat_natCast, checkM_loop i nm hc hlen hg hgo m n (s + 1) h0 (by omega), drop_get h0 []]
      show _ = some (Lf.mk [pE (er1 (rowR (zn ch.length) (zn nm.length) (ch.getD s []) ((ho.drop s).getD 0 []) && rowsR (zn ch.length) (zn nm.length) (ch.drop (s + 1)) ((ho.drop s).drop 1)))] [] [])
      rw [e1, List.drop_drop, hm1, hm0, e2]
      unfold rowR
      cases (zn (ch.getD s []).length == 0) <;> cases riseF (zn nm.length) (-1) (ho.getD s []) <;> cases (ch.getD s []).all (okC (zn ch.length)) <;> rfl
    · rw [nlt_k h0, List.drop_eq_nil_of_le (by omega)]; rfl
theorem checkM_T (i : Int) (ch : List (List ChV)) (nm : List ByteArray) (ho : List (List Int)) (h : mdG ch nm ho = true) : f23M (ch.length + 1) i ch nm ho = some ⟨[pE (er1 (mdOk i ch nm ho))], [], []⟩ := by
  unfold mdG at h
  simp only [Bool.and_eq_true] at h
  obtain ⟨⟨h1, h2⟩, h3, h4, h5⟩ := h
  unfold f23M f23T mdOk headM
  rw [h3, differ_fresh]
  by_cases hlen : ho.length = ch.length
  · have e0 : (zn ho.length != zn ch.length) = false := by rw [hlen]; simp
    have r0 := checkM_loop i nm (of_ble h1) hlen h2 h5 (ch.length + 1) (ch.length + 1) 0 (Nat.zero_le _) (by omega)
    have r0' : f23L0 (ch.length + 1) (ch.length + 1) ch (zn ch.length) 0 i ch nm ho (zn ch.length) = _ := r0
    rw [e0, r0', List.drop_zero, List.drop_zero]
    cases decide (zn ch.length < 1) <;> cases decide (zn ch.length > 4096) <;> cases decide (i < 0) <;> cases decide (i ≥ zn ch.length) <;> cases freshD [] nm <;> rfl
  · have e0 : (zn ho.length != zn ch.length) = true := by simp only [zn, bne_iff_ne, ne_eq]; omega
    rw [e0]
    cases decide (zn ch.length < 1) <;> cases decide (zn ch.length > 4096) <;> cases decide (i < 0) <;> cases decide (i ≥ zn ch.length) <;> rfl
theorem checkM_ok : FnOk P C0 23 checkMS := by
  refine fn_okC ctx10 (show P.funcs[23]? = some f23f by kernel_rfl) (of_decide_eq_true (by kernel_rfl)) (checkMS) f23h (fun ds os lf hp => ?_)
  unfold checkMS at hp
  simp only at hp
  split at hp
  · rename_i i ch nm ho
    simp only [Out.pick] at hp
    cases hc0 : mdG ch nm ho with
    | false => rw [hc0] at hp; cases hp
    | true =>
      rw [hc0] at hp
      simp only [cond_true] at hp
      simp only [Option.some.injEq] at hp
      subst hp
      exact ⟨_, (f23_ev _ i ch nm ho).trans (checkM_T i ch nm ho hc0)⟩
  · cases hp
/-! ### Of processes -/
section
variable (i : Int) {ch : List (List ChV)} (nm : List ByteArray) (ho : List (List Int)) (p q : Int)
abbrev cg (ch : List (List ChV)) (s : Nat) : List ChV := ch.getD s []
abbrev cgg (ch : List (List ChV)) (s c : Nat) : ChV := (ch.getD s []).getD c ({ data := #[] }, [], ())
theorem ofM_loop2 (g0 : f12G0) (g1 : f12G1) {s c : Nat} (hs : s < ch.length) (hc : c < (cg ch s).length) (hc2 : c ≤ 1000000) (hl : (cgg ch s c).2.1.length ≤ 1000000) (la : List ChV) (hla : la.length ≤ 1000000) (a : ByteArray) (CH : List (List ChV)) (NM : List ByteArray) (HO : List (List Int)) : ∀ (m n k : Nat), k ≤ (cgg ch s c).2.1.length → (cgg ch s c).2.1.length - k < m →
    f12L2 n g0 g1 m (s : Int) (c : Int) (k : Int) i ch nm ho p q la a CH NM HO ((cgg ch s c).2.1.take k) = g1 (s : Int) ((c + 1 : Nat) : Int) i ch nm ho p q (la ++ [(a, (cgg ch s c).2.1, ())]) CH NM HO
  | 0, _, _, _, h => absurd h (Nat.not_lt_zero _)
  | m + 1, n, k, hk, hm => by
    show f12S2 g0 g1 (f12L2 n g0 g1 m) (s : Int) (c : Int) (k : Int) i ch nm ho p q la a CH NM HO ((cgg ch s c).2.1.take k) = _
    unfold f12S2
    rw [inb_k hs, Int.toNat_natCast, inb_k hc, Int.toNat_natCast]
    by_cases h0 : k < (cgg ch s c).2.1.length
    · have e3 : ∀ x : MvV, decide ((((cgg ch s c).2.1.take k).length + [x].length) * 16 ≤ 140737488355328) = true := fun x => by
        rw [decide_eq_true_eq, List.length_take, List.length_singleton]; omega
      have ih := ofM_loop2 g0 g1 hs hc hc2 hl la hla a CH NM HO m n (k + 1) h0 (by omega)
      rw [take_succ_get h0 (0, 0, ())] at ih
      rw [lt_k h0, inb_k h0, wr_k (k := k) (by omega), Int.toNat_natCast, e3]
      exact ih
    · have hke : k = (cgg ch s c).2.1.length := by omega
      have e3 : ∀ x : ChV, decide ((la.length + [x].length) * 40 ≤ 140737488355328) = true := fun x => by
        rw [decide_eq_true_eq, List.length_singleton]; omega
      rw [nlt_k h0, e3, wr_k (k := c) (by omega), hke, List.take_length]; rfl
theorem ofM_loop1 (g0 : f12G0) {s : Nat} (hs : s < ch.length) (hs2 : s ≤ 1000000) (hl : (cg ch s).length ≤ 1000000) (hm6 : ∀ c ∈ cg ch s, c.2.1.length ≤ 1000000) (CH : List (List ChV)) (hCH : CH.length ≤ 1000000) (NM : List ByteArray) (HO : List (List Int)) : ∀ (m c : Nat), c ≤ (cg ch s).length → (cg ch s).length - c < m →
    f12L1 1000001 g0 m (s : Int) (c : Int) i ch nm ho p q ((cg ch s).take c) CH NM HO = g0 ((s + 1 : Nat) : Int) i ch nm ho p q (CH ++ [cg ch s]) NM HO
  | 0, _, _, h => absurd h (Nat.not_lt_zero _)
  | m + 1, c, hc, hm => by
    show f12S1 (f12L2 1000001 g0 (f12L1 1000001 g0 m) 1000001) g0 (f12L1 1000001 g0 m) (s : Int) (c : Int) i ch nm ho p q ((cg ch s).take c) CH NM HO = _
    unfold f12S1
    rw [inb_k hs, Int.toNat_natCast]
    by_cases h0 : c < (cg ch s).length
    · have hmv : (cgg ch s c).2.1.length ≤ 1000000 := hm6 _ (get_mem h0 ({ data := #[] }, [], ()))
      have r2 := ofM_loop2 i nm ho p q g0 (f12L1 1000001 g0 m) hs h0 (by omega) hmv ((cg ch s).take c) (by rw [List.length_take]; omega) (cgg ch s c).1 CH NM HO 1000001 1000001 0 (Nat.zero_le _) (by omega)
      have ih := ofM_loop1 g0 hs hs2 hl hm6 CH hCH NM HO m (c + 1) h0 (by omega)
      rw [take_succ_get h0 ({ data := #[] }, [], ())] at ih
      rw [lt_k h0, inb_k h0, Int.toNat_natCast]
      exact Eq.trans (b := f12L2 1000001 g0 (f12L1 1000001 g0 m) 1000001 (s : Int) (c : Int) ((0 : Nat) : Int) i ch nm ho p q ((cg ch s).take c) (cgg ch s c).1 CH NM HO ((cgg ch s c).2.1.take 0)) rfl (r2.trans ih)
    · have hke : c = (cg ch s).length := by omega
      have e3 : ∀ x : List ChV, decide ((CH.length + [x].length) * 24 ≤ 140737488355328) = true := fun x => by
        rw [decide_eq_true_eq, List.length_singleton]; omega
      rw [nlt_k h0, e3, wr_k (by omega), hke, List.take_length]; rfl
theorem ofM_loop3 {ho : List (List Int)} (hl : ho.length ≤ 1000000) (hh : ∀ l ∈ ho, l.length ≤ 1000000) (CH : List (List ChV)) (NM : List ByteArray) : ∀ (m n k : Nat), k ≤ ho.length → ho.length - k < m →
    f12L3 n m (k : Int) i ch nm ho p q CH NM (ho.take k) = some ⟨[.agg [.d (.fz true) (.i .i64) q, .rw ⟨1, 0⟩, .rw ⟨1, 1⟩, .rw ⟨1, 2⟩]], [], [roCh CH, roNm NM, roN ho]⟩
  | 0, _, _, _, h => absurd h (Nat.not_lt_zero _)
  | m + 1, n, k, hk, hm => by
    show f12S3 (f12L3 n m) (k : Int) i ch nm ho p q CH NM (ho.take k) = _
    unfold f12S3
    by_cases h0 : k < ho.length
    · have g1 := hh _ (get_mem h0 [])
      have e1 : decide ((0 + (ho.getD k []).length) * 8 ≤ 140737488355328) = true := by rw [decide_eq_true_eq]; omega
      have e3 : ∀ x : List Int, decide (((ho.take k).length + [x].length) * 24 ≤ 140737488355328) = true := fun x => by
        rw [decide_eq_true_eq, List.length_take, List.length_singleton]; omega
      have ih := ofM_loop3 hl hh CH NM m n (k + 1) h0 (by omega)
      rw [take_succ_get h0 []] at ih
      rw [lt_k h0, inb_k h0, wr_k (by omega), Int.toNat_natCast, e1, e3]
      exact ih
    · have hke : k = ho.length := by omega
      subst hke
      rw [nlt_k h0, List.take_length]; rfl
theorem ofM_loop0 (hl : ch.length ≤ 1000000) (hch : ∀ l ∈ ch, l.length ≤ 1000000 ∧ ∀ c ∈ l, c.2.1.length ≤ 1000000) (NM : List ByteArray) (HO : List (List Int)) : ∀ (m s : Nat), s ≤ ch.length → ch.length - s < m →
    f12L0 1000001 m (s : Int) i ch nm ho p q (ch.take s) NM HO = f12L3 1000001 1000001 0 i ch nm ho p q ch NM HO
  | 0, _, _, h => absurd h (Nat.not_lt_zero _)
  | m + 1, s, hs, hm => by
    show f12S0 (f12L1 1000001 (f12L0 1000001 m) 1000001) (f12L3 1000001 1000001) (f12L0 1000001 m) (s : Int) i ch nm ho p q (ch.take s) NM HO = _
    unfold f12S0
    by_cases h0 : s < ch.length
    · have hm0 := hch _ (get_mem h0 [])
      have hm1 : (cg ch s).length ≤ 1000000 := hm0.1
      have r1 := ofM_loop1 i nm ho p q (f12L0 1000001 m) h0 (by omega) hm0.1 hm0.2 (ch.take s) (by rw [List.length_take]; omega) NM HO 1000001 0 (Nat.zero_le _) (by omega)
      have ih := ofM_loop0 hl hch NM HO m (s + 1) h0 (by omega)
      rw [take_succ_get h0 []] at ih
      rw [lt_k h0]
      exact Eq.trans (b := f12L1 1000001 (f12L0 1000001 m) 1000001 (s : Int) ((0 : Nat) : Int) i ch nm ho p q ((cg ch s).take 0) (ch.take s) NM HO) rfl (r1.trans ih)
    · have hke : s = ch.length := by omega
      subst hke
      rw [nlt_k h0, List.take_length]; rfl
theorem ofM_T (h : ofMG ch nm ho = true) : f12M 1000001 i ch nm ho = some ⟨[.agg [.d (.fz true) (.i .i64) i, .rw ⟨1, 0⟩, .rw ⟨1, 1⟩, .rw ⟨1, 2⟩]], [], [roCh ch, roNm nm, roN ho]⟩ := by
  unfold ofMG m6 at h
  simp only [Bool.and_eq_true, List.all_eq_true] at h
  obtain ⟨⟨h1, h2⟩, h3, h4, h5⟩ := h
  have h3 := of_ble h3
  unfold f12M f12T
  rw [decide_eq_true (show (0 + nm.length) * 16 ≤ 140737488355328 by omega)]
  have r0 := ofM_loop0 i nm ho 0 i (of_ble h1) (fun l hl => ⟨of_ble (h2 l hl).1, fun c hc => of_ble ((h2 l hl).2 c hc)⟩) nm [] 1000001 0 (Nat.zero_le _) (by have := of_ble h1; omega)
  have r3 := ofM_loop3 i (ch := ch) nm 0 i (of_ble h4) (fun l hl => of_ble (h5 l hl)) ch nm 1000001 1000001 0 (Nat.zero_le _) (by have := of_ble h4; omega)
  exact Eq.trans (b := f12L0 1000001 1000001 ((0 : Nat) : Int) i ch nm ho 0 i (ch.take 0) nm []) rfl (r0.trans r3)
end
theorem ofM_ok : FnOk P C0 12 ofMS := by
  refine fn_okC ctx10 (show P.funcs[12]? = some f12f by kernel_rfl) (of_decide_eq_true (by kernel_rfl)) (ofMS) f12h (fun ds os lf hp => ?_)
  unfold ofMS at hp
  simp only at hp
  split at hp
  · rename_i i ch nm ho
    simp only [Out.pick] at hp
    cases hc0 : ofMG ch nm ho with
    | false => rw [hc0] at hp; cases hp
    | true =>
      rw [hc0] at hp
      simp only [cond_true] at hp
      simp only [Option.some.injEq] at hp
      subst hp
      exact ⟨_, (f12_ev _ i ch nm ho).trans (ofM_T i nm ho hc0)⟩
  · cases hp
end Go.S23
