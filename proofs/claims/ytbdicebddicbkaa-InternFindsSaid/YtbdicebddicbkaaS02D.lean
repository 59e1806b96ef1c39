/-
  Seat 02 (intern): the laws InternOwn, InternCounts, InternFinds.
-/
import Derived.Test.YtbdicebddicbkaaS02C
import Derived.Test.YtbdicebddicbkaaS02G4
open Go Go.En
namespace Go.S2
theorem ctx4 : CtxOk C4 := fun _ _ h => tbl_ok (l := l4) ⟨put_ok, find_ok, at_ok, hash_ok, clone_ok, equal_ok, same_ok, new_ok, len_ok, trivial⟩ h
theorem alive_T : f6T = some ⟨[pB true], [], []⟩ := by kernel_rfl
theorem alive_ok : FnOk P C0 6 aliveS := by
  refine fn_okC ctx4 (show P.funcs[6]? = some f6f by kernel_rfl) (of_decide_eq_true (by kernel_rfl)) aliveS f6h (fun ds os lf hp => ?_)
  unfold aliveS at hp
  simp only at hp
  split at hp
  · simp only [Out.pick, Option.some.injEq] at hp
    subst hp
    exact ⟨0, (f6_ev 0).trans alive_T⟩
  · cases hp
theorem ctx5 : CtxOk C5 := fun _ _ h => tbl_ok (l := l5) ⟨alive_ok, put_ok, find_ok, at_ok, hash_ok, clone_ok, equal_ok, same_ok, new_ok, len_ok, trivial⟩ h

/-- a table's list -/
def Good (T : List (List Int)) : Prop := nod T = true ∧ ∀ x ∈ T, x.length ≤ 64
theorem Good.nil : Good [] := ⟨rfl, fun x h => by cases h⟩
theorem Good.ok {T : List (List Int)} (h : Good T) (hl : T.length ≤ 100000) : okT T (firstOf T) (nextOf T) = true := okT_iff.2 ⟨h.1, h.2, hl, rfl, rfl⟩
theorem putB_eq {T : List (List Int)} {x : List Int} (h : x.length ≤ 64) : putB T x = !(fnd T x).2 := by
  unfold putB long
  rw [Nat.ble_eq_true_of_le h]; rfl
theorem putE_nil {x : List Int} (h : x.length ≤ 64) : putE x = .nil := by
  unfold putE long
  rw [Nat.ble_eq_true_of_le h]; rfl
theorem putN_eq {T : List (List Int)} {x : List Int} (h : x.length ≤ 64) : putN T x = bif (fnd T x).2 then (fnd T x).1 else (T.length : Int) := by
  unfold putN long
  rw [Nat.ble_eq_true_of_le h]; rfl
theorem Good.app {T : List (List Int)} {x : List Int} (h : Good T) (hx : x.length ≤ 64) (hf : (fnd T x).2 = false) : Good (T ++ [x]) := by
  have hm : x ∉ T := (fnd_no hf).2
  refine ⟨nod_iff.2 ?_, fun y hy => ?_⟩
  · have hp := nod_iff.1 h.1
    exact List.pairwise_append.2 ⟨hp, List.pairwise_singleton _ _, fun a ha b hb e => hm (by rw [List.mem_singleton.1 hb] at e; rw [← e]; exact ha)⟩
  · rcases List.mem_append.1 hy with hy | hy
    · exact h.2 y hy
    · rw [List.mem_singleton.1 hy]; exact hx
theorem fnd_self {T : List (List Int)} {x : List Int} (hf : (fnd T x).2 = false) (h : Good (T ++ [x])) : fnd (T ++ [x]) x = ((T.length : Int), true) := by
  have hm : (fndF x 0 (T ++ [x])).2 = true := fnd_mem.2 (by simp)
  obtain ⟨j, h1, h2, h3⟩ := fnd_get hm
  have : j = T.length := by
    simp only [List.length_append, List.length_singleton] at h1
    by_cases hj : j < T.length
    · have e : T.getD j [] = x := by
        rw [← h3]; simp [List.getD_eq_getElem?_getD, List.getElem?_append_left hj]
      exact absurd (by rw [← e]; simp [List.getD_eq_getElem?_getD, hj]) (fnd_no hf).2
    · omega
  show fndF x 0 (T ++ [x]) = _
  rw [h2, this, Nat.zero_add]
theorem mem_getD {l : List (List Int)} {k : Nat} (h : k < l.length) : l.getD k [] ∈ l := by
  have : l.getD k [] = l[k] := by simp [List.getD_eq_getElem?_getD, h]
  rw [this]; exact List.getElem_mem h
theorem take_succ' {l : List (List Int)} {k : Nat} (h : k < l.length) : l.take (k + 1) = l.take k ++ [l.getD k []] := by
  rw [List.take_succ_eq_append_getElem h]; simp [List.getD_eq_getElem?_getD, h]
theorem big_all {l : List (List Int)} (hb : ∀ x ∈ l, big x = true) {k : Nat} (h : k < l.length) : big (l.getD k []) = true := hb _ (mem_getD h)

/-! ### InternFinds -/
theorem finds_loop {l : List (List Int)} {v : List Int} (hlen : l.length ≤ 100) (hb : ∀ x ∈ l, big x = true) (hv : big v = true) : ∀ (m n : Nat) (k : Nat) (T : List (List Int)) (th : Bool), k ≤ l.length → l.length - k < m →
    Good T → T.length ≤ k → (∀ y, y ∈ T ↔ y ∈ l.take k) → (th = true ↔ v ∈ l.take k) → f5L0 n m l v th (k : Int) (firstOf T) T (nextOf T) = some ⟨[pB true], [], []⟩
  | 0, _, _, _, _, _, h, _, _, _, _ => absurd h (Nat.not_lt_zero _)
  | m + 1, n, k, T, th, hk, hm, hT, hTl, hmem, hth => by
    show f5S0 (f5L0 n m) l v th (k : Int) (firstOf T) T (nextOf T) = _
    unfold f5S0
    have hok := hT.ok (by omega)
    by_cases h0 : k < l.length
    · have e1 : decide ((k : Int) < zn l.length) = true := by simp only [zn, decide_eq_true_eq]; omega
      have e2 : inb (k : Int) l.length = true := by simp only [inb, Bool.and_eq_true, decide_eq_true_eq]; omega
      rw [e1, e2, hok]
      simp only [Int.toNat_natCast]
      have hbx := big_all hb h0
      by_cases h64 : (l.getD k []).length ≤ 64
      · have e3 : decide (zn (l.getD k []).length > 64) = false := by simp only [zn, decide_eq_false_iff_not]; omega
        have e4 : (th || Nat.beq 1 1 && (true && (Nat.beq 1 1 && (big (l.getD k []) && big v && true)))) = true := by rw [hbx, hv]; cases th <;> rfl
        rw [e3, e4, hbx, putB_eq h64, wr_succ h0 (by omega)]
        have hth' : ((th || same (l.getD k []) v) = true ↔ v ∈ l.take (k + 1)) := by
          rw [take_succ' h0, List.mem_append, List.mem_singleton, Bool.or_eq_true, hth, same_iff]
          constructor
          · rintro (h | h)
            · exact .inl h
            · exact .inr h.symm
          · rintro (h | h)
            · exact .inl h
            · exact .inr h.symm
        cases hf : (fnd T (l.getD k [])).2 with
        | true =>
          refine finds_loop hlen hb hv m n (k + 1) T _ h0 (by omega) hT (by omega) (fun y => ?_) hth'
          rw [take_succ' h0, List.mem_append, List.mem_singleton, hmem y]
          have hx : l.getD k [] ∈ T := fnd_mem.1 hf
          constructor
          · exact .inl
          · rintro (h | h)
            · exact h
            · rw [h]; exact (hmem _).1 hx
        | false =>
          refine finds_loop hlen hb hv m n (k + 1) (T ++ [l.getD k []]) _ h0 (by omega) (hT.app h64 hf) (by simp; omega) (fun y => ?_) hth'
          rw [take_succ' h0, List.mem_append, List.mem_append, hmem y]
      · have e3 : decide (zn (l.getD k []).length > 64) = true := by simp only [zn, decide_eq_true_eq]; omega
        rw [e3]; rfl
    · have e1 : decide ((k : Int) < zn l.length) = false := by simp only [zn, decide_eq_false_iff_not]; omega
      have hkl : k = l.length := by omega
      subst hkl
      rw [List.take_length] at hmem hth
      have e2 : ((fnd T v).2 == th) = true := by
        rw [beq_iff_eq]
        have h1 : (fnd T v).2 = true ↔ v ∈ T := fnd_mem
        cases h2 : (fnd T v).2 <;> cases h3 : th
        · rfl
        · exact absurd (h1.2 ((hmem v).2 (hth.1 h3))) (by rw [h2]; decide)
        · have := hth.2 ((hmem v).1 (h1.1 h2)); rw [h3] at this; cases this
        · rfl
      rw [e1, hok, hv, e2]
      simp only [cond_true, cond_false, Bool.and_self, beq_self_eq_true]
      rfl
theorem finds_law {l : List (List Int)} {v : List Int} (hb : ∀ x ∈ l, big x = true) (hv : big v = true) : ∃ n, f5M n l v = some ⟨[pB true], [], []⟩ := by
  refine ⟨l.length + 1, ?_⟩
  unfold f5M f5T
  by_cases hlen : l.length > 100
  · have : decide (zn l.length > 100) = true := by simp only [zn, decide_eq_true_eq]; omega
    rw [this]; rfl
  · have : decide (zn l.length > 100) = false := by simp only [zn, decide_eq_false_iff_not]; omega
    rw [this]
    exact finds_loop (by omega) hb hv _ _ 0 [] false (Nat.zero_le _) (by omega) Good.nil (Nat.le_refl _) (fun y => by simp) (by simp)

/-! ### InternOwn -/
theorem own_loop {l : List (List Int)} {v : List Int} (hlen : l.length ≤ 100) (hb : ∀ x ∈ l, big x = true) (hv : v.length ≤ 64) : ∀ (m n : Nat) (k : Nat) (R : List (List Int)), k ≤ l.length → l.length - k < m →
    Good (v :: R) → (v :: R).length ≤ k + 1 → f3L0 n m v l 0 (k : Int) (firstOf (v :: R)) (v :: R) (nextOf (v :: R)) = some ⟨[pB true], [], []⟩
  | 0, _, _, _, _, h, _, _ => absurd h (Nat.not_lt_zero _)
  | m + 1, n, k, R, hk, hm, hT, hTl => by
    show f3S0 (f3L0 n m) v l 0 (k : Int) (firstOf (v :: R)) (v :: R) (nextOf (v :: R)) = _
    unfold f3S0
    have hok := hT.ok (by omega)
    by_cases h0 : k < l.length
    · have e1 : decide ((k : Int) < zn l.length) = true := by simp only [zn, decide_eq_true_eq]; omega
      have e2 : inb (k : Int) l.length = true := by simp only [inb, Bool.and_eq_true, decide_eq_true_eq]; omega
      rw [e1, e2, hok]
      simp only [Int.toNat_natCast]
      rw [big_all hb h0, wr_succ h0 (by omega)]
      by_cases h64 : (l.getD k []).length ≤ 64
      · have e3 : decide (zn (l.getD k []).length ≤ 64) = true := by simp only [zn, decide_eq_true_eq]; omega
        rw [e3, putB_eq h64]
        cases hf : (fnd (v :: R) (l.getD k [])).2 with
        | true => exact own_loop hlen hb hv m n (k + 1) R h0 (by omega) hT (by omega)
        | false => exact own_loop hlen hb hv m n (k + 1) (R ++ [l.getD k []]) h0 (by omega) (hT.app h64 hf) (by simp at hTl ⊢; omega)
      · have e3 : decide (zn (l.getD k []).length ≤ 64) = false := by simp only [zn, decide_eq_false_iff_not]; omega
        rw [e3]
        exact own_loop hlen hb hv m n (k + 1) R h0 (by omega) hT (by omega)
    · have e1 : decide ((k : Int) < zn l.length) = false := by simp only [zn, decide_eq_false_iff_not]; omega
      have e2 : fnd (v :: R) v = (0, true) := by
        show (bif same v v then (((0 : Nat) : Int), true) else fndF v 1 R) = _
        rw [same_iff.2 rfl]; rfl
      have e3 : atF (v :: R) 0 = (v, true) := by
        unfold atF
        have : inb 0 (v :: R).length = true := by simp only [inb, List.length_cons, Bool.and_eq_true, decide_eq_true_eq]; omega
        rw [this]; rfl
      rw [e1, hok, e2, e3, big_of hv, same_iff.2 rfl]
      rfl
theorem own_law {l : List (List Int)} {v : List Int} (hb : ∀ x ∈ l, big x = true) : ∃ n, f3M n v l = some ⟨[pB true], [], []⟩ := by
  refine ⟨l.length + 1, ?_⟩
  unfold f3M f3T
  by_cases hg : v.length > 64 ∨ v.length = 0 ∨ l.length > 100
  · have : (decide (zn v.length > 64) || (zn v.length == 0 || decide (zn l.length > 100))) = true := by
      simp only [zn, Bool.or_eq_true, decide_eq_true_eq, beq_iff_eq]; omega
    rw [this]; rfl
  · have h1 : (decide (zn v.length > 64) || (zn v.length == 0 || decide (zn l.length > 100))) = false := by
      simp only [zn, Bool.or_eq_false_iff, decide_eq_false_iff_not, beq_eq_false_iff_ne]; omega
    have h2 : decide ((0 + v.length) * 4 ≤ 140737488355328) = true := by simp only [decide_eq_true_eq]; omega
    have hv : v.length ≤ 64 := by omega
    have h3 : putB [] v = true := by rw [putB_eq hv]; rfl
    have h4 : putN [] v = 0 := by rw [putN_eq hv]; rfl
    have h5 : inb 0 v.length = true := by simp only [inb, Bool.and_eq_true, decide_eq_true_eq]; omega
    have hT : Good [v] := ⟨rfl, fun x hx => by rw [List.mem_singleton.1 hx]; exact hv⟩
    have h6 : atF [v] 0 = (v, true) := rfl
    have h7 : okT [] (firstOf []) [] = true := Good.nil.ok (by simp)
    rw [h1, h2, h7, big_of hv, h3, h4, h5, hT.ok (by simp), h6]
    simp only [bne_self_eq_false, h5]
    exact own_loop (by omega) hb hv _ _ 0 [] (Nat.zero_le _) (by omega) hT (by simp)

/-! ### InternCounts -/
theorem counts_in {l : List (List Int)} (hb : ∀ x ∈ l, big x = true) (hlen : l.length ≤ 100) {g : f4G0} {i : Nat} (hi : i < l.length) {T : List (List Int)} {most nn : Int} (hT : Good T) (hTl : T.length ≤ 100000) (hn : fnd T (l.getD i []) = (nn, true)) (hall : ∀ j, j < i → l.getD j [] ∈ T) :
    ∀ (m n k : Nat), k ≤ i → i - k < m → f4L1 n g m l most (i : Int) nn (k : Int) (firstOf T) T (nextOf T) = g l most ((i + 1 : Nat) : Int) (firstOf T) T (nextOf T)
  | 0, _, _, _, h => absurd h (Nat.not_lt_zero _)
  | m + 1, n, k, hk, hm => by
    show f4S1 g (f4L1 n g m) l most (i : Int) nn (k : Int) (firstOf T) T (nextOf T) = _
    unfold f4S1
    by_cases h0 : k < i
    · have e1 : decide ((k : Int) < (i : Int)) = true := by simp only [decide_eq_true_eq]; omega
      have e2 : inb (k : Int) l.length = true := by simp only [inb, Bool.and_eq_true, decide_eq_true_eq]; omega
      have e3 : inb (i : Int) l.length = true := by simp only [inb, Bool.and_eq_true, decide_eq_true_eq]; omega
      rw [e1, e2, e3, hT.ok hTl]
      simp only [Int.toNat_natCast]
      have hm' : (fndF (l.getD k []) 0 T).2 = true := fnd_mem.2 (hall k h0)
      obtain ⟨j, g1, g2, g3⟩ := fnd_get hm'
      have hf : fnd T (l.getD k []) = ((j : Int), true) := by
        show fndF (l.getD k []) 0 T = _
        rw [g2, Nat.zero_add]
      have hsame : (((j : Int) == nn) == same (l.getD i []) (l.getD k [])) = true := by
        rw [beq_iff_eq]
        have hn2 : (fndF (l.getD i []) 0 T).2 = true := by
          have : fndF (l.getD i []) 0 T = (nn, true) := hn
          rw [this]
        obtain ⟨j', q1, q2, q3⟩ := fnd_get hn2
        have hnn : nn = (j' : Int) := by
          have : fndF (l.getD i []) 0 T = (nn, true) := hn
          rw [this] at q2
          simp only [Prod.mk.injEq, and_true] at q2
          rw [q2, Nat.zero_add]
        cases hs : same (l.getD i []) (l.getD k []) with
        | true =>
          rw [same_iff.1 hs] at hn
          rw [hf] at hn
          simp only [Prod.mk.injEq, and_true] at hn
          simpa using hn
        | false =>
          rw [beq_eq_false_iff_ne]
          intro e
          have : j = j' := by omega
          subst this
          rw [same_iff.2 (q3.symm.trans g3)] at hs
          cases hs
      rw [hf, hsame, big_all hb (by omega), big_all hb hi, wr_succ (n := l.length) (by omega) (by omega)]
      exact counts_in hb hlen hi hT hTl hn hall m n (k + 1) h0 (by omega)
    · have e1 : decide ((k : Int) < (i : Int)) = false := by simp only [decide_eq_false_iff_not]; omega
      rw [e1, wr_succ hi (by omega)]
      rfl
theorem counts_loop {l : List (List Int)} (hb : ∀ x ∈ l, big x = true) (hlen : l.length ≤ 100) {n : Nat} (hn : l.length < n) : ∀ (m : Nat) (i : Nat) (T : List (List Int)), i ≤ l.length → l.length - i < m →
    Good T → T.length ≤ i → (∀ j, j < i → l.getD j [] ∈ T) → f4L0 n m l (T.length : Int) (i : Int) (firstOf T) T (nextOf T) = some ⟨[pB true], [], []⟩
  | 0, _, _, _, h, _, _, _ => absurd h (Nat.not_lt_zero _)
  | m + 1, i, T, hi, hm, hT, hTl, hall => by
    show f4S0 (f4L1 n (f4L0 n m) n) (f4L0 n m) l (T.length : Int) (i : Int) (firstOf T) T (nextOf T) = _
    unfold f4S0
    have hok := hT.ok (by omega)
    by_cases h0 : i < l.length
    · have e1 : decide ((i : Int) < zn l.length) = true := by simp only [zn, decide_eq_true_eq]; omega
      have e2 : inb (i : Int) l.length = true := by simp only [inb, Bool.and_eq_true, decide_eq_true_eq]; omega
      rw [e1, e2, hok]
      simp only [Int.toNat_natCast]
      rw [big_all hb h0]
      by_cases h64 : (l.getD i []).length ≤ 64
      · have e3 : decide (zn (l.getD i []).length > 64) = false := by simp only [zn, decide_eq_false_iff_not]; omega
        rw [e3, putB_eq h64, putE_nil h64]
        have hpn := putN_eq (T := T) h64
        cases hf : (fnd T (l.getD i [])).2 with
        | true =>
          obtain ⟨j, g1, g2, g3⟩ := fnd_get (i := 0) hf
          have hfe : fnd T (l.getD i []) = ((j : Int), true) := by
            show fndF (l.getD i []) 0 T = _
            rw [g2, Nat.zero_add]
          have e4 : ((j : Int) == (T.length : Int)) = false := by simp only [beq_eq_false_iff_ne]; omega
          have e5 : decide ((j : Int) > (T.length : Int)) = false := by simp only [decide_eq_false_iff_not]; omega
          have hp : putN T (l.getD i []) = (j : Int) := by rw [hpn, hfe]; rfl
          simp only [hp, e4, e5]
          show f4L1 n (f4L0 n m) n l (T.length : Int) (i : Int) (j : Int) ((0 : Nat) : Int) (firstOf T) T (nextOf T) = _
          rw [counts_in hb hlen h0 hT (by omega) hfe hall n n 0 (Nat.zero_le _) (by omega)]
          refine counts_loop hb hlen hn m (i + 1) T h0 (by omega) hT (by omega) (fun j' hj => ?_)
          by_cases hji : j' = i
          · subst hji; exact fnd_mem.1 hf
          · exact hall j' (by omega)
        | false =>
          have hT' := hT.app h64 hf
          have e4 : decide ((T.length : Int) > (T.length : Int)) = false := by simp
          have e5 : IntKind.i64.wrap ((T.length : Int) + 1) = ((T ++ [l.getD i []]).length : Int) := by
            rw [i64_wrap_in (by omega) (by omega)]; simp
          have hp : putN T (l.getD i []) = (T.length : Int) := by rw [hpn, hf]; rfl
          simp only [hp, beq_self_eq_true, e4, e5]
          have hall' : ∀ j, j < i → l.getD j [] ∈ T ++ [l.getD i []] := fun j hj => List.mem_append_left _ (hall j hj)
          show f4L1 n (f4L0 n m) n l ((T ++ [l.getD i []]).length : Int) (i : Int) (T.length : Int) ((0 : Nat) : Int) (firstOf (T ++ [l.getD i []])) (T ++ [l.getD i []]) (nextOf (T ++ [l.getD i []])) = _
          rw [counts_in hb hlen h0 hT' (by simp; omega) (fnd_self hf hT') hall' n n 0 (Nat.zero_le _) (by omega)]
          refine counts_loop hb hlen hn m (i + 1) (T ++ [l.getD i []]) h0 (by omega) hT' (by simp; omega) (fun j' hj => ?_)
          by_cases hji : j' = i
          · subst hji; simp
          · exact hall' j' (by omega)
      · have e3 : decide (zn (l.getD i []).length > 64) = true := by simp only [zn, decide_eq_true_eq]; omega
        rw [e3]; rfl
    · have e1 : decide ((i : Int) < zn l.length) = false := by simp only [zn, decide_eq_false_iff_not]; omega
      rw [e1, hok]
      show some (Lf.mk [pB ((T.length : Int) == (T.length : Int))] [] []) = _
      rw [beq_self_eq_true]
theorem counts_law {l : List (List Int)} (hb : ∀ x ∈ l, big x = true) : ∃ n, f4M n l = some ⟨[pB true], [], []⟩ := by
  refine ⟨l.length + 1, ?_⟩
  unfold f4M f4T
  by_cases hlen : l.length > 100
  · have : decide (zn l.length > 100) = true := by simp only [zn, decide_eq_true_eq]; omega
    rw [this]; rfl
  · have : decide (zn l.length > 100) = false := by simp only [zn, decide_eq_false_iff_not]; omega
    rw [this]
    exact counts_loop hb (by omega) (Nat.lt_succ_self _) _ 0 [] (Nat.zero_le _) (by omega) Good.nil (Nat.le_refl _) (fun j h => absurd h (Nat.not_lt_zero _))
end Go.S2
