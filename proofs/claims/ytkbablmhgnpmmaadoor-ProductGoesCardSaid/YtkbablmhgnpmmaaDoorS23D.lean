/-
  Seat 23: the document's Right of processes.
-/
import Derived.Test.YtkbablmhgnpmmaaDoorS23C
open Go Go.En
namespace Go.S23
/-! ### values -/
/-- no two texts alike -/
def freshD (seen : List ByteArray) : List ByteArray → Bool
  | [] => true
  | x :: l => !(seen.any fun y => x.toList == y.toList) && freshD (seen ++ [x]) l
/-- moves are right and lead to different states -/
def mvF (z : Int) (seen : List MvV) : List MvV → Bool
  | [] => true
  | v :: l => !(decide (v.1 < 0) || (decide (v.1 ≥ z) || decide (v.2.1 < 1))) && (!(seen.any fun y => y.1 == v.1) && mvF z (seen ++ [v]) l)
def okC (z : Int) (c : ChV) : Bool := !(zn c.2.1.length == 0) && mvF z [] c.2.1
def rowR (z K : Int) (l : List ChV) (h : List Int) : Bool := !(zn l.length == 0) && (riseF K (-1) h && l.all (okC z))
def rowsR (z K : Int) : List (List ChV) → List (List Int) → Bool
  | [], _ => true
  | l :: ls, hs => rowR z K l (hs.getD 0 []) && rowsR z K ls (hs.drop 1)
def headM (i : Int) (ch : List (List ChV)) (ho : List (List Int)) : Bool := !(decide (zn ch.length < 1) || (decide (zn ch.length > 4096) || (decide (i < 0) || (decide (i ≥ zn ch.length) || zn ho.length != zn ch.length))))
def mdOk (i : Int) (ch : List (List ChV)) (nm : List ByteArray) (ho : List (List Int)) : Bool := headM i ch ho && (freshD [] nm && rowsR (zn ch.length) (zn nm.length) ch ho)
def chG (l : List ChV) : Bool := big l.length && l.all mvG
def mdG (ch : List (List ChV)) (nm : List ByteArray) (ho : List (List Int)) : Bool := (big ch.length && ch.all chG) && (big nm.length && (big ho.length && ho.all fun l => big l.length))
def rightMS : En.Spec := ⟨[], fun ds os => match ds, os with
  | [.p (.agg [.d (.fz true) (.i .i64) i, .d (.fz false) (.l (.l (.p .s (.p (.l (.p (.i .i64) (.p (.i .i64) .u))) .u)))) ch, .d (.fz false) (.l .s) nm, .d (.fz false) (.l (.l (.i .i64))) ho])], [] =>
    .br (mdG ch nm ho) (.leaf [pB (mdOk i ch nm ho)] [] []) .fail
  | _, _ => .fail⟩
/-! ### bounds -/
def maxL {α : Type} (f : α → Nat) (l : List α) : Nat := l.foldr (fun x a => f x + a) 0
theorem le_maxL {α : Type} (f : α → Nat) : ∀ {l : List α} {x : α}, x ∈ l → f x ≤ maxL f l
  | y :: l, x, h => by
    show f x ≤ f y + maxL f l
    rcases List.mem_cons.1 h with rfl | h
    · omega
    · have := le_maxL f h; omega
theorem take_get {α : Type} {l : List α} {k j : Nat} (h : j < k) (d : α) : (l.take k).getD j d = l.getD j d := by
  rw [List.getD_eq_getElem?_getD, List.getD_eq_getElem?_getD, List.getElem?_take, if_pos h]
theorem take_len {α : Type} {l : List α} {k : Nat} (h : k ≤ l.length) : (l.take k).length = k := by rw [List.length_take]; omega
section
variable (i : Int) (ch : List (List ChV)) (nm : List ByteArray) (ho : List (List Int))
/-! ### names -/
theorem rm_loop1 (g : f32G0) (N : Int) {k : Nat} (h0 : k < nm.length) (hl : nm.length ≤ 9223372036854775807) : ∀ (m n j : Nat), j ≤ k → k - j < m →
    f32L1 n g m N (k : Int) (j : Int) i ch nm ho = bif ((nm.take k).drop j).any (fun y => (nm.getD k ByteArray.empty).toList == y.toList) then some ⟨[pB false], [], []⟩ else g N (IntKind.i64.wrap ((k : Int) + 1)) i ch nm ho
  | 0, _, _, _, h => absurd h (Nat.not_lt_zero _)
  | m + 1, n, j, hj, hm => by
    show f32S1 g (f32L1 n g m) N (k : Int) (j : Int) i ch nm ho = _
    unfold f32S1
    have hkl := take_len (Nat.le_of_lt h0)
    by_cases h1 : j < k
    · have h2 : j < (nm.take k).length := by omega
      have e1 : decide ((j : Int) < (k : Int)) = true := by rw [decide_eq_true_eq]; omega
      rw [e1, inb_k h0, inb_k (show j < nm.length by omega), wr_k (k := j) (by omega), Int.toNat_natCast, Int.toNat_natCast, rm_loop1 g N h0 hl m n (j + 1) h1 (by omega), drop_get h2 ByteArray.empty, List.any_cons, take_get h1]
      show (bif true then bif true then bif true then bif (nm.getD k ByteArray.empty).toList == (nm.getD j ByteArray.empty).toList then _ else _ else _ else _ else _) = _
      cases ((nm.getD k ByteArray.empty).toList == (nm.getD j ByteArray.empty).toList) <;> rfl
    · have e1 : decide ((j : Int) < (k : Int)) = false := by rw [decide_eq_false_iff_not]; omega
      rw [e1, List.drop_eq_nil_of_le (by omega)]; rfl
theorem rm_loop0 (N : Int) (hl : nm.length ≤ 9223372036854775807) {n : Nat} (hn : nm.length < n) : ∀ (m k : Nat), k ≤ nm.length → nm.length - k < m →
    f32L0 n m N (k : Int) i ch nm ho = bif freshD (nm.take k) (nm.drop k) then f32L2 n n N 0 i ch nm ho else some ⟨[pB false], [], []⟩
  | 0, _, _, h => absurd h (Nat.not_lt_zero _)
  | m + 1, k, hk, hm => by
    show f32S0 (f32L1 n (f32L0 n m) n) (f32L2 n n) (f32L0 n m) N (k : Int) i ch nm ho = _
    unfold f32S0
    by_cases h0 : k < nm.length
    · have r1 := rm_loop1 i ch nm ho (f32L0 n m) N h0 hl n n 0 (Nat.zero_le _) (by omega)
      rw [wr_k (by omega), rm_loop0 N hl hn m (k + 1) h0 (by omega), List.drop_zero] at r1
      rw [lt_k h0, drop_get h0 ByteArray.empty]
      refine Eq.trans (b := f32L1 n (f32L0 n m) n N (k : Int) ((0 : Nat) : Int) i ch nm ho) rfl (r1.trans ?_)
      rw [take_succ_get h0 ByteArray.empty]
      show _ = bif !((nm.take k).any fun y => (nm.getD k ByteArray.empty).toList == y.toList) && freshD (nm.take k ++ [nm.getD k ByteArray.empty]) (nm.drop (k + 1)) then _ else _
      cases (nm.take k).any fun y => (nm.getD k ByteArray.empty).toList == y.toList <;> rfl
    · rw [nlt_k h0, List.drop_eq_nil_of_le (by omega)]; rfl
/-! ### moves -/
theorem rm_loop6 (g2 : f32G2) (g4 : f32G4) (g5 : f32G5) (N s c : Int) (mv : List MvV) {k : Nat} (h0 : k < mv.length) (hl : mv.length ≤ 9223372036854775807) : ∀ (m n j : Nat), j ≤ k → k - j < m →
    f32L6 n g2 g4 g5 m N s c mv (k : Int) (j : Int) i ch nm ho = bif ((mv.take k).drop j).any (fun y => y.1 == (mv.getD k (0, 0, ())).1) then some ⟨[pB false], [], []⟩ else g5 N s c mv (IntKind.i64.wrap ((k : Int) + 1)) i ch nm ho
  | 0, _, _, _, h => absurd h (Nat.not_lt_zero _)
  | m + 1, n, j, hj, hm => by
    show f32S6 g2 g4 g5 (f32L6 n g2 g4 g5 m) N s c mv (k : Int) (j : Int) i ch nm ho = _
    unfold f32S6
    have hkl := take_len (Nat.le_of_lt h0)
    by_cases h1 : j < k
    · have h2 : j < (mv.take k).length := by omega
      have e1 : decide ((j : Int) < (k : Int)) = true := by rw [decide_eq_true_eq]; omega
      rw [e1, inb_k h0, inb_k (show j < mv.length by omega), wr_k (k := j) (by omega), Int.toNat_natCast, Int.toNat_natCast, rm_loop6 g2 g4 g5 N s c mv h0 hl m n (j + 1) h1 (by omega), drop_get h2 (0, 0, ()), List.any_cons, take_get h1]
      show (bif true then bif true then bif true then bif (mv.getD j (0, 0, ())).1 == (mv.getD k (0, 0, ())).1 then _ else _ else _ else _ else _) = _
      cases ((mv.getD j (0, 0, ())).1 == (mv.getD k (0, 0, ())).1) <;> rfl
    · have e1 : decide ((j : Int) < (k : Int)) = false := by rw [decide_eq_false_iff_not]; omega
      rw [e1, List.drop_eq_nil_of_le (by omega)]; rfl
theorem rm_loop5 (g2 : f32G2) (g4 : f32G4) (N s : Int) (c : Nat) (hc : c ≤ 9223372036854775806) (mv : List MvV) (hl : mv.length ≤ 9223372036854775807) {n : Nat} (hn : mv.length < n) : ∀ (m k : Nat), k ≤ mv.length → mv.length - k < m →
    f32L5 n g2 g4 m N s (c : Int) mv (k : Int) i ch nm ho = bif mvF N (mv.take k) (mv.drop k) then g4 N s ((c + 1 : Nat) : Int) i ch nm ho else some ⟨[pB false], [], []⟩
  | 0, _, _, h => absurd h (Nat.not_lt_zero _)
  | m + 1, k, hk, hm => by
    show f32S5 (f32L6 n g2 g4 (f32L5 n g2 g4 m) n) g2 g4 (f32L5 n g2 g4 m) N s (c : Int) mv (k : Int) i ch nm ho = _
    unfold f32S5
    by_cases h0 : k < mv.length
    · have r1 := rm_loop6 i ch nm ho g2 g4 (f32L5 n g2 g4 m) N s c mv h0 hl n n 0 (Nat.zero_le _) (by omega)
      rw [wr_k (by omega), rm_loop5 g2 g4 N s c hc mv hl hn m (k + 1) h0 (by omega), List.drop_zero] at r1
      rw [lt_k h0, inb_k h0, Int.toNat_natCast, drop_get h0 (0, 0, ())]
      have r2 : f32L6 n g2 g4 (f32L5 n g2 g4 m) n N s (c : Int) mv (k : Int) 0 i ch nm ho = _ := r1
      rw [r2, take_succ_get h0 (0, 0, ())]
      show (bif true then bif true && (true && (true && (decide ((mv.getD k (0, 0, ())).1 < 0) || (true && (true && (true && (decide ((mv.getD k (0, 0, ())).1 ≥ N) || (true && (true && true))))))))) then bif decide ((mv.getD k (0, 0, ())).1 < 0) || (decide ((mv.getD k (0, 0, ())).1 ≥ N) || decide ((mv.getD k (0, 0, ())).2.1 < 1)) then _ else _ else _ else _) = bif !(decide ((mv.getD k (0, 0, ())).1 < 0) || (decide ((mv.getD k (0, 0, ())).1 ≥ N) || decide ((mv.getD k (0, 0, ())).2.1 < 1))) && (!((mv.take k).any fun y => y.1 == (mv.getD k (0, 0, ())).1) && mvF N (mv.take k ++ [mv.getD k (0, 0, ())]) (mv.drop (k + 1))) then _ else _
      cases decide ((mv.getD k (0, 0, ())).1 < 0) <;> cases decide ((mv.getD k (0, 0, ())).1 ≥ N) <;> cases decide ((mv.getD k (0, 0, ())).2.1 < 1) <;> cases (mv.take k).any (fun y => y.1 == (mv.getD k (0, 0, ())).1) <;> rfl
    · rw [nlt_k h0, List.drop_eq_nil_of_le (by omega), wr_k hc]; rfl
/-! ### choices -/
theorem rm_loop4 (g2 : f32G2) (N : Int) {s : Nat} (hs : s < ch.length) (hsl : s ≤ 9223372036854775806) (hg : chG (ch.getD s []) = true) {n : Nat} (hn : (ch.getD s []).length < n) (hn2 : ∀ c ∈ ch.getD s [], c.2.1.length < n) : ∀ (m c : Nat), c ≤ (ch.getD s []).length → (ch.getD s []).length - c < m →
    f32L4 n g2 m N (s : Int) (c : Int) i ch nm ho = bif ((ch.getD s []).drop c).all (okC N) then g2 N ((s + 1 : Nat) : Int) i ch nm ho else some ⟨[pB false], [], []⟩
  | 0, _, _, h => absurd h (Nat.not_lt_zero _)
  | m + 1, c, hc, hm => by
    show f32S4 (f32L5 n g2 (f32L4 n g2 m) n) g2 (f32L4 n g2 m) N (s : Int) (c : Int) i ch nm ho = _
    unfold f32S4
    unfold chG at hg
    rw [Bool.and_eq_true] at hg
    have hb := of_ble hg.1
    rw [inb_k hs, Int.toNat_natCast]
    by_cases h0 : c < (ch.getD s []).length
    · have hm0 := get_mem h0 (ByteArray.empty, [], ())
      have hbm : ((ch.getD s []).getD c (ByteArray.empty, [], ())).2.1.length ≤ 9223372036854775807 := of_ble (List.all_eq_true.1 hg.2 _ hm0)
      have r1 := rm_loop5 i ch nm ho g2 (f32L4 n g2 m) N s c (by omega) _ hbm (hn2 _ hm0) n 0 (Nat.zero_le _) (by have := hn2 _ hm0; omega)
      rw [rm_loop4 g2 N hs hsl (by unfold chG; rw [hg.1, hg.2]; rfl) hn hn2 m (c + 1) h0 (by omega), List.drop_zero, List.take_zero] at r1
      rw [lt_k h0, inb_k h0, Int.toNat_natCast, drop_get h0 (ByteArray.empty, [], ()), List.all_cons]
      have r2 : f32L5 n g2 (f32L4 n g2 m) n N (s : Int) (c : Int) ((ch.getD s []).getD c ({ data := #[] }, [], ())).2.1 0 i ch nm ho = _ := r1
      rw [r2]
      unfold okC
      show (bif true then bif true then bif true then bif true then bif zn ((ch.getD s []).getD c (ByteArray.empty, [], ())).2.1.length == 0 then _ else _ else _ else _ else _ else _) = _
      cases (zn ((ch.getD s []).getD c (ByteArray.empty, [], ())).2.1.length == 0) <;> cases mvF N [] ((ch.getD s []).getD c (ByteArray.empty, [], ())).2.1 <;> rfl
    · rw [nlt_k h0, List.drop_eq_nil_of_le (by omega), wr_k hsl]; rfl
/-! ### labels -/
theorem rm_loop3 (g2 : f32G2) (N : Int) {s : Nat} (hs : s < ho.length) (hl : (ho.getD s []).length ≤ 9223372036854775807) {n : Nat} : ∀ (m k : Nat), k ≤ (ho.getD s []).length → (ho.getD s []).length - k < m → (0 < k → 0 ≤ (ho.getD s []).getD (k - 1) 0) →
    f32L3 n g2 m N (s : Int) (k : Int) i ch nm ho = bif riseF (zn nm.length) (if k = 0 then -1 else (ho.getD s []).getD (k - 1) 0) ((ho.getD s []).drop k) then f32L4 n g2 n N (s : Int) 0 i ch nm ho else some ⟨[pB false], [], []⟩
  | 0, _, _, h, _ => absurd h (Nat.not_lt_zero _)
  | m + 1, k, hk, hm, hp => by
    show f32S3 (f32L4 n g2 n) g2 (f32L3 n g2 m) N (s : Int) (k : Int) i ch nm ho = _
    unfold f32S3
    rw [inb_k hs, Int.toNat_natCast]
    generalize hz : zn nm.length = z
    generalize hll : ho.getD s [] = l at *
    by_cases h0 : k < l.length
    · have e4 : decide ((k : Int) > 0) = decide (0 < k) := by
        rw [decide_eq_decide]; omega
      have e5 : 0 < k → inb (IntKind.i64.wrap ((k : Int) - 1)) l.length = true := fun h => by
        rw [i64_wrap_in (by omega) (by omega)]; simp only [inb, Bool.and_eq_true, decide_eq_true_eq]; omega
      have e6 : 0 < k → (IntKind.i64.wrap ((k : Int) - 1)).toNat = k - 1 := fun h => by
        rw [i64_wrap_in (by omega) (by omega)]; omega
      rw [lt_k h0, inb_k h0, wr_k (by omega), Int.toNat_natCast, e4, drop_get h0 0]
      show _ = bif !(decide (l.getD k 0 ≤ (if k = 0 then -1 else l.getD (k - 1) 0)) || decide (l.getD k 0 ≥ z)) && riseF z (l.getD k 0) (l.drop (k + 1)) then _ else _
      have ih : 0 ≤ l.getD k 0 → f32L3 n g2 m N (s : Int) ((k + 1 : Nat) : Int) i ch nm ho = bif riseF z (l.getD k 0) (l.drop (k + 1)) then f32L4 n g2 n N (s : Int) 0 i ch nm ho else some ⟨[pB false], [], []⟩ := fun h => by
        have := rm_loop3 (n := n) g2 N hs (by rw [hll]; exact hl) m (k + 1) (by rw [hll]; exact h0) (by rw [hll]; omega) (fun _ => by rw [hll]; exact h)
        rw [hll, if_neg (by omega), show k + 1 - 1 = k from rfl, hz] at this
        exact this
      by_cases hk0 : k = 0
      · subst hk0
        rw [if_pos rfl]
        by_cases h1 : l.getD 0 0 < 0
        · rw [decide_eq_true h1, decide_eq_true (show l.getD 0 0 ≤ -1 by omega)]; rfl
        · rw [ih (by omega), decide_eq_false h1, decide_eq_false (show ¬ l.getD 0 0 ≤ -1 by omega), decide_eq_false (Nat.lt_irrefl 0)]
          cases decide (l.getD 0 0 ≥ z) <;> rfl
      · have hk1 : 0 < k := by omega
        rw [if_neg hk0, e5 hk1, e6 hk1, decide_eq_true hk1]
        by_cases h1 : l.getD k 0 < 0
        · have := hp hk1
          rw [decide_eq_true h1, decide_eq_true (show l.getD k 0 ≤ l.getD (k - 1) 0 by omega)]; rfl
        · rw [ih (by omega), decide_eq_false h1]
          cases decide (l.getD k 0 ≥ z) <;> cases decide (l.getD k 0 ≤ l.getD (k - 1) 0) <;> rfl
    · rw [nlt_k h0, List.drop_eq_nil_of_le (by omega)]; rfl
/-! ### states -/
theorem rm_loop2 (hc : ch.length ≤ 9223372036854775807) (hlen : ho.length = ch.length) (hg : ch.all chG = true) (hgo : (ho.all fun l => big l.length) = true) {n : Nat} (hn1 : ∀ l ∈ ch, l.length < n ∧ ∀ c ∈ l, c.2.1.length < n) (hn2 : ∀ l ∈ ho, l.length < n) : ∀ (m s : Nat), s ≤ ch.length → ch.length - s < m →
    f32L2 n m (zn ch.length) (s : Int) i ch nm ho = some ⟨[pB (rowsR (zn ch.length) (zn nm.length) (ch.drop s) (ho.drop s))], [], []⟩
  | 0, _, _, h => absurd h (Nat.not_lt_zero _)
  | m + 1, s, hs, hm => by
    show f32S2 (f32L3 n (f32L2 n m) n) (f32L2 n m) (zn ch.length) (s : Int) i ch nm ho = _
    unfold f32S2
    by_cases h0 : s < ch.length
    · have hm0 := get_mem h0 []
      have hm1 := get_mem (show s < ho.length by omega) []
      have r4 := rm_loop4 i ch nm ho (f32L2 n m) (zn ch.length) h0 (by omega) (List.all_eq_true.1 hg _ hm0) (hn1 _ hm0).1 (hn1 _ hm0).2 n 0 (Nat.zero_le _) (by have := (hn1 _ hm0).1; omega)
      rw [rm_loop2 hc hlen hg hgo hn1 hn2 m (s + 1) h0 (by omega), List.drop_zero] at r4
      have r3 := rm_loop3 i ch nm ho (f32L2 n m) (zn ch.length) (show s < ho.length by omega) (of_ble (List.all_eq_true.1 hgo _ hm1)) (n := n) n 0 (Nat.zero_le _) (by have := hn2 _ hm1; omega) (fun h => absurd h (Nat.lt_irrefl 0))
      rw [if_pos rfl, List.drop_zero] at r3
      have r4' : f32L4 n (f32L2 n m) n (zn ch.length) (s : Int) 0 i ch nm ho = _ := r4
      have r3' : f32L3 n (f32L2 n m) n (zn ch.length) (s : Int) 0 i ch nm ho = _ := r3
      rw [lt_k h0, inb_k h0, Int.toNat_natCast, r3', r4', drop_get h0 []]
      show _ = some (Lf.mk [pB (rowR (zn ch.length) (zn nm.length) (ch.getD s []) ((ho.drop s).getD 0 []) && rowsR (zn ch.length) (zn nm.length) (ch.drop (s + 1)) ((ho.drop s).drop 1))] [] [])
      have e1 : (ho.drop s).getD 0 [] = ho.getD s [] := by
        rw [List.getD_eq_getElem?_getD, List.getD_eq_getElem?_getD, List.getElem?_drop]; rfl
      rw [e1, List.drop_drop]
      unfold rowR
      cases (zn (ch.getD s []).length == 0) <;> cases riseF (zn nm.length) (-1) (ho.getD s []) <;> cases (ch.getD s []).all (okC (zn ch.length)) <;> rfl
    · rw [nlt_k h0, List.drop_eq_nil_of_le (by omega)]; rfl
theorem rm_T (h : mdG ch nm ho = true) : f32M (nm.length + ch.length + maxL (fun l => l.length + maxL (fun (c : ChV) => c.2.1.length) l) ch + maxL List.length ho + 1) i ch nm ho = some ⟨[pB (mdOk i ch nm ho)], [], []⟩ := by
  unfold mdG at h
  simp only [Bool.and_eq_true] at h
  obtain ⟨⟨h1, h2⟩, h3, h4, h5⟩ := h
  have h1 := of_ble h1
  have h3 := of_ble h3
  generalize hn : nm.length + ch.length + maxL (fun l => l.length + maxL (fun (c : ChV) => c.2.1.length) l) ch + maxL List.length ho + 1 = n
  unfold f32M f32T mdOk headM
  by_cases hlen : ho.length = ch.length
  · have e0 : (zn ho.length != zn ch.length) = false := by rw [hlen]; simp
    have r0 := rm_loop0 i ch nm ho (zn ch.length) h3 (n := n) (by omega) n 0 (Nat.zero_le _) (by omega)
    have hn1 : ∀ l ∈ ch, l.length < n ∧ ∀ c ∈ l, c.2.1.length < n := fun l hl => by
      have a1 : l.length + maxL (fun (c : ChV) => c.2.1.length) l ≤ maxL (fun l => l.length + maxL (fun (c : ChV) => c.2.1.length) l) ch := le_maxL (fun l => l.length + maxL (fun (c : ChV) => c.2.1.length) l) hl
      refine ⟨by omega, fun c hc => ?_⟩
      have a2 : c.2.1.length ≤ maxL (fun (c : ChV) => c.2.1.length) l := le_maxL (fun (c : ChV) => c.2.1.length) hc
      omega
    have hn2 : ∀ l ∈ ho, l.length < n := fun l hl => by
      have := le_maxL List.length hl
      omega
    have r2 := rm_loop2 i ch nm ho h1 hlen h2 h5 hn1 hn2 n 0 (Nat.zero_le _) (by omega)
    have r2' : f32L2 n n (zn ch.length) 0 i ch nm ho = _ := r2
    rw [r2', List.take_zero, List.drop_zero, List.drop_zero, List.drop_zero] at r0
    have r0' : f32L0 n n (zn ch.length) 0 i ch nm ho = _ := r0
    rw [e0, r0']
    cases decide (zn ch.length < 1) <;> cases decide (zn ch.length > 4096) <;> cases decide (i < 0) <;> cases decide (i ≥ zn ch.length) <;> cases freshD [] nm <;> rfl
  · have e0 : (zn ho.length != zn ch.length) = true := by simp only [zn, bne_iff_ne, ne_eq]; omega
    rw [e0]
    cases decide (zn ch.length < 1) <;> cases decide (zn ch.length > 4096) <;> cases decide (i < 0) <;> cases decide (i ≥ zn ch.length) <;> rfl
end
theorem rightM_ok : FnOk P C0 32 rightMS := by
  refine fn_okC ctx1 (show P.funcs[32]? = some f32f by kernel_rfl) (of_decide_eq_true (by kernel_rfl)) (rightMS) f32h (fun ds os lf hp => ?_)
  unfold rightMS at hp
  simp only at hp
  split at hp
  · rename_i i ch nm ho
    simp only [Out.pick] at hp
    cases hc0 : mdG ch nm ho with
    | false => rw [hc0] at hp; cases hp
    | true =>
      rw [hc0] at hp
      simp only [cond_true] at hp
      simp only [Option.some.injEq] at hp
      subst hp
      exact ⟨_, (f32_ev _ i ch nm ho).trans (rm_T i ch nm ho hc0)⟩
  · cases hp
end Go.S23
