/-
  Seat 18: the contracts of the least functions.
-/
import Derived.Test.YtfkmnklnnccopaaDoorS18G1
open Go Go.En
namespace Go.S18
theorem ctx1 : CtxOk C1 := fun _ _ h => by cases h
theorem in_yes {n i : Int} (h : 0 ≤ i ∧ i < n) : inF n i = true := by unfold inF; rw [Bool.and_eq_true, decide_eq_true_eq, decide_eq_true_eq]; exact h
theorem in_no {n i : Int} (h : ¬ (0 ≤ i ∧ i < n)) : inF n i = false := by
  cases h2 : inF n i with
  | false => rfl
  | true => unfold inF at h2; rw [Bool.and_eq_true, decide_eq_true_eq, decide_eq_true_eq] at h2; exact absurd h2 h
theorem not_in {n i : Int} : (decide (i < 0) || decide (i ≥ n)) = !inF n i := by
  by_cases h : 0 ≤ i ∧ i < n
  · rw [in_yes h, decide_eq_false (show ¬ i < 0 by omega), decide_eq_false (show ¬ i ≥ n by omega)]; rfl
  · rw [in_no h]
    by_cases h1 : i < 0
    · rw [decide_eq_true h1]; rfl
    · rw [decide_eq_true (show i ≥ n by omega), Bool.or_true]; rfl
def nin (n i : Int) : Bool := !inF n i
/-! ### closures -/
def bad27S : En.Spec := ⟨[], fun ds os => match ds, os with
  | [.p (.one (.d (.fz true) (.i .i64) x)), .p (.one (.pv ⟨0, 0⟩ 0))], [.va [.d (.fz true) (.i .i64) n]] => .leaf [pB (nin n x)] [vaI n] []
  | _, _ => .fail⟩
def bad37S : En.Spec := ⟨[], fun ds os => match ds, os with
  | [.p (.one (.d (.fz true) (.i .i64) x)), .p (.one (.pv ⟨0, 0⟩ 0))], [.va [.d (.fz true) (.i .i64) p, .d (.fz true) (.i .i64) i, .d (.fz false) (.l (.l (.i .i64))) nx, .d (.fz false) (.l (.p (.l (.i .i64)) (.p (.l (.i .i64)) .u))) ps]] =>
    .br (decide (0 ≤ p)) (.leaf [pB (nin (shlF .i64 1 p) x)] [vaD p i nx ps] []) .fail
  | _, _ => .fail⟩
theorem t27 (x n : Int) : f27T x n = some ⟨[pB (nin n x)], [vaI n], []⟩ := by
  unfold f27T nin
  rw [← not_in]
  cases decide (x < 0) <;> rfl
theorem t37 (x p i : Int) (nx : List (List Int)) (ps : List (List Int × List Int × Unit)) (h : decide (0 ≤ p) = true) : f37T x p i nx ps = some ⟨[pB (nin (shlF .i64 1 p) x)], [vaD p i nx ps], []⟩ := by
  unfold f37T nin
  rw [← not_in, h]
  cases decide (x < 0) <;> rfl
theorem bad27_ok : FnOk P C0 27 bad27S := by
  refine fn_okC ctx1 (show P.funcs[27]? = some f27f by kernel_rfl) (of_decide_eq_true (by kernel_rfl)) (bad27S) f27h (fun ds os lf hp => ?_)
  unfold bad27S at hp
  simp only at hp
  split at hp
  · rename_i x n
    simp only [Out.pick, Option.some.injEq] at hp
    subst hp
    exact ⟨0, (f27_ev 0 x n).trans (t27 x n)⟩
  · cases hp
theorem bad37_ok : FnOk P C0 37 bad37S := by
  refine fn_okC ctx1 (show P.funcs[37]? = some f37f by kernel_rfl) (of_decide_eq_true (by kernel_rfl)) (bad37S) f37h (fun ds os lf hp => ?_)
  unfold bad37S at hp
  simp only at hp
  split at hp
  · rename_i x p i nx ps
    simp only [Out.pick] at hp
    cases hc0 : decide ((0 : Int) ≤ p) with
    | false => rw [hc0] at hp; cases hp
    | true =>
      rw [hc0] at hp
      simp only [cond_true] at hp
      simp only [Option.some.injEq] at hp
      subst hp
      exact ⟨0, (f37_ev 0 x p i nx ps).trans (t37 x p i nx ps hc0)⟩
  · cases hp
/-! ### numbers that rise -/
def risesS : En.Spec := ⟨[], fun ds os => match ds, os with
  | [.p (.one (.d (.fz false) (.l (.i .i64)) l)), .p (.one (.d (.fz true) (.i .i64) n))], [] => .br (big l.length) (.leaf [pB (riseF n (-1) l)] [] []) .fail
  | _, _ => .fail⟩
theorem rises_loop {l : List Int} (z : Int) (hl : l.length ≤ 9223372036854775807) : ∀ (m n k : Nat) (a : Int), k ≤ l.length → l.length - k < m → f28L0 n m z a l (zn l.length) (k : Int) = some ⟨[pB (riseF z a (l.drop k))], [], []⟩
  | 0, _, _, _, _, h => absurd h (Nat.not_lt_zero _)
  | m + 1, n, k, a, hk, hm => by
    show f28S0 (f28L0 n m) z a l (zn l.length) (k : Int) = _
    unfold f28S0
    by_cases h0 : k < l.length
    · rw [lt_k h0, inb_k h0, wr_k (by omega), Int.toNat_natCast, rises_loop z hl m n (k + 1) _ h0 (by omega), drop_get h0 0]
      show _ = some (Lf.mk [pB (!(decide (l.getD k 0 ≤ a) || decide (l.getD k 0 ≥ z)) && riseF z (l.getD k 0) (l.drop (k + 1)))] [] [])
      cases (decide (l.getD k 0 ≤ a) || decide (l.getD k 0 ≥ z)) <;> rfl
    · rw [nlt_k h0, List.drop_eq_nil_of_le (by omega)]; rfl
theorem rises_ok : FnOk P C0 28 risesS := by
  refine fn_okC ctx1 (show P.funcs[28]? = some f28f by kernel_rfl) (of_decide_eq_true (by kernel_rfl)) (risesS) f28h (fun ds os lf hp => ?_)
  unfold risesS at hp
  simp only at hp
  split at hp
  · rename_i l n
    simp only [Out.pick] at hp
    cases hc0 : big l.length with
    | false => rw [hc0] at hp; cases hp
    | true =>
      rw [hc0] at hp
      simp only [cond_true] at hp
      simp only [Option.some.injEq] at hp
      subst hp
      exact ⟨l.length + 1, (f28_ev _ l n).trans (rises_loop n (of_ble hc0) _ _ 0 _ (Nat.zero_le _) (Nat.lt_succ_self _))⟩
  · cases hp
/-! ### how many letters -/
def lettersS : En.Spec := ⟨[], fun ds os => match ds, os with
  | [.p (.one (.d (.fz true) (.i .i64) n))], [] => .br (decide (0 ≤ n) && decide (n ≤ 62)) (.leaf [pI ((2 ^ n.toNat : Nat) : Int)] [] []) .fail
  | _, _ => .fail⟩
theorem pow_62 {k : Nat} (h : k ≤ 62) : 2 ^ k ≤ 4611686018427387904 := by
  have h1 : 2 ^ k ≤ 2 ^ 62 := Nat.pow_le_pow_right (by omega) h
  have h2 : (2 : Nat) ^ 62 = 4611686018427387904 := by decide
  omega
theorem letters_loop {N : Nat} (hN : N ≤ 62) : ∀ (m n k : Nat), k ≤ N → N - k < m → f29L0 n m (N : Int) ((2 ^ k : Nat) : Int) (k : Int) = some ⟨[pI ((2 ^ N : Nat) : Int)], [], []⟩
  | 0, _, _, _, h => absurd h (Nat.not_lt_zero _)
  | m + 1, n, k, hk, hm => by
    show f29S0 (f29L0 n m) (N : Int) ((2 ^ k : Nat) : Int) (k : Int) = _
    unfold f29S0
    by_cases h0 : k < N
    · have e1 : decide ((k : Int) < (N : Int)) = true := by rw [decide_eq_true_eq]; omega
      have h1 := pow_62 (k := k + 1) (by omega)
      have e2 : IntKind.i64.wrap (2 * ((2 ^ k : Nat) : Int)) = ((2 ^ (k + 1) : Nat) : Int) := by
        have h2 : 2 ^ (k + 1) = 2 * 2 ^ k := by rw [Nat.pow_succ, Nat.mul_comm]
        rw [h2] at h1 ⊢
        rw [i64_wrap_in (by omega) (by omega)]; omega
      rw [e1, e2, wr_k (by omega)]
      exact letters_loop hN m n (k + 1) h0 (by omega)
    · have e1 : decide ((k : Int) < (N : Int)) = false := by rw [decide_eq_false_iff_not]; omega
      obtain rfl : k = N := by omega
      rw [e1]; rfl
theorem letters_T {z : Int} (h : (decide (0 ≤ z) && decide (z ≤ 62)) = true) : f29M 63 z = some ⟨[pI ((2 ^ z.toNat : Nat) : Int)], [], []⟩ := by
  rw [Bool.and_eq_true, decide_eq_true_eq, decide_eq_true_eq] at h
  obtain ⟨N, rfl⟩ := Int.eq_ofNat_of_zero_le h.1
  have hN : N ≤ 62 := by omega
  exact letters_loop hN 63 63 0 (Nat.zero_le _) (by omega)
theorem letters_ok : FnOk P C0 29 lettersS := by
  refine fn_okC ctx1 (show P.funcs[29]? = some f29f by kernel_rfl) (of_decide_eq_true (by kernel_rfl)) (lettersS) f29h (fun ds os lf hp => ?_)
  unfold lettersS at hp
  simp only at hp
  split at hp
  · rename_i n
    simp only [Out.pick] at hp
    cases hc0 : (decide ((0 : Int) ≤ n) && decide (n ≤ (62 : Int))) with
    | false => rw [hc0] at hp; cases hp
    | true =>
      rw [hc0] at hp
      simp only [cond_true] at hp
      simp only [Option.some.injEq] at hp
      subst hp
      exact ⟨63, (f29_ev 63 n).trans (letters_T hc0)⟩
  · cases hp
/-! ### the document's rise -/
/-- from the k-th on -/
def riseR (n : Int) (l : List Int) (k : Nat) : Bool := (List.range (l.length - k)).all fun j => !(decide (l.getD (k + j) 0 < 0) || (decide (l.getD (k + j) 0 ≥ n) || decide (0 < k + j) && decide (l.getD (k + j) 0 ≤ l.getD (k + j - 1) 0)))
def riseS : En.Spec := ⟨[], fun ds os => match ds, os with
  | [.p (.one (.d (.fz false) (.l (.i .i64)) l)), .p (.one (.d (.fz true) (.i .i64) n))], [] => .br (big l.length) (.leaf [pB (riseF n (-1) l)] [] []) .fail
  | _, _ => .fail⟩
/-- what is asked of the k-th, a being the one ahead (-1: none) -/
theorem rise_loop {l : List Int} (z : Int) (hl : l.length ≤ 9223372036854775807) : ∀ (m n k : Nat), k ≤ l.length → l.length - k < m → (0 < k → 0 ≤ l.getD (k - 1) 0) →
    f30L0 n m l z (k : Int) = some ⟨[pB (riseF z (if k = 0 then -1 else l.getD (k - 1) 0) (l.drop k))], [], []⟩
  | 0, _, _, _, h, _ => absurd h (Nat.not_lt_zero _)
  | m + 1, n, k, hk, hm, hp => by
    show f30S0 (f30L0 n m) l z (k : Int) = _
    unfold f30S0
    by_cases h0 : k < l.length
    · have e4 : decide ((k : Int) > 0) = decide (0 < k) := by
        rw [decide_eq_decide]; omega
      have e5 : 0 < k → inb (IntKind.i64.wrap ((k : Int) - 1)) l.length = true := fun h => by
        rw [i64_wrap_in (by omega) (by omega)]; simp only [inb, Bool.and_eq_true, decide_eq_true_eq]; omega
      have e6 : 0 < k → (IntKind.i64.wrap ((k : Int) - 1)).toNat = k - 1 := fun h => by
        rw [i64_wrap_in (by omega) (by omega)]; omega
      rw [lt_k h0, inb_k h0, wr_k (by omega), Int.toNat_natCast, e4, drop_get h0 0]
      show _ = some (Lf.mk [pB (!(decide (l.getD k 0 ≤ (if k = 0 then -1 else l.getD (k - 1) 0)) || decide (l.getD k 0 ≥ z)) && riseF z (l.getD k 0) (l.drop (k + 1)))] [] [])
      have ih : 0 ≤ l.getD k 0 → f30L0 n m l z ((k + 1 : Nat) : Int) = some ⟨[pB (riseF z (l.getD k 0) (l.drop (k + 1)))], [], []⟩ := fun h => by
        have := rise_loop z hl m n (k + 1) h0 (by omega) (fun _ => h)
        rw [if_neg (by omega), show k + 1 - 1 = k from rfl] at this
        exact this
      by_cases hk0 : k = 0
      · subst hk0
        rw [if_pos rfl]
        by_cases h1 : l.getD 0 0 < 0
        · rw [decide_eq_true h1, decide_eq_true (show l.getD 0 0 ≤ -1 by omega)]; rfl
        · rw [ih (by omega), decide_eq_false h1, decide_eq_false (show ¬ l.getD 0 0 ≤ -1 by omega), decide_eq_false (Nat.lt_irrefl 0)]
          cases decide (l.getD 0 0 ≥ z) <;> rfl
      · have hk1 : 0 < k := by omega
        rw [if_neg hk0, e5 hk1, e6 hk1, decide_eq_true hk1]
        by_cases h1 : l.getD k 0 < 0
        · have := hp hk1
          rw [decide_eq_true h1, decide_eq_true (show l.getD k 0 ≤ l.getD (k - 1) 0 by omega)]; rfl
        · rw [ih (by omega), decide_eq_false h1]
          cases decide (l.getD k 0 ≥ z) <;> cases decide (l.getD k 0 ≤ l.getD (k - 1) 0) <;> rfl
    · rw [nlt_k h0, List.drop_eq_nil_of_le (by omega)]; rfl
theorem rise_ok : FnOk P C0 30 riseS := by
  refine fn_okC ctx1 (show P.funcs[30]? = some f30f by kernel_rfl) (of_decide_eq_true (by kernel_rfl)) (riseS) f30h (fun ds os lf hp => ?_)
  unfold riseS at hp
  simp only at hp
  split at hp
  · rename_i l n
    simp only [Out.pick] at hp
    cases hc0 : big l.length with
    | false => rw [hc0] at hp; cases hp
    | true =>
      rw [hc0] at hp
      simp only [cond_true] at hp
      simp only [Option.some.injEq] at hp
      subst hp
      exact ⟨l.length + 1, (f30_ev _ l n).trans (rise_loop n (of_ble hc0) _ _ 0 (Nat.zero_le _) (Nat.lt_succ_self _) (fun h => absurd h (Nat.lt_irrefl 0)))⟩
  · cases hp
/-! ### has, Index, Ints -/
theorem has_cons (x y : Int) (l : List Int) : has (y :: l) x = (x == y || has l x) := rfl
def hasS : En.Spec := ⟨[], fun ds os => match ds, os with
  | [.p (.one (.d (.fz false) (.l (.i .i64)) l)), .p (.one (.d (.fz true) (.i .i64) x))], [] => .br (big l.length) (.leaf [pB (has l x)] [] []) .fail
  | _, _ => .fail⟩
theorem has_loop {l : List Int} (x : Int) (hl : l.length ≤ 9223372036854775807) : ∀ (m n k : Nat), k ≤ l.length → l.length - k < m → f35L0 n m l x (k : Int) = some ⟨[pB (has (l.drop k) x)], [], []⟩
  | 0, _, _, _, h => absurd h (Nat.not_lt_zero _)
  | m + 1, n, k, hk, hm => by
    show f35S0 (f35L0 n m) l x (k : Int) = _
    unfold f35S0
    by_cases h0 : k < l.length
    · rw [lt_k h0, inb_k h0, wr_k (by omega), Int.toNat_natCast, has_loop x hl m n (k + 1) h0 (by omega), drop_get h0 0, has_cons, Bool.beq_comm (a := x)]
      cases (l.getD k 0 == x) <;> rfl
    · rw [nlt_k h0, List.drop_eq_nil_of_le (by omega)]; rfl
theorem has_ok : FnOk P C0 35 hasS := by
  refine fn_okC ctx1 (show P.funcs[35]? = some f35f by kernel_rfl) (of_decide_eq_true (by kernel_rfl)) (hasS) f35h (fun ds os lf hp => ?_)
  unfold hasS at hp
  simp only at hp
  split at hp
  · rename_i l x
    simp only [Out.pick] at hp
    cases hc0 : big l.length with
    | false => rw [hc0] at hp; cases hp
    | true =>
      rw [hc0] at hp
      simp only [cond_true] at hp
      simp only [Option.some.injEq] at hp
      subst hp
      exact ⟨l.length + 1, (f35_ev _ l x).trans (has_loop x (of_ble hc0) _ _ 0 (Nat.zero_le _) (Nat.lt_succ_self _))⟩
  · cases hp
def indexS : En.Spec := ⟨[], fun ds os => match ds, os with
  | [.p (.one (.d (.fz false) (.l (.i .i64)) l)), .p (.one (.d (.fz true) (.i .i64) x))], [] => .br (big l.length) (.leaf [pI (idxG (fun y => x == y) 0 l)] [] []) .fail
  | _, _ => .fail⟩
theorem index_loop {l : List Int} (x : Int) (hl : l.length ≤ 9223372036854775807) : ∀ (m n k : Nat), k ≤ l.length → l.length - k < m → f52L0 n m l x (zn l.length) (k : Int) = some ⟨[pI (idxG (fun y => x == y) k (l.drop k))], [], []⟩
  | 0, _, _, _, h => absurd h (Nat.not_lt_zero _)
  | m + 1, n, k, hk, hm => by
    show f52S0 (f52L0 n m) l x (zn l.length) (k : Int) = _
    unfold f52S0
    by_cases h0 : k < l.length
    · rw [lt_k h0, inb_k h0, wr_k (by omega), Int.toNat_natCast, index_loop x hl m n (k + 1) h0 (by omega), drop_get h0 0]
      show _ = some (Lf.mk [pI (bif x == l.getD k 0 then (k : Int) else idxG (fun y => x == y) (k + 1) (l.drop (k + 1)))] [] [])
      cases (x == l.getD k 0) <;> rfl
    · rw [nlt_k h0, List.drop_eq_nil_of_le (by omega)]; rfl
theorem index_ok : FnOk P C0 52 indexS := by
  refine fn_okC ctx1 (show P.funcs[52]? = some f52f by kernel_rfl) (of_decide_eq_true (by kernel_rfl)) (indexS) f52h (fun ds os lf hp => ?_)
  unfold indexS at hp
  simp only at hp
  split at hp
  · rename_i l x
    simp only [Out.pick] at hp
    cases hc0 : big l.length with
    | false => rw [hc0] at hp; cases hp
    | true =>
      rw [hc0] at hp
      simp only [cond_true] at hp
      simp only [Option.some.injEq] at hp
      subst hp
      exact ⟨l.length + 1, (f52_ev _ l x).trans (index_loop x (of_ble hc0) _ _ 0 (Nat.zero_le _) (Nat.lt_succ_self _))⟩
  · cases hp
def sameI : List Int → List Int → Bool
  | [], [] => true
  | x :: a, y :: b => x == y && sameI a b
  | _, _ => false
theorem sameI_len : ∀ {a b : List Int}, sameI a b = true → a.length = b.length
  | [], [], _ => rfl
  | _ :: _, _ :: _, h => by
    simp only [sameI, Bool.and_eq_true] at h
    simp [sameI_len h.2]
  | [], _ :: _, h => by cases h
  | _ :: _, [], h => by cases h
theorem sameI_refl : ∀ l : List Int, sameI l l = true
  | [] => rfl
  | x :: l => by simp [sameI, sameI_refl l]
def intsS : En.Spec := ⟨[], fun ds os => match ds, os with
  | [.p (.one (.d (.fz false) (.l (.i .i64)) a)), .p (.one (.d (.fz false) (.l (.i .i64)) b))], [] => .br (big a.length) (.leaf [pB (sameI a b)] [] []) .fail
  | _, _ => .fail⟩
theorem ints_loop (a b : List Int) (hl : a.length = b.length) (ha : a.length ≤ 9223372036854775807) : ∀ (m n k : Nat), k ≤ a.length → a.length - k < m → f20L0 n m a b (k : Int) = some ⟨[pB (sameI (a.drop k) (b.drop k))], [], []⟩
  | 0, _, _, _, h => absurd h (Nat.not_lt_zero _)
  | m + 1, n, k, hk, h => by
    show f20S0 (f20L0 n m) a b (k : Int) = _
    unfold f20S0
    by_cases h0 : k < a.length
    · have h1 : k < b.length := by omega
      rw [lt_k h0, inb_k h0, inb_k h1, wr_k (by omega), ints_loop a b hl ha m n (k + 1) h0 (by omega), drop_get h0 0, drop_get h1 0, Int.toNat_natCast]
      show (bif true then bif true then bif true then bif !(a.getD k 0 == b.getD k 0) then _ else _ else _ else _ else _) = some (Lf.mk [pB ((a.getD k 0 == b.getD k 0) && sameI (a.drop (k + 1)) (b.drop (k + 1)))] [] [])
      cases (a.getD k 0 == b.getD k 0) <;> rfl
    · rw [nlt_k h0, List.drop_eq_nil_of_le (by omega), List.drop_eq_nil_of_le (by omega)]; rfl
theorem ints_T (a b : List Int) (ha : a.length ≤ 9223372036854775807) : f20M (a.length + 1) a b = some ⟨[pB (sameI a b)], [], []⟩ := by
  unfold f20M f20T
  by_cases hl : a.length = b.length
  · have e : (zn a.length != zn b.length) = false := by rw [hl]; simp
    rw [e]
    exact ints_loop a b hl ha _ _ 0 (Nat.zero_le _) (by omega)
  · have e : (zn a.length != zn b.length) = true := by simp only [zn, bne_iff_ne]; omega
    have e2 : sameI a b = false := by
      cases hs : sameI a b with
      | false => rfl
      | true => exact absurd (sameI_len hs) hl
    rw [e, e2]; rfl
theorem ints_ok : FnOk P C0 20 intsS := by
  refine fn_okC ctx1 (show P.funcs[20]? = some f20f by kernel_rfl) (of_decide_eq_true (by kernel_rfl)) (intsS) f20h (fun ds os lf hp => ?_)
  unfold intsS at hp
  simp only at hp
  split at hp
  · rename_i a b
    simp only [Out.pick] at hp
    cases hc0 : big a.length with
    | false => rw [hc0] at hp; cases hp
    | true =>
      rw [hc0] at hp
      simp only [cond_true] at hp
      simp only [Option.some.injEq] at hp
      subst hp
      exact ⟨a.length + 1, (f20_ev _ a b).trans (ints_T a b (of_ble hc0))⟩
  · cases hp
/-! ### letters of a word, Far -/
def letF (s l : List Int) (i : Nat) : Int := bif Nat.blt i s.length then s.getD i 0 else l.getD ((i - s.length) % l.length) 0
def letterS : En.Spec := ⟨[], fun ds os => match ds, os with
  | [.p (.agg [.d (.fz false) (.l (.i .i64)) s, .d (.fz false) (.l (.i .i64)) l]), .p (.one (.d (.fz true) (.i .i64) i))], [] =>
    .br (big s.length && (Nat.blt 0 l.length && (big l.length && (decide (0 ≤ i) && decide (i ≤ 9223372036854775806))))) (.leaf [pI (letF s l i.toNat)] [] []) .fail
  | _, _ => .fail⟩
theorem letter_T {s l : List Int} {i : Int} (h : (big s.length && (Nat.blt 0 l.length && (big l.length && (decide (0 ≤ i) && decide (i ≤ 9223372036854775806))))) = true) : f38T s l i = some ⟨[pI (letF s l i.toNat)], [], []⟩ := by
  simp only [Bool.and_eq_true, decide_eq_true_eq] at h
  obtain ⟨h1, h2, h3, h4, h5⟩ := h
  have h1 := of_ble h1
  have h3 := of_ble h3
  have h2 : 0 < l.length := of_ble h2
  obtain ⟨k, rfl⟩ := Int.eq_ofNat_of_zero_le h4
  unfold f38T letF
  rw [Int.toNat_natCast]
  by_cases h0 : k < s.length
  · have e : Nat.blt k s.length = true := ble_of h0
    rw [lt_k h0, inb_k h0, e]; rfl
  · have e : Nat.blt k s.length = false := by
      cases hb : Nat.blt k s.length with
      | false => rfl
      | true => exact absurd (of_ble hb) h0
    have e1 : IntKind.i64.wrap ((k : Int) - zn s.length) = ((k - s.length : Nat) : Int) := by
      unfold zn; rw [i64_wrap_in (by omega) (by omega)]; omega
    have e2 : (((k - s.length : Nat) : Int)).tmod (zn l.length) = (((k - s.length) % l.length : Nat) : Int) := by
      unfold zn; rw [Int.tmod_eq_emod_of_nonneg (by omega)]; omega
    have e3 : decide (zn l.length ≠ 0) = true := by simp only [zn, decide_eq_true_eq]; omega
    rw [nlt_k h0, e1, e2, e3, inb_k (Nat.mod_lt _ h2), Int.toNat_natCast, e]; rfl
theorem letter_ok : FnOk P C0 38 letterS := by
  refine fn_okC ctx1 (show P.funcs[38]? = some f38f by kernel_rfl) (of_decide_eq_true (by kernel_rfl)) (letterS) f38h (fun ds os lf hp => ?_)
  unfold letterS at hp
  simp only at hp
  split at hp
  · rename_i s l i
    simp only [Out.pick] at hp
    cases hc0 : (big s.length && (Nat.blt 0 l.length && (big l.length && (decide ((0 : Int) ≤ i) && decide (i ≤ (9223372036854775806 : Int)))))) with
    | false => rw [hc0] at hp; cases hp
    | true =>
      rw [hc0] at hp
      simp only [cond_true] at hp
      simp only [Option.some.injEq] at hp
      subst hp
      exact ⟨0, (f38_ev 0 s l i).trans (letter_T hc0)⟩
  · cases hp
def farF (nx : List (List Int)) (ps : List (List Int × List Int × Unit)) : Bool := (decide (zn nx.length > 40) || decide (zn ps.length > 20)) || nx.any fun l => decide (zn l.length > 64)
def farS : En.Spec := ⟨[], fun ds os => match ds, os with
  | [.p (.agg [.d (.fz true) (.i .i64) _p, .d (.fz true) (.i .i64) _i, .d (.fz false) (.l (.l (.i .i64))) nx, .d (.fz false) (.l (.p (.l (.i .i64)) (.p (.l (.i .i64)) .u))) ps])], [] => .leaf [pB (farF nx ps)] [] []
  | _, _ => .fail⟩
theorem far_loop {nx : List (List Int)} (hl : nx.length ≤ 40) (p i : Int) (ps : List (List Int × List Int × Unit)) : ∀ (m n k : Nat), k ≤ nx.length → nx.length - k < m → f9L0 n m (k : Int) p i nx ps = some ⟨[pB ((nx.drop k).any fun l => decide (zn l.length > 64))], [], []⟩
  | 0, _, _, _, h => absurd h (Nat.not_lt_zero _)
  | m + 1, n, k, hk, hm => by
    show f9S0 (f9L0 n m) (k : Int) p i nx ps = _
    unfold f9S0
    by_cases h0 : k < nx.length
    · rw [lt_k h0, inb_k h0, wr_k (by omega), Int.toNat_natCast, far_loop hl p i ps m n (k + 1) h0 (by omega), drop_get h0 [], List.any_cons]
      cases decide (zn (nx.getD k []).length > 64) <;> rfl
    · rw [nlt_k h0, List.drop_eq_nil_of_le (by omega)]; rfl
theorem far_T (p i : Int) (nx : List (List Int)) (ps : List (List Int × List Int × Unit)) : f9M 41 p i nx ps = some ⟨[pB (farF nx ps)], [], []⟩ := by
  unfold f9M f9T farF
  by_cases h : nx.length ≤ 40
  · have e := far_loop h p i ps 41 41 0 (Nat.zero_le _) (by omega)
    rw [decide_eq_false (show ¬ zn nx.length > 40 by simp only [zn]; omega), show (0 : Int) = ((0 : Nat) : Int) from rfl, e]
    cases decide (zn ps.length > 20) <;> rfl
  · rw [decide_eq_true (show zn nx.length > 40 by simp only [zn]; omega)]; rfl
theorem far_ok : FnOk P C0 9 farS := by
  refine fn_okC ctx1 (show P.funcs[9]? = some f9f by kernel_rfl) (of_decide_eq_true (by kernel_rfl)) (farS) f9h (fun ds os lf hp => ?_)
  unfold farS at hp
  simp only at hp
  split at hp
  · rename_i p i nx ps
    simp only [Out.pick, Option.some.injEq] at hp
    subst hp
    exact ⟨41, (f9_ev 41 p i nx ps).trans (far_T p i nx ps)⟩
  · cases hp
end Go.S18
