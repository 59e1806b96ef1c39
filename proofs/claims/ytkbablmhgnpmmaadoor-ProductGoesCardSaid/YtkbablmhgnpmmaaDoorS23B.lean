/-
  Seat 23: the contracts of the functions that call none.
-/
import Derived.Test.YtkbablmhgnpmmaaDoorS23G1
open Go Go.En
namespace Go.S23
theorem ctx1 : CtxOk C1 := fun _ _ h => by cases h
theorem in_yes {n i : Int} (h : 0 ≤ i ∧ i < n) : inF n i = true := by unfold inF; rw [Bool.and_eq_true, decide_eq_true_eq, decide_eq_true_eq]; exact h
theorem in_no {n i : Int} (h : ¬ (0 ≤ i ∧ i < n)) : inF n i = false := by
  cases h2 : inF n i with
  | false => rfl
  | true => unfold inF at h2; rw [Bool.and_eq_true, decide_eq_true_eq, decide_eq_true_eq] at h2; exact absurd h2 h
theorem not_in {n i : Int} : (decide (i < 0) || decide (i ≥ n)) = !inF n i := by
  by_cases h : 0 ≤ i ∧ i < n
  · rw [in_yes h, decide_eq_false (show ¬ i < 0 by omega), decide_eq_false (show ¬ i ≥ n by omega)]; rfl
  · rw [in_no h]
    by_cases h1 : i < 0
    · rw [decide_eq_true h1]; rfl
    · rw [decide_eq_true (show i ≥ n by omega), Bool.or_true]; rfl
def nin (n i : Int) : Bool := !inF n i
def bad27S : En.Spec := ⟨[], fun ds os => match ds, os with
  | [.p (.one (.d (.fz true) (.i .i64) x)), .p (.one (.pv ⟨0, 0⟩ 0))], [.va [.d (.fz true) (.i .i64) n]] => .leaf [pB (nin n x)] [vaI n] []
  | _, _ => .fail⟩
def bad37S : En.Spec := ⟨[], fun ds os => match ds, os with
  | [.p (.one (.d (.fz true) (.i .i64) x)), .p (.one (.pv ⟨0, 0⟩ 0))], [.va [.d (.fz true) (.i .i64) p, .d (.fz true) (.i .i64) i, .d (.fz false) (.l (.l (.i .i64))) nx, .d (.fz false) (.l (.p (.l (.i .i64)) (.p (.l (.i .i64)) .u))) ps]] =>
    .br (decide (0 ≤ p)) (.leaf [pB (nin (shlF .i64 1 p) x)] [vaD p i nx ps] []) .fail
  | _, _ => .fail⟩
theorem t27 (x n : Int) : f43T x n = some ⟨[pB (nin n x)], [vaI n], []⟩ := by
  unfold f43T nin
  rw [← not_in]
  cases decide (x < 0) <;> rfl
theorem t37 (x p i : Int) (nx : List (List Int)) (ps : List (List Int × List Int × Unit)) (h : decide (0 ≤ p) = true) : f26T x p i nx ps = some ⟨[pB (nin (shlF .i64 1 p) x)], [vaD p i nx ps], []⟩ := by
  unfold f26T nin
  rw [← not_in, h]
  cases decide (x < 0) <;> rfl
theorem bad27_ok : FnOk P C0 43 bad27S := by
  refine fn_okC ctx1 (show P.funcs[43]? = some f43f by kernel_rfl) (of_decide_eq_true (by kernel_rfl)) (bad27S) f43h (fun ds os lf hp => ?_)
  unfold bad27S at hp
  simp only at hp
  split at hp
  · rename_i x n
    simp only [Out.pick, Option.some.injEq] at hp
    subst hp
    exact ⟨0, (f43_ev 0 x n).trans (t27 x n)⟩
  · cases hp
theorem bad37_ok : FnOk P C0 26 bad37S := by
  refine fn_okC ctx1 (show P.funcs[26]? = some f26f by kernel_rfl) (of_decide_eq_true (by kernel_rfl)) (bad37S) f26h (fun ds os lf hp => ?_)
  unfold bad37S at hp
  simp only at hp
  split at hp
  · rename_i x p i nx ps
    simp only [Out.pick] at hp
    cases hc0 : decide ((0 : Int) ≤ p) with
    | false => rw [hc0] at hp; cases hp
    | true =>
      rw [hc0] at hp
      simp only [cond_true] at hp
      simp only [Option.some.injEq] at hp
      subst hp
      exact ⟨0, (f26_ev 0 x p i nx ps).trans (t37 x p i nx ps hc0)⟩
  · cases hp
def risesS : En.Spec := ⟨[], fun ds os => match ds, os with
  | [.p (.one (.d (.fz false) (.l (.i .i64)) l)), .p (.one (.d (.fz true) (.i .i64) n))], [] => .br (big l.length) (.leaf [pB (riseF n (-1) l)] [] []) .fail
  | _, _ => .fail⟩
theorem rises_loop {l : List Int} (z : Int) (hl : l.length ≤ 9223372036854775807) : ∀ (m n k : Nat) (a : Int), k ≤ l.length → l.length - k < m → f44L0 n m z a l (zn l.length) (k : Int) = some ⟨[pB (riseF z a (l.drop k))], [], []⟩
  | 0, _, _, _, _, h => absurd h (Nat.not_lt_zero _)
  | m + 1, n, k, a, hk, hm => by
    show f44S0 (f44L0 n m) z a l (zn l.length) (k : Int) = _
    unfold f44S0
    by_cases h0 : k < l.length
    · rw [lt_k h0, inb_k h0, wr_k (by omega), Int.toNat_natCast, rises_loop z hl m n (k + 1) _ h0 (by omega), drop_get h0 0]
      show _ = some (Lf.mk [pB (!(decide (l.getD k 0 ≤ a) || decide (l.getD k 0 ≥ z)) && riseF z (l.getD k 0) (l.drop (k + 1)))] [] [])
      cases (decide (l.getD k 0 ≤ a) || decide (l.getD k 0 ≥ z)) <;> rfl
    · rw [nlt_k h0, List.drop_eq_nil_of_le (by omega)]; rfl
theorem rises_ok : FnOk P C0 44 risesS := by
  refine fn_okC ctx1 (show P.funcs[44]? = some f44f by kernel_rfl) (of_decide_eq_true (by kernel_rfl)) (risesS) f44h (fun ds os lf hp => ?_)
  unfold risesS at hp
  simp only at hp
  split at hp
  · rename_i l n
    simp only [Out.pick] at hp
    cases hc0 : big l.length with
    | false => rw [hc0] at hp; cases hp
    | true =>
      rw [hc0] at hp
      simp only [cond_true] at hp
      simp only [Option.some.injEq] at hp
      subst hp
      exact ⟨l.length + 1, (f44_ev _ l n).trans (rises_loop n (of_ble hc0) _ _ 0 _ (Nat.zero_le _) (Nat.lt_succ_self _))⟩
  · cases hp
def lettersS : En.Spec := ⟨[], fun ds os => match ds, os with
  | [.p (.one (.d (.fz true) (.i .i64) n))], [] => .br (decide (0 ≤ n) && decide (n ≤ 62)) (.leaf [pI ((2 ^ n.toNat : Nat) : Int)] [] []) .fail
  | _, _ => .fail⟩
theorem pow_62 {k : Nat} (h : k ≤ 62) : 2 ^ k ≤ 4611686018427387904 := by
  have h1 : 2 ^ k ≤ 2 ^ 62 := Nat.pow_le_pow_right (by omega) h
  have h2 : (2 : Nat) ^ 62 = 4611686018427387904 := by decide
  omega
theorem letters_loop {N : Nat} (hN : N ≤ 62) : ∀ (m n k : Nat), k ≤ N → N - k < m → f35L0 n m (N : Int) ((2 ^ k : Nat) : Int) (k : Int) = some ⟨[pI ((2 ^ N : Nat) : Int)], [], []⟩
  | 0, _, _, _, h => absurd h (Nat.not_lt_zero _)
  | m + 1, n, k, hk, hm => by
    show f35S0 (f35L0 n m) (N : Int) ((2 ^ k : Nat) : Int) (k : Int) = _
    unfold f35S0
    by_cases h0 : k < N
    · have e1 : decide ((k : Int) < (N : Int)) = true := by rw [decide_eq_true_eq]; omega
      have h1 := pow_62 (k := k + 1) (by omega)
      have e2 : IntKind.i64.wrap (2 * ((2 ^ k : Nat) : Int)) = ((2 ^ (k + 1) : Nat) : Int) := by
        have h2 : 2 ^ (k + 1) = 2 * 2 ^ k := by rw [Nat.pow_succ, Nat.mul_comm]
        rw [h2] at h1 ⊢
        rw [i64_wrap_in (by omega) (by omega)]; omega
      rw [e1, e2, wr_k (by omega)]
      exact letters_loop hN m n (k + 1) h0 (by omega)
    · have e1 : decide ((k : Int) < (N : Int)) = false := by rw [decide_eq_false_iff_not]; omega
      obtain rfl : k = N := by omega
      rw [e1]; rfl
theorem letters_T {z : Int} (h : (decide (0 ≤ z) && decide (z ≤ 62)) = true) : f35M 63 z = some ⟨[pI ((2 ^ z.toNat : Nat) : Int)], [], []⟩ := by
  rw [Bool.and_eq_true, decide_eq_true_eq, decide_eq_true_eq] at h
  obtain ⟨N, rfl⟩ := Int.eq_ofNat_of_zero_le h.1
  have hN : N ≤ 62 := by omega
  exact letters_loop hN 63 63 0 (Nat.zero_le _) (by omega)
theorem letters_ok : FnOk P C0 35 lettersS := by
  refine fn_okC ctx1 (show P.funcs[35]? = some f35f by kernel_rfl) (of_decide_eq_true (by kernel_rfl)) (lettersS) f35h (fun ds os lf hp => ?_)
  unfold lettersS at hp
  simp only at hp
  split at hp
  · rename_i n
    simp only [Out.pick] at hp
    cases hc0 : (decide ((0 : Int) ≤ n) && decide (n ≤ (62 : Int))) with
    | false => rw [hc0] at hp; cases hp
    | true =>
      rw [hc0] at hp
      simp only [cond_true] at hp
      simp only [Option.some.injEq] at hp
      subst hp
      exact ⟨63, (f35_ev 63 n).trans (letters_T hc0)⟩
  · cases hp
def riseS : En.Spec := ⟨[], fun ds os => match ds, os with
  | [.p (.one (.d (.fz false) (.l (.i .i64)) l)), .p (.one (.d (.fz true) (.i .i64) n))], [] => .br (big l.length) (.leaf [pB (riseF n (-1) l)] [] []) .fail
  | _, _ => .fail⟩
/-- what is asked of the k-th, a being the one ahead (-1: none) -/
theorem rise_loop {l : List Int} (z : Int) (hl : l.length ≤ 9223372036854775807) : ∀ (m n k : Nat), k ≤ l.length → l.length - k < m → (0 < k → 0 ≤ l.getD (k - 1) 0) →
    f36L0 n m l z (k : Int) = some ⟨[pB (riseF z (if k = 0 then -1 else l.getD (k - 1) 0) (l.drop k))], [], []⟩
  | 0, _, _, _, h, _ => absurd h (Nat.not_lt_zero _)
  | m + 1, n, k, hk, hm, hp => by
    show f36S0 (f36L0 n m) l z (k : Int) = _
    unfold f36S0
    by_cases h0 : k < l.length
    · have e4 : decide ((k : Int) > 0) = decide (0 < k) := by
        rw [decide_eq_decide]; omega
      have e5 : 0 < k → inb (IntKind.i64.wrap ((k : Int) - 1)) l.length = true := fun h => by
        rw [i64_wrap_in (by omega) (by omega)]; simp only [inb, Bool.and_eq_true, decide_eq_true_eq]; omega
      have e6 : 0 < k → (IntKind.i64.wrap ((k : Int) - 1)).toNat = k - 1 := fun h => by
        rw [i64_wrap_in (by omega) (by omega)]; omega
      rw [lt_k h0, inb_k h0, wr_k (by omega), Int.toNat_natCast, e4, drop_get h0 0]
      show _ = some (Lf.mk [pB (!(decide (l.getD k 0 ≤ (if k = 0 then -1 else l.getD (k - 1) 0)) || decide (l.getD k 0 ≥ z)) && riseF z (l.getD k 0) (l.drop (k + 1)))] [] [])
      have ih : 0 ≤ l.getD k 0 → f36L0 n m l z ((k + 1 : Nat) : Int) = some ⟨[pB (riseF z (l.getD k 0) (l.drop (k + 1)))], [], []⟩ := fun h => by
        have := rise_loop z hl m n (k + 1) h0 (by omega) (fun _ => h)
        rw [if_neg (by omega), show k + 1 - 1 = k from rfl] at this
        exact this
      by_cases hk0 : k = 0
      · subst hk0
        rw [if_pos rfl]
        by_cases h1 : l.getD 0 0 < 0
        · rw [decide_eq_true h1, decide_eq_true (show l.getD 0 0 ≤ -1 by omega)]; rfl
        · rw [ih (by omega), decide_eq_false h1, decide_eq_false (show ¬ l.getD 0 0 ≤ -1 by omega), decide_eq_false (Nat.lt_irrefl 0)]
          cases decide (l.getD 0 0 ≥ z) <;> rfl
      · have hk1 : 0 < k := by omega
        rw [if_neg hk0, e5 hk1, e6 hk1, decide_eq_true hk1]
        by_cases h1 : l.getD k 0 < 0
        · have := hp hk1
          rw [decide_eq_true h1, decide_eq_true (show l.getD k 0 ≤ l.getD (k - 1) 0 by omega)]; rfl
        · rw [ih (by omega), decide_eq_false h1]
          cases decide (l.getD k 0 ≥ z) <;> cases decide (l.getD k 0 ≤ l.getD (k - 1) 0) <;> rfl
    · rw [nlt_k h0, List.drop_eq_nil_of_le (by omega)]; rfl
theorem rise_ok : FnOk P C0 36 riseS := by
  refine fn_okC ctx1 (show P.funcs[36]? = some f36f by kernel_rfl) (of_decide_eq_true (by kernel_rfl)) (riseS) f36h (fun ds os lf hp => ?_)
  unfold riseS at hp
  simp only at hp
  split at hp
  · rename_i l n
    simp only [Out.pick] at hp
    cases hc0 : big l.length with
    | false => rw [hc0] at hp; cases hp
    | true =>
      rw [hc0] at hp
      simp only [cond_true] at hp
      simp only [Option.some.injEq] at hp
      subst hp
      exact ⟨l.length + 1, (f36_ev _ l n).trans (rise_loop n (of_ble hc0) _ _ 0 (Nat.zero_le _) (Nat.lt_succ_self _) (fun h => absurd h (Nat.lt_irrefl 0)))⟩
  · cases hp
theorem has_cons (x y : Int) (l : List Int) : has (y :: l) x = (x == y || has l x) := rfl
def hasS : En.Spec := ⟨[], fun ds os => match ds, os with
  | [.p (.one (.d (.fz false) (.l (.i .i64)) l)), .p (.one (.d (.fz true) (.i .i64) x))], [] => .br (big l.length) (.leaf [pB (has l x)] [] []) .fail
  | _, _ => .fail⟩
theorem has_loop {l : List Int} (x : Int) (hl : l.length ≤ 9223372036854775807) : ∀ (m n k : Nat), k ≤ l.length → l.length - k < m → f22L0 n m l x (k : Int) = some ⟨[pB (has (l.drop k) x)], [], []⟩
  | 0, _, _, _, h => absurd h (Nat.not_lt_zero _)
  | m + 1, n, k, hk, hm => by
    show f22S0 (f22L0 n m) l x (k : Int) = _
    unfold f22S0
    by_cases h0 : k < l.length
    · rw [lt_k h0, inb_k h0, wr_k (by omega), Int.toNat_natCast, has_loop x hl m n (k + 1) h0 (by omega), drop_get h0 0, has_cons, Bool.beq_comm (a := x)]
      cases (l.getD k 0 == x) <;> rfl
    · rw [nlt_k h0, List.drop_eq_nil_of_le (by omega)]; rfl
theorem has_ok : FnOk P C0 22 hasS := by
  refine fn_okC ctx1 (show P.funcs[22]? = some f22f by kernel_rfl) (of_decide_eq_true (by kernel_rfl)) (hasS) f22h (fun ds os lf hp => ?_)
  unfold hasS at hp
  simp only at hp
  split at hp
  · rename_i l x
    simp only [Out.pick] at hp
    cases hc0 : big l.length with
    | false => rw [hc0] at hp; cases hp
    | true =>
      rw [hc0] at hp
      simp only [cond_true] at hp
      simp only [Option.some.injEq] at hp
      subst hp
      exact ⟨l.length + 1, (f22_ev _ l x).trans (has_loop x (of_ble hc0) _ _ 0 (Nat.zero_le _) (Nat.lt_succ_self _))⟩
  · cases hp
def sameI : List Int → List Int → Bool
  | [], [] => true
  | x :: a, y :: b => x == y && sameI a b
  | _, _ => false
theorem sameI_len : ∀ {a b : List Int}, sameI a b = true → a.length = b.length
  | [], [], _ => rfl
  | _ :: _, _ :: _, h => by
    simp only [sameI, Bool.and_eq_true] at h
    simp [sameI_len h.2]
  | [], _ :: _, h => by cases h
  | _ :: _, [], h => by cases h
theorem sameI_refl : ∀ l : List Int, sameI l l = true
  | [] => rfl
  | x :: l => by simp [sameI, sameI_refl l]
def intsS : En.Spec := ⟨[], fun ds os => match ds, os with
  | [.p (.one (.d (.fz false) (.l (.i .i64)) a)), .p (.one (.d (.fz false) (.l (.i .i64)) b))], [] => .br (big a.length) (.leaf [pB (sameI a b)] [] []) .fail
  | _, _ => .fail⟩
theorem ints_loop (a b : List Int) (hl : a.length = b.length) (ha : a.length ≤ 9223372036854775807) : ∀ (m n k : Nat), k ≤ a.length → a.length - k < m → f18L0 n m a b (k : Int) = some ⟨[pB (sameI (a.drop k) (b.drop k))], [], []⟩
  | 0, _, _, _, h => absurd h (Nat.not_lt_zero _)
  | m + 1, n, k, hk, h => by
    show f18S0 (f18L0 n m) a b (k : Int) = _
    unfold f18S0
    by_cases h0 : k < a.length
    · have h1 : k < b.length := by omega
      rw [lt_k h0, inb_k h0, inb_k h1, wr_k (by omega), ints_loop a b hl ha m n (k + 1) h0 (by omega), drop_get h0 0, drop_get h1 0, Int.toNat_natCast]
      show (bif true then bif true then bif true then bif !(a.getD k 0 == b.getD k 0) then _ else _ else _ else _ else _) = some (Lf.mk [pB ((a.getD k 0 == b.getD k 0) && sameI (a.drop (k + 1)) (b.drop (k + 1)))] [] [])
      cases (a.getD k 0 == b.getD k 0) <;> rfl
    · rw [nlt_k h0, List.drop_eq_nil_of_le (by omega), List.drop_eq_nil_of_le (by omega)]; rfl
theorem ints_T (a b : List Int) (ha : a.length ≤ 9223372036854775807) : f18M (a.length + 1) a b = some ⟨[pB (sameI a b)], [], []⟩ := by
  unfold f18M f18T
  by_cases hl : a.length = b.length
  · have e : (zn a.length != zn b.length) = false := by rw [hl]; simp
    rw [e]
    exact ints_loop a b hl ha _ _ 0 (Nat.zero_le _) (by omega)
  · have e : (zn a.length != zn b.length) = true := by simp only [zn, bne_iff_ne]; omega
    have e2 : sameI a b = false := by
      cases hs : sameI a b with
      | false => rfl
      | true => exact absurd (sameI_len hs) hl
    rw [e, e2]; rfl
theorem ints_ok : FnOk P C0 18 intsS := by
  refine fn_okC ctx1 (show P.funcs[18]? = some f18f by kernel_rfl) (of_decide_eq_true (by kernel_rfl)) (intsS) f18h (fun ds os lf hp => ?_)
  unfold intsS at hp
  simp only at hp
  split at hp
  · rename_i a b
    simp only [Out.pick] at hp
    cases hc0 : big a.length with
    | false => rw [hc0] at hp; cases hp
    | true =>
      rw [hc0] at hp
      simp only [cond_true] at hp
      simp only [Option.some.injEq] at hp
      subst hp
      exact ⟨a.length + 1, (f18_ev _ a b).trans (ints_T a b (of_ble hc0))⟩
  · cases hp
def farF (nx : List (List Int)) (ps : List (List Int × List Int × Unit)) : Bool := (decide (zn nx.length > 40) || decide (zn ps.length > 20)) || nx.any fun l => decide (zn l.length > 64)
def farS : En.Spec := ⟨[], fun ds os => match ds, os with
  | [.p (.agg [.d (.fz true) (.i .i64) _p, .d (.fz true) (.i .i64) _i, .d (.fz false) (.l (.l (.i .i64))) nx, .d (.fz false) (.l (.p (.l (.i .i64)) (.p (.l (.i .i64)) .u))) ps])], [] => .leaf [pB (farF nx ps)] [] []
  | _, _ => .fail⟩
theorem far_loop {nx : List (List Int)} (hl : nx.length ≤ 40) (p i : Int) (ps : List (List Int × List Int × Unit)) : ∀ (m n k : Nat), k ≤ nx.length → nx.length - k < m → f10L0 n m (k : Int) p i nx ps = some ⟨[pB ((nx.drop k).any fun l => decide (zn l.length > 64))], [], []⟩
  | 0, _, _, _, h => absurd h (Nat.not_lt_zero _)
  | m + 1, n, k, hk, hm => by
    show f10S0 (f10L0 n m) (k : Int) p i nx ps = _
    unfold f10S0
    by_cases h0 : k < nx.length
    · rw [lt_k h0, inb_k h0, wr_k (by omega), Int.toNat_natCast, far_loop hl p i ps m n (k + 1) h0 (by omega), drop_get h0 [], List.any_cons]
      cases decide (zn (nx.getD k []).length > 64) <;> rfl
    · rw [nlt_k h0, List.drop_eq_nil_of_le (by omega)]; rfl
theorem far_T (p i : Int) (nx : List (List Int)) (ps : List (List Int × List Int × Unit)) : f10M 41 p i nx ps = some ⟨[pB (farF nx ps)], [], []⟩ := by
  unfold f10M f10T farF
  by_cases h : nx.length ≤ 40
  · have e := far_loop h p i ps 41 41 0 (Nat.zero_le _) (by omega)
    rw [decide_eq_false (show ¬ zn nx.length > 40 by simp only [zn]; omega), show (0 : Int) = ((0 : Nat) : Int) from rfl, e]
    cases decide (zn ps.length > 20) <;> rfl
  · rw [decide_eq_true (show zn nx.length > 40 by simp only [zn]; omega)]; rfl
theorem far_ok : FnOk P C0 10 farS := by
  refine fn_okC ctx1 (show P.funcs[10]? = some f10f by kernel_rfl) (of_decide_eq_true (by kernel_rfl)) (farS) f10h (fun ds os lf hp => ?_)
  unfold farS at hp
  simp only at hp
  split at hp
  · rename_i p i nx ps
    simp only [Out.pick, Option.some.injEq] at hp
    subst hp
    exact ⟨41, (f10_ev 41 p i nx ps).trans (far_T p i nx ps)⟩
  · cases hp
theorem mrises_loop {l : List Int} (z : Int) (hl : l.length ≤ 9223372036854775807) : ∀ (m n k : Nat) (a : Int), k ≤ l.length → l.length - k < m → f38L0 n m z a l (zn l.length) (k : Int) = some ⟨[pB (riseF z a (l.drop k))], [], []⟩
  | 0, _, _, _, _, h => absurd h (Nat.not_lt_zero _)
  | m + 1, n, k, a, hk, hm => by
    show f38S0 (f38L0 n m) z a l (zn l.length) (k : Int) = _
    unfold f38S0
    by_cases h0 : k < l.length
    · rw [lt_k h0, inb_k h0, wr_k (by omega), Int.toNat_natCast, mrises_loop z hl m n (k + 1) _ h0 (by omega), drop_get h0 0]
      show _ = some (Lf.mk [pB (!(decide (l.getD k 0 ≤ a) || decide (l.getD k 0 ≥ z)) && riseF z (l.getD k 0) (l.drop (k + 1)))] [] [])
      cases (decide (l.getD k 0 ≤ a) || decide (l.getD k 0 ≥ z)) <;> rfl
    · rw [nlt_k h0, List.drop_eq_nil_of_le (by omega)]; rfl
theorem mrises_ok : FnOk P C0 38 risesS := by
  refine fn_okC ctx1 (show P.funcs[38]? = some f38f by kernel_rfl) (of_decide_eq_true (by kernel_rfl)) (risesS) f38h (fun ds os lf hp => ?_)
  unfold risesS at hp
  simp only at hp
  split at hp
  · rename_i l n
    simp only [Out.pick] at hp
    cases hc0 : big l.length with
    | false => rw [hc0] at hp; cases hp
    | true =>
      rw [hc0] at hp
      simp only [cond_true] at hp
      simp only [Option.some.injEq] at hp
      subst hp
      exact ⟨l.length + 1, (f38_ev _ l n).trans (mrises_loop n (of_ble hc0) _ _ 0 _ (Nat.zero_le _) (Nat.lt_succ_self _))⟩
  · cases hp
/-! ### names that differ -/
def putK (m : List (ByteArray × Bool)) (s : ByteArray) : List (ByteArray × Bool) := mapSet .s .b s true m
def differF (l : List ByteArray) : Bool := zn (l.foldl putK []).length == zn l.length
def differS : En.Spec := ⟨[], fun ds os => match ds, os with
  | [.p (.one (.d (.fz false) (.l .s) l))], [] => .br (big l.length) (.leaf [pB (differF l)] [] []) .fail
  | _, _ => .fail⟩
theorem differ_loop (x : List ByteArray) {l : List ByteArray} (hl : l.length ≤ 9223372036854775807) : ∀ (m n k : Nat) (s : List (ByteArray × Bool)), k ≤ l.length → l.length - k < m →
    f37L0 n m x l (zn l.length) (k : Int) s = some ⟨[pB (zn ((l.drop k).foldl putK s).length == zn x.length)], [], []⟩
  | 0, _, _, _, _, h => absurd h (Nat.not_lt_zero _)
  | m + 1, n, k, s, hk, hm => by
    show f37S0 (f37L0 n m) x l (zn l.length) (k : Int) s = _
    unfold f37S0
    by_cases h0 : k < l.length
    · rw [lt_k h0, inb_k h0, wr_k (by omega), Int.toNat_natCast, differ_loop x hl m n (k + 1) _ h0 (by omega), drop_get h0 ByteArray.empty]; rfl
    · rw [nlt_k h0, List.drop_eq_nil_of_le (by omega)]; rfl
theorem differ_ok : FnOk P C0 37 differS := by
  refine fn_okC ctx1 (show P.funcs[37]? = some f37f by kernel_rfl) (of_decide_eq_true (by kernel_rfl)) (differS) f37h (fun ds os lf hp => ?_)
  unfold differS at hp
  simp only at hp
  split at hp
  · rename_i l
    simp only [Out.pick] at hp
    cases hc0 : big l.length with
    | false => rw [hc0] at hp; cases hp
    | true =>
      rw [hc0] at hp
      simp only [cond_true] at hp
      simp only [Option.some.injEq] at hp
      subst hp
      exact ⟨l.length + 1, (f37_ev _ l).trans (differ_loop l (of_ble hc0) _ _ 0 [] (Nat.zero_le _) (Nat.lt_succ_self _))⟩
  · cases hp
/-! ### right choices -/
abbrev putI (m : List (Int × Bool)) (x : Int) : List (Int × Bool) := mapSet (.i .i64) .b x true m
abbrev getI (m : List (Int × Bool)) (x : Int) : Bool := (mapGet (.i .i64) .b x m).getD false
def badV (z : Int) (v : MvV) (m : List (Int × Bool)) : Bool := decide (v.1 < 0) || (decide (v.1 ≥ z) || (decide (v.2.1 < 1) || getI m v.1))
def rightF (z : Int) : List (Int × Bool) → List MvV → Bool
  | _, [] => true
  | m, v :: l => !(badV z v m) && rightF z (putI m v.1) l
def rightV (z : Int) (c : ChV) : Bool := rightF z [] c.2.1 && decide (zn c.2.1.length > 0)
def right41S : En.Spec := ⟨[], fun ds os => match ds, os with
  | [.p (.agg [.d (.fz true) .s a, .d (.fz false) (.l (.p (.i .i64) (.p (.i .i64) .u))) mv]), .p (.one (.d (.fz true) (.i .i64) z))], [] => .br (big mv.length) (.leaf [pB (rightV z (a, mv, ()))] [] []) .fail
  | _, _ => .fail⟩
theorem optrec (o : Option (Val Sh.b)) : (Option.rec (motive := fun _ => Bool) false (fun val => val) o) = o.getD false := by cases o <;> rfl
theorem right41_loop (z : Int) (a : ByteArray) (x : List MvV) {l : List MvV} (hl : l.length ≤ 9223372036854775807) : ∀ (m n k : Nat) (s : List (Int × Bool)), k ≤ l.length → l.length - k < m →
    f41L0 n m z l (zn l.length) (k : Int) a x s = some ⟨[pB (rightF z s (l.drop k) && decide (zn x.length > 0))], [], []⟩
  | 0, _, _, _, _, h => absurd h (Nat.not_lt_zero _)
  | m + 1, n, k, s, hk, hm => by
    show f41S0 (f41L0 n m) z l (zn l.length) (k : Int) a x s = _
    unfold f41S0
    rw [optrec]
    by_cases h0 : k < l.length
    · rw [lt_k h0, inb_k h0, wr_k (by omega), Int.toNat_natCast, right41_loop z a x hl m n (k + 1) _ h0 (by omega), drop_get h0 (0, 0, ())]
      show (bif true then bif true then bif true && (decide ((l.getD k (0, 0, ())).1 < 0) || (true && (decide ((l.getD k (0, 0, ())).1 ≥ z) || (true && (decide ((l.getD k (0, 0, ())).2.1 < 1) || true))))) then bif badV z (l.getD k (0, 0, ())) s then _ else _ else _ else _ else _) = some (Lf.mk [pB ((!(badV z (l.getD k (0, 0, ())) s) && rightF z (putI s (l.getD k (0, 0, ())).1) (l.drop (k + 1))) && decide (zn x.length > 0))] [] [])
      cases decide ((l.getD k (0, 0, ())).1 < 0) <;> cases decide ((l.getD k (0, 0, ())).1 ≥ z) <;> cases decide ((l.getD k (0, 0, ())).2.1 < 1) <;> cases badV z (l.getD k (0, 0, ())) s <;> rfl
    · rw [nlt_k h0, List.drop_eq_nil_of_le (by omega)]; rfl
theorem right41_ok : FnOk P C0 41 right41S := by
  refine fn_okC ctx1 (show P.funcs[41]? = some f41f by kernel_rfl) (of_decide_eq_true (by kernel_rfl)) (right41S) f41h (fun ds os lf hp => ?_)
  unfold right41S at hp
  simp only at hp
  split at hp
  · rename_i a mv z
    simp only [Out.pick] at hp
    cases hc0 : big mv.length with
    | false => rw [hc0] at hp; cases hp
    | true =>
      rw [hc0] at hp
      simp only [cond_true] at hp
      simp only [Option.some.injEq] at hp
      subst hp
      exact ⟨mv.length + 1, (f41_ev _ a mv z).trans (right41_loop z a mv (of_ble hc0) _ _ 0 [] (Nat.zero_le _) (Nat.lt_succ_self _))⟩
  · cases hp
/-! ### processes that are more than is looked at -/
def farCh (l : List ChV) : Bool := decide (zn l.length > 10) || l.any fun c => decide (zn c.2.1.length > 20)
def farM (ch : List (List ChV)) (nm : List ByteArray) (ho : List (List Int)) : Bool :=
  (decide (zn ch.length > 40) || (decide (zn ho.length > 40) || decide (zn nm.length > 12))) || (ch.any farCh || ho.any fun l => decide (zn l.length > 20))
def farMS : En.Spec := ⟨[], fun ds os => match ds, os with
  | [.p (.agg [.d (.fz true) (.i .i64) _i, .d (.fz false) (.l (.l (.p .s (.p (.l (.p (.i .i64) (.p (.i .i64) .u))) .u)))) ch, .d (.fz false) (.l .s) nm, .d (.fz false) (.l (.l (.i .i64))) ho])], [] => .leaf [pB (farM ch nm ho)] [] []
  | _, _ => .fail⟩
theorem farM_loop2 (i : Int) (ch : List (List ChV)) (nm : List ByteArray) {ho : List (List Int)} (hl : ho.length ≤ 40) : ∀ (m n k : Nat), k ≤ ho.length → ho.length - k < m → f9L2 n m (k : Int) i ch nm ho = some ⟨[pB ((ho.drop k).any fun l => decide (zn l.length > 20))], [], []⟩
  | 0, _, _, _, h => absurd h (Nat.not_lt_zero _)
  | m + 1, n, k, hk, hm => by
    show f9S2 (f9L2 n m) (k : Int) i ch nm ho = _
    unfold f9S2
    by_cases h0 : k < ho.length
    · rw [lt_k h0, inb_k h0, wr_k (by omega), Int.toNat_natCast, farM_loop2 i ch nm hl m n (k + 1) h0 (by omega), drop_get h0 [], List.any_cons]
      cases decide (zn (ho.getD k []).length > 20) <;> rfl
    · rw [nlt_k h0, List.drop_eq_nil_of_le (by omega)]; rfl
theorem farM_loop1 (i : Int) {ch : List (List ChV)} (nm : List ByteArray) (ho : List (List Int)) (g : f9G0) {k : Nat} (h0 : k < ch.length) (hl : (ch.getD k []).length ≤ 10) : ∀ (m n j : Nat), j ≤ (ch.getD k []).length → (ch.getD k []).length - j < m →
    f9L1 n g m (k : Int) (j : Int) i ch nm ho = bif ((ch.getD k []).drop j).any (fun c => decide (zn c.2.1.length > 20)) then some ⟨[pB true], [], []⟩ else g (IntKind.i64.wrap ((k : Int) + 1)) i ch nm ho
  | 0, _, _, _, h => absurd h (Nat.not_lt_zero _)
  | m + 1, n, j, hj, hm => by
    show f9S1 g (f9L1 n g m) (k : Int) (j : Int) i ch nm ho = _
    unfold f9S1
    rw [inb_k h0, Int.toNat_natCast]
    by_cases h1 : j < (ch.getD k []).length
    · rw [lt_k h1, inb_k h1, wr_k (k := j) (by omega), Int.toNat_natCast, farM_loop1 i nm ho g h0 hl m n (j + 1) h1 (by omega), drop_get h1 (ByteArray.empty, [], ()), List.any_cons]
      show (bif true then bif true then bif true then bif true then bif decide (zn ((ch.getD k []).getD j (ByteArray.empty, [], ())).2.1.length > 20) then _ else _ else _ else _ else _ else _) = _
      cases decide (zn ((ch.getD k []).getD j (ByteArray.empty, [], ())).2.1.length > 20) <;> rfl
    · rw [nlt_k h1, List.drop_eq_nil_of_le (by omega)]; rfl
theorem farM_loop0 (i : Int) {ch : List (List ChV)} (nm : List ByteArray) {ho : List (List Int)} (hl : ch.length ≤ 40) (hh : ho.length ≤ 40) : ∀ (m k : Nat), k ≤ ch.length → ch.length - k < m →
    f9L0 41 m (k : Int) i ch nm ho = some ⟨[pB ((ch.drop k).any farCh || ho.any fun l => decide (zn l.length > 20))], [], []⟩
  | 0, _, _, h => absurd h (Nat.not_lt_zero _)
  | m + 1, k, hk, hm => by
    show f9S0 (f9L1 41 (f9L0 41 m) 41) (f9L2 41 41) (f9L0 41 m) (k : Int) i ch nm ho = _
    unfold f9S0
    by_cases h0 : k < ch.length
    · rw [lt_k h0, inb_k h0, Int.toNat_natCast, drop_get h0 [], List.any_cons]
      by_cases h2 : (ch.getD k []).length ≤ 10
      · have r1 := farM_loop1 i nm ho (f9L0 41 m) h0 h2 41 41 0 (Nat.zero_le _) (by omega)
        rw [wr_k (by omega), farM_loop0 i nm hl hh m (k + 1) h0 (by omega), List.drop_zero] at r1
        have e : farCh (ch.getD k []) = (ch.getD k []).any fun c => decide (zn c.2.1.length > 20) := by
          unfold farCh; rw [decide_eq_false (show ¬ zn (ch.getD k []).length > 10 by simp only [zn]; omega)]; rfl
        rw [decide_eq_false (show ¬ zn (ch.getD k []).length > 10 by simp only [zn]; omega), e]
        refine Eq.trans (b := f9L1 41 (f9L0 41 m) 41 (k : Int) ((0 : Nat) : Int) i ch nm ho) rfl (r1.trans ?_)
        cases (ch.getD k []).any fun c => decide (zn c.2.1.length > 20) <;> rfl
      · have e : farCh (ch.getD k []) = true := by
          unfold farCh; rw [decide_eq_true (show zn (ch.getD k []).length > 10 by simp only [zn]; omega)]; rfl
        rw [decide_eq_true (show zn (ch.getD k []).length > 10 by simp only [zn]; omega), e]; rfl
    · rw [nlt_k h0, List.drop_eq_nil_of_le (by omega)]
      exact farM_loop2 i ch nm hh 41 41 0 (Nat.zero_le _) (by omega)
theorem farM_T (i : Int) (ch : List (List ChV)) (nm : List ByteArray) (ho : List (List Int)) : f9M 41 i ch nm ho = some ⟨[pB (farM ch nm ho)], [], []⟩ := by
  unfold f9M f9T farM
  by_cases h : ch.length ≤ 40
  · rw [decide_eq_false (show ¬ zn ch.length > 40 by simp only [zn]; omega)]
    by_cases h' : ho.length ≤ 40
    · rw [decide_eq_false (show ¬ zn ho.length > 40 by simp only [zn]; omega), show (0 : Int) = ((0 : Nat) : Int) from rfl, farM_loop0 i nm h h' 41 0 (Nat.zero_le _) (by omega)]
      cases decide (zn nm.length > 12) <;> rfl
    · rw [decide_eq_true (show zn ho.length > 40 by simp only [zn]; omega)]; rfl
  · rw [decide_eq_true (show zn ch.length > 40 by simp only [zn]; omega)]; rfl
theorem farM_ok : FnOk P C0 9 farMS := by
  refine fn_okC ctx1 (show P.funcs[9]? = some f9f by kernel_rfl) (of_decide_eq_true (by kernel_rfl)) (farMS) f9h (fun ds os lf hp => ?_)
  unfold farMS at hp
  simp only at hp
  split at hp
  · rename_i i ch nm ho
    simp only [Out.pick, Option.some.injEq] at hp
    subst hp
    exact ⟨41, (f9_ev 41 i ch nm ho).trans (farM_T i ch nm ho)⟩
  · cases hp
end Go.S23
