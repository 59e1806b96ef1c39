/-
  Seat 18: Trim's walk over a row.
-/
import Derived.Test.YtfkmnklnnccopaaDoorS18X
open Go Go.En
namespace Go.S18
theorem rowT_yes {q : Int} {o : List Int} (h : idxO q 0 o < 0) (r l : List Int) : rowT (q :: r) o l = rowT r (o ++ [q]) (l ++ [(o.length : Int)]) := by
  show (bif decide (idxO q 0 o < 0) then _ else _) = _
  rw [decide_eq_true h]; rfl
theorem rowT_no {q : Int} {o : List Int} (h : ¬ idxO q 0 o < 0) (r l : List Int) : rowT (q :: r) o l = rowT r o (l ++ [idxO q 0 o]) := by
  show (bif decide (idxO q 0 o < 0) then _ else _) = _
  rw [decide_eq_false h]; rfl
theorem wr_sub {a : Int} (h0 : 0 ≤ a) (h1 : a ≤ 1000000) : IntKind.i64.wrap (a + 1 - 1) = a := by
  rw [i64_wrap_in (by omega) (by omega)]; omega
theorem trim_L1 {N : Nat} (hN : N ≤ 1000000) {row : List Int} (hrow : ∀ q ∈ row, inF (zn N) q = true) (hlen : row.length ≤ 1000000) (g0 : f22G0) (i p i0 : Int) (nx : List (List Int)) (ps : List PairV) (a b p' z : Int) (out : List (List Int)) (pr : List PairV) (hout : out.length ≤ 1000000) (n : Nat) : ∀ (m k : Nat) (num o cur : List Int), NumOk N num o → k ≤ row.length → row.length - k < m → cur.length ≤ k →
    ∃ num', NumOk N num' (rowT (row.drop k) o cur).1 ∧ f22L1 n g0 m i row (zn row.length) (k : Int) p i0 nx ps a b num o p' z cur out pr = g0 (IntKind.i64.wrap (i + 1)) p i0 nx ps a b num' (rowT (row.drop k) o cur).1 p' z (out ++ [(rowT (row.drop k) o cur).2]) pr
  | 0, _, _, _, _, _, _, h, _ => absurd h (Nat.not_lt_zero _)
  | m + 1, k, num, o, cur, hno, hk, hm, hc => by
    have e : f22L1 n g0 (m + 1) i row (zn row.length) (k : Int) p i0 nx ps a b num o p' z cur out pr = f22S1 g0 (f22L1 n g0 m) i row (zn row.length) (k : Int) p i0 nx ps a b num o p' z cur out pr := rfl
    rw [e]
    unfold f22S1
    by_cases h0 : k < row.length
    · have hq := hrow _ (get_mem h0 0)
      have hi : inb (row.getD k 0) num.length = true := by rw [hno.len]; exact hq
      have hv := hno.val _ hq
      have hle := hno.le
      obtain ⟨a1, a2, a3⟩ := in_natT hq
      rw [lt_k h0, inb_k h0, wr_k (by omega), Int.toNat_natCast, hi, drop_get h0 0]
      simp only [cond_true]
      by_cases h1 : idxO (row.getD k 0) 0 o < 0
      · have hz : idxO (row.getD k 0) 0 o = -1 := by rcases idxO_ge (row.getD k 0) o with h | h <;> omega
        have hp := hno.put hq h1
        have hs : (num.set (row.getD k 0).toNat (zn (o ++ [row.getD k 0]).length)).getD (row.getD k 0).toNat 0 = (o.length : Int) + 1 := by
          rw [hp.val _ hq, idxO_app, decide_eq_true h1, show (row.getD k 0 == row.getD k 0) = true by simp]
          simp only [cond_true, Nat.zero_add]
        have hb : inb (row.getD k 0) (num.set (row.getD k 0).toNat (zn (o ++ [row.getD k 0]).length)).length = true := by rw [hp.len]; exact hq
        rw [rowT_yes h1, hs, hb, wr_sub (by omega) (by omega)]
        rw [show (num.getD (row.getD k 0).toNat 0 == 0) = true by rw [hv, hz]; rfl]
        rw [decide_eq_true (show (o.length + [row.getD k 0].length) * 8 ≤ 140737488355328 by rw [List.length_singleton]; omega), decide_eq_true (show (cur.length + [(o.length : Int)].length) * 8 ≤ 140737488355328 by rw [List.length_singleton]; omega)]
        simp only [cond_true]
        exact trim_L1 hN hrow hlen g0 i p i0 nx ps a b p' z out pr hout n m (k + 1) _ _ _ hp h0 (by omega) (by rw [List.length_append, List.length_singleton]; omega)
      · have hg : 0 ≤ idxO (row.getD k 0) 0 o ∧ idxO (row.getD k 0) 0 o < o.length := by rcases idxO_ge (row.getD k 0) o with h | h <;> omega
        rw [rowT_no h1, hv, wr_sub (by omega) (by omega)]
        rw [show (idxO (row.getD k 0) 0 o + 1 == 0) = false by rw [beq_eq_false_iff_ne]; omega]
        rw [decide_eq_true (show (cur.length + [idxO (row.getD k 0) 0 o].length) * 8 ≤ 140737488355328 by rw [List.length_singleton]; omega)]
        simp only [cond_true, cond_false]
        exact trim_L1 hN hrow hlen g0 i p i0 nx ps a b p' z out pr hout n m (k + 1) _ _ _ hno h0 (by omega) (by rw [List.length_append, List.length_singleton]; omega)
    · rw [nlt_k h0, List.drop_eq_nil_of_le (by omega), decide_eq_true (show (out.length + [cur].length) * 24 ≤ 140737488355328 by rw [List.length_singleton]; omega)]
      exact ⟨num, hno, rfl⟩
end Go.S18
