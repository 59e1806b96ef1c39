/-
  Seat 18: the answer's Trim: its walks over rows and states.
-/
import Derived.Test.YtfkmnklnnccopaaDoorS18ZD
open Go Go.En
namespace Go.S18
theorem fnd_0 (q : Int) (o : List Int) : fnd q o 0 = -1 := by
  unfold fnd
  by_cases h : idxO q 0 o < ((0 : Nat) : Int)
  · rw [if_pos h]
    rcases idxO_ge q o with h2 | h2 <;> omega
  · rw [if_neg h]
theorem get_app {o : List Int} {i : Nat} (h : i < o.length) (q : Int) : (o ++ [q]).getD i 0 = o.getD i 0 := by
  rw [List.getD_eq_getElem?_getD, List.getElem?_append_left h, ← List.getD_eq_getElem?_getD]
theorem rt_L1 {nx : List (List Int)} (hN : nx.length ≤ 1000000) {s : Int} (hs : inF (zn nx.length) s = true) (hlen : (nx.getD s.toNat []).length ≤ 1000000) (hrow : ∀ q ∈ nx.getD s.toNat [], inF (zn nx.length) q = true) (g0 : f25G0) (i : Nat) (p i0 : Int) (ps : List PairV) (a b p' z : Int) (out : List (List Int)) (pr : List PairV) (hout : out.length ≤ 1000000) {n : Nat} (hn : 1000000 < n) : ∀ (m c : Nat) (o cur : List Int), OrdOk nx.length o → i < o.length → o.getD i 0 = s → c ≤ (nx.getD s.toNat []).length → (nx.getD s.toNat []).length - c < m → cur.length ≤ c →
    OrdOk nx.length (rowT ((nx.getD s.toNat []).drop c) o cur).1 ∧ f25L1 n g0 m (i : Int) (c : Int) p i0 nx ps a b o p' z cur out pr = g0 (IntKind.i64.wrap ((i : Int) + 1)) p i0 nx ps a b (rowT ((nx.getD s.toNat []).drop c) o cur).1 p' z (out ++ [(rowT ((nx.getD s.toNat []).drop c) o cur).2]) pr
  | 0, _, _, _, _, _, _, _, h, _ => absurd h (Nat.not_lt_zero _)
  | m + 1, c, o, cur, ho, hi, hg, hk, hm, hc => by
    have e : f25L1 n g0 (m + 1) (i : Int) (c : Int) p i0 nx ps a b o p' z cur out pr = f25S1 (f25L2 n g0 (f25L1 n g0 m) n) g0 (f25L1 n g0 m) (i : Int) (c : Int) p i0 nx ps a b o p' z cur out pr := rfl
    rw [e]
    unfold f25S1
    have hle := ho.le
    have hb : inb s nx.length = true := hs
    rw [inb_k hi, Int.toNat_natCast i, hg, hb]
    simp only [cond_true]
    by_cases h0 : c < (nx.getD s.toNat []).length
    · have hq := hrow _ (get_mem h0 0)
      have h2 := rt_L2 (q := (nx.getD s.toNat []).getD c 0) hN ho hi (by rw [hg]; exact hb) (by rw [hg]; exact h0) (by omega) (by rw [hg]) g0 (f25L1 n g0 m) p i0 ps a b p' z cur (by omega) out pr n n 0 (Nat.zero_le _) (by omega)
      rw [fnd_0] at h2
      rw [lt_k h0, drop_get h0 0]
      simp only [cond_true]
      refine ⟨?_, Eq.trans h2 ?_⟩
      · by_cases h1 : idxO ((nx.getD s.toNat []).getD c 0) 0 o < 0
        · rw [rowT_yes h1]
          exact (rt_L1 hN hs hlen hrow g0 i p i0 ps a b p' z out pr hout hn m (c + 1) _ _ (ho.add hq h1) (by rw [List.length_append]; omega) (by rw [get_app hi]; exact hg) h0 (by omega) (by rw [List.length_append, List.length_singleton]; omega)).1
        · rw [rowT_no h1]
          exact (rt_L1 hN hs hlen hrow g0 i p i0 ps a b p' z out pr hout hn m (c + 1) _ _ ho hi hg h0 (by omega) (by rw [List.length_append, List.length_singleton]; omega)).1
      · by_cases h1 : idxO ((nx.getD s.toNat []).getD c 0) 0 o < 0
        · rw [rowT_yes h1, decide_eq_true h1, cond_true]
          exact (rt_L1 hN hs hlen hrow g0 i p i0 ps a b p' z out pr hout hn m (c + 1) _ _ (ho.add hq h1) (by rw [List.length_append]; omega) (by rw [get_app hi]; exact hg) h0 (by omega) (by rw [List.length_append, List.length_singleton]; omega)).2
        · rw [rowT_no h1, decide_eq_false h1, cond_false]
          exact (rt_L1 hN hs hlen hrow g0 i p i0 ps a b p' z out pr hout hn m (c + 1) _ _ ho hi hg h0 (by omega) (by rw [List.length_append, List.length_singleton]; omega)).2
    · rw [nlt_k h0, List.drop_eq_nil_of_le (by omega), decide_eq_true (show (out.length + [cur].length) * 24 ≤ 140737488355328 by rw [List.length_singleton]; omega)]
      exact ⟨ho, rfl⟩
theorem rt_L0 {nx : List (List Int)} (hN : nx.length ≤ 1000000) (hrow : ∀ s, s < nx.length → (nx.getD s []).length ≤ 1000000 ∧ ∀ q ∈ nx.getD s [], inF (zn nx.length) q = true) (p i0 : Int) (ps : List PairV) (a b p' z : Int) (pr : List PairV) {n : Nat} (hn : 1000000 < n) : ∀ (m f i : Nat) (o : List Int) (out : List (List Int)), OrdOk nx.length o → i ≤ o.length → nx.length - i < m → nx.length - i < f → out.length ≤ i →
    OrdOk nx.length (trimN nx f i o out).1 ∧ f25L0 n m (i : Int) p i0 nx ps a b o p' z out pr = f25L3 n n 0 p i0 nx ps a b (trimN nx f i o out).1 p' z (trimN nx f i o out).2 pr
  | 0, _, _, _, _, _, _, h, _, _ => absurd h (Nat.not_lt_zero _)
  | _ + 1, 0, _, _, _, _, _, _, h, _ => absurd h (Nat.not_lt_zero _)
  | m + 1, f + 1, i, o, out, hno, hi, hm, hf, ho => by
    have e : f25L0 n (m + 1) (i : Int) p i0 nx ps a b o p' z out pr = f25S0 (f25L1 n (f25L0 n m) n) (f25L3 n n) (f25L0 n m) (i : Int) p i0 nx ps a b o p' z out pr := rfl
    rw [e]
    unfold f25S0
    have hle := hno.le
    by_cases h0 : i < o.length
    · have hq := hno.rng _ (get_mem h0 0)
      obtain ⟨a1, a2, a3⟩ := in_natT hq
      obtain ⟨hl, hr⟩ := hrow _ a2
      obtain ⟨h1, h2⟩ := rt_L1 hN hq hl hr (f25L0 n m) i p i0 ps a b p' z out pr (by omega) hn n 0 o [] hno h0 rfl (Nat.zero_le _) (by omega) (Nat.zero_le _)
      rw [List.drop_zero] at h1 h2
      have hge := rowT_le (nx.getD (o.getD i 0).toNat []) o []
      obtain ⟨h3, h4⟩ := rt_L0 hN hrow p i0 ps a b p' z pr hn m f (i + 1) _ (out ++ [(rowT (nx.getD (o.getD i 0).toNat []) o []).2]) h1 (by omega) (by omega) (by omega) (by rw [List.length_append, List.length_singleton]; omega)
      rw [trimN_yes h0]
      refine ⟨h3, ?_⟩
      rw [lt_k h0]
      refine Eq.trans (b := f25L1 n (f25L0 n m) n (i : Int) ((0 : Nat) : Int) p i0 nx ps a b o p' z [] out pr) rfl ?_
      rw [h2, wr_k (by omega)]
      exact h4
    · rw [trimN_no h0, nlt_k h0]
      exact ⟨hno, rfl⟩
end Go.S18
