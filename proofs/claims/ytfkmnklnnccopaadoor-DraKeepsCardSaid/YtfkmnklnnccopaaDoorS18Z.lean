/-
  Seat 18: Trim's walks over states and over pairs.
-/
import Derived.Test.YtfkmnklnnccopaaDoorS18Y
open Go Go.En
namespace Go.S18
theorem trimN_yes {nx : List (List Int)} {f i : Nat} {o : List Int} (h : i < o.length) (out : List (List Int)) : trimN nx (f + 1) i o out = trimN nx f (i + 1) (rowT (nx.getD (o.getD i 0).toNat []) o []).1 (out ++ [(rowT (nx.getD (o.getD i 0).toNat []) o []).2]) := by
  show (bif Nat.blt i o.length then _ else _) = _
  rw [show Nat.blt i o.length = true from Nat.ble_eq_true_of_le h]; rfl
theorem trimN_no {nx : List (List Int)} {f i : Nat} {o : List Int} (h : ¬ i < o.length) (out : List (List Int)) : trimN nx (f + 1) i o out = (o, out) := by
  show (bif Nat.blt i o.length then _ else _) = _
  rw [show Nat.blt i o.length = false from Bool.eq_false_iff.2 fun e => h (Nat.le_of_ble_eq_true e)]; rfl
theorem rowT_le : ∀ (r o l : List Int), o.length ≤ (rowT r o l).1.length
  | [], o, l => Nat.le_refl _
  | q :: r, o, l => by
    by_cases h : idxO q 0 o < 0
    · rw [rowT_yes h]; have := rowT_le r (o ++ [q]) (l ++ [(o.length : Int)]); rw [List.length_append, List.length_singleton] at this; omega
    · rw [rowT_no h]; exact rowT_le r o _
theorem trim_L0 {nx : List (List Int)} (hN : nx.length ≤ 1000000) (hrow : ∀ s, s < nx.length → (nx.getD s []).length ≤ 1000000 ∧ ∀ q ∈ nx.getD s [], inF (zn nx.length) q = true) (p i0 : Int) (ps : List PairV) (a b p' z : Int) (pr : List PairV) {n : Nat} (hn : 1000000 < n) : ∀ (m f i : Nat) (num o : List Int) (out : List (List Int)), NumOk nx.length num o → i ≤ o.length → nx.length - i < m → nx.length - i < f → out.length ≤ i →
    ∃ num', NumOk nx.length num' (trimN nx f i o out).1 ∧ f22L0 n m (i : Int) p i0 nx ps a b num o p' z out pr = f22L2 n n ps (zn ps.length) 0 a b num' p' z (trimN nx f i o out).2 pr
  | 0, _, _, _, _, _, _, _, h, _, _ => absurd h (Nat.not_lt_zero _)
  | _ + 1, 0, _, _, _, _, _, _, _, h, _ => absurd h (Nat.not_lt_zero _)
  | m + 1, f + 1, i, num, o, out, hno, hi, hm, hf, ho => by
    have e : f22L0 n (m + 1) (i : Int) p i0 nx ps a b num o p' z out pr = f22S0 (f22L1 n (f22L0 n m) n) (f22L2 n n) (f22L0 n m) (i : Int) p i0 nx ps a b num o p' z out pr := rfl
    rw [e]
    unfold f22S0
    have hle := hno.le
    by_cases h0 : i < o.length
    · have hq := hno.rng _ (get_mem h0 0)
      have hb : inb (o.getD i 0) nx.length = true := hq
      obtain ⟨a1, a2, a3⟩ := in_natT hq
      obtain ⟨hl, hr⟩ := hrow _ a2
      obtain ⟨num1, h1, h2⟩ := trim_L1 hN hr hl (f22L0 n m) (i : Int) p i0 nx ps a b p' z out pr (by omega) n n 0 num o [] hno (Nat.zero_le _) (by omega) (Nat.zero_le _)
      rw [List.drop_zero] at h1 h2
      have hge := rowT_le (nx.getD (o.getD i 0).toNat []) o []
      obtain ⟨num2, h3, h4⟩ := trim_L0 hN hrow p i0 ps a b p' z pr hn m f (i + 1) num1 _ (out ++ [(rowT (nx.getD (o.getD i 0).toNat []) o []).2]) h1 (by omega) (by omega) (by omega) (by rw [List.length_append, List.length_singleton]; omega)
      rw [trimN_yes h0]
      refine ⟨num2, h3, ?_⟩
      rw [lt_k h0, inb_k h0, Int.toNat_natCast, hb]
      refine Eq.trans (b := f22L1 n (f22L0 n m) n (i : Int) (nx.getD (o.getD i 0).toNat []) (zn (nx.getD (o.getD i 0).toNat []).length) ((0 : Nat) : Int) p i0 nx ps a b num o p' z [] out pr) rfl ?_
      rw [h2, wr_k (by omega)]
      exact h4
    · rw [trimN_no h0, nlt_k h0]
      exact ⟨num, hno, rfl⟩
theorem partT_O {N : Nat} {num o : List Int} (hN : N ≤ 1000000) (h : NumOk N num o) : ∀ (l : List Int), (∀ q ∈ l, inF (zn N) q = true) → partT num l = partO o l
  | [], _ => rfl
  | q :: l, hl => by
    have hq := hl q (List.mem_cons_self ..)
    have hv := h.val q hq
    have hle := h.le
    have ih := partT_O hN h l (fun x hx => hl x (List.mem_cons_of_mem _ hx))
    show (bif decide (num.getD q.toNat 0 > 0) then IntKind.i64.wrap (num.getD q.toNat 0 - 1) :: partT num l else partT num l) = (bif decide (idxO q 0 o < 0) then partO o l else idxO q 0 o :: partO o l)
    rw [ih, hv]
    by_cases h1 : idxO q 0 o < 0
    · rw [decide_eq_true h1, decide_eq_false (show ¬ idxO q 0 o + 1 > 0 by omega)]; rfl
    · have hg : 0 ≤ idxO q 0 o ∧ idxO q 0 o < o.length := by rcases idxO_ge q o with h | h <;> omega
      rw [decide_eq_false h1, decide_eq_true (show idxO q 0 o + 1 > 0 by omega), wr_sub (by omega) (by omega)]; rfl
def keepP (o : List Int) (ps : List PairV) : List PairV := (ps.map (pairO o)).filter some1
theorem trim_L2 {N : Nat} {num o : List Int} (hN : N ≤ 1000000) (h : NumOk N num o) {ps : List PairV} (hps : ps.length ≤ 1000000) (hp : ∀ q ∈ ps, (q.1.length ≤ 1000000 ∧ ∀ x ∈ q.1, inF (zn N) x = true) ∧ (q.2.1.length ≤ 1000000 ∧ ∀ x ∈ q.2.1, inF (zn N) x = true)) (a b p' z : Int) (nx' : List (List Int)) (n : Nat) : ∀ (m k : Nat) (pr : List PairV), k ≤ ps.length → ps.length - k < m → pr.length ≤ k →
    f22L2 n m ps (zn ps.length) (k : Int) a b num p' z nx' pr = some ⟨[.agg [.d (.fz true) (.i .i64) p', .d (.fz true) (.i .i64) z, .rw ⟨1, 0⟩, .rw ⟨1, 1⟩], pE .nil], [], [roN nx', roP (pr ++ keepP o (ps.drop k))]⟩
  | 0, _, _, _, h, _ => absurd h (Nat.not_lt_zero _)
  | m + 1, k, pr, hk, hm, hr => by
    have e : f22L2 n (m + 1) ps (zn ps.length) (k : Int) a b num p' z nx' pr = f22S2 (f22L2 n m) ps (zn ps.length) (k : Int) a b num p' z nx' pr := rfl
    rw [e]
    unfold f22S2
    by_cases h0 : k < ps.length
    · obtain ⟨⟨a1, a2⟩, ⟨b1, b2⟩⟩ := hp _ (get_mem h0 ([], [], ()))
      have g1 : partG num (ps.getD k ([], [], ())).1 = true := by
        unfold partG; rw [h.len, ble_of a1, ble_of hN]; exact List.all_eq_true.2 a2
      have g2 : partG num (ps.getD k ([], [], ())).2.1 = true := by
        unfold partG; rw [h.len, ble_of b1, ble_of hN]; exact List.all_eq_true.2 b2
      rw [lt_k h0, inb_k h0, wr_k (by omega), Int.toNat_natCast, drop_get h0 ([], [], ()), g1, g2, partT_O hN h _ a2, partT_O hN h _ b2]
      simp only [cond_true]
      have hk2 : keepP o (ps.getD k ([], [], ()) :: ps.drop (k + 1)) = bif some1 (pairO o (ps.getD k ([], [], ()))) then pairO o (ps.getD k ([], [], ())) :: keepP o (ps.drop (k + 1)) else keepP o (ps.drop (k + 1)) := by
        unfold keepP
        rw [List.map_cons, List.filter_cons]
        cases some1 (pairO o (ps.getD k ([], [], ()))) <;> rfl
      rw [hk2]
      have hs : decide (zn ((partO o (ps.getD k ([], [], ())).2.1).mergeSort fun x y => decide (x ≤ y)).length > 0) = some1 (pairO o (ps.getD k ([], [], ()))) := by
        show decide (zn (sortI (partO o (ps.getD k ([], [], ())).2.1)).length > 0) = Nat.blt 0 (sortI (partO o (ps.getD k ([], [], ())).2.1)).length
        cases sortI (partO o (ps.getD k ([], [], ())).2.1) with
        | nil => rfl
        | cons x l => exact decide_eq_true (show ((l.length + 1 : Nat) : Int) > 0 by omega)
      rw [hs]
      cases hc : some1 (pairO o (ps.getD k ([], [], ()))) with
      | true =>
        simp only [cond_true]
        rw [decide_eq_true (by rw [List.length_singleton]; omega)]
        refine Eq.trans (b := f22L2 n m ps (zn ps.length) ((k + 1 : Nat) : Int) a b num p' z nx' (pr ++ [pairO o (ps.getD k ([], [], ()))])) rfl ?_
        rw [trim_L2 hN h hps hp a b p' z nx' n m (k + 1) _ h0 (by omega) (by rw [List.length_append, List.length_singleton]; omega), List.append_assoc]
        rfl
      | false =>
        simp only [cond_false]
        rw [trim_L2 hN h hps hp a b p' z nx' n m (k + 1) _ h0 (by omega) (by omega)]
    · rw [nlt_k h0, List.drop_eq_nil_of_le (by omega), show keepP o [] = [] from rfl, List.append_nil]; rfl
end Go.S18
