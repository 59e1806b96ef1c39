/-
  Seat 18: Same's contract, of what is the same.
-/
import Derived.Test.YtfkmnklnnccopaaDoorS18ZB
open Go Go.En
namespace Go.S18
def sameG (p i : Int) (nx : List (List Int)) (ps : List PairV) (q j : Int) (ny : List (List Int)) (qs : List PairV) : Bool :=
  decide (p = q ∧ i = j ∧ nx = ny ∧ ps = qs) && (m6 nx.length && (nx.all (fun l => m6 l.length) && (m6 ps.length && ps.all (fun q => m6 q.1.length && m6 q.2.1.length))))
def sameS : En.Spec := ⟨[], fun ds os => match ds, os with
  | [.p (.agg [.d (.fz true) (.i .i64) p, .d (.fz true) (.i .i64) i, .d (.fz false) (.l (.l (.i .i64))) nx, .d (.fz false) (.l (.p (.l (.i .i64)) (.p (.l (.i .i64)) .u))) ps]),
     .p (.agg [.d (.fz true) (.i .i64) q, .d (.fz true) (.i .i64) j, .d (.fz false) (.l (.l (.i .i64))) ny, .d (.fz false) (.l (.p (.l (.i .i64)) (.p (.l (.i .i64)) .u))) qs])], [] =>
    .br (sameG p i nx ps q j ny qs) (.leaf [pB true] [] []) .fail
  | _, _ => .fail⟩
theorem big6 {n : Nat} (h : n ≤ 1000000) : big n = true := ble_of (by omega)
theorem same_L1 {ps : List PairV} (hps : ps.length ≤ 1000000) (hp : ∀ q ∈ ps, q.1.length ≤ 1000000 ∧ q.2.1.length ≤ 1000000) (p i : Int) (nx : List (List Int)) (q j : Int) (ny : List (List Int)) : ∀ (m n k : Nat), k ≤ ps.length → ps.length - k < m →
    f23L1 n m (k : Int) p i nx ps q j ny ps = some ⟨[pB true], [], []⟩
  | 0, _, _, _, h => absurd h (Nat.not_lt_zero _)
  | m + 1, n, k, hk, hm => by
    show f23S1 (f23L1 n m) (k : Int) p i nx ps q j ny ps = _
    unfold f23S1
    by_cases h0 : k < ps.length
    · obtain ⟨a1, a2⟩ := hp _ (get_mem h0 ([], [], ()))
      rw [lt_k h0, inb_k h0, wr_k (by omega), Int.toNat_natCast, sameI_refl, sameI_refl, big6 a1, big6 a2]
      exact same_L1 hps hp p i nx q j ny m n (k + 1) h0 (by omega)
    · rw [nlt_k h0]; rfl
theorem same_L0 {nx : List (List Int)} (hn : nx.length ≤ 1000000) (hr : ∀ l ∈ nx, l.length ≤ 1000000) {ps : List PairV} (hps : ps.length ≤ 1000000) (hp : ∀ q ∈ ps, q.1.length ≤ 1000000 ∧ q.2.1.length ≤ 1000000) (p i q j : Int) : ∀ (m n k : Nat), ps.length < n → k ≤ nx.length → nx.length - k < m →
    f23L0 n m (k : Int) p i nx ps q j nx ps = some ⟨[pB true], [], []⟩
  | 0, _, _, _, _, h => absurd h (Nat.not_lt_zero _)
  | m + 1, n, k, hn2, hk, hm => by
    show f23S0 (f23L1 n n) (f23L0 n m) (k : Int) p i nx ps q j nx ps = _
    unfold f23S0
    by_cases h0 : k < nx.length
    · rw [lt_k h0, inb_k h0, wr_k (by omega), Int.toNat_natCast, sameI_refl, big6 (hr _ (get_mem h0 []))]
      exact same_L0 hn hr hps hp p i q j m n (k + 1) hn2 h0 (by omega)
    · rw [nlt_k h0]
      exact same_L1 hps hp p i nx q j nx n n 0 (Nat.zero_le _) (by omega)
theorem same_ok : FnOk P C0 23 sameS := by
  refine fn_okC ctx19 (show P.funcs[23]? = some f23f by kernel_rfl) (of_decide_eq_true (by kernel_rfl)) (sameS) f23h (fun ds os lf hp => ?_)
  unfold sameS at hp
  simp only at hp
  split at hp
  · rename_i p i nx ps q j ny qs
    simp only [Out.pick] at hp
    cases hc0 : sameG p i nx ps q j ny qs with
    | false => rw [hc0] at hp; cases hp
    | true =>
      rw [hc0] at hp
      simp only [cond_true] at hp
      simp only [Option.some.injEq] at hp
      subst hp
      unfold sameG m6 at hc0
      simp only [Bool.and_eq_true, decide_eq_true_eq, List.all_eq_true] at hc0
      obtain ⟨⟨rfl, rfl, rfl, rfl⟩, h1, h2, h3, h4⟩ := hc0
      refine ⟨nx.length + ps.length + 1, (f23_ev (nx.length + ps.length + 1) p i nx ps p i nx ps).trans ?_⟩
      have e := same_L0 (of_ble h1) (fun l hl => of_ble (h2 l hl)) (of_ble h3) (fun q hq => ⟨of_ble (h4 q hq).1, of_ble (h4 q hq).2⟩) p i p i (nx.length + ps.length + 1) (nx.length + ps.length + 1) 0 (by omega) (Nat.zero_le _) (by omega)
      unfold f23M f23T
      rw [bne_self_eq_false, bne_self_eq_false, bne_self_eq_false, bne_self_eq_false]
      exact e
  · cases hp
end Go.S18
