/-
  Seat 11: Reach's contract.
-/
import Derived.Test.YtoghhokbakphlaaDoorS11D
open Go Go.En
namespace Go.S11
/-! ### what a right process gives -/
theorem md_parts {i : Int} {ch : List (List ChV)} {nm : List ByteArray} {ho : List (List Int)} (h : mdOk i ch nm ho = true) : (1 ≤ ch.length ∧ ch.length ≤ 4096) ∧ (0 ≤ i ∧ i < (ch.length : Int)) ∧ ho.length = ch.length ∧ Led ch := by
  unfold mdOk at h
  rw [Bool.and_eq_true, Bool.and_eq_true] at h
  obtain ⟨h1, h2, h3⟩ := headM_p h.1
  refine ⟨h1, h2, h3, fun s hs c hc v hv => ?_⟩
  have := rows_mem h.2.2 _ (get_mem hs []) c hc
  unfold okC at this
  rw [Bool.and_eq_true] at this
  exact mvF_range this.2 v hv
theorem ofMG_parts {ch : List (List ChV)} {nm : List ByteArray} {ho : List (List Int)} (h : ofMG ch nm ho = true) : ch.length ≤ 1000000 ∧ (∀ s, s < ch.length → (ch.getD s []).length ≤ 1000000 ∧ ∀ c ∈ ch.getD s [], c.2.1.length ≤ 1000000) ∧ nm.length ≤ 1000000 ∧ ho.length ≤ 1000000 ∧ ∀ s, s < ho.length → (ho.getD s []).length ≤ 1000000 := by
  unfold ofMG m6 at h
  simp only [Bool.and_eq_true, List.all_eq_true] at h
  obtain ⟨⟨h1, h2⟩, h3, h4, h5⟩ := h
  exact ⟨of_ble h1, fun s hs => ⟨of_ble (h2 _ (get_mem hs [])).1, fun c hc => of_ble ((h2 _ (get_mem hs [])).2 c hc)⟩, of_ble h3, of_ble h4, fun s hs => of_ble (h5 _ (get_mem hs []))⟩
/-! ### a stack stays small -/
theorem push_B {n : Nat} {v : MvV} {seen : List Bool} {stk : List Int} (hl : seen.length = n) (hv : 0 ≤ v.1 ∧ v.1 < (n : Int)) :
    (push1 (seen, stk) v).1.length = n ∧ (push1 (seen, stk) v).2.length + nb true (push1 (seen, stk) v).1 ≤ stk.length + nb true seen := by
  unfold push1
  cases hs : seen.getD v.1.toNat false with
  | true => simp only [hs, cond_true]; exact ⟨hl, Nat.le_refl _⟩
  | false =>
    simp only [hs, cond_false]
    refine ⟨by rw [List.length_set]; exact hl, ?_⟩
    have g : ∀ j, (seen.set v.1.toNat true).getD j false = if v.1.toNat = j then true else seen.getD j false := fun j => getD_set _ _ _ _ _ (by omega)
    have := nb_lt true (l := seen) (l' := seen.set v.1.toNat true) (by rw [List.length_set]) (fun j _ hj => by rw [g]; split <;> simp_all) ⟨v.1.toNat, by omega, by rw [hs]; simp, by rw [g, if_pos rfl]⟩
    rw [List.length_append, List.length_singleton]; omega
theorem push_Bs {n : Nat} : ∀ (vs : List MvV) (seen : List Bool) (stk : List Int), seen.length = n → (∀ v ∈ vs, 0 ≤ v.1 ∧ v.1 < (n : Int)) →
    (vs.foldl push1 (seen, stk)).1.length = n ∧ (vs.foldl push1 (seen, stk)).2.length + nb true (vs.foldl push1 (seen, stk)).1 ≤ stk.length + nb true seen
  | [], _, _, hl, _ => ⟨hl, Nat.le_refl _⟩
  | v :: vs, seen, stk, hl, hv => by
    obtain ⟨a, b⟩ := push_B (stk := stk) hl (hv v (List.mem_cons_self ..))
    obtain ⟨c, d⟩ := push_Bs vs (push1 (seen, stk) v).1 (push1 (seen, stk) v).2 a (fun w hw => hv w (List.mem_cons_of_mem _ hw))
    exact ⟨c, Nat.le_trans d b⟩
theorem wr1 {k : Nat} (h0 : 0 < k) (h : k ≤ 9223372036854775807) : IntKind.i64.wrap (zn k - 1) = ((k - 1 : Nat) : Int) := by
  unfold zn
  rw [i64_wrap_in (by omega) (by omega)]; omega
theorem reach_L2 {ch : List (List ChV)} {mv : List MvV} (hmv : mv.length ≤ 1000000) (hr : ∀ v ∈ mv, 0 ≤ v.1 ∧ v.1 < (ch.length : Int)) (i : Int) (nm : List ByteArray) (ho : List (List Int)) (row : List ChV) (z c : Int) (out : List Int) (g0 : f110G0) (g1 : f110G1) :
    ∀ (m n k : Nat) (seen : List Bool) (stk : List Int), k ≤ mv.length → mv.length - k < m → seen.length = ch.length → stk.length + nb true seen ≤ 3000000 →
    f110L2 n g0 g1 m row z c mv (zn mv.length) (k : Int) i ch nm ho seen stk out = g1 row z (IntKind.i64.wrap (c + 1)) i ch nm ho ((mv.drop k).foldl push1 (seen, stk)).1 ((mv.drop k).foldl push1 (seen, stk)).2 out
  | 0, _, _, _, _, _, h, _, _ => absurd h (Nat.not_lt_zero _)
  | m + 1, n, k, seen, stk, hk, hm, hl, hB => by
    show f110S2 g0 g1 (f110L2 n g0 g1 m) row z c mv (zn mv.length) (k : Int) i ch nm ho seen stk out = _
    unfold f110S2
    by_cases h0 : k < mv.length
    · have hv := hr _ (get_mem h0 (0, 0, ()))
      obtain ⟨a, b⟩ := push_B (stk := stk) hl hv
      have hin : inb (mv.getD k (0, 0, ())).1 seen.length = true := by
        unfold inb; rw [Bool.and_eq_true, decide_eq_true_eq, decide_eq_true_eq]; omega
      have hd : decide ((stk.length + [(mv.getD k (0, 0, ())).1].length) * 8 ≤ 140737488355328) = true := decide_eq_true (by rw [List.length_singleton]; omega)
      rw [lt_k h0, inb_k h0, wr_k (by omega), Int.toNat_natCast, hin, hd]
      simp only [cond_true]
      rw [drop_get h0 (0, 0, ()), List.foldl_cons]
      cases hs : seen.getD (mv.getD k (0, 0, ())).1.toNat false with
      | true =>
        have e : push1 (seen, stk) (mv.getD k (0, 0, ())) = (seen, stk) := by unfold push1; simp only [hs, cond_true]
        rw [e]
        simp only [Bool.not_true, cond_false]
        exact reach_L2 hmv hr i nm ho row z c out g0 g1 m n (k + 1) seen stk h0 (by omega) hl hB
      | false =>
        have e : push1 (seen, stk) (mv.getD k (0, 0, ())) = (seen.set (mv.getD k (0, 0, ())).1.toNat true, stk ++ [(mv.getD k (0, 0, ())).1]) := by unfold push1; simp only [hs, cond_false]
        rw [e] at a b ⊢
        simp only [Bool.not_false, cond_true]
        exact reach_L2 hmv hr i nm ho row z c out g0 g1 m n (k + 1) _ _ h0 (by omega) a (Nat.le_trans b hB)
    · rw [nlt_k h0, List.drop_eq_nil_of_le (by omega)]; rfl
theorem reach_L1 {ch : List (List ChV)} {row : List ChV} (hrl : row.length ≤ 1000000) (hc6 : ∀ c ∈ row, c.2.1.length ≤ 1000000) (hr : ∀ c ∈ row, ∀ v ∈ c.2.1, 0 ≤ v.1 ∧ v.1 < (ch.length : Int)) (i : Int) (nm : List ByteArray) (ho : List (List Int)) (out : List Int) (g0 : f110G0) {n : Nat} (hn : 1000000 < n) :
    ∀ (m k : Nat) (seen : List Bool) (stk : List Int), k ≤ row.length → row.length - k < m → seen.length = ch.length → stk.length + nb true seen ≤ 3000000 →
    f110L1 n g0 m row (zn row.length) (k : Int) i ch nm ho seen stk out = g0 i ch nm ho ((row.drop k).foldl pushC (seen, stk)).1 ((row.drop k).foldl pushC (seen, stk)).2 out
  | 0, _, _, _, _, h, _, _ => absurd h (Nat.not_lt_zero _)
  | m + 1, k, seen, stk, hk, hm, hl, hB => by
    show f110S1 (f110L2 n g0 (f110L1 n g0 m) n) g0 (f110L1 n g0 m) row (zn row.length) (k : Int) i ch nm ho seen stk out = _
    unfold f110S1
    by_cases h0 : k < row.length
    · have hm6 := hc6 _ (get_mem h0 (⟨#[]⟩, [], ()))
      have hmr := hr _ (get_mem h0 (⟨#[]⟩, [], ()))
      obtain ⟨a, b⟩ := push_Bs (row.getD k (⟨#[]⟩, [], ())).2.1 seen stk hl hmr
      rw [lt_k h0, inb_k h0, Int.toNat_natCast]
      simp only [cond_true]
      have e := reach_L2 (ch := ch) hm6 hmr i nm ho row (zn row.length) (k : Int) out g0 (f110L1 n g0 m) n n 0 seen stk (Nat.zero_le _) (by omega) hl hB
      refine Eq.trans e ?_
      rw [List.drop_zero, wr_k (by omega), reach_L1 hrl hc6 hr i nm ho out g0 hn m (k + 1) _ _ h0 (by omega) a (Nat.le_trans b hB), drop_get h0 (⟨#[]⟩, [], ()), List.foldl_cons]
      rfl
    · rw [nlt_k h0, List.drop_eq_nil_of_le (by omega)]; rfl
theorem reach_L0 {ch : List (List ChV)} (hch : ch.length ≤ 1000000) (h6 : ∀ s, s < ch.length → (ch.getD s []).length ≤ 1000000 ∧ ∀ c ∈ ch.getD s [], c.2.1.length ≤ 1000000) (hL : Led ch) (i : Int) (nm : List ByteArray) (ho : List (List Int)) {n : Nat} (hn : 1000000 < n) :
    ∀ (m f : Nat) (seen : List Bool) (stk out : List Int), DfsOk ch i seen stk out → stk.length + nb true seen ≤ 3000000 → ch.length < f + out.length → f ≤ m →
    f110L0 n m i ch nm ho seen stk out = some ⟨[.one (.rw ⟨1, 0⟩)], [], [roI (sortI (dfs ch f seen stk out))]⟩
  | m, 0, seen, stk, out, h, _, hf, _ => by
    have := nodup_len (n := ch.length) (List.nodup_append.1 h.nd).2.1 (fun x hx => h.rng x (List.mem_append_right _ hx))
    omega
  | 0, f + 1, _, _, _, _, _, _, hm => by omega
  | m + 1, f + 1, seen, stk, out, h, hB, hf, hm => by
    have hout := nodup_len (n := ch.length) (List.nodup_append.1 h.nd).2.1 (fun x hx => h.rng x (List.mem_append_right _ hx))
    show f110S0 (f110L1 n (f110L0 n m) n) (f110L0 n m) i ch nm ho seen stk out = _
    unfold f110S0
    unfold dfs
    by_cases h0 : 0 < stk.length
    · obtain ⟨r, e, hnx⟩ := h.next hL h0
      have hs := h.rng (stk.getD (stk.length - 1) 0) (List.mem_append_left _ (get_mem (by omega) 0))
      have hr0 := h6 (stk.getD (stk.length - 1) 0).toNat (by omega)
      have hmr := hL (stk.getD (stk.length - 1) 0).toNat (by omega)
      have d1 : decide (zn stk.length > 0) = true := decide_eq_true (by unfold zn; omega)
      have d2 : inb2 0 ((stk.length - 1 : Nat) : Int) stk.length = true := by
        unfold inb2; rw [decide_eq_true (by omega), decide_eq_true (by omega), decide_eq_true (by omega)]; rfl
      have d3 : decide ((out.length + [stk.getD (stk.length - 1) 0].length) * 8 ≤ 140737488355328) = true := decide_eq_true (by rw [List.length_singleton]; omega)
      have d4 : inb (stk.getD (stk.length - 1) 0) ch.length = true := by
        unfold inb; rw [decide_eq_true (by omega), decide_eq_true (by omega)]; rfl
      rw [d1, wr1 h0 (by omega), inb_k (show stk.length - 1 < stk.length by omega), d2, Int.toNat_natCast, d3, d4, Nat.sub_zero, show Nat.blt 0 stk.length = true from Nat.ble_eq_true_of_le h0]
      simp only [cond_true]
      have hB2 : (stk.take (stk.length - 1)).length + nb true seen ≤ 3000000 := by rw [List.length_take]; omega
      have e2 := reach_L1 (ch := ch) hr0.1 hr0.2 hmr i nm ho (out ++ [stk.getD (stk.length - 1) 0]) (f110L0 n m) hn n 0 seen (stk.take (stk.length - 1)) (Nat.zero_le _) (by omega) h.len hB2
      refine Eq.trans e2 ?_
      rw [List.drop_zero]
      have e' : (ch.getD (stk.getD (stk.length - 1) 0).toNat []).foldl pushC (seen, stk.take (stk.length - 1)) = r := e
      have hB3 : r.2.length + nb true r.1 ≤ 3000000 := by
        have := (push_Bs ((ch.getD (stk.getD (stk.length - 1) 0).toNat []).flatMap fun c => c.2.1) seen (stk.take (stk.length - 1)) h.len (fun v hv => by
          obtain ⟨c, hc, hv⟩ := List.mem_flatMap.1 hv
          exact hmr c hc v hv)).2
        rw [← push_flat, e'] at this
        omega
      rw [e']
      exact reach_L0 hch h6 hL i nm ho hn m f r.1 r.2 _ hnx hB3 (by rw [List.length_append, List.length_singleton]; omega) (by omega)
    · have d1 : decide (zn stk.length > 0) = false := decide_eq_false (by unfold zn; omega)
      rw [d1, show Nat.blt 0 stk.length = false from by rw [Bool.eq_false_iff]; intro hb; exact h0 (Nat.le_of_ble_eq_true hb)]
      simp only [cond_false]
      rw [ble_of (show out.length ≤ 1000000 by omega)]; rfl
theorem reach_T {i : Int} {ch : List (List ChV)} {nm : List ByteArray} {ho : List (List Int)} (h : ofMG ch nm ho = true) : f110M 1000001 i ch nm ho = some ⟨[.one (.rw ⟨1, 0⟩)], [], [roI (reachL i ch nm ho)]⟩ := by
  unfold f110M f110T reachL
  rw [mdG_of h]
  cases hd : mdOk i ch nm ho with
  | false => rfl
  | true =>
    obtain ⟨⟨n1, n2⟩, hi, _, hL⟩ := md_parts hd
    obtain ⟨q1, q2, _⟩ := ofMG_parts h
    have e0 : (zn ch.length).toNat = ch.length := Int.toNat_natCast _
    have d1 : (decide (0 ≤ zn ch.length) && (decide (zn ch.length ≤ zn ch.length) && decide (1 * (zn ch.length).toNat ≤ 140737488355328))) = true := by
      rw [e0, decide_eq_true (show 0 ≤ zn ch.length by unfold zn; omega), decide_eq_true (Int.le_refl _), decide_eq_true (by omega)]; rfl
    have d2 : inb i (List.replicate ch.length false).length = true := by
      rw [List.length_replicate]; unfold inb; rw [decide_eq_true hi.1, decide_eq_true hi.2]; rfl
    rw [d1, e0, d2]
    simp only [er1, Er.isNil, cond_true, Bool.not_true, cond_false]
    have hnb := nb_le true ((List.replicate ch.length false).set i.toNat true)
    rw [List.length_set, List.length_replicate] at hnb
    exact reach_L0 q1 q2 hL i nm ho (n := 1000001) (by omega) 1000001 (ch.length + 1) _ [i] [] (DfsOk.init hi) (by rw [List.length_singleton]; omega) (by simp) (by omega)
theorem reach_ok : FnOk P C0 10 reachS := by
  refine fn_okC ctx11 (show P.funcs[10]? = some f110f by kernel_rfl) (of_decide_eq_true (by kernel_rfl)) (reachS) f110h (fun ds os lf hp => ?_)
  unfold reachS at hp
  simp only at hp
  split at hp
  · rename_i i ch nm ho
    simp only [Out.pick] at hp
    cases hc0 : ofMG ch nm ho with
    | false => rw [hc0] at hp; cases hp
    | true =>
      rw [hc0] at hp
      simp only [cond_true] at hp
      simp only [Option.some.injEq] at hp
      subst hp
      exact ⟨1000001, (f110_ev _ i ch nm ho).trans (reach_T hc0)⟩
  · cases hp
end Go.S11
