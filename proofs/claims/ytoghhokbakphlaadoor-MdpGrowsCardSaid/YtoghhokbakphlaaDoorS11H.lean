/-
  Seat 11: Letters' contract.
-/
import Derived.Test.YtoghhokbakphlaaDoorS11N
open Go Go.En
namespace Go.S11
theorem rise_in {n : Int} : ∀ {l : List Int} {a : Int}, riseF n a l = true → (∀ x ∈ l, a < x ∧ x < n) ∧ l.Nodup
  | [], _, _ => ⟨fun _ h => (by cases h), .nil⟩
  | x :: l, a, h => by
    have h : (!(decide (x ≤ a) || decide (x ≥ n)) && riseF n x l) = true := h
    simp only [Bool.and_eq_true, Bool.not_eq_true', Bool.or_eq_false_iff, decide_eq_false_iff_not] at h
    obtain ⟨h1, h2⟩ := rise_in h.2
    refine ⟨fun y hy => ?_, List.nodup_cons.2 ⟨fun hm => by have := (h1 x hm).1; omega, h2⟩⟩
    rcases List.mem_cons.1 hy with rfl | hy
    · omega
    · have := h1 y hy; omega
theorem rows_hold {z K : Int} : ∀ {ch : List (List ChV)} {ho : List (List Int)}, rowsR z K ch ho = true → ∀ s, s < ch.length → riseF K (-1) (ho.getD s []) = true
  | l :: ls, ho, h, s, hs => by
    have h : (rowR z K l (ho.getD 0 []) && rowsR z K ls (ho.drop 1)) = true := h
    rw [Bool.and_eq_true] at h
    cases s with
    | zero =>
      have h1 := h.1
      unfold rowR at h1
      rw [Bool.and_eq_true, Bool.and_eq_true] at h1
      exact h1.2.1
    | succ s =>
      have := rows_hold h.2 s (by rw [List.length_cons] at hs; omega)
      rw [List.getD_eq_getElem?_getD, List.getElem?_drop, ← List.getD_eq_getElem?_getD, Nat.add_comm] at this
      exact this
theorem md_holds {i : Int} {ch : List (List ChV)} {nm : List ByteArray} {ho : List (List Int)} (h : mdOk i ch nm ho = true) : (nm.Pairwise fun a b => a.toList ≠ b.toList) ∧ ∀ s, s < ho.length → (∀ x ∈ ho.getD s [], 0 ≤ x ∧ x < (nm.length : Int)) ∧ (ho.getD s []).Nodup := by
  obtain ⟨_, _, hl, _⟩ := md_parts h
  unfold mdOk at h
  rw [Bool.and_eq_true, Bool.and_eq_true] at h
  refine ⟨(fresh_ne h.2.1).2, fun s hs => ?_⟩
  obtain ⟨a, b⟩ := rise_in (rows_hold h.2.2 s (by omega))
  exact ⟨fun x hx => by have := a x hx; unfold zn at this; omega, b⟩
theorem let_L2 {bit : List Int} {ho : List (List Int)} {h : List Int} (hb : h.length ≤ 1000000) (hr : ∀ x ∈ h, 0 ≤ x ∧ x < (bit.length : Int)) {s : Nat} (z : Int) (g1 : f112G1) :
    ∀ (m n k : Nat) (out : List Int), k ≤ h.length → h.length - k < m → s < out.length →
    f112L2 n g1 m (s : Int) ho z (s : Int) h (zn h.length) (k : Int) bit out = g1 ho z (IntKind.i64.wrap ((s : Int) + 1)) bit (out.set s (orF bit (out.getD s 0) (h.drop k)))
  | 0, _, _, _, _, h, _ => absurd h (Nat.not_lt_zero _)
  | m + 1, n, k, out, hk, hm, hs => by
    show f112S2 g1 (f112L2 n g1 m) (s : Int) ho z (s : Int) h (zn h.length) (k : Int) bit out = _
    unfold f112S2
    by_cases h0 : k < h.length
    · have hv := inb_r (hr _ (get_mem h0 0))
      rw [lt_k h0, inb_k h0, inb_k hs, wr_k (by omega), Int.toNat_natCast, Int.toNat_natCast, hv]
      simp only [cond_true]
      rw [let_L2 hb hr z g1 m n (k + 1) _ h0 (by omega) (by rw [List.length_set]; exact hs), List.set_set, getD_set _ _ _ _ _ hs, if_pos rfl, drop_get h0 0]
      rfl
    · have e : out.set s (out.getD s 0) = out := by
        rw [List.getD_eq_getElem?_getD, List.getElem?_eq_getElem hs]
        exact List.set_getElem_self hs
      rw [nlt_k h0, List.drop_eq_nil_of_le (by omega)]
      show g1 ho z (IntKind.i64.wrap ((s : Int) + 1)) bit out = g1 ho z (IntKind.i64.wrap ((s : Int) + 1)) bit (out.set s (out.getD s 0))
      rw [e]
theorem let_L1 {bit : List Int} {ho : List (List Int)} (hl : ho.length ≤ 1000000) (h6 : ∀ s, s < ho.length → (ho.getD s []).length ≤ 1000000) (hr : ∀ s, s < ho.length → ∀ x ∈ ho.getD s [], 0 ≤ x ∧ x < (bit.length : Int)) {n : Nat} (hn : 1000000 < n) :
    ∀ (m k : Nat), k ≤ ho.length → ho.length - k < m →
    f112L1 n m ho (zn ho.length) (k : Int) bit ((ho.map (orF bit 0)).take k ++ (List.replicate ho.length 0).drop k) = some ⟨[.one (.rw ⟨1, 0⟩), pE .nil], [], [roI (ho.map (orF bit 0))]⟩
  | 0, _, _, h => absurd h (Nat.not_lt_zero _)
  | m + 1, k, hk, hm => by
    show f112S1 (f112L2 n (f112L1 n m) n) (f112L1 n m) ho (zn ho.length) (k : Int) bit _ = _
    unfold f112S1
    have hM : (ho.map (orF bit 0)).length = (List.replicate ho.length (0 : Int)).length := by simp
    by_cases h0 : k < ho.length
    · have hk' : k < (List.replicate ho.length (0 : Int)).length := by rw [List.length_replicate]; exact h0
      have hcl := cut_len hM (Nat.le_of_lt hk')
      have hcg : ((ho.map (orF bit 0)).take k ++ (List.replicate ho.length (0 : Int)).drop k).getD k 0 = 0 := by
        rw [cut_get hM hk', List.getD_eq_getElem?_getD, List.getElem?_replicate]
        split <;> rfl
      rw [lt_k h0, inb_k h0, Int.toNat_natCast]
      simp only [cond_true]
      refine Eq.trans (let_L2 (h6 k h0) (hr k h0) (zn ho.length) (f112L1 n m) n n 0 _ (Nat.zero_le _) (by have := h6 k h0; omega) (by rw [hcl]; exact hk')) ?_
      rw [List.drop_zero, hcg, wr_k (by omega), cut_set hM hk' (by
        show (ho.map (orF bit 0)).getD k 0 = _
        rw [List.getD_eq_getElem?_getD, List.getElem?_map, List.getElem?_eq_getElem h0, List.getD_eq_getElem?_getD, List.getElem?_eq_getElem h0]; rfl)]
      exact let_L1 hl h6 hr hn m (k + 1) h0 (by omega)
    · have e : k = ho.length := by omega
      subst e
      rw [nlt_k h0]
      have := cut_all hM
      rw [List.length_replicate] at this
      rw [this]; rfl
theorem shl6 {k : Nat} (h : k ≤ 6) : shlF .i64 1 (k : Int) = ((2 ^ k : Nat) : Int) := by
  have : ∀ k : Fin 7, shlF .i64 1 (k.val : Int) = ((2 ^ k.val : Nat) : Int) := by decide
  exact this ⟨k, by omega⟩
theorem let_L0 {nm lb : List ByteArray} {ho : List (List Int)} (hb : nm.length ≤ 1000000) (h6 : lb.length ≤ 6) (hl : ho.length ≤ 1000000) (hl6 : ∀ s, s < ho.length → (ho.getD s []).length ≤ 1000000) (hr : ∀ s, s < ho.length → ∀ x ∈ ho.getD s [], 0 ≤ x ∧ x < (nm.length : Int)) (i : Int) (ch : List (List ChV)) {n : Nat} (hn : 1000000 < n) :
    ∀ (m k : Nat) (bit : List Int), k ≤ lb.length → lb.length - k < m → bit.length = nm.length →
    f112L0 n m lb (zn lb.length) (k : Int) i ch nm ho bit = match bitsL nm k (lb.drop k) bit with
      | some b => some ⟨[.one (.rw ⟨1, 0⟩), pE .nil], [], [roI (ho.map (orF b 0))]⟩
      | none => some ⟨[.one (.rw ⟨1, 0⟩), pE (.no 30)], [], [roI []]⟩
  | 0, _, _, _, h, _ => absurd h (Nat.not_lt_zero _)
  | m + 1, k, bit, hk, hm, hbl => by
    show f112S0 (f112L1 n n) (f112L0 n m) lb (zn lb.length) (k : Int) i ch nm ho bit = _
    unfold f112S0
    by_cases h0 : k < lb.length
    · rw [lt_k h0, inb_k h0, wr_k (by omega), Int.toNat_natCast, show big nm.length = true from ble_of (by omega), drop_get h0 ⟨#[]⟩]
      simp only [cond_true]
      show _ = match (bif decide (idxS (lb.getD k ⟨#[]⟩) nm < 0) then none else bitsL nm (k + 1) (lb.drop (k + 1)) (bit.set (idxS (lb.getD k ⟨#[]⟩) nm).toNat ((2 ^ k : Nat) : Int))) with
        | some b => some (Lf.mk [.one (.rw ⟨1, 0⟩), pE .nil] [] [roI (ho.map (orF b 0))])
        | none => some (Lf.mk [.one (.rw ⟨1, 0⟩), pE (.no 30)] [] [roI []])
      by_cases hx : idxS (lb.getD k ⟨#[]⟩) nm < 0
      · rw [decide_eq_true hx]; rfl
      · obtain ⟨j, j1, j2, _⟩ := idxG_pos hx
        have j2 : idxS (lb.getD k ⟨#[]⟩) nm = ((0 + j : Nat) : Int) := j2
        rw [decide_eq_false hx, decide_eq_true (Int.natCast_nonneg k), shl6 (by omega)]
        simp only [cond_true, cond_false]
        have hin : inb (idxS (lb.getD k ⟨#[]⟩) nm) bit.length = true := inb_r (by rw [j2, hbl]; omega)
        rw [hin, cond_true]
        exact let_L0 hb h6 hl hl6 hr i ch hn m (k + 1) _ h0 (by omega) (by rw [List.length_set]; exact hbl)
    · have e0 : (zn ho.length).toNat = ho.length := Int.toNat_natCast _
      have d1 : (decide (0 ≤ zn ho.length) && (decide (zn ho.length ≤ zn ho.length) && decide (8 * (zn ho.length).toNat ≤ 140737488355328))) = true := by
        rw [e0, decide_eq_true (show 0 ≤ zn ho.length by unfold zn; omega), decide_eq_true (Int.le_refl _), decide_eq_true (by omega)]; rfl
      rw [nlt_k h0, List.drop_eq_nil_of_le (by omega), d1, e0]
      simp only [cond_true, cond_false]
      have := let_L1 (bit := bit) hl hl6 (fun s hs x hx => by rw [hbl]; exact hr s hs x hx) hn n 0 (Nat.zero_le _) (by omega)
      rw [List.take_zero, List.drop_zero, List.nil_append] at this
      exact this
theorem letters_T {i : Int} {ch : List (List ChV)} {nm : List ByteArray} {ho : List (List Int)} {lb : List ByteArray} (h : (ofMG ch nm ho && m6 lb.length) = true) :
    f112M 1000001 i ch nm ho lb = some ⟨[.one (.rw ⟨1, 0⟩), pE (lettersV i ch nm ho lb).e], [], [roI (lettersV i ch nm ho lb).l]⟩ := by
  rw [Bool.and_eq_true] at h
  unfold f112M f112T lettersV
  rw [mdG_of h.1, show big lb.length = true from ble_of (by have := of_ble h.2; omega), differ_fresh]
  cases hd : mdOk i ch nm ho with
  | false => rfl
  | true =>
    obtain ⟨hnm, hho⟩ := md_holds hd
    obtain ⟨q1, q2, q3, q4, q5⟩ := ofMG_parts h.1
    by_cases h6 : lb.length ≤ 6
    · have d0 : decide (zn lb.length > 6) = false := decide_eq_false (by unfold zn; omega)
      have d0' : decide (zn lb.length ≤ 6) = true := decide_eq_true (by unfold zn; omega)
      have e0 : (zn nm.length).toNat = nm.length := Int.toNat_natCast _
      have d1 : (decide (0 ≤ zn nm.length) && (decide (zn nm.length ≤ zn nm.length) && decide (8 * (zn nm.length).toNat ≤ 140737488355328))) = true := by
        rw [e0, decide_eq_true (show 0 ≤ zn nm.length by unfold zn; omega), decide_eq_true (Int.le_refl _), decide_eq_true (by omega)]; rfl
      rw [d0, d0', d1, e0]
      cases hf : freshD [] lb with
      | false => rfl
      | true =>
        have key := let_L0 q3 h6 q4 q5 (fun s hs => (hho s hs).1) i ch (n := 1000001) (by omega) 1000001 0 (List.replicate nm.length 0) (Nat.zero_le _) (by omega) (by simp)
        rw [List.drop_zero, bits_places] at key
        refine Eq.trans key ?_
        cases hp : placesL nm lb with
        | none => rfl
        | some A =>
          obtain ⟨a1, a2⟩ := places_in hp
          obtain ⟨n1, _⟩ := places_nodup (fresh_ne hf).2 hp
          have e : ho.map (orF (setAll 0 A (List.replicate nm.length 0)) 0) = ho.map fun h => ((letS 0 A h : Nat) : Int) := by
            refine List.map_congr_left fun hh hm => ?_
            obtain ⟨s, s1, s2⟩ := idx_of hm []
            exact orF_letS n1 a2 (by omega) (fun x hx => ((hho s s1).1 x (by rw [s2]; exact hx)).1)
          show some (Lf.mk _ _ [roI (ho.map (orF (setAll 0 A (List.replicate nm.length 0)) 0))]) = _
          rw [e]; rfl
    · have d0 : decide (zn lb.length > 6) = true := decide_eq_true (by unfold zn; omega)
      have d0' : decide (zn lb.length ≤ 6) = false := decide_eq_false (by unfold zn; omega)
      rw [d0, d0']; rfl
theorem letters_ok : FnOk P C0 12 lettersS := by
  refine fn_okC ctx11 (show P.funcs[12]? = some f112f by kernel_rfl) (of_decide_eq_true (by kernel_rfl)) (lettersS) f112h (fun ds os lf hp => ?_)
  unfold lettersS at hp
  simp only at hp
  split at hp
  · rename_i i ch nm ho lb
    simp only [Out.pick] at hp
    cases hc0 : (ofMG ch nm ho && m6 lb.length) with
    | false => rw [hc0] at hp; cases hp
    | true =>
      rw [hc0] at hp
      simp only [cond_true] at hp
      simp only [Option.some.injEq] at hp
      subst hp
      exact ⟨1000001, (f112_ev _ i ch nm ho lb).trans (letters_T hc0)⟩
  · cases hp
end Go.S11
