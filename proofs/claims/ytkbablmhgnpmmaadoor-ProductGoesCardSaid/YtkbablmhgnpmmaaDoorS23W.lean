/-
  Seat 23: the contract of Reach; what Reach tells.
-/
import Derived.Test.YtkbablmhgnpmmaaDoorS23G8
open Go Go.En
namespace Go.S23
/-- what can be come to -/
inductive Rc (i : Int) (ch : List (List ChV)) : Nat → Prop
  | init : Rc i ch i.toNat
  | step {s : Nat} {c : ChV} {v : MvV} : Rc i ch s → c ∈ ch.getD s [] → v ∈ c.2.1 → Rc i ch v.1.toNat
abbrev seenAt (l : List Bool) (j : Nat) : Prop := l.getD j false = true
structure SI (n : Nat) (q : SK) (o : List Int) : Prop where
  len : q.1.length = n
  rng : ∀ x ∈ o ++ q.2, 0 ≤ x ∧ x < (n : Int)
  nd : (o ++ q.2).Nodup
  seen : ∀ x ∈ o ++ q.2, seenAt q.1 x.toNat
  back : ∀ j, seenAt q.1 j → (j : Int) ∈ o ++ q.2
theorem nodup_int {n : Nat} {l : List Int} (hn : l.Nodup) (h : ∀ x ∈ l, 0 ≤ x ∧ x < (n : Int)) : l.length ≤ n := by
  have := nodup_len n (l.map Int.toNat) ?_ ?_
  · simpa using this
  · rw [List.Nodup, List.pairwise_map]
    refine List.Pairwise.imp_of_mem ?_ hn
    intro a b ha hb hne e
    have := h a ha
    have := h b hb
    exact hne (by omega)
  · intro x hx
    obtain ⟨y, hy, rfl⟩ := List.mem_map.1 hx
    have := h y hy
    omega
theorem SI.size {n : Nat} {q : SK} {o : List Int} (h : SI n q o) : o.length + q.2.length ≤ n := by
  have := nodup_int h.nd h.rng
  rwa [List.length_append] at this
theorem getD_setB (l : List Bool) (i j : Nat) (hi : i < l.length) : (l.set i true).getD j false = if i = j then true else l.getD j false := getD_set l i j true false hi
theorem pushM_ok {n : Nat} : ∀ (l : List MvV) {q : SK} {o : List Int}, SI n q o → (∀ v ∈ l, 0 ≤ v.1 ∧ v.1 < (n : Int)) →
    SI n (pushM l q) o ∧ (∀ j, seenAt q.1 j → seenAt (pushM l q).1 j) ∧ (∀ v ∈ l, seenAt (pushM l q).1 v.1.toNat) ∧ ∀ x ∈ (pushM l q).2, x ∈ q.2 ∨ ∃ v ∈ l, v.1 = x
  | [], q, o, h, _ => ⟨h, fun _ h => h, fun v hv => (by cases hv), fun x hx => .inl hx⟩
  | v :: l, q, o, h, hl => by
    have hv := hl v (List.mem_cons_self ..)
    have hl' : ∀ w ∈ l, 0 ≤ w.1 ∧ w.1 < (n : Int) := fun w hw => hl w (List.mem_cons_of_mem _ hw)
    show SI n (pushM l (bif q.1.getD v.1.toNat false then q else (q.1.set v.1.toNat true, q.2 ++ [v.1]))) o ∧ _
    have e0 : pushM (v :: l) q = pushM l (bif q.1.getD v.1.toNat false then q else (q.1.set v.1.toNat true, q.2 ++ [v.1])) := rfl
    rw [e0]
    cases hs : q.1.getD v.1.toNat false with
    | true =>
      obtain ⟨a, b, c, d⟩ := pushM_ok l h hl'
      refine ⟨a, b, fun w hw => ?_, fun x hx => ?_⟩
      · rcases List.mem_cons.1 hw with rfl | hw
        · exact b _ hs
        · exact c w hw
      · rcases d x hx with h1 | ⟨w, hw, e⟩
        · exact .inl h1
        · exact .inr ⟨w, List.mem_cons_of_mem _ hw, e⟩
    | false =>
      rw [cond_false]
      have hin : v.1.toNat < q.1.length := by rw [h.len]; omega
      have hnot : ¬ v.1 ∈ o ++ q.2 := fun hm => by
        have := h.seen _ hm
        unfold seenAt at this
        rw [hs] at this; cases this
      have h' : SI n (q.1.set v.1.toNat true, q.2 ++ [v.1]) o := by
        refine ⟨by rw [List.length_set]; exact h.len, fun x hx => ?_, ?_, fun x hx => ?_, fun j hj => ?_⟩
        · rw [← List.append_assoc, List.mem_append, List.mem_singleton] at hx
          rcases hx with hx | rfl
          · exact h.rng x hx
          · exact hv
        · show (o ++ (q.2 ++ [v.1])).Nodup
          rw [← List.append_assoc, List.nodup_append]
          exact ⟨h.nd, List.nodup_cons.2 ⟨(fun h => by cases h), List.nodup_nil⟩, fun a ha b hb => by rw [List.mem_singleton.1 hb]; exact fun e => hnot (e ▸ ha)⟩
        · show (q.1.set v.1.toNat true).getD x.toNat false = true
          rw [getD_setB _ _ _ hin]
          rw [← List.append_assoc, List.mem_append, List.mem_singleton] at hx
          rcases hx with hx | rfl
          · by_cases e : v.1.toNat = x.toNat
            · rw [if_pos e]
            · rw [if_neg e]; exact h.seen x hx
          · rw [if_pos rfl]
        · have hj : (q.1.set v.1.toNat true).getD j false = true := hj
          rw [getD_setB _ _ _ hin] at hj
          rw [← List.append_assoc, List.mem_append, List.mem_singleton]
          by_cases e : v.1.toNat = j
          · right; omega
          · rw [if_neg e] at hj; exact .inl (h.back j hj)
      obtain ⟨a, b, c, d⟩ := pushM_ok l h' hl'
      have up : ∀ j, seenAt q.1 j → seenAt (q.1.set v.1.toNat true) j := fun j hj => by
        unfold seenAt
        rw [getD_setB _ _ _ hin]
        by_cases e : v.1.toNat = j
        · rw [if_pos e]
        · rw [if_neg e]; exact hj
      refine ⟨a, fun j hj => b j (up j hj), fun w hw => ?_, fun x hx => ?_⟩
      · rcases List.mem_cons.1 hw with rfl | hw
        · refine b _ ?_
          show (q.1.set w.1.toNat true).getD w.1.toNat false = true
          rw [getD_setB _ _ _ hin, if_pos rfl]
        · exact c w hw
      · rcases d x hx with h1 | ⟨w, hw, e⟩
        · rcases List.mem_append.1 h1 with h1 | h1
          · exact .inl h1
          · exact .inr ⟨v, List.mem_cons_self .., (List.mem_singleton.1 h1).symm⟩
        · exact .inr ⟨w, List.mem_cons_of_mem _ hw, e⟩
theorem pushC_ok {n : Nat} : ∀ (l : List ChV) {q : SK} {o : List Int}, SI n q o → (∀ c ∈ l, ∀ v ∈ c.2.1, 0 ≤ v.1 ∧ v.1 < (n : Int)) →
    SI n (pushC l q) o ∧ (∀ j, seenAt q.1 j → seenAt (pushC l q).1 j) ∧ (∀ c ∈ l, ∀ v ∈ c.2.1, seenAt (pushC l q).1 v.1.toNat) ∧ ∀ x ∈ (pushC l q).2, x ∈ q.2 ∨ ∃ c ∈ l, ∃ v ∈ c.2.1, v.1 = x
  | [], q, o, h, _ => ⟨h, fun _ h => h, fun v hv => (by cases hv), fun x hx => .inl hx⟩
  | c :: l, q, o, h, hl => by
    obtain ⟨a, b, e, d⟩ := pushM_ok c.2.1 h (hl c (List.mem_cons_self ..))
    obtain ⟨a2, b2, e2, d2⟩ := pushC_ok l a (fun x hx => hl x (List.mem_cons_of_mem _ hx))
    refine ⟨a2, fun j hj => b2 j (b j hj), fun x hx v hv => ?_, fun x hx => ?_⟩
    · rcases List.mem_cons.1 hx with rfl | hx
      · exact b2 _ (e v hv)
      · exact e2 x hx v hv
    · rcases d2 x hx with h1 | ⟨y, hy, v, hv, h1⟩
      · rcases d x h1 with h1 | ⟨v, hv, h1⟩
        · exact .inl h1
        · exact .inr ⟨c, List.mem_cons_self .., v, hv, h1⟩
      · exact .inr ⟨y, List.mem_cons_of_mem _ hy, v, hv, h1⟩
theorem top_split {q : SK} (h : 0 < q.2.length) : q.2 = q.2.take (q.2.length - 1) ++ [topK q] := by
  have := drop_get (show q.2.length - 1 < q.2.length by omega) (0 : Int)
  rw [show q.2.length - 1 + 1 = q.2.length by omega, List.drop_length] at this
  unfold topK
  rw [← this, List.take_append_drop]
theorem SI.pop {n : Nat} {q : SK} {o : List Int} (h : SI n q o) (hl : 0 < q.2.length) : SI n (q.1, q.2.take (q.2.length - 1)) (o ++ [topK q]) := by
  have hp : ((o ++ [topK q]) ++ q.2.take (q.2.length - 1)).Perm (o ++ q.2) := by
    rw [List.append_assoc]
    refine List.Perm.append_left o ?_
    refine List.perm_append_comm.trans ?_
    rw [← top_split hl]
  exact ⟨h.len, fun x hx => h.rng x (hp.mem_iff.1 hx), hp.nodup_iff.2 h.nd, fun x hx => h.seen x (hp.mem_iff.1 hx), fun j hj => hp.mem_iff.2 (h.back j hj)⟩
theorem dfs_ok {i : Int} {ch : List (List ChV)} (hmv : ∀ l ∈ ch, ∀ c ∈ l, ∀ v ∈ c.2.1, 0 ≤ v.1 ∧ v.1 < (ch.length : Int)) : ∀ (f : Nat) {q : SK} {o : List Int}, SI ch.length q o → (∀ x ∈ o ++ q.2, Rc i ch x.toNat) → (∀ x ∈ o, ∀ c ∈ ch.getD x.toNat [], ∀ v ∈ c.2.1, seenAt q.1 v.1.toNat) → seenAt q.1 i.toNat → ch.length - o.length < f →
    ∃ R, dfs ch f q o = R ∧ R.Nodup ∧ (∀ x ∈ R, 0 ≤ x ∧ x < (ch.length : Int)) ∧ ∀ j : Nat, (j : Int) ∈ R ↔ Rc i ch j
  | 0, _, _, _, _, _, _, h => absurd h (Nat.not_lt_zero _)
  | f + 1, q, o, h, hr, hc, hi, hf => by
    rw [dfs]
    have hsz := h.size
    by_cases h0 : 0 < q.2.length
    · rw [show Nat.blt 0 q.2.length = true from Nat.ble_eq_true_of_le h0, cond_true]
      have hp := h.pop h0
      have ht : topK q ∈ o ++ q.2 := List.mem_append_right _ (by rw [top_split h0]; exact List.mem_append_right _ (List.mem_singleton.2 rfl))
      have htr := h.rng _ ht
      have hrow := hmv _ (get_mem (show (topK q).toNat < ch.length by omega) [])
      obtain ⟨a, b, c, d⟩ := pushC_ok (ch.getD (topK q).toNat []) hp hrow
      refine dfs_ok hmv f a (fun x hx => ?_) (fun x hx y hy v hv => ?_) (b _ hi) (by rw [List.length_append, List.length_singleton]; omega)
      · rcases List.mem_append.1 hx with hx | hx
        · rcases List.mem_append.1 hx with hx | hx
          · exact hr x (List.mem_append_left _ hx)
          · rw [List.mem_singleton.1 hx]; exact hr _ ht
        · rcases d x hx with h1 | ⟨y, hy, v, hv, e⟩
          · exact hr x (List.mem_append_right _ (List.mem_of_mem_take h1))
          · rw [← e]; exact .step (hr _ ht) hy hv
      · rcases List.mem_append.1 hx with hx | hx
        · exact b _ (hc x hx y hy v hv)
        · rw [List.mem_singleton.1 hx] at hy
          exact c y hy v hv
    · have e : q.2 = [] := List.length_eq_zero_iff.1 (by omega)
      rw [show Nat.blt 0 q.2.length = false by rw [e]; rfl, cond_false]
      have nd := h.nd
      have rng := h.rng
      have back := h.back
      rw [e, List.append_nil] at nd rng back
      refine ⟨o, rfl, nd, rng, fun j => ⟨fun hj => ?_, fun hj => ?_⟩⟩
      · have := hr _ (List.mem_append_left _ hj)
        simpa using this
      · refine back j ?_
        induction hj with
        | init => exact hi
        | step hs hc2 hv ih =>
          rename_i s c v
          exact hc (s : Int) (back s ih) c (by simpa using hc2) v hv
theorem dfs0_ok {i : Int} {ch : List (List ChV)} (hi : 0 ≤ i ∧ i < (ch.length : Int)) (hmv : ∀ l ∈ ch, ∀ c ∈ l, ∀ v ∈ c.2.1, 0 ≤ v.1 ∧ v.1 < (ch.length : Int)) :
    SI ch.length ((List.replicate ch.length false).set i.toNat true, [i]) [] ∧ (dfs0 i ch).Nodup ∧ (∀ x ∈ dfs0 i ch, 0 ≤ x ∧ x < (ch.length : Int)) ∧ ∀ j : Nat, (j : Int) ∈ dfs0 i ch ↔ Rc i ch j := by
  have hlen : i.toNat < (List.replicate ch.length false).length := by rw [List.length_replicate]; omega
  have hrep : ∀ j, (List.replicate ch.length false).getD j false = false := fun j => by
    rw [List.getD_eq_getElem?_getD, List.getElem?_replicate]
    split <;> rfl
  have h : SI ch.length ((List.replicate ch.length false).set i.toNat true, [i]) [] := by
    refine ⟨by rw [List.length_set, List.length_replicate], fun x hx => by rw [List.nil_append, List.mem_singleton] at hx; rw [hx]; exact hi, by simp, fun x hx => ?_, fun j hj => ?_⟩
    · rw [List.nil_append, List.mem_singleton] at hx
      rw [hx]
      show ((List.replicate ch.length false).set i.toNat true).getD i.toNat false = true
      rw [getD_setB _ _ _ hlen, if_pos rfl]
    · have hj : ((List.replicate ch.length false).set i.toNat true).getD j false = true := hj
      rw [getD_setB _ _ _ hlen, hrep] at hj
      rw [List.nil_append, List.mem_singleton]
      by_cases e : i.toNat = j
      · omega
      · rw [if_neg e] at hj; cases hj
  refine ⟨h, ?_⟩
  obtain ⟨R, e, a, b, c⟩ := dfs_ok (i := i) hmv (ch.length + 1) h (fun x hx => by rw [List.nil_append, List.mem_singleton] at hx; rw [hx]; exact .init) (fun x hx => by cases hx) (h.seen i (List.mem_singleton.2 rfl)) (by show ch.length - 0 < _; omega)
  have e : dfs0 i ch = R := e
  rw [e]
  exact ⟨a, b, c⟩
/-! ### the loops -/
section
variable (i : Int) (ch : List (List ChV)) (nm : List ByteArray) (ho : List (List Int))
theorem rc_loop2 {n : Nat} (hn : n ≤ 4096) (g0 : f24G0) (g1 : f24G1) (L : List ChV) (z : Int) (c : Nat) (hc : c ≤ 1000000) {mv : List MvV} (hm6 : mv.length ≤ 1000000) (hmv : ∀ v ∈ mv, 0 ≤ v.1 ∧ v.1 < (n : Int)) : ∀ (m k : Nat) {q : SK} {o : List Int}, SI n q o → k ≤ mv.length → mv.length - k < m →
    f24L2 1000001 g0 g1 m L z (c : Int) mv (zn mv.length) (k : Int) i ch nm ho q.1 q.2 o = g1 L z ((c + 1 : Nat) : Int) i ch nm ho (pushM (mv.drop k) q).1 (pushM (mv.drop k) q).2 o
  | 0, _, _, _, _, _, h => absurd h (Nat.not_lt_zero _)
  | m + 1, k, q, o, h, hk, hm => by
    have hsz := h.size
    show f24S2 g0 g1 (f24L2 1000001 g0 g1 m) L z (c : Int) mv (zn mv.length) (k : Int) i ch nm ho q.1 q.2 o = _
    unfold f24S2
    by_cases h0 : k < mv.length
    · have hv := hmv _ (get_mem h0 (0, 0, ()))
      have hin : inb (mv.getD k (0, 0, ())).1 q.1.length = true := by rw [h.len]; simp only [inb, Bool.and_eq_true, decide_eq_true_eq]; exact hv
      have e3 : ∀ x : Int, decide ((q.2.length + [x].length) * 8 ≤ 140737488355328) = true := fun x => by
        rw [decide_eq_true_eq, List.length_singleton]; omega
      rw [lt_k h0, inb_k h0, Int.toNat_natCast, hin, e3, wr_k (k := k) (by omega), drop_get h0 (0, 0, ())]
      have e0 : pushM (mv.getD k (0, 0, ()) :: mv.drop (k + 1)) q = pushM (mv.drop (k + 1)) (bif q.1.getD (mv.getD k (0, 0, ())).1.toNat false then q else (q.1.set (mv.getD k (0, 0, ())).1.toNat true, q.2 ++ [(mv.getD k (0, 0, ())).1])) := rfl
      rw [e0]
      have h1 := (pushM_ok [mv.getD k (0, 0, ())] h (fun v hv2 => by rw [List.mem_singleton.1 hv2]; exact hv)).1
      have e1 : pushM [mv.getD k (0, 0, ())] q = (bif q.1.getD (mv.getD k (0, 0, ())).1.toNat false then q else (q.1.set (mv.getD k (0, 0, ())).1.toNat true, q.2 ++ [(mv.getD k (0, 0, ())).1])) := rfl
      rw [e1] at h1
      have ih := rc_loop2 hn g0 g1 L z c hc hm6 hmv m (k + 1) h1 h0 (by omega)
      cases hs : q.1.getD (mv.getD k (0, 0, ())).1.toNat false with
      | true => rw [hs] at ih; exact ih
      | false => rw [hs] at ih; exact ih
    · rw [nlt_k h0, wr_k (k := c) (by omega), List.drop_eq_nil_of_le (by omega)]; rfl
theorem rc_loop1 {n : Nat} (hn : n ≤ 4096) (g0 : f24G0) {L : List ChV} (hL : L.length ≤ 1000000) (hm6 : ∀ c ∈ L, c.2.1.length ≤ 1000000) (hmv : ∀ c ∈ L, ∀ v ∈ c.2.1, 0 ≤ v.1 ∧ v.1 < (n : Int)) : ∀ (m c : Nat) {q : SK} {o : List Int}, SI n q o → c ≤ L.length → L.length - c < m →
    f24L1 1000001 g0 m L (zn L.length) (c : Int) i ch nm ho q.1 q.2 o = g0 i ch nm ho (pushC (L.drop c) q).1 (pushC (L.drop c) q).2 o
  | 0, _, _, _, _, _, h => absurd h (Nat.not_lt_zero _)
  | m + 1, c, q, o, h, hk, hm => by
    show f24S1 (f24L2 1000001 g0 (f24L1 1000001 g0 m) 1000001) g0 (f24L1 1000001 g0 m) L (zn L.length) (c : Int) i ch nm ho q.1 q.2 o = _
    unfold f24S1
    by_cases h0 : c < L.length
    · have hmem := get_mem h0 ({ data := #[] }, [], ())
      rw [lt_k h0, inb_k h0, Int.toNat_natCast, drop_get h0 ({ data := #[] }, [], ())]
      refine (rc_loop2 i ch nm ho hn g0 (f24L1 1000001 g0 m) L (zn L.length) c (by omega) (hm6 _ hmem) (hmv _ hmem) 1000001 0 h (Nat.zero_le _) (by have := hm6 _ hmem; omega)).trans ?_
      rw [List.drop_zero]
      exact rc_loop1 hn g0 hL hm6 hmv m (c + 1) (pushM_ok _ h (hmv _ hmem)).1 h0 (by omega)
    · rw [nlt_k h0, List.drop_eq_nil_of_le (by omega)]; rfl
theorem rc_loop0 (hn : ch.length ≤ 4096) (hmv : ∀ l ∈ ch, ∀ c ∈ l, ∀ v ∈ c.2.1, 0 ≤ v.1 ∧ v.1 < (ch.length : Int)) (hm6 : ∀ l ∈ ch, l.length ≤ 1000000 ∧ ∀ c ∈ l, c.2.1.length ≤ 1000000) : ∀ (m f : Nat) {q : SK} {o : List Int}, SI ch.length q o → 0 < o.length + q.2.length → ch.length - o.length < f → f ≤ m →
    f24L0 1000001 m i ch nm ho q.1 q.2 o = some ⟨[.one (.rw ⟨1, 0⟩)], [], [roI (sortI (dfs ch f q o))]⟩
  | _, 0, _, _, _, _, h, _ => absurd h (Nat.not_lt_zero _)
  | 0, _ + 1, _, _, _, _, _, h => absurd h (Nat.not_succ_le_zero _)
  | m + 1, f + 1, q, o, h, hpos, hf, hfm => by
    have hsz := h.size
    show f24S0 (f24L1 1000001 (f24L0 1000001 m) 1000001) (f24L0 1000001 m) i ch nm ho q.1 q.2 o = _
    unfold f24S0
    rw [dfs]
    by_cases h0 : 0 < q.2.length
    · have ew : IntKind.i64.wrap (zn q.2.length - 1) = ((q.2.length - 1 : Nat) : Int) := by
        have e : zn q.2.length - 1 = ((q.2.length - 1 : Nat) : Int) := by simp only [zn]; omega
        rw [e, i64_wrap_in (by omega) (by omega)]
      have hp := h.pop h0
      have ht : topK q ∈ o ++ q.2 := List.mem_append_right _ (by rw [top_split h0]; exact List.mem_append_right _ (List.mem_singleton.2 rfl))
      have htr := h.rng _ ht
      have hin : inb (q.2.getD (q.2.length - 1) 0) ch.length = true := by simp only [inb, Bool.and_eq_true, decide_eq_true_eq]; exact htr
      have e3 : ∀ x : Int, decide ((o.length + [x].length) * 8 ≤ 140737488355328) = true := fun x => by
        rw [decide_eq_true_eq, List.length_singleton]; omega
      have e2 : inb2 0 ((q.2.length - 1 : Nat) : Int) q.2.length = true := by
        simp only [inb2, Bool.and_eq_true, decide_eq_true_eq]; omega
      have hrl := get_mem (show (topK q).toNat < ch.length by omega) []
      rw [show Nat.blt 0 q.2.length = true from Nat.ble_eq_true_of_le h0, decide_eq_true (show zn q.2.length > 0 by simp only [zn]; omega), ew, inb_k (show q.2.length - 1 < q.2.length by omega), e2, Int.toNat_natCast, e3, hin, Nat.sub_zero]
      refine (rc_loop1 i ch nm ho hn (f24L0 1000001 m) (hm6 _ hrl).1 (hm6 _ hrl).2 (hmv _ hrl) 1000001 0 (q := (q.1, q.2.take (q.2.length - 1))) (o := o ++ [topK q]) hp (Nat.zero_le _) (by have := (hm6 _ hrl).1; omega)).trans ?_
      rw [List.drop_zero]
      exact rc_loop0 hn hmv hm6 m f (pushC_ok _ hp (hmv _ hrl)).1 (by rw [List.length_append, List.length_singleton]; omega) (by rw [List.length_append, List.length_singleton]; omega) (by omega)
    · have e : q.2 = [] := List.length_eq_zero_iff.1 (by omega)
      rw [show Nat.blt 0 q.2.length = false by rw [e]; rfl, decide_eq_false (show ¬ zn q.2.length > 0 by simp only [zn]; omega), ble_of (show 1 ≤ o.length by omega), ble_of (show o.length ≤ 1000000 by omega)]; rfl
end
theorem reach_T (i : Int) (ch : List (List ChV)) (nm : List ByteArray) (ho : List (List Int)) (h : ofMG ch nm ho = true) : f24M 1000001 i ch nm ho = some ⟨[.one (.rw ⟨1, 0⟩)], [], [roI (reachL i ch nm ho)]⟩ := by
  unfold f24M f24T reachL
  rw [mdG_of h]
  cases hc : mdOk i ch nm ho with
  | false => rfl
  | true =>
    have hc2 := hc
    unfold mdOk at hc
    simp only [Bool.and_eq_true] at hc
    obtain ⟨h1, _, h2⟩ := hc
    have h1 := headM_p h1
    have hmv : ∀ l ∈ ch, ∀ c ∈ l, ∀ v ∈ c.2.1, 0 ≤ v.1 ∧ v.1 < (ch.length : Int) := fun l hl c hc v hv => by
      have := rows_mem h2 l hl c hc
      unfold okC at this
      rw [Bool.and_eq_true] at this
      exact mvF_range this.2 v hv
    have hm6 : ∀ l ∈ ch, l.length ≤ 1000000 ∧ ∀ c ∈ l, c.2.1.length ≤ 1000000 := fun l hl => by
      unfold ofMG m6 at h
      simp only [Bool.and_eq_true, List.all_eq_true] at h
      exact ⟨of_ble (h.1.2 l hl).1, fun c hc => of_ble ((h.1.2 l hl).2 c hc)⟩
    obtain ⟨hsi, _⟩ := dfs0_ok h1.2.1 hmv
    have e1 : (decide (0 ≤ zn ch.length) && (decide (zn ch.length ≤ zn ch.length) && decide (1 * (zn ch.length).toNat ≤ 140737488355328))) = true := by
      rw [decide_eq_true (show 0 ≤ zn ch.length by simp only [zn]; omega), decide_eq_true (Int.le_refl _), decide_eq_true (show 1 * (zn ch.length).toNat ≤ 140737488355328 by simp only [zn]; omega)]; rfl
    have hin : inb i (List.replicate (zn ch.length).toNat false).length = true := by
      rw [List.length_replicate]
      simp only [inb, Bool.and_eq_true, decide_eq_true_eq, zn]; omega
    rw [e1, hin]
    exact rc_loop0 i ch nm ho h1.1.2 hmv hm6 1000001 (ch.length + 1) hsi (by show 0 < 0 + 1; omega) (by show ch.length - 0 < _; omega) (by omega)
theorem br_pick {c : Bool} {o : Out} {lf : Lf} (h : (Out.br c o .fail).pick = some lf) : c = true ∧ o.pick = some lf := by
  simp only [Out.pick] at h
  cases c with
  | false => cases h
  | true => exact ⟨rfl, h⟩
theorem leaf_pick {a : List Pt} {b c : List Ob} {lf : Lf} (h : (Out.leaf a b c).pick = some lf) : lf = ⟨a, b, c⟩ := by
  simp only [Out.pick, Option.some.injEq] at h
  exact h.symm
theorem reach_ok : FnOk P C0 24 reachS := by
  refine fn_okC ctx40 (show P.funcs[24]? = some f24f by kernel_rfl) (of_decide_eq_true (by kernel_rfl)) (reachS) f24h (fun ds os lf hp => ?_)
  unfold reachS at hp
  simp only at hp
  split at hp
  · rename_i i ch nm ho
    obtain ⟨hc, hp1⟩ := br_pick hp
    have hl := leaf_pick hp1
    subst hl
    exact ⟨_, (f24_ev _ i ch nm ho).trans (reach_T i ch nm ho hc)⟩
  · cases hp
/-- how many there are: just those that can be come to -/
theorem reach_len {i : Int} {ch : List (List ChV)} {nm : List ByteArray} {ho : List (List Int)} (h : mdOk i ch nm ho = true) : (reachL i ch nm ho).length = (dfs0 i ch).length := by
  unfold reachL
  rw [h, cond_true, sortI_len]
end Go.S23
