/-
  Seat 02 (intern): the contracts of Find, At and Put.
-/
import Derived.Test.YtbdicebddicbkaaDoorS42G3
import Derived.Test.YtbdicebddicbkaaDoorS42N
open Go Go.En
namespace Go.S2
theorem ctx2 : CtxOk C2 := fun _ _ h => tbl_ok (l := l2) ⟨hash_ok, clone_ok, equal_ok, same_ok, new_ok, len_ok, trivial⟩ h
theorem big_of {v : List Int} (h : v.length ≤ 64) : big v = true := Nat.ble_eq_true_of_le (by omega)
theorem find_loop {l : List (List Int)} {v : List Int} (hl : ∀ x ∈ l, x.length ≤ 64) (hlen : l.length ≤ 100000) (hv : big v = true) (n : Nat) : ∀ (k m : Nat), k ≤ l.length → k < m →
    f7L0 n m v (ch l (hash v) k) (firstOf l) l (nextOf l) = some ⟨[pI (srch l v k).1, pB (srch l v k).2], [vaT ⟨0, 1⟩ ⟨0, 2⟩ (firstOf l), roL l, roN (nextOf l)], []⟩ := by
  intro k
  induction k using Nat.strongRecOn with
  | _ k ih =>
    intro m hk hm
    cases k with
    | zero =>
      cases m with
      | zero => exact absurd hm (Nat.not_lt_zero _)
      | succ m => rfl
    | succ k =>
      rw [ch_succ (by omega)]
      have hx : (l.getD k []).length ≤ 64 := by
        have : l.getD k [] = l[k] := by simp [List.getD_eq_getElem?_getD, show k < l.length by omega]
        rw [this]; exact hl _ (List.getElem_mem _)
      cases hh : (hash (l.getD k []) == hash v) with
      | false =>
        have hs : same (l.getD k []) v = false := by
          cases hs : same (l.getD k []) v with
          | false => rfl
          | true => rw [same_iff.1 hs] at hh; simp at hh
        rw [cond_false, ih k (by omega) m (by omega) (by omega)]
        rw [show srch l v (k + 1) = bif same (l.getD k []) v then ((k : Int), true) else srch l v k from rfl, hs]
        rfl
      | true =>
        rw [cond_true]
        cases m with
        | zero => exact absurd hm (Nat.not_lt_zero _)
        | succ m =>
          show f7S0 (f7L0 n m) v ((k + 1 : Nat) : Int) (firstOf l) l (nextOf l) = _
          unfold f7S0
          have e0 : (((k + 1 : Nat) : Int) != 0) = true := by simp only [bne_iff_ne]; omega
          have e1 : IntKind.i64.wrap (((k + 1 : Nat) : Int) - 1) = (k : Int) := by
            rw [i64_wrap_in (by omega) (by omega)]; omega
          have e2 : inb (k : Int) l.length = true := by simp only [inb, Bool.and_eq_true, decide_eq_true_eq]; omega
          have e3 : inb (k : Int) (nextOf l).length = true := by rw [nextOf_len]; exact e2
          rw [e0, e1, e2, e3]
          simp only [Int.toNat_natCast]
          rw [big_of hx, hv, nextOf_get l (by omega), eq_of_beq hh, ih k (by omega) m (by omega) (by omega)]
          show (bif same (l.getD k []) v then some (Lf.mk [pI (k : Int), pB true] [vaT ⟨0, 1⟩ ⟨0, 2⟩ (firstOf l), roL l, roN (nextOf l)] []) else _) = some (Lf.mk [pI (bif same (l.getD k []) v then ((k : Int), true) else srch l v k).1, pB (bif same (l.getD k []) v then ((k : Int), true) else srch l v k).2] _ _)
          cases same (l.getD k []) v <;> rfl
theorem inb_hash (v : List Int) : inb (hash v) 257 = true := by
  have := hash_range v
  simp only [inb, Bool.and_eq_true, decide_eq_true_eq]; omega
theorem find_ok : FnOk P C0 7 findS := by
  refine fn_okC ctx2 (show P.funcs[7]? = some f7f by kernel_rfl) (of_decide_eq_true (by kernel_rfl)) findS f7h (fun ds os lf hp => ?_)
  unfold findS at hp
  simp only at hp
  split at hp
  · rename_i v n a e1 e2 l e3 b
    obtain ⟨rfl, rfl, rfl, rfl, hq⟩ := gT_pick hp
    replace hp := hq
    simp only [Out.pick] at hp
    cases hc : (okT l a b && big v) with
    | false => rw [hc] at hp; cases hp
    | true =>
      rw [hc] at hp
      simp only [cond_true, Option.some.injEq] at hp
      subst hp
      rw [Bool.and_eq_true, okT_iff] at hc
      obtain ⟨⟨hn, hl, hlen, rfl, rfl⟩, hv⟩ := hc
      refine ⟨l.length + 1, (f7_ev _ l _ _ v).trans ?_⟩
      unfold f7M f7T
      rw [hv, inb_hash v]
      simp only [cond_true]
      rw [firstOf_get l (hash_range v).1 (hash_range v).2, find_loop hl hlen hv _ _ _ (Nat.le_refl _) (by omega), srch_fnd hn]
  · cases hp
theorem at_T {l : List (List Int)} {i : Int} (hl : ∀ x ∈ l, x.length ≤ 64) : f11T l (firstOf l) (nextOf l) i = some ⟨[.one (.rw ⟨1, 0⟩), pB (atF l i).2], [vaT ⟨0, 1⟩ ⟨0, 2⟩ (firstOf l), roL l, roN (nextOf l)], [roV (atF l i).1]⟩ := by
  unfold f11T atF
  have e5 : (decide (i < 0) || true) = true := by cases decide (i < 0) <;> rfl
  by_cases h : 0 ≤ i ∧ i < l.length
  · have e1 : decide (i < 0) = false := by simp only [decide_eq_false_iff_not]; omega
    have e2 : decide (i ≥ zn l.length) = false := by simp only [zn, decide_eq_false_iff_not]; omega
    have e3 : inb i l.length = true := by simp only [inb, Bool.and_eq_true, decide_eq_true_eq]; exact h
    have hx : (l.getD i.toNat []).length ≤ 64 := by
      have hi : i.toNat < l.length := by omega
      have : l.getD i.toNat [] = l[i.toNat] := by simp [List.getD_eq_getElem?_getD, hi]
      rw [this]; exact hl _ (List.getElem_mem _)
    have e4 : (l.getD i.toNat []).length.ble 1000000 = true := Nat.ble_eq_true_of_le (by omega)
    rw [e1, e2, e3, e4]; rfl
  · have e3 : inb i l.length = false := by
      cases h3 : inb i l.length with
      | false => rfl
      | true => simp only [inb, Bool.and_eq_true, decide_eq_true_eq] at h3; exact absurd h3 h
    have e1 : (decide (i < 0) || decide (i ≥ zn l.length)) = true := by
      simp only [Bool.or_eq_true, decide_eq_true_eq, zn]; omega
    rw [e1, e3, e5]; rfl
theorem at_ok : FnOk P C0 11 atS := by
  refine fn_okC ctx2 (show P.funcs[11]? = some f11f by kernel_rfl) (of_decide_eq_true (by kernel_rfl)) atS f11h (fun ds os lf hp => ?_)
  unfold atS at hp
  simp only at hp
  split at hp
  · rename_i i n a e1 e2 l e3 b
    obtain ⟨rfl, rfl, rfl, rfl, hq⟩ := gT_pick hp
    replace hp := hq
    simp only [Out.pick] at hp
    cases hc : (okT l a b) with
    | false => rw [hc] at hp; cases hp
    | true =>
      rw [hc] at hp
      simp only [cond_true, Option.some.injEq] at hp
      subst hp
      rw [okT_iff] at hc
      obtain ⟨hn, hl, hlen, rfl, rfl⟩ := hc
      exact ⟨0, (f11_ev _ l _ _ i).trans (at_T hl)⟩
  · cases hp
theorem ctx3 : CtxOk C3 := fun _ _ h => tbl_ok (l := l3) ⟨find_ok, at_ok, hash_ok, clone_ok, equal_ok, same_ok, new_ok, len_ok, trivial⟩ h
theorem put_ok : FnOk P C0 8 putS := by
  refine fn_okC ctx3 (show P.funcs[8]? = some f8f by kernel_rfl) (of_decide_eq_true (by kernel_rfl)) putS f8h (fun ds os lf hp => ?_)
  unfold putS at hp
  simp only at hp
  split at hp
  · rename_i v n a e1 e2 l e3 b
    obtain ⟨rfl, rfl, rfl, rfl, hq⟩ := gT_pick hp
    replace hp := hq
    simp only [Out.pick] at hp
    cases hc : (okT l a b && big v) with
    | false => rw [hc] at hp; cases hp
    | true =>
      rw [hc] at hp
      simp only [cond_true] at hp
      have hc0 := hc
      rw [Bool.and_eq_true, okT_iff] at hc
      obtain ⟨⟨hn, hl, hlen, rfl, rfl⟩, hv⟩ := hc
      refine ⟨0, (f8_ev _ l _ _ v).trans ?_⟩
      show f8T l _ _ v = _
      rw [← hp]
      unfold f8T putN putB putE long
      by_cases h64 : v.length ≤ 64
      · have e1 : decide (zn v.length > 64) = false := by simp only [zn, decide_eq_false_iff_not]; omega
        have e2 : (!v.length.ble 64) = false := by rw [Nat.ble_eq_true_of_le h64]; rfl
        rw [e1, e2, hc0]
        cases hf : (fnd l v).2 with
        | true => rfl
        | false =>
          have e3 : v.length.ble 1000000 = true := Nat.ble_eq_true_of_le (by omega)
          have e4 : decide ((l.length + [v].length) * 24 ≤ 140737488355328) = true := by simp only [List.length_singleton, decide_eq_true_eq]; omega
          have e5 : decide (((nextOf l).length + [(firstOf l).getD (S2.hash v).toNat 0].length) * 8 ≤ 140737488355328) = true := by rw [nextOf_len]; simp only [List.length_singleton, decide_eq_true_eq]; omega
          have e6 : IntKind.i64.wrap (zn (l ++ [v]).length - 1) = (l.length : Int) := by
            simp only [zn, List.length_append, List.length_singleton]
            rw [i64_wrap_in (by omega) (by omega)]; omega
          have e7 : (firstOf l).set (S2.hash v).toNat (zn (l ++ [v]).length) = firstOf (l ++ [v]) := by
            rw [firstOf_append]; simp [zn]
          have e8 : nextOf l ++ [(firstOf l).getD (S2.hash v).toNat 0] = nextOf (l ++ [v]) := by
            rw [nextOf_append, firstOf_get l (hash_range v).1 (hash_range v).2]
          rw [hv, e3, e4, inb_hash v, e5, e6, e7, e8]
          rfl
      · have e1 : decide (zn v.length > 64) = true := by simp only [zn, decide_eq_true_eq]; omega
        have e2 : (!v.length.ble 64) = true := by
          cases h : v.length.ble 64 with
          | false => rfl
          | true => exact absurd (Nat.le_of_ble_eq_true h) h64
        rw [e1, e2]; rfl
  · cases hp
end Go.S2
