/-
  Seat 01: the contracts of Has and Next.
-/
import Derived.Test.YtjmpbpggbkkhpaaDoorS01G2
open Go Go.En
namespace Go.S1
theorem ctx2 : CtxOk C2 := fun _ _ h => tbl_ok (l := l2) ⟨in_ok, size_ok, new_ok, count0_ok, copy0_ok, same0_ok, tz_ok, trivial⟩ h
/-- a set's words -/
structure Ok (n : Int) (ws : List Int) : Prop where
  lo : 0 ≤ n
  hi : n ≤ 4096
  len : ws.length = (n.toNat + 63) / 64
  w : ∀ x ∈ ws, 0 ≤ x ∧ x < 18446744073709551616
  t : top n ws = true
theorem okS_iff {n : Int} {ws : List Int} : okS n ws = true ↔ Ok n ws := by
  unfold okS wok
  simp only [Bool.and_eq_true, decide_eq_true_eq, Nat.beq_eq, List.all_eq_true]
  exact ⟨fun h => ⟨h.1, h.2.1, h.2.2.1, h.2.2.2.1, h.2.2.2.2⟩, fun h => ⟨h.1, h.2, h.3, h.4, h.5⟩⟩
theorem inF_iff {n i : Int} : inF n i = true ↔ 0 ≤ i ∧ i < n := by simp [inF]
theorem wr_div {i : Int} (h0 : 0 ≤ i) (h1 : i < 4096) : IntKind.i64.wrap (i.tdiv 64) = ((i.toNat / 64 : Nat) : Int) := by
  rw [Int.tdiv_eq_ediv_of_nonneg h0, i64_wrap_in (by omega) (by omega)]; omega
theorem tdiv_nat {i : Int} (h0 : 0 ≤ i) : (i.tdiv 64).toNat = i.toNat / 64 := by
  rw [Int.tdiv_eq_ediv_of_nonneg h0]; omega
theorem tmod_nat {i : Int} (h0 : 0 ≤ i) : i.tmod 64 = ((i.toNat % 64 : Nat) : Int) := by
  rw [Int.tmod_eq_emod_of_nonneg h0]; omega
theorem inb_div {n i : Int} {ws : List Int} (h : Ok n ws) (hi : inF n i = true) : inb ((i.toNat / 64 : Nat) : Int) ws.length = true := by
  rw [inF_iff] at hi
  have := h.len; have := h.lo; have := h.hi
  simp only [inb, Bool.and_eq_true, decide_eq_true_eq]; omega
theorem has_T {n i : Int} {ws : List Int} (h : Ok n ws) : f15T n ws i = some ⟨[pB (hasF n ws i)], [vaS ⟨0, 1⟩ n, roW ws], []⟩ := by
  unfold f15T hasF wd
  cases hi : inF n i with
  | false => rfl
  | true =>
    have hi' := inF_iff.1 hi
    have hh := h.hi
    have e1 : IntKind.i64.wrap (i.tdiv 64) = ((i.toNat / 64 : Nat) : Int) := wr_div hi'.1 (by omega)
    have e2 : decide (0 ≤ i.tmod 64) = true := by rw [tmod_nat hi'.1, decide_eq_true_eq]; omega
    rw [e1, inb_div h hi, e2, tdiv_nat hi'.1]
    rfl
theorem has_ok : FnOk P C0 15 hasS := by
  refine fn_okC ctx2 (show P.funcs[15]? = some f15f by kernel_rfl) (of_decide_eq_true (by kernel_rfl)) hasS f15h (fun ds os lf hp => ?_)
  unfold hasS at hp
  simp only at hp
  split at hp
  · rename_i i
    simp only [Out.pick, Option.some.injEq] at hp
    subst hp
    exact ⟨0, f15n_ev 0 i⟩
  · rename_i i n e ws
    obtain ⟨rfl, hq⟩ := gS_pick hp
    replace hp := hq
    simp only [Out.pick] at hp
    cases hc : (okS n ws) with
    | false => rw [hc] at hp; cases hp
    | true =>
      rw [hc] at hp
      simp only [cond_true, Option.some.injEq] at hp
      subst hp
      exact ⟨0, (f15_ev 0 n ws i).trans (has_T (okS_iff.1 hc))⟩
  · cases hp
theorem getD_drop {l : List Int} {k : Nat} (h : k < l.length) (d : Int) : l.drop k = l.getD k d :: l.drop (k + 1) := by
  rw [List.drop_eq_getElem_cons h]; simp [List.getD_eq_getElem?_getD, h]
theorem getD_mem {l : List Int} {k : Nat} (h : k < l.length) : l.getD k 0 ∈ l := by
  have : l.getD k 0 = l[k] := by simp [List.getD_eq_getElem?_getD, h]
  rw [this]; exact List.getElem_mem h
theorem ctz_le (x : Nat) (h : x < 18446744073709551616) : Lib.ctz 64 x ≤ 64 := by
  by_cases h0 : x = 0
  · subst h0; exact Nat.le_refl _
  · exact Nat.le_of_lt (Lib.lowest_bit 64 x h0 h).2
theorem next_loop {z : Int} {ws : List Int} (h : Ok z ws) : ∀ (m n k : Nat) (w : Int), k < ws.length → ws.length - k ≤ m → 0 ≤ w → w < 18446744073709551616 →
    f12L0 n m (k : Int) w z ws = some ⟨[pI (scanF k w (ws.drop (k + 1))).1, pB (scanF k w (ws.drop (k + 1))).2], [vaS ⟨0, 1⟩ z, roW ws], []⟩
  | 0, _, _, _, hk, hm, _, _ => absurd hm (by omega)
  | m + 1, n, k, w, hk, hm, hw0, hw1 => by
    have hl : ws.length ≤ 64 := by have := h.len; have := h.hi; omega
    show f12S0 (f12L0 n m) (k : Int) w z ws = _
    unfold f12S0
    by_cases h0 : w = 0
    · subst h0
      have e1 : IntKind.i64.wrap ((k : Int) + 1) = ((k + 1 : Nat) : Int) := by rw [i64_wrap_in (by omega) (by omega)]; rfl
      rw [e1]
      by_cases hk1 : k + 1 = ws.length
      · have e2 : (((k + 1 : Nat) : Int) == zn ws.length) = true := by simp only [zn, beq_iff_eq]; omega
        rw [e2, List.drop_eq_nil_of_le (by omega)]; rfl
      · have e2 : (((k + 1 : Nat) : Int) == zn ws.length) = false := by simp only [zn, beq_eq_false_iff_ne]; omega
        have e3 : inb ((k + 1 : Nat) : Int) ws.length = true := by simp only [inb, Bool.and_eq_true, decide_eq_true_eq]; omega
        have hx := h.w _ (getD_mem (k := k + 1) (l := ws) (by omega))
        rw [e2, e3, Int.toNat_natCast, next_loop h m n (k + 1) _ (by omega) (by omega) hx.1 hx.2, getD_drop (k := k + 1) (by omega) 0]
        rfl
    · have e1 : (w == 0) = false := by simpa using h0
      have e2 : (decide (0 ≤ w) && decide (w < 18446744073709551616)) = true := by
        rw [Bool.and_eq_true, decide_eq_true_eq, decide_eq_true_eq]; exact ⟨hw0, hw1⟩
      have hc := ctz_le w.toNat (by omega)
      have e3 : IntKind.i64.wrap (IntKind.i64.wrap ((k : Int) * 64) + zn (Lib.ctz 64 w.toNat)) = ((k * 64 + Lib.ctz 64 w.toNat : Nat) : Int) := by
        unfold zn
        rw [i64_wrap_in (n := (k : Int) * 64) (by omega) (by omega), i64_wrap_in (by omega) (by omega)]
        simp
      have e4 : (w != 0) = true := by simpa using h0
      have e5 : scanF k w (ws.drop (k + 1)) = (((k * 64 + Lib.ctz 64 w.toNat : Nat) : Int), true) := by
        unfold scanF; rw [e4]; rfl
      rw [e1, e2, e3, e5]; rfl
theorem next_T {z i : Int} {ws : List Int} (h : Ok z ws) (n : Nat) : f12T (f12L0 n 65) z ws i = some ⟨[pI (nextF z ws i).1, pB (nextF z ws i).2], [vaS ⟨0, 1⟩ z, roW ws], []⟩ := by
  have hl : ws.length ≤ 64 := by have := h.len; have := h.hi; omega
  unfold f12T nextF
  show (bif !inF z (fr i) then _ else bif inb (IntKind.i64.wrap ((fr i).tdiv 64)) ws.length then bif decide (0 ≤ (fr i).tmod 64) then bif decide (0 ≤ (fr i).tmod 64) then f12L0 n 65 (IntKind.i64.wrap ((fr i).tdiv 64)) (shlF IntKind.u64 (shrF IntKind.u64 (ws.getD (IntKind.i64.wrap ((fr i).tdiv 64)).toNat 0) ((fr i).tmod 64)) ((fr i).tmod 64)) z ws else none else none else none) = _
  generalize fr i = j
  cases hi : inF z j with
  | false => rfl
  | true =>
    have hi' := inF_iff.1 hi
    have hh := h.hi
    have e1 : IntKind.i64.wrap (j.tdiv 64) = ((j.toNat / 64 : Nat) : Int) := wr_div hi'.1 (by omega)
    have e2 : decide (0 ≤ j.tmod 64) = true := by rw [tmod_nat hi'.1, decide_eq_true_eq]; omega
    have hb := inb_div h hi
    have hk : j.toNat / 64 < ws.length := by
      simp only [inb, Bool.and_eq_true, decide_eq_true_eq] at hb; omega
    rw [e1, hb, e2, Int.toNat_natCast]
    have hr : 0 ≤ shlF IntKind.u64 (shrF IntKind.u64 (ws.getD (j.toNat / 64) 0) (j.tmod 64)) (j.tmod 64) ∧ shlF IntKind.u64 (shrF IntKind.u64 (ws.getD (j.toNat / 64) 0) (j.tmod 64)) (j.tmod 64) ≤ 18446744073709551615 := u64_wrap_range _
    show f12L0 n 65 ((j.toNat / 64 : Nat) : Int) (shlF IntKind.u64 (shrF IntKind.u64 (ws.getD (j.toNat / 64) 0) (j.tmod 64)) (j.tmod 64)) z ws = _
    rw [next_loop h 65 n (j.toNat / 64) _ hk (by omega) hr.1 (by omega)]
    unfold wd
    rw [tdiv_nat hi'.1]
    rfl
theorem next_all {z i : Int} {ws : List Int} (h : Ok z ws) : ∃ n, f12M n z ws i = some ⟨[pI (nextF z ws i).1, pB (nextF z ws i).2], [vaS ⟨0, 1⟩ z, roW ws], []⟩ := ⟨65, next_T h 65⟩
theorem next_ok : FnOk P C0 12 nextS := by
  refine fn_okC ctx2 (show P.funcs[12]? = some f12f by kernel_rfl) (of_decide_eq_true (by kernel_rfl)) nextS f12h (fun ds os lf hp => ?_)
  unfold nextS at hp
  simp only at hp
  split at hp
  · rename_i i
    simp only [Out.pick, Option.some.injEq] at hp
    subst hp
    exact ⟨0, f12n_ev 0 i⟩
  · rename_i i n e ws
    obtain ⟨rfl, hq⟩ := gS_pick hp
    replace hp := hq
    simp only [Out.pick] at hp
    cases hc : (okS n ws) with
    | false => rw [hc] at hp; cases hp
    | true =>
      rw [hc] at hp
      simp only [cond_true, Option.some.injEq] at hp
      subst hp
      obtain ⟨m, hm⟩ := next_all (i := i) (okS_iff.1 hc)
      exact ⟨m, (f12_ev m n ws i).trans hm⟩
  · cases hp
end Go.S1
