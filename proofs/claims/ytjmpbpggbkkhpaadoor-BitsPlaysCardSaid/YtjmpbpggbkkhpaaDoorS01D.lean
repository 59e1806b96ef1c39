/-
  Seat 01: the contracts of Add, Del and Items.
-/
import Derived.Test.YtjmpbpggbkkhpaaDoorS01G3
import Derived.Test.YtjmpbpggbkkhpaaDoorS01N
open Go Go.En
namespace Go.S1
theorem ctx3 : CtxOk C3 := fun _ _ h => tbl_ok (l := l3) ⟨has_ok, next_ok, in_ok, size_ok, new_ok, count0_ok, copy0_ok, same0_ok, tz_ok, trivial⟩ h
theorem add_T {n i : Int} {ws : List Int} (h : Ok n ws) : f10T n ws i = some ⟨[pB (addB n ws i)], [vaS ⟨0, 1⟩ n, roW (addW n ws i)], []⟩ := by
  unfold f10T addW addB
  cases hi : inF n i with
  | false => rfl
  | true =>
    have hi' := inF_iff.1 hi
    have hh := h.hi
    have e1 : IntKind.i64.wrap (i.tdiv 64) = ((i.toNat / 64 : Nat) : Int) := wr_div hi'.1 (by omega)
    have e2 : decide (0 ≤ i.tmod 64) = true := by rw [tmod_nat hi'.1, decide_eq_true_eq]; omega
    rw [okS_iff.2 h, e1, inb_div h hi, e2]
    unfold wd
    rw [tdiv_nat hi'.1]
    cases hasF n ws i <;> rfl
theorem del_T {n i : Int} {ws : List Int} (h : Ok n ws) : f28T n ws i = some ⟨[pB (hasF n ws i)], [vaS ⟨0, 1⟩ n, roW (delW n ws i)], []⟩ := by
  unfold f28T delW
  rw [okS_iff.2 h]
  cases hf : hasF n ws i with
  | false => rfl
  | true =>
    have hi' := ((has_iff h).1 hf).1
    have hi := inF_iff.2 hi'
    have hh := h.hi
    have e1 : IntKind.i64.wrap (i.tdiv 64) = ((i.toNat / 64 : Nat) : Int) := wr_div hi'.1 (by omega)
    have e2 : decide (0 ≤ i.tmod 64) = true := by rw [tmod_nat hi'.1, decide_eq_true_eq]; omega
    rw [e1, inb_div h hi, e2]
    unfold wd
    rw [tdiv_nat hi'.1]
    rfl
theorem add_ok : FnOk P C0 10 addS := by
  refine fn_okC ctx3 (show P.funcs[10]? = some f10f by kernel_rfl) (of_decide_eq_true (by kernel_rfl)) addS f10h (fun ds os lf hp => ?_)
  unfold addS at hp
  simp only at hp
  split at hp
  · rename_i i
    simp only [Out.pick, Option.some.injEq] at hp
    subst hp
    exact ⟨0, f10n_ev 0 i⟩
  · rename_i i n e ws
    obtain ⟨rfl, hq⟩ := gS_pick hp
    replace hp := hq
    simp only [Out.pick] at hp
    cases hc : (okS n ws) with
    | false => rw [hc] at hp; cases hp
    | true =>
      rw [hc] at hp
      simp only [cond_true, Option.some.injEq] at hp
      subst hp
      exact ⟨0, (f10_ev 0 n ws i).trans (add_T (okS_iff.1 hc))⟩
  · cases hp
theorem del_ok : FnOk P C0 28 delS := by
  refine fn_okC ctx3 (show P.funcs[28]? = some f28f by kernel_rfl) (of_decide_eq_true (by kernel_rfl)) delS f28h (fun ds os lf hp => ?_)
  unfold delS at hp
  simp only at hp
  split at hp
  · rename_i i
    simp only [Out.pick, Option.some.injEq] at hp
    subst hp
    exact ⟨0, f28n_ev 0 i⟩
  · rename_i i n e ws
    obtain ⟨rfl, hq⟩ := gS_pick hp
    replace hp := hq
    simp only [Out.pick] at hp
    cases hc : (okS n ws) with
    | false => rw [hc] at hp; cases hp
    | true =>
      rw [hc] at hp
      simp only [cond_true, Option.some.injEq] at hp
      subst hp
      exact ⟨0, (f28_ev 0 n ws i).trans (del_T (okS_iff.1 hc))⟩
  · cases hp
theorem itemsB_succ (z : Int) (ws : List Int) (m : Nat) : itemsB z ws (m + 1) = itemsB z ws m ++ (bif hasF z ws (m : Nat) then [(m : Int)] else []) := by
  unfold itemsB
  rw [List.range_succ, List.filter_append, List.map_append]
  cases h : hasF z ws (m : Nat) with
  | true => simp [h]
  | false => simp [h]
theorem itemsB_none {z : Int} {ws : List Int} {i : Nat} : ∀ {d : Nat}, (∀ q, i ≤ q → q < i + d → hasF z ws (q : Nat) = false) → itemsB z ws (i + d) = itemsB z ws i
  | 0, _ => rfl
  | d + 1, h => by
    rw [← Nat.add_assoc, itemsB_succ, itemsB_none (d := d) (fun q h1 h2 => h q h1 (by omega)), h (i + d) (by omega) (by omega)]
    simp
theorem itemsB_len (z : Int) (ws : List Int) (m : Nat) : (itemsB z ws m).length ≤ m := by
  unfold itemsB
  rw [List.length_map]
  exact Nat.le_trans (List.length_filter_le ..) (by simp)
theorem items_loop {z : Int} {ws : List Int} (h : Ok z ws) : ∀ (m n i : Nat), i ≤ z.toNat → z.toNat - i < m →
    f11L0 n m (nextF z ws (i : Int)).1 (nextF z ws (i : Int)).2 z ws (itemsB z ws i) = some ⟨[.one (.rw ⟨1, 0⟩)], [vaS ⟨0, 1⟩ z, roW ws], [roI (items z ws)]⟩
  | 0, _, _, _, hm => absurd hm (Nat.not_lt_zero _)
  | m + 1, n, i, hi, hm => by
    have hz := h.hi
    show f11S0 (f11L0 n m) _ _ z ws (itemsB z ws i) = _
    have no : ∀ q : Nat, ¬ BW ws q → hasF z ws (q : Int) = false := fun q hq => by
      cases hf : hasF z ws (q : Int) with
      | false => rfl
      | true => exact absurd ((has_iff h).1 hf).2 (by rw [Int.toNat_natCast]; exact hq)
    rcases next_spec (i := (i : Int)) h with ⟨p, g1, g2, g3, g4, g5⟩ | ⟨g1, g2⟩
    · rw [g1]
      unfold f11S0
      have hl := itemsB_len z ws i
      have e1 : decide (((itemsB z ws i).length + [(p : Int)].length) * 8 ≤ 140737488355328) = true := by
        simp only [List.length_singleton, decide_eq_true_eq]; omega
      have e2 : IntKind.i64.wrap ((p : Int) + 1) = ((p + 1 : Nat) : Int) := by rw [i64_wrap_in (by omega) (by omega)]; rfl
      have hp : hasF z ws (p : Int) = true := (has_iff h).2 ⟨⟨by omega, g3⟩, by rw [Int.toNat_natCast]; exact g4⟩
      have e3 : itemsB z ws i ++ [(p : Int)] = itemsB z ws (p + 1) := by
        have := itemsB_none (z := z) (ws := ws) (i := i) (d := p - i) (fun q h1 h2 => no q (g5 q (by omega) (by omega)))
        rw [show i + (p - i) = p from by omega] at this
        rw [itemsB_succ, this, hp]; rfl
      rw [e1, okS_iff.2 h, e2, e3]
      exact items_loop h m n (p + 1) (by omega) (by omega)
    · rw [g1]
      unfold f11S0
      have e := itemsB_none (z := z) (ws := ws) (i := i) (d := z.toNat - i) (fun q h1 _ => no q (g2 q (by omega)))
      rw [show i + (z.toNat - i) = z.toNat from by omega] at e
      show some (Lf.mk [.one (.rw ⟨1, 0⟩)] [vaS ⟨0, 1⟩ z, roW ws] [roI (itemsB z ws i)]) = _
      rw [← e]; rfl
theorem items_T {z : Int} {ws : List Int} (h : Ok z ws) : ∃ n, f11M n z ws = some ⟨[.one (.rw ⟨1, 0⟩)], [vaS ⟨0, 1⟩ z, roW ws], [roI (items z ws)]⟩ := by
  refine ⟨z.toNat + 1, ?_⟩
  unfold f11M f11T
  rw [okS_iff.2 h]
  exact items_loop h _ _ 0 (Nat.zero_le _) (by omega)
theorem items0_T : f11nM 1 = some ⟨[.one (.rw ⟨1, 0⟩)], [], [roI []]⟩ := rfl
theorem items_ok : FnOk P C0 11 itemsS := by
  refine fn_okC ctx3 (show P.funcs[11]? = some f11f by kernel_rfl) (of_decide_eq_true (by kernel_rfl)) itemsS f11h (fun ds os lf hp => ?_)
  unfold itemsS at hp
  simp only at hp
  split at hp
  · skip
    simp only [Out.pick, Option.some.injEq] at hp
    subst hp
    exact ⟨1, (f11n_ev 1).trans items0_T⟩
  · rename_i n e ws
    obtain ⟨rfl, hq⟩ := gS_pick hp
    replace hp := hq
    simp only [Out.pick] at hp
    cases hc : (okS n ws) with
    | false => rw [hc] at hp; cases hp
    | true =>
      rw [hc] at hp
      simp only [cond_true, Option.some.injEq] at hp
      subst hp
      obtain ⟨m, hm⟩ := items_T (okS_iff.1 hc)
      exact ⟨m, (f11_ev m n ws).trans hm⟩
  · cases hp
end Go.S1
