/-
  Seat 11: alive; plain facts of Support and Reach.
-/
import Derived.Test.YtoghhokbakphlaaDoorS11G3
open Go Go.En
namespace Go.S11
theorem alive_T : f106T 0 = some ⟨[pB true], [], []⟩ := by kernel_rfl
theorem alive_ok : FnOk P C0 6 aliveS := by
  refine fn_okC ctx12 (show P.funcs[6]? = some f106f by kernel_rfl) (of_decide_eq_true (by kernel_rfl)) aliveS f106h (fun ds os lf hp => ?_)
  unfold aliveS at hp
  simp only at hp
  split at hp
  · simp only [Out.pick, Option.some.injEq] at hp
    subst hp
    exact ⟨0, (f106_ev 0 0).trans alive_T⟩
  · cases hp
theorem ctx13 : CtxOk C13 := fun _ _ h => tbl_ok (l := l13) ⟨alive_ok, farM_ok, rightM_ok, ofM_ok, reach_ok, checkM_ok, letters_ok, rletters_ok, num_ok, ints_ok, rreach_ok, sup_ok, hasT_ok, trivial⟩ h
/-! ### Compact -/
theorem arr_get (l : List Int) {j : Nat} (h : j < l.length) : l.toArray[j]! = l.getD j 0 := by
  rw [List.getElem!_toArray, List.getD_eq_getElem?_getD, List.getElem?_eq_getElem h, getElem!_pos l j h]; rfl
theorem cmp_mem (l : List Int) (x : Int) : x ∈ Go.Lib.compact l ↔ x ∈ l := by
  unfold Go.Lib.compact Go.Lib.compactUpTo
  rw [List.mem_map]
  constructor
  · rintro ⟨j, hj, rfl⟩
    rw [List.mem_filter, List.mem_range] at hj
    rw [arr_get l hj.1]
    exact get_mem hj.1 0
  · intro hx
    obtain ⟨j, hj, e⟩ := idx_of hx 0
    induction j with
    | zero =>
      refine ⟨0, List.mem_filter.2 ⟨List.mem_range.2 hj, by simp [Go.Lib.keeps]⟩, ?_⟩
      show l.toArray[0]! = x
      rw [arr_get l hj, e]
    | succ j ih =>
      by_cases h : l.getD (j + 1) 0 = l.getD j 0
      · exact ih (by omega) (h.symm.trans e)
      · refine ⟨j + 1, List.mem_filter.2 ⟨List.mem_range.2 hj, ?_⟩, ?_⟩
        · unfold Go.Lib.keeps
          rw [decide_eq_true_eq, Nat.add_sub_cancel, arr_get l hj, arr_get l (show j < l.length by omega)]
          exact .inr h
        · show l.toArray[j + 1]! = x
          rw [arr_get l hj, e]
theorem cmp_rise {l : List Int} (hs : l.Pairwise fun a b => a ≤ b) : (Go.Lib.compact l).Pairwise fun a b => a < b := by
  unfold Go.Lib.compact Go.Lib.compactUpTo
  rw [List.pairwise_map]
  have hp : ((List.range l.length).filter (Go.Lib.keeps l.toArray)).Pairwise (fun a b => a < b) := List.pairwise_lt_range.filter _
  refine List.Pairwise.imp_of_mem ?_ hp
  intro a b ha hb hab
  rw [List.mem_filter, List.mem_range] at ha hb
  show l.toArray[a]! < l.toArray[b]!
  have hk := hb.2
  unfold Go.Lib.keeps at hk
  rw [decide_eq_true_eq] at hk
  have hk : l.toArray[b]! ≠ l.toArray[b - 1]! := hk.resolve_left (by omega)
  rw [arr_get l hb.1, arr_get l (show b - 1 < l.length by omega)] at hk
  rw [arr_get l ha.1, arr_get l hb.1]
  have le : ∀ u v, u ≤ v → v < l.length → l.getD u 0 ≤ l.getD v 0 := fun u v huv hv => by
    rcases Nat.lt_or_ge u v with h | h
    · have := List.pairwise_iff_getElem.1 hs u v (by omega) hv h
      rw [List.getD_eq_getElem?_getD, List.getD_eq_getElem?_getD, List.getElem?_eq_getElem hv, List.getElem?_eq_getElem (show u < l.length by omega)]
      exact this
    · have : u = v := by omega
      subst this; exact Int.le_refl _
  have h1 := le a (b - 1) (by omega) (by omega)
  have h2 := le (b - 1) b (by omega) hb.1
  omega
theorem sup_mem (mv : List MvV) (x : Int) : x ∈ supV mv ↔ ∃ v ∈ mv, v.1 = x := by
  unfold supV
  rw [cmp_mem, (sortI_perm _).mem_iff, List.mem_map]
theorem sup_rise (mv : List MvV) : (supV mv).Pairwise fun a b => a < b := cmp_rise (sortI_sorted _)
theorem sup_len (mv : List MvV) : (supV mv).length ≤ mv.length := by
  have h := cmp_le (sortI (mv.map fun v => v.1))
  rw [sortI_len, List.length_map] at h
  exact h
/-! ### Reach -/
theorem reach_nodup {ch : List (List ChV)} (hL : Led ch) {i : Int} (hi : 0 ≤ i ∧ i < (ch.length : Int)) : (reachV i ch).Nodup := by
  obtain ⟨o, e, hn, _⟩ := reach_dfs hL hi
  unfold reachV
  rw [e]
  exact (sortI_perm o).nodup_iff.2 hn
theorem reach_len {ch : List (List ChV)} (hL : Led ch) {i : Int} (hi : 0 ≤ i ∧ i < (ch.length : Int)) : (reachV i ch).length ≤ ch.length :=
  nodup_len (reach_nodup hL hi) fun x hx => ((reach_mem hL hi x).1 hx).rng hL hi
theorem reachL_len {i : Int} {ch : List (List ChV)} {nm : List ByteArray} {ho : List (List Int)} : (reachL i ch nm ho).length ≤ ch.length := by
  unfold reachL
  cases hd : mdOk i ch nm ho with
  | false => exact Nat.zero_le _
  | true =>
    obtain ⟨_, hi, _, hL⟩ := md_parts hd
    exact reach_len hL hi
theorem letters_len {i : Int} {ch : List (List ChV)} {nm : List ByteArray} {ho : List (List Int)} {lb : List ByteArray} : (lettersV i ch nm ho lb).l.length ≤ ho.length ∧ plain (lettersV i ch nm ho lb).e = true := by
  unfold lettersV
  cases (mdOk i ch nm ho && (decide (zn lb.length ≤ 6) && freshD [] lb)) with
  | false => exact ⟨Nat.zero_le _, rfl⟩
  | true =>
    rw [cond_true]
    cases placesL nm lb with
    | none => exact ⟨Nat.zero_le _, rfl⟩
    | some A => exact ⟨by simp, rfl⟩
theorem nb11 : Nat.beq 1 1 = true := rfl
theorem nb22 : Nat.beq 2 2 = true := rfl
theorem nb00 : Nat.beq 0 0 = true := rfl
end Go.S11
