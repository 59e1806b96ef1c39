/-
  Seat 18: the contracts of Grow and Num.
-/
import Derived.Test.YtfkmnklnnccopaaDoorS18T
import Derived.Test.YtfkmnklnnccopaaDoorS18G3
import Derived.Test.YtfkmnklnnccopaaDoorAs83
open Go Go.En Go.RowKit Go.Lib
namespace Go.S18
theorem hent (k : Nat) {fn : Func} (hf : P.funcs[k]? = some fn) (hnm : fn.name ≠ "runtime.NumGoroutine") (hb : fn.body.isSome = true) (vs : Array Value) (w : World) : (callFunc k vs).run P w = .ok (.enter k vs) w := by
  obtain ⟨c, hb⟩ := Option.isSome_iff_exists.1 hb
  simp [callFunc, hf, hnm, hb]
theorem grow_ok : FnOk P C0 47 (growS 3) := by
  refine grow_fn (fun n w h0 h1 => ?_)
  have he := hent 47 (show P.funcs[47]? = some Go.Proofs.Tryd.f47 from Go.Proofs.Tryd.func47) (of_decide_eq_true (by kernel_rfl)) (by kernel_rfl) #[.slice none 0 0, .int .i64 n] w
  unfold CallsF
  rw [he]
  obtain ⟨N, rfl⟩ := Int.eq_ofNat_of_zero_le h0
  have h1 : N ≤ 1099511627776 := by omega
  by_cases hz : N = 0
  · subst hz
    refine Calls.mono (grow_zero w) (fun e w' h => ?_)
    obtain ⟨rfl, rfl⟩ := h
    exact .inl ⟨rfl, rfl⟩
  · have hb : (P.info? 3).map (fun i => (i.bytes, i.size)) = some (8, 1) := by kernel_rfl
    have hzero : (P.info? 3).bind (·.zero) = some (.int .i64 0) := by kernel_rfl
    cases hi : P.info? 3 with
    | none => rw [hi] at hb; cases hb
    | some i0 =>
      rw [hi] at hb hzero
      simp only [Option.map_some, Option.some.injEq, Prod.mk.injEq, Option.bind_some] at hb hzero
      refine Calls.mono (grow_more N (by omega) h1 w i0 hi hb.1 hb.2 hzero) (fun e w' h => ?_)
      obtain ⟨rfl, rfl⟩ := h
      have hge := grownCap_ge w N 0 3
      have hm := grownCap_le_maxLen w N 0 3 (by unfold maxLen; omega)
      refine .inr ⟨_, _, rfl, hm, ?_, rfl⟩
      have hz1 : (Value.int IntKind.i64 0).cells.size = 1 := rfl
      simp only [Array.size_append, size_zeroCells, hz1]
      omega
theorem num_ok : FnOk P C0 13 numS := by
  intro w M γ ds os vs hr lf hp
  unfold numS at hp
  simp only at hp
  split at hp
  · rename_i f v
    simp only [Out.pick] at hp
    cases hv : plain v with
    | false => rw [hv] at hp; cases hp
    | true =>
      rw [hv] at hp
      simp only [cond_true, Option.some.injEq] at hp
      subst hp
      have hsz : vs.size = 1 := hr.n
      obtain ⟨x, rfl⟩ : ∃ x, vs = #[x] := by
        match vs, hsz with
        | ⟨[x]⟩, _ => exact ⟨x, rfl⟩
      have h0 : Ro C0 w (K0 M f) .e v [x] := hr.sl 0
      have fin : ∀ (n : Int) (w' : World), Grow w w' → ∃ K' γ', Rel C0 w M K' γ' (sgOf [resD [pI n]] os []) #[.int .i64 n] w' := by
        intro n w' hg
        have h1 := hr.grow hg
        refine ⟨K0 M, γ, { h1 with n := rfl, sl := fun t => ?_ }⟩
        cases t with
        | zero => exact Ro.i
        | succ t => rfl
      have he := hent 13 (show P.funcs[13]? = some Go.Proofs.Tryd.f13 from Go.Proofs.Tryd.func13) (of_decide_eq_true (by kernel_rfl)) (by kernel_rfl) #[x] w
      unfold CallsF
      rw [he]
      simp only
      cases h0 with
      | enil =>
        refine Calls.mono (As2.num_nil w) (fun e w' he => ?_)
        obtain ⟨rfl, rfl⟩ := he
        exact fin 0 _ (Grow.refl _)
      | eno =>
        rename_i n
        have hgl := (hr.g0.c (by simp [C0])).1 _ rfl
        refine Calls.mono (As2.num_no n w hgl) (fun e w' he => ?_)
        obtain ⟨rfl, h1, h2, h3, h4, h5⟩ := he
        exact fin n _ ⟨h1, h2, h3, h4, h5⟩
      | eat _ _ _ _ => cases hv
  · cases hp
/-! ### Concat -/
theorem ctx9 : CtxOk C9 := fun _ _ h => tbl_ok (l := [(47, growS 3)]) ⟨grow_ok, trivial⟩ h
theorem flat_take {vs : List (List Int)} {k : Nat} (h : k < vs.length) : (vs.take (k + 1)).flatten = (vs.take k).flatten ++ vs.getD k [] := by
  rw [take_succ_get h [], List.flatten_append]; simp
theorem flat_len {vs : List (List Int)} (hv : vs.all (fun v => Nat.ble v.length 1000000) = true) : ∀ k, (vs.take k).flatten.length ≤ k * 1000000
  | 0 => by simp
  | k + 1 => by
    have ih := flat_len hv k
    by_cases h : k < vs.length
    · have := of_ble (n := (vs.getD k []).length) (List.all_eq_true.1 hv _ (get_mem h []))
      rw [flat_take h, List.length_append]; omega
    · have e1 : vs.take k = vs := List.take_of_length_le (by omega)
      have e2 : vs.take (k + 1) = vs := List.take_of_length_le (by omega)
      rw [e1] at ih
      rw [e2]
      exact Nat.le_trans ih (Nat.mul_le_mul_right _ (Nat.le_succ k))
theorem concat_loop1 {vs : List (List Int)} (h2 : vs.length ≤ 2) (hv : vs.all (fun v => Nat.ble v.length 1000000) = true) : ∀ (m n k : Nat), k ≤ vs.length → vs.length - k < m →
    f36L1 n m vs (zn vs.length) (k : Int) (vs.take k).flatten = some ⟨[.one (.rw ⟨1, 0⟩)], [], [roI vs.flatten]⟩
  | 0, _, _, _, h => absurd h (Nat.not_lt_zero _)
  | m + 1, n, k, hk, hm => by
    show f36S1 (f36L1 n m) vs (zn vs.length) (k : Int) _ = _
    unfold f36S1
    by_cases h0 : k < vs.length
    · have g1 := of_ble (n := (vs.getD k []).length) (m := 1000000) (List.all_eq_true.1 hv _ (get_mem h0 []))
      have g2 := flat_len hv k
      have ih := concat_loop1 h2 hv m n (k + 1) h0 (by omega)
      rw [flat_take h0] at ih
      rw [lt_k h0, inb_k h0, wr_k (by omega), Int.toNat_natCast, ih, decide_eq_true (show ((vs.take k).flatten.length + (vs.getD k []).length) * 8 ≤ 140737488355328 by omega)]; rfl
    · rw [nlt_k h0, List.take_of_length_le (by omega)]; rfl
theorem concat_loop0 {vs : List (List Int)} (h2 : vs.length ≤ 2) (hv : vs.all (fun v => Nat.ble v.length 1000000) = true) {n : Nat} (hn : vs.length < n) : ∀ (m k : Nat), k ≤ vs.length → vs.length - k < m →
    f36L0 n m vs (zn (vs.take k).flatten.length) vs (zn vs.length) (k : Int) = some ⟨[.one (.rw ⟨1, 0⟩)], [], [roI vs.flatten]⟩
  | 0, _, _, h => absurd h (Nat.not_lt_zero _)
  | m + 1, k, hk, hm => by
    show f36S0 (f36L1 n n) (f36L0 n m) vs _ vs (zn vs.length) (k : Int) = _
    unfold f36S0
    have g2 := flat_len hv k
    by_cases h0 : k < vs.length
    · have g1 := of_ble (n := (vs.getD k []).length) (m := 1000000) (List.all_eq_true.1 hv _ (get_mem h0 []))
      have e1 : IntKind.i64.wrap (zn (vs.take k).flatten.length + zn (vs.getD k []).length) = zn (vs.take (k + 1)).flatten.length := by
        rw [flat_take h0, List.length_append]
        unfold zn
        rw [i64_wrap_in (by omega) (by omega)]; omega
      have g3 := flat_len hv (k + 1)
      rw [lt_k h0, inb_k h0, wr_k (by omega), Int.toNat_natCast, e1, decide_eq_false (show ¬ zn (vs.take (k + 1)).flatten.length < 0 by simp only [zn]; omega)]
      exact concat_loop0 h2 hv hn m (k + 1) h0 (by omega)
    · have e1 : (decide (0 ≤ zn (vs.take k).flatten.length) && decide (zn (vs.take k).flatten.length ≤ 1099511627776)) = true := by
        simp only [zn, Bool.and_eq_true, decide_eq_true_eq]; omega
      rw [nlt_k h0, e1]
      exact concat_loop1 h2 hv n n 0 (Nat.zero_le _) hn
theorem concat_T {vs : List (List Int)} (h : (Nat.ble vs.length 2 && vs.all fun v => Nat.ble v.length 1000000) = true) : f36M 3 vs = some ⟨[.one (.rw ⟨1, 0⟩)], [], [roI vs.flatten]⟩ := by
  rw [Bool.and_eq_true] at h
  have h2 := of_ble h.1
  exact concat_loop0 h2 h.2 (n := 3) (by omega) 3 0 (Nat.zero_le _) (by omega)
theorem concat_ok : FnOk P C0 36 concatS := by
  refine fn_okC ctx9 (show P.funcs[36]? = some f36f by kernel_rfl) (of_decide_eq_true (by kernel_rfl)) concatS f36h (fun ds os lf hp => ?_)
  unfold concatS at hp
  simp only at hp
  split at hp
  · rename_i vs
    simp only [Out.pick] at hp
    cases hc : (Nat.ble vs.length 2 && vs.all fun v => Nat.ble v.length 1000000) with
    | false => rw [hc] at hp; cases hp
    | true =>
      rw [hc] at hp
      simp only [cond_true, Option.some.injEq] at hp
      subst hp
      exact ⟨3, (f36_ev 3 vs).trans (concat_T hc)⟩
  · cases hp
theorem ctx10 : CtxOk C10 := fun _ _ h => tbl_ok (l := l10) ⟨num_ok, con26_ok, rises_ok, letters_ok, rise_ok, idx32_ok, has_ok, concat_ok, letter_ok, trivial⟩ h
end Go.S18
