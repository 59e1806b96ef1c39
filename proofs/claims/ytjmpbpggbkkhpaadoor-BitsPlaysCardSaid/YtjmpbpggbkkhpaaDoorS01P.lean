/-
  Seat 01: the law BitsNext.
-/
import Derived.Test.YtjmpbpggbkkhpaaDoorS01G9
import Derived.Test.YtjmpbpggbkkhpaaDoorS01M
open Go Go.En
namespace Go.S1
theorem ctx9 : CtxOk C9 := fun _ _ h => tbl_ok (l := l9) ⟨alive_ok, join_ok, hasL_ok, add_ok, del_ok, items_ok, has_ok, next_ok, in_ok, size_ok, new_ok, count0_ok, copy0_ok, same0_ok, tz_ok, trivial⟩ h
theorem has_BW {z : Int} {ws : List Int} (h : Ok z ws) (p : Nat) : hasF z ws (p : Int) = true ↔ BW ws p := by
  rw [has_iff h, Int.toNat_natCast]
  exact ⟨fun x => x.2, fun x => ⟨⟨by omega, BW_lt h x⟩, x⟩⟩
theorem items_len {z : Int} {ws : List Int} (h : Ok z ws) : (items z ws).length ≤ 4096 := by
  have := itemsB_len z ws z.toNat
  have := h.hi
  unfold items; omega
theorem join_has {z y : Int} {ws vs : List Int} (h : Ok z ws) (hv : Ok y vs) {k : Nat} (hk : (k : Int) < z) : hasF z (turnW .or z ws vs) (k : Int) = (hasF z ws (k : Int) || hasF y vs (k : Int)) := by
  have h1 := has_BW (turn_Ok h hv) k
  rw [turn_BW h hv hk, ← has_BW h, ← has_BW hv] at h1
  cases ha : hasF z (turnW .or z ws vs) (k : Int) <;> cases hb : hasF z ws (k : Int) <;> cases hc : hasF y vs (k : Int) <;> simp_all
theorem loop3 {z y : Int} {ws vs : List Int} (h : Ok z ws) (hv : Ok y vs) (hz : z ≤ 255) : ∀ (m n k : Nat), k ≤ 256 → 256 - k < m →
    f3L3 n m z (k : Int) z y (items z ws) (turnW .or z ws vs) vs = some ⟨[pB true], [], []⟩
  | 0, _, _, _, hm => absurd hm (Nat.not_lt_zero _)
  | m + 1, n, k, hk, hm => by
    show f3S3 (f3L3 n m) z (k : Int) z y (items z ws) (turnW .or z ws vs) vs = _
    have hzw : IntKind.i64.wrap z = z := i64_wrap_in (by have := h.lo; omega) (by omega)
    unfold f3S3
    rw [hzw]
    by_cases h0 : k < 256
    · have e1 : decide ((k : Int) < 256) = true := by simp only [decide_eq_true_eq]; omega
      have e2 : (items z ws).length.ble 9223372036854775806 = true := Nat.ble_eq_true_of_le (by have := items_len h; omega)
      have e3 : IntKind.i64.wrap ((k : Int) + 1) = ((k + 1 : Nat) : Int) := by rw [i64_wrap_in (by omega) (by omega)]; rfl
      have ih := loop3 h hv hz m n (k + 1) (by omega) (by omega)
      rw [e1, e2, e3, okS_iff.2 (turn_Ok h hv), okS_iff.2 hv, hasL_items h, ih]
      by_cases hkz : (k : Int) < z
      · have e4 : decide ((k : Int) < z) = true := by simpa using hkz
        rw [e4, join_has h hv hkz]
        cases hasF z ws (k : Int) <;> cases hasF y vs (k : Int) <;> rfl
      · have e4 : decide ((k : Int) < z) = false := by simpa using hkz
        have e5 : hasF z (turnW .or z ws vs) (k : Int) = false := by
          unfold hasF inF
          rw [e4, Bool.and_false, Bool.false_and]
        rw [e4, e5]; rfl
    · have e1 : decide ((k : Int) < 256) = false := by simp only [decide_eq_false_iff_not]; omega
      rw [e1]
      show some (Lf.mk [pB (z == z)] [] []) = _
      rw [beq_self_eq_true]
theorem loop2 {z y : Int} {ws vs : List Int} (h : Ok z ws) (hv : Ok y vs) (hz : z ≤ 255) {n : Nat} (hn : 300 ≤ n) : ∀ (m i : Nat) (a : Int), i ≤ (items z ws).length + 1 → (items z ws).length + 1 - i < m →
    (i = (items z ws).length + 1 ∨ ∃ q : Nat, a = (q : Int) ∧ q ≤ z.toNat ∧ i = (itemsB z ws q).length) →
    f3L2 n m z a (i : Int) z y (items z ws) ws vs = some ⟨[pB true], [], []⟩
  | 0, _, _, _, hm, _ => absurd hm (Nat.not_lt_zero _)
  | m + 1, i, a, hi, hm, hinv => by
    show f3S2 (f3L3 n n) (f3L2 n m) z a (i : Int) z y (items z ws) ws vs = _
    have hlen := items_len h
    unfold f3S2
    rw [okS_iff.2 h]
    have no : ∀ q : Nat, ¬ BW ws q → hasF z ws (q : Int) = false := fun q hq => by
      cases hf : hasF z ws (q : Int) with
      | false => rfl
      | true => exact absurd ((has_BW h q).1 hf) hq
    have e3 : IntKind.i64.wrap ((i : Int) + 1) = ((i + 1 : Nat) : Int) := by rw [i64_wrap_in (by omega) (by omega)]; rfl
    rcases hinv with hend | ⟨q, rfl, hq, hiq⟩
    · have e1 : decide ((i : Int) ≤ zn (items z ws).length) = false := by simp only [zn, decide_eq_false_iff_not]; omega
      rw [e1]
      exact loop3 h hv hz n n 0 (by omega) (by omega)
    · obtain ⟨r, hr⟩ := itemsB_pre z ws q (z.toNat - q)
      rw [show q + (z.toNat - q) = z.toNat from by omega] at hr
      have hr' : items z ws = itemsB z ws q ++ r := hr
      have hle : i ≤ (items z ws).length := by rw [hr', List.length_append, hiq]; omega
      have e1 : decide ((i : Int) ≤ zn (items z ws).length) = true := by simp only [zn, decide_eq_true_eq]; omega
      rw [e1]
      rcases next_spec (i := (q : Int)) h with ⟨p, g1, g2, g3, g4, g5⟩ | ⟨g1, g2⟩
      · have hp : hasF z ws (p : Int) = true := (has_BW h p).2 g4
        have e4 : itemsB z ws (p + 1) = itemsB z ws q ++ [(p : Int)] := by
          have := itemsB_none (z := z) (ws := ws) (i := q) (d := p - q) (fun q' h1 h2 => no q' (g5 q' (by omega) (by omega)))
          rw [show q + (p - q) = p from by omega] at this
          rw [itemsB_succ, this, hp]; rfl
        obtain ⟨r2, hr2⟩ := itemsB_pre z ws (p + 1) (z.toNat - (p + 1))
        rw [show p + 1 + (z.toNat - (p + 1)) = z.toNat from by omega, e4] at hr2
        have hr3 : items z ws = itemsB z ws q ++ [(p : Int)] ++ r2 := hr2
        have hlt : i < (items z ws).length := by rw [hr3]; simp; omega
        have hget : (items z ws).getD i 0 = (p : Int) := by
          rw [hr3, List.append_assoc, List.getD_eq_getElem?_getD, List.getElem?_append_right (by omega), hiq, Nat.sub_self]; rfl
        have e5 : decide ((i : Int) < zn (items z ws).length) = true := by simp only [zn, decide_eq_true_eq]; omega
        have e6 : inb (i : Int) (items z ws).length = true := by simp only [inb, Bool.and_eq_true, decide_eq_true_eq]; omega
        have e7 : IntKind.i64.wrap ((p : Int) + 1) = ((p + 1 : Nat) : Int) := by rw [i64_wrap_in (by omega) (by omega)]; rfl
        simp only [g1, Int.toNat_natCast, hget, e3, e5, e6, e7, bne_self_eq_false]
        exact loop2 h hv hz hn m (i + 1) _ (by omega) (by omega) (.inr ⟨p + 1, rfl, by omega, by rw [e4]; simp; omega⟩)
      · have e4 := itemsB_none (z := z) (ws := ws) (i := q) (d := z.toNat - q) (fun q' h1 _ => no q' (g2 q' (by omega)))
        rw [show q + (z.toNat - q) = z.toNat from by omega] at e4
        have hie : i = (items z ws).length := by unfold items; rw [e4, hiq]
        have e5 : decide ((i : Int) < zn (items z ws).length) = false := by simp only [zn, decide_eq_false_iff_not]; omega
        simp only [g1, e3, e5]
        exact loop2 h hv hz hn m (i + 1) _ (by omega) (by omega) (.inl (by omega))
theorem loop1 {z y : Int} {ws : List Int} {l : List Int} (h : Ok z ws) (hz : z ≤ 255) (hl : l.length ≤ 200) {n : Nat} (hn : 4200 ≤ n) : ∀ (m k : Nat) (vs : List Int), k ≤ l.length → l.length - k < m → Ok y vs →
    f3L1 n m z l (k : Int) z y ws vs = some ⟨[pB true], [], []⟩
  | 0, _, _, _, hm, _ => absurd hm (Nat.not_lt_zero _)
  | m + 1, k, vs, hk, hm, hv => by
    show f3S1 (f3L2 n n) (f3L1 n m) z l (k : Int) z y ws vs = _
    unfold f3S1
    by_cases h0 : k < l.length
    · have e1 : decide ((k : Int) < zn l.length) = true := by simp only [zn, decide_eq_true_eq]; omega
      have e2 : inb (k : Int) l.length = true := by simp only [inb, Bool.and_eq_true, decide_eq_true_eq]; omega
      have e3 : IntKind.i64.wrap ((k : Int) + 1) = ((k + 1 : Nat) : Int) := by rw [i64_wrap_in (by omega) (by omega)]; rfl
      rw [e1, e2, e3, okS_iff.2 hv]
      exact loop1 h hz hl hn m (k + 1) _ h0 (by omega) (addW_ok hv)
    · have e1 : decide ((k : Int) < zn l.length) = false := by simp only [zn, decide_eq_false_iff_not]; omega
      rw [e1, okS_iff.2 h]
      have := items_len h
      exact loop2 h hv hz (by omega) n 0 0 (by omega) (by omega) (.inr ⟨0, rfl, by omega, rfl⟩)
theorem loop0 {z y : Int} {vs l l2 : List Int} (hv : Ok y vs) (hz : z ≤ 255) (hl : l.length ≤ 200) (hl2 : l2.length ≤ 200) {n : Nat} (hn : 4200 ≤ n) : ∀ (m k : Nat) (ws : List Int), k ≤ l.length → l.length - k < m → Ok z ws →
    f3L0 n m z l l2 (k : Int) z y ws vs = some ⟨[pB true], [], []⟩
  | 0, _, _, _, hm, _ => absurd hm (Nat.not_lt_zero _)
  | m + 1, k, ws, hk, hm, h => by
    show f3S0 (f3L1 n n) (f3L0 n m) z l l2 (k : Int) z y ws vs = _
    unfold f3S0
    by_cases h0 : k < l.length
    · have e1 : decide ((k : Int) < zn l.length) = true := by simp only [zn, decide_eq_true_eq]; omega
      have e2 : inb (k : Int) l.length = true := by simp only [inb, Bool.and_eq_true, decide_eq_true_eq]; omega
      have e3 : IntKind.i64.wrap ((k : Int) + 1) = ((k + 1 : Nat) : Int) := by rw [i64_wrap_in (by omega) (by omega)]; rfl
      rw [e1, e2, e3, okS_iff.2 h]
      exact loop0 hv hz hl hl2 hn m (k + 1) _ h0 (by omega) (addW_ok h)
    · have e1 : decide ((k : Int) < zn l.length) = false := by simp only [zn, decide_eq_false_iff_not]; omega
      rw [e1]
      exact loop1 h hz hl2 hn n 0 vs (Nat.zero_le _) (by omega) hv
theorem next_law {z y : Int} {l m : List Int} (hz : 0 ≤ z ∧ z ≤ 255) (hy : 0 ≤ y ∧ y ≤ 255) : f3M 4300 z y l m = some ⟨[pB true], [], []⟩ := by
  have ez : IntKind.i64.wrap z = z := i64_wrap_in (by omega) (by omega)
  have ey : IntKind.i64.wrap y = y := i64_wrap_in (by omega) (by omega)
  unfold f3M f3T
  rw [ez, ey]
  by_cases hlen : l.length > 200 ∨ m.length > 200
  · have e : (decide (zn l.length > 200) || decide (zn m.length > 200)) = true := by
      simp only [zn, Bool.or_eq_true, decide_eq_true_eq]; omega
    rw [e]; rfl
  · have e : (decide (zn l.length > 200) || decide (zn m.length > 200)) = false := by
      simp only [zn, Bool.or_eq_false_iff, decide_eq_false_iff_not]; omega
    have e1 : (decide (z < 0) || decide (z > 4096)) = false := by
      simp only [Bool.or_eq_false_iff, decide_eq_false_iff_not]; omega
    have e2 : (decide (y < 0) || decide (y > 4096)) = false := by
      simp only [Bool.or_eq_false_iff, decide_eq_false_iff_not]; omega
    rw [e, e1, e2]
    exact loop0 (new_Ok hy.1 (by omega)) hz.2 (by omega) (by omega) (by omega) 4300 0 _ (Nat.zero_le _) (by omega) (new_Ok hz.1 (by omega))
def nextlS : En.Spec := ⟨[], fun ds os => match ds, os with
  | [.p (.one (.d (.fz true) (.i .u8) z)), .p (.one (.d (.fz true) (.i .u8) y)), .p (.one (.d (.fz false) (.l (.i .u8)) _l)), .p (.one (.d (.fz false) (.l (.i .u8)) _m))], [] =>
    .br ((decide (0 ≤ z) && decide (z ≤ 255)) && (decide (0 ≤ y) && decide (y ≤ 255))) (.leaf [pB true] [] []) .fail
  | _, _ => .fail⟩
theorem nextl_ok : FnOk P C0 3 nextlS := by
  refine fn_okC ctx9 (show P.funcs[3]? = some f3f by kernel_rfl) (of_decide_eq_true (by kernel_rfl)) nextlS f3h (fun ds os lf hp => ?_)
  unfold nextlS at hp
  simp only at hp
  split at hp
  · rename_i z y l m
    simp only [Out.pick] at hp
    cases hc : ((decide (0 ≤ z) && decide (z ≤ 255)) && (decide (0 ≤ y) && decide (y ≤ 255))) with
    | false => rw [hc] at hp; cases hp
    | true =>
      rw [hc] at hp
      simp only [cond_true, Option.some.injEq] at hp
      subst hp
      simp only [Bool.and_eq_true, decide_eq_true_eq] at hc
      exact ⟨4300, (f3_ev 4300 z y l m).trans (next_law hc.1 hc.2)⟩
  · cases hp
end Go.S1
