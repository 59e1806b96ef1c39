/-
  Seat 03 (safe): SafeTells and SafeGcd: their contracts.
-/
import Derived.Test.YtalnpjabggfiiaaDoorS03G4
open Go Go.En
namespace Go.S3
theorem ctx4 : CtxOk C4 := fun _ _ h => tbl_ok (l := l4) ⟨rsub_ok, alive_ok, neg_ok, sum_ok, radd_ok, is_ok, rmul_ok, add_ok, sub_ok, mul_ok, gcd_ok, num_ok, rgcd_ok, add64_ok, size_ok, fits_ok, mul64_ok, trivial⟩ h
theorem tells_law {a b : Int} (ha : In a) (hb : In b) : f7T a b = some ⟨[pB true], [], []⟩ := by
  have h1 := add_agree ha hb
  have h2 := sub_agree ha hb
  have h3 := mul_agree ha hb
  have h4 : Agree (neg a) (rsub 0 a) := sub_agree in0 ha
  unfold f7T
  rw [h1.is, h1.plain, h2.is, h2.plain, h3.is, h3.plain, h4.is, h4.plain]
  rfl
def tellsS : En.Spec := ⟨[], fun ds os => match ds, os with
  | [.p (.one (.d (.fz true) (.i .i64) a)), .p (.one (.d (.fz true) (.i .i64) b))], [] => .br (inI a && inI b) (.leaf [pB true] [] []) .fail
  | _, _ => .fail⟩
theorem tells_ok : FnOk P C0 7 tellsS := by
  refine fn_okC ctx4 (show P.funcs[7]? = some f7f by kernel_rfl) (of_decide_eq_true (by kernel_rfl)) tellsS f7h (fun ds os lf hp => ?_)
  unfold tellsS at hp
  simp only at hp
  split at hp
  · rename_i a b
    simp only [Out.pick] at hp
    cases hc : (inI a && inI b) with
    | false => rw [hc] at hp; cases hp
    | true =>
      rw [hc] at hp
      simp only [cond_true, Option.some.injEq] at hp
      subst hp
      rw [Bool.and_eq_true, inI_iff, inI_iff] at hc
      exact ⟨0, (f7_ev 0 a b).trans (tells_law hc.1 hc.2)⟩
  · cases hp

/-! ### SafeGcd -/
theorem want_loop {l : List Int} (hl : ∀ x ∈ l, In x) (hlen : l.length ≤ 1000) {sn : Int} {se : Er} : ∀ (m n : Nat) (w : Int) (ok : Bool) (k : Nat), k ≤ l.length → l.length - k < m →
    ((ok = true ∧ In w ∧ sumF w (l.drop k) = (sn, se)) ∨ (ok = false ∧ sn = 0 ∧ se = .no 10)) → f6L0 n m l sn se w ok (k : Int) = some ⟨[pB true], [], []⟩
  | 0, _, _, _, _, _, h, _ => absurd h (Nat.not_lt_zero _)
  | m + 1, n, w, ok, k, hk, hm, hinv => by
    show f6S0 (f6L0 n m) l sn se w ok (k : Int) = _
    unfold f6S0
    rcases hinv with ⟨rfl, hw, hs⟩ | ⟨rfl, rfl, rfl⟩
    · by_cases h0 : k < l.length
      · have e1 : decide ((k : Int) < zn l.length) = true := by simpa [zn] using h0
        have e2 : inb (k : Int) l.length = true := by simp [inb, h0]
        have e3 : l.drop k = l.getD k 0 :: l.drop (k + 1) := by
          rw [List.drop_eq_getElem_cons h0]; simp [List.getD_eq_getElem?_getD, h0]
        have e4 : IntKind.i64.wrap ((k : Int) + 1) = ((k + 1 : Nat) : Int) := by
          rw [i64_wrap_nat (by omega) (by omega)]; rfl
        rw [e1, e2, e4]
        simp only [Bool.and_self, cond_true, Int.toNat_natCast]
        have hx : In (l.getD k 0) := by
          have : l.getD k 0 = l[k] := by simp [List.getD_eq_getElem?_getD, h0]
          rw [this]; exact hl _ (List.getElem_mem h0)
        rw [e3, sumF_cons] at hs
        refine want_loop hl hlen m n _ _ (k + 1) h0 (by omega) ?_
        rcases add_cases hw hx with ⟨h1, h2⟩ | ⟨h1, h2⟩
        · rw [h2] at hs
          rw [radd_eq hw hx, if_pos (show -9223372036854775808 ≤ w + l.getD k 0 ∧ w + l.getD k 0 ≤ 9223372036854775807 from h1)]
          exact .inl ⟨rfl, h1, hs⟩
        · rw [h2] at hs
          rw [radd_eq hw hx, if_neg (show ¬ (-9223372036854775808 ≤ w + l.getD k 0 ∧ w + l.getD k 0 ≤ 9223372036854775807) from h1)]
          have hs' : ((0 : Int), Er.no 10) = (sn, se) := hs
          simp only [Prod.mk.injEq] at hs'
          exact .inr ⟨rfl, hs'.1.symm, hs'.2.symm⟩
      · have e1 : decide ((k : Int) < zn l.length) = false := by simpa [zn] using h0
        rw [List.drop_eq_nil_of_le (by omega)] at hs
        have hs' : (w, Er.nil) = (sn, se) := hs
        simp only [Prod.mk.injEq] at hs'
        obtain ⟨rfl, rfl⟩ := hs'
        rw [e1]
        show some (Lf.mk [pB (isF w .nil w true)] [] []) = _
        simp [isF, Er.isNil]
    · rw [Bool.and_false]; rfl
theorem gcd_law {a b : Int} {l : List Int} (ha : In a) (hb : In b) (hl : ∀ x ∈ l, In x) : ∃ n, f6M n a b l = some ⟨[pB true], [], []⟩ := by
  refine ⟨l.length + 1, ?_⟩
  unfold f6M f6T
  by_cases hlen : l.length > 1000
  · have : decide (zn l.length > 1000) = true := by simp only [zn, decide_eq_true_eq]; omega
    rw [this]; rfl
  · have e0 : decide (zn l.length > 1000) = false := by simp only [zn, decide_eq_false_iff_not]; omega
    have e5 : l.length.ble 9223372036854775806 = true := Nat.ble_eq_true_of_le (by omega)
    have hloop : f6L0 (l.length + 1) (l.length + 1) l (sum l).1 (sum l).2 0 true 0 = some ⟨[pB true], [], []⟩ :=
      want_loop hl (by omega) _ _ 0 true 0 (Nat.zero_le _) (by omega) (.inl ⟨rfl, in0, rfl⟩)
    rw [e0, e5, hloop]
    by_cases hn : a < 0 ∨ b < 0
    · have e1 : (decide (a < 0) || decide (b < 0)) = true := by simpa using hn
      have e2 : gcd a b = (0, .no 1) := by unfold gcd; rw [e1]; rfl
      rw [e1, e2]; rfl
    · have e1 : (decide (a < 0) || decide (b < 0)) = false := by simpa using hn
      have e2 : gcd a b = (((Int.gcd a b : Nat) : Int), Er.nil) := by unfold gcd; rw [e1]; rfl
      have e3 : (decide (0 ≤ a) && decide (0 ≤ b)) = true := by
        rw [Bool.and_eq_true, decide_eq_true_eq, decide_eq_true_eq]; omega
      have e4 : rgcd a b = (Int.gcd a b : Nat) := by
        unfold rgcd
        rw [e3]
        simp only [cond_true]
        apply wr_in
        have h1 : Int.gcd a b ≤ 9223372036854775807 := by
          obtain ⟨A, rfl⟩ := Int.eq_ofNat_of_zero_le (show 0 ≤ a by omega)
          obtain ⟨B, rfl⟩ := Int.eq_ofNat_of_zero_le (show 0 ≤ b by omega)
          have ha2 := ha.2
          have hb2 := hb.2
          show Nat.gcd A B ≤ _
          by_cases h0 : A = 0
          · subst h0; rw [Nat.gcd_zero_left]; omega
          · have := Nat.gcd_le_left B (Nat.pos_of_ne_zero h0); omega
        unfold In; omega
      rw [e1, e2, e3, e4]
      simp only [bne_self']
      rfl
def gcdlS : En.Spec := ⟨[], fun ds os => match ds, os with
  | [.p (.one (.d (.fz true) (.i .i64) a)), .p (.one (.d (.fz true) (.i .i64) b)), .p (.one (.d (.fz false) (.l (.i .i64)) l))], [] => .br (inI a && (inI b && l.all inI)) (.leaf [pB true] [] []) .fail
  | _, _ => .fail⟩
theorem gcdl_ok : FnOk P C0 6 gcdlS := by
  refine fn_okC ctx3 (show P.funcs[6]? = some f6f by kernel_rfl) (of_decide_eq_true (by kernel_rfl)) gcdlS f6h (fun ds os lf hp => ?_)
  unfold gcdlS at hp
  simp only at hp
  split at hp
  · rename_i a b l
    simp only [Out.pick] at hp
    cases hc : (inI a && (inI b && l.all inI)) with
    | false => rw [hc] at hp; cases hp
    | true =>
      rw [hc] at hp
      simp only [cond_true, Option.some.injEq] at hp
      subst hp
      rw [Bool.and_eq_true, Bool.and_eq_true, inI_iff, inI_iff, List.all_eq_true] at hc
      obtain ⟨n, hn⟩ := gcd_law hc.1 hc.2.1 (fun x hx => inI_iff.1 (hc.2.2 x hx))
      exact ⟨n, (f6_ev n a b l).trans hn⟩
  · cases hp
end Go.S3
