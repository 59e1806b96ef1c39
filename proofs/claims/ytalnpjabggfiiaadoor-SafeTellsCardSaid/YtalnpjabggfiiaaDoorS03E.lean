/-
  Seat 03 (safe): SafeOrder and SafeSums: their contracts.
-/
import Derived.Test.YtalnpjabggfiiaaDoorS03D
open Go Go.En
namespace Go.S3
theorem add_comm' (a b : Int) : add a b = add b a := by
  unfold add addOv
  rw [Int.add_comm a b]
  have : (decide (a < 0) == decide (b < 0)) = (decide (b < 0) == decide (a < 0)) := by cases decide (a < 0) <;> cases decide (b < 0) <;> rfl
  rw [this]
  cases h : (decide (b < 0) == decide (a < 0)) with
  | false => rfl
  | true => rw [eq_of_beq h]
theorem mul_comm' {a b : Int} (ha : In a) (hb : In b) : mul a b = mul b a := by
  rcases mul_cases ha hb with ⟨h1, h2⟩ | ⟨h1, h2⟩
  · rw [h2, mul_in hb ha (by rw [Int.mul_comm]; exact h1), Int.mul_comm]
  · rw [h2, mul_out hb ha (by rw [Int.mul_comm]; exact h1)]
theorem bne_self' (a : Int) : (a != a) = false := by simp
theorem order_law {a b c : Int} (ha : In a) (hb : In b) (hc : In c) : f4T a b c = some ⟨[pB true], [], []⟩ := by
  unfold f4T
  rw [← add_comm' a b, ← mul_comm' ha hb]
  have e0 : ∀ x : Bool, (!(x == x)) = false := by intro x; cases x <;> rfl
  rw [bne_self', bne_self', e0, e0]
  rw [show neg a = sub 0 a from rfl, bne_self', e0]
  simp only [Bool.or_self, cond_false]
  rcases add_cases ha hb with ⟨h1, h2⟩ | ⟨_, h2⟩
  · rw [h2]
    rcases mul_cases h1 hc with ⟨h3, h4⟩ | ⟨_, h4⟩
    · rcases mul_cases ha hc with ⟨h5, h6⟩ | ⟨_, h6⟩
      · rcases mul_cases hb hc with ⟨h7, h8⟩ | ⟨_, h8⟩
        · rw [h4, h6, h8]
          have e : a * c + b * c = (a + b) * c := by rw [Int.add_mul]
          rw [add_in h5 h7 (by rw [e]; exact h3)]
          simp only [e, beq_self_eq_true]
          rfl
        · rw [h4, h6, h8]; rfl
      · rw [h4, h6]; rfl
    · rw [h4]; rfl
  · rw [h2]; rfl
def orderS : En.Spec := ⟨[], fun ds os => match ds, os with
  | [.p (.one (.d (.fz true) (.i .i64) a)), .p (.one (.d (.fz true) (.i .i64) b)), .p (.one (.d (.fz true) (.i .i64) c))], [] => .br (inI a && (inI b && inI c)) (.leaf [pB true] [] []) .fail
  | _, _ => .fail⟩
theorem order_ok : FnOk P C0 4 orderS := by
  refine fn_okC ctx3 (show P.funcs[4]? = some f4f by kernel_rfl) (of_decide_eq_true (by kernel_rfl)) orderS f4h (fun ds os lf hp => ?_)
  unfold orderS at hp
  simp only at hp
  split at hp
  · rename_i a b c
    simp only [Out.pick] at hp
    cases hc : (inI a && (inI b && inI c)) with
    | false => rw [hc] at hp; cases hp
    | true =>
      rw [hc] at hp
      simp only [cond_true, Option.some.injEq] at hp
      subst hp
      rw [Bool.and_eq_true, Bool.and_eq_true, inI_iff, inI_iff, inI_iff] at hc
      exact ⟨0, (f4_ev 0 a b c).trans (order_law hc.1 hc.2.1 hc.2.2)⟩
  · cases hp

/-! ### sums of lists -/
def tot (l : List Int) : Int := l.foldr (· + ·) 0
theorem sumF_cons (n x : Int) (l : List Int) : sumF n (x :: l) = bif (add n x).2.isNil then sumF (add n x).1 l else (0, (add n x).2) := rfl
theorem sumF_in : ∀ {l : List Int} {n : Int}, In n → (∀ x ∈ l, In x) → (sumF n l).2.isNil = true → (sumF n l).1 = n + tot l ∧ In (sumF n l).1
  | [], n, hn, _, _ => ⟨by show n = n + 0; omega, hn⟩
  | x :: l, n, hn, hl, h => by
    rw [sumF_cons] at h ⊢
    rcases add_cases hn (hl x (List.mem_cons_self ..)) with ⟨h1, h2⟩ | ⟨_, h2⟩
    · rw [h2] at h ⊢
      obtain ⟨h3, h4⟩ := sumF_in (l := l) h1 (fun y hy => hl y (List.mem_cons_of_mem _ hy)) h
      refine ⟨?_, h4⟩
      show (sumF (n + x) l).1 = n + (x + tot l)
      rw [h3]; omega
    · rw [h2] at h; cases h
theorem sumF_append : ∀ {l m : List Int} {n : Int}, In n → (∀ x ∈ l, In x) → sumF n (l ++ m) = bif (sumF n l).2.isNil then sumF (sumF n l).1 m else (0, .no 10)
  | [], _, _, _, _ => rfl
  | x :: l, m, n, hn, hl => by
    rw [List.cons_append, sumF_cons, sumF_cons]
    rcases add_cases hn (hl x (List.mem_cons_self ..)) with ⟨h1, h2⟩ | ⟨_, h2⟩
    · rw [h2]
      exact sumF_append h1 (fun y hy => hl y (List.mem_cons_of_mem _ hy))
    · rw [h2]; rfl
theorem in0 : In 0 := by simp [In]
theorem sums_law {l : List Int} {b : Int} (hl : ∀ x ∈ l, In x) (hb : 0 ≤ b ∧ b ≤ 255) : f5T l b = some ⟨[pB true], [], []⟩ := by
  unfold f5T
  by_cases hlen : l.length > 1000
  · have : decide (zn l.length > 1000) = true := by simp only [zn, decide_eq_true_eq]; omega
    rw [this]; rfl
  · have e0 : decide (zn l.length > 1000) = false := by simp only [zn, decide_eq_false_iff_not]; omega
    have e1 : IntKind.i64.wrap (zn l.length + 1) = ((l.length + 1 : Nat) : Int) := by
      unfold zn
      rw [i64_wrap_nat (by omega) (by omega)]; rfl
    obtain ⟨B, rfl⟩ := Int.eq_ofNat_of_zero_le hb.1
    have e2 : IntKind.i64.wrap (B : Int) = (B : Int) := i64_wrap_nat (by omega) (by omega)
    have e3 : (B : Int).tmod ((l.length + 1 : Nat) : Int) = ((B % (l.length + 1) : Nat) : Int) := by
      rw [Int.tmod_eq_emod_of_nonneg (by omega)]; rfl
    have e4 : decide (((l.length + 1 : Nat) : Int) ≠ 0) = true := by simp only [decide_eq_true_eq]; omega
    rw [e0, e1, e2, e3, e4]
    have hk : B % (l.length + 1) ≤ l.length := Nat.le_of_lt_succ (Nat.mod_lt _ (Nat.succ_pos _))
    generalize B % (l.length + 1) = k at hk
    have e5 : l.length.ble 9223372036854775806 = true := Nat.ble_eq_true_of_le (by omega)
    have e6 : inb2 0 (k : Int) l.length = true := by simp only [inb2, Bool.and_eq_true, decide_eq_true_eq]; omega
    have e7 : inb2 (k : Int) (zn l.length) l.length = true := by simp only [inb2, zn, Bool.and_eq_true, decide_eq_true_eq]; omega
    have e8 : List.drop (Int.toNat 0) (List.take (k : Int).toNat l) = l.take k := rfl
    have e9 : List.drop (k : Int).toNat (List.take (zn l.length).toNat l) = l.drop k := by
      simp only [zn, Int.toNat_natCast, List.take_length]
    have e10 : (l.take k).length.ble 9223372036854775806 = true := Nat.ble_eq_true_of_le (by rw [List.length_take]; omega)
    have e11 : (l.drop k).length.ble 9223372036854775806 = true := Nat.ble_eq_true_of_le (by rw [List.length_drop]; omega)
    rw [e5, e6, e7, e8, e9, e10, e11]
    simp only [cond_true, cond_false]
    have hs : sum l = bif (sum (l.take k)).2.isNil then sumF (sum (l.take k)).1 (l.drop k) else (0, .no 10) := by
      have := sumF_append (l := l.take k) (m := l.drop k) in0 (fun x hx => hl x (List.mem_of_mem_take hx))
      rw [List.take_append_drop] at this
      exact this
    cases h1 : (sum (l.take k)).2.isNil with
    | false =>
      rw [h1] at hs
      rw [hs]; rfl
    | true =>
      rw [h1] at hs
      simp only [cond_true] at hs
      cases h2 : (sum l).2.isNil with
      | false => rfl
      | true =>
        cases h3 : (sum (l.drop k)).2.isNil with
        | false => rfl
        | true =>
          obtain ⟨g1, g2⟩ := sumF_in (l := l.take k) in0 (fun x hx => hl x (List.mem_of_mem_take hx)) h1
          obtain ⟨g3, g4⟩ := sumF_in (l := l.drop k) in0 (fun x hx => hl x (List.mem_of_mem_drop hx)) h3
          have h2' := h2
          rw [hs] at h2'
          obtain ⟨g5, g6⟩ := sumF_in (l := l.drop k) g2 (fun x hx => hl x (List.mem_of_mem_drop hx)) h2'
          have hs' : sumF (sumF 0 (l.take k)).1 (l.drop k) = sum l := hs.symm
          rw [hs'] at g5 g6
          have g7 : (sum l).1 = (sum (l.take k)).1 + (sum (l.drop k)).1 := by
            rw [g5]
            have : (sum (l.drop k)).1 = 0 + tot (l.drop k) := g3
            rw [this]
            have : (sum (l.take k)).1 = (sumF 0 (l.take k)).1 := rfl
            rw [this]; omega
          have hadd : add (sum (l.take k)).1 (sum (l.drop k)).1 = ((sum (l.take k)).1 + (sum (l.drop k)).1, .nil) := add_in g2 g4 (by have := g6; rw [g7] at this; exact this)
          rw [hadd]
          have e : ((sum l).1 == (sum (l.take k)).1 + (sum (l.drop k)).1) = true := by simpa using g7
          show some (Lf.mk [pB (Er.nil.isNil && ((sum l).1 == (sum (l.take k)).1 + (sum (l.drop k)).1))] [] []) = _
          rw [e]; rfl
def sumsS : En.Spec := ⟨[], fun ds os => match ds, os with
  | [.p (.one (.d (.fz false) (.l (.i .i64)) l)), .p (.one (.d (.fz true) (.i .u8) b))], [] => .br (l.all inI && (decide (0 ≤ b) && decide (b ≤ 255))) (.leaf [pB true] [] []) .fail
  | _, _ => .fail⟩
theorem sums_ok : FnOk P C0 5 sumsS := by
  refine fn_okC ctx3 (show P.funcs[5]? = some f5f by kernel_rfl) (of_decide_eq_true (by kernel_rfl)) sumsS f5h (fun ds os lf hp => ?_)
  unfold sumsS at hp
  simp only at hp
  split at hp
  · rename_i l b
    simp only [Out.pick] at hp
    cases hc : (l.all inI && (decide (0 ≤ b) && decide (b ≤ 255))) with
    | false => rw [hc] at hp; cases hp
    | true =>
      rw [hc] at hp
      simp only [cond_true, Option.some.injEq] at hp
      subst hp
      rw [Bool.and_eq_true, Bool.and_eq_true, List.all_eq_true, decide_eq_true_eq, decide_eq_true_eq] at hc
      exact ⟨0, (f5_ev 0 l b).trans (sums_law (fun x hx => inI_iff.1 (hc.1 x hx)) hc.2)⟩
  · cases hp
end Go.S3
