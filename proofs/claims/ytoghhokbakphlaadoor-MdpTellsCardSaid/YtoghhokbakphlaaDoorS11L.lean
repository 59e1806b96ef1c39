/-
  Seat 11: MdpTells returns true.
-/
import Derived.Test.YtoghhokbakphlaaDoorS11G5
import Derived.Test.YtoghhokbakphlaaDoorS11K
open Go Go.En
namespace Go.S11
section
variable (i : Int) (ch : List (List ChV)) (nm : List ByteArray) (ho : List (List Int)) (i' : Int) (nm' : List ByteArray) (ho' : List (List Int))
theorem tl_L4 {s c : Nat} (hs : s < ch.length) (hc : c < (ch.getD s []).length) {mv : List MvV} (hmv : ((ch.getD s []).getD c (⟨#[]⟩, [], ())).2.1 = mv) {t : List Int} (ht : t.length ≤ 1000000) {k : Nat} (hk : k < mv.length) (hk6 : k ≤ 1000000) (g0 : f104G0) (g1 : f104G1) (g3 : f104G3) :
    ∀ (m n j : Nat) (found : Bool), j ≤ t.length → t.length - j < m →
    f104L4 n g0 g1 g3 m (s : Int) (c : Int) (k : Int) found (j : Int) i ch nm ho i' t ch nm' ho' = bif found || (t.drop j).any (fun y => y == (mv.getD k (0, 0, ())).1) then g3 (s : Int) (c : Int) (IntKind.i64.wrap ((k : Int) + 1)) i ch nm ho i' t ch nm' ho' else some ⟨[pB false], [], []⟩
  | 0, _, _, _, _, h => absurd h (Nat.not_lt_zero _)
  | m + 1, n, j, found, hj, hm => by
    show f104S4 g0 g1 g3 (f104L4 n g0 g1 g3 m) (s : Int) (c : Int) (k : Int) found (j : Int) i ch nm ho i' t ch nm' ho' = _
    unfold f104S4
    by_cases h0 : j < t.length
    · rw [lt_k h0, inb_k h0, wr_k (by omega), Int.toNat_natCast, Int.toNat_natCast, Int.toNat_natCast, Int.toNat_natCast, hmv, inb_k hs, inb_k hc, inb_k hk]
      simp only [nb11, nb22, Bool.and_self, Bool.or_true, cond_true]
      rw [tl_L4 hs hc hmv ht hk hk6 g0 g1 g3 m n (j + 1) _ h0 (by omega), drop_get h0 0, List.any_cons, Bool.or_assoc]
    · rw [nlt_k h0, List.drop_eq_nil_of_le (by omega)]
      cases found <;> rfl
theorem tl_L3 {s c : Nat} (hs : s < ch.length) (hc : c < (ch.getD s []).length) {mv : List MvV} (hmv : ((ch.getD s []).getD c (⟨#[]⟩, [], ())).2.1 = mv) (hm6 : mv.length ≤ 1000000) {t : List Int} (ht : t.length ≤ 1000000) (hall : ∀ v ∈ mv, v.1 ∈ t) (g0 : f104G0) (g1 : f104G1) {n : Nat} (hn : 1000000 < n) :
    ∀ (m k : Nat), k ≤ mv.length → mv.length - k < m →
    f104L3 n g0 g1 m (s : Int) (c : Int) (k : Int) i ch nm ho i' t ch nm' ho' = g1 (s : Int) (IntKind.i64.wrap ((c : Int) + 1)) i ch nm ho i' ch nm' ho'
  | 0, _, _, h => absurd h (Nat.not_lt_zero _)
  | m + 1, k, hk, hm => by
    show f104S3 (f104L4 n g0 g1 (f104L3 n g0 g1 m) n) g0 g1 (f104L3 n g0 g1 m) (s : Int) (c : Int) (k : Int) i ch nm ho i' t ch nm' ho' = _
    unfold f104S3
    rw [Int.toNat_natCast, Int.toNat_natCast, hmv, inb_k hs, inb_k hc]
    by_cases h0 : k < mv.length
    · rw [lt_k h0]
      simp only [cond_true]
      have e := tl_L4 i ch nm ho i' nm' ho' hs hc hmv ht h0 (by omega) g0 g1 (f104L3 n g0 g1 m) n n 0 false (Nat.zero_le _) (by omega)
      refine Eq.trans e ?_
      have hf : (t.drop 0).any (fun y => y == (mv.getD k (0, 0, ())).1) = true := by
        rw [List.drop_zero, List.any_eq_true]
        exact ⟨_, hall _ (get_mem h0 (0, 0, ())), by simp⟩
      rw [hf, wr_k (by omega)]
      exact tl_L3 hs hc hmv hm6 ht hall g0 g1 hn m (k + 1) h0 (by omega)
    · rw [nlt_k h0]; rfl
theorem tl_L2 {s c : Nat} (hs : s < ch.length) (hc : c < (ch.getD s []).length) {mv : List MvV} (hmv : ((ch.getD s []).getD c (⟨#[]⟩, [], ())).2.1 = mv) (hm6 : mv.length ≤ 1000000) {t : List Int} (ht : t.length ≤ 1000000) (hto : ∀ x ∈ t, hasTo mv x = true) (hr : t.Pairwise fun a b => a < b) (g0 : f104G0) (g1 : f104G1) :
    ∀ (m n k : Nat), k ≤ t.length → t.length - k < m →
    f104L2 n g0 g1 m (s : Int) (c : Int) (k : Int) i ch nm ho i' t ch nm' ho' = f104L3 n g0 g1 n (s : Int) (c : Int) 0 i ch nm ho i' t ch nm' ho'
  | 0, _, _, _, h => absurd h (Nat.not_lt_zero _)
  | m + 1, n, k, hk, hm => by
    show f104S2 (f104L3 n g0 g1 n) g0 g1 (f104L2 n g0 g1 m) (s : Int) (c : Int) (k : Int) i ch nm ho i' t ch nm' ho' = _
    unfold f104S2
    by_cases h0 : k < t.length
    · have h1 : hasTo mv (t.getD k 0) = true := hto _ (get_mem h0 0)
      rw [lt_k h0, inb_k h0, wr_k (by omega), Int.toNat_natCast, Int.toNat_natCast, Int.toNat_natCast, hmv, inb_k hs, inb_k hc, show m6 mv.length = true from ble_of hm6, h1]
      have ih := tl_L2 hs hc hmv hm6 ht hto hr g0 g1 m n (k + 1) h0 (by omega)
      by_cases hk0 : 0 < k
      · have e1 : IntKind.i64.wrap ((k : Int) - 1) = ((k - 1 : Nat) : Int) := wr1 hk0 (by omega)
        have d1 : decide ((k : Int) > 0) = true := decide_eq_true (by omega)
        have d2 : decide (t.getD k 0 ≤ t.getD (k - 1) 0) = false := decide_eq_false (by
          have := List.pairwise_iff_getElem.1 hr (k - 1) k (by omega) h0 (by omega)
          rw [List.getD_eq_getElem?_getD, List.getD_eq_getElem?_getD, List.getElem?_eq_getElem h0, List.getElem?_eq_getElem (show k - 1 < t.length by omega)]
          show ¬ t[k] ≤ t[k - 1]
          omega)
        rw [e1, Int.toNat_natCast, inb_k (show k - 1 < t.length by omega), d1, d2]
        simp only [nb11, nb22, Bool.and_self, Bool.not_true, Bool.or_self, Bool.false_or, Bool.and_true, Bool.and_false, cond_true, cond_false]
        exact ih
      · have d1 : decide ((k : Int) > 0) = false := decide_eq_false (by omega)
        rw [d1]
        simp only [nb11, nb22, Bool.and_self, Bool.not_true, Bool.or_self, Bool.false_or, Bool.and_true, Bool.false_and, cond_true, cond_false]
        exact ih
    · rw [nlt_k h0]; rfl
theorem tl_L1 {s : Nat} (hs : s < ch.length) (hrl : (ch.getD s []).length ≤ 1000000) (hc6 : ∀ c ∈ ch.getD s [], c.2.1.length ≤ 1000000) (g0 : f104G0) {n : Nat} (hn : 1000000 < n) :
    ∀ (m c : Nat), c ≤ (ch.getD s []).length → (ch.getD s []).length - c < m →
    f104L1 n g0 m (s : Int) (c : Int) i ch nm ho i' ch nm' ho' = g0 (IntKind.i64.wrap ((s : Int) + 1)) i ch nm ho i' ch nm' ho'
  | 0, _, _, h => absurd h (Nat.not_lt_zero _)
  | m + 1, c, hc, hm => by
    show f104S1 (f104L2 n g0 (f104L1 n g0 m) n) g0 (f104L1 n g0 m) (s : Int) (c : Int) i ch nm ho i' ch nm' ho' = _
    unfold f104S1
    rw [Int.toNat_natCast, Int.toNat_natCast, inb_k hs]
    by_cases h0 : c < (ch.getD s []).length
    · have hm6 := hc6 _ (get_mem h0 (⟨#[]⟩, [], ()))
      rw [lt_k h0, inb_k h0, show m6 ((ch.getD s []).getD c (⟨#[]⟩, [], ())).2.1.length = true from ble_of hm6]
      simp only [cond_true]
      have ht := Nat.le_trans (sup_len ((ch.getD s []).getD c (⟨#[]⟩, [], ())).2.1) hm6
      have e2 := tl_L2 i ch nm ho i' nm' ho' hs h0 rfl hm6 ht (fun x hx => by
        obtain ⟨v, hv, e⟩ := (sup_mem _ x).1 hx
        exact List.any_eq_true.2 ⟨v, hv, by rw [e]; simp⟩) (sup_rise _) g0 (f104L1 n g0 m) n n 0 (Nat.zero_le _) (by omega)
      refine Eq.trans e2 ?_
      have e3 := tl_L3 i ch nm ho i' nm' ho' hs h0 rfl hm6 ht (fun v hv => (sup_mem _ v.1).2 ⟨v, hv, rfl⟩) g0 (f104L1 n g0 m) hn n 0 (Nat.zero_le _) (by omega)
      refine Eq.trans e3 ?_
      rw [wr_k (by omega)]
      exact tl_L1 hs hrl hc6 g0 hn m (c + 1) h0 (by omega)
    · rw [nlt_k h0]; rfl
theorem tl_L0 (hl : ch.length ≤ 1000000) (h6 : ∀ s, s < ch.length → (ch.getD s []).length ≤ 1000000 ∧ ∀ c ∈ ch.getD s [], c.2.1.length ≤ 1000000) {n : Nat} (hn : 1000000 < n) :
    ∀ (m s : Nat), s ≤ ch.length → ch.length - s < m → f104L0 n m (s : Int) i ch nm ho i' ch nm' ho' = some ⟨[pB true], [], []⟩
  | 0, _, _, h => absurd h (Nat.not_lt_zero _)
  | m + 1, s, hs, hm => by
    show f104S0 (f104L1 n (f104L0 n m) n) (f104L0 n m) (s : Int) i ch nm ho i' ch nm' ho' = _
    unfold f104S0
    by_cases h0 : s < ch.length
    · rw [lt_k h0]
      simp only [cond_true]
      have e1 := tl_L1 i ch nm ho i' nm' ho' h0 (h6 s h0).1 (h6 s h0).2 (f104L0 n m) hn n 0 (Nat.zero_le _) (by have := (h6 s h0).1; omega)
      refine Eq.trans e1 ?_
      rw [wr_k (by omega)]
      exact tl_L0 hl h6 hn m (s + 1) h0 (by omega)
    · rw [nlt_k h0]; rfl
end
theorem tells_T (i : Int) (ch : List (List ChV)) (nm : List ByteArray) (ho : List (List Int)) (lb : List ByteArray) : f104M 1000001 i ch nm ho lb = some ⟨[pB true], [], []⟩ := by
  unfold f104M f104T
  cases hf : farM ch nm ho with
  | true => rfl
  | false =>
    by_cases hlb : lb.length ≤ 20
    · have d0 : decide (zn lb.length > 20) = false := decide_eq_false (by unfold zn; omega)
      have hof := ofMG_no hf
      obtain ⟨q1, q2, q3, q4, q5⟩ := ofMG_parts hof
      obtain ⟨l1, l2⟩ := letters_len (i := i) (ch := ch) (nm := nm) (ho := ho) (lb := lb)
      have l3 := reachL_len (i := i) (ch := ch) (nm := nm) (ho := ho)
      have b1 : big (lettersV i ch nm ho lb).l.length = true := ble_of (by omega)
      have b2 : big (reachL i ch nm ho).length = true := ble_of (by omega)
      rw [d0, hof, mdG_of hof, show m6 lb.length = true from ble_of (by omega), l2, b1, b2, sameI_refl, sameI_refl]
      have e0 : ∀ x : Int, (x != x) = false := fun x => by simp
      rw [e0]
      have fin := tl_L0 i ch nm ho i nm ho q1 q2 (n := 1000001) (by omega) 1000001 0 (Nat.zero_le _) (by omega)
      cases mdOk i ch nm ho with
      | true =>
        simp only [er1, Er.isNil, cond_true, cond_false, Bool.not_true, Bool.not_false, Bool.or_false, Bool.false_or, Bool.and_true, Bool.and_self, nb11, Bool.or_self]
        exact fin
      | false =>
        simp only [er1, Er.isNil, cond_true, cond_false, Bool.not_true, Bool.not_false, Bool.or_false, Bool.false_or, Bool.and_true, Bool.and_self, nb11, Bool.or_self]
        exact fin
    · have d0 : decide (zn lb.length > 20) = true := decide_eq_true (by unfold zn; omega)
      rw [d0]; rfl
def tellsS : En.Spec := ⟨[], fun ds os => match ds, os with
  | [.p (.agg [.d (.fz true) (.i .i64) _i, .d (.fz false) (.l (.l (.p .s (.p (.l (.p (.i .i64) (.p (.i .i64) .u))) .u)))) _ch, .d (.fz false) (.l .s) _nm, .d (.fz false) (.l (.l (.i .i64))) _ho]), .p (.one (.d (.fz false) (.l .s) _lb))], [] =>
    .leaf [pB true] [] []
  | _, _ => .fail⟩
theorem tells_ok : FnOk P C0 4 tellsS := by
  refine fn_okC ctx13 (show P.funcs[4]? = some f104f by kernel_rfl) (of_decide_eq_true (by kernel_rfl)) (tellsS) f104h (fun ds os lf hp => ?_)
  unfold tellsS at hp
  simp only at hp
  split at hp
  · rename_i i ch nm ho lb
    simp only [Out.pick, Option.some.injEq] at hp
    subst hp
    exact ⟨1000001, (f104_ev _ i ch nm ho lb).trans (tells_T i ch nm ho lb)⟩
  · cases hp
end Go.S11
