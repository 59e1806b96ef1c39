/-
  Seat 11: MdpGrows returns true.
-/
import Derived.Test.YtoghhokbakphlaaDoorS11G4
import Derived.Test.YtoghhokbakphlaaDoorS11K
open Go Go.En
namespace Go.S11
def u8 (l : List Int) : Bool := l.all fun x => decide (0 ≤ x) && decide (x ≤ 255)
/-! ### one choice more -/
def nwC (t : Int) : ChV := (⟨#[]⟩, [(t, 3, ())], ())
def chX (ch : List (List ChV)) (k : Nat) (t : Int) : List (List ChV) := ch.set k (ch.getD k [] ++ [nwC t])
theorem chX_get {ch : List (List ChV)} {k : Nat} (hk : k < ch.length) (t : Int) (s : Nat) : (chX ch k t).getD s [] = if k = s then ch.getD k [] ++ [nwC t] else ch.getD s [] := getD_set _ _ _ _ _ hk
theorem rows_set {z K t : Int} (ht : 0 ≤ t ∧ t < z) : ∀ {ch : List (List ChV)} {ho : List (List Int)} (k : Nat), k < ch.length → rowsR z K ch ho = true → rowsR z K (chX ch k t) ho = true
  | l :: ls, ho, 0, _, h => by
    have h : (rowR z K l (ho.getD 0 []) && rowsR z K ls (ho.drop 1)) = true := h
    show (rowR z K (l ++ [nwC t]) (ho.getD 0 []) && rowsR z K ls (ho.drop 1)) = true
    rw [Bool.and_eq_true] at h ⊢
    refine ⟨?_, h.2⟩
    have h1 := h.1
    unfold rowR at h1 ⊢
    rw [Bool.and_eq_true, Bool.and_eq_true] at h1 ⊢
    refine ⟨?_, h1.2.1, ?_⟩
    · rw [Bool.not_eq_true', beq_eq_false_iff_ne, List.length_append, List.length_singleton]; unfold zn; omega
    · rw [List.all_append, h1.2.2, List.all_cons, List.all_nil]
      show (true && ((!(zn 1 == 0) && (!(decide (t < 0) || (decide (t ≥ z) || decide ((3 : Int) < 1))) && (!false && true))) && true)) = true
      rw [decide_eq_false (show ¬ t < 0 by omega), decide_eq_false (show ¬ t ≥ z by omega)]; rfl
  | l :: ls, ho, k + 1, hk, h => by
    have h : (rowR z K l (ho.getD 0 []) && rowsR z K ls (ho.drop 1)) = true := h
    have hk : k < ls.length := by rw [List.length_cons] at hk; omega
    show (rowR z K l (ho.getD 0 []) && rowsR z K (chX ls k t) (ho.drop 1)) = true
    rw [Bool.and_eq_true] at h ⊢
    exact ⟨h.1, rows_set ht k hk h.2⟩
theorem md_more {i t : Int} {ch : List (List ChV)} {nm : List ByteArray} {ho : List (List Int)} (h : mdOk i ch nm ho = true) {k : Nat} (hk : k < ch.length) (ht : 0 ≤ t ∧ t < (ch.length : Int)) : mdOk i (chX ch k t) nm ho = true := by
  have hl : (chX ch k t).length = ch.length := List.length_set
  unfold mdOk at h ⊢
  rw [Bool.and_eq_true, Bool.and_eq_true] at h ⊢
  refine ⟨?_, h.2.1, ?_⟩
  · have h1 := h.1
    unfold headM at h1 ⊢
    rw [hl]; exact h1
  · rw [hl]
    exact rows_set ht k hk h.2.2
theorem goes_more {ch : List (List ChV)} {k : Nat} (hk : k < ch.length) {t s x : Int} (h : Goes ch s x) : Goes (chX ch k t) s x := by
  obtain ⟨c, hc, v, hv, e⟩ := h
  refine ⟨c, ?_, v, hv, e⟩
  have : (chX ch k t).getD s.toNat [] = if k = s.toNat then ch.getD k [] ++ [nwC t] else ch.getD s.toNat [] := chX_get hk t _
  rw [this]
  split
  · rename_i e2
    rw [e2]
    exact List.mem_append_left _ hc
  · exact hc
theorem rch_more {ch : List (List ChV)} {k : Nat} (hk : k < ch.length) {t i x : Int} (h : Rcb ch i x) : Rcb (chX ch k t) i x := by
  induction h with
  | base => exact .base
  | step _ hg ih => exact .step ih (goes_more hk hg)
theorem nodup_sub : ∀ {a b : List Int}, a.Nodup → (∀ x ∈ a, x ∈ b) → a.length ≤ b.length
  | [], _, _, _ => Nat.zero_le _
  | x :: a, b, hn, hs => by
    obtain ⟨h1, h2⟩ := List.nodup_cons.1 hn
    have hx := hs x (List.mem_cons_self ..)
    have := nodup_sub (b := b.erase x) h2 (fun y hy => (List.mem_erase_of_ne (fun e => h1 (by rw [← e]; exact hy))).2 (hs y (List.mem_cons_of_mem _ hy)))
    rw [List.length_erase_of_mem hx] at this
    have hp := List.length_pos_of_mem hx
    rw [List.length_cons]; omega
theorem reach_more {i t : Int} {ch : List (List ChV)} {nm : List ByteArray} {ho : List (List Int)} (h : mdOk i ch nm ho = true) {k : Nat} (hk : k < ch.length) (ht : 0 ≤ t ∧ t < (ch.length : Int)) :
    (∀ x ∈ reachL i ch nm ho, x ∈ reachL i (chX ch k t) nm ho) ∧ (reachL i ch nm ho).length ≤ (reachL i (chX ch k t) nm ho).length := by
  have h2 := md_more h hk ht
  obtain ⟨_, hi, _, hL⟩ := md_parts h
  obtain ⟨_, hi2, _, hL2⟩ := md_parts h2
  have sub : ∀ x ∈ reachL i ch nm ho, x ∈ reachL i (chX ch k t) nm ho := fun x hx => by
    unfold reachL at hx ⊢
    rw [h, cond_true, reach_mem hL hi] at hx
    rw [h2, cond_true, reach_mem hL2 hi2]
    exact rch_more hk hx
  refine ⟨sub, nodup_sub ?_ sub⟩
  unfold reachL
  rw [h]
  exact reach_nodup hL hi
theorem ofMG_more {t : Int} {ch : List (List ChV)} {nm : List ByteArray} {ho : List (List Int)} (h : farM ch nm ho = false) {k : Nat} (hk : k < ch.length) : ofMG (chX ch k t) nm ho = true := by
  obtain ⟨h1, h2, h3, h4, h5⟩ := farM_no h
  have hl : (chX ch k t).length = ch.length := List.length_set
  unfold ofMG m6
  simp only [Bool.and_eq_true, List.all_eq_true]
  refine ⟨⟨ble_of (by omega), fun l hm => ?_⟩, ble_of (by omega), ble_of (by omega), fun l hl => ble_of (by have := h5 l hl; omega)⟩
  obtain ⟨s, s1, s2⟩ := idx_of hm []
  rw [chX_get hk] at s2
  split at s2
  · subst s2
    have h6 := h4 _ (get_mem hk [])
    refine ⟨ble_of (by rw [List.length_append, List.length_singleton]; omega), fun c hc => ?_⟩
    rcases List.mem_append.1 hc with hc | hc
    · exact ble_of (by have := h6.2 c hc; omega)
    · rw [List.mem_singleton.1 hc]; exact ble_of (show 1 ≤ 1000000 by omega)
  · subst s2
    have h6 := h4 _ (get_mem (show s < ch.length by omega) [])
    exact ⟨ble_of (by omega), fun c hc => ble_of (by have := h6.2 c hc; omega)⟩
/-! ### two names -/
theorem let_two {i : Int} {ch : List (List ChV)} {nm : List ByteArray} {ho : List (List Int)} (h : mdOk i ch nm ho = true) (h2 : 2 ≤ nm.length) :
    lettersV i ch nm ho [nm.getD 0 ⟨#[]⟩, nm.getD 1 ⟨#[]⟩] = ⟨ho.map fun h => ((letS 0 [0, 1] h : Nat) : Int), .nil⟩ ∧ lettersV i ch nm ho [nm.getD 1 ⟨#[]⟩, nm.getD 0 ⟨#[]⟩] = ⟨ho.map fun h => ((letS 0 [1, 0] h : Nat) : Int), .nil⟩ := by
  obtain ⟨hp, _⟩ := md_holds h
  match nm, h2, h, hp with
  | x :: y :: r, _, h, hp =>
    have hxy : x.toList ≠ y.toList := (List.pairwise_cons.1 hp).1 y (List.mem_cons_self ..)
    have exy : (x.toList == y.toList) = false := by simpa using hxy
    have eyx : (y.toList == x.toList) = false := by simpa using fun e => hxy e.symm
    have exx : (x.toList == x.toList) = true := by simp
    have eyy : (y.toList == y.toList) = true := by simp
    have i0 : idxS x (x :: y :: r) = 0 := by
      show (bif x.toList == x.toList then ((0 : Nat) : Int) else _) = 0
      rw [exx]; rfl
    have i1 : idxS y (x :: y :: r) = 1 := by
      show (bif y.toList == x.toList then ((0 : Nat) : Int) else (bif y.toList == y.toList then ((1 : Nat) : Int) else _)) = 1
      rw [eyx, eyy]; rfl
    have f1 : freshD [] [x, y] = true := by
      show (!false && (!(y.toList == x.toList || false) && true)) = true
      rw [eyx]; rfl
    have f2 : freshD [] [y, x] = true := by
      show (!false && (!(x.toList == y.toList || false) && true)) = true
      rw [exy]; rfl
    have p1 : placesL (x :: y :: r) [x, y] = some [0, 1] := by
      unfold placesL placesL placesL
      rw [i0, i1]; rfl
    have p2 : placesL (x :: y :: r) [y, x] = some [1, 0] := by
      unfold placesL placesL placesL
      rw [i0, i1]; rfl
    refine ⟨?_, ?_⟩
    · show lettersV i ch (x :: y :: r) ho [x, y] = _
      unfold lettersV
      rw [h, f1, p1]; rfl
    · show lettersV i ch (x :: y :: r) ho [y, x] = _
      unfold lettersV
      rw [h, f2, p2]; rfl
/-! ### the walk -/
theorem gr_L3 {ho : List (List Int)} (hl : ho.length ≤ 1000000) {l r : List Int} (el : l = ho.map fun h => ((letS 0 [0, 1] h : Nat) : Int)) (er : r = ho.map fun h => ((letS 0 [1, 0] h : Nat) : Int)) : ∀ (m n k : Nat), k ≤ ho.length → ho.length - k < m →
    f103L3 n m (k : Int) l r = some ⟨[pB true], [], []⟩
  | 0, _, _, _, h => absurd h (Nat.not_lt_zero _)
  | m + 1, n, k, hk, hm => by
    show f103S3 (f103L3 n m) (k : Int) l r = _
    unfold f103S3
    have ll : l.length = ho.length := by rw [el, List.length_map]
    have rl : r.length = ho.length := by rw [er, List.length_map]
    by_cases h0 : k < ho.length
    · have gl : l.getD k 0 = ((letS 0 [0, 1] ho[k] : Nat) : Int) := by
        rw [el, List.getD_eq_getElem?_getD, List.getElem?_map, List.getElem?_eq_getElem h0]; rfl
      have gr : r.getD k 0 = ((letS 0 [1, 0] ho[k] : Nat) : Int) := by
        rw [er, List.getD_eq_getElem?_getD, List.getElem?_map, List.getElem?_eq_getElem h0]; rfl
      rw [ll, rl, lt_k h0, inb_k h0, wr_k (by omega), Int.toNat_natCast, gl, gr, gr_L3 hl el er m n (k + 1) h0 (by omega)]
      have e1 : letS 0 [0, 1] ho[k] = (bif has ho[k] 0 then 1 else 0) + ((bif has ho[k] 1 then 2 else 0) + 0) := rfl
      have e2 : letS 0 [1, 0] ho[k] = (bif has ho[k] 1 then 1 else 0) + ((bif has ho[k] 0 then 2 else 0) + 0) := rfl
      rw [e1, e2]
      cases has ho[k] 0 <;> cases has ho[k] 1 <;> rfl
    · rw [ll, nlt_k h0]; rfl
section
variable (i : Int) (ch : List (List ChV)) (nm : List ByteArray) (ho : List (List Int)) (i' : Int) (ch' : List (List ChV)) (nm' : List ByteArray) (ho' : List (List Int))
theorem gr_L2 {a b : List Int} (hb : b.length ≤ 1000000) {k : Nat} (hk : k < a.length) (g1 : f103G1) : ∀ (m n j : Nat) (found : Bool), j ≤ b.length → b.length - j < m →
    f103L2 n g1 m (k : Int) found (j : Int) i ch nm ho i' a b ch' nm' ho' = bif found || (b.drop j).any (fun y => a.getD k 0 == y) then g1 (IntKind.i64.wrap ((k : Int) + 1)) i ch nm ho i' a b ch' nm' ho' else some ⟨[pB false], [], []⟩
  | 0, _, _, _, _, h => absurd h (Nat.not_lt_zero _)
  | m + 1, n, j, found, hj, hm => by
    show f103S2 g1 (f103L2 n g1 m) (k : Int) found (j : Int) i ch nm ho i' a b ch' nm' ho' = _
    unfold f103S2
    by_cases h0 : j < b.length
    · rw [lt_k h0, inb_k h0, inb_k hk, wr_k (by omega), Int.toNat_natCast, Int.toNat_natCast]
      simp only [nb11, Bool.and_self, Bool.or_true, cond_true]
      rw [gr_L2 hb hk g1 m n (j + 1) _ h0 (by omega), drop_get h0 0, List.any_cons, Bool.or_assoc]
    · rw [nlt_k h0, List.drop_eq_nil_of_le (by omega)]
      cases found <;> rfl
end
theorem gr_L1 {i : Int} {ch : List (List ChV)} {nm : List ByteArray} {ho : List (List Int)} (hof : ofMG ch nm ho = true) (hmd : mdOk i ch nm ho = true) (h2 : 2 ≤ nm.length) {a b : List Int} (ha : a.length ≤ 1000000) (hb : b.length ≤ 1000000) (hs : ∀ x ∈ a, x ∈ b) {n : Nat} (hn : 1000000 < n) : ∀ (m k : Nat), k ≤ a.length → a.length - k < m →
    f103L1 n m (k : Int) i ch nm ho i a b ch nm ho = some ⟨[pB true], [], []⟩
  | 0, _, _, h => absurd h (Nat.not_lt_zero _)
  | m + 1, k, hk, hm => by
    show f103S1 (f103L2 n (f103L1 n m) n) (f103L3 n n) (f103L1 n m) (k : Int) i ch nm ho i a b ch nm ho = _
    unfold f103S1
    by_cases h0 : k < a.length
    · rw [lt_k h0]
      simp only [cond_true]
      refine Eq.trans (gr_L2 i ch nm ho i ch nm ho hb h0 (f103L1 n m) n n 0 false (Nat.zero_le _) (by omega)) ?_
      have hf : (b.drop 0).any (fun y => a.getD k 0 == y) = true := by
        rw [List.drop_zero, List.any_eq_true]
        exact ⟨_, hs _ (get_mem h0 0), by simp⟩
      rw [hf, wr_k (by omega)]
      exact gr_L1 hof hmd h2 ha hb hs hn m (k + 1) h0 (by omega)
    · obtain ⟨e1, e2⟩ := let_two hmd h2
      have q4 := (ofMG_parts hof).2.2.2.1
      have d0 : inb 0 nm.length = true := inb_k (k := 0) (by omega)
      have d1 : inb 1 nm.length = true := inb_k (k := 1) (by omega)
      rw [nlt_k h0, d0, d1, hof, e1, e2]
      have fin := gr_L3 q4 rfl rfl n n 0 (Nat.zero_le _) (by omega)
      exact fin
theorem mod_in {x : Int} {n : Nat} (h0 : 0 ≤ x) (h1 : x ≤ 255) (hn : 1 ≤ n) : IntKind.i64.wrap x = x ∧ 0 ≤ x.tmod (n : Int) ∧ x.tmod (n : Int) < (n : Int) :=
  ⟨i64_wrap_in (by omega) (by omega), Int.tmod_nonneg _ h0, Int.tmod_lt_of_pos _ (by omega)⟩
theorem grows_T {i : Int} {ch : List (List ChV)} {nm : List ByteArray} {ho : List (List Int)} {s : Int} {to : List Int} (hs : 0 ≤ s ∧ s ≤ 255) (ht : u8 to = true) : f103M 1000001 i ch nm ho s to = some ⟨[pB true], [], []⟩ := by
  unfold f103M f103T
  cases hf : farM ch nm ho with
  | true => rfl
  | false =>
    have hof := ofMG_no hf
    rw [mdG_of hof]
    cases hmd : mdOk i ch nm ho with
    | false => rfl
    | true =>
      by_cases h1 : to.length = 0
      · rw [show (zn to.length == 0) = true by rw [h1]; rfl]; rfl
      · have d1 : (zn to.length == 0) = false := by rw [beq_eq_false_iff_ne]; unfold zn; omega
        rw [d1]
        by_cases h3 : to.length ≤ 10
        · have d2 : decide (zn to.length > 10) = false := decide_eq_false (by unfold zn; omega)
          rw [d2]
          by_cases h4 : nm.length < 2
          · rw [decide_eq_true (show zn nm.length < 2 by unfold zn; omega)]; rfl
          · rw [decide_eq_false (show ¬ zn nm.length < 2 by unfold zn; omega)]
            by_cases h5 : nm.length ≤ 6
            · have d5 : decide (zn nm.length > 6) = false := decide_eq_false (by unfold zn; omega)
              obtain ⟨⟨n1, n2⟩, hi, hol, hL⟩ := md_parts hmd
              obtain ⟨q1, q2, q3, q4, q5⟩ := ofMG_parts hof
              obtain ⟨w1, w2, w3⟩ := mod_in hs.1 hs.2 n1
              have ht0 := List.all_eq_true.1 ht _ (get_mem (show 0 < to.length by omega) 0)
              rw [Bool.and_eq_true, decide_eq_true_eq, decide_eq_true_eq] at ht0
              obtain ⟨v1, v2, v3⟩ := mod_in ht0.1 ht0.2 n1
              have hk : (s.tmod (zn ch.length)).toNat < ch.length := by unfold zn; omega
              have d6 : decide (zn ch.length ≠ 0) = true := decide_eq_true (by unfold zn; omega)
              have d7 : inb (s.tmod (zn ch.length)) ch.length = true := inb_r ⟨w2, w3⟩
              have d8 : inb 0 to.length = true := inb_k (k := 0) (by omega)
              have d9 : decide (((ch.getD (s.tmod (zn ch.length)).toNat []).length + 1) * 40 ≤ 140737488355328) = true := decide_eq_true (by
                have := (q2 _ hk).1
                omega)
              have d10 : ((s.tmod (zn ch.length)).toNat == (s.tmod (zn ch.length)).toNat) = true := by simp
              rw [d5, hof, d6, w1, v1, d7, d8, List.length_singleton, d9, d10]
              simp only [Bool.not_true, Bool.or_self, cond_false, cond_true, Bool.false_or, Bool.or_true, Bool.and_true, nb11]
              have hmd2 := md_more (t := (to.getD 0 0).tmod (zn ch.length)) hmd hk ⟨v2, v3⟩
              have hof2 := ofMG_more (t := (to.getD 0 0).tmod (zn ch.length)) hf hk
              obtain ⟨r1, r2⟩ := reach_more (t := (to.getD 0 0).tmod (zn ch.length)) hmd hk ⟨v2, v3⟩
              have hl2 : (chX ch (s.tmod (zn ch.length)).toNat ((to.getD 0 0).tmod (zn ch.length))).length = ch.length := List.length_set
              have l1 := reachL_len (i := i) (ch := ch) (nm := nm) (ho := ho)
              have l2 := reachL_len (i := i) (ch := chX ch (s.tmod (zn ch.length)).toNat ((to.getD 0 0).tmod (zn ch.length))) (nm := nm) (ho := ho)
              show f103S0 (f103L1 1000001 1000001) (f103L0 1000001 1000000) i ch nm ho i i ch nm ho (chX ch (s.tmod (zn ch.length)).toNat ((to.getD 0 0).tmod (zn ch.length))) nm ho = _
              generalize chX ch (s.tmod (zn ch.length)).toNat ((to.getD 0 0).tmod (zn ch.length)) = c2 at hmd2 hof2 r1 r2 hl2 l2 ⊢
              unfold f103S0
              rw [hof, hof2, mdG_of hof2, hmd2, decide_eq_false (show ¬ zn (reachL i c2 nm ho).length < zn (reachL i ch nm ho).length by unfold zn; omega)]
              exact gr_L1 hof hmd (by omega) (by omega) (by omega) r1 (n := 1000001) (by omega) 1000001 0 (Nat.zero_le _) (by omega)
            · rw [decide_eq_true (show zn nm.length > 6 by unfold zn; omega)]; rfl
        · rw [decide_eq_true (show zn to.length > 10 by unfold zn; omega)]; rfl
def growsS : En.Spec := ⟨[], fun ds os => match ds, os with
  | [.p (.agg [.d (.fz true) (.i .i64) _i, .d (.fz false) (.l (.l (.p .s (.p (.l (.p (.i .i64) (.p (.i .i64) .u))) .u)))) _ch, .d (.fz false) (.l .s) _nm, .d (.fz false) (.l (.l (.i .i64))) _ho]), .p (.one (.d (.fz true) (.i .u8) s)), .p (.one (.d (.fz false) (.l (.i .u8)) to))], [] =>
    .br ((decide (0 ≤ s) && decide (s ≤ 255)) && u8 to) (.leaf [pB true] [] []) .fail
  | _, _ => .fail⟩
theorem grows_ok : FnOk P C0 3 growsS := by
  refine fn_okC ctx13 (show P.funcs[3]? = some f103f by kernel_rfl) (of_decide_eq_true (by kernel_rfl)) (growsS) f103h (fun ds os lf hp => ?_)
  unfold growsS at hp
  simp only at hp
  split at hp
  · rename_i i ch nm ho s to
    simp only [Out.pick] at hp
    cases hc0 : ((decide (0 ≤ s) && decide (s ≤ 255)) && u8 to) with
    | false => rw [hc0] at hp; cases hp
    | true =>
      rw [hc0] at hp
      simp only [cond_true] at hp
      simp only [Option.some.injEq] at hp
      subst hp
      rw [Bool.and_eq_true, Bool.and_eq_true, decide_eq_true_eq, decide_eq_true_eq] at hc0
      exact ⟨1000001, (f103_ev _ i ch nm ho s to).trans (grows_T hc0.1 hc0.2)⟩
  · cases hp
end Go.S11
