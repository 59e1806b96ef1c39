/-
  Seat 23: a pair's sets: the law.
-/
import Derived.Test.YtkbablmhgnpmmaaDoorS23G7
open Go Go.En
namespace Go.S23
theorem ctx31 : CtxOk C31 := fun _ _ h => tbl_ok (l := l31) ⟨alive_ok, farM_ok, far_ok, make_ok, ofM_ok, of_ok, ref_ok, num_ok, same_ok, to_ok, ints_ok, rightA_ok, sets_ok, right_ok, has_ok, trivial⟩ h
/-! ### searching among numbers that rise -/
theorem rise_lt {n : Int} : ∀ {l : List Int} {a : Int}, riseF n a l = true → (∀ x ∈ l, a < x) ∧ ∀ i j, i < j → j < l.length → l.getD i 0 < l.getD j 0
  | [], _, _ => ⟨fun _ h => (by cases h), fun _ j _ h => absurd h (Nat.not_lt_zero j)⟩
  | x :: l, a, h => by
    have h : (!(decide (x ≤ a) || decide (x ≥ n)) && riseF n x l) = true := h
    simp only [Bool.and_eq_true, Bool.not_eq_true', Bool.or_eq_false_iff, decide_eq_false_iff_not] at h
    obtain ⟨h1, h2⟩ := rise_lt h.2
    refine ⟨fun y hy => ?_, fun i j hij hj => ?_⟩
    · rcases List.mem_cons.1 hy with rfl | hy
      · omega
      · have := h1 y hy; omega
    · cases j with
      | zero => omega
      | succ j =>
        have hj' : j < l.length := by simpa using hj
        cases i with
        | zero => exact h1 _ (get_mem hj' 0)
        | succ i => exact h2 i j (by omega) hj'
theorem bs_spec {l : List Int} (x : Int) (hs : ∀ i j, i < j → j < l.length → l.getD i 0 < l.getD j 0) : ∀ (f i j : Nat), i ≤ j → j ≤ l.length → j - i ≤ f → (∀ t, t < i → l.getD t 0 < x) → (∀ t, j ≤ t → t < l.length → x ≤ l.getD t 0) →
    (∀ t, t < bsL l x f i j → l.getD t 0 < x) ∧ (∀ t, bsL l x f i j ≤ t → t < l.length → x ≤ l.getD t 0) ∧ bsL l x f i j ≤ l.length
  | 0, i, j, h1, h2, h3, h4, h5 => by
    have : i = j := by omega
    subst this
    exact ⟨h4, h5, h2⟩
  | f + 1, i, j, h1, h2, h3, h4, h5 => by
    rw [bsL]
    by_cases h0 : i < j
    · rw [if_pos h0]
      by_cases hx : l.getD ((i + j) / 2) 0 < x
      · rw [if_pos hx]
        refine bs_spec x hs f ((i + j) / 2 + 1) j (by omega) h2 (by omega) (fun t ht => ?_) h5
        by_cases e : t = (i + j) / 2
        · rw [e]; exact hx
        · have := hs t ((i + j) / 2) (by omega) (by omega); omega
      · rw [if_neg hx]
        refine bs_spec x hs f i ((i + j) / 2) (by omega) (by omega) (by omega) h4 (fun t ht htl => ?_)
        by_cases e : t = (i + j) / 2
        · rw [e]; omega
        · have := hs ((i + j) / 2) t (by omega) htl; omega
    · rw [if_neg h0]
      have : i = j := by omega
      subst this
      exact ⟨h4, h5, h2⟩
theorem bs_has {n : Int} {l : List Int} (h : riseF n (-1) l = true) (x : Int) : bsB l x = has l x := by
  obtain ⟨_, hs⟩ := rise_lt h
  obtain ⟨h1, h2, h3⟩ := bs_spec x hs l.length 0 l.length (Nat.zero_le _) (Nat.le_refl _) (by omega) (fun t ht => absurd ht (Nat.not_lt_zero _)) (fun t ht htl => absurd htl (by omega))
  rw [Bool.eq_iff_iff]
  unfold bsB bsI has
  rw [Bool.and_eq_true, List.any_eq_true, beq_iff_eq]
  constructor
  · rintro ⟨a, b⟩
    have a : bsL l x l.length 0 l.length < l.length := of_ble a
    exact ⟨_, get_mem a 0, by rw [b]; simp⟩
  · rintro ⟨y, hy, e⟩
    have e : x = y := eq_of_beq e
    subst e
    obtain ⟨t, ht, et⟩ := List.mem_iff_getElem.1 hy
    have et : l.getD t 0 = x := by rw [List.getD_eq_getElem?_getD, List.getElem?_eq_getElem ht]; exact et
    by_cases h0 : bsL l x l.length 0 l.length ≤ t
    · have hp : bsL l x l.length 0 l.length < l.length := by omega
      refine ⟨ble_of hp, ?_⟩
      have a := h2 _ (Nat.le_refl _) hp
      by_cases e : bsL l x l.length 0 l.length = t
      · rw [e]; exact et
      · have := hs (bsL l x l.length 0 l.length) t (by omega) ht; omega
    · exact absurd et (by have := h1 t (by omega); omega)
/-! ### the law -/
def setsLS : En.Spec := ⟨[], fun ds os => match ds, os with
  | [.p (.one (.d (.fz false) (.l (.i .i64)) _Q)), .p (.agg [.d (.fz true) (.i .i64) _p, .d (.fz true) (.i .i64) _i2, .d (.fz false) (.l (.l (.i .i64))) _nx, .d (.fz false) (.l (.p (.l (.i .i64)) (.p (.l (.i .i64)) .u))) ps]), .p (.one (.d (.fz true) (.i .i64) _k))], [] =>
    .br (ps.all pairW) (.leaf [pB true] [] []) .fail
  | _, _ => .fail⟩
theorem far_no {nx : List (List Int)} {ps : List PairV} (h : farF nx ps = false) : nx.length ≤ 40 ∧ ps.length ≤ 20 ∧ ∀ l ∈ nx, l.length ≤ 64 := by
  unfold farF at h
  simp only [Bool.or_eq_false_iff, decide_eq_false_iff_not, zn, List.any_eq_false, decide_eq_true_eq] at h
  refine ⟨by omega, by omega, fun l hl => ?_⟩
  have := h.2 l hl
  omega
theorem ofG_no {nx : List (List Int)} {ps : List PairV} (h : farF nx ps = false) (hp : ps.all pairW = true) : ofG nx ps = true ∧ drG nx ps = true := by
  obtain ⟨h1, h2, h3⟩ := far_no h
  have hp := List.all_eq_true.1 hp
  unfold ofG drG m6
  simp only [Bool.and_eq_true, List.all_eq_true]
  refine ⟨⟨ble_of (by omega), fun l hl => ble_of (by have := h3 l hl; omega), ble_of (by omega), fun q hq => ?_⟩, ble_of (by omega), fun l hl => ble_of (by have := h3 l hl; omega), ble_of (by omega), fun q hq => ?_⟩
  · have := hp q hq
    unfold pairW at this
    rw [Bool.and_eq_true] at this
    exact this
  · have := hp q hq
    unfold pairW at this
    rw [Bool.and_eq_true] at this
    exact ⟨ble_of (by have := of_ble this.1; omega), ble_of (by have := of_ble this.2; omega)⟩
section
variable (Q : List Int) (k : Int) (e : Er) (p i2 : Int) (nx : List (List Int)) (ps : List PairV) (F I : List Bool)
noncomputable def tailL (ok : Bool) : Option Lf :=
  bif !ok then (bif plain e && true then some ⟨[pB (numOf e == 1 && IntKind.i64.wrap (zn F.length + zn I.length) == 0)], [], []⟩ else none)
  else bif !e.isNil || (zn F.length != zn Q.length || zn I.length != zn Q.length) then some ⟨[pB false], [], []⟩ else f5L1 61 61 Q k 0 p i2 nx ps F I
theorem st_loop0 (hQ : Q.length ≤ 60) : ∀ (m j : Nat) (ok : Bool), j ≤ Q.length → Q.length - j < m →
    f5L0 61 m Q k e ok (j : Int) p i2 nx ps F I = tailL Q k e p i2 nx ps F I (ok && (Q.drop j).all (inF (zn nx.length)))
  | 0, _, _, _, h => absurd h (Nat.not_lt_zero _)
  | m + 1, j, ok, hj, hm => by
    show f5S0 (f5L1 61 61) (f5L0 61 m) Q k e ok (j : Int) p i2 nx ps F I = _
    unfold f5S0
    by_cases h0 : j < Q.length
    · rw [lt_k h0, inb_k h0, Int.toNat_natCast, wr_k (by omega), st_loop0 hQ m (j + 1) _ h0 (by omega), drop_get h0 0, List.all_cons]
      cases ok with
      | false => rfl
      | true =>
        show (bif true then bif (true && (true && (true && bif decide (Q.getD j 0 ≥ 0) then true && (true && (true && true)) else true))) then tailL Q k e p i2 nx ps F I (inF (zn nx.length) (Q.getD j 0) && (Q.drop (j + 1)).all (inF (zn nx.length))) else none else _) = _
        cases decide (Q.getD j 0 ≥ 0) <;> rfl
    · rw [nlt_k h0, List.drop_eq_nil_of_le (by omega)]
      show _ = tailL Q k e p i2 nx ps F I (ok && true)
      rw [Bool.and_true]
      cases ok <;> rfl
end
theorem st_loop1 {Q : List Int} (hQ : Q.length ≤ 60) {k : Nat} (p i2 : Int) (nx : List (List Int)) {ps : List PairV} (hk : k < ps.length) (hw : pairW (ps.getD k ([], [], ())) = true) {n : Int} (hr : riseF n (-1) (ps.getD k ([], [], ())).1 = true) (hr2 : riseF n (-1) (ps.getD k ([], [], ())).2.1 = true) : ∀ (m j : Nat), j ≤ Q.length → Q.length - j < m →
    f5L1 61 m Q (k : Int) (j : Int) p i2 nx ps (finF ps (k : Int) Q) (infF ps (k : Int) Q) = some ⟨[pB true], [], []⟩
  | 0, _, _, h => absurd h (Nat.not_lt_zero _)
  | m + 1, j, hj, hm => by
    show f5S1 (f5L1 61 m) Q (k : Int) (j : Int) p i2 nx ps (finF ps (k : Int) Q) (infF ps (k : Int) Q) = _
    unfold f5S1
    by_cases h0 : j < Q.length
    · have l1 : j < (finF ps (k : Int) Q).length := by unfold finF; simpa using h0
      have l2 : j < (infF ps (k : Int) Q).length := by unfold infF; simpa using h0
      have v1 : (finF ps (k : Int) Q).getD j false = has (ps.getD k ([], [], ())).1 (Q.getD j 0) := by
        unfold finF
        rw [Int.toNat_natCast, List.getD_eq_getElem?_getD, List.getD_eq_getElem?_getD (l := Q), List.getElem?_map, List.getElem?_eq_getElem h0]
        exact bs_has hr _
      have v2 : (infF ps (k : Int) Q).getD j false = has (ps.getD k ([], [], ())).2.1 (Q.getD j 0) := by
        unfold infF
        rw [Int.toNat_natCast, List.getD_eq_getElem?_getD, List.getD_eq_getElem?_getD (l := Q), List.getElem?_map, List.getElem?_eq_getElem h0]
        exact bs_has hr2 _
      unfold pairW at hw
      rw [Bool.and_eq_true] at hw
      have b1 : big (ps.getD k ([], [], ())).1.length = true := ble_of (by have := of_ble hw.1; omega)
      have b2 : big (ps.getD k ([], [], ())).2.1.length = true := ble_of (by have := of_ble hw.2; omega)
      rw [lt_k h0, inb_k h0, inb_k hk, inb_k l1, inb_k l2, Int.toNat_natCast, Int.toNat_natCast, v1, v2, b1, b2, wr_k (by omega), st_loop1 hQ p i2 nx hk (by unfold pairW; rw [hw.1, hw.2]; rfl) hr hr2 m (j + 1) h0 (by omega)]
      cases has (ps.getD k ([], [], ())).1 (Q.getD j 0) <;> cases has (ps.getD k ([], [], ())).2.1 (Q.getD j 0) <;> rfl
    · rw [nlt_k h0]; rfl
theorem setsL_T (Q : List Int) (p i2 : Int) (nx : List (List Int)) (ps : List PairV) (k : Int) (hp : ps.all pairW = true) : f5M 61 Q p i2 nx ps k = some ⟨[pB true], [], []⟩ := by
  unfold f5M f5T
  cases hf : farF nx ps with
  | true => rfl
  | false =>
    by_cases hQ : Q.length ≤ 60
    · obtain ⟨h1, h2⟩ := ofG_no hf hp
      have h3 : setG Q nx ps = true := by unfold setG m6; rw [h2, hp, ble_of (show Q.length ≤ 1000000 by omega)]; rfl
      rw [decide_eq_false (show ¬ zn Q.length > 60 by simp only [zn]; omega), h1, h2, h3]
      have g : (true && bif drOk p i2 nx ps then decide (k ≥ 0) || true else true) = true := by cases drOk p i2 nx ps <;> cases decide (k ≥ 0) <;> rfl
      rw [g]
      have r0 := st_loop0 Q k (er1 (setOk p i2 nx ps k Q)) p i2 nx ps (bif setOk p i2 nx ps k Q then finF ps k Q else []) (bif setOk p i2 nx ps k Q then infF ps k Q else []) hQ 61 0 (bif drOk p i2 nx ps then bif decide (k ≥ 0) then decide (k < zn ps.length) else false else false) (Nat.zero_le _) (by omega)
      have ea : ((bif drOk p i2 nx ps then bif decide (k ≥ 0) then decide (k < zn ps.length) else false else false) && (Q.drop 0).all (inF (zn nx.length))) = setOk p i2 nx ps k Q := by
        unfold setOk inF
        rw [List.drop_zero, List.all_eq_not_any_not]
        cases drOk p i2 nx ps <;> cases decide (k ≥ 0) <;> cases decide (k < zn ps.length) <;> rfl
      rw [ea] at r0
      refine Eq.trans r0 ?_
      cases hs : setOk p i2 nx ps k Q with
      | false => rfl
      | true =>
        have hs' := hs
        unfold setOk at hs'
        simp only [Bool.and_eq_true, Bool.not_eq_true'] at hs'
        obtain ⟨hd, hk, _⟩ := hs'
        have hk := inF_p hk
        obtain ⟨k, rfl⟩ := Int.eq_ofNat_of_zero_le hk.1
        have hk' : k < ps.length := by simp only [zn] at hk; omega
        unfold drOk at hd
        simp only [Bool.and_eq_true, Bool.not_eq_true', List.any_eq_false] at hd
        have hb := hd.2.2 _ (get_mem hk' ([], [], ()))
        unfold badP at hb
        simp only [Bool.or_eq_true, Bool.not_eq_true', not_or, Bool.not_eq_false] at hb
        have r1 := st_loop1 hQ p i2 nx hk' (List.all_eq_true.1 hp _ (get_mem hk' ([], [], ()))) hb.1 hb.2 61 0 (Nat.zero_le _) (by omega)
        have e1 : (zn (finF ps (k : Int) Q).length != zn Q.length) = false := by unfold finF; simp
        have e2 : (zn (infF ps (k : Int) Q).length != zn Q.length) = false := by unfold infF; simp
        unfold tailL
        show (bif false then _ else bif !(er1 true).isNil || (zn (finF ps (k : Int) Q).length != zn Q.length || zn (infF ps (k : Int) Q).length != zn Q.length) then _ else f5L1 61 61 Q (k : Int) ((0 : Nat) : Int) p i2 nx ps (finF ps (k : Int) Q) (infF ps (k : Int) Q)) = _
        rw [e1, e2, r1]; rfl
    · rw [decide_eq_true (show zn Q.length > 60 by simp only [zn]; omega)]; rfl
theorem setsL_ok : FnOk P C0 5 setsLS := by
  refine fn_okC ctx31 (show P.funcs[5]? = some f5f by kernel_rfl) (of_decide_eq_true (by kernel_rfl)) (setsLS) f5h (fun ds os lf hp => ?_)
  unfold setsLS at hp
  simp only at hp
  split at hp
  · rename_i Q p i2 nx ps k
    simp only [Out.pick] at hp
    cases hc0 : ps.all pairW with
    | false => rw [hc0] at hp; cases hp
    | true =>
      rw [hc0] at hp
      simp only [cond_true] at hp
      simp only [Option.some.injEq] at hp
      subst hp
      exact ⟨_, (f5_ev _ Q p i2 nx ps k).trans (setsL_T Q p i2 nx ps k hc0)⟩
  · cases hp
end Go.S23
