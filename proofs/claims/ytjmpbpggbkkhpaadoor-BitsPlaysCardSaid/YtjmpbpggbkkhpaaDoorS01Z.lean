/-
  Seat 01: the law BitsPlays.
-/
import Derived.Test.YtjmpbpggbkkhpaaDoorS01Y
open Go Go.En
namespace Go.S1
abbrev ActV := Int × Int × Int × List Int × Unit
section
variable {z : Int} {ws : List Int} {bs : List Bool} {l : List ActV}
theorem R.ble (h : R z ws bs) : bs.length.ble 4096 = true := ble_of (by have := h.len; have := h.ok.hi; omega)
theorem fin1 (h : R z ws bs) (n : Nat) (g : f5G0) (i : Int) (x : Bool) (kd a sz : Int) (L : List Int) :
    f5L1 (n + 1) g (n + 1) z l i x x z kd a sz L ws bs = g z l (IntKind.i64.wrap (i + 1)) z ws bs := by
  show f5S1 g (f5L1 (n + 1) g n) z l i x x z kd a sz L ws bs = _
  have e1 : (items z ws).length.ble 9223372036854775806 = true := ble_of (by have := items_len h.ok; omega)
  unfold f5S1
  rw [okS_iff.2 h.ok, h.ble, cnt_eq h, has_eq h, ← items_eq h, e1, sameI_refl, beq_self_eq_true, beq_self_eq_true, bne_self_eq_false, bne_self_eq_false]
  rfl
theorem next_done (h : R z ws bs) (n m : Nat) (g : f5G0) (i : Int) (k : Int) (is : Bool) (v : Int) (kd a sz : Int) (L : List Int) (hk : (decide (k < z) && !is) = false) :
    f5L2 (n + 1) g (m + 1) z l i false false v is v is k z kd a sz L ws bs = g z l (IntKind.i64.wrap (i + 1)) z ws bs := by
  show f5S2 (f5L1 (n + 1) g (n + 1)) g (f5L2 (n + 1) g m) z l i false false v is v is k z kd a sz L ws bs = _
  unfold f5S2
  rw [hk, beq_self_eq_true, bne_self_eq_false, fin1 h]
  rfl
theorem next_loop5 (h : R z ws bs) (n : Nat) (g : f5G0) (i : Int) (kd a sz : Int) (L : List Int) : ∀ (m k : Nat), k ≤ z.toNat → z.toNat - k < m → (∀ q : Nat, a ≤ q → q < k → ¬ BW ws q) →
    f5L2 (n + 1) g (m + 1) z l i false false (nextF z ws a).1 (nextF z ws a).2 0 false (k : Int) z kd a sz L ws bs = g z l (IntKind.i64.wrap (i + 1)) z ws bs
  | 0, _, _, hm, _ => absurd hm (Nat.not_lt_zero _)
  | m + 1, k, hk, hm, hq => by
    have hlo := h.ok.lo; have hhi := h.ok.hi
    by_cases h0 : k < z.toNat
    · show f5S2 (f5L1 (n + 1) g (n + 1)) g (f5L2 (n + 1) g (m + 1)) z l i false false _ _ 0 false (k : Int) z kd a sz L ws bs = _
      unfold f5S2
      have e1 : (decide ((k : Int) < z) && !false) = true := by rw [decide_eq_true (show (k : Int) < z by omega)]; rfl
      rw [e1, h.ble, wr_k (by omega)]
      by_cases h1 : (k : Int) ≥ a
      · cases hb : rHasF bs (k : Int) with
        | false =>
          have hnb : ¬ BW ws k := fun hx => by
            have := (has_BW h.ok k).2 hx
            rw [has_eq h, hb] at this; cases this
          rw [decide_eq_true h1]
          exact next_loop5 h n g i kd a sz L m (k + 1) (by omega) (by omega) (fun q g1 g2 => if he : q = k then he ▸ hnb else hq q g1 (by omega))
        | true =>
          have hbw : BW ws k := (has_BW h.ok k).1 (by rw [has_eq h, hb])
          rw [decide_eq_true h1]
          have e2 : nextF z ws a = ((k : Int), true) := by
            rcases next_spec (i := a) h.ok with ⟨p, g1, g2, g3, g4, g5⟩ | ⟨_, g2⟩
            · have : p = k := by
                rcases Nat.lt_trichotomy p k with hx | hx | hx
                · exact absurd g4 (hq p g2 hx)
                · exact hx
                · exact absurd hbw (g5 k h1 hx)
              rw [g1, this]
            · exact absurd hbw (g2 k h1)
          rw [e2]
          exact next_done h n m g i _ true (k : Int) kd a sz L (by rw [Bool.not_true, Bool.and_false])
      · rw [decide_eq_false h1]
        exact next_loop5 h n g i kd a sz L m (k + 1) (by omega) (by omega) (fun q g1 g2 => hq q g1 (by omega))
    · have e2 : nextF z ws a = (0, false) := by
        rcases next_spec (i := a) h.ok with ⟨p, g1, g2, g3, g4, g5⟩ | ⟨g1, _⟩
        · exact absurd g4 (hq p g2 (by omega))
        · exact g1
      rw [e2]
      exact next_done h n (m + 1) g i _ false 0 kd a sz L (by rw [decide_eq_false (show ¬ (k : Int) < z by omega), Bool.false_and])
/-- one call -/
theorem act_step (h : R z ws bs) {n : Nat} (hn : z.toNat + 2 ≤ n) {k : Nat} (hk : k < l.length) (hl : l.length ≤ 60) (hL : (l.getD k (0, 0, 0, [], ())).2.2.2.1.length ≤ 200) (g : f5G0)
    (ih : ∀ ws' bs', R z ws' bs' → g z l ((k + 1 : Nat) : Int) z ws' bs' = some ⟨[pB true], [], []⟩) :
    f5S0 (f5L1 n g n) (f5L2 n g n) g z l (k : Int) z ws bs = some ⟨[pB true], [], []⟩ := by
  obtain ⟨n, rfl⟩ : ∃ N, n = N + 1 := ⟨n - 1, by omega⟩
  have ew : IntKind.i64.wrap ((k : Int) + 1) = ((k + 1 : Nat) : Int) := wr_k (by omega)
  have ft : ∀ ws' bs' x kd a sz L, R z ws' bs' → f5L1 (n + 1) g (n + 1) z l (k : Int) x x z kd a sz L ws' bs' = some ⟨[pB true], [], []⟩ := fun ws' bs' x kd a sz L hR => by
    rw [fin1 hR, ew]; exact ih _ _ hR
  have hlo := h.ok.lo
  unfold f5S0
  rw [lt_k hk, inb_k hk, Int.toNat_natCast]
  generalize l.getD k (0, 0, 0, [], ()) = a at hL ⊢
  obtain ⟨kd, nn, sz, L, _⟩ := a
  have eL : L.length.ble 9223372036854775806 = true := ble_of (Nat.le_trans hL (by decide))
  have eok := okS_iff.2 h.ok
  have eb := h.ble
  simp only [eL, eok, eb]
  -- a set joined, taken off or met
  have kind : ∀ (op : BinOp), ((kd = 0 ∧ op = .or) ∨ (kd = 1 ∧ op = .andNot) ∨ (kd = 2 ∧ op = .and)) →
      (rOk sz L = true → (rOf sz L).length.ble 4096 = true ∧ f5L1 (n + 1) g (n + 1) z l (k : Int) (turnB op z ws (ofW sz L)) (rWithB kd bs (rOf sz L)) z kd nn sz L (turnW op z ws (ofW sz L)) (rWithL kd bs (rOf sz L)) = some ⟨[pB true], [], []⟩) ∧
      (rOk sz L = false → (rOf sz L).length.ble 4096 = true ∧ f5L1 (n + 1) g (n + 1) z l (k : Int) (turnB op z ws []) (rWithB kd bs (rOf sz L)) z kd nn sz L (turnW op z ws []) (rWithL kd bs (rOf sz L)) = some ⟨[pB true], [], []⟩) := by
    intro op hop
    refine ⟨fun hr => ?_, fun hr => ?_⟩
    · have hR := of_R hr
      obtain ⟨g1, g2⟩ := kind_R hop h hR.ok hR.at
      rw [g1]
      exact ⟨hR.ble, ft _ _ _ _ _ _ _ g2⟩
    · have e : rOf sz L = [] := by unfold rOf; rw [hr]; rfl
      obtain ⟨g1, g2⟩ := kind_R hop h (vs := []) (ts := []) nil_Ok (fun p => bb_nil p)
      rw [e, g1]
      exact ⟨rfl, ft _ _ _ _ _ _ _ g2⟩
  have i1 : Er.isNil .nil = true := rfl
  have i2 : Er.isNil (.no 1) = false := rfl
  by_cases k0 : kd = 0
  · obtain ⟨c1, c2⟩ := kind .or (.inl ⟨k0, rfl⟩)
    have b0 : (kd == 0) = true := beq_iff_eq.2 k0
    simp only [b0, i1, i2]
    cases hr : rOk sz L with
    | true =>
      obtain ⟨d1, d2⟩ := c1 hr
      rw [d1, d2]
      cases decide (sz > 300) <;> rfl
    | false =>
      obtain ⟨d1, d2⟩ := c2 hr
      rw [d1, d2]
      cases decide (sz > 300) <;> rfl
  · by_cases k1 : kd = 1
    · obtain ⟨c1, c2⟩ := kind .andNot (.inr (.inl ⟨k1, rfl⟩))
      have b0 : (kd == 0) = false := beq_eq_false_iff_ne.2 k0
      have b1 : (kd == 1) = true := beq_iff_eq.2 k1
      simp only [b0, b1, i1, i2]
      cases hr : rOk sz L with
      | true =>
        obtain ⟨d1, d2⟩ := c1 hr
        rw [d1, d2]
        cases decide (sz > 300) <;> rfl
      | false =>
        obtain ⟨d1, d2⟩ := c2 hr
        rw [d1, d2]
        cases decide (sz > 300) <;> rfl
    · have b0 : (kd == 0) = false := beq_eq_false_iff_ne.2 k0
      have b1 : (kd == 1) = false := beq_eq_false_iff_ne.2 k1
      by_cases k2 : kd = 2
      · obtain ⟨c1, c2⟩ := kind .and (.inr (.inr ⟨k2, rfl⟩))
        have b2 : (kd == 2) = true := beq_iff_eq.2 k2
        simp only [b0, b1, b2, i1, i2]
        cases hr : rOk sz L with
        | true =>
          obtain ⟨d1, d2⟩ := c1 hr
          rw [d1, d2]
          cases decide (sz > 300) <;> rfl
        | false =>
          obtain ⟨d1, d2⟩ := c2 hr
          rw [d1, d2]
          cases decide (sz > 300) <;> rfl
      · have b2 : (kd == 2) = false := beq_eq_false_iff_ne.2 k2
        simp only [b0, b1, b2]
        obtain ⟨a1, a2⟩ := add_R h nn
        obtain ⟨a3, a4⟩ := del_R h nn
        rw [a1, a3, ft _ _ _ _ _ _ _ a2, ft _ _ _ _ _ _ _ a4, ft _ _ _ _ _ _ _ h]
        have nx : f5L2 (n + 1) g (n + 1) z l (k : Int) false false (nextF z ws nn).1 (nextF z ws nn).2 0 false 0 z kd nn sz L ws bs = some ⟨[pB true], [], []⟩ := by
          refine (next_loop5 h n g (k : Int) kd nn sz L n 0 (Nat.zero_le _) (by omega) (fun q _ hq => absurd hq (Nat.not_lt_zero _))).trans ?_
          rw [ew]; exact ih _ _ h
        rw [nx]
        cases (kd == 3) <;> cases (kd == 4) <;> cases (kd == 5) <;> rfl
theorem plays_loop {n : Nat} (hn : z.toNat + 2 ≤ n) (hl : l.length ≤ 60) (hL : ∀ a ∈ l, a.2.2.2.1.length ≤ 200) : ∀ (m k : Nat) (ws : List Int) (bs : List Bool), k ≤ l.length → l.length - k < m → R z ws bs →
    f5L0 n m z l (k : Int) z ws bs = some ⟨[pB true], [], []⟩
  | 0, _, _, _, _, hm, _ => absurd hm (Nat.not_lt_zero _)
  | m + 1, k, ws, bs, hk, hm, h => by
    show f5S0 (f5L1 n (f5L0 n m) n) (f5L2 n (f5L0 n m) n) (f5L0 n m) z l (k : Int) z ws bs = _
    by_cases h0 : k < l.length
    · exact act_step h hn h0 hl (hL _ (get_mem h0 _)) _ (fun ws' bs' hR => plays_loop hn hl hL m (k + 1) ws' bs' h0 (by omega) hR)
    · unfold f5S0
      rw [nlt_k h0]; rfl
theorem plays_law (z : Int) (fs : List Int) (l : List ActV) : ∃ n, f5M n z fs l = some ⟨[pB true], [], []⟩ := by
  refine ⟨z.toNat + 62, ?_⟩
  unfold f5M f5T
  cases hf : (farF l || (decide (zn fs.length > 200) || decide (z > 300) && decide (z ≤ 4096))) with
  | true => rfl
  | false =>
    rw [Bool.or_eq_false_iff, Bool.or_eq_false_iff, decide_eq_false_iff_not] at hf
    have hb : fs.length.ble 9223372036854775806 = true := ble_of (by have := hf.2.1; simp only [zn] at this; omega)
    rw [hb]
    cases hr : rOk z fs with
    | false => rfl
    | true =>
      have hfar := hf.1
      unfold farF at hfar
      rw [Bool.or_eq_false_iff, decide_eq_false_iff_not, List.any_eq_false] at hfar
      have hl : l.length ≤ 60 := by have := hfar.1; simp only [zn] at this; omega
      have hL : ∀ a ∈ l, a.2.2.2.1.length ≤ 200 := fun a ha => by
        have := hfar.2 a ha
        unfold farA at this
        simp only [zn, decide_eq_true_eq] at this; omega
      exact plays_loop (n := z.toNat + 62) (by omega) hl hL (z.toNat + 62) 0 _ _ (Nat.zero_le _) (by omega) (of_R hr)
end
theorem ofr_ok : FnOk P C0 17 ofrS := fn_mono of_ok (fun ds os lf hp => by
  unfold ofrS at hp
  simp only at hp
  split at hp
  · rename_i z l
    simp only [Out.pick] at hp
    cases hc : Nat.ble l.length 9223372036854775806 with
    | false => rw [hc] at hp; cases hp
    | true =>
      rw [hc] at hp
      show (Out.br (Nat.ble l.length 9223372036854775806) (.br (decide (z < 0) || decide (z > 4096)) _ (.br (ofB z l) _ _)) _).pick = _
      rw [hc]
      have e : rOk z l = (!(decide (z < 0) || decide (z > 4096)) && ofB z l) := rfl
      rw [e] at hp
      show (bif (decide (z < 0) || decide (z > 4096)) then _ else bif ofB z l then _ else _) = _
      rw [← show _ = some lf from hp]
      cases (decide (z < 0) || decide (z > 4096)) <;> cases ofB z l <;> rfl
  · cases hp)
theorem turn_in : CtxOk C14 := fun _ _ h => tbl_ok (l := l14) ⟨turn3_ok, trivial⟩ h
def binnS (op : BinOp) : En.Spec := ⟨[], fun ds os => match ds, os with
  | [.p (.one (.pv ⟨0, 0⟩ 0)), .p (.one .np)], [.va [.d (.fz true) (.i .i64) n, .rw ⟨0, 1⟩], .ro true 0 e (.i .u64) .z ws none] =>
    gS e <| .br (okS n ws) (.leaf [pB (turnB op n ws [])] [vaS ⟨0, 1⟩ n, roW (turnW op n ws [])] []) .fail
  | _, _ => .fail⟩
theorem binn_or : FnOk P C0 13 (binnS .or) := by
  refine fn_okC turn_in (show P.funcs[13]? = some f13xf by kernel_rfl) (of_decide_eq_true (by kernel_rfl)) (binnS .or) f13xh (fun ds os lf hp => ?_)
  unfold binnS at hp
  simp only at hp
  split at hp
  · rename_i n e ws
    obtain ⟨rfl, hq⟩ := gS_pick hp
    simp only [Out.pick] at hq
    cases hc : okS n ws with
    | false => rw [hc] at hq; cases hq
    | true =>
      rw [hc] at hq
      simp only [cond_true, Option.some.injEq] at hq
      subst hq
      refine ⟨0, (f13x_ev 0 n ws).trans ?_⟩
      show f13xT n ws = _
      unfold f13xT
      rw [hc]; rfl
  · cases hp
theorem bin3_or : FnOk P C0 13 (bin3S .or) := by
  intro w M γ ds os vs hR lf hp
  unfold bin3S at hp
  simp only at hp
  split at hp
  · exact binn_or w M γ _ _ vs hR lf hp
  · exact join_ok w M γ _ _ vs hR lf hp
  · cases hp
theorem binn_minus : FnOk P C0 25 (binnS .andNot) := by
  refine fn_okC turn_in (show P.funcs[25]? = some f25xf by kernel_rfl) (of_decide_eq_true (by kernel_rfl)) (binnS .andNot) f25xh (fun ds os lf hp => ?_)
  unfold binnS at hp
  simp only at hp
  split at hp
  · rename_i n e ws
    obtain ⟨rfl, hq⟩ := gS_pick hp
    simp only [Out.pick] at hq
    cases hc : okS n ws with
    | false => rw [hc] at hq; cases hq
    | true =>
      rw [hc] at hq
      simp only [cond_true, Option.some.injEq] at hq
      subst hq
      refine ⟨0, (f25x_ev 0 n ws).trans ?_⟩
      show f25xT n ws = _
      unfold f25xT
      rw [hc]; rfl
  · cases hp
theorem bin3_minus : FnOk P C0 25 (bin3S .andNot) := by
  intro w M γ ds os vs hR lf hp
  unfold bin3S at hp
  simp only at hp
  split at hp
  · exact binn_minus w M γ _ _ vs hR lf hp
  · exact minus_ok w M γ _ _ vs hR lf hp
  · cases hp
theorem binn_meet : FnOk P C0 26 (binnS .and) := by
  refine fn_okC turn_in (show P.funcs[26]? = some f26xf by kernel_rfl) (of_decide_eq_true (by kernel_rfl)) (binnS .and) f26xh (fun ds os lf hp => ?_)
  unfold binnS at hp
  simp only at hp
  split at hp
  · rename_i n e ws
    obtain ⟨rfl, hq⟩ := gS_pick hp
    simp only [Out.pick] at hq
    cases hc : okS n ws with
    | false => rw [hc] at hq; cases hq
    | true =>
      rw [hc] at hq
      simp only [cond_true, Option.some.injEq] at hq
      subst hq
      refine ⟨0, (f26x_ev 0 n ws).trans ?_⟩
      show f26xT n ws = _
      unfold f26xT
      rw [hc]; rfl
  · cases hp
theorem bin3_meet : FnOk P C0 26 (bin3S .and) := by
  intro w M γ ds os vs hR lf hp
  unfold bin3S at hp
  simp only at hp
  split at hp
  · exact binn_meet w M γ _ _ vs hR lf hp
  · exact meet_ok w M γ _ _ vs hR lf hp
  · cases hp
theorem ctx15 : CtxOk C15 := fun _ _ h => tbl_ok (l := l15) ⟨alive_ok, far_ok, ofr_ok, rof_ok, num_ok, with_ok, bin3_or, bin3_minus, bin3_meet, add_ok, del_ok, put_ok, next_ok, rhas_ok, count_ok, ritems_ok, has_ok, size_ok, items_ok, ints_ok, trivial⟩ h
def playsS : En.Spec := ⟨[], fun ds os => match ds, os with
  | [.p (.one (.d (.fz true) (.i .i64) _z)), .p (.one (.d (.fz false) (.l (.i .i64)) _fs)), .p (.one (.d (.fz false) (.l (.p (.i .i64) (.p (.i .i64) (.p (.i .i64) (.p (.l (.i .i64)) .u))))) _l))], [] =>
    .leaf [pB true] [] []
  | _, _ => .fail⟩
theorem plays_ok : FnOk P C0 5 playsS := by
  refine fn_okC ctx15 (show P.funcs[5]? = some f5f by kernel_rfl) (of_decide_eq_true (by kernel_rfl)) playsS f5h (fun ds os lf hp => ?_)
  unfold playsS at hp
  simp only at hp
  split at hp
  · rename_i z fs l
    simp only [Out.pick, Option.some.injEq] at hp
    subst hp
    obtain ⟨n, hn⟩ := plays_law z fs l
    exact ⟨n, (f5_ev n z fs l).trans hn⟩
  · cases hp
end Go.S1
