/-
  Seat 23: the product beside one state: the law.
-/
import Derived.Test.YtkbablmhgnpmmaaDoorS23Y
import Derived.Test.YtkbablmhgnpmmaaDoorS23GA
open Go Go.En
namespace Go.S23
theorem ctx41 : CtxOk C41 := fun _ _ h => tbl_ok (l := l41) ⟨alive_ok, farM_ok, far_ok, make_ok, ofM_ok, of_ok, num_ok, rightA_ok, checkM_ok, reach_ok, trivial⟩ h
theorem allG_no {ch : List (List ChV)} {nm : List ByteArray} {ho : List (List Int)} {le : List Int} {nx : List (List Int)} {ps : List PairV} (hg : makeG ch nm ho le nx ps = true) : allG ch nm ho le nx ps = true := by
  unfold makeG at hg
  unfold allG
  rw [Bool.and_eq_true] at hg
  rw [mdG_of hg.1, hg.2]; rfl
section
variable (i : Int) (ch : List (List ChV)) (nm : List ByteArray) (ho : List (List Int)) (le : List Int) (p i2 : Int) (nx : List (List Int)) (ps : List PairV)
theorem one_ok' (h : allOk i ch nm ho le p i2 nx ps = true) : allOk i ch nm ho le p 0 [List.replicate (nx.getD 0 []).length 0] [] = true := by
  have hf := facts h
  unfold allOk at h ⊢
  simp only [Bool.and_eq_true] at h ⊢
  obtain ⟨h1, h2, h3, h4⟩ := h
  refine ⟨h1, ?_, h3, ?_⟩
  · have hd := h2
    unfold drOk at hd ⊢
    simp only [Bool.and_eq_true, Bool.not_eq_true'] at hd
    have hp := head_p hd.1
    have hrow := (badL_no (by
      have := List.any_eq_false.1 hd.2.1 _ (get_mem (show 0 < nx.length by omega) [])
      exact eq_false_of_ne_true this)).1
    have e1 : headOk p 0 [List.replicate (nx.getD 0 []).length 0] [] = true := by
      unfold headOk
      rw [decide_eq_true hp.1.1, decide_eq_true (show p ≤ 6 by omega)]; rfl
    have e2 : badL 1 p (List.replicate (nx.getD 0 []).length 0) = false := by
      unfold badL
      rw [List.length_replicate]
      have : (zn (nx.getD 0 []).length == ((2 ^ p.toNat : Nat) : Int)) = true := by simp only [zn, beq_iff_eq]; exact hrow
      rw [this, Bool.not_true, Bool.false_or, List.any_eq_false]
      intro x hx
      rw [(List.mem_replicate.1 hx).2]
      decide
    rw [e1]
    show (true && (!(badL 1 p (List.replicate (nx.getD 0 []).length 0) || false) && true)) = true
    rw [e2]; rfl
  · show (le.all (inF (zn (List.replicate (nx.getD 0 []).length (0 : Int)).length))) = true
    rw [List.length_replicate]; exact h4
theorem plain_T (hp : ps.all pairW = true) : f7T i ch nm ho le p i2 nx ps = some ⟨[pB true], [], []⟩ := by
  unfold f7T
  cases hfar : (farM ch nm ho || (farF nx ps || (decide (zn le.length > 60) || !allOk i ch nm ho le p i2 nx ps))) with
  | true =>
    have g : (farM ch nm ho || (farF nx ps || (decide (zn le.length > 60) || allG ch nm ho le nx ps && true))) = true := by
      cases h1 : farM ch nm ho with
      | true => rfl
      | false =>
        cases h2 : farF nx ps with
        | true => rfl
        | false =>
          by_cases h3 : zn le.length > 60
          · rw [decide_eq_true h3]; rfl
          · rw [allG_no (makeG_no h1 h2 hp (by simp only [zn] at h3; omega) (le := le))]
            cases decide (zn le.length > 60) <;> rfl
    rw [g]; rfl
  | false =>
    simp only [Bool.or_eq_false_iff, decide_eq_false_iff_not, zn, Bool.not_eq_false'] at hfar
    obtain ⟨h1, h2, h3, h6⟩ := hfar
    have hle : le.length ≤ 60 := by omega
    have hg := makeG_no h1 h2 hp hle (le := le)
    obtain ⟨f1, f2, f3⟩ := far_no h2
    obtain ⟨m1, m2, m3, m4, m5⟩ := farM_no h1
    have hf := facts h6
    have hrow : (nx.getD 0 []).length ≤ 64 := f3 _ (get_mem (show 0 < nx.length by have := hf.hN; omega) [])
    have h7 := one_ok' i ch nm ho le p i2 nx ps h6
    have hf1 := facts h7
    have hg1 : makeG ch nm ho le [List.replicate (nx.getD 0 []).length 0] [] = true := by
      unfold makeG drG
      rw [ofMG_no h1, big_of (show le.length ≤ 1000000 by omega)]
      show (true && ((big 1 && ((big (List.replicate (nx.getD 0 []).length (0 : Int)).length && true) && (big 0 && true))) && true)) = true
      rw [List.length_replicate, big_of (show (nx.getD 0 []).length ≤ 1000000 by omega)]; rfl
    obtain ⟨e1, hm1⟩ := made_some (L := 4096) (nm := nm) (ho := ho) (p := p) (ps := []) h7 (by omega) (by show ch.length * 1 ≤ 4096; omega)
    have e1 : (makeV i ch nm ho le p 0 [List.replicate (nx.getD 0 []).length 0] [] 4096).2.2.2 = .nil := e1
    have hm1 : MadeOk i ch le 0 [List.replicate (nx.getD 0 []).length 0] 4096 (makeV i ch nm ho le p 0 [List.replicate (nx.getD 0 []).length 0] [] 4096) := hm1
    have hmul : ch.length * nx.length ≤ 4096 := Nat.le_trans (Nat.mul_le_mul (show ch.length ≤ 40 by omega) (show nx.length ≤ 40 by omega)) (by omega)
    obtain ⟨e2, hm2⟩ := made_some (L := 4096) (nm := nm) (ho := ho) (p := p) (ps := ps) h6 (by omega) hmul
    have e2 : (makeV i ch nm ho le p i2 nx ps 4096).2.2.2 = .nil := e2
    have hm2 : MadeOk i ch le i2 nx 4096 (makeV i ch nm ho le p i2 nx ps 4096) := hm2
    have hmd : mdOk i ch nm ho = true := by unfold allOk at h6; rw [Bool.and_eq_true] at h6; exact h6.1
    have erep : List.replicate (zn (nx.getD 0 []).length).toNat (0 : Int) = List.replicate (nx.getD 0 []).length 0 := rfl
    have edec : (decide (0 ≤ zn (nx.getD 0 []).length) && (decide (zn (nx.getD 0 []).length ≤ zn (nx.getD 0 []).length) && decide (8 * (zn (nx.getD 0 []).length).toNat ≤ 140737488355328))) = true := by
      rw [decide_eq_true (show 0 ≤ zn (nx.getD 0 []).length by simp only [zn]; omega), decide_eq_true (Int.le_refl _), decide_eq_true (show 8 * (zn (nx.getD 0 []).length).toNat ≤ 140737488355328 by simp only [zn]; omega)]; rfl
    generalize hv1 : makeV i ch nm ho le p 0 [List.replicate (nx.getD 0 []).length 0] [] 4096 = v1 at e1 hm1
    generalize hv2 : makeV i ch nm ho le p i2 nx ps 4096 = v2 at e2 hm2
    -- the states of the small product are those that can be come to
    have hq1 : ∀ x ∈ v1.2.2.1, x = 0 := fun x hx => by
      have h1 := (hm1.qr x hx).1
      have h2 : x < ((1 : Nat) : Int) := (hm1.qr x hx).2
      omega
    have hql : v1.2.1.length = v1.2.2.1.length := hm1.ok.gd.len
    have hnd1 : v1.2.1.Nodup := nodup_get fun a b hab hb e => hm1.ok.gd.dist a b hab hb ⟨e, by
      show v1.2.2.1.getD a 0 = v1.2.2.1.getD b 0
      rw [hq1 _ (get_mem (show a < v1.2.2.1.length by omega) 0), hq1 _ (get_mem (show b < v1.2.2.1.length by omega) 0)]⟩
    obtain ⟨_, nd0, r0, mem0⟩ := dfs0_ok hf.hi hf.hmv
    have hlen1 : v1.2.1.length = (dfs0 i ch).length := nodup_same hnd1 nd0 fun x => ⟨fun hx => by
      have := (mem0 x.toNat).2 (made_rc hm1 x hx)
      have h0 := (hm1.sr x hx).1
      rwa [Int.toNat_of_nonneg h0] at this, fun hx => by
      have h0 := (r0 x hx).1
      have := rc_made hf1 hm1 ((mem0 x.toNat).1 (by rwa [Int.toNat_of_nonneg h0]))
      rwa [Int.toNat_of_nonneg h0] at this⟩
    have hreach : (reachL i ch nm ho).length = v1.2.1.length := by rw [reach_len hmd, hlen1]
    -- sizes
    have hge : v1.2.1.length ≤ v2.2.1.length := nodup_sub _ _ hnd1 fun x hx => by
      have h0 := (hm1.sr x hx).1
      have := rc_made hf hm2 (made_rc hm1 x hx)
      rwa [Int.toNat_of_nonneg h0] at this
    have hle2 : v2.2.1.length ≤ v1.2.1.length * nx.length := pairs_le (k := (v2.2.1, v2.2.2.1)) hm2.ok.gd (fun x hx => by
      have h0 := (hm2.sr x hx).1
      have := rc_made hf1 hm1 (made_rc hm2 x hx)
      rwa [Int.toNat_of_nonneg h0] at this) hm2.qr
    have hpos : 1 ≤ v2.2.1.length := (pre_get hm2.s0 (x := 0) (by show 0 < 1; omega)).1
    have h96 := hm2.le
    have h961 := hm1.le
    obtain ⟨l1, l2, l3⟩ := make_limits (nm := nm) (ho := ho) (p := p) (ps := ps) h6 hmul (n := v2.2.1.length) (by rw [hv2]) ⟨hpos, h96⟩
    have ew : IntKind.i64.wrap (zn v1.2.1.length * zn nx.length) = ((v1.2.1.length * nx.length : Nat) : Int) := by
      have e : zn v1.2.1.length * zn nx.length = ((v1.2.1.length * nx.length : Nat) : Int) := by simp only [zn]; rw [Int.natCast_mul]
      have hb : v1.2.1.length * nx.length ≤ 4096 * 40 := Nat.mul_le_mul h961 f1
      rw [e, i64_wrap_in (by omega) (by omega)]
    have ew1 : IntKind.i64.wrap (zn v2.2.1.length - 1) = (v2.2.1.length : Int) - 1 := i64_wrap_in (by simp only [zn]; omega) (by simp only [zn]; omega)
    have ene : (zn v1.2.1.length != zn (reachL i ch nm ho).length) = false := by rw [hreach]; simp
    have hN : 0 < nx.length := by have := hf.hN; omega
    have ein : inb 0 nx.length = true := inb_k (k := 0) hN
    have g : (farM ch nm ho || (farF nx ps || (decide (zn le.length > 60) || allG ch nm ho le nx ps && true))) = true := by
      rw [allG_no hg, h1, h2]
      cases decide (zn le.length > 60) <;> rfl
    have er1 : (makeV i ch nm ho le p i2 nx ps (zn v2.2.1.length)).2.2.2 = .nil := l1
    rw [g, ofMG_no h1, ein, edec, erep, hg1, hv1, e1, ene, (ofG_no h2 hp).1, hg, e2, er1, ew, ew1, decide_eq_true (show zn v2.2.1.length ≥ zn v1.2.1.length by simp only [zn]; omega), decide_eq_true (show zn v2.2.1.length ≤ ((v1.2.1.length * nx.length : Nat) : Int) by simp only [zn]; omega)]
    by_cases hone : v2.2.1.length = 1
    · have eb : (zn v2.2.1.length == 1) = true := by rw [hone]; rfl
      rw [l2 hone, eb, decide_eq_false (show ¬ zn v2.2.1.length > 1 by simp only [zn]; omega)]; rfl
    · have eb : (zn v2.2.1.length == 1) = false := by simp only [zn, beq_eq_false_iff_ne, ne_eq]; omega
      rw [l3 (by omega), eb, decide_eq_true (show zn v2.2.1.length > 1 by simp only [zn]; omega)]; rfl
end
def plainLS : En.Spec := ⟨[], fun ds os => match ds, os with
  | [.p (.agg [.d (.fz true) (.i .i64) _i, .d (.fz false) (.l (.l (.p .s (.p (.l (.p (.i .i64) (.p (.i .i64) .u))) .u)))) _ch, .d (.fz false) (.l .s) _nm, .d (.fz false) (.l (.l (.i .i64))) _ho]), .p (.one (.d (.fz false) (.l (.i .i64)) _le)), .p (.agg [.d (.fz true) (.i .i64) _p, .d (.fz true) (.i .i64) _i2, .d (.fz false) (.l (.l (.i .i64))) _nx, .d (.fz false) (.l (.p (.l (.i .i64)) (.p (.l (.i .i64)) .u))) ps])], [] =>
    .br (ps.all pairW) (.leaf [pB true] [] []) .fail
  | _, _ => .fail⟩
theorem plainL_ok : FnOk P C0 7 plainLS := by
  refine fn_okC ctx41 (show P.funcs[7]? = some f7f by kernel_rfl) (of_decide_eq_true (by kernel_rfl)) (plainLS) f7h (fun ds os lf hp => ?_)
  unfold plainLS at hp
  simp only at hp
  split at hp
  · rename_i i ch nm ho le p i2 nx ps
    obtain ⟨hc, hp1⟩ := br_pick hp
    have hl := leaf_pick hp1
    subst hl
    exact ⟨0, (f7_ev _ i ch nm ho le p i2 nx ps).trans (plain_T i ch nm ho le p i2 nx ps hc)⟩
  · cases hp
end Go.S23
