/-
  Seat 11: the document's Reach: its contract.
-/
import Derived.Test.YtoghhokbakphlaaDoorS11E
open Go Go.En
namespace Go.S11
def bigR (f : List Bool) (k d : Nat) : List Int := ((List.range' k d).filter fun x => f.getD x false).map fun (x : Nat) => ((x : Nat) : Int)
theorem bigR_succ (f : List Bool) (k d : Nat) : bigR f k (d + 1) = bif f.getD k false then (k : Int) :: bigR f (k + 1) d else bigR f (k + 1) d := by
  unfold bigR
  rw [List.range'_succ, List.filter_cons]
  cases hc : f.getD k false <;> rfl
theorem rr_L4 {f : List Bool} (hf : f.length ≤ 1000000) : ∀ (m n k : Nat) (out : List Int), k ≤ f.length → f.length - k < m → out.length ≤ k →
    f116L4 n m (k : Int) out f = some ⟨[.one (.rw ⟨1, 0⟩)], [], [roI (out ++ bigR f k (f.length - k))]⟩
  | 0, _, _, _, _, h, _ => absurd h (Nat.not_lt_zero _)
  | m + 1, n, k, out, hk, hm, ho => by
    show f116S4 (f116L4 n m) (k : Int) out f = _
    unfold f116S4
    by_cases h0 : k < f.length
    · rw [lt_k h0, inb_k h0, wr_k (by omega), Int.toNat_natCast, decide_eq_true (show (out.length + [(k : Int)].length) * 8 ≤ 140737488355328 by rw [List.length_singleton]; omega)]
      rw [show f.length - k = (f.length - (k + 1)) + 1 by omega, bigR_succ]
      cases hc : f.getD k false with
      | true =>
        simp only [cond_true]
        rw [rr_L4 hf m n (k + 1) _ h0 (by omega) (by rw [List.length_append, List.length_singleton]; omega), List.append_assoc]; rfl
      | false =>
        simp only [cond_true, cond_false]
        exact rr_L4 hf m n (k + 1) out h0 (by omega) (by omega)
    · rw [nlt_k h0, show f.length - k = 0 by omega]
      show some (Lf.mk _ _ [Ob.ro true 0 3 (.i .i64) .z out none]) = some (Lf.mk _ _ [roI (out ++ [])])
      rw [List.append_nil]; rfl
theorem inb_r {n : Nat} {a : Int} (h : 0 ≤ a ∧ a < (n : Int)) : inb a n = true := by
  unfold inb; rw [decide_eq_true h.1, decide_eq_true h.2]; rfl
section
variable {ch : List (List ChV)} (i : Int) (nm : List ByteArray) (ho : List (List Int))
theorem rr_L3 {s c : Nat} (hs : s < ch.length) (hc : c < (ch.getD s []).length) {mv : List MvV} (hmv : ((ch.getD s []).getD c (⟨#[]⟩, [], ())).2.1 = mv) (hm6 : mv.length ≤ 1000000) (hr : ∀ v ∈ mv, 0 ≤ v.1 ∧ v.1 < (ch.length : Int)) (g0 : f116G0) (g1 : f116G1) (g2 : f116G2) :
    ∀ (m n k : Nat) (t : Bool) (seen : List Bool), k ≤ mv.length → mv.length - k < m → seen.length = ch.length →
    f116L3 n g0 g1 g2 m t (s : Int) (c : Int) (k : Int) i ch nm ho seen = g2 ((mv.drop k).foldl wid1 (seen, t)).2 (s : Int) (IntKind.i64.wrap ((c : Int) + 1)) i ch nm ho ((mv.drop k).foldl wid1 (seen, t)).1
  | 0, _, _, _, _, _, h, _ => absurd h (Nat.not_lt_zero _)
  | m + 1, n, k, t, seen, hk, hm, hl => by
    show f116S3 g0 g1 g2 (f116L3 n g0 g1 g2 m) t (s : Int) (c : Int) (k : Int) i ch nm ho seen = _
    unfold f116S3
    rw [Int.toNat_natCast, Int.toNat_natCast, Int.toNat_natCast, hmv, inb_k hs, inb_k hc]
    by_cases h0 : k < mv.length
    · have hv := inb_r (hr _ (get_mem h0 (0, 0, ())))
      rw [hl, hv, lt_k h0, inb_k h0, wr_k (by omega)]
      have e : (t || (Nat.beq 1 1 && (true && true))) = true := by cases t <;> rfl
      rw [e]
      simp only [cond_true]
      rw [rr_L3 hs hc hmv hm6 hr g0 g1 g2 m n (k + 1) _ _ h0 (by omega) (by rw [List.length_set]; exact hl), drop_get h0 (0, 0, ()), List.foldl_cons]
      rfl
    · rw [nlt_k h0, List.drop_eq_nil_of_le (by omega)]; rfl
theorem widC_keep {s : Nat} {seen : List Bool} {t : Bool} {mv : List MvV} (hr : ∀ v ∈ mv, 0 ≤ v.1 ∧ v.1 < (ch.length : Int)) (hl : seen.length = ch.length) (hs : s < ch.length) (hin : seen.getD s false = true) :
    (mv.foldl wid1 (seen, t)).1.length = ch.length ∧ (mv.foldl wid1 (seen, t)).1.getD s false = true := by
  have h := (widV_ok (G := fun _ => True) mv (seen, t) (fun v hv => ⟨by have := hr v hv; show v.1.toNat < seen.length; omega, trivial⟩)).1
  exact ⟨h.len.trans hl, h.mono s (by show s < seen.length; omega) hin⟩
theorem rr_L2 {s : Nat} (hs : s < ch.length) (hrl : (ch.getD s []).length ≤ 1000000) (hc6 : ∀ c ∈ ch.getD s [], c.2.1.length ≤ 1000000) (hr : ∀ c ∈ ch.getD s [], ∀ v ∈ c.2.1, 0 ≤ v.1 ∧ v.1 < (ch.length : Int)) (g0 : f116G0) (g1 : f116G1) {n : Nat} (hn : 1000000 < n) :
    ∀ (m k : Nat) (t : Bool) (seen : List Bool), k ≤ (ch.getD s []).length → (ch.getD s []).length - k < m → seen.length = ch.length → seen.getD s false = true →
    f116L2 n g0 g1 m t (s : Int) (k : Int) i ch nm ho seen = g1 (((ch.getD s []).drop k).foldl widC (seen, t)).2 (IntKind.i64.wrap ((s : Int) + 1)) i ch nm ho (((ch.getD s []).drop k).foldl widC (seen, t)).1
  | 0, _, _, _, _, h, _, _ => absurd h (Nat.not_lt_zero _)
  | m + 1, k, t, seen, hk, hm, hl, hin => by
    show f116S2 (f116L3 n g0 g1 (f116L2 n g0 g1 m) n) g0 g1 (f116L2 n g0 g1 m) t (s : Int) (k : Int) i ch nm ho seen = _
    unfold f116S2
    rw [Int.toNat_natCast, inb_k hs, hl, inb_k hs, hin]
    by_cases h0 : k < (ch.getD s []).length
    · have hm6 := hc6 _ (get_mem h0 (⟨#[]⟩, [], ()))
      have hmr := hr _ (get_mem h0 (⟨#[]⟩, [], ()))
      obtain ⟨a, b⟩ := widC_keep (t := t) hmr hl hs hin
      rw [lt_k h0]
      refine Eq.trans (rr_L3 i nm ho hs h0 rfl hm6 hmr g0 g1 (f116L2 n g0 g1 m) n n 0 t seen (Nat.zero_le _) (by omega) hl) ?_
      rw [List.drop_zero, wr_k (by omega), rr_L2 hs hrl hc6 hr g0 g1 hn m (k + 1) _ _ h0 (by omega) a b, drop_get h0 (⟨#[]⟩, [], ()), List.foldl_cons]
      rfl
    · rw [nlt_k h0, List.drop_eq_nil_of_le (by omega)]; rfl
theorem rr_L1 (hL : Led ch) (h6 : ∀ s, s < ch.length → (ch.getD s []).length ≤ 1000000 ∧ ∀ c ∈ ch.getD s [], c.2.1.length ≤ 1000000) (hch : ch.length ≤ 1000000) (g0 : f116G0) {n : Nat} (hn : 1000000 < n) :
    ∀ (m d s : Nat) (t : Bool) (seen : List Bool), s + d = ch.length → d < m → seen.length = ch.length →
    f116L1 n g0 m t (s : Int) i ch nm ho seen = g0 (widP ch d s (seen, t)).2 i ch nm ho (widP ch d s (seen, t)).1
  | 0, _, _, _, _, _, h, _ => absurd h (Nat.not_lt_zero _)
  | m + 1, 0, s, t, seen, hsd, hm, hl => by
    show f116S1 (f116L2 n g0 (f116L1 n g0 m) n) g0 (f116L1 n g0 m) t (s : Int) i ch nm ho seen = _
    unfold f116S1
    rw [hl, nlt_k (by omega)]; rfl
  | m + 1, d + 1, s, t, seen, hsd, hm, hl => by
    have hs : s < ch.length := by omega
    obtain ⟨q1, q2⟩ := h6 s hs
    show f116S1 (f116L2 n g0 (f116L1 n g0 m) n) g0 (f116L1 n g0 m) t (s : Int) i ch nm ho seen = _
    unfold f116S1
    rw [hl, lt_k hs, cond_true]
    show _ = g0 (widP ch d (s + 1) (widS ch (seen, t) s)).2 i ch nm ho (widP ch d (s + 1) (widS ch (seen, t) s)).1
    cases hin : seen.getD s false with
    | true =>
      have e : widS ch (seen, t) s = (ch.getD s []).foldl widC (seen, t) := by unfold widS; simp only [hin, cond_true]
      have hlen : ((ch.getD s []).foldl widC (seen, t)).1.length = ch.length := by
        have h := (widS_ok hL (R := fun _ => True) (fun _ _ _ _ => trivial) (seen, t) hl (fun _ _ _ => trivial) hs).1.len
        rw [e] at h; exact h.trans hl
      refine Eq.trans (rr_L2 i nm ho hs q1 q2 (hL s hs) g0 (f116L1 n g0 m) hn n 0 t seen (Nat.zero_le _) (by omega) hl hin) ?_
      rw [List.drop_zero, wr_k (by omega), e]
      exact rr_L1 hL h6 hch g0 hn m d (s + 1) _ _ (by omega) (by omega) hlen
    | false =>
      have e : widS ch (seen, t) s = (seen, t) := by unfold widS; simp only [hin, cond_false]
      rw [e]
      have e2 : f116L2 n g0 (f116L1 n g0 m) n t (s : Int) 0 i ch nm ho seen = f116L1 n g0 m t (IntKind.i64.wrap ((s : Int) + 1)) i ch nm ho seen := by
        obtain ⟨n', rfl⟩ : ∃ n', n = n' + 1 := ⟨n - 1, by omega⟩
        show f116S2 _ g0 _ (f116L2 (n' + 1) g0 (f116L1 (n' + 1) g0 m) n') t (s : Int) 0 i ch nm ho seen = _
        unfold f116S2
        rw [Int.toNat_natCast, inb_k hs, hl, inb_k hs, hin, Bool.and_false]
        cases decide ((0 : Int) < zn (ch.getD s []).length) <;> rfl
      refine Eq.trans e2 ?_
      rw [wr_k (by omega)]
      exact rr_L1 hL h6 hch g0 hn m d (s + 1) _ _ (by omega) (by omega) hl
theorem rr_L0 (hL : Led ch) (h6 : ∀ s, s < ch.length → (ch.getD s []).length ≤ 1000000 ∧ ∀ c ∈ ch.getD s [], c.2.1.length ≤ 1000000) (hch : ch.length ≤ 1000000) {n : Nat} (hn : 1000000 < n) :
    ∀ (f m : Nat) (seen : List Bool), seen.length = ch.length → nb true seen < f → f < m →
    f116L0 n m true i ch nm ho seen = some ⟨[.one (.rw ⟨1, 0⟩)], [], [roI (bigR (widF ch f seen) 0 ch.length)]⟩
  | 0, _, _, _, h, _ => absurd h (Nat.not_lt_zero _)
  | f + 1, 0, _, _, _, h => absurd h (Nat.not_lt_zero _)
  | f + 1, m + 1, seen, hl, hf, hm => by
    show f116S0 (f116L1 n (f116L0 n m) n) (f116L4 n n) (f116L0 n m) true i ch nm ho seen = _
    unfold f116S0
    rw [cond_true]
    refine Eq.trans (rr_L1 i nm ho hL h6 hch (f116L0 n m) hn n ch.length 0 false seen (by omega) (by omega) hl) ?_
    obtain ⟨a, _⟩ := widP_ok hL (R := fun _ => True) (fun _ _ _ _ => trivial) ch.length 0 (seen, false) hl (fun _ _ _ => trivial) (by omega)
    have hl2 := a.len.trans hl
    unfold widF
    cases hc : (widP ch ch.length 0 (seen, false)).2 with
    | true =>
      rw [cond_true]
      have hlt : nb true (widP ch ch.length 0 (seen, false)).1 < nb true seen := by
        refine nb_lt true (by rw [hl2, hl]) (fun j hj h => a.mono j hj h) ?_
        rcases a.yes hc with h | ⟨x, h1, h2, h3⟩
        · cases h
        · exact ⟨x, h1, by rw [h2]; simp, h3⟩
      exact rr_L0 hL h6 hch hn f m _ hl2 (by omega) (by omega)
    | false =>
      rw [cond_false]
      obtain ⟨m', rfl⟩ : ∃ m', m = m' + 1 := ⟨m - 1, by omega⟩
      show f116S0 (f116L1 n (f116L0 n m') n) (f116L4 n n) (f116L0 n m') false i ch nm ho (widP ch ch.length 0 (seen, false)).1 = _
      unfold f116S0
      rw [cond_false]
      have := rr_L4 (f := (widP ch ch.length 0 (seen, false)).1) (by rw [hl2]; exact hch) n n 0 [] (Nat.zero_le _) (by rw [hl2]; omega) (Nat.le_refl _)
      rw [hl2, Nat.sub_zero] at this
      exact this
end
theorem rreach_T {i : Int} {ch : List (List ChV)} {nm : List ByteArray} {ho : List (List Int)} (h : ofMG ch nm ho = true) : f116M 1000003 i ch nm ho = some ⟨[.one (.rw ⟨1, 0⟩)], [], [roI (reachL i ch nm ho)]⟩ := by
  unfold f116M f116T reachL
  rw [mdG_of h]
  cases hd : mdOk i ch nm ho with
  | false => rfl
  | true =>
    obtain ⟨⟨n1, n2⟩, hi, _, hL⟩ := md_parts hd
    obtain ⟨q1, q2, _⟩ := ofMG_parts h
    have e0 : (zn ch.length).toNat = ch.length := Int.toNat_natCast _
    have d1 : (decide (0 ≤ zn ch.length) && (decide (zn ch.length ≤ zn ch.length) && decide (1 * (zn ch.length).toNat ≤ 140737488355328))) = true := by
      rw [e0, decide_eq_true (show 0 ≤ zn ch.length by unfold zn; omega), decide_eq_true (Int.le_refl _), decide_eq_true (by omega)]; rfl
    have d2 : inb i (List.replicate ch.length false).length = true := by
      rw [List.length_replicate]; exact inb_r hi
    rw [d1, e0, d2]
    simp only [cond_true, Bool.not_true, cond_false]
    have hnb := nb_le true ((List.replicate ch.length false).set i.toNat true)
    rw [List.length_set, List.length_replicate] at hnb
    refine Eq.trans (rr_L0 i nm ho hL q2 q1 (n := 1000003) (by omega) (ch.length + 1) 1000003 _ (by simp) (by omega) (by omega)) ?_
    rw [← reach_wid hL hi]
    unfold reachW bigR
    rw [List.range_eq_range']
theorem rreach_ok : FnOk P C0 16 reachS := by
  refine fn_okC ctx11 (show P.funcs[16]? = some f116f by kernel_rfl) (of_decide_eq_true (by kernel_rfl)) (reachS) f116h (fun ds os lf hp => ?_)
  unfold reachS at hp
  simp only at hp
  split at hp
  · rename_i i ch nm ho
    simp only [Out.pick] at hp
    cases hc0 : ofMG ch nm ho with
    | false => rw [hc0] at hp; cases hp
    | true =>
      rw [hc0] at hp
      simp only [cond_true] at hp
      simp only [Option.some.injEq] at hp
      subst hp
      exact ⟨1000003, (f116_ev _ i ch nm ho).trans (rreach_T hc0)⟩
  · cases hp
end Go.S11
