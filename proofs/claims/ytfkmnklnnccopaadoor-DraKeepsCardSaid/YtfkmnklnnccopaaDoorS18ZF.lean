/-
  Seat 18: the answer's Trim: its contract.
-/
import Derived.Test.YtfkmnklnnccopaaDoorS18ZE
open Go Go.En
namespace Go.S18
def roQ (ps : List PairV) : Ob := .ro true 0 53 (.p (.l (.i .i64)) (.p (.l (.i .i64)) .u)) (.p (.l 3 .z) (.p (.l 3 .z) .z)) ps none
def keepR (o : List Int) (ps : List PairV) : List PairV := (ps.map (pairR o)).filter some1
theorem refP_yes {l : List Int} {x : Int} (h : has l x = true) (k : Nat) (o : List Int) : refP l k (x :: o) = (k : Int) :: refP l (k + 1) o := by
  show (bif has l x then _ else _) = _
  rw [h]; rfl
theorem refP_no {l : List Int} {x : Int} (h : has l x = false) (k : Nat) (o : List Int) : refP l k (x :: o) = refP l (k + 1) o := by
  show (bif has l x then _ else _) = _
  rw [h]; rfl
theorem rt_L4 {ps : List PairV} {o : List Int} (ho : o.length ≤ 1000000) {k : Nat} (hk : k < ps.length) (h1 : (ps.getD k ([], [], ())).1.length ≤ 1000000) (h2 : (ps.getD k ([], [], ())).2.1.length ≤ 1000000) (g3 : f25G3) (p i0 : Int) (nx : List (List Int)) (a b p' z : Int) (nx' : List (List Int)) (pr : List PairV) (hpr : pr.length ≤ 1000000) (n : Nat) : ∀ (m j : Nat) (u v : List Int), j ≤ o.length → o.length - j < m → u.length ≤ j → v.length ≤ j →
    f25L4 n g3 m (k : Int) (j : Int) p i0 nx ps a b o p' z nx' pr u v = bif decide (zn (v ++ refP (ps.getD k ([], [], ())).2.1 j (o.drop j)).length > 0) then g3 (IntKind.i64.wrap ((k : Int) + 1)) p i0 nx ps a b o p' z nx' (pr ++ [(u ++ refP (ps.getD k ([], [], ())).1 j (o.drop j), v ++ refP (ps.getD k ([], [], ())).2.1 j (o.drop j), ())]) else g3 (IntKind.i64.wrap ((k : Int) + 1)) p i0 nx ps a b o p' z nx' pr
  | 0, _, _, _, _, h, _, _ => absurd h (Nat.not_lt_zero _)
  | m + 1, j, u, v, hj, hm, hu, hv => by
    have e : f25L4 n g3 (m + 1) (k : Int) (j : Int) p i0 nx ps a b o p' z nx' pr u v = f25S4 g3 (f25L4 n g3 m) (k : Int) (j : Int) p i0 nx ps a b o p' z nx' pr u v := rfl
    rw [e]
    unfold f25S4
    by_cases h0 : j < o.length
    · rw [lt_k h0, inb_k h0, inb_k hk, wr_k (show j ≤ 9223372036854775806 by omega), Int.toNat_natCast k, Int.toNat_natCast j, big6 h1, big6 h2, drop_get h0 0]
      rw [decide_eq_true (show (u.length + [(j : Int)].length) * 8 ≤ 140737488355328 by rw [List.length_singleton]; omega), decide_eq_true (show (v.length + [(j : Int)].length) * 8 ≤ 140737488355328 by rw [List.length_singleton]; omega)]
      simp only [cond_true]
      cases c1 : has (ps.getD k ([], [], ())).1 (o.getD j 0) <;> cases c2 : has (ps.getD k ([], [], ())).2.1 (o.getD j 0) <;> simp only [cond_true, cond_false]
      · rw [refP_no c1, refP_no c2]
        exact rt_L4 ho hk h1 h2 g3 p i0 nx a b p' z nx' pr hpr n m (j + 1) _ _ h0 (by omega) (by omega) (by omega)
      · rw [refP_no c1, refP_yes c2, rt_L4 ho hk h1 h2 g3 p i0 nx a b p' z nx' pr hpr n m (j + 1) _ _ h0 (by omega) (by omega) (by rw [List.length_append, List.length_singleton]; omega), List.append_assoc]; rfl
      · rw [refP_yes c1, refP_no c2, rt_L4 ho hk h1 h2 g3 p i0 nx a b p' z nx' pr hpr n m (j + 1) _ _ h0 (by omega) (by rw [List.length_append, List.length_singleton]; omega) (by omega), List.append_assoc]; rfl
      · rw [refP_yes c1, refP_yes c2, rt_L4 ho hk h1 h2 g3 p i0 nx a b p' z nx' pr hpr n m (j + 1) _ _ h0 (by omega) (by rw [List.length_append, List.length_singleton]; omega) (by rw [List.length_append, List.length_singleton]; omega), List.append_assoc, List.append_assoc]; rfl
    · rw [nlt_k h0, List.drop_eq_nil_of_le (by omega), show refP (ps.getD k ([], [], ())).1 j [] = [] from rfl, show refP (ps.getD k ([], [], ())).2.1 j [] = [] from rfl, List.append_nil, List.append_nil, decide_eq_true (show (pr.length + [(u, v, ())].length) * 48 ≤ 140737488355328 by rw [List.length_singleton]; omega)]
      rfl
theorem rt_L3 {ps : List PairV} {o : List Int} (ho : o.length ≤ 1000000) (hps : ps.length ≤ 1000000) (hp : ∀ q ∈ ps, q.1.length ≤ 1000000 ∧ q.2.1.length ≤ 1000000) (p i0 : Int) (nx : List (List Int)) (a b p' z : Int) (nx' : List (List Int)) {n : Nat} (hn : 1000000 < n) : ∀ (m k : Nat) (pr : List PairV), k ≤ ps.length → ps.length - k < m → pr.length ≤ k →
    f25L3 n m (k : Int) p i0 nx ps a b o p' z nx' pr = some ⟨[.agg [.d (.fz true) (.i .i64) p', .d (.fz true) (.i .i64) z, .rw ⟨1, 0⟩, .rw ⟨1, 1⟩]], [], [roN nx', roQ (pr ++ keepR o (ps.drop k))]⟩
  | 0, _, _, _, h, _ => absurd h (Nat.not_lt_zero _)
  | m + 1, k, pr, hk, hm, hr => by
    have e : f25L3 n (m + 1) (k : Int) p i0 nx ps a b o p' z nx' pr = f25S3 (f25L4 n (f25L3 n m) n) (f25L3 n m) (k : Int) p i0 nx ps a b o p' z nx' pr := rfl
    rw [e]
    unfold f25S3
    by_cases h0 : k < ps.length
    · obtain ⟨h1, h2⟩ := hp _ (get_mem h0 ([], [], ()))
      have h4 := rt_L4 (ps := ps) ho h0 h1 h2 (f25L3 n m) p i0 nx a b p' z nx' pr (by omega) n n 0 [] [] (Nat.zero_le _) (by omega) (Nat.le_refl _) (Nat.le_refl _)
      rw [lt_k h0, drop_get h0 ([], [], ())]
      refine Eq.trans h4 ?_
      rw [List.drop_zero, List.nil_append, List.nil_append, wr_k (by omega)]
      have hk2 : keepR o (ps.getD k ([], [], ()) :: ps.drop (k + 1)) = bif some1 (pairR o (ps.getD k ([], [], ()))) then pairR o (ps.getD k ([], [], ())) :: keepR o (ps.drop (k + 1)) else keepR o (ps.drop (k + 1)) := by
        unfold keepR
        rw [List.map_cons, List.filter_cons]
        cases some1 (pairR o (ps.getD k ([], [], ()))) <;> rfl
      rw [hk2]
      have hs : decide (zn (refP (ps.getD k ([], [], ())).2.1 0 o).length > 0) = some1 (pairR o (ps.getD k ([], [], ()))) := by
        show _ = Nat.blt 0 (refP (ps.getD k ([], [], ())).2.1 0 o).length
        cases refP (ps.getD k ([], [], ())).2.1 0 o with
        | nil => rfl
        | cons x l => exact decide_eq_true (show ((l.length + 1 : Nat) : Int) > 0 by omega)
      rw [hs]
      cases hc : some1 (pairR o (ps.getD k ([], [], ()))) with
      | true =>
        rw [cond_true, cond_true, rt_L3 ho hps hp p i0 nx a b p' z nx' hn m (k + 1) _ h0 (by omega) (by rw [List.length_append, List.length_singleton]; omega), List.append_assoc]
        rfl
      | false =>
        rw [cond_false, cond_false, rt_L3 ho hps hp p i0 nx a b p' z nx' hn m (k + 1) _ h0 (by omega) (by omega)]
    · rw [nlt_k h0, List.drop_eq_nil_of_le (by omega), show keepR o [] = [] from rfl, List.append_nil]; rfl
def rtrimS : En.Spec := ⟨[], fun ds os => match ds, os with
  | [.p (.agg [.d (.fz true) (.i .i64) p, .d (.fz true) (.i .i64) i, .d (.fz false) (.l (.l (.i .i64))) nx, .d (.fz false) (.l (.p (.l (.i .i64)) (.p (.l (.i .i64)) .u))) ps])], [] =>
    .br (drOk p i nx ps) (.leaf [.agg [.d (.fz true) (.i .i64) p, .d (.fz true) (.i .i64) 0, .rw ⟨1, 0⟩, .rw ⟨1, 1⟩]] [] [roN (trimO i nx).2, roQ (keepR (trimO i nx).1 ps)]) .fail
  | _, _ => .fail⟩
theorem rtrim_ok : FnOk P C0 25 rtrimS := by
  refine fn_okC ctx19 (show P.funcs[25]? = some f25f by kernel_rfl) (of_decide_eq_true (by kernel_rfl)) (rtrimS) f25h (fun ds os lf hp => ?_)
  unfold rtrimS at hp
  simp only at hp
  split at hp
  · rename_i p i nx ps
    simp only [Out.pick] at hp
    cases hc0 : drOk p i nx ps with
    | false => rw [hc0] at hp; cases hp
    | true =>
      rw [hc0] at hp
      simp only [cond_true] at hp
      simp only [Option.some.injEq] at hp
      subst hp
      obtain ⟨hf, hi⟩ := fit_of hc0
      have hn := hf.n
      refine ⟨1000001, (f25_ev 1000001 p i nx ps).trans ?_⟩
      obtain ⟨h1, h2⟩ := rt_L0 (nx := nx) (by omega) (fun s hs => ⟨by have := (hf.row s hs).1; omega, (hf.row s hs).2⟩) p i ps 0 0 p 0 [] (n := 1000001) (by omega) 1000001 (nx.length + 1) 0 [i] [] ⟨by simp, fun q hq => by rw [List.mem_singleton.1 hq]; exact hi⟩ (Nat.zero_le _) (by omega) (by omega) (Nat.le_refl _)
      have hle := h1.le
      refine Eq.trans h2 ?_
      exact rt_L3 (by omega) (by have := hf.m; omega) (fun q hq => ⟨(hf.ps q hq).1.2.1, (hf.ps q hq).2.2.1⟩) p i nx 0 0 p 0 _ (by omega) 1000001 0 [] (Nat.zero_le _) (by have := hf.m; omega) (Nat.le_refl _)
  · cases hp
end Go.S18
