/-
  Seat 18: Trim's contract.
-/
import Derived.Test.YtfkmnklnnccopaaDoorS18Z
open Go Go.En
namespace Go.S18
def trimO (i : Int) (nx : List (List Int)) : List Int × List (List Int) := trimN nx (nx.length + 1) 0 [i] []
def pN : L := .d (.fz true) (.l (.l (.i .i64))) []
def pP : L := .d (.fz true) (.l (.p (.l (.i .i64)) (.p (.l (.i .i64)) .u))) []
def trimY (p i : Int) (nx : List (List Int)) (ps : List PairV) : Lf := ⟨[.agg [.d (.fz true) (.i .i64) p, .d (.fz true) (.i .i64) 0, .rw ⟨1, 0⟩, .rw ⟨1, 1⟩], pE .nil], [], [roN (trimO i nx).2, roP (keepP (trimO i nx).1 ps)]⟩
def trimZ : Lf := ⟨[.agg [.d (.fz true) (.i .i64) 0, .d (.fz true) (.i .i64) 0, pN, pP], pE (.no 1)], [], []⟩
def trimS : En.Spec := ⟨[], fun ds os => match ds, os with
  | [.p (.agg [.d (.fz true) (.i .i64) p, .d (.fz true) (.i .i64) i, .d (.fz false) (.l (.l (.i .i64))) nx, .d (.fz false) (.l (.p (.l (.i .i64)) (.p (.l (.i .i64)) .u))) ps])], [] =>
    .br (drG nx ps) (.br (drOk p i nx ps) (.leaf (trimY p i nx ps).res (trimY p i nx ps).old (trimY p i nx ps).new) (.leaf trimZ.res trimZ.old trimZ.new)) .fail
  | _, _ => .fail⟩
theorem pair_in {n : Nat} {l : List Int} (hn : n ≤ 4096) (h : riseF (zn n) (-1) l = true) : l.Nodup ∧ l.length ≤ 1000000 ∧ ∀ x ∈ l, inF (zn n) x = true := by
  obtain ⟨h1, h2⟩ := rise_nodup h
  have h3 : ∀ x ∈ l, inF (zn n) x = true := fun x hx => in_iff.2 (by have := h1 x hx; omega)
  have := nodup_lenI h2 h3
  exact ⟨h2, by omega, h3⟩
structure Fit (nx : List (List Int)) (ps : List PairV) : Prop where
  n : nx.length ≤ 4096
  row : ∀ s, s < nx.length → (nx.getD s []).length ≤ 64 ∧ ∀ q ∈ nx.getD s [], inF (zn nx.length) q = true
  m : ps.length ≤ 4096
  ps : ∀ q ∈ ps, (q.1.Nodup ∧ q.1.length ≤ 1000000 ∧ ∀ x ∈ q.1, inF (zn nx.length) x = true) ∧ (q.2.1.Nodup ∧ q.2.1.length ≤ 1000000 ∧ ∀ x ∈ q.2.1, inF (zn nx.length) x = true)
theorem fit_of {p i : Int} {nx : List (List Int)} {ps : List PairV} (h : drOk p i nx ps = true) : Fit nx ps ∧ inF (zn nx.length) i = true := by
  obtain ⟨ha, hp, hn, hi⟩ := aut_of h
  have hC : 2 ^ p.toNat ≤ 2 ^ 6 := Nat.pow_le_pow_right (by omega) (by omega)
  unfold drOk headOk at h
  simp only [Bool.and_eq_true, Bool.not_eq_true', decide_eq_true_eq] at h
  obtain ⟨⟨_, _, _, hm⟩, _, h2⟩ := h
  refine ⟨⟨hn.2, fun s hs => ⟨by rw [ha.len s hs]; omega, fun q hq => ?_⟩, by simp only [zn] at hm; omega, fun q hq => ?_⟩, hi⟩
  · obtain ⟨c, hc, rfl⟩ := List.mem_iff_getElem.1 hq
    have := ha.to s hs c (by rw [← ha.len s hs]; exact hc)
    rwa [List.getD_eq_getElem?_getD, List.getElem?_eq_getElem hc] at this
  · have hb : badP (zn nx.length) q = false := by
      cases hb : badP (zn nx.length) q with
      | false => rfl
      | true => rw [List.any_eq_true.2 ⟨q, hq, hb⟩] at h2; cases h2
    unfold badP at hb
    rw [Bool.or_eq_false_iff, Bool.not_eq_false', Bool.not_eq_false'] at hb
    exact ⟨pair_in hn.2 hb.1, pair_in hn.2 hb.2⟩
theorem num0 {N : Nat} {i : Int} (hi : inF (zn N) i = true) : NumOk N ((List.replicate N (0 : Int)).set i.toNat 1) [i] := by
  have h0 : NumOk N (List.replicate N (0 : Int)) [] := ⟨List.length_replicate, .nil, fun _ h => by (cases h), fun q hq => by
    obtain ⟨a1, a2, a3⟩ := in_natT hq
    rw [List.getD_eq_getElem?_getD, List.getElem?_replicate, if_pos a2]; rfl⟩
  exact h0.put hi (show (-1 : Int) < 0 by omega)
theorem trim_T {p i : Int} {nx : List (List Int)} {ps : List PairV} (hg : drG nx ps = true) : f22M 1000001 p i nx ps = some (bif drOk p i nx ps then trimY p i nx ps else trimZ) := by
  unfold f22M f22T
  rw [hg]
  cases hc : drOk p i nx ps with
  | false => rfl
  | true =>
    obtain ⟨hf, hi⟩ := fit_of hc
    have hn := hf.n
    have hz : (zn nx.length).toNat = nx.length := Int.toNat_natCast _
    have hb : inb i (List.replicate nx.length (0 : Int)).length = true := by rw [List.length_replicate]; exact hi
    rw [hz, hb]
    rw [decide_eq_true (show 0 ≤ zn nx.length by simp only [zn]; omega), decide_eq_true (show zn nx.length ≤ zn nx.length from Int.le_refl _), decide_eq_true (show 8 * nx.length ≤ 140737488355328 by omega)]
    obtain ⟨num', h1, h2⟩ := trim_L0 (nx := nx) (by omega) (fun s hs => ⟨by have := (hf.row s hs).1; omega, (hf.row s hs).2⟩) p i ps 0 0 p 0 [] (n := 1000001) (by omega) 1000001 (nx.length + 1) 0 _ [i] [] (num0 hi) (Nat.zero_le _) (by omega) (by omega) (Nat.le_refl _)
    have h3 := trim_L2 (N := nx.length) (by omega) h1 (ps := ps) (by have := hf.m; omega) (fun q hq => ⟨(hf.ps q hq).1.2, (hf.ps q hq).2.2⟩) 0 0 p 0 (trimN nx (nx.length + 1) 0 [i] []).2 1000001 1000001 0 [] (Nat.zero_le _) (by have := hf.m; omega) (Nat.le_refl _)
    refine Eq.trans (b := f22L0 1000001 1000001 ((0 : Nat) : Int) p i nx ps 0 0 ((List.replicate nx.length (0 : Int)).set i.toNat 1) [i] p 0 [] []) rfl ?_
    rw [h2]
    refine h3.trans ?_
    rfl
theorem ctx18 : CtxOk C18 := fun _ _ h => tbl_ok (l := [(11, checkS), (39, partS)]) ⟨check_ok, part_ok, trivial⟩ h
theorem trim_ok : FnOk P C0 22 trimS := by
  refine fn_okC ctx18 (show P.funcs[22]? = some f22f by kernel_rfl) (of_decide_eq_true (by kernel_rfl)) (trimS) f22h (fun ds os lf hp => ?_)
  unfold trimS at hp
  simp only at hp
  split at hp
  · rename_i p i nx ps
    simp only [Out.pick] at hp
    cases hg : drG nx ps with
    | false => rw [hg] at hp; cases hp
    | true =>
      rw [hg] at hp
      simp only [cond_true] at hp
      refine ⟨1000001, (f22_ev 1000001 p i nx ps).trans ((trim_T hg).trans ?_)⟩
      cases hc : drOk p i nx ps with
      | false => rw [hc] at hp; simp only [cond_false, Option.some.injEq] at hp; rw [cond_false, ← hp]
      | true => rw [hc] at hp; simp only [cond_true, Option.some.injEq] at hp; rw [cond_true, ← hp]
  · cases hp
end Go.S18
