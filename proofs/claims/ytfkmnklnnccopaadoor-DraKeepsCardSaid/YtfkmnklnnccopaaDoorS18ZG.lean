/-
  Seat 18: DraTrims returns true.
-/
import Derived.Test.YtfkmnklnnccopaaDoorS18GA
import Derived.Test.YtfkmnklnnccopaaDoorS18M
open Go Go.En
namespace Go.S18
theorem ctx20 : CtxOk C20 := fun _ _ h => tbl_ok (l := l20) ⟨alive_ok, far_ok, of_ok, right_ok, num_ok, trim_ok, same_ok, to_ok, rtrim_ok, trivial⟩ h
theorem m6_of {n : Nat} (h : n ≤ 1000000) : m6 n = true := ble_of h
theorem refP_len (l : List Int) : ∀ (k : Nat) (o : List Int), (refP l k o).length ≤ o.length
  | _, [] => Nat.le_refl _
  | k, x :: o => by
    have ih := refP_len l (k + 1) o
    show (bif has l x then (k : Int) :: refP l (k + 1) o else refP l (k + 1) o).length ≤ o.length + 1
    cases has l x with
    | true => rw [cond_true, List.length_cons]; omega
    | false => rw [cond_false]; omega
/-- what is trimmed is small -/
theorem trim_small {nx : List (List Int)} {ps : List PairV} {i : Int} {o : List Int} (hf : Fit nx ps) (ho : TrimOk nx i o) :
    m6 (rowsO nx o o.length).length = true ∧ ((rowsO nx o o.length).all fun l => m6 l.length) = true ∧ m6 (keepR o ps).length = true ∧ ((keepR o ps).all fun q => m6 q.1.length && m6 q.2.1.length) = true := by
  have hle := ho.le
  have hn := hf.n
  have hm := hf.m
  have hk := keep_len o ps
  refine ⟨m6_of (by rw [rows_len]; omega), List.all_eq_true.2 fun l hl => ?_, m6_of (by omega), List.all_eq_true.2 fun q hq => ?_⟩
  · unfold rowsO at hl
    rw [List.take_length] at hl
    obtain ⟨s, hs, rfl⟩ := List.mem_map.1 hl
    obtain ⟨s1, s2, s3⟩ := in_natT (ho.rng s hs)
    have := (hf.row _ s2).1
    rw [List.length_map]
    exact m6_of (by omega)
  · unfold keepR at hq
    obtain ⟨p, _, rfl⟩ := List.mem_map.1 (List.mem_filter.1 hq).1
    have h1 := refP_len p.1 0 o
    have h2 := refP_len p.2.1 0 o
    show (m6 (refP p.1 0 o).length && m6 (refP p.2.1 0 o).length) = true
    rw [m6_of (by omega), m6_of (by omega)]; rfl
theorem trim_same {nx : List (List Int)} {ps : List PairV} {i : Int} {o : List Int} (hf : Fit nx ps) (ho : TrimOk nx i o) (p : Int) :
    sameG p 0 (rowsO nx o o.length) (keepR o ps) p 0 (rowsO nx o o.length) (keepR o ps) = true := by
  obtain ⟨h1, h2, h3, h4⟩ := trim_small hf ho
  unfold sameG
  rw [h1, h2, h3, h4, decide_eq_true ⟨rfl, rfl, rfl, rfl⟩]; rfl
theorem trims_T {p i : Int} {nx : List (List Int)} {ps : List PairV} (hw : ps.all pairW = true) : f6M 1 p i nx ps = some ⟨[pB true], [], []⟩ := by
  unfold f6M f6T
  cases hf : farF nx ps with
  | true => rfl
  | false =>
    obtain ⟨n1, n2, n3⟩ := near hf
    rw [ofG_of n1 (by omega) n3 hw, drG_of n1 (by omega) n3 hw]
    cases hd : drOk p i nx ps with
    | false =>
      show f6S0 (f6L0 1 0) (Er.no 1) p i nx ps 0 0 [] [] = _
      unfold f6S0
      rw [drG_of n1 (by omega) n3 hw, hd]; rfl
    | true =>
      obtain ⟨hfit, hi⟩ := fit_of hd
      obtain ⟨o, ho⟩ := trim_all hfit hi
      show f6S0 (f6L0 1 0) Er.nil p i nx ps p 0 (trimO i nx).2 (keepP (trimO i nx).1 ps) = _
      unfold f6S0
      obtain ⟨_, _, h3, _⟩ := trim_small hfit ho
      rw [drG_of n1 (by omega) n3 hw, hd, ho.eq]
      simp only []
      rw [keep_ref hfit ho.nd, h3, trim_same hfit ho]; rfl
def trimsS : En.Spec := ⟨[], fun ds os => match ds, os with
  | [.p (.agg [.d (.fz true) (.i .i64) _p, .d (.fz true) (.i .i64) _i, .d (.fz false) (.l (.l (.i .i64))) _nx, .d (.fz false) (.l (.p (.l (.i .i64)) (.p (.l (.i .i64)) .u))) ps])], [] =>
    .br (ps.all pairW) (.leaf [pB true] [] []) .fail
  | _, _ => .fail⟩
theorem trims_ok : FnOk P C0 6 trimsS := by
  refine fn_okC ctx20 (show P.funcs[6]? = some f6f by kernel_rfl) (of_decide_eq_true (by kernel_rfl)) trimsS f6h (fun ds os lf hp => ?_)
  unfold trimsS at hp
  simp only at hp
  split at hp
  · rename_i p i nx ps
    simp only [Out.pick] at hp
    cases hc : ps.all pairW with
    | false => rw [hc] at hp; cases hp
    | true =>
      rw [hc] at hp
      simp only [cond_true, Option.some.injEq] at hp
      subst hp
      exact ⟨1, (f6_ev 1 p i nx ps).trans (trims_T hc)⟩
  · cases hp
end Go.S18
