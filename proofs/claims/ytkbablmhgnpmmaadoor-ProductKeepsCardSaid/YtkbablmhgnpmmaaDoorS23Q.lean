/-
  Seat 23: the law of the product of any two.
-/
import Derived.Test.YtkbablmhgnpmmaaDoorS23P
open Go Go.En
namespace Go.S23
theorem big_of {n : Nat} (h : n ≤ 1000000) : big n = true := ble_of (by omega)
theorem makeG_no {ch : List (List ChV)} {nm : List ByteArray} {ho : List (List Int)} {le : List Int} {nx : List (List Int)} {ps : List PairV} (h : farM ch nm ho = false) (h2 : farF nx ps = false) (hp : ps.all pairW = true) (hle : le.length ≤ 60) : makeG ch nm ho le nx ps = true := by
  unfold makeG
  rw [ofMG_no h, (ofG_no h2 hp).2, big_of (by omega)]; rfl
theorem makes_T (i : Int) (ch : List (List ChV)) (nm : List ByteArray) (ho : List (List Int)) (le : List Int) (p i2 : Int) (nx : List (List Int)) (ps : List PairV) (lim : Int) (hp : ps.all pairW = true) : f3T i ch nm ho le p i2 nx ps lim = some ⟨[pB true], [], []⟩ := by
  unfold f3T
  have g : (farM ch nm ho || (farF nx ps || Nat.beq 1 1 && (decide (zn ch.length > 12) || true))) = true := by
    rw [Bool.or_true]
    show (_ || (_ || true)) = true
    rw [Bool.or_true, Bool.or_true]
  rw [g, cond_true]
  cases hfar : (farM ch nm ho || (farF nx ps || (decide (zn ch.length > 12) || (decide (zn nx.length > 12) || decide (zn le.length > 60))))) with
  | true => rfl
  | false =>
    simp only [Bool.or_eq_false_iff, decide_eq_false_iff_not, zn] at hfar
    obtain ⟨h1, h2, h3, h4, h5⟩ := hfar
    obtain ⟨a1, a2, a3, a4⟩ := made_sizes (i := i) (le := le) (p := p) (i2 := i2) (nx := nx) (ps := ps) lim h1
    obtain ⟨b1, b2⟩ := make_same i ch nm ho le p i2 nx ps lim
    rw [ofMG_no h1, (ofG_no h2 hp).1, makeG_no h1 h2 hp (by omega), b1, b2, a1, sameG_of a1, sameM_refl, sameI_refl, sameI_refl, big_of (by omega), big_of (by omega)]
    simp only [cond_true, cond_false, beq_self_eq_true]
    rfl
def makesLS : En.Spec := ⟨[], fun ds os => match ds, os with
  | [.p (.agg [.d (.fz true) (.i .i64) _i, .d (.fz false) (.l (.l (.p .s (.p (.l (.p (.i .i64) (.p (.i .i64) .u))) .u)))) _ch, .d (.fz false) (.l .s) _nm, .d (.fz false) (.l (.l (.i .i64))) _ho]), .p (.one (.d (.fz false) (.l (.i .i64)) _le)),
     .p (.agg [.d (.fz true) (.i .i64) _p, .d (.fz true) (.i .i64) _i2, .d (.fz false) (.l (.l (.i .i64))) _nx, .d (.fz false) (.l (.p (.l (.i .i64)) (.p (.l (.i .i64)) .u))) ps]), .p (.one (.d (.fz true) (.i .i64) _lim))], [] =>
    .br (ps.all pairW) (.leaf [pB true] [] []) .fail
  | _, _ => .fail⟩
theorem makesL_ok : FnOk P C0 3 makesLS := by
  refine fn_okC ctx31 (show P.funcs[3]? = some f3f by kernel_rfl) (of_decide_eq_true (by kernel_rfl)) (makesLS) f3h (fun ds os lf hp => ?_)
  unfold makesLS at hp
  simp only at hp
  split at hp
  · rename_i i ch nm ho le p i2 nx ps lim
    simp only [Out.pick] at hp
    cases hc0 : ps.all pairW with
    | false => rw [hc0] at hp; cases hp
    | true =>
      rw [hc0] at hp
      simp only [cond_true] at hp
      simp only [Option.some.injEq] at hp
      subst hp
      exact ⟨0, (f3_ev _ i ch nm ho le p i2 nx ps lim).trans (makes_T i ch nm ho le p i2 nx ps lim hc0)⟩
  · cases hp
end Go.S23
