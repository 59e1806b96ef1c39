/-
  Seat 18: To's contract.
-/
import Derived.Test.YtfkmnklnnccopaaDoorS18G9
open Go Go.En
namespace Go.S18
theorem ctx19 : CtxOk C19 := fun _ _ h => tbl_ok (l := [(20, intsS), (35, hasS)]) ⟨ints_ok, has_ok, trivial⟩ h
def roT (ps : List PairV) : Ob := .ro false 0 53 (.p (.l (.i .i64)) (.p (.l (.i .i64)) .u)) .z ps none
def toS : En.Spec := ⟨[], fun ds os => match ds, os with
  | [.p (.agg [.d (.fz true) (.i .i64) p, .d (.fz true) (.i .i64) i, .d (.fz false) (.l (.l (.i .i64))) nx, .d (.fz false) (.l (.p (.l (.i .i64)) (.p (.l (.i .i64)) .u))) ps])], [] =>
    .br (m6 ps.length) (.leaf [.agg [.d (.fz true) (.i .i64) p, .d (.fz true) (.i .i64) i, .d (.fz false) (.l (.l (.i .i64))) nx, .rw ⟨1, 0⟩]] [] [roT ps]) .fail
  | _, _ => .fail⟩
theorem to_loop {ps : List PairV} (hps : ps.length ≤ 1000000) (p i : Int) (nx : List (List Int)) (a b p' i' : Int) (nx' : List (List Int)) : ∀ (m n k : Nat) (out : List PairV), k ≤ ps.length → ps.length - k < m → out.length ≤ k →
    f24L0 n m (k : Int) p i nx ps a b p' i' nx' out = some ⟨[.agg [.d (.fz true) (.i .i64) p', .d (.fz true) (.i .i64) i', .d (.fz false) (.l (.l (.i .i64))) nx', .rw ⟨1, 0⟩]], [], [roT (out ++ ps.drop k)]⟩
  | 0, _, _, _, _, h, _ => absurd h (Nat.not_lt_zero _)
  | m + 1, n, k, out, hk, hm, ho => by
    show f24S0 (f24L0 n m) (k : Int) p i nx ps a b p' i' nx' out = _
    unfold f24S0
    by_cases h0 : k < ps.length
    · rw [lt_k h0, inb_k h0, wr_k (by omega), Int.toNat_natCast, drop_get h0 ([], [], ()), decide_eq_true (by rw [List.length_singleton]; omega)]
      refine Eq.trans (b := f24L0 n m ((k + 1 : Nat) : Int) p i nx ps a b p' i' nx' (out ++ [ps.getD k ([], [], ())])) rfl ?_
      rw [to_loop hps p i nx a b p' i' nx' m n (k + 1) _ h0 (by omega) (by rw [List.length_append, List.length_singleton]; omega), List.append_assoc]
      rfl
    · rw [nlt_k h0, List.drop_eq_nil_of_le (by omega), List.append_nil]; rfl
theorem to_ok : FnOk P C0 24 toS := by
  refine fn_okC ctx19 (show P.funcs[24]? = some f24f by kernel_rfl) (of_decide_eq_true (by kernel_rfl)) (toS) f24h (fun ds os lf hp => ?_)
  unfold toS at hp
  simp only at hp
  split at hp
  · rename_i p i nx ps
    simp only [Out.pick] at hp
    cases hc0 : m6 ps.length with
    | false => rw [hc0] at hp; cases hp
    | true =>
      rw [hc0] at hp
      simp only [cond_true] at hp
      simp only [Option.some.injEq] at hp
      subst hp
      refine ⟨ps.length + 1, (f24_ev (ps.length + 1) p i nx ps).trans ?_⟩
      exact to_loop (of_ble hc0) p i nx 0 0 p i nx (ps.length + 1) (ps.length + 1) 0 [] (Nat.zero_le _) (by omega) (Nat.zero_le _)
  · cases hp
end Go.S18
