/-
  Seat 18: part's contract.
-/
import Derived.Test.YtfkmnklnnccopaaDoorS18G7
open Go Go.En
namespace Go.S18
theorem part_loop {l num : List Int} (hl : l.length ≤ 1000000) (hr : ∀ q ∈ l, inF (zn num.length) q = true) : ∀ (m n k : Nat) (o : List Int), k ≤ l.length → l.length - k < m → o.length ≤ k →
    f39L0 n m num l (zn l.length) (k : Int) o = some ⟨[.one (.rw ⟨1, 0⟩)], [], [roI (sortI (o ++ partT num (l.drop k)))]⟩
  | 0, _, _, _, _, h, _ => absurd h (Nat.not_lt_zero _)
  | m + 1, n, k, o, hk, hm, ho => by
    show f39S0 (f39L0 n m) num l (zn l.length) (k : Int) o = _
    unfold f39S0
    by_cases h0 : k < l.length
    · have hi : inb (l.getD k 0) num.length = true := hr _ (get_mem h0 0)
      rw [lt_k h0, inb_k h0, wr_k (by omega), Int.toNat_natCast, drop_get h0 0, hi]
      simp only [cond_true]
      show _ = some (Lf.mk [.one (.rw ⟨1, 0⟩)] [] [roI (sortI (o ++ bif decide (num.getD (l.getD k 0).toNat 0 > 0) then IntKind.i64.wrap (num.getD (l.getD k 0).toNat 0 - 1) :: partT num (l.drop (k + 1)) else partT num (l.drop (k + 1))))])
      by_cases h1 : num.getD (l.getD k 0).toNat 0 > 0
      · rw [decide_eq_true h1, decide_eq_true (show (o.length + [IntKind.i64.wrap (num.getD (l.getD k 0).toNat 0 - 1)].length) * 8 ≤ 140737488355328 by rw [List.length_singleton]; omega)]
        simp only [cond_true]
        rw [part_loop hl hr m n (k + 1) _ h0 (by omega) (by rw [List.length_append, List.length_singleton]; omega), List.append_assoc]
        rfl
      · rw [decide_eq_false h1]
        simp only [cond_false]
        rw [part_loop hl hr m n (k + 1) _ h0 (by omega) (by omega)]
    · rw [nlt_k h0, List.drop_eq_nil_of_le (by omega)]
      show (bif o.length.ble 1000000 then _ else _) = some (Lf.mk _ _ [roI (sortI (o ++ []))])
      rw [List.append_nil, ble_of (show o.length ≤ 1000000 by omega)]; rfl
theorem part_ok : FnOk P C0 39 partS := by
  refine fn_okC ctx17 (show P.funcs[39]? = some f39f by kernel_rfl) (of_decide_eq_true (by kernel_rfl)) (partS) f39h (fun ds os lf hp => ?_)
  unfold partS at hp
  simp only at hp
  split at hp
  · rename_i l num
    simp only [Out.pick] at hp
    cases hc0 : partG num l with
    | false => rw [hc0] at hp; cases hp
    | true =>
      rw [hc0] at hp
      simp only [cond_true] at hp
      simp only [Option.some.injEq] at hp
      subst hp
      unfold partG at hc0
      simp only [Bool.and_eq_true] at hc0
      refine ⟨l.length + 1, (f39_ev (l.length + 1) l num).trans ?_⟩
      have e := part_loop (l := l) (num := num) (of_ble hc0.1) (fun q hq => List.all_eq_true.1 hc0.2.2 q hq) (l.length + 1) (l.length + 1) 0 [] (Nat.zero_le _) (by omega) (Nat.zero_le _)
      exact e
  · cases hp
end Go.S18
