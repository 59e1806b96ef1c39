/-
  Seat 01: the contracts of Join and has.
-/
import Derived.Test.YtjmpbpggbkkhpaaDoorS01G8
import Derived.Test.YtjmpbpggbkkhpaaDoorS01F
open Go Go.En
namespace Go.S1
theorem ctx8 : CtxOk C8 := fun _ _ h => tbl_ok (l := l8) ⟨turn_ok, trivial⟩ h
def joinS : En.Spec := ⟨[], fun ds os => match ds, os with
  | [.p (.one .np), .p (.one .np)], [] => .leaf [pB false] [] []
  | [.p (.one (.pv ⟨0, 0⟩ 0)), .p (.one (.pv ⟨0, 1⟩ 0))], [.va [.d (.fz true) (.i .i64) n, .rw ⟨0, 2⟩], .va [.d (.fz true) (.i .i64) m, .rw ⟨0, 3⟩], .ro true 0 e (.i .u64) .z ws none, .ro true 0 e' (.i .u64) .z vs none] =>
    gS2 e e' <| .br (okS n ws) (.leaf [pB (turnB .or n ws vs)] [vaS ⟨0, 2⟩ n, vaS ⟨0, 3⟩ m, roW (turnW .or n ws vs), roW vs] []) .fail
  | _, _ => .fail⟩
theorem join_ok : FnOk P C0 13 joinS := by
  refine fn_okC ctx8 (show P.funcs[13]? = some f13jf by kernel_rfl) (of_decide_eq_true (by kernel_rfl)) joinS f13jh (fun ds os lf hp => ?_)
  unfold joinS at hp
  simp only at hp
  split at hp
  · simp only [Out.pick, Option.some.injEq] at hp
    subst hp
    exact ⟨0, f13k_ev 0⟩
  · rename_i n m e ws e' vs
    obtain ⟨rfl, rfl, hq⟩ := gS2_pick hp
    replace hp := hq
    simp only [Out.pick] at hp
    cases hc : okS n ws with
    | false => rw [hc] at hp; cases hp
    | true =>
      rw [hc] at hp
      simp only [cond_true, Option.some.injEq] at hp
      subst hp
      refine ⟨0, (f13j_ev 0 n m ws vs).trans ?_⟩
      show f13jT n m ws vs = _
      unfold f13jT
      rw [hc]; rfl
  · cases hp
theorem hasL_loop {l : List Int} {i : Int} (hl : l.length ≤ 9223372036854775806) : ∀ (m n k : Nat), k ≤ l.length → l.length - k < m → f14L0 n m l i (k : Int) = some ⟨[pB (hasL (l.drop k) i)], [], []⟩
  | 0, _, _, _, h => absurd h (Nat.not_lt_zero _)
  | m + 1, n, k, hk, hm => by
    show f14S0 (f14L0 n m) l i (k : Int) = _
    unfold f14S0
    by_cases h0 : k < l.length
    · have e1 : decide ((k : Int) < zn l.length) = true := by simpa [zn] using h0
      have e2 : inb (k : Int) l.length = true := by simp [inb, h0]
      have e4 : IntKind.i64.wrap ((k : Int) + 1) = ((k + 1 : Nat) : Int) := by rw [i64_wrap_in (by omega) (by omega)]; rfl
      rw [e1, e2, e4, hasL_loop hl m n (k + 1) h0 (by omega), getD_drop h0 0]
      simp only [Int.toNat_natCast]
      show (bif true then bif true then bif l.getD k 0 == i then _ else _ else _ else _) = some (Lf.mk [pB ((l.getD k 0 == i) || hasL (l.drop (k + 1)) i)] [] [])
      cases (l.getD k 0 == i) <;> rfl
    · have e1 : decide ((k : Int) < zn l.length) = false := by simpa [zn] using h0
      rw [e1, List.drop_eq_nil_of_le (by omega)]; rfl
theorem hasL_ok : FnOk P C0 14 hasLS := by
  refine fn_okC ctx1 (show P.funcs[14]? = some f14f by kernel_rfl) (of_decide_eq_true (by kernel_rfl)) hasLS f14h (fun ds os lf hp => ?_)
  unfold hasLS at hp
  simp only at hp
  split at hp
  · rename_i l i
    simp only [Out.pick] at hp
    cases hc : Nat.ble l.length 9223372036854775806 with
    | false => rw [hc] at hp; cases hp
    | true =>
      rw [hc] at hp
      simp only [cond_true, Option.some.injEq] at hp
      subst hp
      have hl : l.length ≤ 9223372036854775806 := Nat.le_of_ble_eq_true hc
      exact ⟨l.length + 1, (f14_ev _ l i).trans (hasL_loop hl _ _ 0 (Nat.zero_le _) (by omega))⟩
  · cases hp
end Go.S1
