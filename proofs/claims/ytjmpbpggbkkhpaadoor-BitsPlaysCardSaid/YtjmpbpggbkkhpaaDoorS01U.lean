/-
  Seat 01: the contracts of Count, Same, Copy, Minus and Meet.
-/
import Derived.Test.YtjmpbpggbkkhpaaDoorS01GB
open Go Go.En
namespace Go.S1
theorem bits_nat {op : BinOp} {a b : Nat} (ha : a < 18446744073709551616) (hb : b < 18446744073709551616) (h : op = .and) : bitsF op .u64 (a : Int) (b : Int) = ((a &&& b : Nat) : Int) := by
  subst h
  unfold bitsF
  simp only
  rw [BitVec.toNat_and, ofInt_nat ha, ofInt_nat hb]
  have := Nat.and_le_left (n := a) (m := b)
  exact u64_wrap_in (by omega) (by omega)
theorem wrap_nat {a : Nat} (ha : a < 18446744073709551616) : IntKind.u64.wrap (a : Int) = (a : Int) := u64_wrap_in (by omega) (by omega)
theorem shr_nat {a s : Nat} (ha : a < 18446744073709551616) (hs : s < 64) : shrF .u64 (a : Int) (s : Int) = ((a / 2 ^ s : Nat) : Int) := by
  rw [shr_eq (by omega) hs, Int.toNat_natCast]
theorem By.le {m : Nat} {x : By} (h : x.all (· ≤ m)) : x.n ≤ m * 72340172838076673 := by
  obtain ⟨⟨a1, a2, a3, a4⟩, a5, a6, a7, a8⟩ := h
  unfold By.n; omega
theorem By.map_all {f : Nat → Nat} {p q : Nat → Prop} {x : By} (h : x.all p) (hf : ∀ b, p b → q (f b)) : (x.map f).all q := by
  obtain ⟨⟨a1, a2, a3, a4⟩, a5, a6, a7, a8⟩ := h
  exact ⟨⟨hf _ a1, hf _ a2, hf _ a3, hf _ a4⟩, hf _ a5, hf _ a6, hf _ a7, hf _ a8⟩
theorem stages {x : Nat} (h : x < 18446744073709551616) : s0 x < 18446744073709551616 ∧ s1 (s0 x) ≤ 68 * 72340172838076673 ∧ s2 (s1 (s0 x)) ≤ 8 * 72340172838076673 := by
  have hb := bytes_lt x
  have h0 : s0 x = ((bytes x).map u0).n := by conv => lhs; rw [← bytes_n h]
                                              exact s0_eq hb
  have b0 : ((bytes x).map u0).all (· < 256) := By.map_all hb u0_lt
  have h1 : s1 (s0 x) = (((bytes x).map u0).map u1).n := by rw [h0]; exact s1_eq b0
  have b1 : (((bytes x).map u0).map u1).all (fun b => b < 69 ∧ b % 16 ≤ 4) := By.map_all (p := fun b => b < 69 ∧ b % 16 ≤ 4) (f := fun b => b) (x := ((bytes x).map u0).map u1) (by
    have f : ∀ b, b < 256 → u1 (u0 b) < 69 ∧ u1 (u0 b) % 16 ≤ 4 := fun b hb => by have := u1_lt b hb; omega
    exact By.map_all (p := fun b => b < 256) (f := fun b => u1 (u0 b)) (x := bytes x) hb f) (fun _ h => h)
  have h2 : s2 (s1 (s0 x)) = ((((bytes x).map u0).map u1).map u2).n := by rw [h1]; exact s2_eq b1
  have g : ∀ b, b < 256 → u2 (u1 (u0 b)) ≤ 8 := fun b hb => by rw [u2_eq b hb]; omega
  refine ⟨?_, ?_, ?_⟩
  · rw [h0]
    have := By.le (m := 255) (x := (bytes x).map u0) (By.map_all b0 (f := fun b => b) (fun b h => by have : b < 256 := h; show b ≤ 255; omega))
    omega
  · rw [h1]
    exact By.le (m := 68) (By.map_all b1 (f := fun b => b) (fun b h => by have := h.1; show b ≤ 68; omega))
  · rw [h2]
    exact By.le (m := 8) (By.map_all (p := fun b => b < 256) (f := fun b => u2 (u1 (u0 b))) (x := bytes x) hb g)
theorem ones_T {X : Nat} (h : X < 18446744073709551616) : f37T (X : Int) = some ⟨[pI (pc X)], [], []⟩ := by
  obtain ⟨g0, g1, g2⟩ := stages h
  have l0 : ∀ a, (X / 2 ^ 1 &&& a) ≤ X / 2 ^ 1 := fun a => Nat.and_le_left
  have l0' : ∀ a, (X &&& a) ≤ X := fun a => Nat.and_le_left
  have e0 : IntKind.u64.wrap (bitsF BinOp.and IntKind.u64 (shrF IntKind.u64 (X : Int) 1) 6148914691236517205 + bitsF BinOp.and IntKind.u64 (X : Int) 6148914691236517205) = ((s0 X : Nat) : Int) := by
    rw [show (1 : Int) = ((1 : Nat) : Int) from rfl, shr_nat h (by omega), show (6148914691236517205 : Int) = ((6148914691236517205 : Nat) : Int) from rfl, bits_nat (by omega) (by omega) rfl, bits_nat h (by omega) rfl, ← Int.natCast_add]
    exact wrap_nat g0
  have e1 : IntKind.u64.wrap (bitsF BinOp.and IntKind.u64 (shrF IntKind.u64 ((s0 X : Nat) : Int) 2) 3689348814741910323 + bitsF BinOp.and IntKind.u64 ((s0 X : Nat) : Int) 3689348814741910323) = ((s1 (s0 X) : Nat) : Int) := by
    rw [show (2 : Int) = ((2 : Nat) : Int) from rfl, shr_nat g0 (by omega), show (3689348814741910323 : Int) = ((3689348814741910323 : Nat) : Int) from rfl, bits_nat (by omega) (by omega) rfl, bits_nat g0 (by omega) rfl, ← Int.natCast_add]
    exact wrap_nat (show s1 (s0 X) < _ by omega)
  have e2 : bitsF BinOp.and IntKind.u64 (IntKind.u64.wrap (shrF IntKind.u64 ((s1 (s0 X) : Nat) : Int) 4 + ((s1 (s0 X) : Nat) : Int))) 1085102592571150095 = ((s2 (s1 (s0 X)) : Nat) : Int) := by
    rw [show (4 : Int) = ((4 : Nat) : Int) from rfl, shr_nat (by omega) (by omega), ← Int.natCast_add, wrap_nat (by omega), show (1085102592571150095 : Int) = ((1085102592571150095 : Nat) : Int) from rfl, bits_nat (by omega) (by omega) rfl]
    rfl
  generalize hw : s2 (s1 (s0 X)) = w at *
  have e3 : IntKind.u64.wrap ((w : Int) + shrF IntKind.u64 (w : Int) 8) = ((w + w / 256 : Nat) : Int) := by
    rw [show (8 : Int) = ((8 : Nat) : Int) from rfl, shr_nat (by omega) (by omega), ← Int.natCast_add, wrap_nat (by omega)]
  have e4 : IntKind.u64.wrap (((w + w / 256 : Nat) : Int) + shrF IntKind.u64 ((w + w / 256 : Nat) : Int) 16) = ((w + w / 256 + (w + w / 256) / 65536 : Nat) : Int) := by
    rw [show (16 : Int) = ((16 : Nat) : Int) from rfl, shr_nat (by omega) (by omega), ← Int.natCast_add, wrap_nat (by omega)]
  generalize hb : w + w / 256 + (w + w / 256) / 65536 = v at *
  have hv : v < 4 * (8 * 72340172838076673) := by omega
  have e5 : bitsF BinOp.and IntKind.i64 (IntKind.i64.wrap (IntKind.u64.wrap ((v : Int) + shrF IntKind.u64 (v : Int) 32))) 127 = ((pc X : Nat) : Int) := by
    rw [show (32 : Int) = ((32 : Nat) : Int) from rfl, shr_nat (by omega) (by omega), ← Int.natCast_add, wrap_nat (by omega), i64_wrap_in (by omega) (by omega)]
    have hl : (v + v / 2 ^ 32 : Nat) < 9223372036854775808 := by omega
    have e : bitsF BinOp.and IntKind.i64 ((v + v / 2 ^ 32 : Nat) : Int) 127 = (((v + v / 2 ^ 32) % 128 : Nat) : Int) := by
      generalize v + v / 2 ^ 32 = u at *
      unfold bitsF
      simp only
      have hu : (BitVec.ofInt IntKind.i64.bits (u : Int)).toNat = u := ofInt_nat (by omega)
      have h1 : (BitVec.ofInt IntKind.i64.bits (127 : Int)).toNat = 2 ^ 7 - 1 := rfl
      rw [BitVec.toNat_and, hu, h1, Nat.and_two_pow_sub_one_eq_mod]
      exact i64_wrap_in (by omega) (by omega)
    rw [e, ← ones_eq h, hw]
    unfold s3
    simp only
    rw [hb]
  unfold f37T
  simp only [e0, e1, e2, e3, e4, e5]
  rfl
theorem ones_ok : FnOk P C0 37 onesS := by
  refine fn_okC ctx1 (show P.funcs[37]? = some f37f by kernel_rfl) (of_decide_eq_true (by kernel_rfl)) onesS f37h (fun ds os lf hp => ?_)
  unfold onesS at hp
  simp only at hp
  split at hp
  · rename_i x
    simp only [Out.pick] at hp
    cases hc : (decide (0 ≤ x) && decide (x < 18446744073709551616)) with
    | false => rw [hc] at hp; cases hp
    | true =>
      rw [hc] at hp
      simp only [cond_true, Option.some.injEq] at hp
      subst hp
      rw [Bool.and_eq_true, decide_eq_true_eq, decide_eq_true_eq] at hc
      obtain ⟨X, rfl⟩ := Int.eq_ofNat_of_zero_le hc.1
      have h2 : X < 18446744073709551616 := Int.ofNat_lt.1 hc.2
      exact ⟨0, (f37_ev 0 _).trans (ones_T h2)⟩
  · cases hp
theorem eq_loop (a b : List Int) (hl : a.length = b.length) (ha : a.length ≤ 1000000) : ∀ (m n : Nat) (k : Nat), k ≤ a.length → a.length - k < m → f36L0 n m a b (zn a.length) (k : Int) = some ⟨[pB (sameI (a.drop k) (b.drop k))], [], []⟩
  | 0, _, _, _, h => absurd h (Nat.not_lt_zero _)
  | m + 1, n, k, hk, h => by
    show f36S0 (f36L0 n m) a b (zn a.length) (k : Int) = _
    unfold f36S0
    by_cases h0 : k < a.length
    · have e1 : decide ((k : Int) < zn a.length) = true := by simpa [zn] using h0
      have e2 : inb (k : Int) a.length = true := by simp [inb, h0]
      have e3 : inb (k : Int) b.length = true := by rw [← hl]; exact e2
      have e4 : IntKind.i64.wrap ((k : Int) + 1) = ((k + 1 : Nat) : Int) := by rw [i64_wrap_in (by omega) (by omega)]; rfl
      rw [e1, e2, e3, e4, eq_loop a b hl ha m n (k + 1) h0 (by omega), getD_drop h0 0, getD_drop (l := b) (k := k) (by omega) 0]
      show (bif true then bif true then bif true then bif !(a.getD k 0 == b.getD k 0) then _ else _ else _ else _ else _) = some (Lf.mk [pB ((a.getD k 0 == b.getD k 0) && sameI (a.drop (k + 1)) (b.drop (k + 1)))] [] [])
      cases (a.getD k 0 == b.getD k 0) <;> rfl
    · have e1 : decide ((k : Int) < zn a.length) = false := by simpa [zn] using h0
      rw [e1, List.drop_eq_nil_of_le (by omega), List.drop_eq_nil_of_le (by omega)]
      rfl
theorem eq_ok : FnOk P C0 36 eqS := by
  refine fn_okC ctx1 (show P.funcs[36]? = some f36f by kernel_rfl) (of_decide_eq_true (by kernel_rfl)) eqS f36h (fun ds os lf hp => ?_)
  unfold eqS at hp
  simp only at hp
  split at hp
  · rename_i a b
    simp only [Out.pick] at hp
    cases hc : (Nat.ble a.length 1000000 && Nat.ble b.length 1000000) with
    | false => rw [hc] at hp; cases hp
    | true =>
      rw [hc] at hp
      simp only [cond_true, Option.some.injEq] at hp
      subst hp
      rw [Bool.and_eq_true] at hc
      have ha : a.length ≤ 1000000 := Nat.le_of_ble_eq_true hc.1
      refine ⟨a.length + 1, (f36_ev _ a b).trans ?_⟩
      unfold f36M f36T
      by_cases hl : a.length = b.length
      · have e : (zn a.length != zn b.length) = false := by rw [hl]; simp
        rw [e]
        exact eq_loop a b hl ha _ _ 0 (Nat.zero_le _) (by omega)
      · have e : (zn a.length != zn b.length) = true := by simp only [zn, bne_iff_ne]; omega
        have e2 : sameI a b = false := by
          cases hs : sameI a b with
          | false => rfl
          | true => exact absurd (sameI_len hs) hl
        rw [e, e2]; rfl
  · cases hp
theorem both_eq {ρ : Type} (x : Option ρ) : both x x = x := by unfold both; rw [if_pos rfl]
theorem clone_T {v : List Int} (h : v.length ≤ 1000000) : f41T v = some ⟨[.one (.rw ⟨1, 0⟩)], [], [roW v]⟩ := by
  have e1 : decide ((0 + v.length) * 8 ≤ 140737488355328) = true := by simp only [decide_eq_true_eq]; omega
  unfold f41T
  rw [e1]
  cases hz : (zn v.length == 0) with
  | false => rfl
  | true =>
    have : v = [] := by
      have h1 : zn v.length = 0 := eq_of_beq hz
      unfold zn at h1
      exact List.length_eq_zero_iff.1 (by omega)
    subst this
    exact both_eq _
theorem clone_ok : FnOk P C0 41 cloneS := by
  refine fn_okC ctx1 (show P.funcs[41]? = some f41f by kernel_rfl) (of_decide_eq_true (by kernel_rfl)) cloneS f41h (fun ds os lf hp => ?_)
  unfold cloneS at hp
  simp only at hp
  split at hp
  · rename_i v
    simp only [Out.pick] at hp
    cases hc : (Nat.ble v.length 1000000) with
    | false => rw [hc] at hp; cases hp
    | true =>
      rw [hc] at hp
      simp only [cond_true, Option.some.injEq] at hp
      subst hp
      exact ⟨0, (f41_ev 0 v).trans (clone_T (Nat.le_of_ble_eq_true hc))⟩
  · cases hp
theorem ctx10 : CtxOk C10 := fun _ _ h => tbl_ok (l := l10) ⟨ones_ok, eq_ok, clone_ok, trivial⟩ h
/-- how many numbers a set has -/
def cnt : List Int → Nat
  | [] => 0
  | w :: ws => pc w.toNat + cnt ws
theorem pc_le (x : Nat) : pc x ≤ 64 := by
  have : ∀ b, pc8 b ≤ 8 := fun b => by unfold pc8; omega
  unfold pc
  simp only [By.map]
  have h1 := this (bytes x).a; have h2 := this (bytes x).b; have h3 := this (bytes x).c; have h4 := this (bytes x).d
  have h5 := this (bytes x).e; have h6 := this (bytes x).f; have h7 := this (bytes x).g; have h8 := this (bytes x).h
  omega
theorem cnt_le : ∀ ws : List Int, cnt ws ≤ 64 * ws.length
  | [] => Nat.le_refl _
  | w :: ws => by
    have := cnt_le ws
    have := pc_le w.toNat
    simp only [cnt, List.length_cons]; omega
theorem cnt_take {ws : List Int} {k : Nat} (h : k < ws.length) : cnt (ws.take (k + 1)) = cnt (ws.take k) + pc (ws.getD k 0).toNat := by
  induction ws generalizing k with
  | nil => cases h
  | cons w ws ih =>
    cases k with
    | zero => simp [cnt]
    | succ k =>
      have := ih (k := k) (by simpa using h)
      simp only [List.take_succ_cons, cnt, this, List.getD_cons_succ]
      omega
theorem count_loop {z : Int} {ws : List Int} (h : Ok z ws) : ∀ (m n k : Nat), k ≤ ws.length → ws.length - k < m →
    f20jL0 n m ((cnt (ws.take k) : Nat) : Int) (zn ws.length) (k : Int) z ws = some ⟨[pI (cnt ws)], [vaS ⟨0, 1⟩ z, roW ws], []⟩
  | 0, _, _, _, hm => absurd hm (Nat.not_lt_zero _)
  | m + 1, n, k, hk, hm => by
    have hlen : ws.length ≤ 64 := by have := h.len; have := h.hi; omega
    show f20jS0 (f20jL0 n m) _ (zn ws.length) (k : Int) z ws = _
    unfold f20jS0
    by_cases h0 : k < ws.length
    · have e1 : decide ((k : Int) < zn ws.length) = true := by simpa [zn] using h0
      have e2 : inb (k : Int) ws.length = true := by simp [inb, h0]
      have e3 : (decide (0 ≤ ws.getD k 0) && decide (ws.getD k 0 < 18446744073709551616)) = true := by
        have := wd_range h k
        rw [Bool.and_eq_true, decide_eq_true_eq, decide_eq_true_eq]; exact this
      have e4 : IntKind.i64.wrap ((k : Int) + 1) = ((k + 1 : Nat) : Int) := by rw [i64_wrap_in (by omega) (by omega)]; rfl
      have e5 : IntKind.i64.wrap (((cnt (ws.take k) : Nat) : Int) + zn (pc (ws.getD k 0).toNat)) = ((cnt (ws.take (k + 1)) : Nat) : Int) := by
        have h1 := cnt_le (ws.take k)
        have h2 := pc_le (ws.getD k 0).toNat
        have h3 : (ws.take k).length ≤ 64 := by rw [List.length_take]; omega
        rw [cnt_take h0]
        unfold zn
        rw [← Int.natCast_add]
        exact i64_wrap_in (by omega) (by omega)
      simp only [Int.toNat_natCast, e1, e2, e3, e4, e5]
      exact count_loop h m n (k + 1) h0 (by omega)
    · have e1 : decide ((k : Int) < zn ws.length) = false := by simpa [zn] using h0
      have e2 : ws.take k = ws := List.take_of_length_le (by omega)
      rw [e1, e2]; rfl
def countS : En.Spec := ⟨[], fun ds os => match ds, os with
  | [.p (.one .np)], [] => .leaf [pI 0] [] []
  | [.p (.one (.pv ⟨0, 0⟩ 0))], [.va [.d (.fz true) (.i .i64) n, .rw ⟨0, 1⟩], .ro true 0 e (.i .u64) .z ws none] => gS e <| .br (okS n ws) (.leaf [pI (cnt ws)] [vaS ⟨0, 1⟩ n, roW ws] []) .fail
  | _, _ => .fail⟩
theorem count_ok : FnOk P C0 20 countS := by
  refine fn_okC ctx10 (show P.funcs[20]? = some f20jf by kernel_rfl) (of_decide_eq_true (by kernel_rfl)) countS f20jh (fun ds os lf hp => ?_)
  unfold countS at hp
  simp only at hp
  split at hp
  · simp only [Out.pick, Option.some.injEq] at hp
    subst hp
    exact ⟨0, f20k_ev 0⟩
  · rename_i n e ws
    obtain ⟨rfl, hq⟩ := gS_pick hp
    replace hp := hq
    simp only [Out.pick] at hp
    cases hc : (okS n ws) with
    | false => rw [hc] at hp; cases hp
    | true =>
      rw [hc] at hp
      simp only [cond_true, Option.some.injEq] at hp
      subst hp
      exact ⟨ws.length + 1, (f20j_ev _ n ws).trans (count_loop (okS_iff.1 hc) _ _ 0 (Nat.zero_le _) (by omega))⟩
  · cases hp
def sameS : En.Spec := ⟨[], fun ds os => match ds, os with
  | [.p (.one .np), .p (.one .np)], [] => .leaf [pB true] [] []
  | [.p (.one (.pv ⟨0, 0⟩ 0)), .p (.one .np)], [.va [.d (.fz true) (.i .i64) n, .rw ⟨0, 1⟩], .ro true 0 e (.i .u64) .z ws none] => gS e <| .leaf [pB false] [vaS ⟨0, 1⟩ n, roW ws] []
  | [.p (.one (.pv ⟨0, 0⟩ 0)), .p (.one (.pv ⟨0, 1⟩ 0))], [.va [.d (.fz true) (.i .i64) n, .rw ⟨0, 2⟩], .va [.d (.fz true) (.i .i64) m, .rw ⟨0, 3⟩], .ro true 0 e (.i .u64) .z ws none, .ro true 0 e' (.i .u64) .z vs none] =>
    gS2 e e' <| .br (okS n ws && okS m vs) (.leaf [pB (n == m && sameI ws vs)] [vaS ⟨0, 2⟩ n, vaS ⟨0, 3⟩ m, roW ws, roW vs] []) .fail
  | _, _ => .fail⟩
theorem len_ble {z : Int} {ws : List Int} (h : Ok z ws) : ws.length.ble 1000000 = true := Nat.ble_eq_true_of_le (by have := h.len; have := h.hi; omega)
theorem same_T {z m : Int} {ws vs : List Int} (h : Ok z ws) (hv : Ok m vs) : f18jT z m ws vs = some ⟨[pB (z == m && sameI ws vs)], [vaS ⟨0, 2⟩ z, vaS ⟨0, 3⟩ m, roW ws, roW vs], []⟩ := by
  unfold f18jT
  rw [len_ble h, len_ble hv]
  cases hz : (z == m) <;> rfl
theorem same_ok : FnOk P C0 18 sameS := by
  refine fn_okC ctx10 (show P.funcs[18]? = some f18jf by kernel_rfl) (of_decide_eq_true (by kernel_rfl)) sameS f18jh (fun ds os lf hp => ?_)
  unfold sameS at hp
  simp only at hp
  split at hp
  · simp only [Out.pick, Option.some.injEq] at hp
    subst hp
    exact ⟨0, f18k_ev 0⟩
  · rename_i n e ws
    obtain ⟨rfl, hq⟩ := gS_pick hp
    replace hp := hq
    simp only [Out.pick, Option.some.injEq] at hp
    subst hp
    exact ⟨0, f18p_ev 0 n ws⟩
  · rename_i n m e ws e' vs
    obtain ⟨rfl, rfl, hq⟩ := gS2_pick hp
    replace hp := hq
    simp only [Out.pick] at hp
    cases hc : (okS n ws && okS m vs) with
    | false => rw [hc] at hp; cases hp
    | true =>
      rw [hc] at hp
      simp only [cond_true, Option.some.injEq] at hp
      subst hp
      rw [Bool.and_eq_true] at hc
      exact ⟨0, (f18j_ev 0 n m ws vs).trans (same_T (okS_iff.1 hc.1) (okS_iff.1 hc.2))⟩
  · cases hp
def copyS : En.Spec := ⟨[], fun ds os => match ds, os with
  | [.p (.one .np)], [] => .leaf [.one .np] [] []
  | [.p (.one (.pv ⟨0, 0⟩ 0))], [.va [.d (.fz true) (.i .i64) n, .rw ⟨0, 1⟩], .ro true 0 e (.i .u64) .z ws none] => gS e <| .br (okS n ws) (.leaf [.one (.pv ⟨1, 0⟩ 0)] [vaS ⟨0, 1⟩ n, roW ws] [vaS ⟨1, 1⟩ n, roW ws]) .fail
  | _, _ => .fail⟩
theorem copy_ok : FnOk P C0 31 copyS := by
  refine fn_okC ctx10 (show P.funcs[31]? = some f31jf by kernel_rfl) (of_decide_eq_true (by kernel_rfl)) copyS f31jh (fun ds os lf hp => ?_)
  unfold copyS at hp
  simp only at hp
  split at hp
  · simp only [Out.pick, Option.some.injEq] at hp
    subst hp
    exact ⟨0, f31k_ev 0⟩
  · rename_i n e ws
    obtain ⟨rfl, hq⟩ := gS_pick hp
    replace hp := hq
    simp only [Out.pick] at hp
    cases hc : (okS n ws) with
    | false => rw [hc] at hp; cases hp
    | true =>
      rw [hc] at hp
      simp only [cond_true, Option.some.injEq] at hp
      subst hp
      refine ⟨0, (f31j_ev _ n ws).trans ?_⟩
      show f31jT n ws = _
      unfold f31jT
      rw [len_ble (okS_iff.1 hc)]; rfl
  · cases hp
theorem turn_step_m {z mm : Int} {ws vs cur : List Int} {g : f34mG0} {flag : Bool} {k : Nat} (hz : 0 ≤ z) (hlen : ws.length ≤ 64) (hk : k < ws.length) (hcl : cur.length = ws.length) (hck : cur.getD k 0 = ws.getD k 0) :
    f34mS0 g flag (ws.length : Int) (k : Int) z mm cur vs = g (flag || tw .andNot z ws vs k != ws.getD k 0) (ws.length : Int) ((k + 1 : Nat) : Int) z mm (cur.set k (tw .andNot z ws vs k)) vs := by
  have e1 : decide ((k : Int) < (ws.length : Int)) = true := by simp only [decide_eq_true_eq]; omega
  have e2 : inb (k : Int) cur.length = true := by simp only [inb, Bool.and_eq_true, decide_eq_true_eq]; omega
  have e3 : ∀ v, inb (k : Int) (cur.set k v).length = true := fun v => by rw [List.length_set]; exact e2
  have e4 : IntKind.i64.wrap (zn cur.length - 1) = (ws.length : Int) - 1 := by
    unfold zn; rw [hcl, i64_wrap_in (by omega) (by omega)]
  have e5 : decide (0 ≤ z.tmod 64) = true := by rw [tmod_nat hz, decide_eq_true_eq]; omega
  have e6 : ∀ v, (cur.set k v).getD k 0 = v := fun v => by
    simp [List.getD_eq_getElem?_getD, hcl, hk]
  have e7 : IntKind.i64.wrap ((k : Int) + 1) = ((k + 1 : Nat) : Int) := by rw [i64_wrap_in (by omega) (by omega)]; rfl
  unfold f34mS0
  simp only [Int.toNat_natCast, e1, e2, e3, e4, e5, e6, e7, hck]
  unfold tw mkW
  by_cases hv : k < vs.length
  · have e8 : decide ((k : Int) < zn vs.length) = true := by simp only [zn, decide_eq_true_eq]; omega
    have e9 : inb (k : Int) vs.length = true := by simp only [inb, Bool.and_eq_true, decide_eq_true_eq]; omega
    rw [e8, e9]
    cases ((k : Int) == (ws.length : Int) - 1 && z.tmod 64 != 0) <;> cases flag <;> cases ((k : Int) == (ws.length : Int) - 1) <;> rfl
  · have e8 : decide ((k : Int) < zn vs.length) = false := by simp only [zn, decide_eq_false_iff_not]; omega
    rw [e8, getD_none (l := vs) (by omega)]
    cases ((k : Int) == (ws.length : Int) - 1 && z.tmod 64 != 0) <;> cases flag <;> cases ((k : Int) == (ws.length : Int) - 1) <;> rfl
theorem turn_loop_m {z mm : Int} {ws vs : List Int} (hz : 0 ≤ z) (hlen : ws.length ≤ 64) : ∀ (m n k : Nat), k ≤ ws.length → ws.length - k < m →
    f34mL0 n m ((List.range k).any fun j => tw .andNot z ws vs j != ws.getD j 0) (ws.length : Int) (k : Int) z mm ((turnW .andNot z ws vs).take k ++ ws.drop k) vs = some ⟨[pB (turnB .andNot z ws vs)], [vaS ⟨0, 2⟩ z, vaS ⟨0, 3⟩ mm, roW (turnW .andNot z ws vs), roW vs], []⟩
  | 0, _, _, _, h => absurd h (Nat.not_lt_zero _)
  | m + 1, n, k, hk, hm => by
    show f34mS0 (f34mL0 n m) _ (ws.length : Int) (k : Int) z mm _ vs = _
    by_cases h0 : k < ws.length
    · rw [turn_step_m hz hlen h0 (by rw [List.length_append, List.length_take, List.length_drop, turnW_len]; omega) (cur_get h0), cur_set h0, ← any_succ fun j => tw .andNot z ws vs j != ws.getD j 0]
      exact turn_loop_m hz hlen m n (k + 1) h0 (by omega)
    · have hke : k = ws.length := by omega
      subst hke
      unfold f34mS0
      have e1 : decide ((ws.length : Int) < (ws.length : Int)) = false := by simp
      have e2 : (turnW .andNot z ws vs).take ws.length = turnW .andNot z ws vs := by
        have := turnW_len .andNot z ws vs
        rw [← this, List.take_length]
      rw [e1, List.drop_length, List.append_nil, e2]
      rfl
theorem turn_T_m {z mm : Int} {ws vs : List Int} (hz : 0 ≤ z) (hlen : ws.length ≤ 64) : f34mM 65 z mm ws vs = some ⟨[pB (turnB .andNot z ws vs)], [vaS ⟨0, 2⟩ z, vaS ⟨0, 3⟩ mm, roW (turnW .andNot z ws vs), roW vs], []⟩ := by
  have := turn_loop_m (mm := mm) (vs := vs) hz hlen 65 65 0 (Nat.zero_le _) (by omega)
  exact this
theorem turn_step_a {z mm : Int} {ws vs cur : List Int} {g : f34aG0} {flag : Bool} {k : Nat} (hz : 0 ≤ z) (hlen : ws.length ≤ 64) (hk : k < ws.length) (hcl : cur.length = ws.length) (hck : cur.getD k 0 = ws.getD k 0) :
    f34aS0 g flag (ws.length : Int) (k : Int) z mm cur vs = g (flag || tw .and z ws vs k != ws.getD k 0) (ws.length : Int) ((k + 1 : Nat) : Int) z mm (cur.set k (tw .and z ws vs k)) vs := by
  have e1 : decide ((k : Int) < (ws.length : Int)) = true := by simp only [decide_eq_true_eq]; omega
  have e2 : inb (k : Int) cur.length = true := by simp only [inb, Bool.and_eq_true, decide_eq_true_eq]; omega
  have e3 : ∀ v, inb (k : Int) (cur.set k v).length = true := fun v => by rw [List.length_set]; exact e2
  have e4 : IntKind.i64.wrap (zn cur.length - 1) = (ws.length : Int) - 1 := by
    unfold zn; rw [hcl, i64_wrap_in (by omega) (by omega)]
  have e5 : decide (0 ≤ z.tmod 64) = true := by rw [tmod_nat hz, decide_eq_true_eq]; omega
  have e6 : ∀ v, (cur.set k v).getD k 0 = v := fun v => by
    simp [List.getD_eq_getElem?_getD, hcl, hk]
  have e7 : IntKind.i64.wrap ((k : Int) + 1) = ((k + 1 : Nat) : Int) := by rw [i64_wrap_in (by omega) (by omega)]; rfl
  unfold f34aS0
  simp only [Int.toNat_natCast, e1, e2, e3, e4, e5, e6, e7, hck]
  unfold tw mkW
  by_cases hv : k < vs.length
  · have e8 : decide ((k : Int) < zn vs.length) = true := by simp only [zn, decide_eq_true_eq]; omega
    have e9 : inb (k : Int) vs.length = true := by simp only [inb, Bool.and_eq_true, decide_eq_true_eq]; omega
    rw [e8, e9]
    cases ((k : Int) == (ws.length : Int) - 1 && z.tmod 64 != 0) <;> cases flag <;> cases ((k : Int) == (ws.length : Int) - 1) <;> rfl
  · have e8 : decide ((k : Int) < zn vs.length) = false := by simp only [zn, decide_eq_false_iff_not]; omega
    rw [e8, getD_none (l := vs) (by omega)]
    cases ((k : Int) == (ws.length : Int) - 1 && z.tmod 64 != 0) <;> cases flag <;> cases ((k : Int) == (ws.length : Int) - 1) <;> rfl
theorem turn_loop_a {z mm : Int} {ws vs : List Int} (hz : 0 ≤ z) (hlen : ws.length ≤ 64) : ∀ (m n k : Nat), k ≤ ws.length → ws.length - k < m →
    f34aL0 n m ((List.range k).any fun j => tw .and z ws vs j != ws.getD j 0) (ws.length : Int) (k : Int) z mm ((turnW .and z ws vs).take k ++ ws.drop k) vs = some ⟨[pB (turnB .and z ws vs)], [vaS ⟨0, 2⟩ z, vaS ⟨0, 3⟩ mm, roW (turnW .and z ws vs), roW vs], []⟩
  | 0, _, _, _, h => absurd h (Nat.not_lt_zero _)
  | m + 1, n, k, hk, hm => by
    show f34aS0 (f34aL0 n m) _ (ws.length : Int) (k : Int) z mm _ vs = _
    by_cases h0 : k < ws.length
    · rw [turn_step_a hz hlen h0 (by rw [List.length_append, List.length_take, List.length_drop, turnW_len]; omega) (cur_get h0), cur_set h0, ← any_succ fun j => tw .and z ws vs j != ws.getD j 0]
      exact turn_loop_a hz hlen m n (k + 1) h0 (by omega)
    · have hke : k = ws.length := by omega
      subst hke
      unfold f34aS0
      have e1 : decide ((ws.length : Int) < (ws.length : Int)) = false := by simp
      have e2 : (turnW .and z ws vs).take ws.length = turnW .and z ws vs := by
        have := turnW_len .and z ws vs
        rw [← this, List.take_length]
      rw [e1, List.drop_length, List.append_nil, e2]
      rfl
theorem turn_T_a {z mm : Int} {ws vs : List Int} (hz : 0 ≤ z) (hlen : ws.length ≤ 64) : f34aM 65 z mm ws vs = some ⟨[pB (turnB .and z ws vs)], [vaS ⟨0, 2⟩ z, vaS ⟨0, 3⟩ mm, roW (turnW .and z ws vs), roW vs], []⟩ := by
  have := turn_loop_a (mm := mm) (vs := vs) hz hlen 65 65 0 (Nat.zero_le _) (by omega)
  exact this
/-- which closure is which operation -/
def opOf (g : Nat) : Option BinOp := bif g.beq 35 then some .or else bif g.beq 39 then some .andNot else bif g.beq 40 then some .and else none
def turn2S : En.Spec := ⟨[], fun ds os => match ds, os with
  | [.p (.one .np), .p (.one .np), .p (.one (.fn _ []))], [] => .leaf [pB false] [] []
  | [.p (.one (.pv ⟨0, 0⟩ 0)), .p (.one (.pv ⟨0, 1⟩ 0)), .p (.one (.fn g []))], [.va [.d (.fz true) (.i .i64) n, .rw ⟨0, 2⟩], .va [.d (.fz true) (.i .i64) m, .rw ⟨0, 3⟩], .ro true 0 e (.i .u64) .z ws none, .ro true 0 e' (.i .u64) .z vs none] =>
    gS2 e e' <| match opOf g with
      | some op => .br (okS n ws) (.leaf [pB (turnB op n ws vs)] [vaS ⟨0, 2⟩ n, vaS ⟨0, 3⟩ m, roW (turnW op n ws vs), roW vs] []) .fail
      | none => .fail
  | _, _ => .fail⟩
theorem opOf_some {g : Nat} {op : BinOp} (h : opOf g = some op) : (g = 35 ∧ op = .or) ∨ (g = 39 ∧ op = .andNot) ∨ (g = 40 ∧ op = .and) := by
  unfold opOf at h
  cases h1 : g.beq 35 with
  | true => rw [h1] at h; exact .inl ⟨Nat.eq_of_beq_eq_true h1, (Option.some.inj h).symm⟩
  | false =>
    cases h2 : g.beq 39 with
    | true => rw [h1, h2] at h; exact .inr (.inl ⟨Nat.eq_of_beq_eq_true h2, (Option.some.inj h).symm⟩)
    | false =>
      cases h3 : g.beq 40 with
      | true => rw [h1, h2, h3] at h; exact .inr (.inr ⟨Nat.eq_of_beq_eq_true h3, (Option.some.inj h).symm⟩)
      | false => rw [h1, h2, h3] at h; cases h
theorem turn2_ok : FnOk P C0 34 turn2S := by
  refine fn_okC ctx7 (show P.funcs[34]? = some f34jf by kernel_rfl) (of_decide_eq_true (by kernel_rfl)) turn2S f34jh (fun ds os lf hp => ?_)
  unfold turn2S at hp
  simp only at hp
  split at hp
  · rename_i g
    simp only [Out.pick, Option.some.injEq] at hp
    subst hp
    exact ⟨0, f34k_ev 0 g⟩
  · rename_i g n m e ws e' vs
    obtain ⟨rfl, rfl, hq⟩ := gS2_pick hp
    replace hp := hq
    cases hg : opOf g with
    | none => rw [hg] at hp; cases hp
    | some op =>
      rw [hg] at hp
      simp only [Out.pick] at hp
      cases hc : okS n ws with
      | false => rw [hc] at hp; cases hp
      | true =>
        rw [hc] at hp
        simp only [cond_true, Option.some.injEq] at hp
        subst hp
        have hok := okS_iff.1 hc
        have hl : ws.length ≤ 64 := by have := hok.len; have := hok.hi; omega
        rcases opOf_some hg with ⟨rfl, rfl⟩ | ⟨rfl, rfl⟩ | ⟨rfl, rfl⟩
        · exact ⟨65, (f34j_ev 65 n m ws vs).trans (turn_T hok.lo hl)⟩
        · exact ⟨65, (f34m_ev 65 n m ws vs).trans (turn_T_m hok.lo hl)⟩
        · exact ⟨65, (f34a_ev 65 n m ws vs).trans (turn_T_a hok.lo hl)⟩
  · cases hp
end Go.S1
