/-
  Seat 01: the contracts of Of, Ints and Num.
-/
import Derived.Test.YtjmpbpggbkkhpaaDoorS01G4
import Derived.Test.YtjmpbpggbkkhpaaDoorAs13
open Go Go.En
namespace Go.S1
theorem ctx4 : CtxOk C4 := fun _ _ h => tbl_ok (l := l4) ⟨add_ok, del_ok, items_ok, has_ok, next_ok, in_ok, size_ok, new_ok, count0_ok, copy0_ok, same0_ok, tz_ok, trivial⟩ h
/-- an error that isn't at a place -/
def plain : Er → Bool
  | .at .. => false
  | _ => true
def numOf : Er → Int
  | .nil => 0
  | .no n => n
  | .at _ e => numOf e
def numS : En.Spec := ⟨[], fun ds os => match ds with
  | [.p (.one (.d (.fz _) .e v))] => .br (plain v) (.leaf [pI (numOf v)] os []) .fail
  | _ => .fail⟩
theorem num_ok : FnOk P C0 23 numS := by
  intro w M γ ds os vs hr lf hp
  unfold numS at hp
  simp only at hp
  split at hp
  · rename_i f v
    simp only [Out.pick] at hp
    cases hv : plain v with
    | false => rw [hv] at hp; cases hp
    | true =>
      rw [hv] at hp
      simp only [cond_true, Option.some.injEq] at hp
      subst hp
      have hsz : vs.size = 1 := hr.n
      obtain ⟨x, rfl⟩ : ∃ x, vs = #[x] := by
        match vs, hsz with
        | ⟨[x]⟩, _ => exact ⟨x, rfl⟩
      have h0 : Ro C0 w (K0 M f) .e v [x] := hr.sl 0
      have fin : ∀ (n : Int) (w' : World), Grow w w' → ∃ K' γ', Rel C0 w M K' γ' (sgOf [resD [pI n]] os []) #[.int .i64 n] w' := by
        intro n w' hg
        have h1 := hr.grow hg
        refine ⟨K0 M, γ, { h1 with n := rfl, sl := fun t => ?_ }⟩
        cases t with
        | zero => exact Ro.i
        | succ t => rfl
      have hent : (callFunc 23 #[x]).run P w = .ok (.enter 23 #[x]) w := by
        have hf : P.funcs[23]? = some Go.Proofs.Tryd.f23 := Go.Proofs.Tryd.func23
        have hnm : Go.Proofs.Tryd.f23.name ≠ "runtime.NumGoroutine" := of_decide_eq_true (by kernel_rfl)
        obtain ⟨c, hb⟩ : ∃ c, Go.Proofs.Tryd.f23.body = some c := Option.isSome_iff_exists.1 (by kernel_rfl)
        simp [callFunc, hf, hnm, hb]
      unfold CallsF
      rw [hent]
      simp only
      cases h0 with
      | enil =>
        refine Calls.mono (As2.num_nil w) (fun e w' he => ?_)
        obtain ⟨rfl, rfl⟩ := he
        exact fin 0 _ (Grow.refl _)
      | eno =>
        rename_i n
        have hgl := (hr.g0.x.1 (1, [.iface 83 (.agg #[.pointer (some ⟨2, 26, none⟩)])]) (List.mem_cons_of_mem _ (List.mem_cons_self ..))).2 0 _ rfl
        refine Calls.mono (As2.num_no n w hgl) (fun e w' he => ?_)
        obtain ⟨rfl, h1, h2, h3, h4, h5⟩ := he
        exact fin n _ ⟨h1, h2, h3, h4, h5⟩
      | eat _ _ _ _ => cases hv
  · cases hp



theorem shl_one {s : Nat} (hs : s < 64) : shlF .u64 1 (s : Int) = ((2 ^ s : Nat) : Int) := by
  unfold shlF
  have e : min (s : Int).toNat IntKind.u64.bits = s := by
    rw [Int.toNat_natCast]; show min s 64 = s; omega
  rw [e, Int.one_mul, show ((2 : Int) ^ s) = ((2 ^ s : Nat) : Int) from by rw [Int.natCast_pow]; rfl]
  have h1 : 2 ^ s ≤ 2 ^ 63 := Nat.pow_le_pow_right (by omega) (by omega)
  have h2 : (2 : Nat) ^ 63 = 9223372036854775808 := by decide
  rw [h2] at h1
  generalize 2 ^ s = x at *
  exact u64_wrap_in (by omega) (by omega)
theorem or_eq {a : Int} {s : Nat} (h0 : 0 ≤ a) (h1 : a < 18446744073709551616) (hs : s < 64) : bitsF .or .u64 a (shlF .u64 1 (s : Int)) = ((a.toNat ||| 2 ^ s : Nat) : Int) := by
  rw [shl_one hs]
  obtain ⟨A, rfl⟩ := Int.eq_ofNat_of_zero_le h0
  have hp : 2 ^ s < 18446744073709551616 := by
    have : 2 ^ s ≤ 2 ^ 63 := Nat.pow_le_pow_right (by omega) (by omega)
    have h2 : (2 : Nat) ^ 63 = 9223372036854775808 := by decide
    omega
  unfold bitsF
  simp only
  have ofi : ∀ x : Nat, x < 18446744073709551616 → (BitVec.ofInt IntKind.u64.bits (x : Int)).toNat = x := by
    intro x hx
    show (BitVec.ofInt 64 (x : Int)).toNat = x
    rw [BitVec.toNat_ofInt]
    have : ((x : Int) % ((2 ^ 64 : Nat) : Int)) = (x : Int) := Int.emod_eq_of_lt (by omega) (by show (x : Int) < 18446744073709551616; omega)
    rw [this]; rfl
  have hA : A < 18446744073709551616 := by omega
  rw [BitVec.toNat_or, ofi A hA, ofi _ hp, Int.toNat_natCast]
  have hlt : A ||| 2 ^ s < 2 ^ 64 := Nat.or_lt_two_pow (by simpa using hA) (by simpa using hp)
  have h3 : (2 : Nat) ^ 64 = 18446744073709551616 := by decide
  exact u64_wrap_in (by omega) (by omega)
theorem getD_set' {l : List Int} {k q : Nat} {v : Int} (hk : k < l.length) : (l.set k v).getD q 0 = if q = k then v else l.getD q 0 := by
  simp only [List.getD_eq_getElem?_getD, List.getElem?_set]
  by_cases h : k = q
  · subst h; simp [hk]
  · have h' : ¬ q = k := fun e => h e.symm
    simp [h, h']
theorem addB_iff {z i : Int} {ws : List Int} : addB z ws i = true ↔ inF z i = true ∧ hasF z ws i = false := by
  unfold addB; rw [Bool.and_eq_true, Bool.not_eq_true']
theorem addW_eq {z i : Int} {ws : List Int} (h : Ok z ws) (hb : addB z ws i = true) : addW z ws i = ws.set (i.toNat / 64) (((ws.getD (i.toNat / 64) 0).toNat ||| 2 ^ (i.toNat % 64) : Nat) : Int) := by
  have hi' := inF_iff.1 (addB_iff.1 hb).1
  unfold addW wd
  rw [hb, tdiv_nat hi'.1, tmod_nat hi'.1, or_eq (wd_range h _).1 (wd_range h _).2 (Nat.mod_lt _ (by omega))]
  rfl
theorem addW_ok {z i : Int} {ws : List Int} (h : Ok z ws) : Ok z (addW z ws i) := by
  cases hb : addB z ws i with
  | false => unfold addW; rw [hb]; exact h
  | true =>
    have hin := (addB_iff.1 hb).1
    have hi' := inF_iff.1 hin
    have hk : i.toNat / 64 < ws.length := by have := h.len; omega
    rw [addW_eq h hb]
    have hr := wd_range h (i.toNat / 64)
    have h3 : (2 : Nat) ^ 64 = 18446744073709551616 := by decide
    have hlt : (ws.getD (i.toNat / 64) 0).toNat ||| 2 ^ (i.toNat % 64) < 2 ^ 64 := Nat.or_lt_two_pow (by omega) (Nat.pow_lt_pow_right (by omega) (by omega))
    refine ⟨h.lo, h.hi, by rw [List.length_set]; exact h.len, fun x hx => ?_, ?_⟩
    · rcases List.mem_or_eq_of_mem_set hx with hx | hx
      · exact h.w x hx
      · rw [hx]; omega
    · unfold top
      rw [getD_set' hk]
      have ht := h.t
      unfold top at ht
      by_cases he : z.toNat / 64 = i.toNat / 64
      · rw [if_pos he]
        rw [he] at ht
        rw [Bool.or_eq_true, Nat.beq_eq, decide_eq_true_eq] at ht ⊢
        rcases ht with ht | ht
        · exact .inl ht
        · right
          have hA : (ws.getD (i.toNat / 64) 0).toNat < 2 ^ (z.toNat % 64) := by
            have : ((ws.getD (i.toNat / 64) 0).toNat : Int) < ((2 ^ (z.toNat % 64) : Nat) : Int) := by
              rw [Int.natCast_pow, Int.toNat_of_nonneg hr.1]; exact ht
            exact Int.ofNat_lt.1 this
          have : (ws.getD (i.toNat / 64) 0).toNat ||| 2 ^ (i.toNat % 64) < 2 ^ (z.toNat % 64) := Nat.or_lt_two_pow hA (Nat.pow_lt_pow_right (by omega) (by omega))
          have h5 := Int.ofNat_lt.2 this
          rw [Int.natCast_pow] at h5
          exact h5
      · rw [if_neg he]; exact ht
theorem new_Ok {z : Int} (h0 : 0 ≤ z) (h1 : z ≤ 4096) : Ok z (List.replicate ((z.toNat + 63) / 64) 0) := by
  refine ⟨h0, h1, by simp, fun x hx => ?_, ?_⟩
  · rw [(List.mem_replicate.1 hx).2]; omega
  · unfold top
    rw [Bool.or_eq_true, decide_eq_true_eq]
    right
    have : (List.replicate ((z.toNat + 63) / 64) (0 : Int)).getD (z.toNat / 64) 0 = 0 := by
      simp only [List.getD_eq_getElem?_getD, List.getElem?_replicate]
      split <;> rfl
    rw [this]
    exact Int.pow_pos (by decide)
theorem of_loop {z : Int} {l : List Int} (hl : l.length ≤ 9223372036854775806) : ∀ (m n k : Nat) (ws : List Int), k ≤ l.length → l.length - k < m → Ok z ws →
    f17L0 n m z l (l.length : Int) (k : Int) z ws = bif (l.drop k).all (inF z) then some ⟨[.one (.pv ⟨1, 0⟩ 0), pE .nil], [], [vaS ⟨1, 1⟩ z, roW ((l.drop k).foldl (addW z) ws)]⟩ else some ⟨[.one .np, pE (.no 1)], [], []⟩
  | 0, _, _, _, _, h, _ => absurd h (Nat.not_lt_zero _)
  | m + 1, n, k, ws, hk, hm, hok => by
    show f17S0 (f17L0 n m) z l (l.length : Int) (k : Int) z ws = _
    unfold f17S0
    by_cases h0 : k < l.length
    · have e1 : decide ((k : Int) < (l.length : Int)) = true := by simpa using h0
      have e2 : inb (k : Int) l.length = true := by simp [inb, h0]
      have e3 : IntKind.i64.wrap ((k : Int) + 1) = ((k + 1 : Nat) : Int) := by rw [i64_wrap_in (by omega) (by omega)]; rfl
      rw [e1, e2, e3, okS_iff.2 hok, getD_drop h0 0, List.all_cons, List.foldl_cons]
      simp only [Int.toNat_natCast]
      rw [of_loop hl m n (k + 1) _ h0 (by omega) (addW_ok hok)]
      have e4 : (decide (l.getD k 0 < 0) || decide (l.getD k 0 ≥ z)) = !inF z (l.getD k 0) := by
        unfold inF
        by_cases a : l.getD k 0 < 0 <;> by_cases b : l.getD k 0 ≥ z <;> simp_all <;> omega
      rw [e4]
      cases inF z (l.getD k 0) <;> rfl
    · have e1 : decide ((k : Int) < (l.length : Int)) = false := by simpa using h0
      rw [e1, List.drop_eq_nil_of_le (by omega)]; rfl
theorem of_ok : FnOk P C0 17 ofS := by
  refine fn_okC ctx4 (show P.funcs[17]? = some f17f by kernel_rfl) (of_decide_eq_true (by kernel_rfl)) ofS f17h (fun ds os lf hp => ?_)
  unfold ofS at hp
  simp only at hp
  split at hp
  · rename_i z l
    simp only [Out.pick] at hp
    cases hc : Nat.ble l.length 9223372036854775806 with
    | false => rw [hc] at hp; cases hp
    | true =>
      rw [hc] at hp
      have hl : l.length ≤ 9223372036854775806 := Nat.le_of_ble_eq_true hc
      refine ⟨l.length + 1, (f17_ev _ z l).trans ?_⟩
      rw [← show _ = some lf from hp]
      show (bif decide (z < 0) || decide (z > 4096) then some (Lf.mk [.one .np, pE (.no 1)] [] []) else f17L0 (l.length + 1) (l.length + 1) z l (l.length : Int) ((0 : Nat) : Int) z (List.replicate ((z.toNat + 63) / 64) 0)) = _
      cases hz : (decide (z < 0) || decide (z > 4096)) with
      | true => rfl
      | false =>
        have hz' : ¬ z < 0 ∧ ¬ z > 4096 := by simpa using hz
        rw [of_loop hl _ _ 0 _ (Nat.zero_le _) (by omega) (new_Ok (Int.not_lt.1 hz'.1) (Int.not_lt.1 hz'.2))]
        show (bif l.all (inF z) then _ else _) = bif true then (bif false then _ else bif ofB z l then _ else _) else _
        unfold ofB
        cases l.all (inF z) <;> rfl
  · cases hp
theorem sameI_len : ∀ {a b : List Int}, sameI a b = true → a.length = b.length
  | [], [], _ => rfl
  | _ :: _, _ :: _, h => by
    simp only [sameI, Bool.and_eq_true] at h
    simp [sameI_len h.2]
  | [], _ :: _, h => by cases h
  | _ :: _, [], h => by cases h
theorem ints_loop (a b : List Int) (hl : a.length = b.length) (ha : a.length ≤ 9223372036854775806) : ∀ (m n : Nat) (k : Nat), k ≤ a.length → a.length - k < m → f19L0 n m a b (k : Int) = some ⟨[pB (sameI (a.drop k) (b.drop k))], [], []⟩
  | 0, _, _, _, h => absurd h (Nat.not_lt_zero _)
  | m + 1, n, k, hk, h => by
    show f19S0 (f19L0 n m) a b (k : Int) = _
    unfold f19S0
    by_cases h0 : k < a.length
    · have e1 : decide ((k : Int) < zn a.length) = true := by simpa [zn] using h0
      have e2 : inb (k : Int) a.length = true := by simp [inb, h0]
      have e3 : inb (k : Int) b.length = true := by rw [← hl]; exact e2
      have e4 : IntKind.i64.wrap ((k : Int) + 1) = ((k + 1 : Nat) : Int) := by rw [i64_wrap_in (by omega) (by omega)]; rfl
      rw [e1, e2, e3, e4, ints_loop a b hl ha m n (k + 1) h0 (by omega), getD_drop h0 0, getD_drop (l := b) (k := k) (by omega) 0]
      show (bif true then bif true then bif true then bif !(a.getD k 0 == b.getD k 0) then _ else _ else _ else _ else _) = some (Lf.mk [pB ((a.getD k 0 == b.getD k 0) && sameI (a.drop (k + 1)) (b.drop (k + 1)))] [] [])
      cases (a.getD k 0 == b.getD k 0) <;> rfl
    · have e1 : decide ((k : Int) < zn a.length) = false := by simpa [zn] using h0
      rw [e1, List.drop_eq_nil_of_le (by omega), List.drop_eq_nil_of_le (by omega)]
      rfl
theorem ints_ok : FnOk P C0 19 intsS := by
  refine fn_okC ctx4 (show P.funcs[19]? = some f19f by kernel_rfl) (of_decide_eq_true (by kernel_rfl)) intsS f19h (fun ds os lf hp => ?_)
  unfold intsS at hp
  simp only at hp
  split at hp
  · rename_i a b
    simp only [Out.pick] at hp
    cases hc : (Nat.ble a.length 9223372036854775806 && Nat.ble b.length 9223372036854775806) with
    | false => rw [hc] at hp; cases hp
    | true =>
      rw [hc] at hp
      simp only [cond_true, Option.some.injEq] at hp
      subst hp
      rw [Bool.and_eq_true] at hc
      have ha : a.length ≤ 9223372036854775806 := Nat.le_of_ble_eq_true hc.1
      refine ⟨a.length + 1, (f19_ev _ a b).trans ?_⟩
      unfold f19M f19T
      by_cases hl : a.length = b.length
      · have e : (zn a.length != zn b.length) = false := by rw [hl]; simp
        rw [e]
        exact ints_loop a b hl ha _ _ 0 (Nat.zero_le _) (by omega)
      · have e : (zn a.length != zn b.length) = true := by simp only [zn, bne_iff_ne]; omega
        have e2 : sameI a b = false := by
          cases hs : sameI a b with
          | false => rfl
          | true => exact absurd (sameI_len hs) hl
        rw [e, e2]; rfl
  · cases hp
end Go.S1
