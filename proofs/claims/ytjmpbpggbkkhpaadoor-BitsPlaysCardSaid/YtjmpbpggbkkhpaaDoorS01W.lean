/-
  Seat 01: the laws BitsOf and BitsLaws.
-/
import Derived.Test.YtjmpbpggbkkhpaaDoorS01V
open Go Go.En
namespace Go.S1
theorem ctx11 : CtxOk C11 := fun _ _ h => tbl_ok (l := l11) ⟨turn2_ok, trivial⟩ h
theorem minus_ok : FnOk P C0 25 (binS .andNot) := by
  refine fn_okC ctx11 (show P.funcs[25]? = some f25jf by kernel_rfl) (of_decide_eq_true (by kernel_rfl)) (binS .andNot) f25jh (fun ds os lf hp => ?_)
  unfold binS at hp
  simp only at hp
  split at hp
  · simp only [Out.pick, Option.some.injEq] at hp
    subst hp
    exact ⟨0, f25k_ev 0⟩
  · rename_i n m e ws e' vs
    obtain ⟨rfl, rfl, hq⟩ := gS2_pick hp
    replace hp := hq
    simp only [Out.pick] at hp
    cases hc : okS n ws with
    | false => rw [hc] at hp; cases hp
    | true =>
      rw [hc] at hp
      simp only [cond_true, Option.some.injEq] at hp
      subst hp
      refine ⟨0, (f25j_ev 0 n m ws vs).trans ?_⟩
      show f25jT n m ws vs = _
      unfold f25jT
      rw [hc]; rfl
  · cases hp
theorem meet_ok : FnOk P C0 26 (binS .and) := by
  refine fn_okC ctx11 (show P.funcs[26]? = some f26jf by kernel_rfl) (of_decide_eq_true (by kernel_rfl)) (binS .and) f26jh (fun ds os lf hp => ?_)
  unfold binS at hp
  simp only at hp
  split at hp
  · simp only [Out.pick, Option.some.injEq] at hp
    subst hp
    exact ⟨0, f26k_ev 0⟩
  · rename_i n m e ws e' vs
    obtain ⟨rfl, rfl, hq⟩ := gS2_pick hp
    replace hp := hq
    simp only [Out.pick] at hp
    cases hc : okS n ws with
    | false => rw [hc] at hp; cases hp
    | true =>
      rw [hc] at hp
      simp only [cond_true, Option.some.injEq] at hp
      subst hp
      refine ⟨0, (f26j_ev 0 n m ws vs).trans ?_⟩
      show f26jT n m ws vs = _
      unfold f26jT
      rw [hc]; rfl
  · cases hp
theorem fn_mono {P : Program} {E : Ctx0} {g : Nat} {sp sp' : En.Spec} (h : FnOk P E g sp) (hm : ∀ ds os lf, (sp'.F ds os).pick = some lf → (sp.F ds os).pick = some lf) : FnOk P E g sp' :=
  fun w M γ ds os vs hR lf hp => h w M γ ds os vs hR lf (hm ds os lf hp)
theorem rng {n : Int} (h : 0 ≤ n ∧ n ≤ 4096) : (decide (n < 0) || decide (n > 4096)) = false := by
  simp only [Bool.or_eq_false_iff, decide_eq_false_iff_not]; omega
theorem newg_ok : FnOk P C0 9 newgS := fn_mono new_ok (fun ds os lf hp => by
  unfold newgS at hp
  simp only at hp
  split at hp
  · rename_i n
    simp only [Out.pick] at hp
    cases hc : (decide (0 ≤ n) && decide (n ≤ 4096)) with
    | false => rw [hc] at hp; cases hp
    | true =>
      rw [hc] at hp
      rw [Bool.and_eq_true, decide_eq_true_eq, decide_eq_true_eq] at hc
      have e := rng hc
      show (Out.br (decide (n < 0) || decide (n > 4096)) _ _).pick = _
      rw [e]; exact hp
  · cases hp)
theorem ofg_ok : FnOk P C0 17 ofgS := fn_mono of_ok (fun ds os lf hp => by
  unfold ofgS at hp
  simp only at hp
  split at hp
  · rename_i z l
    simp only [Out.pick] at hp
    cases hc : (Nat.ble l.length 9223372036854775806 && (decide (0 ≤ z) && (decide (z ≤ 4096) && ofB z l))) with
    | false => rw [hc] at hp; cases hp
    | true =>
      rw [hc] at hp
      rw [Bool.and_eq_true, Bool.and_eq_true, Bool.and_eq_true, decide_eq_true_eq, decide_eq_true_eq] at hc
      have e := rng ⟨hc.2.1, hc.2.2.1⟩
      show (Out.br (Nat.ble l.length 9223372036854775806) (.br (decide (z < 0) || decide (z > 4096)) _ (.br (ofB z l) _ _)) _).pick = _
      rw [hc.1, e, hc.2.2.2]; exact hp
  · cases hp)
theorem ctx12 : CtxOk C12 := fun _ _ h => tbl_ok (l := l12) ⟨alive_ok, newg_ok, ofg_ok, join_ok, minus_ok, meet_ok, same_ok, count_ok, copy_ok, ints_ok, add_ok, del_ok, items_ok, trivial⟩ h
/-! ### BitsOf -/
theorem sameI_refl : ∀ l : List Int, sameI l l = true
  | [] => rfl
  | x :: l => by simp [sameI, sameI_refl l]
theorem isO : isOp .or := .inl rfl
theorem isM : isOp .andNot := .inr (.inl rfl)
theorem isA : isOp .and := .inr (.inr rfl)
structure J (N : Int) (k : Nat) (a b : List Int) : Prop where
  la : a.length = k
  lb : b.length = 2 * k
  oa : ofB N a = true
  ob : ofB N b = true
  ab : ∀ x, x ∈ a ↔ x ∈ b
theorem J.step {N : Int} {k : Nat} {a b : List Int} (h : J N k a b) {x : Int} (hx : inF N x = true) : J N (k + 1) (a ++ [x]) (x :: x :: b) where
  la := by simp [h.la]
  lb := by simp [h.lb]; omega
  oa := by have := h.oa; unfold ofB at this ⊢; rw [List.all_append, this]; simp [hx]
  ob := by have := h.ob; unfold ofB at this ⊢; simp [hx, this]
  ab := fun y => by
    have := h.ab y
    simp only [List.mem_append, List.mem_cons, List.not_mem_nil, or_false, this]
    exact ⟨fun h => h.elim (fun h => .inr (.inr h)) .inl, fun h => h.elim .inr (fun h => h.elim .inr .inl)⟩
def u8 (x : Int) : Bool := decide (0 ≤ x) && decide (x ≤ 255)
theorem u8_iff {x : Int} : u8 x = true ↔ 0 ≤ x ∧ x ≤ 255 := by unfold u8; rw [Bool.and_eq_true, decide_eq_true_eq, decide_eq_true_eq]
theorem mod_in {N x : Int} (hN : 0 < N) (hx : 0 ≤ x ∧ x ≤ 255) : IntKind.i64.wrap x = x ∧ inF N (x.tmod N) = true := by
  refine ⟨i64_wrap_in (by omega) (by omega), inF_iff.2 ?_⟩
  rw [Int.tmod_eq_emod_of_nonneg hx.1]
  exact ⟨Int.emod_nonneg _ (by omega), Int.emod_lt_of_pos _ hN⟩
theorem get_u8 {l : List Int} (h : l.all u8 = true) {k : Nat} (hk : k < l.length) : 0 ≤ l.getD k 0 ∧ l.getD k 0 ≤ 255 := by
  have e : l.getD k 0 = l[k] := by simp [List.getD_eq_getElem?_getD, hk]
  rw [e]
  exact u8_iff.1 (List.all_eq_true.1 h _ (List.getElem_mem hk))
theorem of_eq {N : Int} (h0 : 0 ≤ N) (h1 : N ≤ 4096) {k : Nat} {a b : List Int} (h : J N k a b) : ofW N b = ofW N a :=
  set_ext (of_Ok h0 h1 b) (of_Ok h0 h1 a) (fun p _ => by
    rw [bb_of h0 h1 h.ob, bb_of h0 h1 h.oa, Bool.eq_iff_iff, decide_eq_true_eq, decide_eq_true_eq]; exact (h.ab _).symm)
theorem of_cnt {N : Int} (h0 : 0 ≤ N) (h1 : N ≤ 4096) {l : List Int} (h : ofB N l = true) : cnt (ofW N l) ≤ l.length := by
  rw [cnt_z (of_Ok h0 h1 l), cN_congr (fun p _ => bb_of h0 h1 h p)]
  exact cN_mem _ _
theorem of_loop4 {N : Int} (hN : 0 < N) (hN2 : N ≤ 256) {l : List Int} (hl : l.length ≤ 200) (hu : l.all u8 = true) : ∀ (m n k : Nat) (a b : List Int), k ≤ l.length → l.length - k < m → J N k a b →
    f4L0 n m l N (k : Int) a b = some ⟨[pB true], [], []⟩
  | 0, _, _, _, _, _, hm, _ => absurd hm (Nat.not_lt_zero _)
  | m + 1, n, k, a, b, hk, hm, h => by
    show f4S0 (f4L0 n m) l N (k : Int) a b = _
    have la := h.la
    have lb := h.lb
    unfold f4S0
    by_cases h0 : k < l.length
    · obtain ⟨ew, hin⟩ := mod_in (N := N) hN (get_u8 hu h0)
      have e1 : decide ((k : Int) < zn l.length) = true := by simp only [zn, decide_eq_true_eq]; omega
      have e2 : inb (k : Int) l.length = true := by simp only [inb, Bool.and_eq_true, decide_eq_true_eq]; omega
      have e3 : IntKind.i64.wrap ((k : Int) + 1) = ((k + 1 : Nat) : Int) := by rw [i64_wrap_in (by omega) (by omega)]; rfl
      have e4 : decide (N ≠ 0) = true := by simp only [decide_eq_true_eq]; omega
      have e5 : ∀ x : Int, decide ((a.length + [x].length) * 8 ≤ 140737488355328) = true := fun x => by simp only [List.length_singleton, decide_eq_true_eq]; omega
      have e6 : ∀ x : Int, decide (([x, x].length + b.length) * 8 ≤ 140737488355328) = true := fun x => by simp only [List.length_cons, List.length_nil, decide_eq_true_eq]; omega
      simp only [Int.toNat_natCast, e1, e2, e3, e4, e5, e6, ew, cond_true]
      exact of_loop4 hN hN2 hl hu m n (k + 1) _ _ h0 (by omega) (h.step hin)
    · have e1 : decide ((k : Int) < zn l.length) = false := by simp only [zn, decide_eq_false_iff_not]; omega
      have e2 : ∀ x : List Int, x.length ≤ 4096 → x.length.ble 9223372036854775806 = true := fun x hx => Nat.ble_eq_true_of_le (by omega)
      have hok := of_Ok (z := N) (by omega) (by omega) a
      have e3 : (decide (0 ≤ N) && (decide (N ≤ 4096) && true)) = true := by
        simp only [Bool.and_true, Bool.and_eq_true, decide_eq_true_eq]; omega
      have e4 : decide (zn (cnt (ofW N a)) ≤ zn l.length) = true := by
        have := of_cnt (N := N) (by omega) (by omega) h.oa
        simp only [zn, decide_eq_true_eq]; omega
      rw [e1, of_eq (by omega) (by omega) h, e2 a (by omega), e2 b (by omega), h.oa, h.ob, e3, okS_iff.2 hok, sameI_refl, sameI_refl, e2 _ (items_len hok), e4, beq_self_eq_true]
      rfl
theorem ofl_law {z : Int} {l : List Int} (hz : 0 ≤ z ∧ z ≤ 255) (hl : l.all u8 = true) : f4M 201 z l = some ⟨[pB true], [], []⟩ := by
  unfold f4M f4T
  have ez : IntKind.i64.wrap z = z := i64_wrap_in (by omega) (by omega)
  have ez1 : IntKind.i64.wrap (1 + z) = 1 + z := i64_wrap_in (by omega) (by omega)
  rw [ez, ez1]
  by_cases hlen : l.length > 200
  · have e : decide (zn l.length > 200) = true := by simp only [zn, decide_eq_true_eq]; omega
    rw [e]; rfl
  · have e : decide (zn l.length > 200) = false := by simp only [zn, decide_eq_false_iff_not]; omega
    rw [e]
    exact of_loop4 (N := 1 + z) (by omega) (by omega) (by omega) hl 201 201 0 [] [] (Nat.zero_le _) (by omega) ⟨rfl, rfl, rfl, rfl, fun _ => Iff.rfl⟩
def oflS : En.Spec := ⟨[], fun ds os => match ds, os with
  | [.p (.one (.d (.fz true) (.i .u8) z)), .p (.one (.d (.fz false) (.l (.i .u8)) l))], [] =>
    .br ((decide (0 ≤ z) && decide (z ≤ 255)) && l.all u8) (.leaf [pB true] [] []) .fail
  | _, _ => .fail⟩
theorem ofl_ok : FnOk P C0 4 oflS := by
  refine fn_okC ctx12 (show P.funcs[4]? = some f4f by kernel_rfl) (of_decide_eq_true (by kernel_rfl)) oflS f4h (fun ds os lf hp => ?_)
  unfold oflS at hp
  simp only at hp
  split at hp
  · rename_i z l
    simp only [Out.pick] at hp
    cases hc : ((decide (0 ≤ z) && decide (z ≤ 255)) && l.all u8) with
    | false => rw [hc] at hp; cases hp
    | true =>
      rw [hc] at hp
      simp only [cond_true, Option.some.injEq] at hp
      subst hp
      simp only [Bool.and_eq_true, decide_eq_true_eq] at hc
      exact ⟨201, (f4_ev 201 z l).trans (ofl_law hc.1 hc.2)⟩
  · cases hp
/-! ### BitsLaws -/
section
variable {z : Int} {s t : List Int}
theorem U_ok (hs : Ok z s) (ht : Ok z t) : Ok z (turnW .or z s t) := turn_ok_g isO hs ht
theorem or_or (hs : Ok z s) (ht : Ok z t) : turnW .or z (turnW .or z s t) t = turnW .or z s t :=
  set_ext (U_ok (U_ok hs ht) ht) (U_ok hs ht) (fun p hp => by
    rw [bb_turn isO (U_ok hs ht) ht hp, bb_turn isO hs ht hp]; cases bb s p <;> cases bb t p <;> rfl)
theorem or_or' (hs : Ok z s) (ht : Ok z t) : turnW .or z (turnW .or z s t) s = turnW .or z s t :=
  set_ext (U_ok (U_ok hs ht) hs) (U_ok hs ht) (fun p hp => by
    rw [bb_turn isO (U_ok hs ht) hs hp, bb_turn isO hs ht hp]; cases bb s p <;> cases bb t p <;> rfl)
theorem D_ok (hs : Ok z s) (ht : Ok z t) : Ok z (turnW .andNot z (turnW .or z s t) t) := turn_ok_g isM (U_ok hs ht) ht
theorem E_eq (hs : Ok z s) (ht : Ok z t) : turnW .andNot z s (turnW .and z s t) = turnW .andNot z (turnW .or z s t) t :=
  set_ext (turn_ok_g isM hs (turn_ok_g isA hs ht)) (D_ok hs ht) (fun p hp => by
    rw [bb_turn isM hs (turn_ok_g isA hs ht) hp, bb_turn isA hs ht hp, bb_turn isM (U_ok hs ht) ht hp, bb_turn isO hs ht hp]; cases bb s p <;> cases bb t p <;> rfl)
theorem D_D (hs : Ok z s) (ht : Ok z t) : turnW .andNot z (turnW .andNot z (turnW .or z s t) t) t = turnW .andNot z (turnW .or z s t) t :=
  set_ext (turn_ok_g isM (D_ok hs ht) ht) (D_ok hs ht) (fun p hp => by
    rw [bb_turn isM (D_ok hs ht) ht hp]
    have := bb_turn isM (U_ok hs ht) ht hp
    rw [this, bb_turn isO hs ht hp]; cases bb s p <;> cases bb t p <;> rfl)
theorem cnt_law (hs : Ok z s) (ht : Ok z t) : cnt (turnW .or z s t) + cnt (turnW .and z s t) = cnt s + cnt t := by
  have hlo := hs.lo
  have h1 : cN (bb (turnW .or z s t)) z.toNat = cN (fun p => bb s p || bb t p) z.toNat := cN_congr (fun p hp => bb_turn isO hs ht (by omega))
  have h2 : cN (bb (turnW .and z s t)) z.toNat = cN (fun p => bb s p && bb t p) z.toNat := cN_congr (fun p hp => bb_turn isA hs ht (by omega))
  rw [cnt_z (U_ok hs ht), cnt_z (turn_ok_g isA hs ht), cnt_z hs, cnt_z ht, h1, h2]
  exact cN_two _ _ _
theorem cnt_le' (hs : Ok z s) : cnt s ≤ 4096 := by
  rw [cnt_z hs]
  have := cN_le (bb s) z.toNat
  have := hs.hi
  omega
end
theorem laws_end {z : Int} (hz : 0 < z ∧ z ≤ 256) {s t l : List Int} (hs : Ok z s) (ht : Ok z t) {k : Nat} (hk : l.length ≤ k) (g : f6G1) : f6S1 g l z (k : Int) z z s t = some ⟨[pB true], [], []⟩ := by
  have e0 : decide ((k : Int) < zn l.length) = false := by simp only [zn, decide_eq_false_iff_not]; omega
  have hcl := cnt_law hs ht
  have c1 := cnt_le' hs
  have c2 := cnt_le' ht
  have e1 : (zn (cnt (turnW .or z s t)) != IntKind.i64.wrap (IntKind.i64.wrap (zn (cnt s) + zn (cnt t)) - zn (cnt (turnW .and z s t)))) = false := by
    unfold zn
    rw [i64_wrap_in (n := ((cnt s : Nat) : Int) + ((cnt t : Nat) : Int)) (by omega) (by omega), i64_wrap_in (by omega) (by omega), bne_eq_false_iff_eq]
    omega
  have t1 : turnB .or z (turnW .or z s t) t = false := turnB_eq.2 (or_or hs ht)
  have t2 : turnB .or z (turnW .or z s t) s = false := turnB_eq.2 (or_or' hs ht)
  have t3 : turnB .andNot z (turnW .andNot z (turnW .or z s t) t) t = false := turnB_eq.2 (D_D hs ht)
  have e2 : IntKind.i64.wrap (z + 1) = z + 1 := i64_wrap_in (by omega) (by omega)
  have e3 : (decide (0 ≤ z + 1) && decide (z + 1 ≤ 4096)) = true := by simp only [Bool.and_eq_true, decide_eq_true_eq]; omega
  have e4 : (z + 1 == z) = false := by rw [beq_eq_false_iff_ne]; omega
  have o1 := okS_iff.2 hs
  have o2 := okS_iff.2 ht
  have o3 := okS_iff.2 (U_ok hs ht)
  have o4 := okS_iff.2 (turn_ok_g isA hs ht)
  have o5 := okS_iff.2 (D_ok hs ht)
  have o6 := okS_iff.2 (addW_ok (i := 0) (D_ok hs ht))
  have o7 := okS_iff.2 (new_Ok (z := z + 1) (by omega) (by omega))
  unfold f6S1
  simp only [e0, e1, e2, e3, e4, t1, t2, t3, o1, o2, o3, o4, o5, o6, o7, or_or hs ht, or_or' hs ht, E_eq hs ht, D_D hs ht, sameI_refl, beq_self_eq_true, Bool.and_true, Bool.and_false, Bool.false_and, Bool.not_true, Bool.not_false, cond_true, cond_false]
  rfl
theorem laws_loop1 {z : Int} (hz : 0 < z ∧ z ≤ 256) {s l : List Int} (hs : Ok z s) (hl : l.length ≤ 200) (hu : l.all u8 = true) : ∀ (m n k : Nat) (t : List Int), k ≤ l.length → l.length - k < m → Ok z t →
    f6L1 n m l z (k : Int) z z s t = some ⟨[pB true], [], []⟩
  | 0, _, _, _, _, hm, _ => absurd hm (Nat.not_lt_zero _)
  | m + 1, n, k, t, hk, hm, ht => by
    show f6S1 (f6L1 n m) l z (k : Int) z z s t = _
    by_cases h0 : k < l.length
    · unfold f6S1
      obtain ⟨ew, hin⟩ := mod_in (N := z) hz.1 (get_u8 hu h0)
      have e1 : decide ((k : Int) < zn l.length) = true := by simp only [zn, decide_eq_true_eq]; omega
      have e2 : inb (k : Int) l.length = true := by simp only [inb, Bool.and_eq_true, decide_eq_true_eq]; omega
      have e3 : IntKind.i64.wrap ((k : Int) + 1) = ((k + 1 : Nat) : Int) := by rw [i64_wrap_in (by omega) (by omega)]; rfl
      have e4 : decide (z ≠ 0) = true := by simp only [decide_eq_true_eq]; omega
      rw [e1, e2, e3, e4, okS_iff.2 ht]
      exact laws_loop1 hz hs hl hu m n (k + 1) _ h0 (by omega) (addW_ok ht)
    · exact laws_end hz hs ht (by omega) _
theorem laws_loop0 {z : Int} (hz : 0 < z ∧ z ≤ 256) {t l l2 : List Int} (ht : Ok z t) (hl : l.length ≤ 200) (hl2 : l2.length ≤ 200) (hu : l2.all u8 = true) {n : Nat} (hn : 201 ≤ n) : ∀ (m k : Nat) (s : List Int), k ≤ l.length → l.length - k < m → Ok z s →
    f6L0 n m l l2 z (k : Int) z z s t = some ⟨[pB true], [], []⟩
  | 0, _, _, _, hm, _ => absurd hm (Nat.not_lt_zero _)
  | m + 1, k, s, hk, hm, hs => by
    show f6S0 (f6L1 n n) (f6L0 n m) l l2 z (k : Int) z z s t = _
    unfold f6S0
    by_cases h0 : k < l.length
    · have e1 : decide ((k : Int) < zn l.length) = true := by simp only [zn, decide_eq_true_eq]; omega
      have e2 : inb (k : Int) l.length = true := by simp only [inb, Bool.and_eq_true, decide_eq_true_eq]; omega
      have e3 : IntKind.i64.wrap ((k : Int) + 1) = ((k + 1 : Nat) : Int) := by rw [i64_wrap_in (by omega) (by omega)]; rfl
      have e4 : decide (z ≠ 0) = true := by simp only [decide_eq_true_eq]; omega
      rw [e1, e2, e3, e4, okS_iff.2 hs]
      exact laws_loop0 hz ht hl hl2 hu hn m (k + 1) _ h0 (by omega) (addW_ok hs)
    · have e1 : decide ((k : Int) < zn l.length) = false := by simp only [zn, decide_eq_false_iff_not]; omega
      rw [e1]
      exact laws_loop1 hz hs hl2 hu n n 0 t (Nat.zero_le _) (by omega) ht
theorem laws_law {z : Int} {a b : List Int} (hz : 0 ≤ z ∧ z ≤ 255) (hb : b.all u8 = true) : f6M 201 z a b = some ⟨[pB true], [], []⟩ := by
  unfold f6M f6T
  have ez : IntKind.i64.wrap z = z := i64_wrap_in (by omega) (by omega)
  have ez1 : IntKind.i64.wrap (z + 1) = z + 1 := i64_wrap_in (by omega) (by omega)
  rw [ez, ez1]
  by_cases hlen : a.length > 200 ∨ b.length > 200
  · have e : (decide (zn a.length > 200) || decide (zn b.length > 200)) = true := by
      simp only [zn, Bool.or_eq_true, decide_eq_true_eq]; omega
    rw [e]; rfl
  · have e : (decide (zn a.length > 200) || decide (zn b.length > 200)) = false := by
      simp only [zn, Bool.or_eq_false_iff, decide_eq_false_iff_not]; omega
    have e3 : (decide (0 ≤ z + 1) && decide (z + 1 ≤ 4096)) = true := by simp only [Bool.and_eq_true, decide_eq_true_eq]; omega
    have hn := new_Ok (z := z + 1) (by omega) (by omega)
    rw [e, e3]
    exact laws_loop0 (z := z + 1) (by omega) hn (by omega) (by omega) hb (by omega) 201 0 _ (Nat.zero_le _) (by omega) hn
def lawsS : En.Spec := ⟨[], fun ds os => match ds, os with
  | [.p (.one (.d (.fz true) (.i .u8) z)), .p (.one (.d (.fz false) (.l (.i .u8)) _a)), .p (.one (.d (.fz false) (.l (.i .u8)) b))], [] =>
    .br ((decide (0 ≤ z) && decide (z ≤ 255)) && b.all u8) (.leaf [pB true] [] []) .fail
  | _, _ => .fail⟩
theorem laws_ok : FnOk P C0 6 lawsS := by
  refine fn_okC ctx12 (show P.funcs[6]? = some f6f by kernel_rfl) (of_decide_eq_true (by kernel_rfl)) lawsS f6h (fun ds os lf hp => ?_)
  unfold lawsS at hp
  simp only at hp
  split at hp
  · rename_i z a b
    simp only [Out.pick] at hp
    cases hc : ((decide (0 ≤ z) && decide (z ≤ 255)) && b.all u8) with
    | false => rw [hc] at hp; cases hp
    | true =>
      rw [hc] at hp
      simp only [cond_true, Option.some.injEq] at hp
      subst hp
      simp only [Bool.and_eq_true, decide_eq_true_eq] at hc
      exact ⟨201, (f6_ev 201 z a b).trans (laws_law hc.1 hc.2)⟩
  · cases hp
end Go.S1
