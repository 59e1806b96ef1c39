/-
  Seat 01: a set as words beside the document's set: any call does the same to both.
-/
import Derived.Test.YtjmpbpggbkkhpaaDoorS01GF
import Derived.Test.YtjmpbpggbkkhpaaDoorEd
open Go Go.En
namespace Go.S1
theorem bb_nil (p : Nat) : bb [] p = false := Nat.zero_testBit _
theorem nil_Ok : Ok 0 [] := ⟨Int.le_refl _, by omega, rfl, (fun x hx => by cases hx), rfl⟩
/-- the same set -/
structure R (z : Int) (ws : List Int) (bs : List Bool) : Prop where
  ok : Ok z ws
  len : bs.length = z.toNat
  eq : ∀ p : Nat, (p : Int) < z → bb ws p = bs.getD p false
theorem R.at {z : Int} {ws : List Int} {bs : List Bool} (h : R z ws bs) (p : Nat) : bb ws p = bs.getD p false := by
  by_cases hp : (p : Int) < z
  · exact h.eq p hp
  · have hl := h.len
    rw [bb_out h.ok hp, getD_no (by omega)]
where
  getD_no {bs : List Bool} {p : Nat} (h : bs.length ≤ p) : bs.getD p false = false := by
    rw [List.getD_eq_getElem?_getD, List.getElem?_eq_none h]; rfl
theorem rHas_nat (bs : List Bool) (p : Nat) : rHasF bs (p : Int) = bs.getD p false := by
  unfold rHasF
  rw [Int.toNat_natCast]
  by_cases h : p < bs.length
  · rw [in_yes ⟨by omega, by omega⟩]; rfl
  · rw [R.at.getD_no (by omega), Bool.and_false]
section
variable {z : Int} {ws : List Int} {bs : List Bool}
theorem has_eq (h : R z ws bs) (a : Int) : hasF z ws a = rHasF bs a := by
  have hlo := h.ok.lo; have hl := h.len
  by_cases ha : 0 ≤ a ∧ a < z
  · obtain ⟨p, rfl⟩ := Int.eq_ofNat_of_zero_le ha.1
    rw [rHas_nat, ← h.at, Bool.eq_iff_iff, bb_iff, has_BW h.ok]
  · have e1 : hasF z ws a = false := by unfold hasF; rw [in_no ha]; rfl
    have e2 : rHasF bs a = false := by unfold rHasF; rw [in_no (fun x => ha ⟨x.1, by omega⟩)]; rfl
    rw [e1, e2]
theorem items_eq (h : R z ws bs) : items z ws = rItems bs := by
  unfold items rItems itemsB rItemsB
  rw [h.len]
  congr 1
  apply List.filter_congr
  intro p _
  rw [has_eq h, rHas_nat]
theorem cN_filter (f : Nat → Bool) : ∀ n, cN f n = ((List.range n).filter f).length
  | 0 => rfl
  | n + 1 => by
    rw [cN, cN_filter f n, List.range_succ, List.filter_append, List.length_append]
    cases h : f n with
    | true => rw [List.filter_cons_of_pos h]; rfl
    | false => rw [List.filter_cons_of_neg (by rw [h]; decide)]; rfl
theorem cnt_eq (h : R z ws bs) : cnt ws = (rItems bs).length := by
  rw [cnt_z h.ok, cN_filter]
  unfold rItems rItemsB
  rw [List.length_map, h.len]
  congr 1
  apply List.filter_congr
  intro p _
  exact h.at p
theorem set_get {bs : List Bool} {i p : Nat} {v : Bool} (hi : i < bs.length) : (bs.set i v).getD p false = if p = i then v else bs.getD p false := by
  simp only [List.getD_eq_getElem?_getD, List.getElem?_set]
  by_cases h : i = p
  · subst h; simp [hi]
  · have h' : ¬ p = i := fun e => h e.symm
    simp [h, h']
theorem rPut_get {i : Nat} (hi : i < bs.length) (to : Bool) (p : Nat) : (rPut bs (i : Int) to).getD p false = if p = i then to else bs.getD p false := by
  unfold rPut rPutB
  rw [in_yes ⟨by omega, by omega⟩, Int.toNat_natCast]
  cases hb : (bs.getD i false == to) with
  | false => exact set_get hi
  | true =>
    have hb' : bs.getD i false = to := eq_of_beq hb
    show bs.getD p false = _
    by_cases hp : p = i
    · rw [if_pos hp, hp, hb']
    · rw [if_neg hp]
theorem rPut_len (i : Int) (to : Bool) : (rPut bs i to).length = bs.length := by
  unfold rPut
  cases rPutB bs i to with
  | true => exact List.length_set ..
  | false => rfl
theorem put_out {a : Int} (ha : ¬ (0 ≤ a ∧ a < (bs.length : Int))) (to : Bool) : rPutB bs a to = false ∧ rPut bs a to = bs := by
  have e : rPutB bs a to = false := by unfold rPutB; rw [in_no ha]; rfl
  exact ⟨e, by unfold rPut; rw [e]; rfl⟩
theorem add_R (h : R z ws bs) (a : Int) : addB z ws a = rPutB bs a true ∧ R z (addW z ws a) (rPut bs a true) := by
  have hlo := h.ok.lo; have hl := h.len
  by_cases ha : 0 ≤ a ∧ a < z
  · obtain ⟨i, rfl⟩ := Int.eq_ofNat_of_zero_le ha.1
    have hi : i < bs.length := by omega
    refine ⟨?_, addW_ok h.ok, by rw [rPut_len]; exact hl, fun p _ => ?_⟩
    · unfold addB rPutB
      rw [has_eq h, rHas_nat, inF_iff.2 ha, in_yes ⟨by omega, by omega⟩, Int.toNat_natCast]
      cases bs.getD i false <;> rfl
    · rw [bb_add h.ok ha.2, rPut_get hi, h.at]
      by_cases hp : p = i
      · rw [if_pos hp, decide_eq_true hp, Bool.or_true]
      · rw [if_neg hp, decide_eq_false hp, Bool.or_false]
  · obtain ⟨e1, e2⟩ := put_out (bs := bs) (a := a) (fun x => ha ⟨x.1, by omega⟩) true
    have e3 : addB z ws a = false := by
      unfold addB
      cases hx : inF z a with
      | false => rfl
      | true => exact absurd (inF_iff.1 hx) ha
    have e4 : addW z ws a = ws := by unfold addW; rw [e3]; rfl
    rw [e1, e2, e3, e4]; exact ⟨rfl, h⟩
/-! ### Del -/
theorem del_eq {i : Nat} (h : Ok z ws) (hf : hasF z ws (i : Int) = true) : ∃ r : Nat, delW z ws (i : Int) = ws.set (i / 64) (r : Int) ∧ r < 18446744073709551616 ∧ ∀ s, s < 64 → r.testBit s = ((ws.getD (i / 64) 0).toNat.testBit s && !(decide (s = i % 64))) := by
  have h3 : 2 ^ (i % 64) < 18446744073709551616 := Nat.lt_of_lt_of_le (Nat.pow_lt_pow_right (by omega) (Nat.mod_lt i (by omega : 64 > 0))) (by decide)
  obtain ⟨r, g1, g2, g3⟩ := bits_gen (.inr (.inl rfl) : isOp .andNot) (wd_range h (i / 64)) (b := ((2 ^ (i % 64) : Nat) : Int)) ⟨Int.natCast_nonneg _, Int.ofNat_lt.2 h3⟩
  refine ⟨r, ?_, g2, fun s hs => ?_⟩
  · unfold delW wd
    rw [hf, tdiv_nat (by omega), tmod_nat (by omega), Int.toNat_natCast, shl_one (Nat.mod_lt _ (by omega)), g1]; rfl
  · rw [g3 s hs, Int.toNat_natCast, Nat.testBit_two_pow]
    show (_ && !(decide (i % 64 = s))) = _
    congr 2
    rw [decide_eq_decide]; exact ⟨Eq.symm, Eq.symm⟩
theorem del_Ok (h : Ok z ws) (a : Int) : Ok z (delW z ws a) := by
  cases hf : hasF z ws a with
  | false => unfold delW; rw [hf]; exact h
  | true =>
    have ha := ((has_iff h).1 hf).1
    obtain ⟨i, rfl⟩ := Int.eq_ofNat_of_zero_le ha.1
    obtain ⟨r, e, hr, hb⟩ := del_eq h hf
    have hlo := h.lo; have hlen := h.len
    rw [e]
    refine ⟨h.lo, h.hi, by rw [List.length_set]; exact h.len, fun x hx => ?_, ?_⟩
    · rcases List.mem_or_eq_of_mem_set hx with hx | hx
      · exact h.w x hx
      · rw [hx]; omega
    · unfold top
      rw [getD_set' (by omega)]
      by_cases he : z.toNat / 64 = i / 64
      · rw [if_pos he, Bool.or_eq_true, Nat.beq_eq, decide_eq_true_eq]
        by_cases h0 : z.toNat % 64 = 0
        · exact .inl h0
        · right
          have : r < 2 ^ (z.toNat % 64) := by
            apply Nat.lt_pow_two_of_testBit
            intro s hs
            by_cases h64 : s < 64
            · rw [hb s h64, ← he, top_bit h h0 hs]; rfl
            · exact big_bit hr (by omega)
          have h5 := Int.ofNat_lt.2 this
          rw [Int.natCast_pow] at h5
          exact h5
      · rw [if_neg he]; exact h.t
theorem bb_del {i : Nat} (h : Ok z ws) (hf : hasF z ws (i : Int) = true) (p : Nat) : bb (delW z ws (i : Int)) p = (bb ws p && !decide (p = i)) := by
  have ha := ((has_iff h).1 hf).1
  have hlo := h.lo; have hlen := h.len
  obtain ⟨r, e, hr, hb⟩ := del_eq h hf
  rw [e]
  unfold bb
  rw [getD_set' (by omega)]
  by_cases he : p / 64 = i / 64
  · rw [if_pos he, Int.toNat_natCast, hb _ (Nat.mod_lt _ (by omega)), he]
    congr 2
    rw [decide_eq_decide]; omega
  · rw [if_neg he, decide_eq_false (show ¬ p = i from fun e => he (by rw [e]))]
    simp
theorem del_R (h : R z ws bs) (a : Int) : hasF z ws a = rPutB bs a false ∧ R z (delW z ws a) (rPut bs a false) := by
  have hlo := h.ok.lo; have hl := h.len
  have e0 : rPutB bs a false = rHasF bs a := by
    unfold rPutB rHasF
    cases bs.getD a.toNat false <;> rfl
  refine ⟨by rw [e0, has_eq h], del_Ok h.ok a, by rw [rPut_len]; exact hl, fun p _ => ?_⟩
  cases hf : hasF z ws a with
  | false =>
    have e1 : delW z ws a = ws := by unfold delW; rw [hf]; rfl
    have e2 : rPut bs a false = bs := by unfold rPut; rw [e0, ← has_eq h, hf]; rfl
    rw [e1, e2, h.at]
  | true =>
    have ha := ((has_iff h.ok).1 hf).1
    obtain ⟨i, rfl⟩ := Int.eq_ofNat_of_zero_le ha.1
    rw [bb_del h.ok hf, rPut_get (by omega), h.at]
    by_cases hp : p = i
    · rw [if_pos hp, decide_eq_true hp]; simp
    · rw [if_neg hp, decide_eq_false hp]; simp
/-! ### Join, Minus, Meet -/
theorem kind_R {op : BinOp} {kd : Int} (hop : (kd = 0 ∧ op = .or) ∨ (kd = 1 ∧ op = .andNot) ∨ (kd = 2 ∧ op = .and)) (h : R z ws bs) {y : Int} {vs : List Int} {ts : List Bool} (hv : Ok y vs) (ht : ∀ p, bb vs p = ts.getD p false) :
    turnB op z ws vs = rWithB kd bs ts ∧ R z (turnW op z ws vs) (rWithL kd bs ts) := by
  have ho : isOp op := by
    rcases hop with ⟨_, h⟩ | ⟨_, h⟩ | ⟨_, h⟩
    · exact .inl h
    · exact .inr (.inl h)
    · exact .inr (.inr h)
  have hlo := h.ok.lo; have hl := h.len
  have hok := turn_ok_g ho h.ok hv
  have key : ∀ p : Nat, (p : Int) < z → bb (turnW op z ws vs) p = rTo kd (bs.getD p false) (rHasF ts (p : Int)) := by
    intro p hp
    rw [bb_turn ho h.ok hv hp, h.at, ht, rHas_nat]
    unfold rTo
    rcases hop with ⟨rfl, rfl⟩ | ⟨rfl, rfl⟩ | ⟨rfl, rfl⟩ <;> cases bs.getD p false <;> cases ts.getD p false <;> rfl
  refine ⟨?_, hok, by rw [rWith_len]; exact hl, fun p hp => ?_⟩
  · have e : turnB op z ws vs = false ↔ rWithB kd bs ts = false := by
      rw [turnB_eq]
      unfold rWithB
      rw [List.any_eq_false]
      constructor
      · intro he p hp
        have hp' : (p : Int) < z := by have := List.mem_range.1 hp; omega
        have := key p hp'
        rw [he, h.at] at this
        rw [← this]; simp
      · intro hall
        refine set_ext hok h.ok (fun p hp => ?_)
        have := hall p (List.mem_range.2 (by omega))
        rw [key p hp, h.at]
        simpa using this
    cases h1 : turnB op z ws vs with
    | false => exact (e.1 h1).symm
    | true =>
      cases h2 : rWithB kd bs ts with
      | false => rw [e.2 h2] at h1; cases h1
      | true => rfl
  · rw [key p hp]
    exact (map_get (f := fun p => rTo kd (bs.getD p false) (rHasF ts (p : Int))) (n := bs.length) (by omega)).symm
end
/-! ### Of -/
theorem rOfL_get {z : Int} : ∀ {l : List Int} {s : List Bool}, (s.length : Int) = z → ofB z l = true → (l.foldl rSet s).length = s.length ∧ ∀ p : Nat, (l.foldl rSet s).getD p false = (s.getD p false || decide ((p : Int) ∈ l))
  | [], s, _, _ => ⟨rfl, fun p => by simp⟩
  | x :: l, s, hs, hb => by
    unfold ofB at hb
    rw [List.all_cons, Bool.and_eq_true] at hb
    have hx := inF_iff.1 hb.1
    obtain ⟨i, rfl⟩ := Int.eq_ofNat_of_zero_le hx.1
    obtain ⟨h1, h2⟩ := rOfL_get (l := l) (s := rSet s (i : Int)) (by unfold rSet; rw [List.length_set]; exact hs) hb.2
    rw [List.foldl_cons]
    refine ⟨by rw [h1]; exact List.length_set .., fun p => ?_⟩
    rw [h2]
    unfold rSet
    rw [Int.toNat_natCast, set_get (by omega)]
    by_cases hp : p = i
    · subst hp; simp
    · rw [if_neg hp]
      congr 1
      rw [decide_eq_decide, List.mem_cons]
      exact ⟨.inr, fun h => h.elim (fun e => absurd (by omega : p = i) hp) id⟩
theorem rOk_iff {z : Int} {l : List Int} : rOk z l = true ↔ (0 ≤ z ∧ z ≤ 4096) ∧ ofB z l = true := by
  unfold rOk
  rw [Bool.and_eq_true, Bool.not_eq_true', Bool.or_eq_false_iff, decide_eq_false_iff_not, decide_eq_false_iff_not]
  constructor
  · rintro ⟨⟨h1, h2⟩, h3⟩; exact ⟨⟨by omega, by omega⟩, h3⟩
  · rintro ⟨⟨h1, h2⟩, h3⟩; exact ⟨⟨by omega, by omega⟩, h3⟩
theorem of_R {z : Int} {l : List Int} (h : rOk z l = true) : R z (ofW z l) (rOf z l) := by
  obtain ⟨⟨h0, h1⟩, hb⟩ := rOk_iff.1 h
  have e : rOf z l = rOfL z l := by unfold rOf; rw [h]; rfl
  have hr : ((List.replicate z.toNat false).length : Int) = z := by rw [List.length_replicate]; omega
  obtain ⟨g1, g2⟩ := rOfL_get hr hb
  rw [e]
  refine ⟨of_Ok h0 h1 l, by unfold rOfL; rw [g1, List.length_replicate], fun p _ => ?_⟩
  unfold rOfL
  rw [g2, bb_of h0 h1 hb]
  have : (List.replicate z.toNat false).getD p false = false := by
    simp only [List.getD_eq_getElem?_getD, List.getElem?_replicate]; split <;> rfl
  rw [this, Bool.false_or]
end Go.S1
