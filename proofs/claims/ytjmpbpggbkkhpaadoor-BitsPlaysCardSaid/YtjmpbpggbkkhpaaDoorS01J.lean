/-
  Seat 01: turn with two sets, and Join.
-/
import Derived.Test.YtjmpbpggbkkhpaaDoorS01G7
open Go Go.En
namespace Go.S1
/-- what is taken of another set's word -/
def mkW (z : Int) (len k : Nat) (b : Int) : Int := bif ((k : Int) == (len : Int) - 1) && z.tmod 64 != 0 then bitsF .and .u64 b (IntKind.u64.wrap (shlF .u64 1 (z.tmod 64) - 1)) else b
def tw (op : BinOp) (z : Int) (ws vs : List Int) (k : Nat) : Int := bitsF op .u64 (ws.getD k 0) (mkW z ws.length k (vs.getD k 0))
def turnW (op : BinOp) (z : Int) (ws vs : List Int) : List Int := (List.range ws.length).map (tw op z ws vs)
def turnB (op : BinOp) (z : Int) (ws vs : List Int) : Bool := (List.range ws.length).any fun k => tw op z ws vs k != ws.getD k 0
theorem getD_none {l : List Int} {k : Nat} (h : l.length ≤ k) : l.getD k 0 = 0 := by
  rw [List.getD_eq_getElem?_getD, List.getElem?_eq_none h]; rfl
theorem turn_step {z mm : Int} {ws vs cur : List Int} {g : f34jG0} {flag : Bool} {k : Nat} (hz : 0 ≤ z) (hlen : ws.length ≤ 64) (hk : k < ws.length) (hcl : cur.length = ws.length) (hck : cur.getD k 0 = ws.getD k 0) :
    f34jS0 g flag (ws.length : Int) (k : Int) z mm cur vs = g (flag || tw .or z ws vs k != ws.getD k 0) (ws.length : Int) ((k + 1 : Nat) : Int) z mm (cur.set k (tw .or z ws vs k)) vs := by
  have e1 : decide ((k : Int) < (ws.length : Int)) = true := by simp only [decide_eq_true_eq]; omega
  have e2 : inb (k : Int) cur.length = true := by simp only [inb, Bool.and_eq_true, decide_eq_true_eq]; omega
  have e3 : ∀ v, inb (k : Int) (cur.set k v).length = true := fun v => by rw [List.length_set]; exact e2
  have e4 : IntKind.i64.wrap (zn cur.length - 1) = (ws.length : Int) - 1 := by
    unfold zn; rw [hcl, i64_wrap_in (by omega) (by omega)]
  have e5 : decide (0 ≤ z.tmod 64) = true := by rw [tmod_nat hz, decide_eq_true_eq]; omega
  have e6 : ∀ v, (cur.set k v).getD k 0 = v := fun v => by
    simp [List.getD_eq_getElem?_getD, List.getElem?_set, hcl, hk]
  have e7 : IntKind.i64.wrap ((k : Int) + 1) = ((k + 1 : Nat) : Int) := by rw [i64_wrap_in (by omega) (by omega)]; rfl
  unfold f34jS0
  simp only [Int.toNat_natCast, e1, e2, e3, e4, e5, e6, e7, hck]
  unfold tw mkW
  by_cases hv : k < vs.length
  · have e8 : decide ((k : Int) < zn vs.length) = true := by simp only [zn, decide_eq_true_eq]; omega
    have e9 : inb (k : Int) vs.length = true := by simp only [inb, Bool.and_eq_true, decide_eq_true_eq]; omega
    rw [e8, e9]
    cases ((k : Int) == (ws.length : Int) - 1 && z.tmod 64 != 0) <;> cases flag <;> cases ((k : Int) == (ws.length : Int) - 1) <;> rfl
  · have e8 : decide ((k : Int) < zn vs.length) = false := by simp only [zn, decide_eq_false_iff_not]; omega
    rw [e8, getD_none (l := vs) (by omega)]
    cases ((k : Int) == (ws.length : Int) - 1 && z.tmod 64 != 0) <;> cases flag <;> cases ((k : Int) == (ws.length : Int) - 1) <;> rfl
theorem turnW_len (op : BinOp) (z : Int) (ws vs : List Int) : (turnW op z ws vs).length = ws.length := by simp [turnW]
theorem cur_get {op : BinOp} {z : Int} {ws vs : List Int} {k : Nat} (hk : k < ws.length) : ((turnW op z ws vs).take k ++ ws.drop k).getD k 0 = ws.getD k 0 := by
  have : ((turnW op z ws vs).take k).length = k := by rw [List.length_take, turnW_len]; omega
  simp only [List.getD_eq_getElem?_getD]
  rw [List.getElem?_append_right (by omega), this, Nat.sub_self, List.getElem?_drop, Nat.add_zero]
theorem cur_set {op : BinOp} {z : Int} {ws vs : List Int} {k : Nat} (hk : k < ws.length) : ((turnW op z ws vs).take k ++ ws.drop k).set k (tw op z ws vs k) = (turnW op z ws vs).take (k + 1) ++ ws.drop (k + 1) := by
  have hl : ((turnW op z ws vs).take k).length = k := by rw [List.length_take, turnW_len]; omega
  rw [List.set_append_right _ _ (by omega), hl, Nat.sub_self, List.drop_eq_getElem_cons hk, List.set_cons_zero]
  have e : (turnW op z ws vs).take (k + 1) = (turnW op z ws vs).take k ++ [tw op z ws vs k] := by
    rw [List.take_succ_eq_append_getElem (by rw [turnW_len]; exact hk)]
    simp [turnW]
  rw [e, List.append_assoc]; rfl
theorem any_succ (p : Nat → Bool) (k : Nat) : (List.range (k + 1)).any p = ((List.range k).any p || p k) := by
  rw [List.range_succ, List.any_append]; simp
theorem turn_loop {z mm : Int} {ws vs : List Int} (hz : 0 ≤ z) (hlen : ws.length ≤ 64) : ∀ (m n k : Nat), k ≤ ws.length → ws.length - k < m →
    f34jL0 n m ((List.range k).any fun j => tw .or z ws vs j != ws.getD j 0) (ws.length : Int) (k : Int) z mm ((turnW .or z ws vs).take k ++ ws.drop k) vs = some ⟨[pB (turnB .or z ws vs)], [vaS ⟨0, 2⟩ z, vaS ⟨0, 3⟩ mm, roW (turnW .or z ws vs), roW vs], []⟩
  | 0, _, _, _, h => absurd h (Nat.not_lt_zero _)
  | m + 1, n, k, hk, hm => by
    show f34jS0 (f34jL0 n m) _ (ws.length : Int) (k : Int) z mm _ vs = _
    by_cases h0 : k < ws.length
    · rw [turn_step hz hlen h0 (by rw [List.length_append, List.length_take, List.length_drop, turnW_len]; omega) (cur_get h0), cur_set h0, ← any_succ fun j => tw .or z ws vs j != ws.getD j 0]
      exact turn_loop hz hlen m n (k + 1) h0 (by omega)
    · have hke : k = ws.length := by omega
      subst hke
      unfold f34jS0
      have e1 : decide ((ws.length : Int) < (ws.length : Int)) = false := by simp
      have e2 : (turnW .or z ws vs).take ws.length = turnW .or z ws vs := by
        have := turnW_len .or z ws vs
        rw [← this, List.take_length]
      rw [e1, List.drop_length, List.append_nil, e2]
      rfl
theorem turn_T {z mm : Int} {ws vs : List Int} (hz : 0 ≤ z) (hlen : ws.length ≤ 64) : f34jM 65 z mm ws vs = some ⟨[pB (turnB .or z ws vs)], [vaS ⟨0, 2⟩ z, vaS ⟨0, 3⟩ mm, roW (turnW .or z ws vs), roW vs], []⟩ := by
  have := turn_loop (mm := mm) (vs := vs) hz hlen 65 65 0 (Nat.zero_le _) (by omega)
  exact this
end Go.S1
