/-
  Seat 01: the contracts of the document's sets, of far, and of turn with no second set.
-/
import Derived.Test.YtjmpbpggbkkhpaaDoorS01GD
open Go Go.En
namespace Go.S1
/-! ### lists told place by place -/
section
variable {α : Type} {M b : List α} {k : Nat} {d : α}
theorem cut_len (hl : M.length = b.length) (hk : k ≤ b.length) : (M.take k ++ b.drop k).length = b.length := by
  rw [List.length_append, List.length_take, List.length_drop]; omega
theorem cut_get (hl : M.length = b.length) (hk : k < b.length) : (M.take k ++ b.drop k).getD k d = b.getD k d := by
  have : (M.take k).length = k := by rw [List.length_take]; omega
  simp only [List.getD_eq_getElem?_getD]
  rw [List.getElem?_append_right (by omega), this, Nat.sub_self, List.getElem?_drop, Nat.add_zero]
theorem cut_set (hl : M.length = b.length) (hk : k < b.length) {v : α} (hv : M.getD k d = v) : (M.take k ++ b.drop k).set k v = M.take (k + 1) ++ b.drop (k + 1) := by
  have h1 : (M.take k).length = k := by rw [List.length_take]; omega
  have hk' : k < M.length := by omega
  rw [List.set_append_right _ _ (by omega), h1, Nat.sub_self, List.drop_eq_getElem_cons hk, List.set_cons_zero]
  have e : M.take (k + 1) = M.take k ++ [v] := by
    rw [List.take_succ_eq_append_getElem hk']
    rw [List.getD_eq_getElem?_getD, List.getElem?_eq_getElem hk'] at hv
    rw [← hv]; rfl
  rw [e, List.append_assoc]; rfl
theorem cut_all (hl : M.length = b.length) : M.take b.length ++ b.drop b.length = M := by
  rw [List.drop_length, List.append_nil, ← hl, List.take_length]
end
theorem map_get {f : Nat → Bool} {n k : Nat} (hk : k < n) : ((List.range n).map f).getD k false = f k := by
  simp [List.getD_eq_getElem?_getD, hk]
theorem ble_of {n m : Nat} (h : n ≤ m) : n.ble m = true := Nat.ble_eq_true_of_le h
theorem in_yes {n i : Int} (h : 0 ≤ i ∧ i < n) : inF n i = true := inF_iff.2 h
theorem in_no {n i : Int} (h : ¬ (0 ≤ i ∧ i < n)) : inF n i = false := by
  cases h2 : inF n i with
  | false => rfl
  | true => exact absurd (inF_iff.1 h2) h
theorem inb_in {n : Nat} {i : Int} : inb i n = inF (n : Int) i := rfl
/-! ### the document's sets -/
def gB (e : Nat) (o : Out) : Out := bif e.beq 4 then o else .fail
theorem gB_pick {e : Nat} {o : Out} {lf : Lf} (h : (gB e o).pick = some lf) : e = 4 ∧ o.pick = some lf := by
  unfold gB at h
  cases hc : e.beq 4 with
  | false => rw [hc] at h; cases h
  | true =>
    rw [hc] at h
    exact ⟨Nat.eq_of_beq_eq_true hc, h⟩
theorem rhas_ok : FnOk P C0 29 rHasS := by
  refine fn_okC ctx1 (show P.funcs[29]? = some f29f by kernel_rfl) (of_decide_eq_true (by kernel_rfl)) rHasS f29h (fun ds os lf hp => ?_)
  unfold rHasS at hp
  simp only at hp
  split at hp
  · rename_i bs i
    simp only [Out.pick] at hp
    cases hc : Nat.ble bs.length 4096 with
    | false => rw [hc] at hp; cases hp
    | true =>
      rw [hc] at hp
      simp only [cond_true, Option.some.injEq] at hp
      subst hp
      refine ⟨0, (f29_ev 0 bs i).trans ?_⟩
      show f29T bs i = _
      unfold f29T rHasF
      by_cases h1 : i ≥ 0
      · by_cases h2 : i < zn bs.length
        · rw [inb_in, in_yes ⟨h1, h2⟩, decide_eq_true h1, decide_eq_true h2]; rfl
        · rw [in_no (fun h => h2 h.2), decide_eq_true h1, decide_eq_false h2]; rfl
      · rw [in_no (fun h => h1 h.1), decide_eq_false h1]; rfl
  · cases hp
def rPutB (bs : List Bool) (i : Int) (to : Bool) : Bool := inF (bs.length : Int) i && !(bs.getD i.toNat false == to)
def rPut (bs : List Bool) (i : Int) (to : Bool) : List Bool := bif rPutB bs i to then bs.set i.toNat to else bs
def rPutS : En.Spec := ⟨[0], fun ds os => match ds, os with
  | [.p (.agg [.rw ⟨0, 0⟩]), .p (.one (.d (.fz true) (.i .i64) i)), .p (.one (.d (.fz true) .b to))], [.ro true 0 e .b .z bs none] => gB e <| .leaf [pB (rPutB bs i to)] [roB (rPut bs i to)] []
  | _, _ => .fail⟩
theorem put_T (bs : List Bool) (i : Int) (to : Bool) : f27T bs i to = some ⟨[pB (rPutB bs i to)], [roB (rPut bs i to)], []⟩ := by
  unfold f27T rPut rPutB
  by_cases h1 : 0 ≤ i
  · by_cases h2 : i < zn bs.length
    · rw [inb_in, in_yes ⟨h1, h2⟩, decide_eq_false (show ¬ i < 0 by omega), decide_eq_false (show ¬ i ≥ zn bs.length by omega)]
      cases (bs.getD i.toNat false == to) <;> rfl
    · rw [in_no (fun h => h2 h.2), decide_eq_true (show i ≥ zn bs.length by omega)]
      cases decide (i < 0) <;> rfl
  · rw [in_no (fun h => h1 h.1), decide_eq_true (show i < 0 by omega)]; rfl
theorem put_ok : FnOk P C0 27 rPutS := by
  refine fn_okC ctx1 (show P.funcs[27]? = some f27f by kernel_rfl) (of_decide_eq_true (by kernel_rfl)) rPutS f27h (fun ds os lf hp => ?_)
  unfold rPutS at hp
  simp only at hp
  split at hp
  · rename_i i to e bs
    obtain ⟨rfl, hq⟩ := gB_pick hp
    simp only [Out.pick, Option.some.injEq] at hq
    subst hq
    exact ⟨0, (f27_ev 0 bs i to).trans (put_T bs i to)⟩
  · cases hp
/-! ### far -/
def farA (a : Int × Int × Int × List Int × Unit) : Bool := decide (zn a.2.2.2.1.length > 200)
def farF (l : List (Int × Int × Int × List Int × Unit)) : Bool := decide (zn l.length > 60) || l.any farA
def farS : En.Spec := ⟨[], fun ds os => match ds, os with
  | [.p (.one (.d (.fz false) (.l (.p (.i .i64) (.p (.i .i64) (.p (.i .i64) (.p (.l (.i .i64)) .u))))) l))], [] => .leaf [pB (farF l)] [] []
  | _, _ => .fail⟩
theorem drop_get {α : Type} {l : List α} {k : Nat} (h : k < l.length) (d : α) : l.drop k = l.getD k d :: l.drop (k + 1) := by
  rw [List.drop_eq_getElem_cons h]; simp [List.getD_eq_getElem?_getD, h]
theorem far_loop {l : List (Int × Int × Int × List Int × Unit)} (hl : l.length ≤ 60) : ∀ (m n k : Nat), k ≤ l.length → l.length - k < m → f21L0 n m l (k : Int) = some ⟨[pB ((l.drop k).any farA)], [], []⟩
  | 0, _, _, _, h => absurd h (Nat.not_lt_zero _)
  | m + 1, n, k, hk, hm => by
    show f21S0 (f21L0 n m) l (k : Int) = _
    unfold f21S0
    by_cases h0 : k < l.length
    · have e1 : decide ((k : Int) < zn l.length) = true := by simp only [zn, decide_eq_true_eq]; omega
      have e2 : inb (k : Int) l.length = true := by simp only [inb, Bool.and_eq_true, decide_eq_true_eq]; omega
      have e3 : IntKind.i64.wrap ((k : Int) + 1) = ((k + 1 : Nat) : Int) := by rw [i64_wrap_in (by omega) (by omega)]; rfl
      rw [e1, e2, e3, far_loop hl m n (k + 1) h0 (by omega), drop_get h0 (0, 0, 0, [], ())]
      simp only [Int.toNat_natCast, List.any_cons]
      show (bif true then bif true then bif farA (l.getD k (0, 0, 0, [], ())) then _ else _ else _ else _) = _
      cases farA (l.getD k (0, 0, 0, [], ())) <;> rfl
    · have e1 : decide ((k : Int) < zn l.length) = false := by simp only [zn, decide_eq_false_iff_not]; omega
      rw [e1, List.drop_eq_nil_of_le (by omega)]; rfl
theorem far_ok : FnOk P C0 21 farS := by
  refine fn_okC ctx1 (show P.funcs[21]? = some f21f by kernel_rfl) (of_decide_eq_true (by kernel_rfl)) farS f21h (fun ds os lf hp => ?_)
  unfold farS at hp
  simp only at hp
  split at hp
  · rename_i l
    simp only [Out.pick, Option.some.injEq] at hp
    subst hp
    refine ⟨61, (f21_ev 61 l).trans ?_⟩
    show f21T (f21L0 61 61) l = _
    unfold f21T farF
    by_cases h : l.length > 60
    · have e : decide (zn l.length > 60) = true := by simp only [zn, decide_eq_true_eq]; omega
      rw [e]; rfl
    · have e : decide (zn l.length > 60) = false := by simp only [zn, decide_eq_false_iff_not]; omega
      rw [e]
      exact far_loop (by omega) 61 61 0 (Nat.zero_le _) (by omega)
  · cases hp
/-! ### Of -/
def rSet (s : List Bool) (x : Int) : List Bool := s.set x.toNat true
def rOfL (z : Int) (l : List Int) : List Bool := l.foldl rSet (List.replicate z.toNat false)
def rOk (z : Int) (l : List Int) : Bool := !(decide (z < 0) || decide (z > 4096)) && ofB z l
def rOf (z : Int) (l : List Int) : List Bool := bif rOk z l then rOfL z l else []
def rOfS : En.Spec := ⟨[], fun ds os => match ds, os with
  | [.p (.one (.d (.fz true) (.i .i64) z)), .p (.one (.d (.fz false) (.l (.i .i64)) l))], [] => .br (Nat.ble l.length 9223372036854775806) (.leaf [.agg [.rw ⟨1, 0⟩], pB (rOk z l)] [] [roB (rOf z l)]) .fail
  | _, _ => .fail⟩
theorem rof_loop {z : Int} {l : List Int} (hl : l.length ≤ 9223372036854775806) : ∀ (m n k : Nat) (s : List Bool), k ≤ l.length → l.length - k < m → (s.length : Int) = z →
    f22L0 n m z l (k : Int) s = bif (l.drop k).all (inF z) then some ⟨[.agg [.rw ⟨1, 0⟩], pB true], [], [roB ((l.drop k).foldl rSet s)]⟩ else some ⟨[.agg [.rw ⟨1, 0⟩], pB false], [], [roB []]⟩
  | 0, _, _, _, _, h, _ => absurd h (Nat.not_lt_zero _)
  | m + 1, n, k, s, hk, hm, hs => by
    show f22S0 (f22L0 n m) z l (k : Int) s = _
    unfold f22S0
    by_cases h0 : k < l.length
    · have e1 : decide ((k : Int) < zn l.length) = true := by simp only [zn, decide_eq_true_eq]; omega
      have e2 : inb (k : Int) l.length = true := by simp only [inb, Bool.and_eq_true, decide_eq_true_eq]; omega
      have e3 : IntKind.i64.wrap ((k : Int) + 1) = ((k + 1 : Nat) : Int) := by rw [i64_wrap_in (by omega) (by omega)]; rfl
      rw [e1, e2, e3, getD_drop h0 0, List.all_cons, List.foldl_cons]
      simp only [Int.toNat_natCast, inb_in, hs]
      rw [rof_loop hl m n (k + 1) _ h0 (by omega) (by rw [List.length_set]; exact hs)]
      by_cases h1 : 0 ≤ l.getD k 0
      · by_cases h2 : l.getD k 0 < z
        · rw [in_yes ⟨h1, h2⟩, decide_eq_false (show ¬ l.getD k 0 < 0 by omega), decide_eq_false (show ¬ l.getD k 0 ≥ z by omega)]; rfl
        · rw [in_no (fun h => h2 h.2), decide_eq_true (show l.getD k 0 ≥ z by omega)]
          cases decide (l.getD k 0 < 0) <;> rfl
      · rw [in_no (fun h => h1 h.1), decide_eq_true (show l.getD k 0 < 0 by omega)]; rfl
    · have e1 : decide ((k : Int) < zn l.length) = false := by simp only [zn, decide_eq_false_iff_not]; omega
      rw [e1, List.drop_eq_nil_of_le (by omega)]; rfl
theorem rof_T {z : Int} {l : List Int} (hl : l.length ≤ 9223372036854775806) : f22M (l.length + 1) z l = some ⟨[.agg [.rw ⟨1, 0⟩], pB (rOk z l)], [], [roB (rOf z l)]⟩ := by
  show f22T (f22L0 (l.length + 1) (l.length + 1)) z l = _
  unfold f22T rOf rOk
  cases hz : (decide (z < 0) || decide (z > 4096)) with
  | true => rfl
  | false =>
    have hz' : ¬ z < 0 ∧ ¬ z > 4096 := by simpa using hz
    have e : (decide (0 ≤ z) && (decide (z ≤ z) && decide (1 * z.toNat ≤ 140737488355328))) = true := by
      simp only [Bool.and_eq_true, decide_eq_true_eq]; omega
    rw [e]
    refine (rof_loop hl (l.length + 1) (l.length + 1) 0 _ (Nat.zero_le _) (by omega) (by rw [List.length_replicate]; omega)).trans ?_
    show (bif ofB z l then _ else _) = _
    cases hz2 : ofB z l <;> rfl
theorem rof_ok : FnOk P C0 22 rOfS := by
  refine fn_okC ctx1 (show P.funcs[22]? = some f22f by kernel_rfl) (of_decide_eq_true (by kernel_rfl)) rOfS f22h (fun ds os lf hp => ?_)
  unfold rOfS at hp
  simp only at hp
  split at hp
  · rename_i z l
    simp only [Out.pick] at hp
    cases hc : Nat.ble l.length 9223372036854775806 with
    | false => rw [hc] at hp; cases hp
    | true =>
      rw [hc] at hp
      simp only [cond_true, Option.some.injEq] at hp
      subst hp
      exact ⟨l.length + 1, (f22_ev _ z l).trans (rof_T (Nat.le_of_ble_eq_true hc))⟩
  · cases hp
/-! ### With -/
def rTo (k : Int) (b t : Bool) : Bool := bif (k == 1 && t) || (k == 2 && !t) then false else bif k == 0 && t then true else b
def rWithL (k : Int) (bs ts : List Bool) : List Bool := (List.range bs.length).map fun p => rTo k (bs.getD p false) (rHasF ts (p : Int))
def rWithB (k : Int) (bs ts : List Bool) : Bool := (List.range bs.length).any fun p => !(rTo k (bs.getD p false) (rHasF ts (p : Int)) == bs.getD p false)
def rWithS : En.Spec := ⟨[0], fun ds os => match ds, os with
  | [.p (.agg [.rw ⟨0, 0⟩]), .p (.one (.d (.fz true) (.i .i64) k)), .p (.agg [.d (.fz false) (.l .b) ts])], [.ro true 0 e .b .z bs none] =>
    gB e <| .br (Nat.ble bs.length 4096 && Nat.ble ts.length 4096) (.leaf [pB (rWithB k bs ts)] [roB (rWithL k bs ts)] []) .fail
  | _, _ => .fail⟩
theorem rWith_len (k : Int) (bs ts : List Bool) : (rWithL k bs ts).length = bs.length := by simp [rWithL]
theorem with_loop {kd : Int} {bs ts : List Bool} (hb : bs.length ≤ 4096) (ht : ts.length ≤ 4096) : ∀ (m n k : Nat), k ≤ bs.length → bs.length - k < m →
    f24L0 n m kd ((List.range k).any fun p => !(rTo kd (bs.getD p false) (rHasF ts (p : Int)) == bs.getD p false)) (k : Int) ((rWithL kd bs ts).take k ++ bs.drop k) ts = some ⟨[pB (rWithB kd bs ts)], [roB (rWithL kd bs ts)], []⟩
  | 0, _, _, _, h => absurd h (Nat.not_lt_zero _)
  | m + 1, n, k, hk, hm => by
    show f24S0 (f24L0 n m) kd _ (k : Int) _ ts = _
    have hl := rWith_len kd bs ts
    have hcl := cut_len hl hk
    by_cases h0 : k < bs.length
    · have ih := with_loop (kd := kd) hb ht m n (k + 1) h0 (by omega)
      rw [← cut_set hl h0 (d := false) (map_get h0), any_succ fun p => !(rTo kd (bs.getD p false) (rHasF ts (p : Int)) == bs.getD p false)] at ih
      have hg := cut_get (d := false) hl h0
      generalize (rWithL kd bs ts).take k ++ bs.drop k = cur at *
      unfold f24S0
      have e1 : decide ((k : Int) < zn cur.length) = true := by simp only [zn, decide_eq_true_eq]; omega
      have e2 : inb (k : Int) cur.length = true := by simp only [inb, Bool.and_eq_true, decide_eq_true_eq]; omega
      have e3 : IntKind.i64.wrap ((k : Int) + 1) = ((k + 1 : Nat) : Int) := by rw [i64_wrap_in (by omega) (by omega)]; rfl
      simp only [Int.toNat_natCast, e1, e2, e3, hg, ble_of ht]
      rw [← ih]
      unfold rTo
      generalize (List.range k).any _ = flag
      cases (kd == 0) <;> cases (kd == 1) <;> cases (kd == 2) <;> cases rHasF ts (k : Int) <;> cases flag <;> rfl
    · have hke : k = bs.length := by omega
      subst hke
      rw [cut_all hl]
      unfold f24S0
      have e1 : decide ((bs.length : Int) < zn (rWithL kd bs ts).length) = false := by rw [hl]; simp [zn]
      rw [e1]; rfl
theorem with_ok : FnOk P C0 24 rWithS := by
  refine fn_okC (show CtxOk C13 from fun _ _ h => tbl_ok (l := l13) ⟨rhas_ok, trivial⟩ h) (show P.funcs[24]? = some f24f by kernel_rfl) (of_decide_eq_true (by kernel_rfl)) rWithS f24h (fun ds os lf hp => ?_)
  unfold rWithS at hp
  simp only at hp
  split at hp
  · rename_i k ts e bs
    obtain ⟨rfl, hq⟩ := gB_pick hp
    simp only [Out.pick] at hq
    cases hc : (Nat.ble bs.length 4096 && Nat.ble ts.length 4096) with
    | false => rw [hc] at hq; cases hq
    | true =>
      rw [hc] at hq
      simp only [cond_true, Option.some.injEq] at hq
      subst hq
      rw [Bool.and_eq_true] at hc
      have hb := Nat.le_of_ble_eq_true hc.1
      refine ⟨4097, (f24_ev 4097 bs ts k).trans ?_⟩
      exact with_loop hb (Nat.le_of_ble_eq_true hc.2) 4097 4097 0 (Nat.zero_le _) (by omega)
  · cases hp
/-! ### Items -/
def rItemsB (bs : List Bool) (m : Nat) : List Int := ((List.range m).filter fun (p : Nat) => bs.getD p false).map fun (p : Nat) => (p : Int)
def rItems (bs : List Bool) : List Int := rItemsB bs bs.length
def rItemsS : En.Spec := ⟨[], fun ds os => match ds, os with
  | [.p (.agg [.d (.fz false) (.l .b) bs])], [] => .br (Nat.ble bs.length 4096) (.leaf [.one (.rw ⟨1, 0⟩)] [] [roI (rItems bs)]) .fail
  | _, _ => .fail⟩
theorem rItemsB_len (bs : List Bool) (m : Nat) : (rItemsB bs m).length ≤ m := by
  unfold rItemsB
  rw [List.length_map]
  exact Nat.le_trans (List.length_filter_le ..) (by simp)
theorem rItemsB_succ (bs : List Bool) (m : Nat) : rItemsB bs (m + 1) = bif bs.getD m false then rItemsB bs m ++ [(m : Int)] else rItemsB bs m := by
  unfold rItemsB
  rw [List.range_succ, List.filter_append, List.map_append]
  cases h : bs.getD m false with
  | true => rw [List.filter_cons_of_pos (by simpa using h)]; rfl
  | false => rw [List.filter_cons_of_neg (by rw [h]; decide)]; simp
theorem ritems_loop {bs : List Bool} (hb : bs.length ≤ 4096) : ∀ (m n k : Nat), k ≤ bs.length → bs.length - k < m → f30L0 n m (k : Int) bs (rItemsB bs k) = some ⟨[.one (.rw ⟨1, 0⟩)], [], [roI (rItems bs)]⟩
  | 0, _, _, _, h => absurd h (Nat.not_lt_zero _)
  | m + 1, n, k, hk, hm => by
    show f30S0 (f30L0 n m) (k : Int) bs _ = _
    by_cases h0 : k < bs.length
    · have ih := ritems_loop hb m n (k + 1) h0 (by omega)
      rw [rItemsB_succ] at ih
      have hlen := rItemsB_len bs k
      unfold f30S0
      have e1 : decide ((k : Int) < zn bs.length) = true := by simp only [zn, decide_eq_true_eq]; omega
      have e2 : inb (k : Int) bs.length = true := by simp only [inb, Bool.and_eq_true, decide_eq_true_eq]; omega
      have e3 : IntKind.i64.wrap ((k : Int) + 1) = ((k + 1 : Nat) : Int) := by rw [i64_wrap_in (by omega) (by omega)]; rfl
      have e4 : decide (((rItemsB bs k).length + [(k : Int)].length) * 8 ≤ 140737488355328) = true := by
        simp only [List.length_singleton, decide_eq_true_eq]; omega
      simp only [Int.toNat_natCast, e1, e2, e3, e4]
      rw [← ih]
      cases bs.getD k false <;> rfl
    · have hke : k = bs.length := by omega
      subst hke
      unfold f30S0
      have e1 : decide ((bs.length : Int) < zn bs.length) = false := by simp [zn]
      rw [e1]; rfl
theorem ritems_ok : FnOk P C0 30 rItemsS := by
  refine fn_okC ctx1 (show P.funcs[30]? = some f30f by kernel_rfl) (of_decide_eq_true (by kernel_rfl)) rItemsS f30h (fun ds os lf hp => ?_)
  unfold rItemsS at hp
  simp only at hp
  split at hp
  · rename_i bs
    simp only [Out.pick] at hp
    cases hc : Nat.ble bs.length 4096 with
    | false => rw [hc] at hp; cases hp
    | true =>
      rw [hc] at hp
      simp only [cond_true, Option.some.injEq] at hp
      subst hp
      have hb := Nat.le_of_ble_eq_true hc
      refine ⟨4097, (f30_ev 4097 bs).trans ?_⟩
      exact ritems_loop hb 4097 4097 0 (Nat.zero_le _) (by omega)
  · cases hp
/-! ### turn with no second set -/
theorem turn_step_u {z : Int} {ws cur : List Int} {g : f34uG0} {flag : Bool} {k : Nat} (hz : 0 ≤ z) (hlen : ws.length ≤ 64) (hk : k < ws.length) (hcl : cur.length = ws.length) (hck : cur.getD k 0 = ws.getD k 0) :
    f34uS0 g flag (ws.length : Int) (k : Int) z cur = g (flag || tw .or z ws [] k != ws.getD k 0) (ws.length : Int) ((k + 1 : Nat) : Int) z (cur.set k (tw .or z ws [] k)) := by
  have e1 : decide ((k : Int) < (ws.length : Int)) = true := by simp only [decide_eq_true_eq]; omega
  have e2 : inb (k : Int) cur.length = true := by simp only [inb, Bool.and_eq_true, decide_eq_true_eq]; omega
  have e3 : ∀ v, inb (k : Int) (cur.set k v).length = true := fun v => by rw [List.length_set]; exact e2
  have e4 : IntKind.i64.wrap (zn cur.length - 1) = (ws.length : Int) - 1 := by
    unfold zn; rw [hcl, i64_wrap_in (by omega) (by omega)]
  have e5 : decide (0 ≤ z.tmod 64) = true := by rw [tmod_nat hz, decide_eq_true_eq]; omega
  have e6 : ∀ v, (cur.set k v).getD k 0 = v := fun v => by
    simp [List.getD_eq_getElem?_getD, hcl, hk]
  have e7 : IntKind.i64.wrap ((k : Int) + 1) = ((k + 1 : Nat) : Int) := by rw [i64_wrap_in (by omega) (by omega)]; rfl
  unfold f34uS0
  simp only [Int.toNat_natCast, e1, e2, e3, e4, e5, e6, e7, hck]
  unfold tw mkW
  cases ((k : Int) == (ws.length : Int) - 1 && z.tmod 64 != 0) <;> cases flag <;> cases ((k : Int) == (ws.length : Int) - 1) <;> rfl
theorem turn_loop_u {z : Int} {ws : List Int} (hz : 0 ≤ z) (hlen : ws.length ≤ 64) : ∀ (m n k : Nat), k ≤ ws.length → ws.length - k < m →
    f34uL0 n m ((List.range k).any fun j => tw .or z ws [] j != ws.getD j 0) (ws.length : Int) (k : Int) z ((turnW .or z ws []).take k ++ ws.drop k) = some ⟨[pB (turnB .or z ws [])], [vaS ⟨0, 1⟩ z, roW (turnW .or z ws [])], []⟩
  | 0, _, _, _, h => absurd h (Nat.not_lt_zero _)
  | m + 1, n, k, hk, hm => by
    show f34uS0 (f34uL0 n m) _ (ws.length : Int) (k : Int) z _ = _
    by_cases h0 : k < ws.length
    · rw [turn_step_u hz hlen h0 (by rw [List.length_append, List.length_take, List.length_drop, turnW_len]; omega) (S1.cur_get h0), S1.cur_set h0, ← any_succ fun j => tw .or z ws [] j != ws.getD j 0]
      exact turn_loop_u hz hlen m n (k + 1) h0 (by omega)
    · have hke : k = ws.length := by omega
      subst hke
      unfold f34uS0
      have e1 : decide ((ws.length : Int) < (ws.length : Int)) = false := by simp
      have e2 : (turnW .or z ws []).take ws.length = turnW .or z ws [] := by
        have := turnW_len .or z ws []
        rw [← this, List.take_length]
      rw [e1, List.drop_length, List.append_nil, e2]
      rfl
theorem turn_T_u {z : Int} {ws : List Int} (hz : 0 ≤ z) (hlen : ws.length ≤ 64) : f34uM 65 z ws = some ⟨[pB (turnB .or z ws [])], [vaS ⟨0, 1⟩ z, roW (turnW .or z ws [])], []⟩ :=
  turn_loop_u hz hlen 65 65 0 (Nat.zero_le _) (by omega)
theorem turn_step_v {z : Int} {ws cur : List Int} {g : f34vG0} {flag : Bool} {k : Nat} (hz : 0 ≤ z) (hlen : ws.length ≤ 64) (hk : k < ws.length) (hcl : cur.length = ws.length) (hck : cur.getD k 0 = ws.getD k 0) :
    f34vS0 g flag (ws.length : Int) (k : Int) z cur = g (flag || tw .andNot z ws [] k != ws.getD k 0) (ws.length : Int) ((k + 1 : Nat) : Int) z (cur.set k (tw .andNot z ws [] k)) := by
  have e1 : decide ((k : Int) < (ws.length : Int)) = true := by simp only [decide_eq_true_eq]; omega
  have e2 : inb (k : Int) cur.length = true := by simp only [inb, Bool.and_eq_true, decide_eq_true_eq]; omega
  have e3 : ∀ v, inb (k : Int) (cur.set k v).length = true := fun v => by rw [List.length_set]; exact e2
  have e4 : IntKind.i64.wrap (zn cur.length - 1) = (ws.length : Int) - 1 := by
    unfold zn; rw [hcl, i64_wrap_in (by omega) (by omega)]
  have e5 : decide (0 ≤ z.tmod 64) = true := by rw [tmod_nat hz, decide_eq_true_eq]; omega
  have e6 : ∀ v, (cur.set k v).getD k 0 = v := fun v => by
    simp [List.getD_eq_getElem?_getD, hcl, hk]
  have e7 : IntKind.i64.wrap ((k : Int) + 1) = ((k + 1 : Nat) : Int) := by rw [i64_wrap_in (by omega) (by omega)]; rfl
  unfold f34vS0
  simp only [Int.toNat_natCast, e1, e2, e3, e4, e5, e6, e7, hck]
  unfold tw mkW
  cases ((k : Int) == (ws.length : Int) - 1 && z.tmod 64 != 0) <;> cases flag <;> cases ((k : Int) == (ws.length : Int) - 1) <;> rfl
theorem turn_loop_v {z : Int} {ws : List Int} (hz : 0 ≤ z) (hlen : ws.length ≤ 64) : ∀ (m n k : Nat), k ≤ ws.length → ws.length - k < m →
    f34vL0 n m ((List.range k).any fun j => tw .andNot z ws [] j != ws.getD j 0) (ws.length : Int) (k : Int) z ((turnW .andNot z ws []).take k ++ ws.drop k) = some ⟨[pB (turnB .andNot z ws [])], [vaS ⟨0, 1⟩ z, roW (turnW .andNot z ws [])], []⟩
  | 0, _, _, _, h => absurd h (Nat.not_lt_zero _)
  | m + 1, n, k, hk, hm => by
    show f34vS0 (f34vL0 n m) _ (ws.length : Int) (k : Int) z _ = _
    by_cases h0 : k < ws.length
    · rw [turn_step_v hz hlen h0 (by rw [List.length_append, List.length_take, List.length_drop, turnW_len]; omega) (S1.cur_get h0), S1.cur_set h0, ← any_succ fun j => tw .andNot z ws [] j != ws.getD j 0]
      exact turn_loop_v hz hlen m n (k + 1) h0 (by omega)
    · have hke : k = ws.length := by omega
      subst hke
      unfold f34vS0
      have e1 : decide ((ws.length : Int) < (ws.length : Int)) = false := by simp
      have e2 : (turnW .andNot z ws []).take ws.length = turnW .andNot z ws [] := by
        have := turnW_len .andNot z ws []
        rw [← this, List.take_length]
      rw [e1, List.drop_length, List.append_nil, e2]
      rfl
theorem turn_T_v {z : Int} {ws : List Int} (hz : 0 ≤ z) (hlen : ws.length ≤ 64) : f34vM 65 z ws = some ⟨[pB (turnB .andNot z ws [])], [vaS ⟨0, 1⟩ z, roW (turnW .andNot z ws [])], []⟩ :=
  turn_loop_v hz hlen 65 65 0 (Nat.zero_le _) (by omega)
theorem turn_step_w {z : Int} {ws cur : List Int} {g : f34wG0} {flag : Bool} {k : Nat} (hz : 0 ≤ z) (hlen : ws.length ≤ 64) (hk : k < ws.length) (hcl : cur.length = ws.length) (hck : cur.getD k 0 = ws.getD k 0) :
    f34wS0 g flag (ws.length : Int) (k : Int) z cur = g (flag || tw .and z ws [] k != ws.getD k 0) (ws.length : Int) ((k + 1 : Nat) : Int) z (cur.set k (tw .and z ws [] k)) := by
  have e1 : decide ((k : Int) < (ws.length : Int)) = true := by simp only [decide_eq_true_eq]; omega
  have e2 : inb (k : Int) cur.length = true := by simp only [inb, Bool.and_eq_true, decide_eq_true_eq]; omega
  have e3 : ∀ v, inb (k : Int) (cur.set k v).length = true := fun v => by rw [List.length_set]; exact e2
  have e4 : IntKind.i64.wrap (zn cur.length - 1) = (ws.length : Int) - 1 := by
    unfold zn; rw [hcl, i64_wrap_in (by omega) (by omega)]
  have e5 : decide (0 ≤ z.tmod 64) = true := by rw [tmod_nat hz, decide_eq_true_eq]; omega
  have e6 : ∀ v, (cur.set k v).getD k 0 = v := fun v => by
    simp [List.getD_eq_getElem?_getD, hcl, hk]
  have e7 : IntKind.i64.wrap ((k : Int) + 1) = ((k + 1 : Nat) : Int) := by rw [i64_wrap_in (by omega) (by omega)]; rfl
  unfold f34wS0
  simp only [Int.toNat_natCast, e1, e2, e3, e4, e5, e6, e7, hck]
  unfold tw mkW
  cases ((k : Int) == (ws.length : Int) - 1 && z.tmod 64 != 0) <;> cases flag <;> cases ((k : Int) == (ws.length : Int) - 1) <;> rfl
theorem turn_loop_w {z : Int} {ws : List Int} (hz : 0 ≤ z) (hlen : ws.length ≤ 64) : ∀ (m n k : Nat), k ≤ ws.length → ws.length - k < m →
    f34wL0 n m ((List.range k).any fun j => tw .and z ws [] j != ws.getD j 0) (ws.length : Int) (k : Int) z ((turnW .and z ws []).take k ++ ws.drop k) = some ⟨[pB (turnB .and z ws [])], [vaS ⟨0, 1⟩ z, roW (turnW .and z ws [])], []⟩
  | 0, _, _, _, h => absurd h (Nat.not_lt_zero _)
  | m + 1, n, k, hk, hm => by
    show f34wS0 (f34wL0 n m) _ (ws.length : Int) (k : Int) z _ = _
    by_cases h0 : k < ws.length
    · rw [turn_step_w hz hlen h0 (by rw [List.length_append, List.length_take, List.length_drop, turnW_len]; omega) (S1.cur_get h0), S1.cur_set h0, ← any_succ fun j => tw .and z ws [] j != ws.getD j 0]
      exact turn_loop_w hz hlen m n (k + 1) h0 (by omega)
    · have hke : k = ws.length := by omega
      subst hke
      unfold f34wS0
      have e1 : decide ((ws.length : Int) < (ws.length : Int)) = false := by simp
      have e2 : (turnW .and z ws []).take ws.length = turnW .and z ws [] := by
        have := turnW_len .and z ws []
        rw [← this, List.take_length]
      rw [e1, List.drop_length, List.append_nil, e2]
      rfl
theorem turn_T_w {z : Int} {ws : List Int} (hz : 0 ≤ z) (hlen : ws.length ≤ 64) : f34wM 65 z ws = some ⟨[pB (turnB .and z ws [])], [vaS ⟨0, 1⟩ z, roW (turnW .and z ws [])], []⟩ :=
  turn_loop_w hz hlen 65 65 0 (Nat.zero_le _) (by omega)
def turn3S : En.Spec := ⟨[], fun ds os => match ds, os with
  | [.p (.one (.pv ⟨0, 0⟩ 0)), .p (.one .np), .p (.one (.fn g []))], [.va [.d (.fz true) (.i .i64) n, .rw ⟨0, 1⟩], .ro true 0 e (.i .u64) .z ws none] =>
    gS e <| match opOf g with
      | some op => .br (okS n ws) (.leaf [pB (turnB op n ws [])] [vaS ⟨0, 1⟩ n, roW (turnW op n ws [])] []) .fail
      | none => .fail
  | _, _ => .fail⟩
theorem turn3_ok : FnOk P C0 34 turn3S := by
  refine fn_okC ctx7 (show P.funcs[34]? = some f34uf by kernel_rfl) (of_decide_eq_true (by kernel_rfl)) turn3S f34uh (fun ds os lf hp => ?_)
  unfold turn3S at hp
  simp only at hp
  split at hp
  · rename_i g n e ws
    obtain ⟨rfl, hq⟩ := gS_pick hp
    cases ho : opOf g with
    | none => rw [ho] at hq; cases hq
    | some op =>
      rw [ho] at hq
      simp only [Out.pick] at hq
      cases hc : okS n ws with
      | false => rw [hc] at hq; cases hq
      | true =>
        rw [hc] at hq
        simp only [cond_true, Option.some.injEq] at hq
        subst hq
        have hok := okS_iff.1 hc
        have hl : ws.length ≤ 64 := by have := hok.len; have := hok.hi; omega
        rcases opOf_some ho with ⟨rfl, rfl⟩ | ⟨rfl, rfl⟩ | ⟨rfl, rfl⟩
        · exact ⟨65, (f34u_ev 65 n ws).trans (turn_T_u hok.lo hl)⟩
        · exact ⟨65, (f34v_ev 65 n ws).trans (turn_T_v hok.lo hl)⟩
        · exact ⟨65, (f34w_ev 65 n ws).trans (turn_T_w hok.lo hl)⟩
  · cases hp
end Go.S1
