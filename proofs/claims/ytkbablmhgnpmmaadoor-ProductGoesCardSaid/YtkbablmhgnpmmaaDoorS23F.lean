/-
  Seat 23: the contracts of Same, To, BinarySearch, at, number and the document's Right of all.
-/
import Derived.Test.YtkbablmhgnpmmaaDoorS23G4
open Go Go.En
namespace Go.S23
theorem gBool {b : Bool} {o : Out} {lf : Lf} (h : (bif b then o else .fail).pick = some lf) : b = true ∧ o.pick = some lf := by
  cases b with
  | false => cases h
  | true => exact ⟨rfl, h⟩
theorem nan58_T (x : Int) : f58T x = some ⟨[pB false], [], []⟩ := by
  unfold f58T
  simp only [bne_self_eq_false]; rfl
theorem nan51_T (x : Int) : f51T x = some ⟨[pB false], [], []⟩ := by
  unfold f51T
  simp only [bne_self_eq_false]; rfl
theorem nan58_ok : FnOk P C0 58 nanS := by
  refine fn_okC ctx1 (show P.funcs[58]? = some f58f by kernel_rfl) (of_decide_eq_true (by kernel_rfl)) (nanS) f58h (fun ds os lf hp => ?_)
  unfold nanS at hp
  simp only at hp
  split at hp
  · rename_i x
    simp only [Out.pick, Option.some.injEq] at hp
    subst hp
    exact ⟨0, (f58_ev 0 x).trans (nan58_T x)⟩
  · cases hp
theorem nan51_ok : FnOk P C0 51 nanS := by
  refine fn_okC ctx1 (show P.funcs[51]? = some f51f by kernel_rfl) (of_decide_eq_true (by kernel_rfl)) (nanS) f51h (fun ds os lf hp => ?_)
  unfold nanS at hp
  simp only at hp
  split at hp
  · rename_i x
    simp only [Out.pick, Option.some.injEq] at hp
    subst hp
    exact ⟨0, (f51_ev 0 x).trans (nan51_T x)⟩
  · cases hp
theorem ctx20 : CtxOk C20 := fun _ _ h => tbl_ok (l := [(58, nanS)]) ⟨nan58_ok, trivial⟩ h
theorem less_ok : FnOk P C0 50 lessS := by
  refine fn_okC ctx20 (show P.funcs[50]? = some f50f by kernel_rfl) (of_decide_eq_true (by kernel_rfl)) (lessS) f50h (fun ds os lf hp => ?_)
  unfold lessS at hp
  simp only at hp
  split at hp
  · rename_i x y
    simp only [Out.pick, Option.some.injEq] at hp
    subst hp
    exact ⟨0, f50_ev 0 x y⟩
  · cases hp
theorem ctx21 : CtxOk C21 := fun _ _ h => tbl_ok (l := [(50, lessS), (51, nanS)]) ⟨less_ok, nan51_ok, trivial⟩ h
/-! ### BinarySearch -/
def bsL (l : List Int) (x : Int) : Nat → Nat → Nat → Nat
  | 0, i, _ => i
  | f + 1, i, j => if i < j then (if l.getD ((i + j) / 2) 0 < x then bsL l x f ((i + j) / 2 + 1) j else bsL l x f i ((i + j) / 2)) else i
def bsI (l : List Int) (x : Int) : Nat := bsL l x l.length 0 l.length
def bsB (l : List Int) (x : Int) : Bool := Nat.blt (bsI l x) l.length && (l.getD (bsI l x) 0 == x)
def bsS : En.Spec := ⟨[], fun ds os => match ds, os with
  | [.p (.one (.d (.fz false) (.l (.i .i64)) l)), .p (.one (.d (.fz true) (.i .i64) x))], [] => .br (Nat.ble l.length 17592186044416) (.leaf [pI ((bsI l x : Nat) : Int), pB (bsB l x)] [] []) .fail
  | _, _ => .fail⟩
theorem half_k {i j : Nat} (h : i + j ≤ 9223372036854775807) : IntKind.i64.wrap (shrF IntKind.u64 (IntKind.u64.wrap (IntKind.i64.wrap ((i : Int) + (j : Int)))) 1) = (((i + j) / 2 : Nat) : Int) := by
  rw [i64_wrap_in (n := (i : Int) + (j : Int)) (by omega) (by omega), u64_wrap_in (by omega) (by omega)]
  have e : shrF IntKind.u64 ((i : Int) + (j : Int)) 1 = ((i : Int) + (j : Int)) / 2 := by
    unfold shrF
    show ((i : Int) + (j : Int)).fdiv (2 ^ 1) = _
    rw [Int.fdiv_eq_ediv_of_nonneg _ (by omega)]; rfl
  rw [e, i64_wrap_in (by omega) (by omega)]; omega
theorem bs_loop {l : List Int} (x : Int) (hl : l.length ≤ 17592186044416) : ∀ (m n f i j : Nat), i ≤ j → j ≤ l.length → j - i < m → j - i ≤ f →
    f34L0 n m l x (zn l.length) (i : Int) (j : Int) = some ⟨[pI ((bsL l x f i j : Nat) : Int), pB (Nat.blt (bsL l x f i j) l.length && (l.getD (bsL l x f i j) 0 == x))], [], []⟩
  | 0, _, _, _, _, _, _, h, _ => absurd h (Nat.not_lt_zero _)
  | m + 1, n, f, i, j, hij, hj, hm, hf => by
    show f34S0 (f34L0 n m) l x (zn l.length) (i : Int) (j : Int) = _
    unfold f34S0
    by_cases h0 : i < j
    · have e0 : decide ((i : Int) < (j : Int)) = true := by rw [decide_eq_true_eq]; omega
      obtain ⟨f, rfl⟩ : ∃ g, f = g + 1 := ⟨f - 1, by omega⟩
      have hh : (i + j) / 2 < l.length := by omega
      rw [e0, half_k (by omega), inb_k hh, Int.toNat_natCast]
      have e2 : IntKind.i64.wrap ((((i + j) / 2 : Nat) : Int) + 1) = (((i + j) / 2 + 1 : Nat) : Int) := wr_k (by omega)
      rw [e2]
      by_cases h1 : l.getD ((i + j) / 2) 0 < x
      · have e3 : bsL l x (f + 1) i j = bsL l x f ((i + j) / 2 + 1) j := by rw [bsL, if_pos h0, if_pos h1]
        rw [decide_eq_true h1, e3]
        exact bs_loop x hl m n f ((i + j) / 2 + 1) j (by omega) hj (by omega) (by omega)
      · have e3 : bsL l x (f + 1) i j = bsL l x f i ((i + j) / 2) := by rw [bsL, if_pos h0, if_neg h1]
        rw [decide_eq_false h1, e3]
        exact bs_loop x hl m n f i ((i + j) / 2) (by omega) (by omega) (by omega) (by omega)
    · have e0 : decide ((i : Int) < (j : Int)) = false := by rw [decide_eq_false_iff_not]; omega
      have e3 : bsL l x f i j = i := by
        cases f with
        | zero => rfl
        | succ f => rw [bsL, if_neg h0]
      rw [e0, e3, Int.toNat_natCast]
      by_cases h1 : i < l.length
      · have e4 : Nat.blt i l.length = true := ble_of h1
        rw [lt_k h1, inb_k h1, e4]
        cases (l.getD i 0 == x) <;> rfl
      · have e4 : Nat.blt i l.length = false := by
          cases hb : Nat.blt i l.length with
          | false => rfl
          | true => exact absurd (of_ble hb) h1
        rw [nlt_k h1, e4]; rfl
theorem bs_ok : FnOk P C0 34 bsS := by
  refine fn_okC ctx21 (show P.funcs[34]? = some f34f by kernel_rfl) (of_decide_eq_true (by kernel_rfl)) (bsS) f34h (fun ds os lf hp => ?_)
  unfold bsS at hp
  simp only at hp
  split at hp
  · rename_i l x
    simp only [Out.pick] at hp
    cases hc0 : Nat.ble (List.length l) 17592186044416 with
    | false => rw [hc0] at hp; cases hp
    | true =>
      rw [hc0] at hp
      simp only [cond_true] at hp
      simp only [Option.some.injEq] at hp
      subst hp
      exact ⟨l.length + 1, (f34_ev _ l x).trans (bs_loop x (of_ble hc0) _ _ l.length 0 l.length (Nat.zero_le _) (Nat.le_refl _) (Nat.lt_succ_self _) (Nat.le_refl _))⟩
  · cases hp
/-! ### One -/
def oneCh : List (List ChV) := [[({ data := #[] }, [(0, 1, ())], ())]]
def oneNm : List ByteArray := [{ data := #[97] }]
def oneS : En.Spec := ⟨[], fun ds os => match ds, os with
  | [], [] => .leaf [.agg [.d (.fz true) (.i .i64) 0, .rw ⟨1, 0⟩, .rw ⟨1, 1⟩, .rw ⟨1, 2⟩]] [] [roR oneCh, roNm oneNm, roN [[0]]]
  | _, _ => .fail⟩
theorem one_ok : FnOk P C0 25 oneS := by
  refine fn_okC ctx1 (show P.funcs[25]? = some f25f by kernel_rfl) (of_decide_eq_true (by kernel_rfl)) (oneS) f25h (fun ds os lf hp => ?_)
  unfold oneS at hp
  simp only at hp
  split at hp
  · skip
    simp only [Out.pick, Option.some.injEq] at hp
    subst hp
    exact ⟨0, f25_ev 0⟩
  · cases hp
/-! ### number -/
def getK (m : List KyV) (s q : Int) : Option Int := mapGet kySh (.i .i64) (s, q, ()) m
/-- the number of a pair; 0: it isn't there -/
def getN (s q : Int) : List KyV → Int
  | [] => 0
  | e :: m => bif keyEq kySh (s, q, ()) e.1 then e.2 else getN s q m
def hasK (s q : Int) : List KyV → Bool
  | [] => false
  | e :: m => keyEq kySh (s, q, ()) e.1 || hasK s q m
theorem getN_eq (s q : Int) : ∀ m, getN s q m = (getK m s q).getD 0
  | [] => rfl
  | e :: m => by
    show (bif keyEq kySh (s, q, ()) e.1 then e.2 else getN s q m) = (bif keyEq kySh (s, q, ()) e.1 then some e.2 else getK m s q : Option Int).getD 0
    rw [getN_eq s q m]
    cases keyEq kySh (s, q, ()) e.1 <;> rfl
theorem hasK_eq (s q : Int) : ∀ m, hasK s q m = (getK m s q).isSome
  | [] => rfl
  | e :: m => by
    show (keyEq kySh (s, q, ()) e.1 || hasK s q m) = (bif keyEq kySh (s, q, ()) e.1 then some e.2 else getK m s q : Option Int).isSome
    rw [hasK_eq s q m]
    cases keyEq kySh (s, q, ()) e.1 <;> rfl
def putP (m : List KyV) (s q k : Int) : List KyV := mapSet kySh (.i .i64) (s, q, ()) k m
def gE7 (e1 e2 e3 e4 e5 e6 e7 : Nat) : Bool := e1.beq 59 && (e2.beq 62 && (e3.beq 67 && (e4.beq 27 && (e5.beq 3 && (e6.beq 3 && e7.beq 3)))))
theorem gE7_eq {e1 e2 e3 e4 e5 e6 e7 : Nat} (h : gE7 e1 e2 e3 e4 e5 e6 e7 = true) : e1 = 59 ∧ e2 = 62 ∧ e3 = 67 ∧ e4 = 27 ∧ e5 = 3 ∧ e6 = 3 ∧ e7 = 3 := by
  unfold gE7 at h
  simp only [Bool.and_eq_true, Nat.beq_eq] at h
  exact ⟨h.1, h.2.1, h.2.2.1, h.2.2.2.1, h.2.2.2.2.1, h.2.2.2.2.2.1, h.2.2.2.2.2.2⟩
def ll6 (S Q : List Int) : Bool := Nat.ble S.length 1000000 && Nat.ble Q.length 1000000
def nmbS : En.Spec := ⟨[], fun ds os => match ds, os with
  | [.p (.one (.pv ⟨0, 0⟩ 0)), .p (.agg [.d (.fz true) (.i .i64) s, .d (.fz true) (.i .i64) q])],
    [.va [.d (.fz true) (.i .i64) i, .rw ⟨0, 1⟩, .nl, .rw ⟨0, 2⟩, .rw ⟨0, 3⟩, .rw ⟨0, 4⟩, .d (.fz true) (.i .i64) lim, .mp ⟨0, 5⟩, .d (.fz true) .b ov],
     .ro true 0 e1 (.l (.p .s (.p (.l (.p (.i .i64) (.p (.i .i64) .u))) .u))) (.l e2 (.p .z (.p (.l e3 .z) .z))) ch none, .ro true 0 e4 (.l (.i .i64)) (.l e5 .z) ho none,
     .ro true 0 e6 (.i .i64) .z S none, .ro true 0 e7 (.i .i64) .z Q none, .ma (.p (.i .i64) (.p (.i .i64) .u)) (.i .i64) m] =>
    bif gE7 e1 e2 e3 e4 e5 e6 e7 then .br (ll6 S Q)
      (.br (hasK s q m) (.leaf [pI (getN s q m)] [vaK i lim ov ⟨0, 1⟩ ⟨0, 2⟩ ⟨0, 3⟩ ⟨0, 4⟩, roC ch, roN ho, roI S, roI Q, maK m] [])
        (.br (decide (zn S.length ≥ lim)) (.leaf [pI 0] [vaK i lim true ⟨0, 1⟩ ⟨0, 2⟩ ⟨0, 3⟩ ⟨0, 4⟩, roC ch, roN ho, roI S, roI Q, maK m] [])
          (.leaf [pI (zn S.length)] [vaK i lim ov ⟨0, 1⟩ ⟨0, 2⟩ ⟨1, 0⟩ ⟨1, 1⟩, roC ch, roN ho, .gone, .gone, maK (putP m s q (zn S.length))] [roI (S ++ [s]), roI (Q ++ [q])]))) .fail
      else .fail
  | _, _ => .fail⟩
theorem optS (o : Option (Val (Sh.i .i64))) : (Option.rec (motive := fun _ => Bool) false (fun _ => true) o) = o.isSome := by cases o <;> rfl
theorem optI (o : Option (Val (Sh.i .i64))) : (Option.rec (motive := fun _ => Int) 0 (fun val => val) o) = o.getD 0 := by cases o <;> rfl
theorem nmb_ok : FnOk P C0 29 nmbS := by
  refine fn_okC ctx1 (show P.funcs[29]? = some f29f by kernel_rfl) (of_decide_eq_true (by kernel_rfl)) (nmbS) f29h (fun ds os lf hp => ?_)
  unfold nmbS at hp
  simp only at hp
  split at hp
  · rename_i s q i lim ov e1 e2 e3 ch e4 e5 ho e6 S e7 Q m
    obtain ⟨he, hp⟩ := gBool hp
    obtain ⟨rfl, rfl, rfl, rfl, rfl, rfl, rfl⟩ := gE7_eq he
    change (bif ll6 S Q then _ else _) = _ at hp
    cases hll : ll6 S Q with
    | false => rw [hll] at hp; cases hp
    | true =>
      rw [hll] at hp
      simp only [cond_true] at hp
      unfold ll6 at hll
      rw [Bool.and_eq_true] at hll
      have h1 := of_ble hll.1
      have h2 := of_ble hll.2
      refine ⟨0, (f29_ev 0 i lim ov ch ho S Q m s q).trans ?_⟩
      show f29T i lim ov ch ho S Q m s q = some lf
      unfold f29T
      rw [optS, optI]
      rw [← hp]
      have e1 : decide ((S.length + [s].length) * 8 ≤ 140737488355328) = true := by rw [decide_eq_true_eq, List.length_singleton]; omega
      have e2 : decide ((Q.length + [q].length) * 8 ≤ 140737488355328) = true := by rw [decide_eq_true_eq, List.length_singleton]; omega
      rw [e1, e2]
      show _ = (bif hasK s q m then Out.pick (.leaf [pI (getN s q m)] _ _) else (bif decide (zn S.length ≥ lim) then _ else _))
      rw [hasK_eq, getN_eq]
      show (bif (getK m s q).isSome then _ else (bif decide (zn S.length ≥ lim) then _ else _)) = _
      cases (getK m s q).isSome <;> cases decide (zn S.length ≥ lim) <;> rfl
  · cases hp
/-! ### at -/
def atF (s q : Int) : Nat → List Int → List Int → Int
  | k, x :: S, y :: Q => bif x == s && y == q then (k : Int) else atF s q (k + 1) S Q
  | _, _, _ => -1
def atS : En.Spec := ⟨[], fun ds os => match ds, os with
  | [.p (.agg [.d (.fz true) (.i .i64) _i, .d (.fz false) (.l (.l (.p .s (.p (.l (.p (.i .i64) (.p (.i .i64) .u))) .u)))) _ch, .d (.fz false) (.l .s) _nm, .d (.fz false) (.l (.l (.i .i64))) _ho, .d (.fz false) (.l (.i .i64)) S, .d (.fz false) (.l (.i .i64)) Q]), .p (.one (.d (.fz true) (.i .i64) s)), .p (.one (.d (.fz true) (.i .i64) q))], [] =>
    .br (big S.length && Nat.beq S.length Q.length) (.leaf [pI (atF s q 0 S Q)] [] []) .fail
  | _, _ => .fail⟩
theorem at_loop (i : Int) (ch : List (List ChV)) (nm : List ByteArray) (ho : List (List Int)) {S Q : List Int} (s q : Int) (hl : S.length ≤ 9223372036854775807) (hq : S.length = Q.length) : ∀ (m n k : Nat), k ≤ S.length → S.length - k < m →
    f30L0 n m s q (k : Int) i ch nm ho S Q = some ⟨[pI (atF s q k (S.drop k) (Q.drop k))], [], []⟩
  | 0, _, _, _, h => absurd h (Nat.not_lt_zero _)
  | m + 1, n, k, hk, hm => by
    show f30S0 (f30L0 n m) s q (k : Int) i ch nm ho S Q = _
    unfold f30S0
    by_cases h0 : k < S.length
    · have h1 : k < Q.length := by omega
      rw [lt_k h0, inb_k h0, inb_k h1, wr_k (by omega), Int.toNat_natCast, at_loop i ch nm ho s q hl hq m n (k + 1) h0 (by omega), drop_get h0 0, drop_get h1 0]
      show _ = some (Lf.mk [pI (bif S.getD k 0 == s && Q.getD k 0 == q then (k : Int) else atF s q (k + 1) (S.drop (k + 1)) (Q.drop (k + 1)))] [] [])
      cases (S.getD k 0 == s) <;> cases (Q.getD k 0 == q) <;> rfl
    · rw [nlt_k h0, List.drop_eq_nil_of_le (by omega)]; rfl
theorem at_ok : FnOk P C0 30 atS := by
  refine fn_okC ctx1 (show P.funcs[30]? = some f30f by kernel_rfl) (of_decide_eq_true (by kernel_rfl)) (atS) f30h (fun ds os lf hp => ?_)
  unfold atS at hp
  simp only at hp
  split at hp
  · rename_i i ch nm ho S Q s q
    simp only [Out.pick] at hp
    cases hc0 : (big (List.length S) && Nat.beq (List.length S) (List.length Q)) with
    | false => rw [hc0] at hp; cases hp
    | true =>
      rw [hc0] at hp
      simp only [cond_true] at hp
      simp only [Option.some.injEq] at hp
      subst hp
      rw [Bool.and_eq_true] at hc0
      exact ⟨S.length + 1, (f30_ev _ i ch nm ho S Q s q).trans (at_loop i ch nm ho s q (of_ble hc0.1) (Nat.eq_of_beq_eq_true hc0.2) _ _ 0 (Nat.zero_le _) (Nat.lt_succ_self _))⟩
  · cases hp
/-! ### the document's Right of all -/
theorem ctx22 : CtxOk C22 := fun _ _ h => tbl_ok (l := [(21, rightS), (32, rightMS)]) ⟨right_ok, rightM_ok, trivial⟩ h
def allOk (i : Int) (ch : List (List ChV)) (nm : List ByteArray) (ho : List (List Int)) (le : List Int) (p i2 : Int) (nx : List (List Int)) (ps : List PairV) : Bool :=
  mdOk i ch nm ho && (drOk p i2 nx ps && (zn le.length == zn ch.length && le.all (inF (zn (nx.getD 0 []).length))))
def allG (ch : List (List ChV)) (nm : List ByteArray) (ho : List (List Int)) (le : List Int) (nx : List (List Int)) (ps : List PairV) : Bool := mdG ch nm ho && (drG nx ps && big le.length)
def rightAS : En.Spec := ⟨[], fun ds os => match ds, os with
  | [.p (.agg [.d (.fz true) (.i .i64) i, .d (.fz false) (.l (.l (.p .s (.p (.l (.p (.i .i64) (.p (.i .i64) .u))) .u)))) ch, .d (.fz false) (.l .s) nm, .d (.fz false) (.l (.l (.i .i64))) ho]), .p (.one (.d (.fz false) (.l (.i .i64)) le)),
     .p (.agg [.d (.fz true) (.i .i64) p, .d (.fz true) (.i .i64) i2, .d (.fz false) (.l (.l (.i .i64))) nx, .d (.fz false) (.l (.p (.l (.i .i64)) (.p (.l (.i .i64)) .u))) ps])], [] =>
    .br (allG ch nm ho le nx ps) (.leaf [pB (allOk i ch nm ho le p i2 nx ps)] [] []) .fail
  | _, _ => .fail⟩
theorem rightA_loop {le : List Int} (p i2 : Int) {nx : List (List Int)} (ps : List PairV) (hl : le.length ≤ 9223372036854775807) (hn : 0 < nx.length) : ∀ (m n k : Nat), k ≤ le.length → le.length - k < m →
    f19L0 n m le (k : Int) p i2 nx ps = some ⟨[pB ((le.drop k).all (inF (zn (nx.getD 0 []).length)))], [], []⟩
  | 0, _, _, _, h => absurd h (Nat.not_lt_zero _)
  | m + 1, n, k, hk, hm => by
    show f19S0 (f19L0 n m) le (k : Int) p i2 nx ps = _
    unfold f19S0
    have e0 : inb 0 nx.length = true := inb_k (k := 0) hn
    by_cases h0 : k < le.length
    · rw [lt_k h0, inb_k h0, e0, wr_k (by omega), Int.toNat_natCast, rightA_loop p i2 ps hl hn m n (k + 1) h0 (by omega), drop_get h0 0, List.all_cons, not_in]
      cases decide (le.getD k 0 < 0) <;> cases inF (zn (nx.getD 0 []).length) (le.getD k 0) <;> rfl
    · rw [nlt_k h0, List.drop_eq_nil_of_le (by omega)]; rfl
theorem rightA_T (i : Int) (ch : List (List ChV)) (nm : List ByteArray) (ho : List (List Int)) (le : List Int) (p i2 : Int) (nx : List (List Int)) (ps : List PairV) (h : allG ch nm ho le nx ps = true) : f19M (le.length + 1) i ch nm ho le p i2 nx ps = some ⟨[pB (allOk i ch nm ho le p i2 nx ps)], [], []⟩ := by
  unfold allG at h
  rw [Bool.and_eq_true, Bool.and_eq_true] at h
  obtain ⟨h1, h2, h3⟩ := h
  unfold f19M f19T allOk
  rw [h1, h2]
  cases mdOk i ch nm ho with
  | false => cases drOk p i2 nx ps <;> rfl
  | true =>
    cases hd : drOk p i2 nx ps with
    | false => rfl
    | true =>
      have hn : 0 < nx.length := by
        unfold drOk at hd
        rw [Bool.and_eq_true] at hd
        have := head_p hd.1
        omega
      have := rightA_loop p i2 ps (of_ble h3) hn (le.length + 1) (le.length + 1) 0 (Nat.zero_le _) (Nat.lt_succ_self _)
      have r : f19L0 (le.length + 1) (le.length + 1) le 0 p i2 nx ps = _ := this
      rw [r, List.drop_zero]
      have e : (zn le.length != zn ch.length) = !(zn le.length == zn ch.length) := rfl
      rw [e]
      cases (zn le.length == zn ch.length) <;> rfl
theorem rightA_ok : FnOk P C0 19 rightAS := by
  refine fn_okC ctx22 (show P.funcs[19]? = some f19f by kernel_rfl) (of_decide_eq_true (by kernel_rfl)) (rightAS) f19h (fun ds os lf hp => ?_)
  unfold rightAS at hp
  simp only at hp
  split at hp
  · rename_i i ch nm ho le p i2 nx ps
    simp only [Out.pick] at hp
    cases hc0 : allG ch nm ho le nx ps with
    | false => rw [hc0] at hp; cases hp
    | true =>
      rw [hc0] at hp
      simp only [cond_true] at hp
      simp only [Option.some.injEq] at hp
      subst hp
      exact ⟨_, (f19_ev _ i ch nm ho le p i2 nx ps).trans (rightA_T i ch nm ho le p i2 nx ps hc0)⟩
  · cases hp
end Go.S23
