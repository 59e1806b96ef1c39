/-
  Seat 18: the law DraTells.
-/
import Derived.Test.YtfkmnklnnccopaaDoorS18G6
open Go Go.En
namespace Go.S18
theorem ctx16 : CtxOk C16 := fun _ _ h => tbl_ok (l := l16) ⟨alive_ok, far_ok, of_ok, check_ok, right_ok, num_ok, good_ok, rgood_ok, seen_ok, accepts_ok, right14_ok, rseen_ok, ints_ok, word_ok, trivial⟩ h
def pairW (q : PairV) : Bool := Nat.ble q.1.length 17592186044416 && Nat.ble q.2.1.length 17592186044416
theorem pairG_of {ps : List PairV} (h : ps.all pairW = true) : ps.all pairG = true := by
  rw [List.all_eq_true] at h ⊢
  intro q hq
  have := h q hq
  unfold pairW at this
  rw [Bool.and_eq_true] at this
  unfold pairG
  rw [Bool.and_eq_true]
  exact ⟨ble_of (Nat.le_trans (of_ble this.1) (by decide)), ble_of (Nat.le_trans (of_ble this.2) (by decide))⟩
theorem near {nx : List (List Int)} {ps : List PairV} (hf : farF nx ps = false) : nx.length ≤ 40 ∧ ps.length ≤ 20 ∧ ∀ l ∈ nx, l.length ≤ 64 := by
  unfold farF at hf
  rw [Bool.or_eq_false_iff, Bool.or_eq_false_iff, decide_eq_false_iff_not, decide_eq_false_iff_not, List.any_eq_false] at hf
  simp only [zn] at hf
  refine ⟨by have := hf.1.1; omega, by have := hf.1.2; omega, fun l hl => ?_⟩
  have := hf.2 l hl
  rw [decide_eq_true_eq] at this
  omega
theorem ofG_of {nx : List (List Int)} {ps : List PairV} (h1 : nx.length ≤ 40) (h2 : ps.length ≤ 1000) (h3 : ∀ l ∈ nx, l.length ≤ 64) (hw : ps.all pairW = true) : ofG nx ps = true := by
  unfold ofG m6
  have e : (nx.all fun l => Nat.ble l.length 1000000) = true := List.all_eq_true.2 fun l hl => ble_of (Nat.le_trans (h3 l hl) (by decide))
  have e2 : (ps.all fun q => Nat.ble q.1.length 17592186044416 && Nat.ble q.2.1.length 17592186044416) = true := hw
  rw [ble_of (Nat.le_trans h1 (by decide)), ble_of (Nat.le_trans h2 (by decide)), e, e2]; rfl
theorem drG_of {nx : List (List Int)} {ps : List PairV} (h1 : nx.length ≤ 40) (h2 : ps.length ≤ 1000) (h3 : ∀ l ∈ nx, l.length ≤ 64) (hw : ps.all pairW = true) : drG nx ps = true := by
  unfold drG
  have e : (nx.all fun l => big l.length) = true := List.all_eq_true.2 fun l hl => ble_of (Nat.le_trans (h3 l hl) (by decide))
  have e2 : (ps.all fun q => big q.1.length && big q.2.1.length) = true := pairG_of hw
  have b1 : big nx.length = true := ble_of (Nat.le_trans h1 (by decide))
  have b2 : big ps.length = true := ble_of (Nat.le_trans h2 (by decide))
  rw [b1, b2, e, e2]; rfl
theorem dup0 : dupS (List.take (0 - 0) (List.drop 0 [{ data := #[{ toBitVec := 49#8 }] }, { data := #[{ toBitVec := 50#8 }] }, { data := #[{ toBitVec := 51#8 }] }, { data := #[{ toBitVec := 52#8 }] }, { data := #[{ toBitVec := 53#8 }] }, { data := #[{ toBitVec := 54#8 }] }])) = false := by kernel_rfl
theorem dup1 : dupS (List.take (1 - 0) (List.drop 0 [{ data := #[{ toBitVec := 49#8 }] }, { data := #[{ toBitVec := 50#8 }] }, { data := #[{ toBitVec := 51#8 }] }, { data := #[{ toBitVec := 52#8 }] }, { data := #[{ toBitVec := 53#8 }] }, { data := #[{ toBitVec := 54#8 }] }])) = false := by kernel_rfl
theorem dup2 : dupS (List.take (2 - 0) (List.drop 0 [{ data := #[{ toBitVec := 49#8 }] }, { data := #[{ toBitVec := 50#8 }] }, { data := #[{ toBitVec := 51#8 }] }, { data := #[{ toBitVec := 52#8 }] }, { data := #[{ toBitVec := 53#8 }] }, { data := #[{ toBitVec := 54#8 }] }])) = false := by kernel_rfl
theorem dup3 : dupS (List.take (3 - 0) (List.drop 0 [{ data := #[{ toBitVec := 49#8 }] }, { data := #[{ toBitVec := 50#8 }] }, { data := #[{ toBitVec := 51#8 }] }, { data := #[{ toBitVec := 52#8 }] }, { data := #[{ toBitVec := 53#8 }] }, { data := #[{ toBitVec := 54#8 }] }])) = false := by kernel_rfl
theorem dup4 : dupS (List.take (4 - 0) (List.drop 0 [{ data := #[{ toBitVec := 49#8 }] }, { data := #[{ toBitVec := 50#8 }] }, { data := #[{ toBitVec := 51#8 }] }, { data := #[{ toBitVec := 52#8 }] }, { data := #[{ toBitVec := 53#8 }] }, { data := #[{ toBitVec := 54#8 }] }])) = false := by kernel_rfl
theorem dup5 : dupS (List.take (5 - 0) (List.drop 0 [{ data := #[{ toBitVec := 49#8 }] }, { data := #[{ toBitVec := 50#8 }] }, { data := #[{ toBitVec := 51#8 }] }, { data := #[{ toBitVec := 52#8 }] }, { data := #[{ toBitVec := 53#8 }] }, { data := #[{ toBitVec := 54#8 }] }])) = false := by kernel_rfl
theorem dup6 : dupS (List.take (6 - 0) (List.drop 0 [{ data := #[{ toBitVec := 49#8 }] }, { data := #[{ toBitVec := 50#8 }] }, { data := #[{ toBitVec := 51#8 }] }, { data := #[{ toBitVec := 52#8 }] }, { data := #[{ toBitVec := 53#8 }] }, { data := #[{ toBitVec := 54#8 }] }])) = false := by kernel_rfl
theorem r14_names {p : Int} (h0 : 0 ≤ p) (h6 : p ≤ 6) (s l : List Int) : right14F (List.take (p.toNat - 0) (List.drop 0 [{ data := #[{ toBitVec := 49#8 }] }, { data := #[{ toBitVec := 50#8 }] }, { data := #[{ toBitVec := 51#8 }] }, { data := #[{ toBitVec := 52#8 }] }, { data := #[{ toBitVec := 53#8 }] }, { data := #[{ toBitVec := 54#8 }] }])) s l = wdOk p s l := by
  obtain ⟨k, rfl⟩ := Int.eq_ofNat_of_zero_le h0
  have hk : k ≤ 6 := by omega
  have e1 : ∀ ns : List ByteArray, ns.length = k → dupS ns = false → right14F ns s l = wdOk (k : Int) s l := by
    intro ns hn hd
    unfold right14F wdOk
    rw [hn, hd, decide_eq_true (show zn k ≤ 6 by simp only [zn]; omega), Int.toNat_natCast, show zn (s ++ l).length = zn s.length + zn l.length from by simp only [zn, List.length_append]; omega]
    cases !(zn l.length == 0) <;> rfl
  rw [Int.toNat_natCast]
  apply e1
  · simp; omega
  · match k, hk with
    | 0, _ => exact dup0
    | 1, _ => exact dup1
    | 2, _ => exact dup2
    | 3, _ => exact dup3
    | 4, _ => exact dup4
    | 5, _ => exact dup5
    | 6, _ => exact dup6
theorem tells_T {p i : Int} {nx : List (List Int)} {ps : List PairV} {s l set : List Int} (hw : ps.all pairW = true) (hs : s.length ≤ 17592186044416) (hl : l.length ≤ 17592186044416) : f3T p i nx ps s l set = some ⟨[pB true], [], []⟩ := by
  unfold f3T
  cases hf : farF nx ps with
  | true => rfl
  | false =>
    obtain ⟨n1, n2, n3⟩ := near hf
    have hof := ofG_of n1 (by omega) n3 hw
    have hdr := drG_of n1 (by omega) n3 hw
    have e0 : IntKind.i64.wrap (zn s.length + zn l.length) = zn s.length + zn l.length := by unfold zn; exact i64_wrap_in (by omega) (by omega)
    rw [e0]
    by_cases h80 : s.length + l.length > 80
    · rw [decide_eq_true (show zn s.length + zn l.length > 80 by simp only [zn]; omega)]; rfl
    · rw [decide_eq_false (show ¬ zn s.length + zn l.length > 80 by simp only [zn]; omega)]
      by_cases h60 : set.length > 60
      · rw [decide_eq_true (show zn set.length > 60 by simp only [zn]; omega)]; rfl
      · rw [decide_eq_false (show ¬ zn set.length > 60 by simp only [zn]; omega)]
        have m1 : m6 s.length = true := ble_of (by omega)
        have m2 : m6 l.length = true := ble_of (by omega)
        have b1 : big set.length = true := ble_of (by omega)
        have b2 : big ps.length = true := ble_of (by omega)
        have b3 : ps.all pairG = true := pairG_of hw
        have b4 : big (seenF i nx s l).length = true := ble_of (Nat.le_trans (seenF_len i nx s l) (by omega))
        rw [hof, hdr, m1, m2, b1, b2, b3]
        have a1 : Er.isNil (er1 true) = true := rfl
        have a2 : Er.isNil (er1 false) = false := rfl
        have a3 : numOf (er1 false) = 1 := rfl
        have a5 : plain (er1 false) = true := rfl
        have a6 : plain (er1 true) = true := rfl
        cases hd : drOk p i nx ps with
        | false =>
          have ho : seenOk p i nx ps s l = false := by unfold seenOk; rw [hd]; rfl
          rw [ho]
          rfl
        | true =>
          obtain ⟨_, hp, _, _⟩ := aut_of hd
          have hin : inb2 0 p 6 = true := by
            unfold inb2
            rw [decide_eq_true (Int.le_refl 0), decide_eq_true hp.1, decide_eq_true (show p ≤ ((6 : Nat) : Int) by omega)]; rfl
          have ho : seenOk p i nx ps s l = wdOk p s l := by unfold seenOk; rw [hd]; rfl
          have hg : (!(true && decide (goodI set ps ≥ 0)) == decide (goodI set ps ≥ 0) || (bif true && decide (goodI set ps ≥ 0) then goodI set ps else 0) != if 0 > goodI set ps then 0 else goodI set ps) = false := by
            by_cases h : goodI set ps ≥ 0
            · rw [decide_eq_true h, if_neg (by omega)]
              show (!(true == true) || (goodI set ps != goodI set ps)) = false
              rw [bne_self_eq_false]; rfl
            · rw [decide_eq_false h, if_pos (by omega)]; rfl
          rw [hg, hin, r14_names hp.1 hp.2, ho]
          cases wdOk p s l with
          | false => rfl
          | true =>
            have sI : sameI (bif true then seenF i nx s l else []) (seenF i nx s l) = true := sameI_refl _
            have bI : big (bif true then seenF i nx s l else []).length = true := b4
            rw [sI, bI, b4]
            cases decide (goodI (seenF i nx s l) ps ≥ 0) <;> rfl
def tellsS : En.Spec := ⟨[], fun ds os => match ds, os with
  | [.p (.agg [.d (.fz true) (.i .i64) _p, .d (.fz true) (.i .i64) _i, .d (.fz false) (.l (.l (.i .i64))) _nx, .d (.fz false) (.l (.p (.l (.i .i64)) (.p (.l (.i .i64)) .u))) ps]), .p (.agg [.d (.fz false) (.l (.i .i64)) s, .d (.fz false) (.l (.i .i64)) l]), .p (.one (.d (.fz false) (.l (.i .i64)) _set))], [] =>
    .br (ps.all pairW && (Nat.ble s.length 17592186044416 && Nat.ble l.length 17592186044416)) (.leaf [pB true] [] []) .fail
  | _, _ => .fail⟩
theorem tells_ok : FnOk P C0 3 tellsS := by
  refine fn_okC ctx16 (show P.funcs[3]? = some f3f by kernel_rfl) (of_decide_eq_true (by kernel_rfl)) tellsS f3h (fun ds os lf hp => ?_)
  unfold tellsS at hp
  simp only at hp
  split at hp
  · rename_i p i nx ps s l set
    simp only [Out.pick] at hp
    cases hc : (ps.all pairW && (Nat.ble s.length 17592186044416 && Nat.ble l.length 17592186044416)) with
    | false => rw [hc] at hp; cases hp
    | true =>
      rw [hc] at hp
      simp only [cond_true, Option.some.injEq] at hp
      subst hp
      rw [Bool.and_eq_true, Bool.and_eq_true] at hc
      exact ⟨0, (f3_ev 0 p i nx ps s l set).trans (tells_T hc.1 (of_ble hc.2.1) (of_ble hc.2.2))⟩
  · cases hp
end Go.S18
