/-
  Seat 18: the law DraSees.
-/
import Derived.Test.YtfkmnklnnccopaaDoorS18I
open Go Go.En
namespace Go.S18
def hitF (nx : List (List Int)) (F : List Int) (q c : Int) : Bool := F.any fun y => y == (nx.getD q.toNat []).getD c.toNat 0
section
variable {nx : List (List Int)} {ps : List PairV} {F s l : List Int} {p i : Int}
theorem sees_L2 (hF : F.length ≤ 4096) (g0 : f5G0) (g1 : f5G1) (ii k : Int) (to : Int) : ∀ (m n j : Nat) (found : Bool), j ≤ F.length → F.length - j < m →
    f5L2 n g0 g1 m ii found k to (j : Int) p i nx ps F s l = g1 ii (found || (F.drop j).any fun y => y == to) (IntKind.i64.wrap (k + 1)) p i nx ps F s l
  | 0, _, _, _, _, h => absurd h (Nat.not_lt_zero _)
  | m + 1, n, j, found, hj, hm => by
    show f5S2 g0 g1 (f5L2 n g0 g1 m) ii found k to (j : Int) p i nx ps F s l = _
    unfold f5S2
    by_cases h0 : j < F.length
    · rw [lt_k h0, inb_k h0, wr_k (k := j) (by omega), Int.toNat_natCast, sees_L2 hF g0 g1 ii k to m n (j + 1) _ h0 (by omega), drop_get h0 0, List.any_cons, ← Bool.or_assoc]
      cases found <;> rfl
    · rw [nlt_k h0, List.drop_eq_nil_of_le (by omega), List.any_nil, Bool.or_false]; rfl
theorem sees_L1 {C : Nat} (h : Aut C nx) (hF : F.length ≤ 4096) (hin : ∀ q ∈ F, inF (zn nx.length) q = true) (hl : ∀ c ∈ l, inF (zn C) c = true) (hl64 : l.length ≤ 64) {ii : Nat} (hii : ii < F.length) (hhit : l.any (hitF nx F (F.getD ii 0)) = true) (hup : 0 < ii → ¬ F.getD ii 0 ≤ F.getD (ii - 1) 0) (g0 : f5G0) {n : Nat} (hn : F.length < n) : ∀ (m k : Nat) (found : Bool), k ≤ l.length → l.length - k < m → (found || (l.drop k).any (hitF nx F (F.getD ii 0))) = true →
    f5L1 n g0 m (ii : Int) found (k : Int) p i nx ps F s l = g0 (IntKind.i64.wrap ((ii : Int) + 1)) p i nx ps F s l
  | 0, _, _, _, h, _ => absurd h (Nat.not_lt_zero _)
  | m + 1, k, found, hk, hm, hf => by
    show f5S1 (f5L2 n g0 (f5L1 n g0 m) n) g0 (f5L1 n g0 m) (ii : Int) found (k : Int) p i nx ps F s l = _
    unfold f5S1
    by_cases h0 : k < l.length
    · obtain ⟨a1, a2⟩ := look h (hin _ (get_mem hii 0)) (getl hl h0)
      have r2 := sees_L2 (p := p) (i := i) (nx := nx) (ps := ps) (s := s) (l := l) hF g0 (f5L1 n g0 m) (ii : Int) (k : Int) ((nx.getD (F.getD ii 0).toNat []).getD (l.getD k 0).toNat 0) n n 0 found (Nat.zero_le _) (by omega)
      rw [List.drop_zero, wr_k (by omega)] at r2
      rw [lt_k h0, inb_k hii, inb_k h0, Int.toNat_natCast, Int.toNat_natCast, a1, a2]
      refine Eq.trans (b := f5L2 n g0 (f5L1 n g0 m) n (ii : Int) found (k : Int) ((nx.getD (F.getD ii 0).toNat []).getD (l.getD k 0).toNat 0) ((0 : Nat) : Int) p i nx ps F s l) rfl (r2.trans ?_)
      refine sees_L1 h hF hin hl hl64 hii hhit hup g0 hn m (k + 1) _ h0 (by omega) ?_
      rw [drop_get h0 0, List.any_cons, ← Bool.or_assoc] at hf
      exact hf
    · rw [List.drop_eq_nil_of_le (by omega), List.any_nil, Bool.or_false] at hf
      subst hf
      rw [nlt_k h0, Int.toNat_natCast]
      by_cases h1 : 0 < ii
      · have e1 : IntKind.i64.wrap ((ii : Int) - 1) = ((ii - 1 : Nat) : Int) := by rw [i64_wrap_in (by omega) (by omega)]; omega
        rw [decide_eq_true (show (ii : Int) > 0 by omega), e1, inb_k hii, inb_k (show ii - 1 < F.length by omega), Int.toNat_natCast (ii - 1), decide_eq_false (hup h1)]; rfl
      · rw [decide_eq_false (show ¬ (ii : Int) > 0 by omega)]; rfl
theorem sees_L0 {C : Nat} (h : Aut C nx) (hF : F.length ≤ 4096) (hin : ∀ q ∈ F, inF (zn nx.length) q = true) (hl : ∀ c ∈ l, inF (zn C) c = true) (hl64 : l.length ≤ 64) (hhit : ∀ ii, ii < F.length → l.any (hitF nx F (F.getD ii 0)) = true) (hup : ∀ ii, ii < F.length → 0 < ii → ¬ F.getD ii 0 ≤ F.getD (ii - 1) 0) {n : Nat} (hn : F.length < n) (hn2 : l.length < n) : ∀ (m ii : Nat), ii ≤ F.length → F.length - ii < m →
    f5L0 n m (ii : Int) p i nx ps F s l = some ⟨[pB true], [], []⟩
  | 0, _, _, h => absurd h (Nat.not_lt_zero _)
  | m + 1, ii, hii, hm => by
    show f5S0 (f5L1 n (f5L0 n m) n) (f5L0 n m) (ii : Int) p i nx ps F s l = _
    unfold f5S0
    by_cases h0 : ii < F.length
    · have r1 := sees_L1 (p := p) (i := i) (ps := ps) (s := s) h hF hin hl hl64 h0 (hhit ii h0) (hup ii h0) (f5L0 n m) hn n 0 false (Nat.zero_le _) (by omega) (by rw [List.drop_zero, Bool.false_or]; exact hhit ii h0)
      rw [wr_k (by omega)] at r1
      rw [lt_k h0]
      exact r1.trans (sees_L0 h hF hin hl hl64 hhit hup hn hn2 m (ii + 1) h0 (by omega))
    · rw [nlt_k h0]; rfl
theorem seen_up (ii : Nat) (h : ii < (seenF i nx s l).length) (h0 : 0 < ii) : ¬ (seenF i nx s l).getD ii 0 ≤ (seenF i nx s l).getD (ii - 1) 0 := by
  have hp : (seenF i nx s l).Pairwise (· < ·) := by
    unfold seenF
    rw [List.pairwise_map]
    exact (List.pairwise_lt_range.filter _).imp (fun h => Int.ofNat_lt.2 h)
  have := (List.pairwise_iff_getElem.1 hp) (ii - 1) ii (by omega) h (by omega)
  rw [List.getD_eq_getElem?_getD, List.getD_eq_getElem?_getD, List.getElem?_eq_getElem h, List.getElem?_eq_getElem (show ii - 1 < (seenF i nx s l).length by omega)]
  simp only [Option.getD_some]
  omega
theorem seen_hit {C : Nat} (h : Aut C nx) (hl : ∀ c ∈ l, inF (zn C) c = true) (h0 : 0 < l.length) (hi : inF (zn nx.length) i = true) (hs : ∀ c ∈ s, inF (zn C) c = true) {q : Int} (hq : q ∈ seenF i nx s l) : l.any (hitF nx (seenF i nx s l) q) = true := by
  obtain ⟨k, rfl, hk, j, _, hj⟩ := seen_mem.1 hq
  rw [List.any_eq_true]
  refine ⟨l.getD (j % l.length) 0, get_mem (Nat.mod_lt _ h0) 0, ?_⟩
  unfold hitF
  rw [List.any_eq_true]
  refine ⟨_, st_mem h hl h0 hi hs (j + 1), ?_⟩
  rw [beq_iff_eq, ← hj]; rfl
end
theorem sees_T {p i : Int} {nx : List (List Int)} {ps : List PairV} {s l : List Int} (hw : ps.all pairW = true) (us : u8 s = true) (ul : u8 l = true) {N : Nat} (hN : 100 ≤ N) : f5M N p i nx ps s l = some ⟨[pB true], [], []⟩ := by
  unfold f5M f5T
  cases hf : farF nx ps with
  | true => rfl
  | false =>
    obtain ⟨n1, n2, n3⟩ := near hf
    have hof := ofG_of n1 (by omega) n3 hw
    have hdr := drG_of n1 (by omega) n3 hw
    rw [hdr]
    cases hd : drOk p i nx ps with
    | false => rfl
    | true =>
      obtain ⟨hA, hp, _, hi⟩ := aut_of hd
      obtain ⟨s8, sin⟩ := letters_in (z := p) us
      obtain ⟨l0, l8, lin⟩ := loop_in (z := p) ul
      rw [us, ul, decide_eq_true hp.1, decide_eq_true hp.2, hof]
      generalize lettersF p s = S at s8 sin ⊢
      generalize loopF p l = L at l0 l8 lin ⊢
      have sin2 : ∀ c ∈ S ++ L, inF (zn (2 ^ p.toNat)) c = true := fun c hc => (List.mem_append.1 hc).elim (sin c) (lin c)
      have ho : seenOk p i nx ps S L = true := by unfold seenOk; rw [hd, wd_ok l0 (by omega) sin lin]; rfl
      have ho2 : seenOk p i nx ps (S ++ L) L = true := by
        unfold seenOk; rw [hd, wd_ok l0 (by rw [List.length_append]; omega) sin2 lin]; rfl
      have hse := seen_stem hA lin l0 hi sin
      have m1 : m6 S.length = true := ble_of (by omega)
      have m2 : m6 L.length = true := ble_of (by omega)
      have m3 : m6 (S ++ L).length = true := ble_of (by rw [List.length_append]; omega)
      have hlen := seenF_len i nx S L
      have hne : (zn (seenF i nx S L).length == 0) = false := by
        have := List.length_pos_of_mem (st_mem hA lin l0 hi sin 0)
        rw [beq_eq_false_iff_ne]; simp only [zn]; omega
      have hb : big (seenF i nx S L).length = true := ble_of (by omega)
      rw [List.nil_append, decide_eq_true (show (0 + S.length) * 8 ≤ 140737488355328 by omega), decide_eq_true (show (S.length + L.length) * 8 ≤ 140737488355328 by omega), m1, m2, m3, ho, ho2, hse]
      have c1 : (bif true then seenF i nx S L else []) = seenF i nx S L := rfl
      rw [c1, hne, hb, sameI_refl]
      have lp := sees_L0 (p := p) (i := i) (ps := ps) (s := S) hA (F := seenF i nx S L) (by omega)
        (fun q hq => by obtain ⟨k, rfl, hk, _⟩ := seen_mem.1 hq; exact in_iff.2 ⟨Int.natCast_nonneg _, Int.ofNat_lt.2 hk⟩) lin (by omega)
        (fun ii hii => seen_hit hA lin l0 hi sin (get_mem hii 0)) (fun ii hii h0 => seen_up ii hii h0) (n := N) (by omega) (by omega) N 0 (Nat.zero_le _) (by omega)
      exact lp
def seesS : En.Spec := ⟨[], fun ds os => match ds, os with
  | [.p (.agg [.d (.fz true) (.i .i64) _p, .d (.fz true) (.i .i64) _i, .d (.fz false) (.l (.l (.i .i64))) _nx, .d (.fz false) (.l (.p (.l (.i .i64)) (.p (.l (.i .i64)) .u))) ps]), .p (.one (.d (.fz false) (.l (.i .u8)) s)), .p (.one (.d (.fz false) (.l (.i .u8)) l))], [] =>
    .br (ps.all pairW && (u8 s && u8 l)) (.leaf [pB true] [] []) .fail
  | _, _ => .fail⟩
theorem sees_ok : FnOk P C0 5 seesS := by
  refine fn_okC ctx16 (show P.funcs[5]? = some f5f by kernel_rfl) (of_decide_eq_true (by kernel_rfl)) seesS f5h (fun ds os lf hp => ?_)
  unfold seesS at hp
  simp only at hp
  split at hp
  · rename_i p i nx ps s l
    simp only [Out.pick] at hp
    cases hc : (ps.all pairW && (u8 s && u8 l)) with
    | false => rw [hc] at hp; cases hp
    | true =>
      rw [hc] at hp
      simp only [cond_true, Option.some.injEq] at hp
      subst hp
      rw [Bool.and_eq_true, Bool.and_eq_true] at hc
      exact ⟨100, (f5_ev 100 p i nx ps s l).trans (sees_T hc.1 hc.2.1 hc.2.2 (Nat.le_refl _))⟩
  · cases hp
end Go.S18
