/-
  Seat 22: the contracts of All and of the document's Same.
-/
import Derived.Test.YtjkojhpmiijgfaaDoorS22K
open Go Go.En
namespace Go.S22
def orL (a b : List Bool) : List Bool := List.zipWith (fun x y => x || y) a b
def andL (a b : List Bool) : List Bool := List.zipWith (fun x y => x && y) a b
theorem zip_get (f : Bool → Bool → Bool) : ∀ {a b : List Bool}, a.length = b.length → ∀ j, j < a.length → (List.zipWith f a b).getD j false = f (a.getD j false) (b.getD j false)
  | x :: a, y :: b, h, 0, _ => rfl
  | x :: a, y :: b, h, j + 1, hj => zip_get f (a := a) (b := b) (by simpa using h) j (Nat.lt_of_succ_lt_succ hj)
  | [], _, _, _, hj => absurd hj (Nat.not_lt_zero _)
  | _ :: _, [], h, _, _ => by simp at h
theorem zip_len (f : Bool → Bool → Bool) {a b : List Bool} (h : a.length = b.length) : (List.zipWith f a b).length = a.length := by rw [List.length_zipWith]; omega
theorem ext_get {a b : List Bool} (h : a.length = b.length) (hj : ∀ j, j < a.length → a.getD j false = b.getD j false) : a = b := by
  apply List.ext_getElem h
  intro j h1 h2
  have := hj j h1
  rw [List.getD_eq_getElem?_getD, List.getD_eq_getElem?_getD, List.getElem?_eq_getElem h1, List.getElem?_eq_getElem h2] at this
  exact this
abbrev Q4 := List Bool × List Bool × List Bool × List Bool
def allR (ch : List (List ChV)) (set : List Bool) : Nat → Nat → Q4 → Q4
  | 0, _, q => q
  | f + 1, k, q => allR ch set f (k + 1) (orL q.1 (mayP ch set (pickF k ch)), orL q.2.1 (sureP ch set (pickF k ch)), andL q.2.2.1 (mayP ch set (pickF k ch)), andL q.2.2.2 (sureP ch set (pickF k ch)))
def all4F (ch : List (List ChV)) (set : List Bool) : Q4 := allR ch set (picksF 1 ch).toNat 0 (List.replicate set.length false, List.replicate set.length false, List.replicate set.length true, List.replicate set.length true)
theorem picksF_in : ∀ (ch : List (List ChV)) (n : Int), 0 ≤ n → n ≤ 100000 → 0 ≤ picksF n ch ∧ picksF n ch ≤ 100000
  | [], n, h1, h2 => ⟨h1, h2⟩
  | l :: ls, n, h1, h2 => by
    rw [picksF]
    by_cases h : n * zn l.length > 100000
    · rw [decide_eq_true h]; exact ⟨by simp, by simp⟩
    · rw [decide_eq_false h]
      exact picksF_in ls _ (Int.mul_nonneg h1 (by simp only [zn]; omega)) (by omega)
theorem pick_G : ∀ {ch : List (List ChV)} (k : Nat), full ch = true → pkG ch (pickF k ch) = true
  | [], _, _ => rfl
  | l :: ls, k, h => by
    have h : (Nat.blt 0 l.length && full ls) = true := h
    rw [Bool.and_eq_true] at h
    have hp : 0 < l.length := Nat.le_of_ble_eq_true h.1
    have := Nat.mod_lt k hp
    show (inF (zn l.length) ((k % l.length : Nat) : Int) && pkG ls (pickF (k / l.length) ls)) = true
    rw [pick_G _ h.2, in_yes ⟨by omega, by simp only [zn]; omega⟩]; rfl
section
variable (i : Int) {ch : List (List ChV)} (nm : List ByteArray) (ho : List (List Int)) {set : List Bool}
theorem all_loop0' (hn : set.length ≤ 1000000) {a b : List Bool} : ∀ (m s : Nat) (c d : List Bool), s ≤ set.length → set.length - s < m → c.length = set.length → d.length = set.length → (∀ j, j < s → c.getD j false = true ∧ d.getD j false = true) →
    r18L0 1000002 m set (zn set.length) (s : Int) i ch nm ho a b c d = r18L1 1000002 1000002 set (zn set.length) 0 i ch nm ho a b (List.replicate set.length true) (List.replicate set.length true)
  | 0, _, _, _, _, h, _, _, _ => absurd h (Nat.not_lt_zero _)
  | m + 1, s, c, d, hs, hm, hc, hd, hi => by
    show r18S0 (r18L1 1000002 1000002) (r18L0 1000002 m) set (zn set.length) (s : Int) i ch nm ho a b c d = _
    unfold r18S0
    by_cases h0 : s < set.length
    · rw [lt_k h0, inb_k (show s < c.length by omega), inb_k (show s < d.length by omega), Int.toNat_natCast, wr_k (by omega)]
      refine all_loop0' hn m (s + 1) _ _ h0 (by omega) (by rw [List.length_set]; exact hc) (by rw [List.length_set]; exact hd) (fun j hj => ?_)
      rw [getD_set c s j _ false (by omega), getD_set d s j _ false (by omega)]
      by_cases e : s = j
      · rw [if_pos e, if_pos e]; exact ⟨rfl, rfl⟩
      · rw [if_neg e, if_neg e]; exact hi j (by omega)
    · have ec : c = List.replicate set.length true := ext_get (by rw [List.length_replicate]; exact hc) (fun j hj => by rw [(hi j (by omega)).1, List.getD_eq_getElem?_getD, List.getElem?_replicate, if_pos (by omega)]; rfl)
      have ed : d = List.replicate set.length true := ext_get (by rw [List.length_replicate]; exact hd) (fun j hj => by rw [(hi j (by omega)).2, List.getD_eq_getElem?_getD, List.getElem?_replicate, if_pos (by omega)]; rfl)
      rw [nlt_k h0, ec, ed]; rfl
set_option maxHeartbeats 4000000 in
theorem all_loop2 (hn : set.length ≤ 1000000) (g1 : r18G1) (k : Int) {may su a b c d : List Bool} (hmay : may.length = set.length) (hsu : su.length = set.length) (ha : a.length = set.length) (hb : b.length = set.length) (hc : c.length = set.length) (hd : d.length = set.length) :
    ∀ (m s : Nat) (x y z w : List Bool), s ≤ set.length → set.length - s < m → x.length = set.length → y.length = set.length → z.length = set.length → w.length = set.length →
    (∀ j, j < set.length → x.getD j false = (if j < s then (a.getD j false || may.getD j false) else a.getD j false)) → (∀ j, j < set.length → y.getD j false = (if j < s then (b.getD j false || su.getD j false) else b.getD j false)) →
    (∀ j, j < set.length → z.getD j false = (if j < s then (c.getD j false && may.getD j false) else c.getD j false)) → (∀ j, j < set.length → w.getD j false = (if j < s then (d.getD j false && su.getD j false) else d.getD j false)) →
    r18L2 1000002 g1 m set (zn set.length) k (s : Int) i ch nm ho x y z w may su = g1 set (zn set.length) (IntKind.i64.wrap (k + 1)) i ch nm ho (orL a may) (orL b su) (andL c may) (andL d su)
  | 0, _, _, _, _, _, _, h, _, _, _, _, _, _, _, _ => absurd h (Nat.not_lt_zero _)
  | m + 1, s, x, y, z, w, hs, hm, hx, hy, hz, hw, ix, iy, iz, iw => by
    show r18S2 g1 (r18L2 1000002 g1 m) set (zn set.length) k (s : Int) i ch nm ho x y z w may su = _
    unfold r18S2
    by_cases h0 : s < set.length
    · have ex := ix s h0
      have ey := iy s h0
      have ez := iz s h0
      have ew := iw s h0
      rw [if_neg (Nat.lt_irrefl s)] at ex ey ez ew
      have go : ∀ X Y Z W : Bool, X = (a.getD s false || may.getD s false) → Y = (b.getD s false || su.getD s false) → Z = (c.getD s false && may.getD s false) → W = (d.getD s false && su.getD s false) →
          r18L2 1000002 g1 m set (zn set.length) k ((s + 1 : Nat) : Int) i ch nm ho (x.set s X) (y.set s Y) (z.set s Z) (w.set s W) may su = g1 set (zn set.length) (IntKind.i64.wrap (k + 1)) i ch nm ho (orL a may) (orL b su) (andL c may) (andL d su) := by
        intro X Y Z W hX hY hZ hW
        refine all_loop2 hn g1 k hmay hsu ha hb hc hd m (s + 1) _ _ _ _ h0 (by omega) (by rw [List.length_set]; exact hx) (by rw [List.length_set]; exact hy) (by rw [List.length_set]; exact hz) (by rw [List.length_set]; exact hw) ?_ ?_ ?_ ?_
        · intro j hj
          rw [getD_set x s j _ false (by omega)]
          by_cases e : s = j
          · subst e; rw [if_pos rfl, if_pos (Nat.lt_succ_self _)]; exact hX
          · rw [if_neg e, ix j hj]
            by_cases e2 : j < s
            · rw [if_pos e2, if_pos (by omega)]
            · rw [if_neg e2, if_neg (by omega)]
        · intro j hj
          rw [getD_set y s j _ false (by omega)]
          by_cases e : s = j
          · subst e; rw [if_pos rfl, if_pos (Nat.lt_succ_self _)]; exact hY
          · rw [if_neg e, iy j hj]
            by_cases e2 : j < s
            · rw [if_pos e2, if_pos (by omega)]
            · rw [if_neg e2, if_neg (by omega)]
        · intro j hj
          rw [getD_set z s j _ false (by omega)]
          by_cases e : s = j
          · subst e; rw [if_pos rfl, if_pos (Nat.lt_succ_self _)]; exact hZ
          · rw [if_neg e, iz j hj]
            by_cases e2 : j < s
            · rw [if_pos e2, if_pos (by omega)]
            · rw [if_neg e2, if_neg (by omega)]
        · intro j hj
          rw [getD_set w s j _ false (by omega)]
          by_cases e : s = j
          · subst e; rw [if_pos rfl, if_pos (Nat.lt_succ_self _)]; exact hW
          · rw [if_neg e, iw j hj]
            by_cases e2 : j < s
            · rw [if_pos e2, if_pos (by omega)]
            · rw [if_neg e2, if_neg (by omega)]
      rw [lt_k h0, inb_k (show s < x.length by omega), inb_k (show s < y.length by omega), inb_k (show s < z.length by omega), inb_k (show s < w.length by omega), inb_k (show s < may.length by omega), inb_k (show s < su.length by omega), Int.toNat_natCast, wr_k (k := s) (by omega), ex, ey, ez, ew]
      cases h1 : a.getD s false <;> cases h2 : b.getD s false <;> cases h3 : c.getD s false <;> cases h4 : d.getD s false <;>
        (refine go _ _ _ _ ?_ ?_ ?_ ?_ <;> (first | rw [h1] | rw [h2] | rw [h3] | rw [h4]) <;> rfl)
    · have q : ∀ (f : Bool → Bool → Bool) (u p r : List Bool), u.length = set.length → p.length = set.length → r.length = set.length → (∀ j, j < set.length → u.getD j false = (if j < s then f (p.getD j false) (r.getD j false) else p.getD j false)) → u = List.zipWith f p r := by
        intro f u p r hu hp hr h
        refine ext_get (by rw [zip_len f (by omega)]; omega) (fun j hj => ?_)
        rw [h j (by omega), if_pos (by omega), zip_get f (by omega) j (by omega)]
      rw [nlt_k h0, q (fun x y => x || y) x a may hx ha hmay ix, q (fun x y => x || y) y b su hy hb hsu iy, q (fun x y => x && y) z c may hz hc hmay iz, q (fun x y => x && y) w d su hw hd hsu iw]; rfl
theorem mayP_len (ch : List (List ChV)) (set : List Bool) (pk : List Int) : (mayP ch set pk).length = set.length := (fix_ok true (cMay ch pk) _ set rfl (Nat.lt_succ_of_le (nb_le _ _))).len
theorem sureP_ok (ch : List (List ChV)) (set : List Bool) (pk : List Int) : FixOk false (cSure ch pk set) (mayP ch set pk) (sureP ch set pk) := fix_ok false _ _ _ (mayP_len ch set pk) (Nat.lt_succ_of_le (by have := nb_le false (mayP ch set pk); rw [mayP_len] at this; exact this))
theorem sureP_len (ch : List (List ChV)) (set : List Bool) (pk : List Int) : (sureP ch set pk).length = set.length := (sureP_ok ch set pk).len.trans (mayP_len ch set pk)
theorem all_loop1' (hof : ofMG ch nm ho = true) (hg : rgS ch set = true) (hf : full ch = true) : ∀ (m k : Nat) (a b c d : List Bool), k ≤ (picksF 1 ch).toNat → (picksF 1 ch).toNat - k < m → a.length = set.length → b.length = set.length → c.length = set.length → d.length = set.length →
    r18L1 1000002 m set (zn set.length) (k : Int) i ch nm ho a b c d = some ⟨[.one (.rw ⟨1, 0⟩), .one (.rw ⟨1, 1⟩), .one (.rw ⟨1, 2⟩), .one (.rw ⟨1, 3⟩)], [], [roB (allR ch set ((picksF 1 ch).toNat - k) k (a, b, c, d)).1, roB (allR ch set ((picksF 1 ch).toNat - k) k (a, b, c, d)).2.1, roB (allR ch set ((picksF 1 ch).toNat - k) k (a, b, c, d)).2.2.1, roB (allR ch set ((picksF 1 ch).toNat - k) k (a, b, c, d)).2.2.2]⟩
  | 0, _, _, _, _, _, _, h, _, _, _, _ => absurd h (Nat.not_lt_zero _)
  | m + 1, k, a, b, c, d, hk, hm, ha, hb, hc, hd => by
    obtain ⟨p1, p2⟩ := picksF_in ch 1 (by omega) (by omega)
    obtain ⟨g1, g2, g3⟩ := rgS_p hg
    show r18S1 (r18L2 1000002 (r18L1 1000002 m) 1000002) (r18L1 1000002 m) set (zn set.length) (k : Int) i ch nm ho a b c d = _
    unfold r18S1
    by_cases h0 : k < (picksF 1 ch).toNat
    · have ef : (picksF 1 ch).toNat - k = ((picksF 1 ch).toNat - (k + 1)) + 1 := by omega
      have hcg : comeG ch nm ho set (pickF k ch) = true := by unfold comeG; rw [hof, hg, pick_G k hf]; rfl
      rw [hof, decide_eq_true (show (k : Int) < picksF 1 ch by omega), hf, decide_eq_true (show (0 : Int) ≤ (k : Int) by omega), decide_eq_true (show (k : Int) ≤ 1000000 by omega), Int.toNat_natCast, hcg, ef]
      have r2 := all_loop2 i nm ho (ch := ch) (by omega) (r18L1 1000002 m) (k : Int) (mayP_len ch set (pickF k ch)) (sureP_len ch set (pickF k ch)) ha hb hc hd 1000002 0 a b c d (Nat.zero_le _) (by omega) ha hb hc hd (fun j _ => rfl) (fun j _ => rfl) (fun j _ => rfl) (fun j _ => rfl)
      rw [wr_k (by omega)] at r2
      refine Eq.trans (b := r18L2 1000002 (r18L1 1000002 m) 1000002 set (zn set.length) (k : Int) ((0 : Nat) : Int) i ch nm ho a b c d (mayP ch set (pickF k ch)) (sureP ch set (pickF k ch))) rfl (r2.trans ?_)
      exact all_loop1' hof hg hf m (k + 1) _ _ _ _ h0 (by omega) (by rw [orL, zip_len _ (by rw [ha, mayP_len])]; exact ha) (by rw [orL, zip_len _ (by rw [hb, sureP_len])]; exact hb) (by rw [andL, zip_len _ (by rw [hc, mayP_len])]; exact hc) (by rw [andL, zip_len _ (by rw [hd, sureP_len])]; exact hd)
    · have e0 : (picksF 1 ch).toNat - k = 0 := by omega
      rw [hof, decide_eq_false (show ¬ (k : Int) < picksF 1 ch by omega), e0]; rfl
theorem all4_T (h : (ofMG ch nm ho && (rgS ch set && full ch)) = true) : r18M 1000002 i ch nm ho set = some ⟨[.one (.rw ⟨1, 0⟩), .one (.rw ⟨1, 1⟩), .one (.rw ⟨1, 2⟩), .one (.rw ⟨1, 3⟩)], [], [roB (all4F ch set).1, roB (all4F ch set).2.1, roB (all4F ch set).2.2.1, roB (all4F ch set).2.2.2]⟩ := by
  simp only [Bool.and_eq_true] at h
  obtain ⟨hof, hg, hf⟩ := h
  obtain ⟨g1, g2, g3⟩ := rgS_p hg
  obtain ⟨p1, p2⟩ := picksF_in ch 1 (by omega) (by omega)
  unfold r18M r18T
  have e1 : (decide (0 ≤ zn set.length) && (decide (zn set.length ≤ zn set.length) && decide (1 * (zn set.length).toNat ≤ 140737488355328))) = true := by
    rw [decide_eq_true (show 0 ≤ zn set.length by simp only [zn]; omega), decide_eq_true (Int.le_refl _), decide_eq_true (show 1 * (zn set.length).toNat ≤ 140737488355328 by simp only [zn]; omega)]; rfl
  rw [e1]
  have r0 := all_loop0' i nm ho (ch := ch) (set := set) (by omega) (a := List.replicate set.length false) (b := List.replicate set.length false) 1000002 0 (List.replicate set.length false) (List.replicate set.length false) (Nat.zero_le _) (by omega) List.length_replicate List.length_replicate (fun j hj => absurd hj (Nat.not_lt_zero _))
  have r1 := all_loop1' i nm ho hof hg hf 1000002 0 (List.replicate set.length false) (List.replicate set.length false) (List.replicate set.length true) (List.replicate set.length true) (Nat.zero_le _) (by omega) List.length_replicate List.length_replicate List.length_replicate List.length_replicate
  exact r0.trans r1
end
def all4S : En.Spec := ⟨[], fun ds os => match ds, os with
  | [.p (.agg [.d (.fz true) (.i .i64) _i, .d (.fz false) (.l (.l (.p .s (.p (.l (.p (.i .i64) (.p (.i .i64) .u))) .u)))) ch, .d (.fz false) (.l .s) nm, .d (.fz false) (.l (.l (.i .i64))) ho]), .p (.one (.d (.fz false) (.l .b) set))], [] =>
    .br (ofMG ch nm ho && (rgS ch set && full ch)) (.leaf [.one (.rw ⟨1, 0⟩), .one (.rw ⟨1, 1⟩), .one (.rw ⟨1, 2⟩), .one (.rw ⟨1, 3⟩)] [] [roB (all4F ch set).1, roB (all4F ch set).2.1, roB (all4F ch set).2.2.1, roB (all4F ch set).2.2.2]) .fail
  | _, _ => .fail⟩
theorem all4_ok : FnOk P C0 18 all4S := by
  refine fn_okC ctx20 (show P.funcs[18]? = some r18f by kernel_rfl) (of_decide_eq_true (by kernel_rfl)) (all4S) r18h (fun ds os lf hp => ?_)
  unfold all4S at hp
  simp only at hp
  split at hp
  · rename_i i ch nm ho set
    obtain ⟨hc, hp1⟩ := br_pick hp
    have hl := leaf_pick hp1
    subst hl
    exact ⟨_, (r18_ev _ i ch nm ho set).trans (all4_T i nm ho hc)⟩
  · cases hp
/-! ### Same -/
def sameN : List Int → List Int → Bool
  | [], [] => true
  | x :: a, y :: b => (x == y) && sameN a b
  | _, _ => false
def sameII : List (List Int) → List (List Int) → Bool
  | [], [] => true
  | x :: a, y :: b => sameN x y && sameII a b
  | _, _ => false
theorem sameN_len : ∀ {a b : List Int}, sameN a b = true → a.length = b.length
  | [], [], _ => rfl
  | x :: a, y :: b, h => by
    have h : (x == y && sameN a b) = true := h
    rw [Bool.and_eq_true] at h
    rw [List.length_cons, List.length_cons, sameN_len h.2]
  | [], _ :: _, h => by cases h
  | _ :: _, [], h => by cases h
theorem sameII_len : ∀ {a b : List (List Int)}, sameII a b = true → a.length = b.length
  | [], [], _ => rfl
  | x :: a, y :: b, h => by
    have h : (sameN x y && sameII a b) = true := h
    rw [Bool.and_eq_true] at h
    rw [List.length_cons, List.length_cons, sameII_len h.2]
  | [], _ :: _, h => by cases h
  | _ :: _, [], h => by cases h
theorem sameN_refl : ∀ l : List Int, sameN l l = true
  | [] => rfl
  | x :: l => by show (x == x && sameN l l) = true; rw [sameN_refl l]; simp
theorem sameII_refl : ∀ l : List (List Int), sameII l l = true
  | [] => rfl
  | x :: l => by show (sameN x x && sameII l l) = true; rw [sameN_refl x, sameII_refl l]; rfl
def iiG (a : List (List Int)) : Bool := m6 a.length && a.all fun l => m6 l.length
theorem same_loop1 (g0 : r21G0) {a b : List (List Int)} {s : Nat} (hs : s < a.length) (hs2 : s < b.length) (hsm : s ≤ 1000000) (hl : (a.getD s []).length ≤ 1000000) (he : (a.getD s []).length = (b.getD s []).length) : ∀ (m k : Nat), k ≤ (a.getD s []).length → (a.getD s []).length - k < m →
    r21L1 1000002 g0 m a b (s : Int) (k : Int) = bif sameN ((a.getD s []).drop k) ((b.getD s []).drop k) then g0 a b ((s + 1 : Nat) : Int) else some ⟨[pB false], [], []⟩
  | 0, _, _, h => absurd h (Nat.not_lt_zero _)
  | m + 1, k, hk, hm => by
    show r21S1 g0 (r21L1 1000002 g0 m) a b (s : Int) (k : Int) = _
    unfold r21S1
    simp only [Int.toNat_natCast]
    by_cases h0 : k < (a.getD s []).length
    · have h1 : k < (b.getD s []).length := by omega
      rw [inb_k hs, inb_k hs2, lt_k h0, inb_k h0, inb_k h1, wr_k (k := k) (by omega), same_loop1 g0 hs hs2 hsm hl he m (k + 1) h0 (by omega), drop_get h0 0, drop_get h1 0]
      show _ = bif ((a.getD s []).getD k 0 == (b.getD s []).getD k 0 && sameN ((a.getD s []).drop (k + 1)) ((b.getD s []).drop (k + 1))) then _ else _
      cases hx : ((a.getD s []).getD k 0 == (b.getD s []).getD k 0) with
      | true =>
        have : ((a.getD s []).getD k 0 != (b.getD s []).getD k 0) = false := by rw [bne, hx]; rfl
        rw [this]; rfl
      | false =>
        have : ((a.getD s []).getD k 0 != (b.getD s []).getD k 0) = true := by rw [bne, hx]; rfl
        rw [this]; rfl
    · rw [inb_k hs, nlt_k h0, wr_k (k := s) (by omega), List.drop_eq_nil_of_le (by omega), List.drop_eq_nil_of_le (by omega)]; rfl
theorem same_loop0 {a b : List (List Int)} (hg : iiG a = true) (he : a.length = b.length) : ∀ (m s : Nat), s ≤ a.length → a.length - s < m → r21L0 1000002 m a b (s : Int) = some ⟨[pB (sameII (a.drop s) (b.drop s))], [], []⟩
  | 0, _, _, h => absurd h (Nat.not_lt_zero _)
  | m + 1, s, hs, hm => by
    have hg' := hg
    unfold iiG m6 at hg
    simp only [Bool.and_eq_true, List.all_eq_true] at hg
    have hn := of_ble hg.1
    show r21S0 (r21L1 1000002 (r21L0 1000002 m) 1000002) (r21L0 1000002 m) a b (s : Int) = _
    unfold r21S0
    by_cases h0 : s < a.length
    · have h1 : s < b.length := by omega
      have hl := of_ble (hg.2 _ (get_mem h0 []))
      rw [lt_k h0, inb_k h0, inb_k h1, Int.toNat_natCast, drop_get h0 [], drop_get h1 []]
      by_cases hq : (a.getD s []).length = (b.getD s []).length
      · have e : (zn (a.getD s []).length != zn (b.getD s []).length) = false := by rw [hq]; simp
        rw [e]
        refine (same_loop1 (r21L0 1000002 m) h0 h1 (by omega) hl hq 1000002 0 (Nat.zero_le _) (by omega)).trans ?_
        rw [same_loop0 hg' he m (s + 1) h0 (by omega), List.drop_zero, List.drop_zero]
        show _ = some (Lf.mk [pB (sameN (a.getD s []) (b.getD s []) && sameII (a.drop (s + 1)) (b.drop (s + 1)))] [] [])
        cases sameN (a.getD s []) (b.getD s []) <;> rfl
      · have e : (zn (a.getD s []).length != zn (b.getD s []).length) = true := by simp only [zn, bne_iff_ne, ne_eq]; omega
        have e2 : sameN (a.getD s []) (b.getD s []) = false := by
          cases hc : sameN (a.getD s []) (b.getD s []) with
          | false => rfl
          | true => exact absurd (sameN_len hc) hq
        rw [e]
        show _ = some (Lf.mk [pB (sameN (a.getD s []) (b.getD s []) && sameII (a.drop (s + 1)) (b.drop (s + 1)))] [] [])
        rw [e2]; rfl
    · rw [nlt_k h0, List.drop_eq_nil_of_le (by omega), List.drop_eq_nil_of_le (by omega)]; rfl
def sameIIS : En.Spec := ⟨[], fun ds os => match ds, os with
  | [.p (.one (.d (.fz false) (.l (.l (.i .i64))) a)), .p (.one (.d (.fz false) (.l (.l (.i .i64))) b))], [] => .br (iiG a) (.leaf [pB (sameII a b)] [] []) .fail
  | _, _ => .fail⟩
theorem same_T (a b : List (List Int)) (h : iiG a = true) : r21M 1000002 a b = some ⟨[pB (sameII a b)], [], []⟩ := by
  unfold r21M r21T
  have hn : a.length ≤ 1000000 := by unfold iiG m6 at h; rw [Bool.and_eq_true] at h; exact of_ble h.1
  by_cases he : a.length = b.length
  · have e0 : (zn a.length != zn b.length) = false := by rw [he]; simp
    rw [e0]
    exact same_loop0 h he 1000002 0 (Nat.zero_le _) (by omega)
  · have e0 : (zn a.length != zn b.length) = true := by simp only [zn, bne_iff_ne, ne_eq]; omega
    have e1 : sameII a b = false := by
      cases hc : sameII a b with
      | false => rfl
      | true => exact absurd (sameII_len hc) he
    rw [e0, e1]; rfl
theorem sameII_ok : FnOk P C0 21 sameIIS := by
  refine fn_okC ctx1 (show P.funcs[21]? = some r21f by kernel_rfl) (of_decide_eq_true (by kernel_rfl)) (sameIIS) r21h (fun ds os lf hp => ?_)
  unfold sameIIS at hp
  simp only at hp
  split at hp
  · rename_i a b
    obtain ⟨hc, hp1⟩ := br_pick hp
    have hl := leaf_pick hp1
    subst hl
    exact ⟨_, (r21_ev _ a b).trans (same_T a b hc)⟩
  · cases hp
end Go.S22
