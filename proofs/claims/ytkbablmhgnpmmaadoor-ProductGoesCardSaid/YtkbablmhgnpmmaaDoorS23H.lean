/-
  Seat 23: what Make comes to.
-/
import Derived.Test.YtkbablmhgnpmmaaDoorS23G5
open Go Go.En
namespace Go.S23
/-! ### values -/
abbrev KM := List Int × List Int × Bool × List KyV
def numM (lim s q : Int) (k : KM) : Int × KM :=
  bif hasK s q k.2.2.2 then (getN s q k.2.2.2, k) else bif decide (zn k.1.length ≥ lim) then (0, k.1, k.2.1, true, k.2.2.2)
  else (zn k.1.length, k.1 ++ [s], k.2.1 ++ [q], k.2.2.1, putP k.2.2.2 s q (zn k.1.length))
def mvM (lim r : Int) : KM → List MvV → List MvV → KM × List MvV
  | k, [], acc => (k, acc)
  | k, v :: l, acc => mvM lim r (numM lim v.1 r k).2 l (acc ++ [((numM lim v.1 r k).1, v.2.1, ())])
def chM (lim r : Int) : KM → List ChV → List ChV → KM × List ChV
  | k, [], acc => (k, acc)
  | k, c :: l, acc => chM lim r (mvM lim r k c.2.1 []).1 l (acc ++ [(c.1, (mvM lim r k c.2.1 []).2, ())])
def rOf (le : List Int) (nx : List (List Int)) (S Q : List Int) (x : Nat) : Int := (nx.getD (Q.getD x 0).toNat []).getD (le.getD (S.getD x 0).toNat 0).toNat 0
def runM (le : List Int) (ch : List (List ChV)) (nx : List (List Int)) (lim : Int) : Nat → Nat → KM → List (List ChV) → KM × List (List ChV)
  | 0, _, k, CH => (k, CH)
  | f + 1, x, k, CH => bif decide ((x : Int) < zn k.1.length) && !k.2.2.1 then
      runM le ch nx lim f (x + 1) (chM lim (rOf le nx k.1 k.2.1 x) k (ch.getD (k.1.getD x 0).toNat []) []).1 (CH ++ [(chM lim (rOf le nx k.1 k.2.1 x) k (ch.getD (k.1.getD x 0).toNat []) []).2])
    else (k, CH)
def beginM (i i2 lim : Int) : KM := (numM lim i i2 ([], [], false, [])).2
/-- what is made: choices, states, the automaton's, the error -/
abbrev MkV := List (List ChV) × List Int × List Int × Er
def endM (r : KM × List (List ChV)) : MkV := bif r.1.2.2.1 then ([], [], [], .no 41) else (r.2, r.1.1, r.1.2.1, .nil)
def limOk (lim : Int) : Bool := decide (1 ≤ lim) && decide (lim ≤ 4096)
def makeV (i : Int) (ch : List (List ChV)) (nm : List ByteArray) (ho : List (List Int)) (le : List Int) (p i2 : Int) (nx : List (List Int)) (ps : List PairV) (lim : Int) : MkV :=
  bif allOk i ch nm ho le p i2 nx ps && limOk lim then endM (runM le ch nx lim 4097 0 (beginM i i2 lim) []) else ([], [], [], .no 1)
def makeG (ch : List (List ChV)) (nm : List ByteArray) (ho : List (List Int)) (le : List Int) (nx : List (List Int)) (ps : List PairV) : Bool := ofMG ch nm ho && (drG nx ps && big le.length)
def makeO (v : MkV) : Out := .leaf [.agg [.d (.fz true) (.i .i64) 0, .rw ⟨1, 0⟩, .d (.fz true) (.l .s) [], .rw ⟨1, 1⟩, .rw ⟨1, 2⟩, .rw ⟨1, 3⟩], pE v.2.2.2] [] [roC v.1, roN (v.1.map fun _ => []), roI v.2.1, roI v.2.2.1]
def makeS : En.Spec := ⟨[], fun ds os => match ds, os with
  | [.p (.agg [.d (.fz true) (.i .i64) i, .d (.fz false) (.l (.l (.p .s (.p (.l (.p (.i .i64) (.p (.i .i64) .u))) .u)))) ch, .d (.fz false) (.l .s) nm, .d (.fz false) (.l (.l (.i .i64))) ho]), .p (.one (.d (.fz false) (.l (.i .i64)) le)),
     .p (.agg [.d (.fz true) (.i .i64) p, .d (.fz true) (.i .i64) i2, .d (.fz false) (.l (.l (.i .i64))) nx, .d (.fz false) (.l (.p (.l (.i .i64)) (.p (.l (.i .i64)) .u))) ps]), .p (.one (.d (.fz true) (.i .i64) lim))], [] =>
    .br (makeG ch nm ho le nx ps) (makeO (makeV i ch nm ho le p i2 nx ps lim)) .fail
  | _, _ => .fail⟩
/-! ### what holds all along -/
structure Inv (n N L : Nat) (k : KM) : Prop where
  len : k.1.length = k.2.1.length
  le : k.1.length ≤ L
  s : ∀ x ∈ k.1, 0 ≤ x ∧ x < (n : Int)
  q : ∀ x ∈ k.2.1, 0 ≤ x ∧ x < (N : Int)
theorem num_inv {n N L : Nat} {k : KM} (h : Inv n N L k) {s q : Int} (hs : 0 ≤ s ∧ s < (n : Int)) (hq : 0 ≤ q ∧ q < (N : Int)) : Inv n N L (numM (L : Int) s q k).2 := by
  unfold numM
  cases hasK s q k.2.2.2 with
  | true => exact h
  | false =>
    by_cases hl : zn k.1.length ≥ (L : Int)
    · rw [cond_false, decide_eq_true hl]; exact ⟨h.len, h.le, h.s, h.q⟩
    · rw [cond_false, decide_eq_false hl]
      simp only [zn] at hl
      refine ⟨by simp [h.len], by simp; omega, fun x hx => ?_, fun x hx => ?_⟩
      · rcases List.mem_append.1 hx with hx | hx
        · exact h.s x hx
        · rw [List.mem_singleton.1 hx]; exact hs
      · rcases List.mem_append.1 hx with hx | hx
        · exact h.q x hx
        · rw [List.mem_singleton.1 hx]; exact hq
theorem mv_inv {n N L : Nat} {r : Int} (hr : 0 ≤ r ∧ r < (N : Int)) : ∀ (l : List MvV) {k : KM} (acc : List MvV), Inv n N L k → (∀ v ∈ l, 0 ≤ v.1 ∧ v.1 < (n : Int)) → Inv n N L (mvM (L : Int) r k l acc).1
  | [], _, _, h, _ => h
  | v :: l, k, acc, h, hl => mv_inv hr l _ (num_inv h (hl v (List.mem_cons_self ..)) hr) (fun x hx => hl x (List.mem_cons_of_mem _ hx))
theorem ch_inv {n N L : Nat} {r : Int} (hr : 0 ≤ r ∧ r < (N : Int)) : ∀ (l : List ChV) {k : KM} (acc : List ChV), Inv n N L k → (∀ c ∈ l, ∀ v ∈ c.2.1, 0 ≤ v.1 ∧ v.1 < (n : Int)) → Inv n N L (chM (L : Int) r k l acc).1
  | [], _, _, h, _ => h
  | c :: l, k, acc, h, hl => ch_inv hr l _ (mv_inv hr c.2.1 [] h (hl c (List.mem_cons_self ..))) (fun x hx => hl x (List.mem_cons_of_mem _ hx))
/-! ### what the guards say -/
theorem mdG_of {ch : List (List ChV)} {nm : List ByteArray} {ho : List (List Int)} (h : ofMG ch nm ho = true) : mdG ch nm ho = true := by
  unfold ofMG m6 at h
  unfold mdG chG mvG
  simp only [Bool.and_eq_true, List.all_eq_true] at h ⊢
  obtain ⟨⟨h1, h2⟩, h3, h4, h5⟩ := h
  have b : ∀ {n : Nat}, n.ble 1000000 = true → big n = true := fun h => ble_of (by have := of_ble h; omega)
  exact ⟨⟨b h1, fun l hl => ⟨b (h2 l hl).1, fun c hc => b ((h2 l hl).2 c hc)⟩⟩, b h3, b h4, fun l hl => b (h5 l hl)⟩
theorem mvF_range {z : Int} : ∀ {l seen : List MvV}, mvF z seen l = true → ∀ v ∈ l, 0 ≤ v.1 ∧ v.1 < z
  | v :: l, seen, h, x, hx => by
    have h : (!(decide (v.1 < 0) || (decide (v.1 ≥ z) || decide (v.2.1 < 1))) && (!(seen.any fun y => y.1 == v.1) && mvF z (seen ++ [v]) l)) = true := h
    simp only [Bool.and_eq_true, Bool.not_eq_true', Bool.or_eq_false_iff, decide_eq_false_iff_not] at h
    rcases List.mem_cons.1 hx with rfl | hx
    · omega
    · exact mvF_range h.2.2 x hx
theorem rows_mem {z K : Int} : ∀ {ch : List (List ChV)} {ho : List (List Int)}, rowsR z K ch ho = true → ∀ l ∈ ch, ∀ c ∈ l, okC z c = true
  | l :: ls, ho, h, x, hx => by
    have h : (rowR z K l (ho.getD 0 []) && rowsR z K ls (ho.drop 1)) = true := h
    rw [Bool.and_eq_true] at h
    rcases List.mem_cons.1 hx with rfl | hx
    · have h1 := h.1
      unfold rowR at h1
      simp only [Bool.and_eq_true, List.all_eq_true] at h1
      exact h1.2.2
    · exact rows_mem h.2 x hx
structure Facts (i : Int) (ch : List (List ChV)) (le : List Int) (i2 : Int) (nx : List (List Int)) : Prop where
  hn : 1 ≤ ch.length ∧ ch.length ≤ 4096
  hN : 1 ≤ nx.length ∧ nx.length ≤ 4096
  hi : 0 ≤ i ∧ i < (ch.length : Int)
  hi2 : 0 ≤ i2 ∧ i2 < (nx.length : Int)
  hle : le.length = ch.length
  hmv : ∀ l ∈ ch, ∀ c ∈ l, ∀ v ∈ c.2.1, 0 ≤ v.1 ∧ v.1 < (ch.length : Int)
  hnx : ∀ l ∈ nx, ∀ q ∈ l, 0 ≤ q ∧ q < (nx.length : Int)
  hat : ∀ x ∈ le, ∀ l ∈ nx, 0 ≤ x ∧ x < (l.length : Int)
theorem inF_p {n i : Int} (h : inF n i = true) : 0 ≤ i ∧ i < n := by
  unfold inF at h
  rw [Bool.and_eq_true, decide_eq_true_eq, decide_eq_true_eq] at h
  exact h
theorem headM_p {i : Int} {ch : List (List ChV)} {ho : List (List Int)} (h : headM i ch ho = true) : (1 ≤ ch.length ∧ ch.length ≤ 4096) ∧ (0 ≤ i ∧ i < (ch.length : Int)) ∧ ho.length = ch.length := by
  unfold headM at h
  simp only [Bool.not_eq_true', Bool.or_eq_false_iff, decide_eq_false_iff_not, bne_eq_false_iff_eq, zn] at h
  omega
theorem badL_no {n p : Int} {l : List Int} (h : badL n p l = false) : (l.length : Int) = ((2 ^ p.toNat : Nat) : Int) ∧ ∀ q ∈ l, 0 ≤ q ∧ q < n := by
  unfold badL at h
  simp only [Bool.or_eq_false_iff, Bool.not_eq_false', beq_iff_eq, zn, List.any_eq_false] at h
  refine ⟨h.1, fun q hq => ?_⟩
  have := h.2 q hq
  unfold nin at this
  exact inF_p (by simpa using this)
theorem facts {i : Int} {ch : List (List ChV)} {nm : List ByteArray} {ho : List (List Int)} {le : List Int} {p i2 : Int} {nx : List (List Int)} {ps : List PairV} (h : allOk i ch nm ho le p i2 nx ps = true) : Facts i ch le i2 nx := by
  unfold allOk mdOk drOk at h
  simp only [Bool.and_eq_true, Bool.not_eq_true', beq_iff_eq] at h
  obtain ⟨⟨h1, _, h2⟩, ⟨h3, h4, _⟩, h5, h6⟩ := h
  have h1 := headM_p h1
  have h3 := head_p h3
  have hrow : ∀ l ∈ nx, (l.length : Int) = ((2 ^ p.toNat : Nat) : Int) ∧ ∀ q ∈ l, 0 ≤ q ∧ q < (nx.length : Int) := fun l hl => badL_no (by
    have := List.any_eq_false.1 h4 l hl
    exact eq_false_of_ne_true this)
  refine ⟨h1.1, h3.2.1, h1.2.1, h3.2.2.1, by simp only [zn] at h5; omega, fun l hl c hc v hv => ?_, fun l hl => (hrow l hl).2, fun x hx l hl => ?_⟩
  · have := rows_mem h2 l hl c hc
    unfold okC at this
    rw [Bool.and_eq_true] at this
    exact mvF_range this.2 v hv
  · have a := inF_p (List.all_eq_true.1 h6 x hx)
    have b := (hrow l hl).1
    have c := (hrow _ (get_mem (show 0 < nx.length by omega) [])).1
    simp only [zn] at a
    omega
theorem letters_same {i : Int} {ch : List (List ChV)} {nm : List ByteArray} {ho : List (List Int)} {le : List Int} {p i2 : Int} {nx : List (List Int)} {ps : List PairV} (hd : drOk p i2 nx ps = true) : le.any (nin (shlF .i64 1 p)) = !(le.all (inF (zn (nx.getD 0 []).length))) := by
  unfold drOk at hd
  simp only [Bool.and_eq_true, Bool.not_eq_true'] at hd
  have h3 := head_p hd.1
  have hr := (badL_no (by
    have := List.any_eq_false.1 hd.2.1 _ (get_mem (show 0 < nx.length by omega) [])
    exact eq_false_of_ne_true this)).1
  rw [shl_pow h3.1.1 (by omega), ← hr, List.all_eq_not_any_not, Bool.not_not]
  rfl
/-! ### the loops -/
section
variable (le : List Int) (i : Int) (ch : List (List ChV)) (nm : List ByteArray) (ho : List (List Int)) (p i2 : Int) (nx : List (List Int)) (ps : List PairV) (z0 z1 : Int)
theorem ll6_of {n N L : Nat} (hL : L ≤ 4096) {k : KM} (h : Inv n N L k) : ll6 k.1 k.2.1 = true := by
  unfold ll6
  have := h.le
  have := h.len
  rw [ble_of (show k.1.length ≤ 1000000 by omega), ble_of (show k.2.1.length ≤ 1000000 by omega)]; rfl
theorem mk_loop3 {n' N L : Nat} (hL : L ≤ 4096) (g1 : f11G1) (g2 : f11G2) (x r : Int) (hr : 0 ≤ r ∧ r < (N : Int)) (lc : List ChV) {c : Nat} (hc : c ≤ 1000000) {mv : List MvV} (hm6 : mv.length ≤ 1000000) (hmv : ∀ v ∈ mv, 0 ≤ v.1 ∧ v.1 < (n' : Int)) (la : List ChV) (hla : la.length ≤ 1000000) (a : ByteArray) (CH : List (List ChV)) (HO : List (List Int)) :
    ∀ (m n j : Nat) (k : KM) (acc : List MvV), j ≤ mv.length → mv.length - j < m → acc.length = j → Inv n' N L k →
    f11L3 n g1 g2 m le x r lc (zn lc.length) (c : Int) mv (zn mv.length) (j : Int) i ch nm ho p i2 nx ps z0 z1 (L : Int) k.2.2.1 la a CH HO k.1 k.2.1 k.2.2.2 acc
      = g2 le x r lc (zn lc.length) ((c + 1 : Nat) : Int) i ch nm ho p i2 nx ps z0 z1 (L : Int) (mvM (L : Int) r k (mv.drop j) acc).1.2.2.1 (la ++ [(a, (mvM (L : Int) r k (mv.drop j) acc).2, ())]) CH HO (mvM (L : Int) r k (mv.drop j) acc).1.1 (mvM (L : Int) r k (mv.drop j) acc).1.2.1 (mvM (L : Int) r k (mv.drop j) acc).1.2.2.2
  | 0, _, _, _, _, _, h, _, _ => absurd h (Nat.not_lt_zero _)
  | m + 1, n, j, k, acc, hj, hm, ha, hi => by
    show f11S3 g1 g2 (f11L3 n g1 g2 m) le x r lc (zn lc.length) (c : Int) mv (zn mv.length) (j : Int) i ch nm ho p i2 nx ps z0 z1 (L : Int) k.2.2.1 la a CH HO k.1 k.2.1 k.2.2.2 acc = _
    unfold f11S3
    by_cases h0 : j < mv.length
    · have hv := hmv _ (get_mem h0 (0, 0, ()))
      have hin := num_inv hi hv hr
      have e3 : decide ((acc.length + 1) * 16 ≤ 140737488355328) = true := by
        rw [decide_eq_true_eq]; omega
      have ih := mk_loop3 hL g1 g2 x r hr lc hc hm6 hmv la hla a CH HO m n (j + 1) (numM (L : Int) (mv.getD j (0, 0, ())).1 r k).2 (acc ++ [((numM (L : Int) (mv.getD j (0, 0, ())).1 r k).1, (mv.getD j (0, 0, ())).2.1, ())]) h0 (by omega) (by simp [ha]) hin
      rw [lt_k h0, inb_k h0, wr_k (k := j) (by omega), Int.toNat_natCast, ll6_of hL hi, drop_get h0 (0, 0, ())]
      simp only [List.length_singleton]
      rw [e3]
      refine Eq.trans ?_ ih
      unfold numM
      cases hasK (mv.getD j (0, 0, ())).1 r k.2.2.2 with
      | true => rfl
      | false => cases decide (zn k.1.length ≥ (L : Int)) <;> rfl
    · have e3 : ∀ y : ChV, decide ((la.length + [y].length) * 40 ≤ 140737488355328) = true := fun y => by
        rw [decide_eq_true_eq, List.length_singleton]; omega
      rw [nlt_k h0, List.drop_eq_nil_of_le (by omega), e3, wr_k (k := c) (by omega)]; rfl
theorem mk_loop2 {n' N L : Nat} (hL : L ≤ 4096) (g1 : f11G1) {x : Nat} (hx : x ≤ 4096) (r : Int) (hr : 0 ≤ r ∧ r < (N : Int)) {lc : List ChV} (hlc : lc.length ≤ 1000000) (hm6 : ∀ c ∈ lc, c.2.1.length ≤ 1000000) (hmv : ∀ c ∈ lc, ∀ v ∈ c.2.1, 0 ≤ v.1 ∧ v.1 < (n' : Int)) (CH : List (List ChV)) (hCH : CH.length ≤ 4096) (HO : List (List Int)) (hHO : HO.length ≤ 4096) :
    ∀ (m c : Nat) (k : KM) (la : List ChV), c ≤ lc.length → lc.length - c < m → la.length = c → Inv n' N L k →
    f11L2 1000001 g1 m le (x : Int) r lc (zn lc.length) (c : Int) i ch nm ho p i2 nx ps z0 z1 (L : Int) k.2.2.1 la CH HO k.1 k.2.1 k.2.2.2
      = g1 le ((x + 1 : Nat) : Int) i ch nm ho p i2 nx ps z0 z1 (L : Int) (chM (L : Int) r k (lc.drop c) la).1.2.2.1 (CH ++ [(chM (L : Int) r k (lc.drop c) la).2]) (HO ++ [[]]) (chM (L : Int) r k (lc.drop c) la).1.1 (chM (L : Int) r k (lc.drop c) la).1.2.1 (chM (L : Int) r k (lc.drop c) la).1.2.2.2
  | 0, _, _, _, _, h, _, _ => absurd h (Nat.not_lt_zero _)
  | m + 1, c, k, la, hc, hm, ha, hi => by
    show f11S2 (f11L3 1000001 g1 (f11L2 1000001 g1 m) 1000001) g1 (f11L2 1000001 g1 m) le (x : Int) r lc (zn lc.length) (c : Int) i ch nm ho p i2 nx ps z0 z1 (L : Int) k.2.2.1 la CH HO k.1 k.2.1 k.2.2.2 = _
    unfold f11S2
    by_cases h0 : c < lc.length
    · have hmem := get_mem h0 (({ data := #[] }, [], ()) : ChV)
      have r3 := mk_loop3 le i ch nm ho p i2 nx ps z0 z1 hL g1 (f11L2 1000001 g1 m) (x : Int) r hr lc (c := c) (by omega) (hm6 _ hmem) (hmv _ hmem) la (by omega) (lc.getD c ({ data := #[] }, [], ())).1 CH HO 1000001 1000001 0 k [] (Nat.zero_le _) (by have := hm6 _ hmem; omega) rfl hi
      have ih := mk_loop2 hL g1 hx r hr hlc hm6 hmv CH hCH HO hHO m (c + 1) (mvM (L : Int) r k (lc.getD c ({ data := #[] }, [], ())).2.1 []).1 (la ++ [((lc.getD c ({ data := #[] }, [], ())).1, (mvM (L : Int) r k (lc.getD c ({ data := #[] }, [], ())).2.1 []).2, ())]) h0 (by omega) (by simp [ha]) (mv_inv hr _ [] hi (hmv _ hmem))
      rw [lt_k h0, inb_k h0, Int.toNat_natCast, drop_get h0 (({ data := #[] }, [], ()) : ChV)]
      rw [List.drop_zero] at r3
      exact r3.trans ih
    · have e3 : ∀ y : List ChV, decide ((CH.length + [y].length) * 24 ≤ 140737488355328) = true := fun y => by
        rw [decide_eq_true_eq, List.length_singleton]; omega
      have e4 : decide ((HO.length + 1) * 24 ≤ 140737488355328) = true := by rw [decide_eq_true_eq]; omega
      rw [nlt_k h0, List.drop_eq_nil_of_le (by omega), e3, e4, wr_k (k := x) (by omega)]; rfl
theorem mk_loop1 (hf : Facts i ch le i2 nx) (hg : ofMG ch nm ho = true) {L : Nat} (hL : L ≤ 4096) :
    ∀ (m f x : Nat) (k : KM) (CH : List (List ChV)), L - x < m → L - x < f → x ≤ L → CH.length = x → Inv ch.length nx.length L k →
    f11L1 1000001 m le (x : Int) i ch nm ho p i2 nx ps z0 0 (L : Int) k.2.2.1 CH (List.replicate x []) k.1 k.2.1 k.2.2.2 = (makeO (endM (runM le ch nx (L : Int) f x k CH))).pick
  | 0, _, _, _, _, h, _, _, _, _ => absurd h (Nat.not_lt_zero _)
  | _, 0, _, _, _, _, h, _, _, _ => absurd h (Nat.not_lt_zero _)
  | m + 1, f + 1, x, k, CH, hm, hf2, hxL, hCH, hi => by
    show f11S1 (f11L2 1000001 (f11L1 1000001 m) 1000001) (f11L1 1000001 m) le (x : Int) i ch nm ho p i2 nx ps z0 0 (L : Int) k.2.2.1 CH (List.replicate x []) k.1 k.2.1 k.2.2.2 = _
    unfold f11S1 runM
    have hle := hi.le
    by_cases h0 : x < k.1.length
    · rw [lt_k h0]
      cases ho' : k.2.2.1 with
      | true =>
        show _ = (makeO (endM (k, CH))).pick
        unfold endM
        rw [ho']; rfl
      | false =>
        have h1 : x < k.2.1.length := by rw [← hi.len]; exact h0
        have hs := hi.s _ (get_mem h0 0)
        have hq := hi.q _ (get_mem h1 0)
        obtain ⟨s, es⟩ := Int.eq_ofNat_of_zero_le hs.1
        obtain ⟨q, eq⟩ := Int.eq_ofNat_of_zero_le hq.1
        have hs' : s < ch.length := by have := hs.2; omega
        have hq' : q < nx.length := by have := hq.2; omega
        have hsl : s < le.length := by rw [hf.hle]; exact hs'
        have hat := hf.hat _ (get_mem hsl 0) _ (get_mem hq' [])
        obtain ⟨t, et⟩ := Int.eq_ofNat_of_zero_le hat.1
        have ht : t < (nx.getD q []).length := by have := hat.2; omega
        have hr := hf.hnx _ (get_mem hq' []) _ (get_mem ht 0)
        have eR : rOf le nx k.1 k.2.1 x = (nx.getD q []).getD t 0 := by
          unfold rOf
          rw [es, eq, Int.toNat_natCast, Int.toNat_natCast, et, Int.toNat_natCast]
        unfold ofMG m6 at hg
        simp only [Bool.and_eq_true, List.all_eq_true] at hg
        have hlm := get_mem hs' []
        have hg2 := hg.1.2 _ hlm
        have r2 := mk_loop2 le i ch nm ho p i2 nx ps z0 0 hL (f11L1 1000001 m) (x := x) (by omega) ((nx.getD q []).getD t 0) hr (of_ble hg2.1) (fun c hc => of_ble (hg2.2 c hc)) (fun c hc => hf.hmv _ hlm c hc) CH (by omega) (List.replicate x []) (by rw [List.length_replicate]; omega) 1000001 0 k [] (Nat.zero_le _) (by have := of_ble hg2.1; omega) rfl hi
        have hin := ch_inv (L := L) hr (ch.getD s []) [] hi (fun c hc => hf.hmv _ hlm c hc)
        have ih := mk_loop1 hf (by unfold ofMG m6; simp only [Bool.and_eq_true, List.all_eq_true]; exact hg) hL m f (x + 1) (chM (L : Int) ((nx.getD q []).getD t 0) k (ch.getD s []) []).1 (CH ++ [(chM (L : Int) ((nx.getD q []).getD t 0) k (ch.getD s []) []).2]) (by omega) (by omega) (by omega) (by simp [hCH]) hin
        rw [List.drop_zero, ho'] at r2
        have erep : List.replicate x ([] : List Int) ++ [[]] = List.replicate (x + 1) [] := by rw [← List.replicate_succ']
        rw [erep] at r2
        rw [eR, inb_k h0, inb_k h1, Int.toNat_natCast, es, eq, inb_k hq', inb_k hsl, Int.toNat_natCast, Int.toNat_natCast, et, inb_k ht, inb_k hs', Int.toNat_natCast]
        exact r2.trans ih
    · rw [nlt_k h0]
      have hrep : List.replicate x ([] : List Int) = CH.map fun _ => [] := by rw [← hCH]; exact (List.map_const' ..).symm
      cases ho' : k.2.2.1 with
      | true =>
        show _ = (makeO (endM (k, CH))).pick
        unfold endM
        rw [ho']; rfl
      | false =>
        show _ = (makeO (endM (k, CH))).pick
        unfold endM
        rw [ho', hrep]; rfl
end
theorem make_T (i : Int) (ch : List (List ChV)) (nm : List ByteArray) (ho : List (List Int)) (le : List Int) (p i2 : Int) (nx : List (List Int)) (ps : List PairV) (lim : Int) (h : makeG ch nm ho le nx ps = true) : f11M 1000001 i ch nm ho le p i2 nx ps lim = (makeO (makeV i ch nm ho le p i2 nx ps lim)).pick := by
  unfold makeG at h
  rw [Bool.and_eq_true, Bool.and_eq_true] at h
  obtain ⟨h1, h2, h3⟩ := h
  unfold f11M f11T makeV
  rw [mdG_of h1, h2]
  have hdef : allOk i ch nm ho le p i2 nx ps = (mdOk i ch nm ho && (drOk p i2 nx ps && (zn le.length == zn ch.length && le.all (inF (zn (nx.getD 0 []).length))))) := rfl
  cases hm : mdOk i ch nm ho with
  | false => rw [hdef, hm]; rfl
  | true =>
    cases hd : drOk p i2 nx ps with
    | false => rw [hdef, hm, hd]; rfl
    | true =>
      have hp0 : 0 ≤ p := by
        have hd' := hd
        unfold drOk at hd'
        rw [Bool.and_eq_true] at hd'
        exact (head_p hd'.1).1.1
      have eb : (zn le.length != zn ch.length) = !(zn le.length == zn ch.length) := rfl
      cases hl : (zn le.length == zn ch.length) with
      | false => rw [hdef, hm, hd, eb, hl]; rfl
      | true =>
        rw [eb, hl, h3, decide_eq_true hp0, letters_same (i := i) (ch := ch) (nm := nm) (ho := ho) hd]
        cases ha : le.all (inF (zn (nx.getD 0 []).length)) with
        | false => rw [hdef, hm, hd, hl, ha]; rfl
        | true =>
          have hall : allOk i ch nm ho le p i2 nx ps = true := by rw [hdef, hm, hd, hl, ha]; rfl
          rw [hall]
          unfold limOk
          by_cases hl1 : lim < 1
          · rw [decide_eq_true hl1, decide_eq_false (show ¬ 1 ≤ lim by omega)]; rfl
          · rw [decide_eq_false hl1, decide_eq_true (show 1 ≤ lim by omega)]
            by_cases hl2 : lim > 4096
            · rw [decide_eq_true hl2, decide_eq_false (show ¬ lim ≤ 4096 by omega)]; rfl
            · rw [decide_eq_false hl2, decide_eq_true (show lim ≤ 4096 by omega)]
              obtain ⟨L, rfl⟩ := Int.eq_ofNat_of_zero_le (show 0 ≤ lim by omega)
              have hf := facts hall
              have hi0 : Inv ch.length nx.length L ([], [], false, []) := ⟨rfl, Nat.zero_le _, fun x hx => (by cases hx), fun x hx => (by cases hx)⟩
              have hi := num_inv (L := L) hi0 hf.hi hf.hi2
              have r1 := mk_loop1 le i ch nm ho p i2 nx ps 0 hf h1 (L := L) (by omega) 1000001 4097 0 (beginM i i2 (L : Int)) [] (by omega) (by omega) (Nat.zero_le _) rfl hi
              have eb2 : beginM i i2 (L : Int) = ([i], [i2], false, putP [] i i2 0) := by
                unfold beginM numM
                have : decide (zn ([] : List Int).length ≥ (L : Int)) = false := by rw [decide_eq_false_iff_not]; simp [zn]; omega
                show (bif false then _ else bif decide (zn ([] : List Int).length ≥ (L : Int)) then _ else _ : Int × KM).2 = _
                rw [this]; rfl
              have hT : decide (zn ([] : List Int).length ≥ (L : Int)) = false := by rw [decide_eq_false_iff_not]; simp [zn]; omega
              rw [eb2] at r1
              show f11L0 1000001 1000001 le i ch nm ho p i2 nx ps 0 0 (L : Int) false [] [] [] [] [] = (makeO (endM (runM le ch nx (L : Int) 4097 0 (beginM i i2 (L : Int)) []))).pick
              rw [eb2]
              refine Eq.trans ?_ r1
              show f11S0 (f11L1 1000001 1000001) (f11L0 1000001 1000000) le i ch nm ho p i2 nx ps 0 0 (L : Int) false [] [] [] [] [] = _
              unfold f11S0
              show (bif true then bif false then _ else bif decide (zn ([] : List Int).length ≥ (L : Int)) then _ else _ else _) = _
              rw [hT]; rfl
theorem ctx23 : CtxOk C23 := fun _ _ h => tbl_ok (l := l23) ⟨checkM_ok, check_ok, con28_ok, nmb_ok, bs_ok, trivial⟩ h
theorem make_ok : FnOk P C0 11 makeS := by
  refine fn_okC ctx23 (show P.funcs[11]? = some f11f by kernel_rfl) (of_decide_eq_true (by kernel_rfl)) (makeS) f11h (fun ds os lf hp => ?_)
  unfold makeS at hp
  simp only at hp
  split at hp
  · rename_i i ch nm ho le p i2 nx ps lim
    simp only [Out.pick] at hp
    cases hc0 : makeG ch nm ho le nx ps with
    | false => rw [hc0] at hp; cases hp
    | true =>
      rw [hc0] at hp
      simp only [cond_true] at hp
      exact ⟨_, (f11_ev _ i ch nm ho le p i2 nx ps lim).trans ((make_T i ch nm ho le p i2 nx ps lim hc0).trans hp)⟩
  · cases hp
end Go.S23
