/-
  Seat 23: what the document's Make comes to.
-/
import Derived.Test.YtkbablmhgnpmmaaDoorS23H
open Go Go.En
namespace Go.S23
/-! ### values -/
abbrev SQ := List Int × List Int
def numR (lim s q : Int) (k : SQ) : Option (Int × SQ) :=
  bif decide (atF s q 0 k.1 k.2 < 0) then (bif decide (zn (k.1 ++ [s]).length > lim) then none else some (zn k.1.length, k.1 ++ [s], k.2 ++ [q])) else some (atF s q 0 k.1 k.2, k)
def mvR (lim r : Int) : SQ → List MvV → List MvV → Option (SQ × List MvV)
  | k, [], acc => some (k, acc)
  | k, v :: l, acc => (numR lim v.1 r k).elim none fun t => mvR lim r t.2 l (acc ++ [(t.1, v.2.1, ())])
def chR (lim r : Int) : SQ → List ChV → List ChV → Option (SQ × List ChV)
  | k, [], acc => some (k, acc)
  | k, c :: l, acc => (mvR lim r k c.2.1 []).elim none fun t => chR lim r t.1 l (acc ++ [(c.1, t.2, ())])
def runR (le : List Int) (ch : List (List ChV)) (nx : List (List Int)) (lim : Int) : Nat → Nat → SQ → List (List ChV) → Option (SQ × List (List ChV))
  | 0, _, k, CH => some (k, CH)
  | f + 1, x, k, CH => bif decide ((x : Int) < zn k.1.length) then
      (chR lim (rOf le nx k.1 k.2 x) k (ch.getD (k.1.getD x 0).toNat []) []).elim none fun t => runR le ch nx lim f (x + 1) t.1 (CH ++ [t.2])
    else some (k, CH)
abbrev RkV := List (List ChV) × List Int × List Int × Int
def endR (r : Option (SQ × List (List ChV))) : RkV := r.elim ([], [], [], 41) fun t => (t.2, t.1.1, t.1.2, 0)
def refV (i : Int) (ch : List (List ChV)) (nm : List ByteArray) (ho : List (List Int)) (le : List Int) (p i2 : Int) (nx : List (List Int)) (ps : List PairV) (lim : Int) : RkV :=
  bif allOk i ch nm ho le p i2 nx ps && limOk lim then endR (runR le ch nx lim 4097 0 ([i], [i2]) []) else ([], [], [], 1)
def refO (v : RkV) : Out := .leaf [.agg [.d (.fz true) (.i .i64) 0, .rw ⟨1, 0⟩, .d (.fz true) (.l .s) [], .rw ⟨1, 1⟩, .rw ⟨1, 2⟩, .rw ⟨1, 3⟩], pI v.2.2.2] [] [roR v.1, roN (v.1.map fun _ => []), roI v.2.1, roI v.2.2.1]
def refS : En.Spec := ⟨[], fun ds os => match ds, os with
  | [.p (.agg [.d (.fz true) (.i .i64) i, .d (.fz false) (.l (.l (.p .s (.p (.l (.p (.i .i64) (.p (.i .i64) .u))) .u)))) ch, .d (.fz false) (.l .s) nm, .d (.fz false) (.l (.l (.i .i64))) ho]), .p (.one (.d (.fz false) (.l (.i .i64)) le)),
     .p (.agg [.d (.fz true) (.i .i64) p, .d (.fz true) (.i .i64) i2, .d (.fz false) (.l (.l (.i .i64))) nx, .d (.fz false) (.l (.p (.l (.i .i64)) (.p (.l (.i .i64)) .u))) ps]), .p (.one (.d (.fz true) (.i .i64) lim))], [] =>
    .br (makeG ch nm ho le nx ps) (refO (refV i ch nm ho le p i2 nx ps lim)) .fail
  | _, _ => .fail⟩
/-! ### what holds all along -/
structure InvR (n N L : Nat) (k : SQ) : Prop where
  len : k.1.length = k.2.length
  le : k.1.length ≤ L
  s : ∀ x ∈ k.1, 0 ≤ x ∧ x < (n : Int)
  q : ∀ x ∈ k.2, 0 ≤ x ∧ x < (N : Int)
/-- a longer one -/
def Pre (k k' : SQ) : Prop := k.1 <+: k'.1 ∧ k.1.length ≤ k'.1.length
theorem numR_inv {n N L : Nat} {k : SQ} (h : InvR n N L k) {s q : Int} (hs : 0 ≤ s ∧ s < (n : Int)) (hq : 0 ≤ q ∧ q < (N : Int)) {t : Int × SQ} (e : numR (L : Int) s q k = some t) : InvR n N L t.2 ∧ k.1 <+: t.2.1 := by
  unfold numR at e
  cases ha : decide (atF s q 0 k.1 k.2 < 0) with
  | false => rw [ha] at e; obtain rfl := Option.some.inj e; exact ⟨h, List.prefix_rfl⟩
  | true =>
    rw [ha, cond_true] at e
    by_cases hl : zn (k.1 ++ [s]).length > (L : Int)
    · rw [decide_eq_true hl] at e; cases e
    · rw [decide_eq_false hl, cond_false] at e
      obtain rfl := Option.some.inj e
      simp only [zn, List.length_append, List.length_singleton] at hl
      refine ⟨⟨by simp [h.len], by simp; omega, fun x hx => ?_, fun x hx => ?_⟩, List.prefix_append ..⟩
      · rcases List.mem_append.1 hx with hx | hx
        · exact h.s x hx
        · rw [List.mem_singleton.1 hx]; exact hs
      · rcases List.mem_append.1 hx with hx | hx
        · exact h.q x hx
        · rw [List.mem_singleton.1 hx]; exact hq
theorem mvR_inv {n N L : Nat} {r : Int} (hr : 0 ≤ r ∧ r < (N : Int)) : ∀ (l : List MvV) {k : SQ} (acc : List MvV) {t : SQ × List MvV}, InvR n N L k → (∀ v ∈ l, 0 ≤ v.1 ∧ v.1 < (n : Int)) → mvR (L : Int) r k l acc = some t → InvR n N L t.1 ∧ k.1 <+: t.1.1
  | [], k, acc, t, h, _, e => by obtain rfl := Option.some.inj e; exact ⟨h, List.prefix_rfl⟩
  | v :: l, k, acc, t, h, hl, e => by
    have e : ((numR (L : Int) v.1 r k).elim none fun t => mvR (L : Int) r t.2 l (acc ++ [(t.1, v.2.1, ())])) = some t := e
    cases hn : numR (L : Int) v.1 r k with
    | none => rw [hn] at e; cases e
    | some u =>
      rw [hn] at e
      obtain ⟨h1, h2⟩ := numR_inv h (hl v (List.mem_cons_self ..)) hr hn
      obtain ⟨h3, h4⟩ := mvR_inv hr l _ h1 (fun x hx => hl x (List.mem_cons_of_mem _ hx)) e
      exact ⟨h3, h2.trans h4⟩
theorem chR_inv {n N L : Nat} {r : Int} (hr : 0 ≤ r ∧ r < (N : Int)) : ∀ (l : List ChV) {k : SQ} (acc : List ChV) {t : SQ × List ChV}, InvR n N L k → (∀ c ∈ l, ∀ v ∈ c.2.1, 0 ≤ v.1 ∧ v.1 < (n : Int)) → chR (L : Int) r k l acc = some t → InvR n N L t.1 ∧ k.1 <+: t.1.1
  | [], k, acc, t, h, _, e => by obtain rfl := Option.some.inj e; exact ⟨h, List.prefix_rfl⟩
  | c :: l, k, acc, t, h, hl, e => by
    have e : ((mvR (L : Int) r k c.2.1 []).elim none fun t => chR (L : Int) r t.1 l (acc ++ [(c.1, t.2, ())])) = some t := e
    cases hn : mvR (L : Int) r k c.2.1 [] with
    | none => rw [hn] at e; cases e
    | some u =>
      rw [hn] at e
      obtain ⟨h1, h2⟩ := mvR_inv hr c.2.1 [] h (hl c (List.mem_cons_self ..)) hn
      obtain ⟨h3, h4⟩ := chR_inv hr l _ h1 (fun x hx => hl x (List.mem_cons_of_mem _ hx)) e
      exact ⟨h3, h2.trans h4⟩
theorem pre_get {a b : List Int} (h : a <+: b) {x : Nat} (hx : x < a.length) : x < b.length ∧ b.getD x 0 = a.getD x 0 := by
  obtain ⟨t, rfl⟩ := h
  refine ⟨by rw [List.length_append]; omega, ?_⟩
  rw [List.getD_eq_getElem?_getD, List.getD_eq_getElem?_getD, List.getElem?_append_left hx]
/-! ### the loops -/
section
variable (le : List Int) (i : Int) (ch : List (List ChV)) (nm : List ByteArray) (ho : List (List Int)) (p i2 : Int) (nx : List (List Int)) (ps : List PairV) (z0 : Int)
abbrev errR : Option Lf := (refO ([], [], [], 41)).pick
theorem rk_loop2 {n' N L : Nat} (hL : L ≤ 4096) (g0 : f14G0) (g1 : f14G1) (x r : Int) (hr : 0 ≤ r ∧ r < (N : Int)) {c : Nat} (hc : c ≤ 1000000) {mv : List MvV} (hm6 : mv.length ≤ 1000000) (hmv : ∀ v ∈ mv, 0 ≤ v.1 ∧ v.1 < (n' : Int)) (la : List ChV) (hla : la.length ≤ 1000000) (a a2 : ByteArray) (CH : List (List ChV)) (HO : List (List Int)) :
    ∀ (m n j : Nat) (k : SQ) (acc : List MvV), j ≤ mv.length → mv.length - j < m → acc.length = j → InvR n' N L k →
    f14L2 n g0 g1 m le (L : Int) x r (c : Int) (j : Int) i ch nm ho p i2 nx ps z0 0 la a mv a2 CH HO k.1 k.2 acc
      = (mvR (L : Int) r k (mv.drop j) acc).elim errR fun t => g1 le (L : Int) x r ((c + 1 : Nat) : Int) i ch nm ho p i2 nx ps z0 0 (la ++ [(a2, t.2, ())]) CH HO t.1.1 t.1.2
  | 0, _, _, _, _, _, h, _, _ => absurd h (Nat.not_lt_zero _)
  | m + 1, n, j, k, acc, hj, hm, ha, hi => by
    show f14S2 g0 g1 (f14L2 n g0 g1 m) le (L : Int) x r (c : Int) (j : Int) i ch nm ho p i2 nx ps z0 0 la a mv a2 CH HO k.1 k.2 acc = _
    unfold f14S2
    by_cases h0 : j < mv.length
    · have hv := hmv _ (get_mem h0 (0, 0, ()))
      have hle := hi.le
      have hlen := hi.len
      have e3 : decide ((acc.length + 1) * 16 ≤ 140737488355328) = true := by rw [decide_eq_true_eq]; omega
      have e4 : decide ((k.1.length + 1) * 8 ≤ 140737488355328) = true := by rw [decide_eq_true_eq]; omega
      have e5 : decide ((k.2.length + 1) * 8 ≤ 140737488355328) = true := by rw [decide_eq_true_eq]; omega
      have e6 : (big k.1.length && k.1.length.beq k.2.length) = true := by
        rw [← hlen, show big k.1.length = true from ble_of (by omega), Nat.beq_refl]; rfl
      have ih : ∀ t, numR (L : Int) (mv.getD j (0, 0, ())).1 r k = some t → _ := fun t ht => rk_loop2 hL g0 g1 x r hr hc hm6 hmv la hla a a2 CH HO m n (j + 1) t.2 (acc ++ [(t.1, (mv.getD j (0, 0, ())).2.1, ())]) h0 (by omega) (by simp [ha]) (numR_inv hi hv hr ht).1
      rw [lt_k h0, inb_k h0, wr_k (k := j) (by omega), Int.toNat_natCast, e6, drop_get h0 (0, 0, ())]
      show _ = ((numR (L : Int) (mv.getD j (0, 0, ())).1 r k).elim none fun t => mvR (L : Int) r t.2 (mv.drop (j + 1)) (acc ++ [(t.1, (mv.getD j (0, 0, ())).2.1, ())])).elim errR _
      simp only [List.length_singleton]
      rw [e3, e4, e5]
      cases hn : numR (L : Int) (mv.getD j (0, 0, ())).1 r k with
      | none =>
        unfold numR at hn
        cases ha : decide (atF (mv.getD j (0, 0, ())).1 r 0 k.1 k.2 < 0) with
        | false => rw [ha] at hn; cases hn
        | true =>
          rw [ha, cond_true] at hn
          cases hl : decide (zn (k.1 ++ [(mv.getD j (0, 0, ())).1]).length > (L : Int)) with
          | false => rw [hl] at hn; cases hn
          | true => rfl
      | some t =>
        have ih := ih t hn
        unfold numR at hn
        cases ha : decide (atF (mv.getD j (0, 0, ())).1 r 0 k.1 k.2 < 0) with
        | false =>
          rw [ha] at hn
          obtain rfl := Option.some.inj hn
          exact ih
        | true =>
          rw [ha, cond_true] at hn
          cases hl : decide (zn (k.1 ++ [(mv.getD j (0, 0, ())).1]).length > (L : Int)) with
          | true => rw [hl] at hn; cases hn
          | false =>
            rw [hl, cond_false] at hn
            obtain rfl := Option.some.inj hn
            exact ih
    · have e3 : decide ((la.length + 1) * 40 ≤ 140737488355328) = true := by rw [decide_eq_true_eq]; omega
      rw [nlt_k h0, List.drop_eq_nil_of_le (by omega), wr_k (k := c) (by omega)]
      simp only [List.length_singleton]
      rw [e3]; rfl
theorem rk_loop1 {N L : Nat} (hL : L ≤ 4096) (g0 : f14G0) {x : Nat} (hx : x ≤ 4096) (r : Int) (hr : 0 ≤ r ∧ r < (N : Int)) {s : Nat} (hs : s < ch.length) (hlc : (cg ch s).length ≤ 1000000) (hm6 : ∀ c ∈ cg ch s, c.2.1.length ≤ 1000000) (hmv : ∀ c ∈ cg ch s, ∀ v ∈ c.2.1, 0 ≤ v.1 ∧ v.1 < (ch.length : Int)) (CH : List (List ChV)) (hCH : CH.length ≤ 4096) (HO : List (List Int)) (hHO : HO.length ≤ 4096) :
    ∀ (m c : Nat) (k : SQ) (la : List ChV), c ≤ (cg ch s).length → (cg ch s).length - c < m → la.length = c → InvR ch.length N L k → x < k.1.length → k.1.getD x 0 = (s : Int) →
    f14L1 1000001 g0 m le (L : Int) (x : Int) r (c : Int) i ch nm ho p i2 nx ps z0 0 la CH HO k.1 k.2
      = (chR (L : Int) r k ((cg ch s).drop c) la).elim errR fun t => g0 le (L : Int) ((x + 1 : Nat) : Int) i ch nm ho p i2 nx ps z0 0 (CH ++ [t.2]) (HO ++ [[]]) t.1.1 t.1.2
  | 0, _, _, _, _, h, _, _, _, _ => absurd h (Nat.not_lt_zero _)
  | m + 1, c, k, la, hc, hm, ha, hi, hxl, hxs => by
    show f14S1 (f14L2 1000001 g0 (f14L1 1000001 g0 m) 1000001) g0 (f14L1 1000001 g0 m) le (L : Int) (x : Int) r (c : Int) i ch nm ho p i2 nx ps z0 0 la CH HO k.1 k.2 = _
    unfold f14S1
    rw [inb_k hxl, Int.toNat_natCast, hxs, inb_k hs, Int.toNat_natCast]
    by_cases h0 : c < (cg ch s).length
    · have hmem := get_mem h0 (({ data := #[] }, [], ()) : ChV)
      have r2 := rk_loop2 le i ch nm ho p i2 nx ps z0 hL g0 (f14L1 1000001 g0 m) (x : Int) r hr (c := c) (by omega) (hm6 _ hmem) (hmv _ hmem) la (by omega) (cgg ch s c).1 (cgg ch s c).1 CH HO 1000001 1000001 0 k [] (Nat.zero_le _) (by have := hm6 _ hmem; omega) rfl hi
      rw [lt_k h0, inb_k h0, Int.toNat_natCast, drop_get h0 (({ data := #[] }, [], ()) : ChV)]
      rw [List.drop_zero] at r2
      refine Eq.trans r2 ?_
      show _ = ((mvR (L : Int) r k (cgg ch s c).2.1 []).elim none fun t => chR (L : Int) r t.1 ((cg ch s).drop (c + 1)) (la ++ [((cgg ch s c).1, t.2, ())])).elim errR _
      cases hn : mvR (L : Int) r k (cgg ch s c).2.1 [] with
      | none =>
        rfl
      | some t =>
        obtain ⟨h1, h2⟩ := mvR_inv hr _ [] hi (hmv _ hmem) hn
        have h3 := pre_get h2 hxl
        exact rk_loop1 hL g0 hx r hr hs hlc hm6 hmv CH hCH HO hHO m (c + 1) t.1 (la ++ [((cgg ch s c).1, t.2, ())]) h0 (by omega) (by simp [ha]) h1 h3.1 (h3.2.trans hxs)
    · have e3 : decide ((CH.length + 1) * 24 ≤ 140737488355328) = true := by rw [decide_eq_true_eq]; omega
      have e4 : decide ((HO.length + 1) * 24 ≤ 140737488355328) = true := by rw [decide_eq_true_eq]; omega
      rw [nlt_k h0, List.drop_eq_nil_of_le (by omega), wr_k (k := x) (by omega)]
      simp only [List.length_singleton]
      rw [e3, e4]; rfl
theorem rk_loop0 (hf : Facts i ch le i2 nx) (hg : ofMG ch nm ho = true) {L : Nat} (hL : L ≤ 4096) :
    ∀ (m f x : Nat) (k : SQ) (CH : List (List ChV)), L - x < m → L - x < f → x ≤ L → CH.length = x → InvR ch.length nx.length L k →
    f14L0 1000001 m le (L : Int) (x : Int) i ch nm ho p i2 nx ps z0 0 CH (List.replicate x []) k.1 k.2 = (refO (endR (runR le ch nx (L : Int) f x k CH))).pick
  | 0, _, _, _, _, h, _, _, _, _ => absurd h (Nat.not_lt_zero _)
  | _, 0, _, _, _, _, h, _, _, _ => absurd h (Nat.not_lt_zero _)
  | m + 1, f + 1, x, k, CH, hm, hf2, hxL, hCH, hi => by
    show f14S0 (f14L1 1000001 (f14L0 1000001 m) 1000001) (f14L0 1000001 m) le (L : Int) (x : Int) i ch nm ho p i2 nx ps z0 0 CH (List.replicate x []) k.1 k.2 = _
    unfold f14S0 runR
    have hle := hi.le
    by_cases h0 : x < k.1.length
    · rw [lt_k h0]
      have h1 : x < k.2.length := by rw [← hi.len]; exact h0
      have hs := hi.s _ (get_mem h0 0)
      have hq := hi.q _ (get_mem h1 0)
      obtain ⟨s, es⟩ := Int.eq_ofNat_of_zero_le hs.1
      obtain ⟨q, eq⟩ := Int.eq_ofNat_of_zero_le hq.1
      have hs' : s < ch.length := by have := hs.2; omega
      have hq' : q < nx.length := by have := hq.2; omega
      have hsl : s < le.length := by rw [hf.hle]; exact hs'
      have hat := hf.hat _ (get_mem hsl 0) _ (get_mem hq' [])
      obtain ⟨t, et⟩ := Int.eq_ofNat_of_zero_le hat.1
      have ht : t < (nx.getD q []).length := by have := hat.2; omega
      have hr := hf.hnx _ (get_mem hq' []) _ (get_mem ht 0)
      have eR : rOf le nx k.1 k.2 x = (nx.getD q []).getD t 0 := by
        unfold rOf
        rw [es, eq, Int.toNat_natCast, Int.toNat_natCast, et, Int.toNat_natCast]
      unfold ofMG m6 at hg
      simp only [Bool.and_eq_true, List.all_eq_true] at hg
      have hlm := get_mem hs' []
      have hg2 := hg.1.2 _ hlm
      have r1 := rk_loop1 le i ch nm ho p i2 nx ps z0 hL (f14L0 1000001 m) (x := x) (by omega) ((nx.getD q []).getD t 0) hr hs' (of_ble hg2.1) (fun c hc => of_ble (hg2.2 c hc)) (fun c hc => hf.hmv _ hlm c hc) CH (by omega) (List.replicate x []) (by rw [List.length_replicate]; omega) 1000001 0 k [] (Nat.zero_le _) (by have : (cg ch s).length ≤ 1000000 := of_ble hg2.1; omega) rfl hi h0 es
      have erep : List.replicate x ([] : List Int) ++ [[]] = List.replicate (x + 1) [] := by rw [← List.replicate_succ']
      rw [List.drop_zero, erep] at r1
      rw [eR, inb_k h0, inb_k h1, Int.toNat_natCast, es, eq, inb_k hq', inb_k hsl, Int.toNat_natCast, Int.toNat_natCast, et, inb_k ht, Int.toNat_natCast]
      refine Eq.trans r1 ?_
      show _ = (refO (endR ((chR (L : Int) ((nx.getD q []).getD t 0) k (ch.getD s []) []).elim none fun t => runR le ch nx (L : Int) f (x + 1) t.1 (CH ++ [t.2])))).pick
      cases hn : chR (L : Int) ((nx.getD q []).getD t 0) k (ch.getD s []) [] with
      | none =>
        rfl
      | some t' =>
        obtain ⟨h2, _⟩ := chR_inv hr (ch.getD s []) [] hi (fun c hc => hf.hmv _ hlm c hc) hn
        exact rk_loop0 hf (by unfold ofMG m6; simp only [Bool.and_eq_true, List.all_eq_true]; exact hg) hL m f (x + 1) t'.1 (CH ++ [t'.2]) (by omega) (by omega) (by omega) (by simp [hCH]) h2
    · rw [nlt_k h0]
      have hrep : List.replicate x ([] : List Int) = CH.map fun _ => [] := by rw [← hCH]; exact (List.map_const' ..).symm
      show _ = (refO (endR (some (k, CH)))).pick
      rw [hrep]; rfl
end
theorem ref_T (i : Int) (ch : List (List ChV)) (nm : List ByteArray) (ho : List (List Int)) (le : List Int) (p i2 : Int) (nx : List (List Int)) (ps : List PairV) (lim : Int) (h : makeG ch nm ho le nx ps = true) : f14M 1000001 i ch nm ho le p i2 nx ps lim = (refO (refV i ch nm ho le p i2 nx ps lim)).pick := by
  unfold makeG at h
  rw [Bool.and_eq_true, Bool.and_eq_true] at h
  obtain ⟨h1, h2, h3⟩ := h
  unfold f14M f14T refV
  have hG : allG ch nm ho le nx ps = true := by unfold allG; rw [mdG_of h1, h2, h3]; rfl
  rw [hG]
  cases hall : allOk i ch nm ho le p i2 nx ps with
  | false => rfl
  | true =>
    unfold limOk
    by_cases hl1 : lim < 1
    · rw [decide_eq_true hl1, decide_eq_false (show ¬ 1 ≤ lim by omega)]; rfl
    · rw [decide_eq_false hl1, decide_eq_true (show 1 ≤ lim by omega)]
      by_cases hl2 : lim > 4096
      · rw [decide_eq_true hl2, decide_eq_false (show ¬ lim ≤ 4096 by omega)]; rfl
      · rw [decide_eq_false hl2, decide_eq_true (show lim ≤ 4096 by omega)]
        obtain ⟨L, rfl⟩ := Int.eq_ofNat_of_zero_le (show 0 ≤ lim by omega)
        have hf := facts hall
        have hi : InvR ch.length nx.length L ([i], [i2]) := ⟨rfl, by show 1 ≤ L; omega, fun x hx => (by rw [List.mem_singleton.1 hx]; exact hf.hi), fun x hx => (by rw [List.mem_singleton.1 hx]; exact hf.hi2)⟩
        exact rk_loop0 le i ch nm ho p i2 nx ps 0 hf h1 (L := L) (by omega) 1000001 4097 0 ([i], [i2]) [] (by omega) (by omega) (Nat.zero_le _) rfl hi
theorem ctx24 : CtxOk C24 := fun _ _ h => tbl_ok (l := [(19, rightAS), (30, atS)]) ⟨rightA_ok, at_ok, trivial⟩ h
theorem ref_ok : FnOk P C0 14 refS := by
  refine fn_okC ctx24 (show P.funcs[14]? = some f14f by kernel_rfl) (of_decide_eq_true (by kernel_rfl)) (refS) f14h (fun ds os lf hp => ?_)
  unfold refS at hp
  simp only at hp
  split at hp
  · rename_i i ch nm ho le p i2 nx ps lim
    simp only [Out.pick] at hp
    cases hc0 : makeG ch nm ho le nx ps with
    | false => rw [hc0] at hp; cases hp
    | true =>
      rw [hc0] at hp
      simp only [cond_true] at hp
      exact ⟨_, (f14_ev _ i ch nm ho le p i2 nx ps lim).trans ((ref_T i ch nm ho le p i2 nx ps lim hc0).trans hp)⟩
  · cases hp
end Go.S23
