/-
  Seat 23: along runs of a product: the law.
-/
import Derived.Test.YtkbablmhgnpmmaaDoorS23Z
import Derived.Test.YtkbablmhgnpmmaaDoorS23G9
open Go Go.En
namespace Go.S23
/-! ### a product is right -/
theorem mvF_p {z : Int} : ∀ {l seen : List MvV}, mvF z seen l = true → l.Pairwise (fun a b => a.1 ≠ b.1) ∧ ∀ v ∈ l, (0 ≤ v.1 ∧ v.1 < z ∧ 1 ≤ v.2.1) ∧ ∀ y ∈ seen, y.1 ≠ v.1
  | [], _, _ => ⟨.nil, fun v hv => by cases hv⟩
  | v :: l, seen, h => by
    have h : (!(decide (v.1 < 0) || (decide (v.1 ≥ z) || decide (v.2.1 < 1))) && (!(seen.any fun y => y.1 == v.1) && mvF z (seen ++ [v]) l)) = true := h
    simp only [Bool.and_eq_true, Bool.not_eq_true', Bool.or_eq_false_iff, decide_eq_false_iff_not, List.any_eq_false, beq_iff_eq] at h
    obtain ⟨⟨a1, a2, a3⟩, b, c⟩ := h
    obtain ⟨d, e⟩ := mvF_p c
    refine ⟨List.pairwise_cons.2 ⟨fun w hw => (e w hw).2 v (List.mem_append_right _ (List.mem_singleton.2 rfl)), d⟩, fun w hw => ?_⟩
    rcases List.mem_cons.1 hw with rfl | hw
    · exact ⟨by omega, fun y hy => b y hy⟩
    · exact ⟨(e w hw).1, fun y hy => (e w hw).2 y (List.mem_append_left _ hy)⟩
theorem mvF_of {z : Int} : ∀ {l seen : List MvV}, l.Pairwise (fun a b => a.1 ≠ b.1) → (∀ v ∈ l, (0 ≤ v.1 ∧ v.1 < z ∧ 1 ≤ v.2.1) ∧ ∀ y ∈ seen, y.1 ≠ v.1) → mvF z seen l = true
  | [], _, _, _ => rfl
  | v :: l, seen, hp, h => by
    show (!(decide (v.1 < 0) || (decide (v.1 ≥ z) || decide (v.2.1 < 1))) && (!(seen.any fun y => y.1 == v.1) && mvF z (seen ++ [v]) l)) = true
    obtain ⟨p1, p2⟩ := List.pairwise_cons.1 hp
    obtain ⟨⟨a1, a2, a3⟩, b⟩ := h v (List.mem_cons_self ..)
    rw [mvF_of p2 (fun w hw => ⟨(h w (List.mem_cons_of_mem _ hw)).1, fun y hy => by
      rcases List.mem_append.1 hy with hy | hy
      · exact (h w (List.mem_cons_of_mem _ hw)).2 y hy
      · rw [List.mem_singleton.1 hy]; exact p1 w hw⟩), decide_eq_false (show ¬ v.1 < 0 by omega), decide_eq_false (show ¬ v.1 ≥ z by omega), decide_eq_false (show ¬ v.2.1 < 1 by omega)]
    have : (seen.any fun y => y.1 == v.1) = false := List.any_eq_false.2 fun y hy => by rw [beq_iff_eq]; exact b y hy
    rw [this]; rfl
theorem rows_of {z K : Int} : ∀ (CH : List (List ChV)), (∀ l ∈ CH, l ≠ [] ∧ ∀ c ∈ l, okC z c = true) → rowsR z K CH (CH.map fun _ => []) = true
  | [], _ => rfl
  | l :: ls, h => by
    show (rowR z K l [] && rowsR z K ls (ls.map fun _ => [])) = true
    rw [rows_of ls (fun x hx => h x (List.mem_cons_of_mem _ hx))]
    obtain ⟨h1, h2⟩ := h l (List.mem_cons_self ..)
    unfold rowR
    have : (zn l.length == 0) = false := by
      have := List.length_pos_iff.2 h1
      simp only [zn, beq_eq_false_iff_ne, ne_eq]; omega
    rw [this, List.all_eq_true.2 h2]; rfl
theorem rows_ne {z K : Int} : ∀ {ch : List (List ChV)} {ho : List (List Int)}, rowsR z K ch ho = true → ∀ l ∈ ch, l ≠ []
  | l :: ls, ho, h, x, hx => by
    have h : (rowR z K l (ho.getD 0 []) && rowsR z K ls (ho.drop 1)) = true := h
    rw [Bool.and_eq_true] at h
    rcases List.mem_cons.1 hx with rfl | hx
    · have h1 := h.1
      unfold rowR at h1
      rw [Bool.and_eq_true, Bool.not_eq_true', beq_eq_false_iff_ne] at h1
      intro e
      rw [e] at h1
      exact h1.1 rfl
    · exact rows_ne h.2 x hx
section
variable {i : Int} {ch : List (List ChV)} {nm : List ByteArray} {ho : List (List Int)} {le : List Int} {i2 : Int} {nx : List (List Int)}
theorem made_md {L : Nat} {v : MkV} (hL : L ≤ 4096) (hmd : mdOk i ch nm ho = true) (hm : MadeOk i ch le i2 nx L v) : mdOk 0 v.1 [] (v.1.map fun _ => []) = true := by
  have hpos : 1 ≤ v.2.1.length := (pre_get hm.s0 (x := 0) (by show 0 < 1; omega)).1
  have hle := hm.le
  have hlen := hm.len
  unfold mdOk at hmd ⊢
  simp only [Bool.and_eq_true] at hmd
  have e1 : headM 0 v.1 (v.1.map fun _ => []) = true := by
    unfold headM
    rw [List.length_map, bne_self_eq_false, decide_eq_false (show ¬ zn v.1.length < 1 by simp only [zn]; omega), decide_eq_false (show ¬ zn v.1.length > 4096 by simp only [zn]; omega), decide_eq_false (show ¬ (0 : Int) ≥ zn v.1.length by simp only [zn]; omega)]; rfl
  rw [e1, rows_of]
  · rfl
  · intro l hl
    obtain ⟨y, hy, e⟩ := idx_of hl []
    have hr := hm.ok.row y hy
    have hr : okH v.2.1 v.2.2.1 (rOf le nx v.2.1 v.2.2.1 y) (ch.getD (v.2.1.getD y 0).toNat []) (v.1.getD y []) := hr
    rw [e] at hr
    have hs := hm.sr _ (get_mem (show y < v.2.1.length by omega) 0)
    have hrow := get_mem (show (v.2.1.getD y 0).toNat < ch.length by omega) []
    refine ⟨fun e0 => rows_ne hmd.2.2 _ hrow (List.length_eq_zero_iff.1 (by rw [← hr.1, e0]; rfl)), fun c hc => ?_⟩
    obtain ⟨k, hk, ek⟩ := idx_of hc ({ data := #[] }, [], ())
    have hk2 : k < (ch.getD (v.2.1.getD y 0).toNat []).length := by rw [← hr.1]; exact hk
    have hM := (hr.2 k hk2).2
    have ek : cz l k = c := ek
    rw [ek] at hM
    have hok := rows_mem hmd.2.2 _ hrow _ (get_mem hk2 ({ data := #[] }, [], ()))
    unfold okC at hok ⊢
    rw [Bool.and_eq_true, Bool.not_eq_true', beq_eq_false_iff_ne] at hok
    obtain ⟨q1, q2⟩ := hok
    obtain ⟨d1, d2⟩ := mvF_p q2
    have hml : c.2.1.length = (cz (ch.getD (v.2.1.getD y 0).toNat []) k).2.1.length := hM.1
    have el : (zn c.2.1.length == 0) = false := by
      simp only [zn, beq_eq_false_iff_ne, ne_eq] at q1 ⊢
      intro h0
      exact q1 (by rw [← hml]; exact h0)
    rw [el, Bool.not_false, Bool.true_and]
    refine mvF_of ?_ (fun w hw => ⟨?_, fun y hy => by cases hy⟩)
    · rw [List.pairwise_iff_getElem]
      intro a b ha hb hab e0
      obtain ⟨n1, x1, x2, x3, _⟩ := hM.2 a (by omega)
      obtain ⟨n2, y1, y2, y3, _⟩ := hM.2 b (by omega)
      have ea : mg c.2.1 a = c.2.1[a] := by show c.2.1.getD a _ = _; rw [List.getD_eq_getElem?_getD, List.getElem?_eq_getElem ha]; rfl
      have eb : mg c.2.1 b = c.2.1[b] := by show c.2.1.getD b _ = _; rw [List.getD_eq_getElem?_getD, List.getElem?_eq_getElem hb]; rfl
      rw [ea] at x1
      rw [eb] at y1
      have enn : n1 = n2 := by omega
      rw [enn, y3] at x3
      have d1 := List.pairwise_iff_getElem.1 d1 a b (by rw [← hml]; exact ha) (by rw [← hml]; exact hb) hab
      refine d1 ?_
      have fa : mg (cz (ch.getD (v.2.1.getD y 0).toNat []) k).2.1 a = (cz (ch.getD (v.2.1.getD y 0).toNat []) k).2.1[a]'(by rw [← hml]; exact ha) := by show (List.getD _ a _) = _; rw [List.getD_eq_getElem?_getD, List.getElem?_eq_getElem (by rw [← hml]; exact ha)]; rfl
      have fb : mg (cz (ch.getD (v.2.1.getD y 0).toNat []) k).2.1 b = (cz (ch.getD (v.2.1.getD y 0).toNat []) k).2.1[b]'(by rw [← hml]; exact hb) := by show (List.getD _ b _) = _; rw [List.getD_eq_getElem?_getD, List.getElem?_eq_getElem (by rw [← hml]; exact hb)]; rfl
      rw [fa, fb] at x3
      exact x3.symm
    · obtain ⟨a, ha, ea⟩ := idx_of hw (0, 0, ())
      obtain ⟨n1, x1, x2, x3, x4, x5⟩ := hM.2 a (by omega)
      have ea : mg c.2.1 a = w := ea
      rw [ea] at x1 x5
      have dd := (d2 _ (get_mem (show a < (cz (ch.getD (v.2.1.getD y 0).toNat []) k).2.1.length by omega) (0, 0, ()))).1
      rw [x1, x5]
      refine ⟨by omega, by simp only [zn]; omega, dd.2.2⟩
theorem made_of {L : Nat} {v : MkV} (hL : L ≤ 4096) (hm : MadeOk i ch le i2 nx L v) (h : farM ch nm ho = false) : ofMG v.1 [] (v.1.map fun _ => []) = true := by
  have hle := hm.le
  have hlen := hm.len
  have hr := made_rows hm h
  unfold ofMG m6
  simp only [Bool.and_eq_true, List.all_eq_true]
  refine ⟨⟨ble_of (by omega), fun l hl => ⟨ble_of (by have := (hr l hl).1; omega), fun c hc => ble_of (by have := (hr l hl).2 c hc; omega)⟩⟩, rfl, by rw [List.length_map]; exact ble_of (by omega), fun l hl => ?_⟩
  obtain ⟨x, _, rfl⟩ := List.mem_map.1 hl
  rfl
/-- each state of a product can be come to -/
theorem made_reach {L : Nat} {v : MkV} (hL : L ≤ 4096) (hmd : mdOk i ch nm ho = true) (hm : MadeOk i ch le i2 nx L v) : (reachL 0 v.1 [] (v.1.map fun _ => [])).length = v.2.1.length := by
  have hmd2 := made_md hL hmd hm
  have hpos : 1 ≤ v.2.1.length := (pre_get hm.s0 (x := 0) (by show 0 < 1; omega)).1
  have hlen := hm.len
  rw [reach_len hmd2]
  have hmv : ∀ l ∈ v.1, ∀ c ∈ l, ∀ w ∈ c.2.1, 0 ≤ w.1 ∧ w.1 < (v.1.length : Int) := fun l hl c hc w hw => by
    unfold mdOk at hmd2
    simp only [Bool.and_eq_true] at hmd2
    have := rows_mem hmd2.2.2 l hl c hc
    unfold okC at this
    rw [Bool.and_eq_true] at this
    exact mvF_range this.2 w hw
  obtain ⟨_, nd, rng, mem⟩ := dfs0_ok (i := 0) (ch := v.1) (by omega) hmv
  have all : ∀ n : Nat, n < v.1.length → Rc 0 v.1 n := by
    intro n
    induction n using Nat.strongRecOn with
    | ind n ih =>
      intro hn
      by_cases h0 : n = 0
      · rw [h0]; exact .init
      · obtain ⟨y, c, j, h1, h2, h3, h4, h5⟩ := hm.ok.come n (by omega) (by show n < v.2.1.length; omega)
        have hs := Rc.step (i := 0) (ch := v.1) (ih y h1 h2) (get_mem h3 ({ data := #[] }, [], ())) (get_mem h4 (0, 0, ()))
        have e : (mg (cz (v.1.getD y []) c).2.1 j).1.toNat = n := by rw [h5, Int.toNat_natCast]
        rwa [e] at hs
  have hr := nodup_same (l := dfs0 0 v.1) (m := (List.range v.1.length).map fun n : Nat => (n : Int)) nd ?_ fun x => ⟨fun hx => ?_, fun hx => ?_⟩
  · rw [hr, List.length_map, List.length_range, hlen]
  · rw [List.Nodup, List.pairwise_map]
    exact List.pairwise_lt_range.imp fun h e => by omega
  · have := rng x hx
    exact List.mem_map.2 ⟨x.toNat, List.mem_range.2 (by omega), by rw [Int.toNat_of_nonneg this.1]⟩
  · obtain ⟨n, hn, rfl⟩ := List.mem_map.1 hx
    exact (mem n).2 (all n (List.mem_range.1 hn))
end
/-! ### along a run -/
section
variable (le : List Int) (i : Int) (ch : List (List ChV)) (nm : List ByteArray) (ho : List (List Int)) (p i2 : Int) (nx : List (List Int)) (ps : List PairV) (z : Int) (zz : List ByteArray) (HO : List (List Int))
theorem goes_loop {L : Nat} {v : MkV} (hf : Facts i ch le i2 nx) (hmd : mdOk i ch nm ho = true) (hm : MadeOk i ch le i2 nx L v) (hfar : ∀ l ∈ ch, l.length ≤ 10 ∧ ∀ c ∈ l, c.2.1.length ≤ 20) {pk : List Int} (hpk : pk.length ≤ 60) (hu8 : ∀ x ∈ pk, 0 ≤ x ∧ x ≤ 255) : ∀ (m k x : Nat), k ≤ pk.length → pk.length - k < m → x < v.1.length →
    f6L0 1000001 m le pk (x : Int) (k : Int) i ch nm ho p i2 nx ps z zz v.1 HO v.2.1 v.2.2.1 = some ⟨[pB true], [], []⟩
  | 0, _, _, _, h, _ => absurd h (Nat.not_lt_zero _)
  | m + 1, k, x, hk, hm0, hx => by
    have hlen := hm.len
    have hqs : v.2.1.length = v.2.2.1.length := hm.ok.gd.len
    have hxs : x < v.2.1.length := by omega
    show f6S0 (f6L0 1000001 m) le pk (x : Int) (k : Int) i ch nm ho p i2 nx ps z zz v.1 HO v.2.1 v.2.2.1 = _
    unfold f6S0
    by_cases h0 : k < pk.length
    · have b1 := hm.sr _ (get_mem hxs 0)
      have b2 := hm.qr _ (get_mem (show x < v.2.2.1.length by omega) 0)
      have hb0 : inb (v.2.1.getD x 0) ch.length = true := by simp only [inb, Bool.and_eq_true, decide_eq_true_eq]; exact b1
      have hb1 : inb (v.2.1.getD x 0) le.length = true := by rw [hf.hle]; simp only [inb, Bool.and_eq_true, decide_eq_true_eq]; exact b1
      have hb2 : inb (v.2.2.1.getD x 0) nx.length = true := by simp only [inb, Bool.and_eq_true, decide_eq_true_eq]; exact b2
      have hb3 : inb (le.getD (v.2.1.getD x 0).toNat 0) (nx.getD (v.2.2.1.getD x 0).toNat []).length = true := by
        have := hf.hat _ (get_mem (show (v.2.1.getD x 0).toNat < le.length by rw [hf.hle]; omega) 0) _ (get_mem (show (v.2.2.1.getD x 0).toNat < nx.length by omega) [])
        simp only [inb, Bool.and_eq_true, decide_eq_true_eq]; exact this
      have hrow := hm.ok.row x hx
      have hrow : okH v.2.1 v.2.2.1 (rOf le nx v.2.1 v.2.2.1 x) (ch.getD (v.2.1.getD x 0).toNat []) (v.1.getD x []) := hrow
      have hrm := get_mem (show (v.2.1.getD x 0).toNat < ch.length by omega) []
      unfold mdOk at hmd
      simp only [Bool.and_eq_true] at hmd
      have hne := rows_ne hmd.2.2 _ hrm
      have hoks := rows_mem hmd.2.2 _ hrm
      have hfr := hfar _ hrm
      have hmd' : mdOk i ch nm ho = true := by unfold mdOk; rw [hmd.1, hmd.2.1, hmd.2.2]; rfl
      unfold rOf at hrow
      generalize hR : ch.getD (v.2.1.getD x 0).toNat [] = R at hrow hne hoks hfr
      have hRl : 0 < R.length := List.length_pos_iff.2 hne
      have hpx := hu8 _ (get_mem h0 0)
      obtain ⟨w, hw⟩ := Int.eq_ofNat_of_zero_le hpx.1
      have hw2 : w ≤ 255 := by omega
      have hkl : w % R.length < R.length := Nat.mod_lt _ hRl
      have e1 : (IntKind.i64.wrap (w : Int)) = (w : Int) := i64_wrap_in (by omega) (by omega)
      have e2 : (w : Int).tmod (zn R.length) = ((w % R.length : Nat) : Int) := by rw [Int.tmod_eq_emod_of_nonneg (by omega)]; rfl
      have e3 : (w : Int).tdiv 5 = ((w / 5 : Nat) : Int) := by rw [Int.tdiv_eq_ediv_of_nonneg (by omega)]; rfl
      have e4 : IntKind.i64.wrap ((w / 5 : Nat) : Int) = ((w / 5 : Nat) : Int) := i64_wrap_in (by omega) (by omega)
      obtain ⟨hA, hM⟩ := hrow.2 _ hkl
      have hA : ((v.1.getD x []).getD (w % R.length) ({ data := #[] }, [], ())).1 = (R.getD (w % R.length) ({ data := #[] }, [], ())).1 := hA
      have hml : ((v.1.getD x []).getD (w % R.length) ({ data := #[] }, [], ())).2.1.length = (R.getD (w % R.length) ({ data := #[] }, [], ())).2.1.length := hM.1
      have hok := hoks _ (get_mem hkl ({ data := #[] }, [], ()))
      unfold okC at hok
      rw [Bool.and_eq_true, Bool.not_eq_true', beq_eq_false_iff_ne] at hok
      have hMl : 0 < (R.getD (w % R.length) ({ data := #[] }, [], ())).2.1.length := by
        have := hok.1
        simp only [zn] at this
        omega
      have hjl : w / 5 % (R.getD (w % R.length) ({ data := #[] }, [], ())).2.1.length < (R.getD (w % R.length) ({ data := #[] }, [], ())).2.1.length := Nat.mod_lt _ hMl
      have e5 : ((w / 5 : Nat) : Int).tmod (zn (R.getD (w % R.length) ({ data := #[] }, [], ())).2.1.length) = ((w / 5 % (R.getD (w % R.length) ({ data := #[] }, [], ())).2.1.length : Nat) : Int) := by rw [Int.tmod_eq_emod_of_nonneg (by omega)]; rfl
      obtain ⟨t, t1, t2, t3, t4, t5⟩ := hM.2 _ hjl
      have t1 : (((v.1.getD x []).getD (w % R.length) ({ data := #[] }, [], ())).2.1.getD (w / 5 % (R.getD (w % R.length) ({ data := #[] }, [], ())).2.1.length) (0, 0, ())).1 = (t : Int) := t1
      have t3 : v.2.1.getD t 0 = ((R.getD (w % R.length) ({ data := #[] }, [], ())).2.1.getD (w / 5 % (R.getD (w % R.length) ({ data := #[] }, [], ())).2.1.length) (0, 0, ())).1 := t3
      have t5 : (((v.1.getD x []).getD (w % R.length) ({ data := #[] }, [], ())).2.1.getD (w / 5 % (R.getD (w % R.length) ({ data := #[] }, [], ())).2.1.length) (0, 0, ())).2.1 = ((R.getD (w % R.length) ({ data := #[] }, [], ())).2.1.getD (w / 5 % (R.getD (w % R.length) ({ data := #[] }, [], ())).2.1.length) (0, 0, ())).2.1 := t5
      have hvl : (v.1.getD x []).length = R.length := hrow.1
      have enz : decide (zn R.length ≠ 0) = true := by rw [decide_eq_true_eq]; simp only [zn]; omega
      have enz2 : decide (zn (R.getD (w % R.length) ({ data := #[] }, [], ())).2.1.length ≠ 0) = true := by rw [decide_eq_true_eq]; simp only [zn]; omega
      simp only [Int.toNat_natCast, hR, hw, e1, e2, e3, e4, e5, hvl, hA, hml, t1, t5]
      rw [lt_k h0, inb_k hxs, inb_k (show x < v.2.2.1.length by omega), inb_k hx, hb0, hb1, hb2, hb3, inb_k h0, inb_k hkl, inb_k hjl, inb_k t2, inb_k (show t < v.2.2.1.length by omega), bne_self_eq_false, bne_self_eq_false, beq_self_eq_true, enz, enz2, t3, t4, bne_self_eq_false, bne_self_eq_false, bne_self_eq_false, wr_k (k := k) (by omega)]
      exact goes_loop hf hmd' hm hfar hpk hu8 m (k + 1) t h0 (by omega) (by omega)
    · rw [nlt_k h0]; rfl
end
theorem goes_T (i : Int) (ch : List (List ChV)) (nm : List ByteArray) (ho : List (List Int)) (le : List Int) (p i2 : Int) (nx : List (List Int)) (ps : List PairV) (pk : List Int) (hp : ps.all pairW = true) (hu8 : ∀ x ∈ pk, 0 ≤ x ∧ x ≤ 255) : f6M 1000001 i ch nm ho le p i2 nx ps pk = some ⟨[pB true], [], []⟩ := by
  unfold f6M f6T
  cases hfar : (farM ch nm ho || (farF nx ps || (decide (zn le.length > 60) || (decide (zn pk.length > 60) || !allOk i ch nm ho le p i2 nx ps)))) with
  | true =>
    have g : (farM ch nm ho || (farF nx ps || (decide (zn le.length > 60) || (decide (zn pk.length > 60) || allG ch nm ho le nx ps && true)))) = true := by
      cases h1 : farM ch nm ho with
      | true => rfl
      | false =>
        cases h2 : farF nx ps with
        | true => rfl
        | false =>
          by_cases h3 : zn le.length > 60
          · rw [decide_eq_true h3]; rfl
          · rw [allG_no (makeG_no h1 h2 hp (by simp only [zn] at h3; omega) (le := le))]
            cases decide (zn le.length > 60) <;> cases decide (zn pk.length > 60) <;> rfl
    rw [g]; rfl
  | false =>
    simp only [Bool.or_eq_false_iff, decide_eq_false_iff_not, zn, Bool.not_eq_false'] at hfar
    obtain ⟨h1, h2, h3, h4, h6⟩ := hfar
    have hg := makeG_no h1 h2 hp (show le.length ≤ 60 by omega) (le := le)
    obtain ⟨f1, f2, f3⟩ := far_no h2
    obtain ⟨m1, m2, m3, m4, m5⟩ := farM_no h1
    have hf := facts h6
    have hmd : mdOk i ch nm ho = true := by unfold allOk at h6; rw [Bool.and_eq_true] at h6; exact h6.1
    have hmul : ch.length * nx.length ≤ 4096 := Nat.le_trans (Nat.mul_le_mul (show ch.length ≤ 40 by omega) (show nx.length ≤ 40 by omega)) (by omega)
    obtain ⟨e0, hm⟩ := made_some (L := 4096) (nm := nm) (ho := ho) (p := p) (ps := ps) h6 (by omega) hmul
    have e0 : (makeV i ch nm ho le p i2 nx ps 4096).2.2.2 = .nil := e0
    have hm : MadeOk i ch le i2 nx 4096 (makeV i ch nm ho le p i2 nx ps 4096) := hm
    have hmd2 := made_md (Nat.le_refl _) hmd hm
    have hof2 := made_of (Nat.le_refl _) hm h1
    have hre := made_reach (Nat.le_refl _) hmd hm
    have hpos : 1 ≤ (makeV i ch nm ho le p i2 nx ps 4096).2.1.length := (pre_get hm.s0 (x := 0) (by show 0 < 1; omega)).1
    have hs0 : (makeV i ch nm ho le p i2 nx ps 4096).2.1.getD 0 0 = i := (pre_get hm.s0 (x := 0) (by show 0 < 1; omega)).2
    have hq0 : (makeV i ch nm ho le p i2 nx ps 4096).2.2.1.getD 0 0 = i2 := (pre_get hm.q0 (x := 0) (by show 0 < 1; omega)).2
    have hqs : (makeV i ch nm ho le p i2 nx ps 4096).2.1.length = (makeV i ch nm ho le p i2 nx ps 4096).2.2.1.length := hm.ok.gd.len
    have g : (farM ch nm ho || (farF nx ps || (decide (zn le.length > 60) || (decide (zn pk.length > 60) || allG ch nm ho le nx ps && true)))) = true := by
      rw [allG_no hg, h1, h2]
      cases decide (zn le.length > 60) <;> cases decide (zn pk.length > 60) <;> rfl
    have i1 : inb 0 (makeV i ch nm ho le p i2 nx ps 4096).2.1.length = true := inb_k (k := 0) (by omega)
    have i3 : inb 0 (makeV i ch nm ho le p i2 nx ps 4096).2.2.1.length = true := inb_k (k := 0) (by omega)
    rw [g, ofMG_no h1, (ofG_no h2 hp).1, hg, e0, mdG_of hof2, hmd2, hof2, hre, i1, i3, hs0, hq0, bne_self_eq_false, bne_self_eq_false, bne_self_eq_false]
    exact goes_loop le i ch nm ho p i2 nx ps 0 [] ((makeV i ch nm ho le p i2 nx ps 4096).1.map fun _ => []) hf hmd hm m4 (show pk.length ≤ 60 by omega) hu8 1000001 0 0 (Nat.zero_le _) (by omega) (by rw [hm.len]; omega)
def u8' (v : List Int) : Bool := v.all fun x => decide (0 ≤ x) && decide (x ≤ 255)
def goesLS : En.Spec := ⟨[], fun ds os => match ds, os with
  | [.p (.agg [.d (.fz true) (.i .i64) _i, .d (.fz false) (.l (.l (.p .s (.p (.l (.p (.i .i64) (.p (.i .i64) .u))) .u)))) _ch, .d (.fz false) (.l .s) _nm, .d (.fz false) (.l (.l (.i .i64))) _ho]), .p (.one (.d (.fz false) (.l (.i .i64)) _le)), .p (.agg [.d (.fz true) (.i .i64) _p, .d (.fz true) (.i .i64) _i2, .d (.fz false) (.l (.l (.i .i64))) _nx, .d (.fz false) (.l (.p (.l (.i .i64)) (.p (.l (.i .i64)) .u))) ps]), .p (.one (.d (.fz false) (.l (.i .u8)) pk))], [] =>
    .br (ps.all pairW && u8' pk) (.leaf [pB true] [] []) .fail
  | _, _ => .fail⟩
theorem goesL_ok : FnOk P C0 6 goesLS := by
  refine fn_okC ctx41 (show P.funcs[6]? = some f6f by kernel_rfl) (of_decide_eq_true (by kernel_rfl)) (goesLS) f6h (fun ds os lf hp => ?_)
  unfold goesLS at hp
  simp only at hp
  split at hp
  · rename_i i ch nm ho le p i2 nx ps pk
    obtain ⟨hc, hp1⟩ := br_pick hp
    have hl := leaf_pick hp1
    subst hl
    rw [Bool.and_eq_true] at hc
    obtain ⟨hc, hu⟩ := hc
    unfold u8' at hu
    simp only [List.all_eq_true, Bool.and_eq_true, decide_eq_true_eq] at hu
    exact ⟨_, (f6_ev _ i ch nm ho le p i2 nx ps pk).trans (goes_T i ch nm ho le p i2 nx ps pk hc hu)⟩
  · cases hp
end Go.S23
