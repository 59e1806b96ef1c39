/-
  Plain facts of processes: what can be come to, by a stack and by widening.
-/
import Derived.Test.YtoghhokbakphlaaDoorNP
import Derived.Test.YtoghhokbakphlaaDoorNS
namespace Go.En
abbrev MvW := Int × Int × Unit
abbrev ChW := ByteArray × List MvW × Unit
def Goes (ch : List (List ChW)) (s t : Int) : Prop := ∃ c ∈ ch.getD s.toNat [], ∃ v ∈ c.2.1, v.1 = t
inductive Rcb (ch : List (List ChW)) (i : Int) : Int → Prop where
  | base : Rcb ch i i
  | step {s t : Int} : Rcb ch i s → Goes ch s t → Rcb ch i t
/-- all moves lead to states -/
def Led (ch : List (List ChW)) : Prop := ∀ s, s < ch.length → ∀ c ∈ ch.getD s [], ∀ v ∈ c.2.1, 0 ≤ v.1 ∧ v.1 < (ch.length : Int)
theorem Led.goes {ch : List (List ChW)} (h : Led ch) {s t : Int} (hs : 0 ≤ s ∧ s < (ch.length : Int)) (hg : Goes ch s t) : 0 ≤ t ∧ t < (ch.length : Int) := by
  obtain ⟨c, hc, v, hv, rfl⟩ := hg
  exact h s.toNat (by omega) c hc v hv
theorem Rcb.rng {ch : List (List ChW)} (h : Led ch) {i t : Int} (hi : 0 ≤ i ∧ i < (ch.length : Int)) (hr : Rcb ch i t) : 0 ≤ t ∧ t < (ch.length : Int) := by
  induction hr with
  | base => exact hi
  | step _ hg ih => exact h.goes ih hg
/-! ### a stack -/
def push1 (st : List Bool × List Int) (v : MvW) : List Bool × List Int := bif st.1.getD v.1.toNat false then st else (st.1.set v.1.toNat true, st.2 ++ [v.1])
def pushC (st : List Bool × List Int) (c : ChW) : List Bool × List Int := c.2.1.foldl push1 st
def dfs (ch : List (List ChW)) : Nat → List Bool → List Int → List Int → List Int
  | 0, _, _, out => out
  | f + 1, seen, stk, out => bif Nat.blt 0 stk.length then
      dfs ch f ((ch.getD (stk.getD (stk.length - 1) 0).toNat []).foldl pushC (seen, stk.take (stk.length - 1))).1 ((ch.getD (stk.getD (stk.length - 1) 0).toNat []).foldl pushC (seen, stk.take (stk.length - 1))).2 (out ++ [stk.getD (stk.length - 1) 0])
    else out
def reachV (i : Int) (ch : List (List ChW)) : List Int := sortI (dfs ch (ch.length + 1) ((List.replicate ch.length false).set i.toNat true) [i] [])
structure PushOk (n : Nat) (vs : List MvW) (seen : List Bool) (stk : List Int) (r : List Bool × List Int) (add : List Int) : Prop where
  len : r.1.length = n
  eq : r.2 = stk ++ add
  nd : add.Nodup
  new : ∀ x ∈ add, 0 ≤ x ∧ x < (n : Int) ∧ seen.getD x.toNat false = false ∧ ∃ v ∈ vs, v.1 = x
  iff : ∀ x : Nat, x < n → (r.1.getD x false = true ↔ seen.getD x false = true ∨ (x : Int) ∈ add)
  all : ∀ v ∈ vs, r.1.getD v.1.toNat false = true
theorem push_ok {n : Nat} : ∀ (vs : List MvW) (seen : List Bool) (stk : List Int), seen.length = n → (∀ v ∈ vs, 0 ≤ v.1 ∧ v.1 < (n : Int)) → ∃ add, PushOk n vs seen stk (vs.foldl push1 (seen, stk)) add
  | [], seen, stk, hl, _ => ⟨[], hl, by simp, .nil, fun _ h => (by cases h), fun x _ => by simp, fun _ h => (by cases h)⟩
  | v :: vs, seen, stk, hl, hv => by
    have hv0 := hv v (List.mem_cons_self ..)
    have hv1 : ∀ w ∈ vs, 0 ≤ w.1 ∧ w.1 < (n : Int) := fun w hw => hv w (List.mem_cons_of_mem _ hw)
    rw [List.foldl_cons]
    cases hs : seen.getD v.1.toNat false with
    | true =>
      have e : push1 (seen, stk) v = (seen, stk) := by unfold push1; simp only [hs, cond_true]
      rw [e]
      obtain ⟨add, h⟩ := push_ok vs seen stk hl hv1
      refine ⟨add, h.len, h.eq, h.nd, fun x hx => ?_, h.iff, fun w hw => ?_⟩
      · obtain ⟨a, b, c, w, hw, d⟩ := h.new x hx
        exact ⟨a, b, c, w, List.mem_cons_of_mem _ hw, d⟩
      · rcases List.mem_cons.1 hw with rfl | hw
        · exact (h.iff _ (by omega)).2 (.inl hs)
        · exact h.all w hw
    | false =>
      have e : push1 (seen, stk) v = (seen.set v.1.toNat true, stk ++ [v.1]) := by unfold push1; simp only [hs, cond_false]
      rw [e]
      obtain ⟨add, h⟩ := push_ok vs (seen.set v.1.toNat true) (stk ++ [v.1]) (by rw [List.length_set]; exact hl) hv1
      have g : ∀ j, (seen.set v.1.toNat true).getD j false = if v.1.toNat = j then true else seen.getD j false := fun j => getD_set _ _ _ _ _ (by omega)
      have hne : ∀ x ∈ add, x ≠ v.1 := fun x hx ex => by
        have := (h.new x hx).2.2.1
        rw [g, ex, if_pos rfl] at this; cases this
      refine ⟨v.1 :: add, h.len, by rw [h.eq]; simp, List.nodup_cons.2 ⟨fun hm => hne _ hm rfl, h.nd⟩, fun x hx => ?_, fun x hx => ?_, fun w hw => ?_⟩
      · rcases List.mem_cons.1 hx with rfl | hx
        · exact ⟨hv0.1, hv0.2, hs, v, List.mem_cons_self .., rfl⟩
        · obtain ⟨a, b, c, w, hw, d⟩ := h.new x hx
          refine ⟨a, b, ?_, w, List.mem_cons_of_mem _ hw, d⟩
          have := hne x hx
          rw [g, if_neg (by omega)] at c; exact c
      · rw [h.iff x hx, g, List.mem_cons]
        by_cases ex : v.1.toNat = x
        · rw [if_pos ex]
          exact ⟨fun _ => .inr (.inl (by omega)), fun _ => .inl rfl⟩
        · rw [if_neg ex]
          exact ⟨fun h => h.elim .inl (fun h => .inr (.inr h)), fun h => h.elim .inl (fun h => h.elim (fun h => absurd h (by omega)) .inr)⟩
      · rcases List.mem_cons.1 hw with rfl | hw
        · exact (h.iff _ (by omega)).2 (.inl (by rw [g, if_pos rfl]))
        · exact h.all w hw
theorem push_flat : ∀ (l : List ChW) (st : List Bool × List Int), l.foldl pushC st = (l.flatMap fun c => c.2.1).foldl push1 st
  | [], _ => rfl
  | c :: l, st => by
    rw [List.foldl_cons, push_flat l, List.flatMap_cons, List.foldl_append]; rfl
structure DfsOk (ch : List (List ChW)) (i : Int) (seen : List Bool) (stk out : List Int) : Prop where
  len : seen.length = ch.length
  nd : (stk ++ out).Nodup
  rng : ∀ x ∈ stk ++ out, 0 ≤ x ∧ x < (ch.length : Int)
  iff : ∀ x : Nat, x < ch.length → (seen.getD x false = true ↔ (x : Int) ∈ stk ++ out)
  rch : ∀ x ∈ stk ++ out, Rcb ch i x
  cl : ∀ x ∈ out, ∀ t, Goes ch x t → t ∈ stk ++ out
  ini : i ∈ stk ++ out
theorem nodup_len {n : Nat} {l : List Int} (hn : l.Nodup) (h : ∀ x ∈ l, 0 ≤ x ∧ x < (n : Int)) : l.length ≤ n := by
  have h2 : ∀ (n : Nat) (l : List Nat), l.Nodup → (∀ x ∈ l, x < n) → l.length ≤ n := by
    intro n
    induction n with
    | zero =>
      intro l _ h
      cases l with
      | nil => exact Nat.le_refl _
      | cons x l => exact absurd (h x (List.mem_cons_self ..)) (Nat.not_lt_zero _)
    | succ n ih =>
      intro l hn h
      have := ih (l.erase n) (hn.erase n) (fun x hx => by
        have h1 := h x (List.mem_of_mem_erase hx)
        have h2 : x ≠ n := fun e => by subst e; exact (List.Nodup.not_mem_erase hn) hx
        omega)
      rw [List.length_erase] at this
      split at this <;> omega
  have := h2 n (l.map Int.toNat) (by
    rw [List.nodup_iff_pairwise_ne, List.pairwise_map]
    refine List.Pairwise.imp_of_mem ?_ (List.nodup_iff_pairwise_ne.1 hn)
    intro a b ha hb' hab e
    have := h a ha; have := h b hb'
    exact hab (by omega)) (fun x hx => by
      obtain ⟨y, hy, rfl⟩ := List.mem_map.1 hx
      have := h y hy; omega)
  rwa [List.length_map] at this
theorem DfsOk.next {ch : List (List ChW)} (hL : Led ch) {i : Int} {seen : List Bool} {stk out : List Int} (h : DfsOk ch i seen stk out) (h0 : 0 < stk.length) :
    ∃ r : List Bool × List Int, (ch.getD (stk.getD (stk.length - 1) 0).toNat []).foldl pushC (seen, stk.take (stk.length - 1)) = r ∧ DfsOk ch i r.1 r.2 (out ++ [stk.getD (stk.length - 1) 0]) := by
  refine ⟨_, rfl, ?_⟩
  have es : stk = stk.take (stk.length - 1) ++ [stk.getD (stk.length - 1) 0] := by
    conv => lhs; rw [← List.take_append_drop (stk.length - 1) stk]
    congr 1
    rw [List.drop_eq_getElem_cons (by omega), List.getD_eq_getElem?_getD, List.getElem?_eq_getElem (by omega), List.drop_eq_nil_of_le (by omega)]; rfl
  generalize stk.getD (stk.length - 1) 0 = s at es ⊢
  generalize stk.take (stk.length - 1) = st at es ⊢
  subst es
  have hs := h.rng s (by simp)
  rw [push_flat]
  obtain ⟨add, ha⟩ := push_ok ((ch.getD s.toNat []).flatMap fun c => c.2.1) seen st h.len (fun v hv => by
    obtain ⟨c, hc, hv⟩ := List.mem_flatMap.1 hv
    exact hL s.toNat (by omega) c hc v hv)
  generalize hr : ((ch.getD s.toNat []).flatMap fun c => c.2.1).foldl push1 (seen, st) = r at ha
  have mem : ∀ x, x ∈ r.2 ++ (out ++ [s]) ↔ x ∈ (st ++ [s]) ++ out ∨ x ∈ add := fun x => by
    rw [ha.eq]; simp only [List.mem_append, List.mem_singleton]
    constructor
    · rintro ((h | h) | (h | h))
      · exact .inl (.inl (.inl h))
      · exact .inr h
      · exact .inl (.inr h)
      · exact .inl (.inl (.inr h))
    · rintro (((h | h) | h) | h)
      · exact .inl (.inl h)
      · exact .inr (.inr h)
      · exact .inr (.inl h)
      · exact .inl (.inr h)
  have hgo : ∀ t, Goes ch s t ↔ ∃ v ∈ (ch.getD s.toNat []).flatMap (fun c => c.2.1), v.1 = t := fun t => by
    constructor
    · rintro ⟨c, hc, v, hv, e⟩; exact ⟨v, List.mem_flatMap.2 ⟨c, hc, hv⟩, e⟩
    · rintro ⟨v, hv, e⟩
      obtain ⟨c, hc, hv⟩ := List.mem_flatMap.1 hv
      exact ⟨c, hc, v, hv, e⟩
  have hout : ∀ x ∈ add, ¬ x ∈ (st ++ [s]) ++ out := fun x hx hm => by
    obtain ⟨a, b, c, _⟩ := ha.new x hx
    have := (h.iff x.toNat (by omega)).2 (by rw [show ((x.toNat : Nat) : Int) = x by omega]; exact hm)
    rw [this] at c; cases c
  refine ⟨ha.len, ?_, fun x hx => ?_, fun x hx => ?_, fun x hx => ?_, fun x hx t ht => ?_, ?_⟩
  · have hp : (r.2 ++ (out ++ [s])).Perm (((st ++ [s]) ++ out) ++ add) := by
      rw [ha.eq]
      refine List.perm_iff_count.2 fun x => ?_
      simp only [List.count_append]; omega
    refine hp.nodup_iff.2 (List.nodup_append.2 ⟨h.nd, ha.nd, fun a h1 b h2 e => ?_⟩)
    subst e; exact hout a h2 h1
  · rcases (mem x).1 hx with h1 | h1
    · exact h.rng x h1
    · obtain ⟨a, b, _⟩ := ha.new x h1; exact ⟨a, b⟩
  · rw [ha.iff x hx, mem, h.iff x hx]
  · rcases (mem x).1 hx with h1 | h1
    · exact h.rch x h1
    · obtain ⟨_, _, _, v, hv, e⟩ := ha.new x h1
      exact .step (h.rch s (by simp)) ((hgo x).2 ⟨v, hv, e⟩)
  · rw [mem]
    rcases List.mem_append.1 hx with h1 | h1
    · exact .inl (h.cl x h1 t ht)
    · rw [List.mem_singleton.1 h1] at ht
      obtain ⟨v, hv, e⟩ := (hgo t).1 ht
      have hb := hL.goes hs ht
      have h3 := ha.all v hv
      rw [e] at h3
      rcases (ha.iff t.toNat (by omega)).1 h3 with h4 | h4
      · refine .inl ?_
        have := (h.iff t.toNat (by omega)).1 h4
        rwa [show ((t.toNat : Nat) : Int) = t by omega] at this
      · rw [show ((t.toNat : Nat) : Int) = t by omega] at h4; exact .inr h4
  · exact (mem i).2 (.inl h.ini)
theorem dfs_ok {ch : List (List ChW)} (hL : Led ch) {i : Int} : ∀ (f : Nat) (seen : List Bool) (stk out : List Int), DfsOk ch i seen stk out → ch.length < f + out.length → ∃ sn, DfsOk ch i sn [] (dfs ch f seen stk out)
  | 0, seen, stk, out, h, hf => by
    have := nodup_len (n := ch.length) (List.nodup_append.1 h.nd).2.1 (fun x hx => h.rng x (List.mem_append_right _ hx))
    omega
  | f + 1, seen, stk, out, h, hf => by
    unfold dfs
    by_cases h0 : 0 < stk.length
    · rw [show Nat.blt 0 stk.length = true from Nat.ble_eq_true_of_le h0, cond_true]
      obtain ⟨r, e, hn⟩ := h.next hL h0
      rw [e]
      exact dfs_ok hL f _ _ _ hn (by rw [List.length_append, List.length_singleton]; omega)
    · have : stk = [] := List.eq_nil_of_length_eq_zero (by omega)
      subst this
      exact ⟨seen, h⟩
theorem DfsOk.init {ch : List (List ChW)} {i : Int} (hi : 0 ≤ i ∧ i < (ch.length : Int)) : DfsOk ch i ((List.replicate ch.length false).set i.toNat true) [i] [] := by
  refine ⟨by simp, by simp, fun x hx => ?_, fun x hx => ?_, fun x hx => ?_, fun x hx => (by cases hx), by simp⟩
  · simp at hx; subst hx; exact hi
  · rw [getD_set _ _ _ _ _ (by rw [List.length_replicate]; omega)]
    simp only [List.append_nil, List.mem_singleton]
    by_cases e : i.toNat = x
    · rw [if_pos e]; exact ⟨fun _ => (by omega), fun _ => rfl⟩
    · rw [if_neg e, List.getD_eq_getElem?_getD, List.getElem?_replicate]
      split <;> exact ⟨fun h => (by cases h), fun h => absurd h (by omega)⟩
  · simp at hx; subst hx; exact .base
theorem reach_dfs {ch : List (List ChW)} (hL : Led ch) {i : Int} (hi : 0 ≤ i ∧ i < (ch.length : Int)) : ∃ o, dfs ch (ch.length + 1) ((List.replicate ch.length false).set i.toNat true) [i] [] = o ∧ o.Nodup ∧ ∀ x, x ∈ o ↔ Rcb ch i x := by
  obtain ⟨sn, h⟩ := dfs_ok hL (ch.length + 1) _ _ _ (DfsOk.init hi) (by simp)
  refine ⟨_, rfl, by simpa using h.nd, fun x => ⟨fun hx => h.rch x (by simpa using hx), fun hx => ?_⟩⟩
  induction hx with
  | base => simpa using h.ini
  | step _ hg ih => simpa using h.cl _ ih _ hg
theorem reach_mem {ch : List (List ChW)} (hL : Led ch) {i : Int} (hi : 0 ≤ i ∧ i < (ch.length : Int)) (x : Int) : x ∈ reachV i ch ↔ Rcb ch i x := by
  obtain ⟨o, e, _, h⟩ := reach_dfs hL hi
  unfold reachV
  rw [e, (sortI_perm o).mem_iff]; exact h x
/-- a rising list of those that can be come to is this -/
theorem reach_eq {ch : List (List ChW)} (hL : Led ch) {i : Int} (hi : 0 ≤ i ∧ i < (ch.length : Int)) {m : List Int} (hm : m.Pairwise fun a b => a < b) (h : ∀ x, x ∈ m ↔ Rcb ch i x) : reachV i ch = m := by
  obtain ⟨o, e, hn, h2⟩ := reach_dfs hL hi
  unfold reachV
  rw [e]
  exact sortI_eq hn hm fun x => (h2 x).trans (h x).symm
/-! ### widening -/
def wid1 (st : List Bool × Bool) (v : MvW) : List Bool × Bool := (st.1.set v.1.toNat true, st.2 || !(st.1.getD v.1.toNat false))
def widC (st : List Bool × Bool) (c : ChW) : List Bool × Bool := c.2.1.foldl wid1 st
def widS (ch : List (List ChW)) (st : List Bool × Bool) (s : Nat) : List Bool × Bool := bif st.1.getD s false then (ch.getD s []).foldl widC st else st
def widP (ch : List (List ChW)) : Nat → Nat → List Bool × Bool → List Bool × Bool
  | 0, _, st => st
  | d + 1, s, st => widP ch d (s + 1) (widS ch st s)
def widF (ch : List (List ChW)) : Nat → List Bool → List Bool
  | 0, l => l
  | f + 1, l => bif (widP ch ch.length 0 (l, false)).2 then widF ch f (widP ch ch.length 0 (l, false)).1 else (widP ch ch.length 0 (l, false)).1
structure WidOk (G : Nat → Prop) (st r : List Bool × Bool) : Prop where
  len : r.1.length = st.1.length
  mono : ∀ x, x < st.1.length → st.1.getD x false = true → r.1.getD x false = true
  new : ∀ x, x < st.1.length → r.1.getD x false = true → st.1.getD x false = true ∨ G x
  yes : r.2 = true → st.2 = true ∨ ∃ x, x < st.1.length ∧ st.1.getD x false = false ∧ r.1.getD x false = true
  no : r.2 = false → st.2 = false ∧ ∀ x, x < st.1.length → r.1.getD x false = st.1.getD x false
theorem WidOk.refl (G : Nat → Prop) (st : List Bool × Bool) : WidOk G st st := ⟨rfl, fun _ _ h => h, fun _ _ h => .inl h, fun h => .inl h, fun h => ⟨h, fun _ _ => rfl⟩⟩
theorem WidOk.trans {G : Nat → Prop} {a b c : List Bool × Bool} (h : WidOk G a b) (k : WidOk G b c) : WidOk G a c := by
  refine ⟨k.len.trans h.len, fun x hx hm => k.mono x (by rw [h.len]; exact hx) (h.mono x hx hm), fun x hx hm => ?_, fun hy => ?_, fun hn => ?_⟩
  · rcases k.new x (by rw [h.len]; exact hx) hm with h1 | h1
    · exact h.new x hx h1
    · exact .inr h1
  · rcases k.yes hy with h1 | ⟨x, h1, h2, h3⟩
    · rcases h.yes h1 with h2 | ⟨x, h2, h3, h4⟩
      · exact .inl h2
      · exact .inr ⟨x, h2, h3, k.mono x (by rw [h.len]; exact h2) h4⟩
    · rw [h.len] at h1
      refine .inr ⟨x, h1, ?_, h3⟩
      cases hc : a.1.getD x false with
      | false => rfl
      | true => rw [h.mono x h1 hc] at h2; cases h2
  · obtain ⟨h1, h2⟩ := k.no hn
    obtain ⟨h3, h4⟩ := h.no h1
    exact ⟨h3, fun x hx => (h2 x (by rw [h.len]; exact hx)).trans (h4 x hx)⟩
theorem wid1_ok {G : Nat → Prop} (st : List Bool × Bool) (v : MvW) (hv : v.1.toNat < st.1.length) (hG : G v.1.toNat) : WidOk G st (wid1 st v) ∧ (wid1 st v).1.getD v.1.toNat false = true := by
  have g : ∀ j, (st.1.set v.1.toNat true).getD j false = if v.1.toNat = j then true else st.1.getD j false := fun j => getD_set _ _ _ _ _ hv
  refine ⟨⟨by simp [wid1], fun x _ h => ?_, fun x _ h => ?_, fun h => ?_, fun h => ?_⟩, ?_⟩
  · show (st.1.set v.1.toNat true).getD x false = true
    rw [g]; split
    · rfl
    · exact h
  · have h : (st.1.set v.1.toNat true).getD x false = true := h
    rw [g] at h
    split at h
    · rename_i e; subst e; exact .inr hG
    · exact .inl h
  · have h : (st.2 || !(st.1.getD v.1.toNat false)) = true := h
    rw [Bool.or_eq_true] at h
    rcases h with h | h
    · exact .inl h
    · refine .inr ⟨v.1.toNat, hv, by simpa using h, ?_⟩
      show (st.1.set v.1.toNat true).getD _ false = true
      rw [g, if_pos rfl]
  · have h : (st.2 || !(st.1.getD v.1.toNat false)) = false := h
    rw [Bool.or_eq_false_iff] at h
    have h2 : st.1.getD v.1.toNat false = true := by simpa using h.2
    refine ⟨h.1, fun x _ => ?_⟩
    show (st.1.set v.1.toNat true).getD x false = _
    rw [g]; split
    · rename_i e; rw [← e, h2]
    · rfl
  · show (st.1.set v.1.toNat true).getD _ false = true
    rw [g, if_pos rfl]
theorem widV_ok {G : Nat → Prop} : ∀ (vs : List MvW) (st : List Bool × Bool), (∀ v ∈ vs, v.1.toNat < st.1.length ∧ G v.1.toNat) → WidOk G st (vs.foldl wid1 st) ∧ ∀ v ∈ vs, (vs.foldl wid1 st).1.getD v.1.toNat false = true
  | [], st, _ => ⟨.refl G st, fun _ h => by cases h⟩
  | v :: vs, st, h => by
    obtain ⟨h1, h2⟩ := h v (List.mem_cons_self ..)
    obtain ⟨a, b⟩ := wid1_ok st v h1 h2
    obtain ⟨c, d⟩ := widV_ok (G := G) vs (wid1 st v) (fun w hw => by rw [a.len]; exact h w (List.mem_cons_of_mem _ hw))
    refine ⟨a.trans c, fun w hw => ?_⟩
    rcases List.mem_cons.1 hw with rfl | hw
    · exact c.mono _ (by rw [a.len]; exact h1) b
    · exact d w hw
theorem wid_flat : ∀ (l : List ChW) (st : List Bool × Bool), l.foldl widC st = (l.flatMap fun c => c.2.1).foldl wid1 st
  | [], _ => rfl
  | c :: l, st => by
    rw [List.foldl_cons, wid_flat l, List.flatMap_cons, List.foldl_append]; rfl
/-- those that are led to from those that are in -/
def GoB (ch : List (List ChW)) (R : Int → Prop) (x : Nat) : Prop := ∃ s : Nat, R (s : Int) ∧ Goes ch (s : Int) (x : Int)
theorem widS_ok {ch : List (List ChW)} (hL : Led ch) {R : Int → Prop} (hR : ∀ s t, R s → Goes ch s t → R t) (st : List Bool × Bool) (hl : st.1.length = ch.length) (hin : ∀ x, x < ch.length → st.1.getD x false = true → R (x : Int)) {s : Nat} (hs : s < ch.length) :
    WidOk (fun x => R (x : Int)) st (widS ch st s) ∧ (st.1.getD s false = true → ∀ t, Goes ch (s : Int) t → (widS ch st s).1.getD t.toNat false = true) := by
  unfold widS
  cases hc : st.1.getD s false with
  | false => exact ⟨.refl _ _, fun h => (by cases h)⟩
  | true =>
    rw [cond_true, wid_flat]
    have key : ∀ v ∈ (ch.getD s []).flatMap (fun c => c.2.1), v.1.toNat < st.1.length ∧ R ((v.1.toNat : Nat) : Int) := fun v hv => by
      obtain ⟨c, hc2, hv⟩ := List.mem_flatMap.1 hv
      have hb := hL s hs c hc2 v hv
      refine ⟨by omega, ?_⟩
      rw [show ((v.1.toNat : Nat) : Int) = v.1 by omega]
      exact hR (s : Int) _ (hin s hs hc) ⟨c, by rw [Int.toNat_natCast]; exact hc2, v, hv, rfl⟩
    obtain ⟨a, b⟩ := widV_ok (G := fun x => R ((x : Nat) : Int)) _ st key
    refine ⟨a, fun _ t ht => ?_⟩
    obtain ⟨c, hc2, v, hv, rfl⟩ := ht
    rw [Int.toNat_natCast] at hc2
    exact b v (List.mem_flatMap.2 ⟨c, hc2, hv⟩)
theorem widP_ok {ch : List (List ChW)} (hL : Led ch) {R : Int → Prop} (hR : ∀ s t, R s → Goes ch s t → R t) : ∀ (d s : Nat) (st : List Bool × Bool), st.1.length = ch.length → (∀ x, x < ch.length → st.1.getD x false = true → R (x : Int)) → s + d ≤ ch.length →
    WidOk (fun x => R (x : Int)) st (widP ch d s st) ∧ ((widP ch d s st).2 = false → ∀ x, s ≤ x → x < s + d → st.1.getD x false = true → ∀ t, Goes ch (x : Int) t → st.1.getD t.toNat false = true)
  | 0, s, st, _, _, _ => ⟨.refl _ _, fun _ x h1 h2 => by omega⟩
  | d + 1, s, st, hl, hin, hsd => by
    obtain ⟨a, b⟩ := widS_ok hL hR st hl hin (s := s) (by omega)
    have hl2 : (widS ch st s).1.length = ch.length := a.len.trans hl
    obtain ⟨c, e⟩ := widP_ok hL hR d (s + 1) (widS ch st s) hl2 (fun x hx hm => (a.new x (by rw [hl]; exact hx) hm).elim (hin x hx) id) (by omega)
    refine ⟨a.trans c, fun hn x h1 h2 hx t ht => ?_⟩
    have hn : (widP ch d (s + 1) (widS ch st s)).2 = false := hn
    obtain ⟨n1, n2⟩ := c.no hn
    obtain ⟨_, n4⟩ := a.no n1
    have hxl : x < ch.length := by omega
    have htr := hL.goes (s := (x : Int)) ⟨by omega, by omega⟩ ht
    by_cases ex : x = s
    · subst ex
      rw [← n4 _ (by omega)]
      exact b hx t ht
    · rw [← n4 _ (by omega)]
      exact e hn x (by omega) (by omega) (by rw [n4 _ (by omega)]; exact hx) t ht
theorem widF_ok {ch : List (List ChW)} (hL : Led ch) {i : Int} : ∀ (f : Nat) (l : List Bool), l.length = ch.length → (∀ x, x < ch.length → l.getD x false = true → Rcb ch i (x : Int)) → nb true l < f →
    (widF ch f l).length = ch.length ∧ (∀ x, x < ch.length → l.getD x false = true → (widF ch f l).getD x false = true) ∧ (∀ x, x < ch.length → (widF ch f l).getD x false = true → Rcb ch i (x : Int)) ∧
      ∀ x, x < ch.length → (widF ch f l).getD x false = true → ∀ t, Goes ch (x : Int) t → (widF ch f l).getD t.toNat false = true
  | 0, _, _, _, h => absurd h (Nat.not_lt_zero _)
  | f + 1, l, hl, hin, hf => by
    obtain ⟨a, b⟩ := widP_ok hL (R := Rcb ch i) (fun s t h1 h2 => .step h1 h2) ch.length 0 (l, false) hl hin (by omega)
    have hl2 := a.len.trans hl
    have hin2 : ∀ x, x < ch.length → (widP ch ch.length 0 (l, false)).1.getD x false = true → Rcb ch i (x : Int) := fun x hx hm => (a.new x (by rw [hl]; exact hx) hm).elim (hin x hx) id
    unfold widF
    cases hc : (widP ch ch.length 0 (l, false)).2 with
    | true =>
      rw [cond_true]
      have hlt : nb true (widP ch ch.length 0 (l, false)).1 < nb true l := by
        refine nb_lt true (by rw [hl2, hl]) (fun j hj h => a.mono j hj h) ?_
        rcases a.yes hc with h | ⟨x, h1, h2, h3⟩
        · cases h
        · exact ⟨x, h1, by rw [h2]; simp, h3⟩
      obtain ⟨p1, p2, p3, p4⟩ := widF_ok hL f _ hl2 hin2 (by omega)
      exact ⟨p1, fun x hx h => p2 x hx (a.mono x (by rw [hl]; exact hx) h), p3, p4⟩
    | false =>
      rw [cond_false]
      refine ⟨hl2, fun x hx h => a.mono x (by rw [hl]; exact hx) h, hin2, fun x hx hm t ht => ?_⟩
      have n := (a.no hc).2
      have htr := hL.goes (s := (x : Int)) ⟨by omega, by omega⟩ ht
      rw [n _ (by rw [hl]; omega)]
      rw [n _ (by rw [hl]; omega)] at hm
      exact b hc x (Nat.zero_le _) (by omega) hm t ht
def reachW (i : Int) (ch : List (List ChW)) : List Int := ((List.range ch.length).filter fun x => (widF ch (ch.length + 1) ((List.replicate ch.length false).set i.toNat true)).getD x false).map fun (x : Nat) => ((x : Nat) : Int)
/-- both ways come to the same -/
theorem reach_wid {ch : List (List ChW)} (hL : Led ch) {i : Int} (hi : 0 ≤ i ∧ i < (ch.length : Int)) : reachW i ch = reachV i ch := by
  symm
  have g : ∀ j, ((List.replicate ch.length false).set i.toNat true).getD j false = if i.toNat = j then true else (List.replicate ch.length false).getD j false := fun j => getD_set _ _ _ _ _ (by rw [List.length_replicate]; omega)
  have z : ∀ j, (List.replicate ch.length false).getD j false = false := fun j => by
    rw [List.getD_eq_getElem?_getD, List.getElem?_replicate]; split <;> rfl
  have hnb := nb_le true ((List.replicate ch.length false).set i.toNat true)
  rw [List.length_set, List.length_replicate] at hnb
  obtain ⟨p1, p2, p3, p4⟩ := widF_ok hL (i := i) (ch.length + 1) ((List.replicate ch.length false).set i.toNat true) (by simp) (fun x hx hm => by
    rw [g, z] at hm
    split at hm
    · rename_i e
      rw [show ((x : Nat) : Int) = i by omega]; exact .base
    · cases hm) (by omega)
  refine reach_eq hL hi ?_ fun x => ?_
  · unfold reachW
    rw [List.pairwise_map]
    exact (List.pairwise_lt_range.filter _).imp fun h => by omega
  · unfold reachW
    rw [List.mem_map]
    constructor
    · rintro ⟨k, hk, rfl⟩
      rw [List.mem_filter, List.mem_range] at hk
      exact p3 k hk.1 hk.2
    · intro hx
      have hb := hx.rng hL hi
      refine ⟨x.toNat, List.mem_filter.2 ⟨List.mem_range.2 (by omega), ?_⟩, by show ((x.toNat : Nat) : Int) = x; omega⟩
      induction hx with
      | base => exact p2 _ (by omega) (by rw [g, if_pos rfl])
      | step hr hg ih =>
        have hb2 := hr.rng hL hi
        have := p4 _ (by omega) (ih hb2)
        rw [show (((_ : Int).toNat : Nat) : Int) = _ from Int.toNat_of_nonneg hb2.1] at this
        exact this _ hg
end Go.En
