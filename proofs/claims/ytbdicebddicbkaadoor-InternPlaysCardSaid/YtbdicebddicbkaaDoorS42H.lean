/-
  Seat 02 (plays): the law InternPlays.
-/
import Derived.Test.YtbdicebddicbkaaDoorS42F
import Derived.Test.YtbdicebddicbkaaDoorS42G5
open Go Go.En
namespace Go.S2
theorem ctx5 : CtxOk C5 := fun _ _ h => tbl_ok (l := l5) ⟨alive_ok, rfind_ok, put_ok, num_ok, find_ok, at_ok, hash_ok, clone_ok, equal_ok, same_ok, new_ok, len_ok, trivial⟩ h
/-- a table's list -/
def Good (T : List (List Int)) : Prop := nod T = true ∧ ∀ x ∈ T, x.length ≤ 64
theorem Good.nil : Good [] := ⟨rfl, fun x h => by cases h⟩
theorem Good.ok {T : List (List Int)} (h : Good T) (hl : T.length ≤ 100000) : okT T (firstOf T) (nextOf T) = true := okT_iff.2 ⟨h.1, h.2, hl, rfl, rfl⟩
theorem putB_eq {T : List (List Int)} {x : List Int} (h : x.length ≤ 64) : putB T x = !(fnd T x).2 := by
  unfold putB long
  rw [Nat.ble_eq_true_of_le h]; rfl
theorem putE_nil {x : List Int} (h : x.length ≤ 64) : putE x = .nil := by
  unfold putE long
  rw [Nat.ble_eq_true_of_le h]; rfl
theorem putN_eq {T : List (List Int)} {x : List Int} (h : x.length ≤ 64) : putN T x = bif (fnd T x).2 then (fnd T x).1 else (T.length : Int) := by
  unfold putN long
  rw [Nat.ble_eq_true_of_le h]; rfl
theorem Good.app {T : List (List Int)} {x : List Int} (h : Good T) (hx : x.length ≤ 64) (hf : (fnd T x).2 = false) : Good (T ++ [x]) := by
  have hm : x ∉ T := (fnd_no hf).2
  refine ⟨nod_iff.2 ?_, fun y hy => ?_⟩
  · have hp := nod_iff.1 h.1
    exact List.pairwise_append.2 ⟨hp, List.pairwise_singleton _ _, fun a ha b hb e => hm (by rw [List.mem_singleton.1 hb] at e; rw [← e]; exact ha)⟩
  · rcases List.mem_append.1 hy with hy | hy
    · exact h.2 y hy
    · rw [List.mem_singleton.1 hy]; exact hx
theorem fnd_self {T : List (List Int)} {x : List Int} (hf : (fnd T x).2 = false) (_h : Good (T ++ [x])) : fnd (T ++ [x]) x = ((T.length : Int), true) := by
  have hm : (fndF x 0 (T ++ [x])).2 = true := fnd_mem.2 (by simp)
  obtain ⟨j, h1, h2, h3⟩ := fnd_get hm
  have : j = T.length := by
    simp only [List.length_append, List.length_singleton] at h1
    by_cases hj : j < T.length
    · have e : T.getD j [] = x := by
        rw [← h3]; simp [List.getD_eq_getElem?_getD, List.getElem?_append_left hj]
      exact absurd (by rw [← e]; simp [List.getD_eq_getElem?_getD, hj]) (fnd_no hf).2
    · omega
  show fndF x 0 (T ++ [x]) = _
  rw [h2, this, Nat.zero_add]

theorem atF_in {T : List (List Int)} {j : Nat} (h : j < T.length) : atF T (j : Int) = (T.getD j [], true) := by
  unfold atF
  have : inb (j : Int) T.length = true := by simp only [inb, Bool.and_eq_true, decide_eq_true_eq]; omega
  rw [this]; rfl
theorem same_self (x : List Int) : same x x = true := same_iff.2 rfl
theorem long_put {T : List (List Int)} {x : List Int} (h : ¬ x.length ≤ 64) : putB T x = false ∧ putN T x = 0 ∧ putE x = .no 2 := by
  have e : long x = true := by
    unfold long
    cases h' : x.length.ble 64 with
    | false => rfl
    | true => exact absurd (Nat.le_of_ble_eq_true h') h
  unfold putB putN putE
  rw [e]; exact ⟨rfl, rfl, rfl⟩
theorem Good.bigs {T : List (List Int)} (h : Good T) : bigs T = true := List.all_eq_true.2 fun x hx => big_of (h.2 x hx)
theorem plays_end {T : List (List Int)} (hT : Good T) (i : Int) :
    (bif decide (i ≥ 0) then bif (atF T i).snd == decide (i < zn T.length) then !(atF T i).snd || Nat.beq 1 1 && (inb i T.length && (Nat.beq 1 1 && (Nat.beq 1 1 && (big (atF T i).fst && big (T.getD i.toNat []) && true)))) else true else bif (atF T i).snd == false then !(atF T i).snd || Nat.beq 1 1 && (inb i T.length && (Nat.beq 1 1 && (Nat.beq 1 1 && (big (atF T i).fst && big (T.getD i.toNat []) && true)))) else true) = true ∧
    (bif decide (i ≥ 0) then (atF T i).snd == decide (i < zn T.length) && (!(atF T i).snd || same (atF T i).fst (T.getD i.toNat [])) else (atF T i).snd == false && (!(atF T i).snd || same (atF T i).fst (T.getD i.toNat []))) = true := by
  unfold atF
  by_cases h0 : 0 ≤ i
  · have e1 : decide (i ≥ 0) = true := by simpa using h0
    by_cases h1 : i < T.length
    · have e2 : inb i T.length = true := by simp only [inb, Bool.and_eq_true, decide_eq_true_eq]; exact ⟨h0, h1⟩
      have e3 : decide (i < zn T.length) = true := by simp only [zn, decide_eq_true_eq]; exact h1
      have hb : big (T.getD i.toNat []) = true := by
        have hi : i.toNat < T.length := by omega
        exact big_of (hT.2 _ (mem_getD hi))
      rw [e1, e2, e3]
      simp only [cond_true]
      rw [hb, same_self]
      exact ⟨rfl, rfl⟩
    · have e2 : inb i T.length = false := by
        cases h : inb i T.length with
        | false => rfl
        | true => simp only [inb, Bool.and_eq_true, decide_eq_true_eq] at h; exact absurd h.2 h1
      have e3 : decide (i < zn T.length) = false := by simp only [zn, decide_eq_false_iff_not]; exact h1
      rw [e1, e2, e3]
      exact ⟨rfl, rfl⟩
  · have e1 : decide (i ≥ 0) = false := by simpa using h0
    have e2 : inb i T.length = false := by
      cases h : inb i T.length with
      | false => rfl
      | true => simp only [inb, Bool.and_eq_true, decide_eq_true_eq] at h; exact absurd h.1 h0
    rw [e1, e2]
    exact ⟨rfl, rfl⟩
theorem plays_loop {l : List (List Int)} {q : Int} (hlen : l.length ≤ 200) (hb : ∀ x ∈ l, big x = true) : ∀ (m n k : Nat) (T : List (List Int)), k ≤ l.length → l.length - k < m →
    Good T → T.length ≤ k → f3L0 n m l q (k : Int) (firstOf T) T T (nextOf T) = some ⟨[pB true], [], []⟩
  | 0, _, _, _, _, h, _, _ => absurd h (Nat.not_lt_zero _)
  | m + 1, n, k, T, hk, hm, hT, hTl => by
    show f3S0 (f3L0 n m) l q (k : Int) (firstOf T) T T (nextOf T) = _
    unfold f3S0
    have hok := hT.ok (by omega)
    by_cases h0 : k < l.length
    · have e1 : decide ((k : Int) < zn l.length) = true := by simp only [zn, decide_eq_true_eq]; omega
      have e2 : inb (k : Int) l.length = true := by simp only [inb, Bool.and_eq_true, decide_eq_true_eq]; omega
      have e3 : T.length.ble 100000 = true := Nat.ble_eq_true_of_le (by omega)
      rw [e1, e2, hok, e3, hT.bigs]
      simp only [Int.toNat_natCast]
      rw [big_all hb h0, wr_succ h0 (by omega)]
      have hnext := plays_loop (q := q) hlen hb m n (k + 1)
      obtain ⟨x, hx⟩ : ∃ x, l.getD k [] = x := ⟨_, rfl⟩
      simp only [hx]
      by_cases h200 : x.length > 200
      · have e4 : decide (zn x.length > 200) = true := by simp only [zn, decide_eq_true_eq]; omega
        rw [e4]; rfl
      · have e4 : decide (zn x.length > 200) = false := by simp only [zn, decide_eq_false_iff_not]; omega
        rw [e4]
        unfold rfind
        cases hf : (fnd T x).2 with
        | true =>
          obtain ⟨j, g1, g2, g3⟩ := fnd_get (i := 0) hf
          have hfe : fnd T x = ((j : Int), true) := by
            show fndF x 0 T = _
            rw [g2, Nat.zero_add]
          have h64 : x.length ≤ 64 := by rw [← g3]; exact hT.2 _ (mem_getD g1)
          have e5 : decide (zn x.length > 64) = false := by simp only [zn, decide_eq_false_iff_not]; omega
          have e6 : decide ((j : Int) ≥ 0) = true := by simp
          have e7 : decide ((j : Int) < 0) = false := by simp
          have hp : putN T x = (j : Int) := by rw [putN_eq h64, hf, hfe]; rfl
          have hpb : putB T x = false := by rw [putB_eq h64, hf]; rfl
          simp only [hfe, hp, hpb, e5, e6, e7, putE_nil h64, atF_in g1, g3, same_self, cond_true, cond_false, bne_self_eq_false]
          rw [show big x = true from big_of h64]
          exact hnext T h0 (by omega) hT (by omega)
        | false =>
          have hfe : fnd T x = (0, false) := (fnd_no (i := 0) hf).1
          by_cases h64 : x.length ≤ 64
          · have e5 : decide (zn x.length > 64) = false := by simp only [zn, decide_eq_false_iff_not]; omega
            have hp : putN T x = (T.length : Int) := by rw [putN_eq h64, hf]; rfl
            have hpb : putB T x = true := by rw [putB_eq h64, hf]; rfl
            have hT' := hT.app h64 hf
            have e6 : decide ((T.length + [x].length) * 24 ≤ 140737488355328) = true := by simp only [List.length_singleton, decide_eq_true_eq]; omega
            have hat : atF (T ++ [x]) (T.length : Int) = (x, true) := by
              rw [atF_in (by simp)]
              simp [List.getD_eq_getElem?_getD]
            have hok' := hT'.ok (by simp; omega)
            simp only [hfe, hp, hpb, e5, e6, hok', zn, hat, same_self, cond_true, cond_false, bne_self_eq_false]
            rw [show big x = true from big_of h64]
            exact hnext (T ++ [x]) h0 (by omega) hT' (by simp; omega)
          · obtain ⟨p1, p2, p3⟩ := long_put (T := T) h64
            have e5 : decide (zn x.length > 64) = true := by simp only [zn, decide_eq_true_eq]; omega
            simp only [hfe, p1, p2, p3, e5, cond_true, cond_false]
            exact hnext T h0 (by omega) hT (by omega)
    · have e1 : decide ((k : Int) < zn l.length) = false := by simp only [zn, decide_eq_false_iff_not]; omega
      obtain ⟨q1, q2⟩ := plays_end hT q
      rw [e1, hok, q1, q2]
      rfl
theorem plays_law {l : List (List Int)} {q : Int} (hb : ∀ x ∈ l, big x = true) : ∃ n, f3M n l q = some ⟨[pB true], [], []⟩ := by
  refine ⟨l.length + 1, ?_⟩
  unfold f3M f3T
  by_cases hlen : l.length > 200
  · have : decide (zn l.length > 200) = true := by simp only [zn, decide_eq_true_eq]; omega
    rw [this]; rfl
  · have : decide (zn l.length > 200) = false := by simp only [zn, decide_eq_false_iff_not]; omega
    rw [this]
    exact plays_loop (by omega) hb _ _ 0 [] (Nat.zero_le _) (by omega) Good.nil (Nat.le_refl _)
def playsS : En.Spec := ⟨[], fun ds os => match ds, os with
  | [.p (.one (.d (.fz false) (.l (.l (.i .i32))) l)), .p (.one (.d (.fz true) (.i .i64) _i))], [] => .br (bigs l) (.leaf [pB true] [] []) .fail
  | _, _ => .fail⟩
theorem plays_ok : FnOk P C0 3 playsS := by
  refine fn_okC ctx5 (show P.funcs[3]? = some f3f by kernel_rfl) (of_decide_eq_true (by kernel_rfl)) playsS f3h (fun ds os lf hp => ?_)
  unfold playsS at hp
  simp only at hp
  split at hp
  · rename_i l i
    simp only [Out.pick] at hp
    cases hc : bigs l with
    | false => rw [hc] at hp; cases hp
    | true =>
      rw [hc] at hp
      simp only [cond_true, Option.some.injEq] at hp
      subst hp
      obtain ⟨n, hn⟩ := plays_law (q := i) (bigs_all hc)
      exact ⟨n, (f3_ev n l i).trans hn⟩
  · cases hp
end Go.S2
