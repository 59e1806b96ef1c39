/-
  The engine, part Ed: an interpreter of the loaded code over typed values, and its soundness.
-/
import Derived.Test.YtoghhokbakphlaaDoorEc
import Derived.Orders
import Derived.ChangeFn
import Derived.Handed
import Derived.ReadAgain
import Derived.RowKit
section
/-
  The engine, part NE: calls.
-/
namespace Go.En
open Go

section
variable {E : Ctx0} {w0 w w' : World} {M : Ml} {K : Bool → Nat → Prop} {γ : Gh} {σ : Sg} {tm : Array Value} {P : Program} {so : Id → Ob}

theorem backOld_ok {k : Bk} : ∀ {xs : List Id} {vs : List Nat} {obs : List Ob} {ws : Wo}, backOld k xs vs obs = some ws → ws.map (·.1) = xs ∧ vs.length = xs.length ∧ obs.length = xs.length ∧
    ∀ (j : Nat) (x : Id) (v : Nat) (ob : Ob), xs[j]? = some x → vs[j]? = some v → obs[j]? = some ob → ∃ ob', backO k v ob = some ob' ∧ (x, ob') ∈ ws
  | [], [], [], ws, h => by simp only [backOld, Option.some.injEq] at h; subst h; exact ⟨rfl, rfl, rfl, fun j x v ob hj => by simp at hj⟩
  | x :: xs, v :: vs, ob :: obs, ws, h => by
    simp only [backOld] at h
    split at h
    · rename_i ob1 ws1 h1 h2
      simp only [Option.some.injEq] at h; subst h
      obtain ⟨g1, g2, g3, g4⟩ := backOld_ok h2
      refine ⟨by simp [g1], by simp [g2], by simp [g3], fun j y u o hj hu ho => ?_⟩
      cases j with
      | zero =>
        simp only [List.getElem?_cons_zero, Option.some.injEq] at hj hu ho
        subst hj; subst hu; subst ho
        exact ⟨ob1, h1, List.mem_cons_self ..⟩
      | succ j =>
        obtain ⟨o', k1, k2⟩ := g4 j y u o (by simpa using hj) (by simpa using hu) (by simpa using ho)
        exact ⟨o', k1, List.mem_cons_of_mem _ k2⟩
    · cases h
  | [], [], _ :: _, _, h => by cases h
  | [], _ :: _, _, _, h => by cases h
  | _ :: _, [], _, _, h => by cases h
  | _ :: _, _ :: _, [], _, h => by cases h
theorem backNew_ok {k : Bk} : ∀ {obs : List Ob} {j0 : Nat} {ws : Wo}, backNew k j0 obs = some ws → ws.map (·.1) = (List.range obs.length).map (fun i => (⟨k.t, j0 + i⟩ : Id)) ∧
    ∀ (i : Nat) (ob : Ob), obs[i]? = some ob → ∃ ob', backO k 0 ob = some ob' ∧ ((⟨k.t, j0 + i⟩ : Id), ob') ∈ ws
  | [], j0, ws, h => by simp only [backNew, Option.some.injEq] at h; subst h; exact ⟨rfl, fun i ob hi => by simp at hi⟩
  | ob :: obs, j0, ws, h => by
    simp only [backNew] at h
    split at h
    · rename_i ob1 ws1 h1 h2
      simp only [Option.some.injEq] at h; subst h
      obtain ⟨g1, g2⟩ := backNew_ok h2
      refine ⟨?_, fun i o hi => ?_⟩
      · rw [List.map_cons, g1, List.length_cons, List.range_succ_eq_map, List.map_cons, List.map_map]
        simp only [Nat.add_zero, List.cons.injEq, true_and]
        refine List.map_congr_left (fun i _ => ?_)
        simp only [Function.comp, Nat.succ_eq_add_one, Id.mk.injEq, true_and]; omega
      · cases i with
        | zero =>
          simp only [List.getElem?_cons_zero, Option.some.injEq] at hi
          subst hi
          exact ⟨ob1, h1, List.mem_cons_self ..⟩
        | succ i =>
          obtain ⟨o', k1, k2⟩ := g2 i o (by simpa using hi)
          refine ⟨o', k1, List.mem_cons_of_mem _ ?_⟩
          rw [show j0 + (i + 1) = j0 + 1 + i by omega]; exact k2
    · cases h
theorem setW_get : ∀ {ws : Wo} {σ : Sg}, (ws.map (·.1)).Nodup → ∀ {x : Id} {ob : Ob}, (x, ob) ∈ ws → (σ.setW ws).o x = ob
  | [], σ, _, x, ob, h => by cases h
  | (y, oy) :: ws, σ, hn, x, ob, h => by
    rw [List.map_cons, List.nodup_cons] at hn
    rcases List.mem_cons.1 h with h | h
    · injection h with h1 h2
      subst h1; subst h2
      rw [Sg.setW, setW_o ws _ _ (fun q hq e => hn.1 (List.mem_map.2 ⟨q, hq, e⟩))]
      simp [Sg.setO]
    · exact setW_get hn.2 h
theorem freshN_ok : ∀ {n j : Nat} {dst : Option Tmp} {Q : Unit → Prop}, (freshN dst j n).ok σ.d σ.o Q → Q () ∧ ∀ i, i < n → σ.o ⟨dst.getD 0 + 2, j + i⟩ = .no
  | 0, j, dst, Q, h => ⟨h, fun i hi => absurd hi (Nat.not_lt_zero _)⟩
  | n + 1, j, dst, Q, h => by
    simp only [freshN, ok_bind] at h
    obtain ⟨T, rfl, h1, h2⟩ := ok_fresh _ _ _ h
    obtain ⟨h3, h4⟩ := freshN_ok h2
    refine ⟨h3, fun i hi => ?_⟩
    cases i with
    | zero => exact h1
    | succ i =>
      have := h4 i (by omega)
      rw [show j + (i + 1) = j + 1 + i by omega]; exact this

/-- behind a call -/
theorem call_back (h : Rel E w0 M K γ σ tm w) {g : Gv} {s0 : Ln} (hg : GivenG E w K σ.o γ 0 s0 g) (hnd : g.s.perm.Nodup) (_hrd : ∀ x, x ∈ g.s.rd → ¬ x ∈ g.s.perm) {lf : Lf} {v : Value} {Kc : Bool → Nat → Prop} {γc : Gh}
    (hc : Rel E w (lentM K γ g.s g.os) Kc γc (sgOf [resD lf.res] lf.old lf.new) #[v] w') {dst : Option Tmp} {res : List Pt} {old new : Wo}
    (hr : backPts ⟨g.s.perm, dst.getD 0 + 2, g.s.f, !g.s.rd.isEmpty⟩ lf.res = some res) (ho : backOld ⟨g.s.perm, dst.getD 0 + 2, g.s.f, !g.s.rd.isEmpty⟩ g.s.perm g.vers lf.old = some old) (hn : backNew ⟨g.s.perm, dst.getD 0 + 2, g.s.f, !g.s.rd.isEmpty⟩ 0 lf.new = some new)
    (hfr : ∀ i, i < lf.new.length → σ.o ⟨dst.getD 0 + 2, 0 + i⟩ = .no) : Pos E w0 M σ tm (resD res, old ++ new) v w' := by
  classical
  generalize hkk : (⟨g.s.perm, dst.getD 0 + 2, g.s.f, !g.s.rd.isEmpty⟩ : Bk) = k at hr ho hn
  have hkp : k.perm = g.s.perm := by rw [← hkk]
  have hkt : k.t = dst.getD 0 + 2 := by rw [← hkk]
  have hkf : k.f = g.s.f := by rw [← hkk]
  have hko : k.own = !g.s.rd.isEmpty := by rw [← hkk]
  obtain ⟨o1, o2, o3, o4⟩ := backOld_ok ho
  obtain ⟨n1, n2⟩ := backNew_ok hn
  have hlen : g.os.length = g.s.perm.length := by have := hg.len; omega
  have hperm : ∀ (j : Nat) (x : Id), g.s.perm[j]? = some x → ∃ (ob : Ob) (ver : Nat), g.os[j]? = some ob ∧ g.vers[j]? = some ver ∧ GivenO E w K σ.o γ g.s x ob ver := by
    intro j x hj
    have hlt := (List.getElem?_eq_some_iff.1 hj).1
    have h1 : j < g.os.length := by omega
    have h2 : j < g.vers.length := by rw [hg.vlen]; exact h1
    obtain ⟨y, h3, h4⟩ := hg.get j _ _ (List.getElem?_eq_getElem h1) (List.getElem?_eq_getElem h2)
    rw [Nat.zero_add, hj] at h3
    obtain rfl := Option.some.inj h3
    exact ⟨_, _, List.getElem?_eq_getElem h1, List.getElem?_eq_getElem h2, h4⟩
  have hmem_no : ∀ x, x ∈ g.s.perm → σ.o x ≠ .no := by
    intro x hx
    obtain ⟨j, hj⟩ := List.getElem?_of_mem hx
    obtain ⟨_, _, _, _, h1⟩ := hperm j x hj
    exact h1.no'
  -- the names that are written
  have hkeys : ((old ++ new).map (·.1)).Nodup := by
    rw [List.map_append, o1, n1]
    refine List.nodup_append.2 ⟨hnd, ?_, fun a ha b hb e => ?_⟩
    · refine List.pairwise_map.2 (List.Pairwise.imp (fun {a b} hab e => hab ?_) List.nodup_range)
      injection e with _ e; omega
    · obtain ⟨i, hi, rfl⟩ := List.mem_map.1 hb
      subst e
      have := hfr i (List.mem_range.1 hi)
      rw [hkt] at ha
      exact hmem_no _ ha this
  -- which name of the function's is it?
  let bkI : Id → Option Id := fun y => match idxOf y g.s.perm 0 with
    | some j => some ⟨0, j⟩
    | none => if y.t = k.t ∧ y.j < lf.new.length then some ⟨1, y.j⟩ else none
  have bk0 : ∀ (j : Nat) (x : Id), g.s.perm[j]? = some x → bkI x = some ⟨0, j⟩ := by
    intro j x hj
    simp only [bkI]
    cases hi : idxOf x g.s.perm 0 with
    | none => exact absurd (List.mem_of_getElem? hj) (idxOf_none hi)
    | some j' =>
      obtain ⟨_, h2⟩ := idxOf_spec hi
      rw [Nat.sub_zero] at h2
      have := (List.getElem?_inj (List.getElem?_eq_some_iff.1 h2).1 hnd).1 (h2.trans hj.symm)
      rw [this]
  have bk1 : ∀ i, i < lf.new.length → bkI ⟨k.t, i⟩ = some ⟨1, i⟩ := by
    intro i hi
    simp only [bkI]
    cases hx : idxOf (⟨k.t, i⟩ : Id) g.s.perm 0 with
    | some j =>
      obtain ⟨_, h2⟩ := idxOf_spec hx
      have h3 := hmem_no _ (List.mem_of_getElem? h2)
      have := hfr i hi
      rw [hkt, Nat.zero_add] at *
      exact absurd this h3
    | none => simp [hi]
  have bkInv : ∀ y x, bkI y = some x → (∃ j, x = ⟨0, j⟩ ∧ g.s.perm[j]? = some y) ∨ ∃ i, x = ⟨1, i⟩ ∧ y = ⟨k.t, i⟩ ∧ i < lf.new.length := by
    intro y x hb
    simp only [bkI] at hb
    cases hi : idxOf y g.s.perm 0 with
    | some j =>
      rw [hi] at hb
      simp only [Option.some.injEq] at hb
      obtain ⟨_, h2⟩ := idxOf_spec hi
      rw [Nat.sub_zero] at h2
      exact .inl ⟨j, hb.symm, h2⟩
    | none =>
      rw [hi] at hb
      simp only at hb
      split at hb
      · rename_i hc
        simp only [Option.some.injEq] at hb
        exact .inr ⟨y.j, hb.symm, by obtain ⟨t, j⟩ := y; simp only at hc; rw [hc.1], hc.2⟩
      · cases hb
  have bkInj : ∀ y y' x, bkI y = some x → bkI y' = some x → y = y' := by
    intro y y' x h1 h2
    rcases bkInv y x h1 with ⟨j, rfl, e1⟩ | ⟨i, rfl, e1, _⟩
    · rcases bkInv y' _ h2 with ⟨j', e2, e3⟩ | ⟨i', e2, _⟩
      · injection e2 with _ e2; subst e2
        rw [e1] at e3; exact Option.some.inj e3
      · injection e2 with e2 _; cases e2
    · rcases bkInv y' _ h2 with ⟨j', e2, e3⟩ | ⟨i', e2, e3, _⟩
      · injection e2 with e2 _; cases e2
      · injection e2 with _ e2; subst e2; rw [e1, e3]
  let γ2 : Gh := ⟨fun y => match bkI y with | some x => γc.hd x | none => γ.hd y, fun y => match bkI y with | some x => γc.fp x | none => γ.fp y⟩
  let K2 : Bool → Nat → Prop := fun f b => K f b ∨ Kc true b ∨ ((f = false ∨ g.s.f = true) ∧ g.s.rd = [] ∧ Kc false b)
  have so0 : ∀ (j : Nat) (x : Id), g.s.perm[j]? = some x → ∃ (ob : Ob) (ver : Nat) (ob' : Ob), lf.old[j]? = some ob ∧ g.vers[j]? = some ver ∧ backO k ver ob = some ob' ∧ (σ.setW (old ++ new)).o x = ob' := by
    intro j x hj
    have hlt := (List.getElem?_eq_some_iff.1 hj).1
    have h1 : j < lf.old.length := by rw [o3]; exact hlt
    have h2 : j < g.vers.length := by rw [o2]; exact hlt
    obtain ⟨ob', k1, k2⟩ := o4 j x _ _ hj (List.getElem?_eq_getElem h2) (List.getElem?_eq_getElem h1)
    exact ⟨_, _, ob', List.getElem?_eq_getElem h1, List.getElem?_eq_getElem h2, k1, setW_get hkeys (List.mem_append_left _ k2)⟩
  have so1 : ∀ i, i < lf.new.length → ∃ (ob ob' : Ob), lf.new[i]? = some ob ∧ backO k 0 ob = some ob' ∧ (σ.setW (old ++ new)).o ⟨k.t, i⟩ = ob' := by
    intro i hi
    obtain ⟨ob', k1, k2⟩ := n2 i _ (List.getElem?_eq_getElem hi)
    rw [Nat.zero_add] at k2
    exact ⟨_, ob', List.getElem?_eq_getElem hi, k1, setW_get hkeys (List.mem_append_right _ k2)⟩
  have soN : ∀ y, bkI y = none → (σ.setW (old ++ new)).o y = σ.o y := by
    intro y hy
    refine setW_o _ _ _ (fun q hq e => ?_)
    have hm : q.1 ∈ (old ++ new).map (·.1) := List.mem_map.2 ⟨q, hq, rfl⟩
    rw [List.map_append, o1, n1, List.mem_append] at hm
    rcases hm with hm | hm
    · obtain ⟨j, hj⟩ := List.getElem?_of_mem hm
      rw [e] at hj
      rw [bk0 j y hj] at hy; cases hy
    · obtain ⟨i, hi, hi2⟩ := List.mem_map.1 hm
      rw [Nat.zero_add, e] at hi2
      rw [← hi2, bk1 i (List.mem_range.1 hi)] at hy; cases hy
  have hbck : Bck k (sgOf [resD lf.res] lf.old lf.new).o (σ.setW (old ++ new)).o γc γ2 Kc K2 := by
    refine ⟨?_, fun b hb => .inr (.inl hb), fun hown b hb => ?_, ?_⟩
    · rintro ⟨t, j⟩ y hid hno
      match t with
      | 0 =>
        have hj : g.s.perm[j]? = some y := by rw [← hkp]; exact hid
        obtain ⟨ob, ver, ob', e1, e2, e3, e4⟩ := so0 j y hj
        have e5 : (sgOf [resD lf.res] lf.old lf.new).o ⟨0, j⟩ = ob := by rw [sgOf_o0, List.getD_eq_getElem?_getD, e1]; rfl
        obtain ⟨a1, a2, a3, a4, _⟩ := backO_same e3
        rw [e4, e5]
        exact ⟨a1, a2, a3, a4, by simp only [γ2, bk0 j y hj]⟩
      | 1 =>
        have hy : y = ⟨k.t, j⟩ := by
          have : some (⟨k.t, j⟩ : Id) = some y := hid
          injection this with this; exact this.symm
        subst hy
        have hj : j < lf.new.length := by
          apply Classical.byContradiction
          intro hn
          apply hno
          rw [sgOf_o1, List.getD_eq_getElem?_getD, List.getElem?_eq_none (by omega)]; rfl
        obtain ⟨ob, ob', e1, e3, e4⟩ := so1 j hj
        have e5 : (sgOf [resD lf.res] lf.old lf.new).o ⟨1, j⟩ = ob := by rw [sgOf_o1, List.getD_eq_getElem?_getD, e1]; rfl
        obtain ⟨a1, a2, a3, a4, _⟩ := backO_same e3
        rw [e4, e5]
        exact ⟨a1, a2, a3, a4, by simp only [γ2, bk1 j hj]⟩
      | t + 2 => cases hid
    · have hrd0 : g.s.rd = [] := by
        rw [hko] at hown
        cases hh : g.s.rd with
        | nil => rfl
        | cons a l => rw [hh] at hown; cases hown
      rw [hkf]
      refine .inr (.inr ⟨?_, hrd0, hb⟩)
      cases g.s.f with
      | true => exact .inr rfl
      | false => exact .inl rfl
    · rintro b (hb | hb | ⟨_, hr0, hb⟩)
      · exact .inl (h.kk b hb)
      · exact .inr (.inl hb)
      · exact .inr (.inr ⟨.inl rfl, hr0, hb⟩)
  -- blocks
  have hMt : ∀ b, (lentM K γ g.s g.os) true b → (w0.heap.size ≤ b ∨ M true b) ∧ b < w.heap.size ∧ ¬ K false b := by
    rintro b ⟨x, _, hx⟩; exact h.ow x b hx
  have hKc : ∀ b, ¬ w.heap.size ≤ b → ¬ (lentM K γ g.s g.os) true b → Kc true b → False := by
    intro b h1 h2 h3
    rcases hc.k1 b h3 with h4 | h4
    · exact h1 h4
    · exact h2 h4
  have hfp2 : ∀ o b, b ∈ γ2.fp o → (∃ x, bkI o = some x ∧ b ∈ γc.fp x) ∨ (bkI o = none ∧ b ∈ γ.fp o) := by
    intro o b hb
    simp only [γ2] at hb
    split at hb
    · rename_i x hx; exact .inl ⟨x, hx, hb⟩
    · rename_i hx; exact .inr ⟨hx, hb⟩
  have hnoM : ∀ o b, bkI o = none → b ∈ γ.fp o → ¬ (lentM K γ g.s g.os) true b := by
    rintro o b hbk hb ⟨x, hx, hxb⟩
    have := h.dj x o b hxb hb
    subst this
    obtain ⟨j, hj⟩ := List.getElem?_of_mem hx
    rw [bk0 j x hj] at hbk; cases hbk
  have hsame : ∀ b, b < w.heap.size → ¬ (lentM K γ g.s g.os) true b → w'.heap[b]? = w.heap[b]? := hc.fr
  have hKsame : ∀ f b, K f b → w'.heap[b]? = w.heap[b]? := by
    intro f b hb
    refine hsame b (h.kb f b hb) (fun hm => (hMt b hm).2.2 ?_)
    cases f
    · exact hb
    · exact h.kk b hb
  have hx : Ext w w' K K2 σ.o (σ.setW (old ++ new)).o γ γ2 := by
    -- what is known of lent objects
    have lent : ∀ o x, σ.o o ≠ .no → bkI o = some x → ∃ (j : Nat) (ob : Ob) (ver : Nat) (ob' ob0 : Ob), x = ⟨0, j⟩ ∧ g.s.perm[j]? = some o ∧ backO k ver ob = some ob' ∧ (σ.setW (old ++ new)).o o = ob' ∧ LentOk (lentM K γ g.s g.os) j ob (γc.hd ⟨0, j⟩) ∧ g.os[j]? = some ob0 ∧ GivenO E w K σ.o γ g.s o ob0 ver := by
      intro o x hno hb
      rcases bkInv o x hb with ⟨j, rfl, hj⟩ | ⟨i, rfl, rfl, hi⟩
      · obtain ⟨ob, ver, ob', e1, e2, e3, e4⟩ := so0 j o hj
        obtain ⟨ob0, ver0, f1, f2, f3⟩ := hperm j o hj
        rw [e2] at f2
        obtain rfl := Option.some.inj f2
        have hjl : j < g.os.length := (List.getElem?_eq_some_iff.1 f1).1
        have := hc.h0 j hjl
        have e5 : (sgOf [resD lf.res] lf.old lf.new).o ⟨0, j⟩ = ob := by rw [sgOf_o0, List.getD_eq_getElem?_getD, e1]; rfl
        rw [e5] at this
        exact ⟨j, ob, ver, ob', ob0, rfl, hj, e3, e4, this, f1, f3⟩
      · exact absurd (by have := hfr i hi; rw [hkt, ← Nat.zero_add i]; exact this) hno
    have hM0 : ∀ (j : Nat) (ob0 : Ob), g.os[j]? = some ob0 → (lentM K γ g.s g.os).ob j = ob0 := fun j ob0 hj => by show g.os.getD j .no = _; rw [List.getD_eq_getElem?_getD, hj]; rfl
    have hMH : ∀ (j : Nat) (o : Id), g.s.perm[j]? = some o → (lentM K γ g.s g.os).H j = γ.hd o := fun j o hj => by show γ.hd (g.s.perm.getD j ⟨0, 0⟩) = _; rw [List.getD_eq_getElem?_getD, hj]; rfl
    refine ⟨fun _ _ h => .inl h, hKsame, ?_, ?_, ?_, ?_, ?_⟩
    · intro o hno
      cases hb : bkI o with
      | none => rw [soN o hb]; exact hno
      | some x =>
        obtain ⟨j, ob, ver, ob', ob0, rfl, hj, e3, e4, _⟩ := lent o x hno hb
        rw [e4]; exact (backO_same e3).1
    · intro o q hno hr
      cases hb : bkI o with
      | none => rw [soN o hb] at hr; exact ⟨hr, by simp only [γ2, hb]⟩
      | some x =>
        obtain ⟨j, ob, ver, ob', ob0, rfl, hj, e3, e4, e5, e6, e7⟩ := lent o x hno hb
        rw [e4, (backO_same e3).2.1] at hr
        obtain ⟨a1, a2⟩ := e5.2.1 q hr
        rw [hM0 j ob0 e6] at a1
        exact ⟨by rw [← e7.row]; exact a1, by simp only [γ2, hb]; rw [a2]; exact hMH j o hj⟩
    · intro o hno hr
      cases hb : bkI o with
      | none => rw [soN o hb] at hr; exact ⟨hr, by simp only [γ2, hb]⟩
      | some x =>
        obtain ⟨j, ob, ver, ob', ob0, rfl, hj, e3, e4, e5, e6, e7⟩ := lent o x hno hb
        rw [e4, (backO_same e3).2.2.1] at hr
        obtain ⟨a1, a2⟩ := e5.2.2.1 hr
        rw [hM0 j ob0 e6] at a1
        exact ⟨by rw [← e7.va]; exact a1, by simp only [γ2, hb]; rw [a2]; exact hMH j o hj⟩
    · intro o hno hr
      cases hb : bkI o with
      | none => rw [soN o hb] at hr; exact ⟨hr, by simp only [γ2, hb]⟩
      | some x =>
        obtain ⟨j, ob, ver, ob', ob0, rfl, hj, e3, e4, e5, e6, e7⟩ := lent o x hno hb
        rw [e4, (backO_same e3).2.2.2.1] at hr
        obtain ⟨a1, a2⟩ := e5.2.2.2 hr
        rw [hM0 j ob0 e6] at a1
        exact ⟨by rw [← e7.ma]; exact a1, by simp only [γ2, hb]; rw [a2]; exact hMH j o hj⟩
    · intro o v' hno hv
      cases hb : bkI o with
      | none =>
        rw [soN o hb] at hv
        exact ⟨v', hv, Nat.le_refl _, fun _ => ⟨by rw [soN o hb], fun b hbo => ⟨.inl (by simp only [γ2, hb]; exact hbo), hsame b (h.ow o b hbo).2.1 (hnoM o b hb hbo)⟩⟩⟩
      | some x =>
        obtain ⟨j, ob, ver, ob', ob0, rfl, hj, e3, e4, e5, e6, e7⟩ := lent o x hno hb
        rw [e4] at hv
        have hvv := (backO_same e3).2.2.2.2 v' hv
        have hrow : ∃ q, rowSz ob' = some q := by
          cases ob' with
          | ro f ver e sh ow v fc => exact ⟨_, rfl⟩
          | fz f ver sh v => exact ⟨_, rfl⟩
          | _ => cases hv
        obtain ⟨q, hq⟩ := hrow
        rw [(backO_same e3).2.1] at hq
        obtain ⟨a1, _⟩ := e5.2.1 q hq
        rw [hM0 j ob0 e6, e7.row] at a1
        obtain ⟨v0, hv0⟩ : ∃ v0, verOf (σ.o o) = some v0 := by
          revert a1
          cases σ.o o with
          | ro f ver e sh ow v fc => intro _; exact ⟨_, rfl⟩
          | fz f ver sh v => intro _; exact ⟨_, rfl⟩
          | _ => intro a1; cases a1
        have := e7.ver v0 hv0
        exact ⟨v0, hv0, by omega, fun e => by omega⟩
  have hrel : Rel E w0 M K2 γ2 (σ.setW (old ++ new)) tm w' := by
    rw [setW_eq]
    refine h.chg hx ?_ ?_ ?_ ?_ ?_ ?_ ?_ ?_ hc.sz ?_ hc.os hc.tape hc.output
    · intro o
      cases hb : bkI o with
      | none => exact .inl ⟨soN o hb, by simp only [γ2, hb], by simp only [γ2, hb], fun b hbo => hsame b (h.ow o b hbo).2.1 (hnoM o b hb hbo)⟩
      | some x =>
        right
        have e1 : γ2.hd o = γc.hd x := by simp only [γ2, hb]
        have e2 : γ2.fp o = γc.fp x := by simp only [γ2, hb]
        rw [e1, e2]
        have hob := hc.ob x
        rcases bkInv o x hb with ⟨j, rfl, hj⟩ | ⟨i, rfl, rfl, hi⟩
        · obtain ⟨ob, ver, ob', f1, f2, f3, f4⟩ := so0 j o hj
          have e5 : (sgOf [resD lf.res] lf.old lf.new).o ⟨0, j⟩ = ob := by rw [sgOf_o0, List.getD_eq_getElem?_getD, f1]; rfl
          rw [f4]; rw [e5] at hob
          exact hob.back hbck f3
        · obtain ⟨ob, ob', f1, f3, f4⟩ := so1 i hi
          have e5 : (sgOf [resD lf.res] lf.old lf.new).o ⟨1, i⟩ = ob := by rw [sgOf_o1, List.getD_eq_getElem?_getD, f1]; rfl
          rw [f4]; rw [e5] at hob
          exact hob.back hbck f3
    · intro o o' b hb hb'
      rcases hfp2 o b hb with ⟨x, e1, e2⟩ | ⟨e1, e2⟩
      · rcases hfp2 o' b hb' with ⟨x', e3, e4⟩ | ⟨e3, e4⟩
        · have := hc.dj x x' b e2 e4
          subst this
          exact bkInj o o' x e1 e3
        · exfalso
          rcases (hc.ow x b e2).1 with h1 | h1
          · have := (h.ow o' b e4).2.1; omega
          · exact hnoM o' b e3 e4 h1
      · rcases hfp2 o' b hb' with ⟨x', e3, e4⟩ | ⟨e3, e4⟩
        · exfalso
          rcases (hc.ow x' b e4).1 with h1 | h1
          · have := (h.ow o b e2).2.1; omega
          · exact hnoM o b e1 e2 h1
        · exact h.dj o o' b e2 e4
    · intro o
      simp only [γ2]
      split
      · exact hc.nd _
      · exact h.nd o
    · intro o b hb
      rcases hfp2 o b hb with ⟨x, e1, e2⟩ | ⟨e1, e2⟩
      · obtain ⟨a1, a2, a3⟩ := hc.ow x b e2
        have hw0 : w0.heap.size ≤ b ∨ M true b := by
          rcases a1 with a1 | a1
          · exact .inl (Nat.le_trans h.sz a1)
          · exact (hMt b a1).1
        refine ⟨hw0, a2, ?_⟩
        rintro (hk | hk | ⟨_, _, hk⟩)
        · rcases a1 with a1 | a1
          · have := h.kb _ b hk; omega
          · exact (hMt b a1).2.2 hk
        · exact a3 (hc.kk b hk)
        · exact a3 hk
      · obtain ⟨a1, a2, a3⟩ := h.ow o b e2
        refine ⟨a1, Nat.lt_of_lt_of_le a2 hc.sz, ?_⟩
        rintro (hk | hk | ⟨_, hr0, hk⟩)
        · exact a3 hk
        · exact hKc b (by omega) (hnoM o b e1 e2) hk
        · rcases hc.k0 b hk with h1 | h1 | h1
          · omega
          · exact hnoM o b e1 e2 h1
          · rcases h1 with ⟨_, h1⟩ | ⟨h1, _⟩
            · cases hs : g.s.f with
              | true => rw [hs] at h1; exact a3 (h.kk b h1)
              | false => rw [hs] at h1; exact a3 h1
            · exact h1 hr0
    · rintro f b (hk | hk | ⟨_, _, hk⟩)
      · exact Nat.lt_of_lt_of_le (h.kb f b hk) hc.sz
      · exact hc.kb _ b hk
      · exact hc.kb _ b hk
    · exact hbck.tf
    · rintro b (hk | hk | ⟨hf, hr0, hk⟩)
      · exact h.k1 b hk
      · rcases hc.k1 b hk with h1 | h1
        · exact .inl (Nat.le_trans h.sz h1)
        · exact (hMt b h1).1
      · rcases hc.k0 b hk with h1 | h1 | h1
        · exact .inl (Nat.le_trans h.sz h1)
        · exact (hMt b h1).1
        · rcases h1 with ⟨_, h1⟩ | ⟨h1, _⟩
          · rcases hf with hf | hf
            · cases hf
            · rw [hf] at h1; exact h.k1 b h1
          · exact absurd hr0 h1
    · rintro b (hk | hk | ⟨hf, hr0, hk⟩)
      · exact h.k0 b hk
      · rcases hc.k1 b hk with h1 | h1
        · exact .inl (Nat.le_trans h.sz h1)
        · exact (hMt b h1).1.imp id .inl
      · rcases hc.k0 b hk with h1 | h1 | h1
        · exact .inl (Nat.le_trans h.sz h1)
        · exact (hMt b h1).1.imp id .inl
        · rcases h1 with ⟨_, h1⟩ | ⟨h1, _⟩
          · cases hs : g.s.f with
            | true => rw [hs] at h1; exact h.k0 b (h.kk b h1)
            | false => rw [hs] at h1; exact h.k0 b h1
          · exact absurd hr0 h1
    · intro b hb hm
      refine hsame b (Nat.lt_of_lt_of_le hb h.sz) (fun hmt => ?_)
      rcases (hMt b hmt).1 with h1 | h1
      · omega
      · exact hm h1
  refine ⟨K2, γ2, hrel, ?_⟩
  have hd := hc.sl 0
  have e1 : (sgOf [resD lf.res] lf.old lf.new).d 0 = resD lf.res := rfl
  have e2 : tmv #[v] 0 = v := rfl
  rw [e1, e2] at hd
  exact resD_back hbck hr hd
end
end Go.En
end
section
/-
  The engine, part NF: calls do what their specs say.
-/
namespace Go.En
open Go

section
variable {E : Ctx0} {w0 w w' : World} {M : Ml} {K : Bool → Nat → Prop} {γ : Gh} {σ : Sg} {tm : Array Value} {P : Program} {so : Id → Ob}

theorem Rel.opDs (h : Rel E w0 M K γ σ tm w) {a : Act} (ha : a.tmps = tm) : ∀ {xs : List Operand} {Q : List D → Prop}, (opDs xs).ok σ.d σ.o Q → ∃ ds, Q ds ∧ DsR E w K σ.o γ ds (xs.map a.eval)
  | [], Q, hp => ⟨[], hp, rfl⟩
  | x :: xs, Q, hp => by
    simp only [En.opDs, ok_bind, ok_pure] at hp
    obtain ⟨d, hp, hd⟩ := h.oper x a ha hp
    obtain ⟨ds, hq, hds⟩ := Rel.opDs h ha hp
    exact ⟨_, hq, _, _, rfl, hd, hds⟩
theorem DsR.append : ∀ {ds ds' : List D} {vs vs' : List Value}, DsR E w K so γ ds vs → DsR E w K so γ ds' vs' → DsR E w K so γ (ds ++ ds') (vs ++ vs')
  | [], _, _, _, h, h' => by rw [show _ = [] from h]; exact h'
  | _ :: _, _, _, _, ⟨y, ys, e, h1, h2⟩, h' => ⟨y, ys ++ _, by rw [e]; rfl, h1, DsR.append h2 h'⟩
theorem Rel.caps (h : Rel E w0 M K γ σ tm w) : ∀ {cs : List Cp} {xs : List Value}, CpsR E w K σ.o γ cs xs → DsR E w K σ.o γ (cs.map cpD) xs
  | [], [], _ => rfl
  | [], _ :: _, hc => hc.elim
  | _ :: _, [], hc => hc.elim
  | c :: cs, x :: xs, hc => by
    refine ⟨x, xs, rfl, ?_, Rel.caps h hc.2⟩
    cases c with
    | b o =>
      refine ⟨x, rfl, hc.1.1, fun hv => ?_⟩
      have hx := hc.1.2 hv
      have hob := h.ob o
      cases ho : σ.o o with
      | va ls =>
        rw [ho] at hob
        obtain ⟨b, cs, T, h1, _⟩ := hob
        exact ⟨b, h1, by rw [hx, h1]⟩
      | _ => rw [ho] at hv; cases hv
    | np => show [x] = _; rw [show x = .pointer none from hc.1]
    | d f sh v => exact hc.1

theorem pick_ok' {o : Out} {sd : Nat → D} {Q : Lf → Prop} (h : o.rd.ok sd so Q) : ∃ lf, o.pick = some lf ∧ Q lf := by
  induction o with
  | leaf res old new => exact ⟨_, rfl, h⟩
  | br c a b iha ihb =>
    cases c with
    | true => exact iha h
    | false => exact ihb h
  | fail => exact h.elim
theorem callS_ok (h : Rel E w0 M K γ σ tm w) {g : FuncId} {sp : Spec} (hsp : FnOk P E g sp) {dst : Option Tmp} {ts : List TypeId} {ds : List D} {vs : Array Value} (hds : DsR E w K σ.o γ ds vs.toList) {Q : Re → Prop}
    (hp : (callS E sp dst ts ds).ok σ.d σ.o Q) : CallsF P g vs w fun v w' => ∃ r, Q r ∧ Pos E w0 M σ tm r v w' := by
  unfold callS at hp
  simp only [ok_bind] at hp
  obtain ⟨x, hp, hle, hx⟩ := argDs_ok h hds hp
  obtain ⟨gv, hp, hg⟩ := giveOs_ok h 40 0 hp
  simp only [ok_chk] at hp
  obtain ⟨hrd, hp⟩ := hp
  obtain ⟨lf, hpk, hp⟩ := pick_ok' hp
  simp only [ok_opt] at hp
  obtain ⟨res, hr, old, ho, new, hn, hp⟩ := hp
  simp only [ok_pure] at hp
  obtain ⟨hq, hfr⟩ := freshN_ok hp
  have hrd' : ∀ x, x ∈ gv.s.rd → ¬ x ∈ gv.s.perm := by
    intro x hx hm
    rw [List.all_eq_true] at hrd
    have := hrd x hx
    rw [memId_iff.2 hm] at this; cases this
  have hnd : gv.s.perm.Nodup := hg.le.n (hle.n List.nodup_nil)
  have hcal := lent_cal h hg x.1
  have hargs := hx _ _ _ _ hg.le hcal
  have hrel := lent_rel h hg hnd hrd' hargs
  refine (hsp w _ _ _ _ _ hrel lf hpk).mono (fun v w' hv => ?_)
  obtain ⟨Kc, γc, hc⟩ := hv
  exact ⟨_, hq, call_back h hg hnd hrd' hc hr ho hn hfr⟩
end

theorem calls_ok {C : Ctx} (hC : CtxOk C) : CallsOk C := by
  rintro w0 w M σ a o c f Q ⟨K, γ, h⟩ ho hf hp
  unfold callF at hp
  simp only [ok_bind] at hp
  obtain ⟨ds, hp, hds⟩ := h.opDs rfl hp
  obtain ⟨l, hp, hl⟩ := h.operL f a rfl hp
  split at hp
  · rename_i g cs
    split at hp
    · rename_i sp hsp
      obtain ⟨vs, he, hcs⟩ := hl
      have hfv : a.eval f = .func (.func g) #[] vs := by injection he
      have hall : DsR C.toCtx0 w K σ.o γ (ds ++ cs.map cpD) (c.args.map a.eval ++ vs).toList := by
        rw [Array.toList_append, Array.toList_map]
        exact hds.append (h.caps hcs)
      refine Step.of_calls (g := g) (vs := c.args.map a.eval ++ vs) ?_ (callS_ok h (hC g sp hsp) hall hp)
      unfold execOp
      rw [ho]
      simp only [resolve, hf, hfv, Deferred.ofValue, Sem.run_bind, Sem.run_pure, Result.andThen_ok, invoke, Array.empty_append]
    · exact hp.elim
  · exact hp.elim
end Go.En
end
section
/-
  The engine, part NG: operations in whatever order: what they read and write.
-/
namespace Go.En
open Go

/-- by its edges, one operation stands behind another -/
inductive Rch (ops : Array Oper) : Nat → Nat → Prop where
  | one {j : Nat} {o : Oper} {e : Edge} : ops[j]? = some o → e ∈ o.after.toList → Region.binds .any e = true → Rch ops j e.on
  | step {j k : Nat} {o : Oper} {e : Edge} : ops[j]? = some o → e ∈ o.after.toList → Region.binds .any e = true → Rch ops e.on k → Rch ops j k

theorem bef_sound {ops : Array Oper} : ∀ (os : List Oper) (acc : List Nat), os = ops.toList.drop acc.length → (∀ j k, (acc.getD j 0).testBit k = true → Rch ops j k) →
    ∀ j k, ((bef os acc).getD j 0).testBit k = true → Rch ops j k
  | [], acc, _, h => h
  | o :: os, acc, hd, h => by
    have ho : ops[acc.length]? = some o := by
      have : (ops.toList.drop acc.length)[0]? = some o := by rw [← hd]; rfl
      rw [List.getElem?_drop] at this; simpa using this
    simp only [bef]
    refine bef_sound os _ ?_ ?_
    · rw [List.length_append, List.length_singleton, ← List.drop_drop, ← hd]; rfl
    · intro j k hb
      rw [List.getD_eq_getElem?_getD] at hb
      by_cases hj : j < acc.length
      · rw [List.getElem?_append_left hj, ← List.getD_eq_getElem?_getD] at hb
        exact h j k hb
      · by_cases hje : j = acc.length
        · subst hje
          rw [List.getElem?_append_right (Nat.le_refl _)] at hb
          simp only [Nat.sub_self, List.getElem?_cons_zero, Option.getD_some] at hb
          have key : ∀ (es : List Edge) (s : Nat), (∀ e ∈ es, e ∈ o.after.toList) → (∀ k, s.testBit k = true → Rch ops acc.length k) →
              ∀ k, (es.foldl (fun s e => if Region.binds .any e then s ||| 2 ^ e.on ||| acc.getD e.on 0 else s) s).testBit k = true → Rch ops acc.length k := by
            intro es
            induction es with
            | nil => intro s _ hs k hk; exact hs k hk
            | cons e es ih =>
              intro s hes hs k hk
              simp only [List.foldl_cons] at hk
              refine ih _ (fun e he => hes e (List.mem_cons_of_mem _ he)) ?_ k hk
              intro k hk
              split at hk
              · rename_i hbd
                rw [Nat.testBit_or, Nat.testBit_or, Bool.or_eq_true, Bool.or_eq_true] at hk
                have hm := hes e (List.mem_cons_self ..)
                rcases hk with (hk | hk) | hk
                · exact hs k hk
                · rw [Nat.testBit_two_pow] at hk
                  have : e.on = k := by simpa using hk
                  rw [← this]; exact .one ho hm hbd
                · exact .step ho hm hbd (h e.on k hk)
              · exact hs k hk
          exact key o.after.toList 0 (fun _ h => h) (fun k hk => by simp at hk) k hb
        · rw [List.getElem?_eq_none (by rw [List.length_append, List.length_singleton]; omega)] at hb
          simp at hb

theorem Rch.mem {ops : Array Oper} {S : Nat → Bool} (hS : ∀ j o, ops[j]? = some o → S j = true → ∀ e ∈ o.after.toList, Region.binds .any e = true → S e.on = true) {j k : Nat} (h : Rch ops j k) :
    S j = true → S k = true := by
  induction h with
  | one h1 h2 h3 => exact fun hj => hS _ _ h1 hj _ h2 h3
  | step h1 h2 h3 _ ih => exact fun hj => ih (hS _ _ h1 hj _ h2 h3)
theorem Rch.ready {ops : Array Oper} {S : Nat → Bool} (hS : ∀ j o, ops[j]? = some o → S j = true → ∀ e ∈ o.after.toList, Region.binds .any e = true → S e.on = true) {j k : Nat} (h : Rch ops j k)
    (hr : ∀ o, ops[j]? = some o → ∀ e ∈ o.after.toList, Region.binds .any e = true → S e.on = true) : S k = true := by
  cases h with
  | one h1 h2 h3 => exact hr _ h1 _ h2 h3
  | step h1 h2 h3 h4 => exact h4.mem hS (hr _ h1 _ h2 h3)

theorem backE_spec {ops : Array Oper} (h : backE ops = true) {j : Nat} {o : Oper} (hj : ops[j]? = some o) {e : Edge} (he : e ∈ o.after.toList) : e.on < j := by
  unfold backE at h
  rw [List.all_eq_true] at h
  have hmem : (o, j) ∈ ops.toList.zipIdx := by rw [List.mem_zipIdx_iff_getElem?]; simpa using hj
  have := h _ hmem
  rw [List.all_eq_true] at this
  have := this e he
  rw [Nat.blt_eq] at this; exact this
theorem backA_spec {ops : Array Oper} (h : backA ops = true) {j : Nat} {o : Oper} (hj : ops[j]? = some o) {e : Edge} (he : e ∈ o.after.toList) (hb : Region.binds .any e = true) : e.on < j := by
  unfold backA at h
  rw [List.all_eq_true] at h
  have hmem : (o, j) ∈ ops.toList.zipIdx := by rw [List.mem_zipIdx_iff_getElem?]; simpa using hj
  have := h _ hmem
  rw [List.all_eq_true] at this
  have := this e he
  rw [hb, Bool.not_true, Bool.false_or, Nat.blt_eq] at this; exact this
theorem filter_lt {p q : Nat → Bool} : ∀ (l : List Nat) (i : Nat), i ∈ l → p i = true → q i = false → (∀ j, q j = true → p j = true) → (l.filter q).length < (l.filter p).length
  | x :: l, i, hi, hp, hq, hpq => by
    have hle : (l.filter q).length ≤ (l.filter p).length := by
      clear hi
      induction l with
      | nil => exact Nat.le_refl _
      | cons y l ih =>
        simp only [List.filter_cons]
        cases hqy : q y with
        | true => rw [hpq y hqy]; simp only [if_true, List.length_cons]; omega
        | false =>
          simp only [Bool.false_eq_true, if_false]
          split
          · simp only [List.length_cons]; omega
          · exact ih
    simp only [List.filter_cons]
    rcases List.mem_cons.1 hi with rfl | hi
    · rw [hp, hq]; simp only [if_true, Bool.false_eq_true, if_false, List.length_cons]; omega
    · have ih := filter_lt l i hi hp hq hpq
      cases hqx : q x with
      | true => rw [hpq x hqx]; simp only [if_true, List.length_cons]; omega
      | false =>
        simp only [Bool.false_eq_true, if_false]
        split
        · simp only [List.length_cons]; omega
        · exact ih

def Down (ops : Array Oper) (S : Nat → Bool) : Prop := ∀ j o, ops[j]? = some o → S j = true → ∀ e ∈ o.after.toList, Region.binds .any e = true → S e.on = true
def Ready (ops : Array Oper) (S : Nat → Bool) (i : Nat) : Prop := S i = false ∧ ∀ o, ops[i]? = some o → ∀ e ∈ o.after.toList, Region.binds .any e = true → S e.on = true


/-! ### reading -/
/-- what runs, and what it has read -/
def Rd.rd1 {α : Type} (d : Nat → D) (o : Id → Ob) : Rd α → List Lc → Option (α × List Lc)
  | .ret a, R => some (a, R)
  | .fail, _ => none
  | .s t k, R => (k (d t)).rd1 d o (.s t :: R)
  | .o x k, R => (k (o x)).rd1 d o (.o x :: R)
  | .br c a b, R => match c with
    | true => a.rd1 d o R
    | false => b.rd1 d o R
  | .any _, _ => none
/-- two states are alike at some places -/
def Alike (σ σ' : Sg) (R : List Lc) : Prop := ∀ x, x ∈ R → match x with
  | .s t => σ.d t = σ'.d t
  | .o y => σ.o y = σ'.o y
theorem Alike.mono {σ σ' : Sg} {R R' : List Lc} (h : Alike σ σ' R) (hs : ∀ x, x ∈ R' → x ∈ R) : Alike σ σ' R' := fun x hx => h x (hs x hx)
theorem rd1_sub {α : Type} {d : Nat → D} {o : Id → Ob} : ∀ {x : Rd α} {R : List Lc} {a : α} {R' : List Lc}, x.rd1 d o R = some (a, R') → ∀ y, y ∈ R → y ∈ R' := by
  intro x
  induction x with
  | ret b => intro R a R' h; simp only [Rd.rd1, Option.some.injEq, Prod.mk.injEq] at h; rw [h.2]; exact fun _ h => h
  | fail => intro R a R' h; cases h
  | s t k ih => intro R a R' h y hy; exact ih _ h y (List.mem_cons_of_mem _ hy)
  | o x k ih => intro R a R' h y hy; exact ih _ h y (List.mem_cons_of_mem _ hy)
  | br c a b iha ihb =>
    intro R a R' h
    cases c
    · exact ihb h
    · exact iha h
  | any k ih => intro R a R' h; cases h
theorem rd1_alike {α : Type} {σ σ' : Sg} : ∀ {x : Rd α} {R : List Lc} {a : α} {R' : List Lc}, x.rd1 σ.d σ.o R = some (a, R') → Alike σ σ' R' → x.rd1 σ'.d σ'.o R = some (a, R') := by
  intro x
  induction x with
  | ret b => intro R a R' h _; exact h
  | fail => intro R a R' h; cases h
  | s t k ih =>
    intro R a R' h hal
    have h' : (k (σ.d t)).rd1 σ.d σ.o (.s t :: R) = some (a, R') := h
    have := hal (.s t) (rd1_sub h' _ (List.mem_cons_self ..))
    simp only at this
    simp only [Rd.rd1] at h ⊢
    rw [← this]; exact ih _ h hal
  | o x k ih =>
    intro R a R' h hal
    have h' : (k (σ.o x)).rd1 σ.d σ.o (.o x :: R) = some (a, R') := h
    have := hal (.o x) (rd1_sub h' _ (List.mem_cons_self ..))
    simp only at this
    simp only [Rd.rd1] at h ⊢
    rw [← this]; exact ih _ h hal
  | br c a b iha ihb =>
    intro R a R' h hal
    cases c
    · exact ihb h hal
    · exact iha h hal
  | any k ih => intro R a R' h; cases h
theorem rd1_ok {α : Type} {d : Nat → D} {o : Id → Ob} : ∀ {x : Rd α} {R : List Lc} {a : α} {R' : List Lc}, x.rd1 d o R = some (a, R') → x.ok d o (fun b => b = a) := by
  intro x
  induction x with
  | ret b => intro R a R' h; simp only [Rd.rd1, Option.some.injEq, Prod.mk.injEq] at h; exact h.1
  | fail => intro R a R' h; cases h
  | s t k ih => intro R a R' h; exact ih _ h
  | o x k ih => intro R a R' h; exact ih _ h
  | br c a b iha ihb =>
    intro R a R' h
    cases c
    · exact ihb h
    · exact iha h
  | any k ih => intro R a R' h; cases h
theorem runL_walk {α ρ : Type} {S : St} {K : α × List Lc → Option ρ} {r : ρ} : ∀ {x : Rd α} {R : List Lc}, (x.runL S R).walk K = some r → ∃ q, x.rd1 S.d S.o R = some q ∧ K q = some r := by
  intro x
  induction x with
  | ret b => intro R h; exact ⟨_, rfl, h⟩
  | fail => intro R h; cases h
  | s t k ih => intro R h; exact ih _ h
  | o x k ih => intro R h; exact ih _ h
  | br c a b iha ihb =>
    intro R h
    simp only [Rd.runL, Tr.walk] at h
    cases c
    · exact ihb h
    · exact iha h
  | any k ih => intro R h; cases h

/-! ### writing -/
def wrL (dst : Option Tmp) (r : Re) : List Lc := (match dst with | some t => [.s t] | none => []) ++ r.2.map fun q => .o q.1
theorem put_n (σ : Sg) (dst : Option Tmp) (r : Re) : (σ.put dst r).n = σ.n := by
  cases dst with
  | none => exact (setW_d r.2 σ).2
  | some t => exact (setW_d r.2 σ).2
theorem put_o (σ : Sg) (dst : Option Tmp) (r : Re) : (σ.put dst r).o = (σ.setW r.2).o := by cases dst <;> rfl
theorem put_d (σ : Sg) (dst : Option Tmp) (r : Re) (s : Nat) : (σ.put dst r).d s = if dst = some s ∧ s < σ.n then r.1 else σ.d s := by
  cases dst with
  | none =>
    rw [if_neg (by rintro ⟨e, _⟩; cases e)]
    show (σ.setW r.2).d s = _
    rw [(setW_d r.2 σ).1]
  | some t =>
    show (if s = t ∧ t < (σ.setW r.2).n then r.1 else (σ.setW r.2).d s) = _
    rw [(setW_d r.2 σ).1, (setW_d r.2 σ).2]
    by_cases e : s = t
    · subst e; simp
    · have : ¬ (some t = some s ∧ s < σ.n) := by rintro ⟨h, _⟩; injection h with h; exact e h.symm
      rw [if_neg this, if_neg (fun h => e h.1)]
theorem setW_oN' : ∀ (ws : Wo) (σ : Sg) (y : Id), ¬ y ∈ ws.map (·.1) → (σ.setW ws).o y = σ.o y := fun ws σ y h => setW_o ws σ y (fun q hq e => h (List.mem_map.2 ⟨q, hq, e⟩))
theorem setW_oI : ∀ (ws : Wo) (σ σ' : Sg) (y : Id), y ∈ ws.map (·.1) → (σ.setW ws).o y = (σ'.setW ws).o y
  | [], _, _, _, h => by cases h
  | (k, ob) :: ws, σ, σ', y, h => by
    by_cases hw : y ∈ ws.map (·.1)
    · exact setW_oI ws _ _ y hw
    · rw [List.map_cons, List.mem_cons] at h
      have hk : y = k := h.resolve_right hw
      rw [Sg.setW, Sg.setW, setW_oN' ws _ y hw, setW_oN' ws _ y hw]
      simp [Sg.setO, hk]
theorem put_out {σ : Sg} {dst : Option Tmp} {r : Re} {x : Lc} (h : ¬ x ∈ wrL dst r) : Alike (σ.put dst r) σ [x] := by
  intro y hy
  rw [List.mem_singleton] at hy; subst hy
  unfold wrL at h
  rw [List.mem_append, not_or] at h
  cases y with
  | s t =>
    simp only
    rw [put_d, if_neg]
    rintro ⟨e, _⟩
    rw [e] at h
    exact h.1 (List.mem_singleton.2 rfl)
  | o z =>
    simp only
    rw [put_o, setW_oN']
    intro hm
    obtain ⟨q, hq, e⟩ := List.mem_map.1 hm
    exact h.2 (List.mem_map.2 ⟨q, hq, by rw [e]⟩)
/-- no slots beyond the last -/
def Out1 (σ : Sg) : Prop := ∀ t, σ.n ≤ t → σ.d t = dead
theorem Out1.put {σ : Sg} (h : Out1 σ) (dst : Option Tmp) (r : Re) : Out1 (σ.put dst r) := by
  intro t ht
  rw [put_n] at ht
  rw [put_d, if_neg (by rintro ⟨_, h2⟩; omega)]; exact h t ht
theorem Out1.sg (S : St) : Out1 S.sg := by
  intro t ht
  have ht' : S.env.length ≤ t := ht
  show S.env.getD t dead = dead
  rw [List.getD_eq_getElem?_getD, List.getElem?_eq_none ht']; rfl
theorem put_in {σ σ' : Sg} {dst : Option Tmp} {r : Re} {x : Lc} (hn : σ.n = σ'.n) (ho : Out1 σ) (ho' : Out1 σ') (h : x ∈ wrL dst r ∨ Alike σ σ' [x]) : Alike (σ.put dst r) (σ'.put dst r) [x] := by
  intro y hy
  rw [List.mem_singleton] at hy; subst hy
  cases y with
  | s t =>
    simp only
    rw [put_d, put_d, ← hn]
    by_cases e : dst = some t ∧ t < σ.n
    · rw [if_pos e, if_pos e]
    · rw [if_neg e, if_neg e]
      rcases h with h | h
      · unfold wrL at h
        rw [List.mem_append] at h
        have : dst = some t := by
          rcases h with h | h
          · cases dst with
            | none => cases h
            | some s => rw [List.mem_singleton] at h; injection h with h; rw [h]
          · obtain ⟨q, _, hq⟩ := List.mem_map.1 h
            cases hq
        -- beyond the slots: nothing is there
        have hlt : ¬ t < σ.n := fun hl => e ⟨this, hl⟩
        rw [ho t (by omega), ho' t (by omega)]
      · exact h (.s t) (List.mem_singleton.2 rfl)
  | o z =>
    simp only
    rw [put_o, put_o]
    by_cases hm : z ∈ r.2.map (·.1)
    · exact setW_oI _ _ _ _ hm
    · rw [setW_oN' _ _ _ hm, setW_oN' _ _ _ hm]
      rcases h with h | h
      · unfold wrL at h
        rw [List.mem_append] at h
        rcases h with h | h
        · cases dst with
          | none => cases h
          | some s => rw [List.mem_singleton] at h; cases h
        · obtain ⟨q, hq, e⟩ := List.mem_map.1 h
          injection e with e
          exact absurd (List.mem_map.2 ⟨q, hq, e⟩) hm
      · exact h (.o z) (List.mem_singleton.2 rfl)

/-! ### operations one behind the other, and in another order -/
section comb
variable {e : Nat → Sg} {k : Nat → Option Tmp × Re} {R : Nat → List Lc} {B : List Nat} {n : Nat}
/-- those that are in S, in their order -/
def comb (e : Nat → Sg) (k : Nat → Option Tmp × Re) (S : Nat → Bool) : Nat → Sg
  | 0 => e 0
  | m + 1 => if S m then (comb e k S m).put (k m).1 (k m).2 else comb e k S m
/-- two operations that may stand in whatever order -/
def Apart (k : Nat → Option Tmp × Re) (R : Nat → List Lc) (j i : Nat) : Prop :=
  (∀ x, x ∈ wrL (k j).1 (k j).2 → ¬ x ∈ R i) ∧ (∀ x, x ∈ wrL (k j).1 (k j).2 → ¬ x ∈ wrL (k i).1 (k i).2) ∧ ∀ x, x ∈ R j → ¬ x ∈ wrL (k i).1 (k i).2
structure Trace (e : Nat → Sg) (k : Nat → Option Tmp × Re) (R : Nat → List Lc) (B : List Nat) (n : Nat) : Prop where
  out : Out1 (e 0)
  st : ∀ i, i < n → e (i + 1) = (e i).put (k i).1 (k i).2
  ap : ∀ j i, j < i → i < n → (B.getD i 0).testBit j = true ∨ Apart k R j i
/-- what is done is done behind what it needs -/
def Shut (B : List Nat) (n : Nat) (S : Nat → Bool) : Prop := ∀ i j, i < n → S i = true → (B.getD i 0).testBit j = true → S j = true

theorem Trace.n_eq (h : Trace e k R B n) : ∀ m, m ≤ n → (e m).n = (e 0).n
  | 0, _ => rfl
  | m + 1, hm => by rw [h.st m (by omega), put_n]; exact h.n_eq m (by omega)
theorem Trace.out1 (h : Trace e k R B n) : ∀ m, m ≤ n → Out1 (e m)
  | 0, _ => h.out
  | m + 1, hm => by rw [h.st m (by omega)]; exact (h.out1 m (by omega)).put _ _
theorem comb_n (S : Nat → Bool) : ∀ m, (comb e k S m).n = (e 0).n
  | 0 => rfl
  | m + 1 => by
    simp only [comb]
    split
    · rw [put_n]; exact comb_n S m
    · exact comb_n S m
theorem comb_out (h : Trace e k R B n) (S : Nat → Bool) : ∀ m, Out1 (comb e k S m)
  | 0 => h.out
  | m + 1 => by
    simp only [comb]
    split
    · exact (comb_out h S m).put _ _
    · exact comb_out h S m
theorem Alike.one {σ σ' : Sg} {R : List Lc} (h : ∀ x, x ∈ R → Alike σ σ' [x]) : Alike σ σ' R := fun x hx => h x hx x (List.mem_singleton.2 rfl)
theorem Alike.trans {σ1 σ2 σ3 : Sg} {R : List Lc} (h : Alike σ1 σ2 R) (h' : Alike σ2 σ3 R) : Alike σ1 σ3 R := by
  intro x hx
  have h1 := h x hx
  have h2 := h' x hx
  cases x <;> exact h1.trans h2
theorem Alike.symm {σ1 σ2 : Sg} {R : List Lc} (h : Alike σ1 σ2 R) : Alike σ2 σ1 R := by
  intro x hx
  have h1 := h x hx
  cases x <;> exact h1.symm
theorem Alike.refl (σ : Sg) (R : List Lc) : Alike σ σ R := by
  intro x _; cases x <;> rfl
theorem Alike.eq {σ σ' : Sg} (hn : σ.n = σ'.n) (h : ∀ x, Alike σ σ' [x]) : σ = σ' := by
  have hd : σ.d = σ'.d := by funext t; exact h (.s t) (.s t) (List.mem_singleton.2 rfl)
  have ho : σ.o = σ'.o := by funext t; exact h (.o t) (.o t) (List.mem_singleton.2 rfl)
  cases σ; cases σ'
  simp only at hn hd ho
  rw [hn, hd, ho]

/-- an operation that is ready finds what it found in its order -/
theorem Trace.read (h : Trace e k R B n) {S : Nat → Bool} (hS : Shut B n S) {i : Nat} (hi : i < n) (hni : S i = false) (hr : ∀ j, (B.getD i 0).testBit j = true → S j = true) : ∀ x, x ∈ R i → Alike (comb e k S n) (e i) [x] := by
  intro x hx
  have low : ∀ m, m ≤ i → Alike (comb e k S m) (e m) [x] := by
    intro m
    induction m with
    | zero => intro _; exact Alike.refl _ _
    | succ m ih =>
      intro hm
      have ihm := ih (by omega)
      rw [h.st m (by omega)]
      simp only [comb]
      by_cases hs : S m = true
      · rw [if_pos hs]
        exact put_in (by rw [comb_n, h.n_eq m (by omega)]) (comb_out h S m) (h.out1 m (by omega)) (.inr ihm)
      · rw [if_neg hs]
        rcases h.ap m i (by omega) hi with hb | ha
        · exact absurd (hr m hb) hs
        · exact ihm.trans (put_out (fun hw => ha.1 x hw hx)).symm
  have high : ∀ m, i ≤ m → m ≤ n → Alike (comb e k S m) (e i) [x] := by
    intro m
    induction m with
    | zero => intro h1 h2; have : i = 0 := by omega
              subst this; exact low 0 (Nat.le_refl _)
    | succ m ih =>
      intro h1 h2
      by_cases hmi : i = m + 1
      · rw [hmi]; rw [hmi] at low; exact low (m + 1) (Nat.le_refl _)
      · have ihm := ih (by omega) (by omega)
        simp only [comb]
        by_cases hs : S m = true
        · rw [if_pos hs]
          have him : i ≠ m := fun e => by rw [e, hs] at hni; cases hni
          rcases h.ap i m (by omega) (by omega) with hb | ha
          · have := hS m i (by omega) hs hb
            rw [hni] at this; cases this
          · exact (put_out (fun hw => ha.2.2 x hx hw)).trans ihm
        · rw [if_neg hs]; exact ihm
  exact high n (by omega) (Nat.le_refl _)

/-- it is done now, or it was done in its order -/
theorem Trace.add (h : Trace e k R B n) {S S' : Nat → Bool} (hS : Shut B n S) {i : Nat} (hi : i < n) (hni : S i = false) (hS' : ∀ j, S' j = (S j || j == i)) : comb e k S' n = (comb e k S n).put (k i).1 (k i).2 := by
  refine Alike.eq (by rw [comb_n, put_n, comb_n]) (fun x => ?_)
  by_cases hx : x ∈ wrL (k i).1 (k i).2
  · -- written by it
    have low : ∀ m, m ≤ i → True := fun _ _ => trivial
    have key : ∀ m, i + 1 ≤ m → m ≤ n → Alike (comb e k S' m) ((comb e k S n).put (k i).1 (k i).2) [x] := by
      intro m
      induction m with
      | zero => intro h1; omega
      | succ m ih =>
        intro h1 h2
        by_cases hmi : m = i
        · subst hmi
          simp only [comb]
          rw [if_pos (by rw [hS']; simp)]
          exact put_in (by rw [comb_n, comb_n]) (comb_out h S' m) (comb_out h S n) (.inl hx)
        · have ihm := ih (by omega) (by omega)
          simp only [comb]
          by_cases hs : S' m = true
          · rw [if_pos hs]
            rw [hS'] at hs
            have hs' : S m = true := by
              cases hsm : S m with
              | true => rfl
              | false => rw [hsm] at hs; simp at hs; exact absurd hs hmi
            rcases h.ap i m (by omega) (by omega) with hb | ha
            · have := hS m i (by omega) hs' hb
              rw [hni] at this; cases this
            · exact (put_out (fun hw => ha.2.1 x hx hw)).trans ihm
          · rw [if_neg hs]; exact ihm
    exact key n (by omega) (Nat.le_refl _)
  · have key : ∀ m, Alike (comb e k S' m) (comb e k S m) [x] := by
      intro m
      induction m with
      | zero => exact Alike.refl _ _
      | succ m ih =>
        simp only [comb]
        by_cases hmi : m = i
        · subst hmi
          rw [if_pos (by rw [hS']; simp), if_neg (by rw [hni]; simp)]
          exact (put_out hx).trans ih
        · have hsm : S' m = S m := by rw [hS']; simp [hmi]
          rw [hsm]
          split
          · exact put_in (by rw [comb_n, comb_n]) (comb_out h S' m) (comb_out h S m) (.inr ih)
          · exact ih
    exact (key n).trans (put_out hx).symm
theorem Trace.full (h : Trace e k R B n) {S : Nat → Bool} : ∀ m, m ≤ n → (∀ j, j < m → S j = true) → comb e k S m = e m
  | 0, _, _ => rfl
  | m + 1, hm, hs => by
    simp only [comb]
    rw [if_pos (hs m (by omega)), h.full m (by omega) (fun j hj => hs j (by omega)), h.st m (by omega)]
theorem comb_none {S : Nat → Bool} (hs : ∀ j, S j = false) : ∀ m, comb e k S m = e 0
  | 0 => rfl
  | m + 1 => by simp only [comb]; rw [if_neg (by rw [hs]; simp)]; exact comb_none hs m
end comb
end Go.En
end
section
/-
  The engine, part NH: regions whose order is drawn.
-/
namespace Go.En
open Go

section
variable {C : Ctx} {ops : Array Oper} {B : List Nat} {w0 : World} {M : Ml}

def refG (σ : Sg) : List (Nat × Bool) → Sg
  | [] => σ
  | (t, c) :: kn => (refG σ kn).setD t (one (.k c))
theorem refine_sg (S : St) : ∀ kn, (refine S kn).sg = refG S.sg kn
  | [] => rfl
  | (t, c) :: kn => by simp only [refine, refG]; rw [St.sg_setD, refine_sg S kn]
def Tru (d : D) (c : Bool) : Prop := slotLeaf d = .k c ∨ ∃ f, slotLeaf d = .d (.fz f) .b c
def KnOk (σ : Sg) (kn : List (Nat × Bool)) : Prop := ∀ q, q ∈ kn → Tru (σ.d q.1) q.2
theorem refG_n (σ : Sg) : ∀ kn, (refG σ kn).n = σ.n
  | [] => rfl
  | (_t, _c) :: kn => refG_n σ kn
theorem refG_o (σ : Sg) : ∀ kn, (refG σ kn).o = σ.o
  | [] => rfl
  | (_t, _c) :: kn => refG_o σ kn
theorem Tru.wk {d : D} {c : Bool} (h : Tru d c) : WkD (one (.k c)) d := by
  intro E w K so γ x hx
  have hx' : [x] = [.bool c] := hx
  injection hx' with hx'
  subst hx'
  have key : ∀ l, slotLeaf d = l → l ≠ .un 1 → d = one l := by
    intro l hl hne
    unfold slotLeaf at hl
    split at hl
    · rw [hl]; rfl
    · exact absurd hl.symm hne
  rcases h with h | ⟨f, h⟩
  · rw [key _ h (by simp)]; rfl
  · rw [key _ h (by simp)]; exact Ro.b
theorem refG_wk {σ : Sg} : ∀ {kn : List (Nat × Bool)}, KnOk σ kn → ∀ t, WkD ((refG σ kn).d t) (σ.d t)
  | [], _, t => WkD.refl _
  | (s, c) :: kn, h, t => by
    have ih := refG_wk (σ := σ) (kn := kn) (fun q hq => h q (List.mem_cons_of_mem _ hq)) t
    show WkD (if t = s ∧ s < (refG σ kn).n then one (.k c) else (refG σ kn).d t) _
    split
    · rename_i e
      rw [e.1]
      exact (h (s, c) (List.mem_cons_self ..)).wk
    · exact ih
theorem refG_rel {E : Ctx0} {σ : Sg} {tm : Array Value} {w : World} (hr : RelE E w0 M σ tm w) : ∀ {kn : List (Nat × Bool)}, KnOk σ kn → RelE E w0 M (refG σ kn) tm w
  | [], _ => hr
  | (s, c) :: kn, h => by
    have ih := refG_rel hr (kn := kn) (fun q hq => h q (List.mem_cons_of_mem _ hq))
    refine ih.reslot (fun K γ => ?_)
    obtain ⟨K0, γ0, h0⟩ := hr
    have hv : tmv tm s = .bool c := by
      rcases h (s, c) (List.mem_cons_self ..) with hl | ⟨f, hl⟩
      · have := h0.leaf hl; injection this
      · have h1 : Ro E w (K0 f) .b c [tmv tm s] := h0.leaf hl
        have := Ro.inv_b h1; injection this
    show [tmv tm s] = _
    rw [hv]
theorem setW_congr : ∀ (ws : Wo) {σ σ' : Sg}, σ.o = σ'.o → (σ.setW ws).o = (σ'.setW ws).o
  | [], _, _, h => h
  | (k, ob) :: ws, σ, σ', h => setW_congr ws (by simp only [Sg.setO, h])
theorem refG_put {E : Ctx0} {σ : Sg} {tm : Array Value} {w : World} {kn : List (Nat × Bool)} (hk : KnOk σ kn) {dst : Option Tmp} {r : Re} (h : RelE E w0 M ((refG σ kn).put dst r) tm w) : RelE E w0 M (σ.put dst r) tm w := by
  obtain ⟨K, γ, h⟩ := h
  refine h.weak (by rw [put_n, put_n, refG_n]) (fun t => ?_) (fun y => .inl ?_)
  · rw [put_d, put_d, refG_n]
    split
    · exact WkD.refl _
    · exact refG_wk hk t
  · rw [put_o, put_o, setW_congr _ (refG_o σ kn)]

/-- only what is read -/
def inR (R : List Lc) (t : Nat) : Bool := R.any fun x => match x with | .s s => s.beq t | _ => false
theorem inR_iff {R : List Lc} {t : Nat} : inR R t = true ↔ Lc.s t ∈ R := by
  unfold inR
  rw [List.any_eq_true]
  constructor
  · rintro ⟨x, hx, h⟩
    cases x with
    | s s => rw [← Nat.eq_of_beq_eq_true h]; exact hx
    | o y => cases h
  · intro h; exact ⟨_, h, by simp⟩
theorem refG_alike {σ σ' : Sg} {R : List Lc} (hn : σ.n = σ'.n) (h : Alike σ σ' R) : ∀ kn, Alike (refG σ kn) (refG σ' (kn.filter fun q => inR R q.1)) R
  | [] => h
  | (t, c) :: kn => by
    have ih := refG_alike hn h kn
    intro x hx
    have ihx := ih x hx
    cases x with
    | o y =>
      simp only at ihx ⊢
      rw [refG_o] at ihx ⊢
      rw [ihx, refG_o, refG_o]
    | s s =>
      simp only at ihx ⊢
      show (if s = t ∧ t < (refG σ kn).n then one (.k c) else (refG σ kn).d s) = _
      rw [List.filter_cons]
      by_cases hs : s = t
      · subst hs
        rw [if_pos (inR_iff.2 hx)]
        show _ = (if s = s ∧ s < (refG σ' (kn.filter fun q => inR R q.1)).n then one (.k c) else (refG σ' (kn.filter fun q => inR R q.1)).d s)
        rw [refG_n, refG_n, hn, ihx]
      · rw [if_neg (fun e => hs e.1)]
        split
        · show _ = (if s = t ∧ t < (refG σ' (kn.filter fun q => inR R q.1)).n then one (.k c) else (refG σ' (kn.filter fun q => inR R q.1)).d s)
          rw [if_neg (fun e => hs e.1)]; exact ihx
        · exact ihx

def GdT (ops : Array Oper) (o : Oper) (σ : Sg) : Prop := o.guard = none ∨ ∃ j want t, o.guard = some (j, want) ∧ (ops[j]?).bind (·.dst) = some t ∧ Tru (σ.d t) want
def GdF (ops : Array Oper) (o : Oper) (σ : Sg) : Prop := ∃ j want t, o.guard = some (j, want) ∧ (ops[j]?).bind (·.dst) = some t ∧ (slotLeaf (σ.d t) = .ud ∨ Tru (σ.d t) (!want))
theorem GdT.wanted {E : Ctx0} {σ : Sg} {tm : Array Value} {w : World} {o : Oper} (hr : RelE E w0 M σ tm w) (h : GdT ops o σ) : Region.wanted o (yielded ops tm) = true := by
  rcases h with h | ⟨j, want, t, h1, h2, h3⟩
  · unfold Region.wanted; rw [h]
  · rw [wanted_b hr h1 h2 h3]; simp
theorem GdF.unwanted {E : Ctx0} {σ : Sg} {tm : Array Value} {w : World} {o : Oper} (hr : RelE E w0 M σ tm w) (h : GdF ops o σ) : Region.wanted o (yielded ops tm) = false := by
  obtain ⟨j, want, t, h1, h2, h3 | h3⟩ := h
  · exact wanted_ud hr h1 h2 h3
  · rw [wanted_b hr h1 h2 h3]; cases want <;> rfl
theorem knows_mem {t : Nat} {c : Bool} : ∀ {kn : List (Nat × Bool)}, knows t kn = some c → (t, c) ∈ kn
  | [], h => by cases h
  | (s, c') :: kn, h => by
    simp only [knows] at h
    cases hs : s.beq t with
    | true =>
      rw [hs] at h
      simp only [cond_true, Option.some.injEq] at h
      rw [← h, ← Nat.eq_of_beq_eq_true hs]; exact List.mem_cons_self ..
    | false => rw [hs] at h; exact List.mem_cons_of_mem _ (knows_mem h)
theorem guardD_ok {o : Oper} {S : St} {kn : List (Nat × Bool)} {exec skip : List (Nat × Bool) → Tr Lg} {ρ : Type} {K : Lg → Option ρ} {r : ρ} (hk : KnOk S.sg kn) (h : (guardD ops o S kn exec skip).walk K = some r) :
    ∃ kn1, KnOk S.sg kn1 ∧ ((GdT ops o S.sg ∧ (exec kn1).walk K = some r) ∨ (GdF ops o S.sg ∧ (skip kn1).walk K = some r)) := by
  unfold guardD at h
  split at h
  · rename_i hg; exact ⟨kn, hk, .inl ⟨.inl hg, h⟩⟩
  · rename_i j want hg
    split at h
    · cases h
    · rename_i t ht
      have go : ∀ (c : Bool) (kn1 : List (Nat × Bool)), Tru (S.sg.d t) c → KnOk S.sg kn1 → (bif (want == c) then (exec kn1).walk K else (skip kn1).walk K) = some r → ∃ kn1, KnOk S.sg kn1 ∧ ((GdT ops o S.sg ∧ (exec kn1).walk K = some r) ∨ (GdF ops o S.sg ∧ (skip kn1).walk K = some r)) := by
        intro c kn1 htr hk1 h
        refine ⟨kn1, hk1, ?_⟩
        cases hc : (want == c) with
        | true =>
          rw [hc] at h
          have : want = c := by simpa using hc
          subst this
          exact .inl ⟨.inr ⟨j, want, t, hg, ht, htr⟩, h⟩
        | false =>
          rw [hc] at h
          have : c = !want := by cases want <;> cases c <;> first | rfl | cases hc
          subst this
          exact .inr ⟨⟨j, want, t, hg, ht, .inr htr⟩, h⟩
      have cons : ∀ c, Tru (S.sg.d t) c → KnOk S.sg ((t, c) :: kn) := by
        intro c htr q hq
        rcases List.mem_cons.1 hq with rfl | hq
        · exact htr
        · exact hk q hq
      split at h
      · rename_i f c hl
        have htr : Tru (S.sg.d t) c := .inr ⟨f, hl⟩
        split at h
        · rename_i c' hkn
          have hc' : Tru (S.sg.d t) c' := hk _ (knows_mem hkn)
          have hcc : c' = c := by
            have hl' : slotLeaf (S.sg.d t) = .d (.fz f) .b c := hl
            rcases hc' with h1 | ⟨f', h1⟩
            · rw [hl'] at h1; cases h1
            · rw [hl'] at h1; cases h1; rfl
          subst hcc
          refine go c' kn htr hk ?_
          cases c' <;> cases want <;> exact h
        · simp only [Tr.walk] at h
          cases c with
          | true => refine go true _ htr (cons true htr) ?_; cases want <;> exact h
          | false => refine go false _ htr (cons false htr) ?_; cases want <;> exact h
      · rename_i c hl
        refine go c kn (.inl hl) hk ?_
        cases c <;> cases want <;> exact h
      · rename_i hl
        exact ⟨kn, hk, .inr ⟨⟨j, want, t, hg, ht, .inl hl⟩, h⟩⟩
      · cases h

/-- what an operation did in its order -/
def Kd (C : Ctx) (ops : Array Oper) (σ : Sg) (k : Option Tmp × Re) (R : List Lc) (i : Nat) : Prop :=
  ∃ o, ops[i]? = some o ∧ k.1 = o.dst ∧ (∀ x, x ∈ guardR ops o → x ∈ R) ∧
    ((GdT ops o σ ∧ ∃ kn, KnOk σ kn ∧ (evOp C o).rd1 (refG σ kn).d (refG σ kn).o (guardR ops o) = some (k.2, R)) ∨ (GdF ops o σ ∧ k.2 = (one .ud, [])))

theorem apartLc_spec {a b : List Lc} (h : apartLc a b = true) : ∀ x, x ∈ a → ¬ x ∈ b := by
  intro x hx hb
  unfold apartLc at h
  rw [List.all_eq_true] at h
  have := h x hx
  rw [List.all_eq_true] at this
  have := this x hb
  cases x with
  | s t => simp [Lc.eqb] at this
  | o y => simp only [Lc.eqb, Id.eqb_iff.2 rfl] at this; cases this
theorem logOk_spec {x : Log} : ∀ {lg : List Log}, logOk B x lg = true → ∀ y, y ∈ lg → (B.getD x.i 0).testBit y.i = true ∨ ((∀ z, z ∈ y.W → ¬ z ∈ x.R) ∧ (∀ z, z ∈ y.W → ¬ z ∈ x.W) ∧ ∀ z, z ∈ y.R → ¬ z ∈ x.W)
  | [], _, y, hy => by cases hy
  | z :: lg, h, y, hy => by
    simp only [logOk, Bool.and_eq_true, Bool.or_eq_true] at h
    rcases List.mem_cons.1 hy with rfl | hy
    · rcases h.1 with h1 | ⟨⟨h1, h2⟩, h3⟩
      · exact .inl h1
      · exact .inr ⟨apartLc_spec h1, apartLc_spec h2, apartLc_spec h3⟩
    · exact logOk_spec h.2 y hy
theorem KnOk.put {S : St} {kn : List (Nat × Bool)} (h : KnOk S.sg kn) (dst : Option Tmp) (r : Re) : KnOk (S.put dst r).sg (unknow dst kn) := by
  intro q hq
  rw [St.sg_put, put_d]
  cases dst with
  | none =>
    rw [if_neg (by rintro ⟨e, _⟩; cases e)]
    exact h q hq
  | some t =>
    simp only [unknow, List.mem_filter, Bool.not_eq_true'] at hq
    rw [if_neg (by rintro ⟨e, _⟩; injection e with e; subst e; simp at hq)]
    exact h q hq.1
theorem dstL_wrL (o : Oper) (r : Re) : dstL o ++ r.2.map (fun q => Lc.o q.1) = wrL o.dst r := by
  unfold dstL wrL; rfl
theorem skip_put (o : Oper) (S : St) : skipS o S = S.put o.dst (one .ud, []) := by
  unfold skipS St.put
  cases o.dst <;> rfl

theorem trace {S0 : St} {ρ : Type} {Kont : Lg → Option ρ} {r : ρ} : ∀ (len s : Nat) {S : St} {kn : List (Nat × Bool)} {ids : List Id} {lg : List Log}, KnOk S.sg kn → Fr ops S0 S ids → (evOpsD C B ops (List.range' s len) S kn ids lg).walk Kont = some r →
    ∃ (e : Nat → Sg) (k : Nat → Option Tmp × Re) (R : Nat → List Lc), e s = S.sg ∧ (∀ i, s ≤ i → i < s + len → e (i + 1) = (e i).put (k i).1 (k i).2 ∧ Kd C ops (e i) (k i) (R i) i ∧
      (∀ y, y ∈ lg → (B.getD i 0).testBit y.i = true ∨ ((∀ z, z ∈ y.W → ¬ z ∈ R i) ∧ (∀ z, z ∈ y.W → ¬ z ∈ wrL (k i).1 (k i).2) ∧ ∀ z, z ∈ y.R → ¬ z ∈ wrL (k i).1 (k i).2)) ∧
      ∀ j, s ≤ j → j < i → (B.getD i 0).testBit j = true ∨ Apart k R j i) ∧ ∃ x : Lg, x.S.sg = e (s + len) ∧ Fr ops S0 x.S x.ids ∧ Kont x = some r
  | 0, s, S, kn, ids, lg, hk, hf, h => ⟨fun _ => S.sg, fun _ => (none, (one .ud, [])), fun _ => [], rfl, fun i h1 h2 => by omega, ⟨S, ids⟩, rfl, hf, h⟩
  | len + 1, s, S, kn, ids, lg, hk, hf, h => by
    rw [List.range'_succ] at h
    simp only [evOpsD] at h
    split at h
    · cases h
    · rename_i o ho
      -- one step, then the others
      have more : ∀ (re : Re) (Rs : List Lc) (kn' : List (Nat × Bool)) (ids' : List Id), KnOk (S.put o.dst re).sg kn' → Fr ops S0 (S.put o.dst re) ids' → Kd C ops S.sg (o.dst, re) Rs s → logOk B ⟨s, Rs, wrL o.dst re⟩ lg = true →
          (evOpsD C B ops (List.range' (s + 1) len) (S.put o.dst re) kn' ids' (⟨s, Rs, wrL o.dst re⟩ :: lg)).walk Kont = some r →
          ∃ (e : Nat → Sg) (k : Nat → Option Tmp × Re) (R : Nat → List Lc), e s = S.sg ∧ (∀ i, s ≤ i → i < s + (len + 1) → e (i + 1) = (e i).put (k i).1 (k i).2 ∧ Kd C ops (e i) (k i) (R i) i ∧
            (∀ y, y ∈ lg → (B.getD i 0).testBit y.i = true ∨ ((∀ z, z ∈ y.W → ¬ z ∈ R i) ∧ (∀ z, z ∈ y.W → ¬ z ∈ wrL (k i).1 (k i).2) ∧ ∀ z, z ∈ y.R → ¬ z ∈ wrL (k i).1 (k i).2)) ∧
            ∀ j, s ≤ j → j < i → (B.getD i 0).testBit j = true ∨ Apart k R j i) ∧ ∃ x : Lg, x.S.sg = e (s + (len + 1)) ∧ Fr ops S0 x.S x.ids ∧ Kont x = some r := by
        intro re Rs kn' ids' hk' hf' hkd hlog hw
        obtain ⟨e, k, R, h1, h2, x, h3, h4, h5⟩ := trace len (s + 1) hk' hf' hw
        refine ⟨fun i => if i = s then S.sg else e i, fun i => if i = s then (o.dst, re) else k i, fun i => if i = s then Rs else R i, if_pos rfl, fun i hi1 hi2 => ?_, x, ?_, h4, h5⟩
        · by_cases his : i = s
          · subst his
            simp only [if_true, if_neg (show ¬ i + 1 = i by omega)]
            refine ⟨by rw [h1, St.sg_put], hkd, fun y hy => logOk_spec hlog y hy, fun j h1 h2 => by omega⟩
          · obtain ⟨g1, g2, g3, g4⟩ := h2 i (by omega) (by omega)
            simp only [if_neg his, if_neg (show ¬ i + 1 = s by omega)]
            refine ⟨g1, g2, fun y hy => g3 y (List.mem_cons_of_mem _ hy), fun j hj1 hj2 => ?_⟩
            by_cases hjs : j = s
            · subst hjs
              rcases g3 _ (List.mem_cons_self ..) with h7 | ⟨h7, h8, h9⟩
              · exact .inl h7
              · right
                unfold Apart
                simp only [if_true, if_neg his]
                exact ⟨h7, h8, h9⟩
            · rcases g4 j (by omega) hj2 with h7 | h7
              · exact .inl h7
              · right
                unfold Apart at h7 ⊢
                simp only [if_neg hjs, if_neg his]
                exact h7
        · have hne : ¬ s + (len + 1) = s := by omega
          simp only [if_neg hne]
          rw [h3]
          congr 1; omega
      obtain ⟨kn1, hk1, ⟨hg, hw⟩ | ⟨hg, hw⟩⟩ := guardD_ok hk h
      · rw [walk_bind] at hw
        obtain ⟨q, hq, hw⟩ := runL_walk hw
        obtain ⟨re, Rs⟩ := q
        simp only at hw
        rw [dstL_wrL] at hw
        cases hlog : logOk B ⟨s, Rs, wrL o.dst re⟩ lg with
        | false => rw [hlog] at hw; cases hw
        | true =>
          rw [hlog] at hw
          have hq' : (evOp C o).rd1 (refine S kn1).sg.d (refine S kn1).sg.o (guardR ops o) = some (re, Rs) := hq
          rw [refine_sg] at hq'
          exact more re Rs _ _ (hk1.put _ _) (hf.put ho re (fun y hy => List.mem_append_left _ hy) (fun y hy => List.mem_append_right _ hy))
            ⟨o, ho, rfl, rd1_sub hq', .inl ⟨hg, kn1, hk1, hq'⟩⟩ hlog hw
      · have hdl : dstL o = wrL o.dst (one .ud, []) := by rw [← dstL_wrL]; simp
        rw [hdl, skip_put] at hw
        cases hlog : logOk B ⟨s, guardR ops o, wrL o.dst (one .ud, [])⟩ lg with
        | false => rw [hlog] at hw; cases hw
        | true =>
          rw [hlog] at hw
          exact more (one .ud, []) (guardR ops o) _ _ (hk1.put _ _) (hf.put ho _ (fun y hy => hy) (fun y hy => by cases hy))
            ⟨o, ho, rfl, fun _ h => h, .inr ⟨hg, rfl⟩⟩ hlog hw
end
end Go.En
end
section
/-
  The engine, part NI: regions whose order is drawn, in the machine.
-/
namespace Go.En
open Go

section
variable {C : Ctx} {ops : Array Oper} {B : List Nat} {w0 : World} {M : Ml}
variable {e : Nat → Sg} {k : Nat → Option Tmp × Re} {R : Nat → List Lc}

structure GoodG (E : Ctx0) (w0 : World) (M : Ml) (Pr : Act → Prop) (σ : Sg) (a : Act) (w : World) : Prop where
  rel : RelE E w0 M σ a.tmps w
  df : Pr a

/-- one operation, in another state in which it finds what it found -/
theorem kd_step (hC : CallsOk C) {σ : Sg} {a : Act} {w : World} {i : Nat} {o : Oper} (ho : ops[i]? = some o) (hkd : Kd C ops (e i) (k i) (R i) i) (hn : (e i).n = σ.n) (hal : Alike (e i) σ (R i)) (hr : RelE C.toCtx0 w0 M σ a.tmps w) :
    (Region.wanted o (yielded ops a.tmps) = true ∧ Step C.P o a w fun v w' => RelE C.toCtx0 w0 M (σ.put (k i).1 (k i).2) (a.put o.dst v).tmps w') ∨ (Region.wanted o (yielded ops a.tmps) = false ∧ RelE C.toCtx0 w0 M (σ.put (k i).1 (k i).2) (a.put o.dst undef).tmps w) := by
  obtain ⟨o', ho', hdst, hgR, hcase⟩ := hkd
  rw [ho] at ho'
  obtain rfl := Option.some.inj ho'
  -- the guard's slot
  have slot : ∀ j want t, o.guard = some (j, want) → (ops[j]?).bind (·.dst) = some t → (e i).d t = σ.d t := by
    intro j want t hg ht
    have : Lc.s t ∈ guardR ops o := by unfold guardR; rw [hg]; simp only; rw [ht]; exact List.mem_singleton.2 rfl
    exact hal (.s t) (hgR _ this)
  rcases hcase with ⟨hg, kn, hkn, hrd⟩ | ⟨hg, hk2⟩
  · left
    have hgT : GdT ops o σ := by
      rcases hg with hg | ⟨j, want, t, h1, h2, h3⟩
      · exact .inl hg
      · exact .inr ⟨j, want, t, h1, h2, by rw [← slot j want t h1 h2]; exact h3⟩
    refine ⟨hgT.wanted hr, ?_⟩
    have hkn' : KnOk σ (kn.filter fun q => inR (R i) q.1) := by
      intro q hq
      rw [List.mem_filter] at hq
      have := hal (.s q.1) (inR_iff.1 hq.2)
      simp only at this
      rw [← this]; exact hkn q hq.1
    have hrd' := rd1_alike hrd (refG_alike hn hal kn)
    have hr' := refG_rel hr hkn'
    intro next Q hnext
    refine evOp_sound hC hr' (rd1_ok hrd') next Q (fun v w' hv => hnext v w' ?_)
    obtain ⟨r, hre, hpos⟩ := hv
    subst hre
    obtain ⟨K, γ, h3⟩ := hpos.put a rfl o.dst
    rw [← hdst] at h3 ⊢
    exact refG_put hkn' ⟨K, γ, h3⟩
  · right
    have hgF : GdF ops o σ := by
      obtain ⟨j, want, t, h1, h2, h3⟩ := hg
      exact ⟨j, want, t, h1, h2, by rw [← slot j want t h1 h2]; exact h3⟩
    refine ⟨hgF.unwanted hr, ?_⟩
    obtain ⟨K, γ, hr⟩ := hr
    rw [hk2, hdst]
    have hp : Pos C.toCtx0 w0 M σ a.tmps (one .ud, []) undef w := hr.pos (d := one .ud) rfl
    obtain ⟨K', γ', h⟩ := hp.put a rfl o.dst
    exact ⟨K', γ', h⟩

theorem any_sound (hC : CallsOk C) {Pr : Act → Prop} (hPr : Kept Pr ops) {md : Region.Mode} {Q : Exit → Act → World → Prop} (hb : ∀ (j : Nat) (o : Oper), ops[j]? = some o → ∀ e ∈ o.after.toList, Region.binds md e = true → e.on < j) (hB : ∀ j k, (B.getD j 0).testBit k = true → Rch ops j k)
    (hT : Trace e k R B ops.size) (hK : ∀ i, i < ops.size → Kd C ops (e i) (k i) (R i) i) (hQ : ∀ a w, GoodG C.toCtx0 w0 M Pr (e ops.size) a w → Q .normal a w) :
    ∀ (fuel : Nat) (listed : Array Bool) (a : Act) (w : World), listed.size = ops.size → Down ops (fun j => listed.getD j false) → ((List.range ops.size).filter fun j => !listed.getD j true).length ≤ fuel →
      GoodG C.toCtx0 w0 M Pr (comb e k (fun j => listed.getD j false) ops.size) a w → wpAny C.P md ops Q fuel listed a w := by
  have getTF : ∀ (listed : Array Bool) (j : Nat), listed.size = ops.size → j < ops.size → listed.getD j true = listed.getD j false := by
    intro listed j h1 h2
    rw [Array.getD_eq_getD_getElem?, Array.getD_eq_getD_getElem?, Array.getElem?_eq_getElem (by omega)]; rfl
  have shut : ∀ (S : Nat → Bool), Down ops S → Shut B ops.size S := fun S hS i j _ hi hbit => (hB i j hbit).mem hS hi
  -- all is listed: the end
  have done : ∀ (listed : Array Bool) (a : Act) (w : World), (∀ j, j < ops.size → listed.getD j false = true) → GoodG C.toCtx0 w0 M Pr (comb e k (fun j => listed.getD j false) ops.size) a w → Q .normal a w := by
    intro listed a w hall hg
    rw [hT.full ops.size (Nat.le_refl _) hall] at hg
    exact hQ a w hg
  have readyNil : ∀ (listed : Array Bool), listed.size = ops.size → Region.ready md ops listed = [] → ∀ j, j < ops.size → listed.getD j false = true := by
    intro listed hsz hnil j
    induction j using Nat.strongRecOn with
    | _ j ih =>
      intro hj
      cases hl : listed.getD j false with
      | true => rfl
      | false =>
        exfalso
        have : j ∈ Region.ready md ops listed := by
          unfold Region.ready
          rw [List.mem_filter]
          refine ⟨List.mem_range.2 hj, ?_⟩
          rw [getTF listed j hsz hj, hl]
          rw [Array.getElem?_eq_getElem hj]
          simp only [Bool.not_false, Bool.true_and, Option.map_some, Option.getD_some]
          rw [Array.all_eq_true_iff_forall_mem]
          intro ed hed
          cases hbd : Region.binds md ed with
          | false => simp
          | true =>
            have hlt := hb j _ (Array.getElem?_eq_getElem hj) ed (by simpa using hed) hbd
            rw [ih ed.on hlt (by omega)]; simp
        rw [hnil] at this; cases this
  intro fuel
  induction fuel with
  | zero =>
    intro listed a w hsz hS hun hg
    have hall : ∀ j, j < ops.size → listed.getD j false = true := by
      intro j hj
      have h0 : (List.range ops.size).filter (fun j => !listed.getD j true) = [] := List.eq_nil_of_length_eq_zero (by omega)
      rw [List.filter_eq_nil_iff] at h0
      have := h0 j (List.mem_range.2 hj)
      rw [getTF listed j hsz hj] at this
      simpa using this
    refine ⟨?_, done listed a w hall hg⟩
    unfold Region.ready
    rw [List.filter_eq_nil_iff]
    intro j hj
    rw [getTF listed j hsz (List.mem_range.1 hj), hall j (List.mem_range.1 hj)]; simp
  | succ fuel ih =>
    intro listed a w hsz hS hun hg
    refine ⟨fun hnil => done listed a w (readyNil listed hsz hnil) hg, fun i hi => ?_⟩
    unfold Region.ready at hi
    rw [List.mem_filter] at hi
    obtain ⟨hi1, hi2⟩ := hi
    have hin := List.mem_range.1 hi1
    rw [getTF listed i hsz hin, Bool.and_eq_true] at hi2
    obtain ⟨hn, hedge⟩ := hi2
    have hn' : listed.getD i false = false := by simpa using hn
    have hready : Ready ops (fun j => listed.getD j false) i := by
      refine ⟨hn', fun o ho ed hed hbd => ?_⟩
      rw [ho] at hedge
      simp only [Option.map_some, Option.getD_some] at hedge
      rw [Array.all_eq_true_iff_forall_mem] at hedge
      have := hedge ed (by simpa using hed)
      have hbm : Region.binds md ed = true := by
        unfold Region.binds at hbd ⊢
        split at hbd <;> first | rfl | (rename_i hgr; rw [hgr]; done) | (cases hbd)
      rw [hbm] at this; simpa using this
    have hsz' : (listed.setIfInBounds i true).size = ops.size := by simp [hsz]
    have hS' : ∀ j, (listed.setIfInBounds i true).getD j false = (listed.getD j false || j == i) := by
      intro j
      simp only [Array.getD_eq_getD_getElem?, Array.getElem?_setIfInBounds]
      by_cases hji : i = j
      · subst hji; simp [hsz, hin]
      · have : (j == i) = false := by simp; exact fun e => hji e.symm
        simp [hji, this]
    have hdown' : Down ops (fun j => (listed.setIfInBounds i true).getD j false) := by
      intro j o ho hj ed hed hbd
      simp only [hS', Bool.or_eq_true] at hj ⊢
      rcases hj with hj | hj
      · exact .inl (hS j o ho hj ed hed hbd)
      · have : j = i := by simpa using hj
        subst this
        exact .inl (hready.2 o ho ed hed hbd)
    have hun' : ((List.range ops.size).filter fun j => !(listed.setIfInBounds i true).getD j true).length ≤ fuel := by
      have := filter_lt (p := fun j => !listed.getD j true) (q := fun j => !(listed.setIfInBounds i true).getD j true) (List.range ops.size) i hi1 (by rw [getTF listed i hsz hin, hn']; rfl)
        (by rw [getTF _ i hsz' hin, hS']; simp) (fun j hj => by
          by_cases hjs : j < ops.size
          · rw [getTF _ j hsz' hjs, hS'] at hj
            rw [getTF listed j hsz hjs]
            simp only [Bool.not_eq_true', Bool.or_eq_false_iff] at hj ⊢
            exact hj.1
          · rw [Array.getD_eq_getD_getElem?, Array.getElem?_eq_none (by omega)] at hj; simp at hj)
      omega
    have hnext : ∀ a' w', GoodG C.toCtx0 w0 M Pr (comb e k (fun j => (listed.setIfInBounds i true).getD j false) ops.size) a' w' → wpAny C.P md ops Q fuel (listed.setIfInBounds i true) a' w' :=
      fun a' w' hg' => ih (listed.setIfInBounds i true) a' w' hsz' hdown' hun' hg'
    obtain ⟨hr, hd⟩ := hg
    have hkd := hK i hin
    have hsh := shut _ hS
    have hrdy : ∀ j, (B.getD i 0).testBit j = true → (fun j => listed.getD j false) j = true := fun j hj => (hB i j hj).ready hS hready.2
    have hal : Alike (e i) (comb e k (fun j => listed.getD j false) ops.size) (R i) := Alike.one (fun x hx => (hT.read hsh hin hn' hrdy x hx).symm)
    have hadd := hT.add hsh hin hn' (S' := fun j => (listed.setIfInBounds i true).getD j false) hS'
    obtain ⟨o, ho⟩ : ∃ o, ops[i]? = some o := ⟨ops[i], Array.getElem?_eq_getElem hin⟩
    unfold wpOp
    rw [ho]
    simp only
    rcases kd_step hC ho hkd (by rw [hT.n_eq i (by omega), comb_n]) hal hr with ⟨h1, h2⟩ | ⟨h1, h2⟩
    · rw [h1]
      simp only [if_true]
      refine .inl (h2 _ _ (fun v w' hv => hnext _ _ ?_))
      rw [hadd]
      exact ⟨hv, hPr i o ho _ _ hd⟩
    · rw [h1]
      simp only [Bool.false_eq_true, if_false]
      refine hnext _ _ ?_
      rw [hadd]
      exact ⟨h2, hPr i o ho _ _ hd⟩

theorem Region_linearise (md : Region.Mode) (ops : Array Oper) (t : Nat) : Region.linearise md ops t = Region.linearise.go md ops ops.size t (Array.replicate ops.size false) [] := rfl

/-- regions whose order is drawn -/
theorem draws_ok (hC : CallsOk C) : DrawsOk C := by
  intro w0 w M Pr ops id S a Q ρ Kont r hPr hb hg he hQ
  have hB : ∀ j k, ((bef ops.toList []).getD j 0).testBit k = true → Rch ops j k := bef_sound ops.toList [] rfl (fun j k h => by simp at h)
  rw [List.range_eq_range'] at he
  obtain ⟨e, k, R, h1, h2, x, h3, h4, h5⟩ := trace (S0 := S) ops.size 0 (fun q hq => by cases hq) Fr.refl he
  rw [Nat.zero_add] at h3
  have hT : Trace e k R (bef ops.toList []) ops.size := by
    refine ⟨by rw [h1]; exact Out1.sg S, fun i hi => (h2 i (Nat.zero_le _) (by omega)).1, fun j i hj hi => (h2 i (Nat.zero_le _) (by omega)).2.2.2 j (Nat.zero_le _) hj⟩
  have hK : ∀ i, i < ops.size → Kd C ops (e i) (k i) (R i) i := fun i hi => (h2 i (Nat.zero_le _) (by omega)).2.1
  have hnone : ∀ j, (fun j => (Array.replicate ops.size false).getD j false) j = false := by
    intro j
    simp [Array.getD_eq_getD_getElem?, Array.getElem?_replicate]; split <;> rfl
  have main : ∀ md, (∀ (j : Nat) (o : Oper), ops[j]? = some o → ∀ e ∈ o.after.toList, Region.binds md e = true → e.on < j) → wpAny C.P md ops Q ops.size (Array.replicate ops.size false) a { w with drawn := w.drawn + 1 } := by
    intro md hb
    refine any_sound hC hPr hb hB hT hK (fun a' w' hg' => hQ x a' w' ⟨by rw [h3]; exact hg'.rel, hg'.df⟩ h4 h5) ops.size _ a _ (by simp) ?_ ?_ ?_
    · intro j o _ hj
      rw [hnone j] at hj; cases hj
    · exact Nat.le_trans (List.length_filter_le _ _) (by simp)
    · rw [comb_none hnone, h1]
      obtain ⟨⟨K, γ, hr⟩, hd⟩ := hg
      exact ⟨⟨K, γ, hr.grow (w' := { w with drawn := w.drawn + 1 }) ⟨rfl, rfl, rfl, Nat.le_refl _, fun _ _ => rfl⟩⟩, hd⟩
  refine wp_region_draw (fun t => ?_)
  unfold backC at hb
  rw [Bool.or_eq_true, Bool.and_eq_true] at hb
  unfold Region.schedule
  rcases hb with hb | ⟨hmix, hb⟩
  · have hbm : ∀ md (j : Nat) (o : Oper), ops[j]? = some o → ∀ e ∈ o.after.toList, Region.binds md e = true → e.on < j := fun md j o hj e he _ => backE_spec hb hj he
    split
    · rw [Region_linearise]; exact wpAny_sound ops.size _ _ a _ (main _ (hbm _))
    · rw [Region_linearise]; exact wpAny_sound ops.size _ _ a _ (main _ (hbm _))
  · rw [hmix, Bool.true_or, if_pos rfl, Region_linearise]
    exact wpAny_sound ops.size _ _ a _ (main _ (fun j o hj e he hbd => backA_spec hb hj he hbd))
end

/-- a function's contract, from its code as the interpreter reads it -/
theorem fn_okC {C : Ctx} (hC : CtxOk C) {g : FuncId} {fn : Func} (hf : C.P.funcs[g]? = some fn) (hnm : fn.name ≠ "runtime.NumGoroutine") (sp : Spec) (h : Hn)
    (hspec : ∀ ds os lf, (sp.F ds os).pick = some lf → ∃ n, evF C h n fn ds os = some lf) : FnOk C.P C.toCtx0 g sp :=
  fn_ok (calls_ok hC) (draws_ok (calls_ok hC)) hf hnm sp h hspec
end Go.En
end
section
/-
  The engine, part NJ: from a function's contract to a law's row.
-/
namespace Go.En
open Go

section
variable {E : Ctx0} {w0 w W W' : World} {M : Ml} {K : Bool → Nat → Prop} {γ : Gh} {σ : Sg} {tm : Array Value} {P : Program}

theorem root_calls {g : FuncId} {sp : Spec} {fn : Func} {body : Code} (h : FnOk P E g sp) (hf : P.funcs[g]? = some fn) (hb : fn.body = some body) (hnm : fn.name ≠ "runtime.NumGoroutine") {ds : List D} {os : List Ob} {vs : Array Value} (hr : Rel E W M (K0 M) γ (sgOf ds os []) vs W)
    {lf : Lf} (hp : (sp.F ds os).pick = some lf) : Calls P g vs W fun e W' => ∃ v K' γ', e = .returned v ∧ Rel E W M K' γ' (sgOf [resD lf.res] lf.old lf.new) #[v] W' := by
  have hc := h W M γ ds os vs hr lf hp
  have hent : (callFunc g vs).run P W = .ok (.enter g vs) W := by simp [callFunc, hf, hnm, hb]
  unfold CallsF at hc
  rw [hent] at hc
  refine Calls.mono hc (fun e w' he => ?_)
  cases e with
  | returned v =>
    obtain ⟨K', γ', h1⟩ := he
    exact ⟨v, K', γ', rfl, h1⟩
  | _ => exact he.elim

/-- nothing was lent to be written: all is as it was -/
theorem Rel.kept (h : Rel E W M K γ σ tm W') (hM : ∀ b, ¬ M true b) (may : MemPlace → Prop) : W.keptBut W' may := by
  refine ⟨h.os, h.output, fun i hi => ?_⟩
  rw [h.fr i hi (hM i)]
  exact (World.keptBut_refl W may).2.2 i hi
theorem Rel.same (h : Rel E W M K γ σ tm W') (hM : ∀ b, ¬ M true b) {i : Nat} (hi : i < W.heap.size) : W'.heap[i]? = W.heap[i]? := h.fr i hi (hM i)

/-- nothing lent to be written; some blocks to be read -/
def roM (Rd : Nat → Prop) : Ml := ⟨fun f b => f = false ∧ Rd b, 0, fun _ => .no, fun _ => .bool true⟩
def noG : Gh := ⟨fun _ => .bool true, fun _ => []⟩
/-- a call of data alone -/
theorem rel_start {Rd : Nat → Prop} (hRd : ∀ b, Rd b → b < W.heap.size) {ds : List D} {vs : Array Value} (hds : DsR E W (K0 (roM Rd)) (sgOf ds [] []).o noG ds vs.toList) (hg : E.gc ≠ none → Gl E W ∧ 0 < W.heap.size) (hgx : GxAt E W) : Rel E W (roM Rd) (K0 (roM Rd)) noG (sgOf ds [] []) vs W := by
  obtain ⟨d1, d2⟩ := hds.get
  constructor
  · show vs.size = ds.length
    rw [d1]; simp
  · intro t
    have := d2 t
    have e : vs.toList.getD t undef = tmv vs t := by simp [tmv, Array.getD_eq_getD_getElem?, List.getD_eq_getElem?_getD]
    rw [e] at this
    exact this
  · rintro ⟨t, j⟩
    match t with
    | 0 => rfl
    | 1 => rfl
    | t + 2 => rw [sgOf_o2]; rfl
  · intro o o' b hb; cases hb
  · intro o; exact List.nodup_nil
  · intro o b hb; cases hb
  · rintro f b ⟨_, _, hb⟩; exact hRd b hb
  · rintro b ⟨h, _⟩; cases h
  · rintro b ⟨h, _⟩; cases h
  · rintro b ⟨_, hb⟩; exact .inr (.inr hb)
  · exact Nat.le_refl _
  · intro b _ _; rfl
  · rfl
  · rfl
  · rfl
  · exact ⟨fun hne => ⟨(hg hne).1, (hg hne).2, fun h => by cases h.1⟩, hgx, fun p _ h => by cases h.1⟩
  · intro j hj; exact absurd hj (Nat.not_lt_zero _)
theorem roM_true {Rd : Nat → Prop} (b : Nat) : ¬ (roM Rd) true b := by rintro ⟨h, _⟩; cases h
/-- one result that is a truth -/
theorem Rel.res_b {f : Bool} {c : Bool} {v : Value} {old new : List Ob} (h : Rel E W M K γ (sgOf [resD [.one (.d (.fz f) .b c)]] old new) #[v] W') : v = .bool c := by
  have h1 := h.sl 0
  have h2 : Ro E W' (K f) .b c [v] := h1
  have := Ro.inv_b h2
  injection this
end
end Go.En
end
section
/-
  The engine, part NK: loops told one by one.
-/
namespace Go.En
open Go

/-- a part of code, and what comes behind it; 'Gs': the next rounds of the loops around it -/
noncomputable def kAt (C : Ctx) (h : Hn) (n : Nat) (ρ : Type) : Code → List Nat → List (St → Option ρ) → (Ex1 → St → Option ρ) → Code × (Ex1 → St → Option ρ)
  | .seq a b, 0 :: p, Gs, K => kAt C h n ρ a p Gs fun e S => match e with
    | .normal => evCut C.toCtx0 ρ (h.lv (firstId b + 10000)) (h.co (firstId b + 10000)) (fun S K => ev C h n ρ b S K) K n S
    | e => K e S
  | .seq _ b, _ :: p, Gs, K => kAt C h n ρ b p Gs K
  | .cond _ a _, 0 :: p, Gs, K => kAt C h n ρ a p Gs K
  | .cond _ _ b, _ :: p, Gs, K => kAt C h n ρ b p Gs K
  | .block id a, _ :: p, Gs, K => kAt C h n ρ a p Gs fun e S => match e with
    | .exit i => bif i.beq id then K .normal S else K (.exit i) S
    | e => K e S
  | .loop a, _ :: p, Gs, K => kAt C h n ρ a p Gs.tail fun e S' => match e with
    | .normal => (Gs.headD fun _ => none) (norm (h.lv (firstId a)) (coerce C.toCtx0 (h.co (firstId a)) S'))
    | e => K e S'
  | c, _, _, K => (c, K)
/-- a loop, from its head on -/
noncomputable def lp (C : Ctx) (h : Hn) (n : Nat) (ρ : Type) (c : Code) (p : List Nat) (Gs : List (St → Option ρ)) (K0 : Ex1 → St → Option ρ) (m : Nat) (S : St) : Option ρ :=
  match (kAt C h n ρ c p Gs K0).1 with
  | .loop a => evLoop ρ (fun S K => ev C h n ρ a S K) (fun S => norm (h.lv (firstId a)) (coerce C.toCtx0 (h.co (firstId a)) S)) (kAt C h n ρ c p Gs K0).2 m S
  | .seq _ b => cutN ρ (fun S K => ev C h n ρ b S K) (kAt C h n ρ c p Gs K0).2 m S
  | _ => none
/-- one round of it -/
noncomputable def rnd (C : Ctx) (h : Hn) (n : Nat) (ρ : Type) (c : Code) (p : List Nat) (Gs : List (St → Option ρ)) (K0 : Ex1 → St → Option ρ) (G : St → Option ρ) (S : St) : Option ρ :=
  match (kAt C h n ρ c p Gs K0).1 with
  | .loop a => ev C h n ρ a S fun e S' => match e with
    | .normal => G (norm (h.lv (firstId a)) (coerce C.toCtx0 (h.co (firstId a)) S'))
    | e => (kAt C h n ρ c p Gs K0).2 e S'
  | .seq _ b => ev C h n ρ b S (kAt C h n ρ c p Gs K0).2
  | _ => none
theorem lp_zero {C : Ctx} {h : Hn} {n : Nat} {ρ : Type} {c : Code} {p : List Nat} {Gs : List (St → Option ρ)} {K0 : Ex1 → St → Option ρ} (S : St) : lp C h n ρ c p Gs K0 0 S = none := by
  unfold lp
  split <;> rfl
theorem lp_succ {C : Ctx} {h : Hn} {n : Nat} {ρ : Type} {c : Code} {p : List Nat} {Gs : List (St → Option ρ)} {K0 : Ex1 → St → Option ρ} (m : Nat) (S : St) : lp C h n ρ c p Gs K0 (m + 1) S = rnd C h n ρ c p Gs K0 (lp C h n ρ c p Gs K0 m) S := by
  unfold lp rnd
  split
  · rename_i a ha
    simp only [evLoop]
    congr 1
  · rfl
  · rfl
/-- a function's end -/
noncomputable def endK (C : Ctx) (h : Hn) (f : Func) : Ex1 → St → Option Lf := fun e S => match e with
  | .ret => retK C.toCtx0 (h.co 1000000) f.resultTypes.toList f.results.toList S
  | .normal => retK C.toCtx0 (h.co 1000000) f.resultTypes.toList f.results.toList S
  | _ => none
noncomputable def codeOf (f : Func) : Code :=
  match f.body with
  | some c => c
  | none => .skip
end Go.En
end
section
/-
  The engine, part NL: a law's arguments, read as typed values; tables of contracts; a law's end.
-/
namespace Go.En
open Go Go.ChangeShapes Go.WideShapes Go.RowKit

/-- a length as a number -/
@[reducible] def zn (n : Nat) : Int := n
/-! ### tables of contracts -/
def tbl : List (Nat × Spec) → FuncId → Option Spec
  | [], _ => none
  | x :: l, g => bif g.beq x.1 then some x.2 else tbl l g
def AllOk (P : Program) (E : Ctx0) : List (Nat × Spec) → Prop
  | [] => True
  | x :: l => FnOk P E x.1 x.2 ∧ AllOk P E l
theorem tbl_ok {P : Program} {E : Ctx0} : ∀ {l : List (Nat × Spec)}, AllOk P E l → ∀ {g : FuncId} {sp : Spec}, tbl l g = some sp → FnOk P E g sp
  | [], _, _, _, h => by cases h
  | x :: l, hl, g, sp, h => by
    unfold tbl at h
    cases hc : Nat.beq g x.1 with
    | true =>
      rw [hc] at h
      simp only [cond_true, Option.some.injEq] at h
      subst h
      rw [Nat.eq_of_beq_eq_true hc]
      exact hl.1
    | false =>
      rw [hc] at h
      exact tbl_ok hl.2 h
/-- the context of a list of contracts -/
def ctxOf (E : Ctx0) (l : List (Nat × Spec)) : Ctx := { E with Φ := tbl l }

/-! ### values in their bounds -/
def Vok : (sh : Sh) → Val sh → Prop
  | .i k, v => k.min ≤ v ∧ v ≤ k.max
  | .s, v => v.size ≤ maxLen
  | .p a c, v => Vok a v.1 ∧ Vok c v.2
  | .l a, v => v.length ≤ maxLen ∧ ∀ x ∈ v, Vok a x
  | _, _ => True
/-- at least so many bytes -/
def minB : Sh → Nat
  | .i .i8 | .i .u8 | .b => 1
  | .i .i16 | .i .u16 => 2
  | .i .i32 | .i .u32 => 4
  | .i _ => 8
  | .s => 16
  | .l _ => 24
  | .p a c => minB a + minB c
  | _ => 0
/-- each slice within a value is no longer than memory -/
def Vw : (sh : Sh) → Val sh → Prop
  | .p a c, v => Vw a v.1 ∧ Vw c v.2
  | .l a, v => v.length * minB a ≤ reachBytes ∧ ∀ x ∈ v, Vw a x
  | _, _ => True
def MinOk (E : Ctx0) : Prop := ∀ k t sh, k ≤ 20 → t < E.P.types.size → shOf E k t = some sh → minB sh ≤ E.P.bytesOf t
def minOkB (E : Ctx0) : Bool := (List.range 21).all fun k => (List.range E.P.types.size).all fun t => match shOf E k t with
  | some sh => Nat.ble (minB sh) (E.P.bytesOf t)
  | none => true
theorem minOk_of {E : Ctx0} (h : minOkB E = true) : MinOk E := by
  intro k t sh hk ht hs
  unfold minOkB at h
  have h1 := List.all_eq_true.1 (List.all_eq_true.1 h k (List.mem_range.2 (by omega))) t (List.mem_range.2 ht)
  rw [hs] at h1
  exact Nat.le_of_ble_eq_true h1
def wtOk {H : Type} (P : Program) (t : TypeId) (d : DataW H) : Prop := (d.weights P t).all (· ≤ reachBytes) = true
theorem wt_each {H : Type} {P : Program} : ∀ {ts : List TypeId} {ds : List (DataW H)}, (DataW.weightsEach P ts ds).all (· ≤ reachBytes) = true → ∀ {j : Nat} {t : TypeId} {d : DataW H}, ts[j]? = some t → ds[j]? = some d → wtOk P t d
  | [], _, _, j, t, d, h1, _ => by cases h1
  | _ :: _, [], _, j, t, d, _, h2 => by cases h2
  | t0 :: ts, d0 :: ds, h, j, t, d, h1, h2 => by
    unfold DataW.weightsEach at h
    rw [List.all_append, Bool.and_eq_true] at h
    cases j with
    | zero =>
      simp only [List.getElem?_cons_zero, Option.some.injEq] at h1 h2
      subst h1; subst h2
      exact h.1
    | succ j => exact wt_each h.2 (by simpa using h1) (by simpa using h2)
theorem wt_all {H : Type} {P : Program} {e : TypeId} : ∀ {ds : List (DataW H)}, (DataW.weightsAll P e ds).all (· ≤ reachBytes) = true → ∀ d ∈ ds, wtOk P e d
  | [], _, d, h => by cases h
  | d0 :: ds, h, d, hd => by
    unfold DataW.weightsAll at h
    rw [List.all_append, Bool.and_eq_true] at h
    rcases List.mem_cons.1 hd with rfl | hd
    · exact h.1
    · exact wt_all h.2 d hd
def okSh : Sh → Bool
  | .i _ | .b | .s | .u => true
  | .p a c => okSh a && okSh c
  | .l a => okSh a
  | _ => false

section
variable {E : Ctx0} {w : World} {H : Type} {enc : TypeId × Value → H} {sp : Nat → Bool} {hd : Bool}

theorem ro_fields {P : Program} {K : Nat → Prop} {g : Field → Option Sh} : ∀ {fs : List Field} {sh : Sh} {cs : List Value} {W : Nat → Prop},
    (fs.map g).foldr (fun a r => match a, r with | some a, some r => some (.p a r) | _, _ => none) (some .u) = some sh → okSh sh = true →
    cs.length = (fs.map fun f => P.cellsOf f.type).sum →
    (∀ (j : Nat) (f : Field) (a : Sh), fs[j]? = some f → g f = some a → okSh a = true → ∃ v : Val a, Ro E w K a v ((cs.drop ((fs.take j).map fun f => P.cellsOf f.type).sum).take (P.cellsOf f.type)) ∧ Vok a v ∧ (W j → Vw a v)) →
    ∃ v : Val sh, Ro E w K sh v cs ∧ Vok sh v ∧ ((∀ j, j < fs.length → W j) → Vw sh v) := by
  intro fs
  induction fs with
  | nil =>
    intro sh cs W h _ hl _
    simp only [List.map_nil, List.foldr_nil, Option.some.injEq] at h
    subst h
    simp only [List.map_nil, List.sum_nil, List.length_eq_zero_iff] at hl
    subst hl
    exact ⟨(), .u, trivial, fun _ => trivial⟩
  | cons f fs ih =>
    intro sh cs W h hok hl hf
    simp only [List.map_cons, List.foldr_cons] at h
    split at h
    · rename_i a r ha hr
      simp only [Option.some.injEq] at h
      subst h
      simp only [okSh, Bool.and_eq_true] at hok
      simp only [List.map_cons, List.sum_cons] at hl
      obtain ⟨x, hx, hvx, hwx⟩ := hf 0 f a rfl ha hok.1
      obtain ⟨y, hy, hvy, hwy⟩ := ih (sh := r) (cs := cs.drop (P.cellsOf f.type)) (W := fun j => W (j + 1)) hr hok.2 (by simp [hl]) (fun j f' a' hj hg ho => by
        have := hf (j + 1) f' a' (by simpa using hj) hg ho
        simpa [List.drop_drop] using this)
      refine ⟨(x, y), ?_, ⟨hvx, hvy⟩, fun hw => ⟨hwx (hw 0 (Nat.succ_pos _)), hwy (fun j hj => hw (j + 1) (Nat.succ_lt_succ hj))⟩⟩
      have := Ro.p hx hy
      simpa using this
    · cases h

theorem cell_lt {w : World} {a : Addr} {v : Value} (h : w.cell? a = some v) : a.block < w.heap.size := by
  unfold World.cell? at h
  split at h
  · rename_i c _ _ hb
    exact (Array.getElem?_eq_some_iff.1 hb).1
  · cases h
theorem cell_spot {w : World} {a : Addr} {v : Value} (h : w.cell? a = some v) : a.spot = none := by
  unfold World.cell? at h
  split at h
  · cases hs : a.spot with
    | none => rfl
    | some x => rw [hs] at h; simp at h
  · cases h

theorem ro_of_trod (hn : ∀ t, E.nm t = none) (Ki : Kids E.P (· < E.P.types.size)) (hz : ∀ t e, t < E.P.types.size → E.P.underlying t = some (.slice e) → 0 < E.P.cellsOf e) :
    ∀ (m k : Nat) (t : TypeId) (sh : Sh) (cs : List Value) (x : DataW H × List MemPlace), k ≤ 20 → t < E.P.types.size → shOf E k t = some sh → okSh sh = true →
      DataW.trod enc E.P w 0 sp hd m t cs = some x → ∃ v : Val sh, Ro E w (fun b => b < w.heap.size) sh v cs ∧ Vok sh v ∧ (MinOk E → wtOk E.P t x.1 → Vw sh v) := by
  intro m
  induction m with
  | zero => intro k t sh cs x _ _ _ _ h; simp [DataW.trod] at h
  | succ m ih =>
    intro k t sh cs x hk20 hlt hs hok h
    cases k with
    | zero => cases hs
    | succ k =>
      unfold shOf at hs
      rw [hn] at hs
      simp only at hs
      split at hs
      · rename_i kd hu
        cases hs
        obtain ⟨n, rfl, _, hwf⟩ := DataW.trod_int hu h
        simp only [Lit.wf, Bool.and_eq_true, decide_eq_true_eq] at hwf
        exact ⟨n, .i, hwf, fun _ _ => trivial⟩
      · rename_i hu
        cases hs
        obtain ⟨b, rfl, _⟩ := DataW.trod_bool hu h
        exact ⟨b, .b, trivial, fun _ _ => trivial⟩
      · rename_i hu
        cases hs
        obtain ⟨s, rfl, _, hl⟩ := DataW.trod_string hu h
        exact ⟨s, .s, hl, fun _ _ => trivial⟩
      · rename_i e hu
        split at hs
        · rename_i a ha
          cases hs
          rcases DataW.trod_slice hu h with ⟨rfl, _⟩ | ⟨ad, len, cap, elems, rest, n, hn', rfl, hx0, _, hlc, hm, hlen, hel, _, _⟩
          · exact ⟨[], .l0, ⟨Nat.zero_le _, fun x hx => by cases hx⟩, fun _ _ => ⟨by simp, fun x hx => by cases hx⟩⟩
          · obtain rfl : m = n := by omega
            have hte : e < E.P.types.size := Ki.slice hlt hu
            have hce := hz t e hlt hu
            have hwe : MinOk E → wtOk E.P t x.1 → len * minB a ≤ reachBytes ∧ ∀ i (hi : i < elems.length), wtOk E.P e elems[i].1 := by
              intro hM hw
              rw [hx0] at hw
              unfold wtOk DataW.weights at hw
              rw [hu] at hw
              simp only [List.all_cons, List.all_append, Bool.and_eq_true, decide_eq_true_eq] at hw
              refine ⟨?_, fun i hi => wt_all hw.2.1 _ (List.mem_map.2 ⟨elems[i], List.getElem_mem hi, rfl⟩)⟩
              have h1 := hM k e a (by omega) hte ha
              have h2 : len * minB a ≤ ((elems.map (·.1)).length + (rest.map (·.1)).length) * E.P.bytesOf e := Nat.mul_le_mul (by rw [List.length_map]; omega) h1
              omega
            have each : ∀ i, i < len → ∃ (v : Val a) (csi : List Value), Ro E w (fun b => b < w.heap.size) a v csi ∧ (Vok a v ∧ (MinOk E → wtOk E.P t x.1 → Vw a v)) ∧ csi.length = E.P.cellsOf e ∧ ∀ j x, csi[j]? = some x → w.cell? ((ad.add (i * E.P.cellsOf e)).add j) = some x := by
              intro i hi
              have h1 := hel i hi
              rw [List.getElem?_eq_getElem (by omega)] at h1
              obtain ⟨csi, h2, h3⟩ := Option.bind_eq_some_iff.1 h1
              obtain ⟨_, h4, h5⟩ := World.cells?_some h2
              obtain ⟨v, hv, hk, hvw⟩ := ih k e a csi _ (by omega) hte ha hok h3
              refine ⟨v, csi, hv, ⟨hk, fun hM hw => hvw hM ((hwe hM hw).2 i (by omega))⟩, h4, fun j x hj => ?_⟩
              have hj' : j < E.P.cellsOf e := by rw [← h4]; exact (List.getElem?_eq_some_iff.1 hj).1
              rw [h5 j hj', hj]
            by_cases h0 : len = 0
            · subst h0
              exact ⟨[], .l0, ⟨Nat.zero_le _, fun x hx => by cases hx⟩, fun _ _ => ⟨by simp, fun x hx => by cases hx⟩⟩
            · obtain ⟨b, o, spot⟩ := ad
              obtain ⟨v0, cs0, hv0, hk0, hl0, hc0⟩ := each 0 (by omega)
              have hcell : ∃ x, w.cell? ⟨b, o, spot⟩ = some x := by
                obtain ⟨x, hx⟩ : ∃ x, cs0[0]? = some x := ⟨_, List.getElem?_eq_getElem (by omega)⟩
                have := hc0 0 x hx
                simp [Addr.add] at this
                exact ⟨x, this⟩
              obtain ⟨x0, hx0⟩ := hcell
              have hsp : spot = none := cell_spot hx0
              subst hsp
              have hb : b < w.heap.size := cell_lt hx0
              have hsz : E.P.cellsOf e = a.sz := by rw [← hl0, hv0.length]
              let val : Nat → Val a := fun i => if hi : i < len then (each i hi).choose else v0
              let cells : Nat → List Value := fun i => if hi : i < len then (each i hi).choose_spec.choose else []
              have hval : ∀ i (hi : i < len), Ro E w (fun b => b < w.heap.size) a (val i) (cells i) ∧ (Vok a (val i) ∧ (MinOk E → wtOk E.P t x.1 → Vw a (val i))) ∧ (cells i).length = E.P.cellsOf e ∧ ∀ j x, (cells i)[j]? = some x → w.cell? (((⟨b, o, none⟩ : Addr).add (i * E.P.cellsOf e)).add j) = some x := by
                intro i hi
                have := (each i hi).choose_spec.choose_spec
                simp only [val, cells, hi, dite_true]
                exact this
              refine ⟨(List.range len).map val, Ro.l cells (by simp) hb hlc (fun i hi => ?_) (fun i j x hi hj => ?_), ⟨by simp; omega, fun x hx => ?_⟩, fun hM hw => ⟨by rw [List.length_map, List.length_range]; exact (hwe hM hw).1, fun x hx => ?_⟩⟩
              · simp only [List.length_map, List.length_range] at hi
                simpa using (hval i hi).1
              · simp only [List.length_map, List.length_range] at hi
                have := (hval i hi).2.2.2 j x hj
                rw [hsz] at this
                have e2 : ((⟨b, o, none⟩ : Addr).add (i * a.sz)).add j = ⟨b, o + (i * a.sz + j), none⟩ := by
                  unfold Addr.add
                  split <;> split <;> simp_all <;> omega
                rw [← e2]; exact this
              · obtain ⟨i, hi, rfl⟩ := List.mem_map.1 hx
                exact (hval i (by simpa using hi)).2.1.1
              · obtain ⟨i, hi, rfl⟩ := List.mem_map.1 hx
                exact (hval i (by simpa using hi)).2.1.2 hM hw
        · cases hs
      · split at hs
        · cases hs; cases hok
        · cases hs
      · split at hs
        · cases hs; cases hok
        · cases hs
      · rename_i fs hu
        obtain ⟨xs, n, hn', hx0, hl, hxl, hf⟩ := DataW.trod_struct hu h
        obtain rfl : m = n := by omega
        obtain ⟨k1, k2, k3⟩ := Ki.struct hlt hu
        suffices hs2 : ∃ v : Val sh, Ro E w (fun b => b < w.heap.size) sh v cs ∧ Vok sh v ∧ ((∀ j, j < fs.toList.length → MinOk E ∧ ∀ f y, fs.toList[j]? = some f → xs[j]? = some y → wtOk E.P f.type y.1) → Vw sh v) by
          obtain ⟨v, h1, h2, h3⟩ := hs2
          refine ⟨v, h1, h2, fun hM hw => h3 (fun j hj => ⟨hM, fun f y hf hy => ?_⟩)⟩
          rw [hx0] at hw
          unfold wtOk DataW.weights at hw
          rw [hu] at hw
          exact wt_each hw (j := j) (by rw [List.getElem?_map, hf]; rfl) (by rw [List.getElem?_map, hy]; rfl)
        refine ro_fields (P := E.P) (W := fun j => MinOk E ∧ ∀ f y, fs.toList[j]? = some f → xs[j]? = some y → wtOk E.P f.type y.1) hs hok (by rw [hl, k2]) (fun j f a hj hg ho => ?_)
        have h1 := hf j f (by simpa using hj)
        rw [k3 j f hj] at h1
        have hx : ∃ y, xs[j]? = some y := by
          have : j < fs.size := by simpa using (List.getElem?_eq_some_iff.1 hj).1
          exact ⟨_, List.getElem?_eq_getElem (by omega)⟩
        obtain ⟨y, hy⟩ := hx
        rw [hy] at h1
        obtain ⟨v, g1, g2, g3⟩ := ih k f.type a _ _ (by omega) (k1 f (List.mem_of_getElem? hj)) hg ho h1
        exact ⟨v, g1, g2, fun hW => g3 hW.1 (hW.2 f y hj hy)⟩
      · cases hs; cases hok
      · cases hs
end

/-! ### arguments -/
def Vals : List Sh → Type
  | [] => Unit
  | sh :: shs => Val sh × Vals shs
def VoksAll : (shs : List Sh) → Vals shs → Prop
  | [], _ => True
  | sh :: shs, v => Vok sh v.1 ∧ VoksAll shs v.2
def VwAll : (shs : List Sh) → Vals shs → Prop
  | [], _ => True
  | sh :: shs, v => Vw sh v.1 ∧ VwAll shs v.2
def argDf (sh : Sh) (v : Val sh) : D :=
  match sh, v with
  | .p a c, v => .p (.agg (lvs (.fz false) (.p a c) v))
  | .u, v => .p (.agg (lvs (.fz false) .u v))
  | .i k, v => one (.d (.fz true) (.i k) v)
  | .b, v => one (.d (.fz true) .b v)
  | .s, v => one (.d (.fz true) .s v)
  | sh, v => one (.d (.fz false) sh v)
def dsOf : (shs : List Sh) → Vals shs → List D
  | [], _ => []
  | sh :: shs, v => argDf sh v.1 :: dsOf shs v.2

section
variable {E : Ctx0} {w : World} {H : Type} {enc : TypeId × Value → H} {sp : Nat → Bool} {hd : Bool} {K : Bool → Nat → Prop} {so : Id → Ob} {γ : Gh}


theorem LRs.to_one {l : L} {v : Value} (h : LRs E w K so γ [l] [v]) : LR E w K so γ l [v] := by
  obtain ⟨c1, c2, e, h1, h2⟩ := h
  have : c2 = [] := h2
  subst this
  simp only [List.append_nil] at e
  rw [← e] at h1
  exact h1
theorem trodAll_carry' {P : Program} {base : Nat} {w' : World} : ∀ {ts : List TypeId} {vs : List Value} {ds : List (DataW H)} {ps : List MemPlace}, DataW.TrodAll enc P w base sp hd ts vs ds ps → (∀ p ∈ ps, w.sameAt w' p) → DataW.TrodAll enc P w' base sp hd ts vs ds ps
  | [], [], [], _, h, _ => h
  | _ :: _, _ :: _, _ :: _, _, ⟨p, q, ⟨n, h1⟩, h2, e⟩, hs => ⟨p, q, ⟨n, DataW.trod_carry n _ _ _ h1 (fun x hx => hs x (by rw [e]; exact List.mem_append_left _ hx))⟩, trodAll_carry' h2 (fun x hx => hs x (by rw [e]; exact List.mem_append_right _ hx)), e⟩
theorem arg_dr (hn : ∀ t, E.nm t = none) (Ki : Kids E.P (· < E.P.types.size)) (hz : ∀ t e, t < E.P.types.size → E.P.underlying t = some (.slice e) → 0 < E.P.cellsOf e)
    (hK : ∀ b, b < w.heap.size → K false b) {t : TypeId} {sh : Sh} (hlt : t < E.P.types.size) (hs : shOf E 20 t = some sh) (hok : okSh sh = true) {v : Value} {base : Nat}
    (hv : Value.okWide E.P w .any base t v) {d : DataW H} {ps : List MemPlace} (h : DataW.Trod enc E.P w 0 sp hd t v d ps) : ∃ x : Val sh, (Vok sh x ∧ (MinOk E → wtOk E.P t d → Vw sh x)) ∧ DR E w K so γ (argDf sh x) v := by
  obtain ⟨m, h⟩ := h
  obtain ⟨x, hx, hk⟩ := ro_of_trod hn Ki hz m 20 t sh v.cells.toList _ (Nat.le_refl _) hlt hs hok h
  refine ⟨x, hk, ?_⟩
  have hx' : Ro E w (K false) sh x v.cells.toList := hx.mono hK (fun _ _ => rfl)
  have hls : LRs E w K so γ (lvs (.fz false) sh x) v.cells.toList := lvs_ok (pv := .fz false) (Kf := K false) (fun h => h) hx'
  unfold shOf at hs
  rw [hn] at hs
  simp only at hs
  unfold Value.okWide at hv
  split at hs
  · rename_i kd hu
    cases hs
    simp only [hu, Cell.okWide, Cell.ok] at hv
    cases v <;> simp at hv
    exact LRs.to_one hls
  · rename_i hu
    cases hs
    simp only [hu, Cell.okWide, Cell.ok] at hv
    cases v <;> simp at hv
    exact LRs.to_one hls
  · rename_i hu
    cases hs
    simp only [hu, Cell.okWide, Cell.ok] at hv
    cases v <;> simp at hv
    exact LRs.to_one hls
  · rename_i e hu
    split at hs
    · cases hs
      simp only [hu, Cell.okWide, Cell.ok] at hv
      cases v <;> simp at hv
      exact LRs.to_one hls
    · cases hs
  · split at hs
    · cases hs; cases hok
    · cases hs
  · split at hs
    · cases hs; cases hok
    · cases hs
  · rename_i fs hu
    simp only [hu] at hv
    obtain ⟨cs, rfl, _⟩ := hv
    have : DR E w K so γ (.p (.agg (lvs (.fz false) sh x))) (.agg cs) := ⟨cs, rfl, hls⟩
    cases sh with
    | p a c => exact this
    | u => exact this
    | _ =>
      exfalso
      revert hs
      cases fs.toList.map fun f => shOf E 19 f.type with
      | nil => intro h; cases h
      | cons a l =>
        intro h
        simp only [List.foldr_cons] at h
        split at h <;> cases h
  · cases hs; cases hok
  · cases hs

theorem args_dr (hn : ∀ t, E.nm t = none) (Ki : Kids E.P (· < E.P.types.size)) (hz : ∀ t e, t < E.P.types.size → E.P.underlying t = some (.slice e) → 0 < E.P.cellsOf e)
    (hK : ∀ b, b < w.heap.size → K false b) {base : Nat} : ∀ {ts : List TypeId} {shs : List Sh} {vs : List Value} {ds : List (DataW H)} {ps : List MemPlace},
      (∀ t ∈ ts, t < E.P.types.size) → ts.map (shOf E 20) = shs.map some → shs.all okSh = true → (∀ (j : Nat) t v, ts[j]? = some t → vs[j]? = some v → Value.okWide E.P w .any base t v) →
      DataW.TrodAll enc E.P w 0 sp hd ts vs ds ps → ∃ x : Vals shs, (VoksAll shs x ∧ (MinOk E → (DataW.weightsEach E.P ts ds).all (· ≤ reachBytes) = true → VwAll shs x)) ∧ DsR E w K so γ (dsOf shs x) vs ∧ ds.length = ts.length
  | [], shs, vs, ds, ps, _, hs, _, _, h => by
    obtain ⟨rfl, rfl, rfl⟩ := trodAll_nil h
    cases shs with
    | nil => exact ⟨(), ⟨trivial, fun _ _ => trivial⟩, rfl, rfl⟩
    | cons => cases hs
  | t :: ts, shs, vs, ds, ps, hlt, hs, hok, hval, h => by
    obtain ⟨v, vs, d, ds, a, b, rfl, rfl, rfl, h1, h2⟩ := trodAll_cons h
    cases shs with
    | nil => cases hs
    | cons sh shs =>
      simp only [List.map_cons, List.cons.injEq] at hs
      simp only [List.all_cons, Bool.and_eq_true] at hok
      obtain ⟨x, hk, hx⟩ := arg_dr (K := K) (so := so) (γ := γ) hn Ki hz hK (hlt t (List.mem_cons_self ..)) hs.1 hok.1 (hval 0 t v rfl rfl) h1
      obtain ⟨xs, hks, hxs, hl⟩ := args_dr hn Ki hz hK (fun t ht => hlt t (List.mem_cons_of_mem _ ht)) hs.2 hok.2 (fun j t v h1 h2 => hval (j + 1) t v h1 h2) h2
      refine ⟨(x, xs), ⟨⟨hk.1, hks.1⟩, fun hM hw => ?_⟩, ⟨v, vs, rfl, hx, hxs⟩, by simp [hl]⟩
      unfold DataW.weightsEach at hw
      rw [List.all_append, Bool.and_eq_true] at hw
      exact ⟨hk.2 hM hw.1, hks.2 hM hw.2⟩
end

/-! ### a law's end -/
def pBt : Pt := .one (.d (.fz true) .b true)
theorem we_app {H : Type} {P : Program} {us : List TypeId} : ∀ {ts : List TypeId} {ds : List (DataW H)}, (DataW.weightsEach P (ts ++ us) ds).all (· ≤ reachBytes) = true → (DataW.weightsEach P ts ds).all (· ≤ reachBytes) = true
  | [], ds, _ => by cases ds <;> simp [DataW.weightsEach]
  | _ :: _, [], _ => by simp [DataW.weightsEach]
  | t :: ts, d :: ds, h => by
    rw [List.cons_append] at h
    unfold DataW.weightsEach at h ⊢
    rw [List.all_append, Bool.and_eq_true] at h ⊢
    exact ⟨h.1, we_app h.2⟩
/-- the law's row: from its function's contract to the row's end -/
theorem law_gen {H : Type} {apart fresh handsOn : Bool} {enc : TypeId × Value → H} {E : Ctx0} {f : FuncId} {fn : Func} {body : Code} {es : En.Spec} {s : ChangeSpec} {tb : TypeId} {shs : List Sh}
    (hok : FnOk E.P E f es) (hf : E.P.funcs[f]? = some fn) (hb : fn.body = some body) (hnm : fn.name ≠ "runtime.NumGoroutine")
    (hn : ∀ t, E.nm t = none) (hlaid : laidOutB E.P = true) (hmaps : mapsRowed E.P = true) (hsl : ((List.range E.P.types.size).all fun t => match E.P.underlying t with | some (.slice e) => decide (0 < E.P.cellsOf e) | _ => true) = true)
    (hts : fn.params.toList.all (fun t => decide (t < E.P.types.size)) = true) (hshs : fn.params.toList.map (shOf E 20) = shs.map some) (hoks : shs.all okSh = true)
    (hres : fn.resultTypes = #[tb]) (htb : E.P.underlying tb = some .bool)
    (hvars : s.vars = []) (hfn : ∀ ds : List (DataW H), ds.length = fn.params.size → s.fn H (ds ++ []) = { results := [.lit (.bool true)], args := ds })
    {c : Prop} (hlaw : ∀ x : Vals shs, VoksAll shs x → (c → VwAll shs x) → (es.F (dsOf shs x) []).pick = some ⟨[pBt], [], []⟩)
    {W : World} {base : Nat} {args : Array Value} {ds gs : List (DataW H)} {before : List MemPlace}
    (hval : ∀ (j : Nat) t v, fn.params[j]? = some t → args[j]? = some v → Value.okWide E.P W .any base t v)
    (hW : DataW.Whole enc E.P fn.params.toList s.vars apart W args.toList ds gs before)
    (hc : c → MinOk E ∧ (DataW.weightsEach E.P fn.params.toList ds).all (· ≤ reachBytes) = true)
    (hg : E.gc ≠ none → Gl E W ∧ 0 < W.heap.size) (hgx : GxAt E W := by intro p hp; simp at hp) :
    Calls E.P f args W fun e W' => ∃ v, e = .returned v ∧ s.post enc E.P fn apart fresh handsOn false W args v W' := by
  have Ki := kids_rows hlaid hmaps
  have hz := slices_full_of E.P hsl
  have hlt : ∀ t ∈ fn.params.toList, t < E.P.types.size := fun t ht => by simpa using List.all_eq_true.1 hts t ht
  have hW' := hW
  obtain ⟨p, q, hA, hV, rfl, hfz, hnd⟩ := hW
  rw [hvars] at hV
  obtain ⟨rfl, rfl⟩ : gs = [] ∧ q = [] := by
    cases gs with
    | nil => exact ⟨rfl, hV⟩
    | cons g r => exact absurd hV (by intro h; cases h)
  obtain ⟨x, hk, hx, hl⟩ := args_dr (E := E) (w := W) (K := K0 (roM (· < W.heap.size))) (so := (sgOf ([] : List D) [] []).o) (γ := noG) hn Ki hz (fun b hb => ⟨rfl, rfl, hb⟩) hlt hshs hoks (fun j t v h1 h2 => hval j t v (by simpa using h1) (by simpa using h2)) hA
  have hr : Rel E W (roM (· < W.heap.size)) (K0 (roM (· < W.heap.size))) noG (sgOf (dsOf shs x) [] []) args W := rel_start (fun b hb => hb) hx hg hgx
  refine (root_calls hok hf hb hnm hr (hlaw x hk.1 (fun h => hk.2 (hc h).1 (hc h).2))).mono fun e W' ⟨v, K', γ', he, h⟩ => ⟨v, he, ?_⟩
  have hv : v = .bool true := h.res_b
  subst hv
  have hkept := h.kept roM_true (fun p' => p' ∈ p ++ [] ∧ (p' ∈ ([] : List MemPlace) ∨ p' ∈ p ∨ p' ∈ ([] : List MemPlace)))
  have hsame : ∀ i, i < W.heap.size → W'.heap[i]? = W.heap[i]? := fun i hi => h.same roM_true hi
  refine ⟨ds, [], p ++ [], [], p, [], hW', ?_, ?_, ?_, hkept, fun h => by cases h⟩
  · rw [hfn ds (by simpa using hl), hres]
    exact trodAll_mk1 (shut_bool htb true)
  · rw [hfn ds (by simpa using hl)]
    have h1 := DataW.TrodAll.respare (spare' := fun b => decide (b < W.heap.size)) Ki hz hlt hA (fun p' hp => by simpa using hW'.lt p' (List.mem_append_left _ hp))
    exact trodAll_carry' h1 (fun p' hp => by
      have hlt := hW'.lt p' (List.mem_append_left _ hp)
      cases p' with
      | cell b o => simp only [World.sameAt, World.cell?]; rw [hsame b hlt]
      | map b => simp only [World.sameAt]; rw [hsame b hlt])
  · rw [hfn ds (by simpa using hl), hvars]; rfl
/-- the law's row: from its function's contract to the row's end -/
theorem law_post {H : Type} {apart fresh handsOn : Bool} {enc : TypeId × Value → H} {E : Ctx0} {f : FuncId} {fn : Func} {body : Code} {es : En.Spec} {s : ChangeSpec} {tb : TypeId} {shs : List Sh}
    (hok : FnOk E.P E f es) (hf : E.P.funcs[f]? = some fn) (hb : fn.body = some body) (hnm : fn.name ≠ "runtime.NumGoroutine")
    (hn : ∀ t, E.nm t = none) (hlaid : laidOutB E.P = true) (hmaps : mapsRowed E.P = true) (hsl : ((List.range E.P.types.size).all fun t => match E.P.underlying t with | some (.slice e) => decide (0 < E.P.cellsOf e) | _ => true) = true)
    (hts : fn.params.toList.all (fun t => decide (t < E.P.types.size)) = true) (hshs : fn.params.toList.map (shOf E 20) = shs.map some) (hoks : shs.all okSh = true)
    (hres : fn.resultTypes = #[tb]) (htb : E.P.underlying tb = some .bool)
    (hvars : s.vars = []) (hfn : ∀ ds : List (DataW H), ds.length = fn.params.size → s.fn H (ds ++ []) = { results := [.lit (.bool true)], args := ds })
    (hlaw : ∀ x : Vals shs, VoksAll shs x → (es.F (dsOf shs x) []).pick = some ⟨[pBt], [], []⟩)
    {W : World} {base : Nat} {args : Array Value} {ds gs : List (DataW H)} {before : List MemPlace}
    (hval : ∀ (j : Nat) t v, fn.params[j]? = some t → args[j]? = some v → Value.okWide E.P W .any base t v)
    (hW : DataW.Whole enc E.P fn.params.toList s.vars apart W args.toList ds gs before)
    (hg : E.gc ≠ none → Gl E W ∧ 0 < W.heap.size) (hgx : GxAt E W := by intro p hp; simp at hp) :
    Calls E.P f args W fun e W' => ∃ v, e = .returned v ∧ s.post enc E.P fn apart fresh handsOn false W args v W' := by
  exact law_gen hok hf hb hnm hn hlaid hmaps hsl hts hshs hoks hres htb hvars hfn (c := False) (fun x h _ => hlaw x h) hval hW (fun h => h.elim) hg hgx
/-- the same, where the arguments' sizes are known -/
theorem law_postW {H : Type} {apart fresh handsOn : Bool} {enc : TypeId × Value → H} {E : Ctx0} {f : FuncId} {fn : Func} {body : Code} {es : En.Spec} {s : ChangeSpec} {tb : TypeId} {shs : List Sh}
    (hok : FnOk E.P E f es) (hf : E.P.funcs[f]? = some fn) (hb : fn.body = some body) (hnm : fn.name ≠ "runtime.NumGoroutine")
    (hn : ∀ t, E.nm t = none) (hlaid : laidOutB E.P = true) (hmaps : mapsRowed E.P = true) (hsl : ((List.range E.P.types.size).all fun t => match E.P.underlying t with | some (.slice e) => decide (0 < E.P.cellsOf e) | _ => true) = true)
    (hts : fn.params.toList.all (fun t => decide (t < E.P.types.size)) = true) (hshs : fn.params.toList.map (shOf E 20) = shs.map some) (hoks : shs.all okSh = true)
    (hres : fn.resultTypes = #[tb]) (htb : E.P.underlying tb = some .bool)
    (hvars : s.vars = []) (hfn : ∀ ds : List (DataW H), ds.length = fn.params.size → s.fn H (ds ++ []) = { results := [.lit (.bool true)], args := ds })
    (hM : MinOk E) (hlaw : ∀ x : Vals shs, VoksAll shs x → VwAll shs x → (es.F (dsOf shs x) []).pick = some ⟨[pBt], [], []⟩)
    {W : World} {base : Nat} {args : Array Value} {ds gs : List (DataW H)} {before : List MemPlace}
    (hval : ∀ (j : Nat) t v, fn.params[j]? = some t → args[j]? = some v → Value.okWide E.P W .any base t v)
    (hW : DataW.Whole enc E.P fn.params.toList s.vars apart W args.toList ds gs before)
    {us : List TypeId} (hwt : (DataW.weightsEach E.P (fn.params.toList ++ us) (ds ++ gs)).all (· ≤ reachBytes) = true)
    (hg : E.gc ≠ none → Gl E W ∧ 0 < W.heap.size) (hgx : GxAt E W := by intro p hp; simp at hp) :
    Calls E.P f args W fun e W' => ∃ v, e = .returned v ∧ s.post enc E.P fn apart fresh handsOn false W args v W' := by
  have hl : gs = [] := by
    obtain ⟨p, q, hA, hV, _⟩ := hW
    rw [hvars] at hV
    cases gs with
    | nil => rfl
    | cons g r => exact absurd hV (by intro h; cases h)
  subst hl
  rw [List.append_nil] at hwt
  exact law_gen hok hf hb hnm hn hlaid hmaps hsl hts hshs hoks hres htb hvars hfn (c := True) (fun x h hw => hlaw x h (hw trivial)) hval hW (fun _ => ⟨hM, we_app hwt⟩) hg hgx
end Go.En
end
section
/-
  The engine, part NM: numbers of bounded kinds.
-/
namespace Go.En
open Go

theorem i64_wrap (n : Int) : IntKind.i64.wrap n = if n % 18446744073709551616 ≥ 9223372036854775808 then n % 18446744073709551616 - 18446744073709551616 else n % 18446744073709551616 := by
  show (if (true && decide (n % (2 ^ 64 : Int) ≥ (2 ^ 63 : Int))) = true then n % (2 ^ 64 : Int) - (2 ^ 64 : Int) else n % (2 ^ 64 : Int)) = _
  simp only [Bool.true_and, decide_eq_true_eq]
  rfl
theorem u64_wrap (n : Int) : IntKind.u64.wrap n = n % 18446744073709551616 := rfl
theorem u8_wrap (n : Int) : IntKind.u8.wrap n = n % 256 := rfl
theorem u16_wrap (n : Int) : IntKind.u16.wrap n = n % 65536 := rfl
theorem u32_wrap (n : Int) : IntKind.u32.wrap n = n % 4294967296 := rfl
theorem i64_wrap_in {n : Int} (h1 : -9223372036854775808 ≤ n) (h2 : n ≤ 9223372036854775807) : IntKind.i64.wrap n = n := by
  rw [i64_wrap]; split <;> omega
theorem i64_wrap_nat {n : Int} (h1 : 0 ≤ n) (h2 : n ≤ 9223372036854775807) : IntKind.i64.wrap n = n := i64_wrap_in (by omega) h2
theorem i64_wrap_range (n : Int) : -9223372036854775808 ≤ IntKind.i64.wrap n ∧ IntKind.i64.wrap n ≤ 9223372036854775807 := by
  rw [i64_wrap]; split <;> omega
theorem u64_wrap_range (n : Int) : 0 ≤ IntKind.u64.wrap n ∧ IntKind.u64.wrap n ≤ 18446744073709551615 := by
  rw [u64_wrap]; omega
theorem u64_wrap_in {n : Int} (h1 : 0 ≤ n) (h2 : n ≤ 18446744073709551615) : IntKind.u64.wrap n = n := by
  rw [u64_wrap]; omega
end Go.En
end
section
/-
  The engine, part NN: plain facts for loops over lists, and contracts made weaker.
-/
namespace Go.En
open Go
theorem lt_k {k n : Nat} (h : k < n) : decide ((k : Int) < zn n) = true := by simp only [zn, decide_eq_true_eq]; omega
theorem nlt_k {k n : Nat} (h : ¬ k < n) : decide ((k : Int) < zn n) = false := by simp only [zn, decide_eq_false_iff_not]; omega
theorem inb_k {k n : Nat} (h : k < n) : inb (k : Int) n = true := by simp only [inb, Bool.and_eq_true, decide_eq_true_eq]; omega
theorem wr_k {k : Nat} (h : k ≤ 9223372036854775806) : IntKind.i64.wrap ((k : Int) + 1) = ((k + 1 : Nat) : Int) := by rw [i64_wrap_in (by omega) (by omega)]; rfl
theorem ble_of {n m : Nat} (h : n ≤ m) : n.ble m = true := Nat.ble_eq_true_of_le h
theorem of_ble {n m : Nat} (h : n.ble m = true) : n ≤ m := Nat.le_of_ble_eq_true h
theorem drop_get {α : Type} {l : List α} {k : Nat} (h : k < l.length) (d : α) : l.drop k = l.getD k d :: l.drop (k + 1) := by
  rw [List.drop_eq_getElem_cons h]; simp [List.getD_eq_getElem?_getD, h]
theorem get_mem {α : Type} {l : List α} {k : Nat} (h : k < l.length) (d : α) : l.getD k d ∈ l := by
  have : l.getD k d = l[k] := by simp [List.getD_eq_getElem?_getD, h]
  rw [this]; exact List.getElem_mem h
theorem get_none {α : Type} {l : List α} {k : Nat} {d : α} (h : l.length ≤ k) : l.getD k d = d := by
  rw [List.getD_eq_getElem?_getD, List.getElem?_eq_none h]; rfl
section
variable {α : Type} {M b : List α} {k : Nat} {d : α}
theorem cut_len (hl : M.length = b.length) (hk : k ≤ b.length) : (M.take k ++ b.drop k).length = b.length := by
  rw [List.length_append, List.length_take, List.length_drop]; omega
theorem cut_get (hl : M.length = b.length) (hk : k < b.length) : (M.take k ++ b.drop k).getD k d = b.getD k d := by
  have : (M.take k).length = k := by rw [List.length_take]; omega
  simp only [List.getD_eq_getElem?_getD]
  rw [List.getElem?_append_right (by omega), this, Nat.sub_self, List.getElem?_drop, Nat.add_zero]
theorem take_succ_get (hk : k < M.length) (d : α) : M.take (k + 1) = M.take k ++ [M.getD k d] := by
  rw [List.take_succ_eq_append_getElem hk, List.getD_eq_getElem?_getD, List.getElem?_eq_getElem hk]; rfl
theorem cut_set (hl : M.length = b.length) (hk : k < b.length) {v : α} (hv : M.getD k d = v) : (M.take k ++ b.drop k).set k v = M.take (k + 1) ++ b.drop (k + 1) := by
  have h1 : (M.take k).length = k := by rw [List.length_take]; omega
  have hk' : k < M.length := by omega
  rw [List.set_append_right _ _ (by omega), h1, Nat.sub_self, List.drop_eq_getElem_cons hk, List.set_cons_zero, take_succ_get hk' d, hv, List.append_assoc]; rfl
theorem cut_all (hl : M.length = b.length) : M.take b.length ++ b.drop b.length = M := by
  rw [List.drop_length, List.append_nil, ← hl, List.take_length]
end
theorem fn_mono {P : Program} {E : Ctx0} {g : Nat} {sp sp' : En.Spec} (h : FnOk P E g sp) (hm : ∀ ds os lf, (sp'.F ds os).pick = some lf → (sp.F ds os).pick = some lf) : FnOk P E g sp' :=
  fun w M γ ds os vs hR lf hp => h w M γ ds os vs hR lf (hm ds os lf hp)
theorem both_eq {ρ : Type} (x : Option ρ) : both x x = x := by unfold both; rw [if_pos rfl]
end Go.En
end
section
/-
  The engine, part NO: slices.Grow of nil.
-/
namespace Go.En
open Go
/-- what comes of it -/
def GrowPost (e : TypeId) (w : World) (v : Value) (w' : World) : Prop :=
  (v = .slice none 0 0 ∧ w' = w) ∨
  ∃ (c : Nat) (zs : Array Value), v = .slice (some ⟨w.heap.size, 0, none⟩) 0 c ∧ c ≤ maxLen ∧ zs.size = c ∧ w' = w.drew.alloc (.cells zs e)
def growS (e : TypeId) : Spec := ⟨[0], fun ds os => match ds, os with
  | [.p (.one .nl), .p (.one (.d (.fz true) (.i .i64) n))], [] => .br (decide (0 ≤ n) && decide (n ≤ 1099511627776)) (.leaf [.one (.rw ⟨1, 0⟩)] [] [.ro true 0 e (.i .i64) .z [] none]) .fail
  | _, _ => .fail⟩
theorem grow_fn {P : Program} {E : Ctx0} {g : FuncId} {e : TypeId}
    (hg : ∀ (n : Int) (w : World), 0 ≤ n → n ≤ 1099511627776 → CallsF P g #[.slice none 0 0, .int .i64 n] w (GrowPost e w)) : FnOk P E g (growS e) := by
  intro w M γ ds os vs hr lf hp
  unfold growS at hp
  simp only at hp
  split at hp
  · rename_i n
    simp only [Out.pick] at hp
    cases hc : (decide ((0 : Int) ≤ n) && decide (n ≤ (1099511627776 : Int))) with
    | false => rw [hc] at hp; cases hp
    | true =>
      rw [hc] at hp
      simp only [cond_true, Option.some.injEq] at hp
      subst hp
      rw [Bool.and_eq_true, decide_eq_true_eq, decide_eq_true_eq] at hc
      have hsz : vs.size = 2 := hr.n
      obtain ⟨x, y, rfl⟩ : ∃ x y, vs = #[x, y] := by
        match vs, hsz with
        | ⟨[x, y]⟩, _ => exact ⟨x, y, rfl⟩
      have h0 : [x] = [Value.slice none 0 0] := hr.sl 0
      have h1 : Ro E w (K0 M true) (.i .i64) n [y] := hr.sl 1
      have e1 := Ro.inv_i h1
      simp only [List.cons.injEq, and_true] at e1 h0
      subst h0
      subst e1
      have hno : (sgOf [.p (.one .nl), .p (.one (.d (.fz true) (.i .i64) n))] [] []).o ⟨1, 0⟩ = .no := rfl
      have hfp : γ.fp ⟨1, 0⟩ = [] := by
        have := hr.ob ⟨1, 0⟩
        rw [hno] at this; exact this
      have fin : ∀ (v : Value) (w' : World) (F : List Nat), (∀ b, b < w.heap.size → w'.heap[b]? = w.heap[b]?) → w.heap.size ≤ w'.heap.size → w'.os = w.os → w'.tape = w.tape → w'.output = w.output →
          (∀ b, b ∈ F → w.heap.size ≤ b ∧ b < w'.heap.size) → F.Nodup → Row w' e 1 0 v F (fun i cs G => Tv E w' (K0 M true) (.i .i64) .z (([] : List (Val (.i .i64))).getD i (Sh.zero (.i .i64))) cs G) →
          ∃ K' γ', Rel E w M K' γ' (sgOf [resD [.one (.rw ⟨1, 0⟩)]] [] [.ro true 0 e (.i .i64) .z [] none]) #[v] w' := by
        intro v w' F hh hs ho ht hout hF hnd hrow
        have hrel := hr.upd ⟨1, 0⟩ (ob := .ro true 0 e (.i .i64) .z [] none) (hd := v) (F := F) (w' := w') (fun b hb _ _ => hh b hb) hs ho ht hout
          (fun b hb => ⟨.inr (hr.free_new (hF b hb).1), (hF b hb).2⟩) hnd (.inl hno) ⟨hrow, fun c hc => by cases hc⟩
        have he : ((sgOf [.p (.one .nl), .p (.one (.d (.fz true) (.i .i64) n))] [] []).setO ⟨1, 0⟩ (.ro true 0 e (.i .i64) .z [] none)).o = (sgOf [resD [.one (.rw ⟨1, 0⟩)]] [] [.ro true 0 e (.i .i64) .z [] none]).o := by
          funext x
          by_cases hx : x = ⟨1, 0⟩
          · subst hx; rfl
          · show (if x = ⟨1, 0⟩ then _ else _) = _
            rw [if_neg hx]
            obtain ⟨t, j⟩ := x
            match t, j with
            | 0, 0 => rfl
            | 0, _ + 1 => rfl
            | 1, 0 => exact absurd rfl hx
            | 1, _ + 1 => rfl
            | _ + 2, _ => rfl
        refine ⟨K0 M, γ.set ⟨1, 0⟩ v F, ?_⟩
        refine { n := rfl, sl := fun t => ?_, ob := ?_, dj := hrel.dj, nd := hrel.nd, ow := hrel.ow, kb := hrel.kb, kk := hrel.kk, k1 := hrel.k1, k0 := hrel.k0, sz := hrel.sz, fr := hrel.fr, os := hrel.os, tape := hrel.tape, output := hrel.output, g0 := hrel.g0, h0 := ?_ }
        · cases t with
          | zero =>
            refine ⟨_, rfl, ⟨(fun h => by cases h), ?_⟩, (fun _ => (show v = (if (⟨1, 0⟩ : Id) = ⟨1, 0⟩ then v else γ.hd ⟨1, 0⟩) from by rw [if_pos rfl]))⟩
            rcases hrow with ⟨h1, _⟩ | ⟨_, _, _, _, _, h1, _⟩ <;> (show v.oneCell' = true; rw [h1]; rfl)
          | succ t => rfl
        · rw [← he]; exact hrel.ob
        · rw [← he]; exact hrel.h0
      refine (hg n w hc.1 hc.2).mono fun v w' hpost => ?_
      rcases hpost with ⟨rfl, rfl⟩ | ⟨c, zs, rfl, hm, hz, rfl⟩
      · exact fin _ _ [] (fun _ _ => rfl) (Nat.le_refl _) rfl rfl rfl (fun b hb => by cases hb) List.nodup_nil (.inl ⟨rfl, rfl, rfl⟩)
      · refine fin _ _ [w.heap.size] (fun b hb => (heap_alloc_old w.drew _ b hb)) ?_ rfl rfl rfl (fun b hb => ?_) (List.nodup_cons.2 ⟨(fun h => by cases h), List.nodup_nil⟩) ?_
        · simp
        · rw [List.mem_singleton] at hb
          subst hb
          exact ⟨Nat.le_refl _, by simp⟩
        · exact .inr ⟨w.heap.size, c, zs, fun _ => [], fun _ => [], rfl, heap_alloc_new w.drew _, ⟨Nat.zero_le _, hm⟩, by rw [hz, Nat.mul_one], rfl, fun i hi => absurd hi (Nat.not_lt_zero _)⟩
  · cases hp
end Go.En
end
