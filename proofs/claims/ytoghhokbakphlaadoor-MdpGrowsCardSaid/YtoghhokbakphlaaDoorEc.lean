/-
  The engine, part Ec: an interpreter of the loaded code over typed values, and its soundness.
-/
import Derived.Test.YtoghhokbakphlaaDoorEb
import Derived.LoopN
section
/-
  The engine, part W: elements that were laid open are put back.
-/
namespace Go.En
open Go

section
variable {E : Ctx0} {w0 w w' : World} {M : Ml} {K : Bool → Nat → Prop} {γ : Gh} {σ : Sg} {tm : Array Value} {P : Program} {sd : Nat → D} {so : Id → Ob}

theorem run_leaf {α : Type} {S : St} {x : Rd α} {b : α} (h : x.run S = .leaf b) : x.ok S.d S.o (fun r => r = b) := by
  induction x with
  | ret c => simp only [Rd.run, Tr.leaf.injEq] at h; exact h
  | fail => cases h
  | s t k ih => exact ih _ h
  | o x k ih => exact ih _ h
  | br c a b iha ihb => cases h
  | any k ih => cases h
theorem sure_ok {α : Type} {S : St} {x : Rd α} {b : α} (h : (x.run S).sure = some b) : x.ok S.d S.o (fun r => r = b) := by
  induction x with
  | ret c => simp only [Rd.run, Tr.sure, Option.some.injEq] at h; exact h
  | fail => cases h
  | s t k ih => exact ih _ h
  | o x k ih => exact ih _ h
  | br c a b iha ihb =>
    simp only [Rd.run, Tr.sure] at h
    cases c
    · exact ihb h
    · exact iha h
  | any k ih => cases h
theorem both_some {ρ : Type} {x y : Option ρ} {r : ρ} (h : both x y = some r) : x = some r ∧ y = some r := by
  unfold both at h
  split at h
  · rename_i e; exact ⟨h, e ▸ h⟩
  · cases h
theorem walk_ok {α ρ : Type} {S : St} {x : Rd α} {Kf : α → Option ρ} {r : ρ} (h : (x.run S).walk Kf = some r) : x.ok S.d S.o (fun b => Kf b = some r) := by
  induction x with
  | ret c => exact h
  | fail => cases h
  | s t k ih => exact ih _ h
  | o x k ih => exact ih _ h
  | br c a b iha ihb =>
    simp only [Rd.run, Tr.walk] at h
    cases c
    · exact ihb h
    · exact iha h
  | any k ih =>
    simp only [Rd.run, Tr.walk] at h
    obtain ⟨h1, h2⟩ := both_some h
    exact ⟨ih _ h1, ih _ h2⟩

/-- the relation, at some knowledge -/
def RelE (E : Ctx0) (w0 : World) (M : Ml) (σ : Sg) (tm : Array Value) (w : World) : Prop := ∃ K γ, Rel E w0 M K γ σ tm w

theorem shut1_ok {X : Sh1} (h : RelE E w0 M X.S.sg tm w) (x : Id) : RelE E w0 M (shut1 X x).S.sg tm w := by
  unfold shut1
  split
  · rename_i f ver e sh ow v c ho
    split
    · rename_i p hp
      cases hc : (p.ls.isEmpty && okW ((x, .gone) :: p.ws)) with
      | false => exact h
      | true =>
        obtain ⟨K, γ, h⟩ := h
        simp only [cond_true]
        rw [Bool.and_eq_true] at hc
        obtain ⟨he, hok⟩ := hc
        have ho' : X.S.sg.o x = .ro f ver e sh ow v (some c) := ho
        have hci := h.fci ho' c rfl
        obtain ⟨b, cc, cur, css, Fs, hra⟩ := h.rowAt ho' (by omega)
        obtain ⟨hel, hcl, _⟩ := hra.el c.i hci
        unfold ElR at hel
        simp only [if_true] at hel
        obtain ⟨p', rfl, hws, c1, c2, hcs, htv, hl2⟩ := ok_pkO h hel.1 (sure_ok hp)
        have he' : p'.ls = [] := by simpa using he
        rw [he'] at hl2
        rw [show c2 = [] from hl2, List.append_nil] at hcs
        have hok' : okW p'.ws = true := by simp only [okW, Bool.and_eq_true] at hok; exact hok.2
        have hne : ∀ q, q ∈ p'.ws → q.1 ≠ x := fun q hq e1 => by have := (okW_same hok hq e1).1; cases this
        obtain ⟨_, m2⟩ := KZ_mono h [] p'.ws f p'.f
        obtain ⟨_, _, _, _, q3⟩ := h.rowSet ho' hra (i := c.i) (j := 0) hci (vs := []) (by simp) (f' := f && p'.f) (v' := v.set c.i p'.v) (fc' := none) (by simp) (fun e => by simp at e; exact e.1)
          (fun k hk => by rw [List.getD_eq_getElem?_getD, List.getElem?_set_ne (fun e => hk e.symm), ← List.getD_eq_getElem?_getD])
          (fun k hk => by unfold fcAt; simp only; rw [if_neg (fun e => hk e.symm)]) (fun c hc => by cases hc) hok' hws hne (G1 := []) (D := []) (G2 := []) (by simpa using hel.2) (by
            unfold ElR
            simp only
            rw [updL_nil, hcs, List.nil_append, List.append_nil]
            have hv : (v.set c.i p'.v).getD c.i sh.zero = p'.v := by rw [List.getD_eq_getElem?_getD, List.getElem?_set_self hci]; rfl
            rw [hv]
            exact htv.mono m2 (fun _ _ => rfl) (fun _ _ => rfl))
        rw [updL_nil, Array.toArray_toList, setRow_self w b cur e (0, 0) hra.heap] at q3
        rw [← St.sg_setW, ← St.sg_setO] at q3
        exact ⟨_, _, q3⟩
    · exact h
  · exact h
theorem shutN_ok : ∀ (n : Nat) (xs : List Id) {X : Sh1}, RelE E w0 M X.S.sg tm w → RelE E w0 M (shutN n xs X).S.sg tm w
  | 0, [], X, h => h
  | 0, _ :: _, X, h => h
  | n + 1, [], X, h => h
  | n + 1, x :: xs, X, h => by
    simp only [shutN]
    refine shutN_ok n xs ?_
    split
    · exact shut1_ok (shutN_ok n _ h) x
    · exact shutN_ok n _ h
    · exact h
theorem pre_ok (C : Ctx) (o : Oper) {S : St} (h : RelE E w0 M S.sg tm w) : RelE E w0 M (pre C o S).S.sg tm w := by
  unfold pre
  split
  · cases opens C.toCtx0 o.dst
    · exact h
    · exact shutN_ok 8 _ h
  · split
    · exact shutN_ok 8 _ h
    · exact shutN_ok 8 _ h
    · exact h
  · exact h
/-- what isn't named is as it was -/
def Only (S S' : St) (ids : List Id) : Prop := S'.env = S.env ∧ ∀ y, ¬ y ∈ ids → S'.o y = S.o y
theorem setW_oN : ∀ (ws : Wo) (S : St) (y : Id), ¬ y ∈ ws.map (·.1) → (S.setW ws).o y = S.o y
  | [], _, _, _ => rfl
  | (k, ob) :: ws, S, y, h => by
    simp only [List.map_cons, List.mem_cons, not_or] at h
    rw [St.setW, setW_oN ws _ y h.2, St.o_setO, if_neg h.1]
theorem setW_env : ∀ (ws : Wo) (S : St), (S.setW ws).env = S.env
  | [], _ => rfl
  | (k, ob) :: ws, S => by rw [St.setW, setW_env ws]; rfl
theorem shut1_only {S0 : St} {X : Sh1} (h : Only S0 X.S X.ids) (x : Id) : Only S0 (shut1 X x).S (shut1 X x).ids := by
  unfold shut1
  split
  · split
    · rename_i p _
      cases hc : (p.ls.isEmpty && okW ((x, .gone) :: p.ws)) with
      | false => exact h
      | true =>
        simp only [cond_true]
        refine ⟨?_, fun y hy => ?_⟩
        · show (X.S.setW p.ws).env = _
          rw [setW_env]; exact h.1
        · simp only [List.mem_cons, List.mem_append, not_or] at hy
          rw [St.o_setO, if_neg hy.1, setW_oN _ _ _ hy.2.1]
          exact h.2 y hy.2.2
    · exact h
  · exact h
theorem shutN_only {S0 : St} : ∀ (n : Nat) (xs : List Id) {X : Sh1}, Only S0 X.S X.ids → Only S0 (shutN n xs X).S (shutN n xs X).ids
  | 0, [], X, h => h
  | 0, _ :: _, X, h => h
  | n + 1, [], X, h => h
  | n + 1, x :: xs, X, h => by
    simp only [shutN]
    refine shutN_only n xs ?_
    split
    · exact shut1_only (shutN_only n _ h) x
    · exact shutN_only n _ h
    · exact h
theorem pre_only (C : Ctx) (o : Oper) (S : St) : Only S (pre C o S).S (pre C o S).ids := by
  have h0 : Only S (⟨S, []⟩ : Sh1).S (⟨S, []⟩ : Sh1).ids := ⟨rfl, fun _ _ => rfl⟩
  unfold pre
  split
  · cases opens C.toCtx0 o.dst
    · exact h0
    · exact shutN_only 8 _ h0
  · split
    · exact shutN_only 8 _ h0
    · exact shutN_only 8 _ h0
    · exact h0
  · exact h0
end
end Go.En
end
section
/-
  The engine, part X: operations and calls in the machine; a region in its order.
-/
namespace Go.En
open Go

/-- A call of a function that comes to a value. -/
def CallsF (P : Program) (g : FuncId) (vs : Array Value) (w : World) (R : Value → World → Prop) : Prop :=
  match (callFunc g vs).run P w with
  | .ok (.enter f as) w1 => Calls P f as w1 fun e w2 => match e with
    | .returned v => R v w2
    | _ => False
  | .ok (.value v) w1 => R v w1
  | .ok (.row row as) w1 => Rows P row as w1 R
  | _ => False
theorem CallsF.mono {P : Program} {g : FuncId} {vs : Array Value} {w : World} {R R' : Value → World → Prop} (h : CallsF P g vs w R) (hr : ∀ v w', R v w' → R' v w') : CallsF P g vs w R' := by
  unfold CallsF at *
  split at h
  · exact Calls.mono h (fun e w' he => by cases e <;> first | exact hr _ _ he | exact he)
  · exact hr _ _ h
  · exact Rows.mono h hr
  · exact h.elim
/-- an operation that comes to a value -/
def Step (P : Program) (o : Oper) (a : Act) (w : World) (R : Value → World → Prop) : Prop :=
  ∀ (next : Act → World → Prop) (Q : Exit → Act → World → Prop), (∀ v w', R v w' → next (a.put o.dst v) w') → o.wp P a w next Q
theorem Step.of_runN {P : Program} {o : Oper} {a : Act} {w w' : World} {v : Value} {R : Value → World → Prop} (h : RunN P o a w v w') (hr : R v w') : Step P o a w R := by
  intro next Q hn
  unfold Oper.wp
  rcases h with h | ⟨h, rfl⟩
  · unfold RunV at h; rw [h]; exact hn _ _ hr
  · rw [h]; exact hn _ _ hr
theorem Step.of_calls {P : Program} {o : Oper} {a : Act} {w : World} {g : FuncId} {vs : Array Value} {R : Value → World → Prop} (h : (execOp a.eval o).run P w = (callFunc g vs).run P w) (hc : CallsF P g vs w R) : Step P o a w R := by
  intro next Q hn
  unfold Oper.wp
  rw [h]
  unfold CallsF at hc
  split at hc
  · rename_i f as w1 he
    rw [he]
    exact Calls.mono hc (fun e w' he => by cases e <;> first | exact hn _ _ he | exact he.elim)
  · rename_i v w1 he
    rw [he]; exact hn _ _ hc
  · rename_i row as w1 he
    rw [he]; exact Rows.mono hc hn
  · exact hc.elim

/-- calls do what their specs say -/
def CallsOk (C : Ctx) : Prop :=
  ∀ (w0 w : World) (M : Ml) (σ : Sg) (a : Act) (o : Oper) (c : Call) (f : Operand) (Q : Re → Prop), RelE C.toCtx0 w0 M σ a.tmps w → o.op = .call c → c.callee = .value f →
    (callF C o.dst f c.args.toList c.argTypes.toList).ok σ.d σ.o Q → Step C.P o a w fun v w' => ∃ r, Q r ∧ Pos C.toCtx0 w0 M σ a.tmps r v w'

section
variable {C : Ctx} {w0 w : World} {M : Ml} {σ : Sg} {a : Act} {S : St}

theorem evOp_sound (hC : CallsOk C) (h : RelE C.toCtx0 w0 M σ a.tmps w) {o : Oper} {Q : Re → Prop} (hp : (evOp C o).ok σ.d σ.o Q) : Step C.P o a w fun v w' => ∃ r, Q r ∧ Pos C.toCtx0 w0 M σ a.tmps r v w' := by
  have op : (opF C.toCtx0 o).ok σ.d σ.o Q → Step C.P o a w fun v w' => ∃ r, Q r ∧ Pos C.toCtx0 w0 M σ a.tmps r v w' := by
    intro hp
    obtain ⟨K, γ, h⟩ := h
    obtain ⟨y, w', h1, r, h2, h3⟩ := op_sound h o hp
    exact Step.of_runN h1 ⟨r, h2, h3⟩
  unfold evOp at hp
  split at hp
  · rename_i c ho
    split at hp
    · rename_i f hf
      exact hC _ _ _ _ _ _ c f _ h ho hf hp
    · exact op hp
  · exact op hp

/-- what is known of an act: its temporaries, and what else is said of it -/
structure Good (E : Ctx0) (w0 : World) (M : Ml) (Pr : Act → Prop) (S : St) (a : Act) (w : World) : Prop where
  rel : RelE E w0 M S.sg a.tmps w
  df : Pr a
/-- what a region's operations keep -/
def Kept (Pr : Act → Prop) (ops : Array Oper) : Prop := ∀ (i : Nat) (o : Oper), ops[i]? = some o → ∀ a v, Pr a → Pr (a.put o.dst v)

theorem Rel.leaf {E : Ctx0} {K : Bool → Nat → Prop} {γ : Gh} {tm : Array Value} (h : Rel E w0 M K γ σ tm w) {t : Nat} {l : L} (hl : slotLeaf (σ.d t) = l) : LR E w K σ.o γ l [tmv tm t] := by
  have := h.sl t
  subst hl
  unfold slotLeaf
  split
  · rename_i l hd; rw [hd] at this; exact this
  · rfl
theorem yielded_b {E : Ctx0} {tm : Array Value} (h : RelE E w0 M σ tm w) {ops : Array Oper} {j t : Nat} (hj : (ops[j]?).bind (·.dst) = some t) {c : Bool} (hl : slotLeaf (σ.d t) = .k c ∨ ∃ f, slotLeaf (σ.d t) = .d (.fz f) .b c) : tmv tm t = .bool c ∧ yielded ops tm j = some c := by
  obtain ⟨K, γ, h⟩ := h
  have hv : tmv tm t = .bool c := by
    rcases hl with hl | ⟨f, hl⟩
    · have := h.leaf hl; injection this
    · have := h.leaf hl
      have h1 : Ro E w (K f) .b c [tmv tm t] := this
      have := Ro.inv_b h1
      injection this
  refine ⟨hv, ?_⟩
  have ht : t < tm.size := by
    apply Classical.byContradiction
    intro hn
    have : tmv tm t = undef := by simp [tmv, Array.getD_eq_getD_getElem?, Array.getElem?_eq_none (Nat.le_of_not_lt hn)]
    rw [hv] at this; cases this
  unfold yielded
  rw [hj]
  simp only [Option.bind_some]
  rw [Array.getElem?_eq_getElem ht]
  have e2 : tmv tm t = tm[t] := by unfold tmv; rw [Array.getD_eq_getD_getElem?, Array.getElem?_eq_getElem ht]; rfl
  rw [← e2, hv]
theorem yielded_ud {E : Ctx0} {tm : Array Value} (h : RelE E w0 M σ tm w) {ops : Array Oper} {j t : Nat} (hj : (ops[j]?).bind (·.dst) = some t) (hl : slotLeaf (σ.d t) = .ud) : yielded ops tm j = none := by
  obtain ⟨K, γ, h⟩ := h
  have hv : tmv tm t = undef := by have := h.leaf hl; injection this
  unfold yielded
  rw [hj]
  simp only [Option.bind_some]
  by_cases ht : t < tm.size
  · rw [Array.getElem?_eq_getElem ht]
    have e2 : tmv tm t = tm[t] := by unfold tmv; rw [Array.getD_eq_getD_getElem?, Array.getElem?_eq_getElem ht]; rfl
    rw [← e2, hv]; rfl
  · rw [Array.getElem?_eq_none (by omega)]
theorem wanted_b {E : Ctx0} {tm : Array Value} (h : RelE E w0 M σ tm w) {ops : Array Oper} {o : Oper} {j t : Nat} {want : Bool} (hg : o.guard = some (j, want)) (hj : (ops[j]?).bind (·.dst) = some t) {c : Bool} (hl : slotLeaf (σ.d t) = .k c ∨ ∃ f, slotLeaf (σ.d t) = .d (.fz f) .b c) :
    Region.wanted o (yielded ops tm) = (want == c) := by
  unfold Region.wanted
  rw [hg]; simp only [(yielded_b h hj hl).2]
  cases c <;> cases want <;> rfl
theorem wanted_ud {E : Ctx0} {tm : Array Value} (h : RelE E w0 M σ tm w) {ops : Array Oper} {o : Oper} {j t : Nat} {want : Bool} (hg : o.guard = some (j, want)) (hj : (ops[j]?).bind (·.dst) = some t) (hl : slotLeaf (σ.d t) = .ud) :
    Region.wanted o (yielded ops tm) = false := by
  unfold Region.wanted
  rw [hg]; simp [yielded_ud h hj hl]

/-- a slot is told otherwise -/
theorem RelE.reslot {E : Ctx0} {tm : Array Value} (h : RelE E w0 M σ tm w) {t : Nat} {d : D} (hd : ∀ K γ, DR E w K σ.o γ d (tmv tm t)) : RelE E w0 M (σ.setD t d) tm w := by
  obtain ⟨K, γ, h⟩ := h
  have := h.setSlot t (hd K γ)
  have e : tm.setIfInBounds t (tmv tm t) = tm := by
    apply Array.ext
    · simp
    · intro i h1 h2
      rw [Array.getElem_setIfInBounds (by simpa using h1)]
      split
      · rename_i e; subst e
        unfold tmv; rw [Array.getD_eq_getD_getElem?, Array.getElem?_eq_getElem h2]; rfl
      · rfl
  rw [e] at this
  exact ⟨K, γ, this⟩

theorem walk_bind {α β ρ : Type} {K : β → Option ρ} {f : α → Tr β} : ∀ {x : Tr α}, (x.bind f).walk K = x.walk fun a => (f a).walk K := by
  intro x
  induction x with
  | leaf a => rfl
  | fail => rfl
  | br c a b iha ihb => simp only [Tr.bind, Tr.walk, iha, ihb]
  | any a b iha ihb => simp only [Tr.bind, Tr.walk, iha, ihb]

/-- what a region leaves as it was -/
structure Fr (ops : Array Oper) (S S' : St) (ids : List Id) : Prop where
  len : S'.env.length = S.env.length
  d : ∀ t, ¬ t ∈ dstsOf ops → S'.d t = S.d t
  o : ∀ y, ¬ y ∈ ids → S'.o y = S.o y
theorem Fr.refl {ops : Array Oper} : Fr ops S S [] := ⟨rfl, fun _ _ => rfl, fun _ _ => rfl⟩
theorem mem_dsts {ops : Array Oper} {i : Nat} {o : Oper} (hi : ops[i]? = some o) {t : Nat} (ht : o.dst = some t) : t ∈ dstsOf ops := by
  unfold dstsOf
  rw [List.mem_filterMap]
  exact ⟨o, by rw [Array.mem_toList_iff]; exact Array.mem_of_getElem? hi, ht⟩
theorem mem_dsts' {ops : Array Oper} {j t : Nat} (hj : (ops[j]?).bind (·.dst) = some t) : t ∈ dstsOf ops := by
  cases ho : ops[j]? with
  | none => rw [ho] at hj; cases hj
  | some o => rw [ho] at hj; exact mem_dsts ho hj
theorem St.d_setD (S : St) (t : Nat) (d : D) (s : Nat) (h : s ≠ t) : (S.setD t d).d s = S.d s := by
  simp only [St.d, St.setD, List.getD_eq_getElem?_getD, List.getElem?_set_ne (fun e => h e.symm)]
theorem St.d_env {S S' : St} (h : S'.env = S.env) (t : Nat) : S'.d t = S.d t := by simp only [St.d, h]
theorem Fr.setD {ops : Array Oper} {S0 : St} {ids : List Id} (h : Fr ops S0 S ids) {t : Nat} (ht : t ∈ dstsOf ops) (d : D) : Fr ops S0 (S.setD t d) ids :=
  ⟨by show (S.env.set t d).length = _; rw [List.length_set]; exact h.len, fun s hs => by
    have hne : s ≠ t := fun e => by subst e; exact hs ht
    rw [St.d_setD _ _ _ _ hne]; exact h.d s hs, h.o⟩
theorem Fr.put {ops : Array Oper} {S0 : St} {ids : List Id} (h : Fr ops S0 S ids) {i : Nat} {o : Oper} (hi : ops[i]? = some o) (r : Re) {ids' : List Id} (hsub : ∀ y, y ∈ ids → y ∈ ids') (hw : ∀ y, y ∈ r.2.map (·.1) → y ∈ ids') : Fr ops S0 (S.put o.dst r) ids' := by
  have h1 : Fr ops S0 (S.setW r.2) ids' := ⟨by rw [setW_env]; exact h.len, fun t ht => by rw [St.d_env (setW_env _ _)]; exact h.d t ht, fun y hy => by
    rw [setW_oN _ _ _ (fun hm => hy (hw y hm))]; exact h.o y (fun hm => hy (hsub y hm))⟩
  unfold St.put
  cases hd : o.dst with
  | none => exact h1
  | some t => exact h1.setD (mem_dsts hi hd) _

theorem guardT_sound {E : Ctx0} {Pr : Act → Prop} {ops : Array Oper} {o : Oper} {exec skip : St → Tr Lg} {ρ : Type} {Kont : Lg → Option ρ} {r : ρ} {S0 : St} {ids : List Id} (hg : Good E w0 M Pr S a w) (hf : Fr ops S0 S ids) (he : (guardT ops o S exec skip).walk Kont = some r) :
    ∃ S1, Good E w0 M Pr S1 a w ∧ Fr ops S0 S1 ids ∧ ((Region.wanted o (yielded ops a.tmps) = true ∧ (exec S1).walk Kont = some r) ∨ (Region.wanted o (yielded ops a.tmps) = false ∧ (skip S1).walk Kont = some r)) := by
  unfold guardT at he
  split at he
  · rename_i hgd
    exact ⟨S, hg, hf, .inl ⟨by unfold Region.wanted; rw [hgd], he⟩⟩
  · rename_i j want hgd
    split at he
    · cases he
    · rename_i t ht
      have go : ∀ c : Bool, (slotLeaf (S.d t) = .k c ∨ ∃ f, slotLeaf (S.d t) = .d (.fz f) .b c) → (bif (want == c) then (exec (S.setD t (one (.k c)))).walk Kont else (skip (S.setD t (one (.k c)))).walk Kont) = some r →
          ∃ S1, Good E w0 M Pr S1 a w ∧ Fr ops S0 S1 ids ∧ ((Region.wanted o (yielded ops a.tmps) = true ∧ (exec S1).walk Kont = some r) ∨ (Region.wanted o (yielded ops a.tmps) = false ∧ (skip S1).walk Kont = some r)) := by
        intro c hl he
        have hv := (yielded_b hg.rel (σ := S.sg) ht hl).1
        refine ⟨S.setD t (one (.k c)), ⟨?_, hg.df⟩, hf.setD (mem_dsts' ht) _, ?_⟩
        · rw [St.sg_setD]
          exact hg.rel.reslot (fun K γ => by show [tmv a.tmps t] = _; rw [hv])
        · rw [wanted_b hg.rel (σ := S.sg) hgd ht hl]
          cases hc : (want == c) with
          | true => rw [hc] at he; exact .inl ⟨rfl, he⟩
          | false => rw [hc] at he; exact .inr ⟨rfl, he⟩
      have go' : ∀ c : Bool, slotLeaf (S.d t) = .k c → (bif (want == c) then (exec S).walk Kont else (skip S).walk Kont) = some r →
          ∃ S1, Good E w0 M Pr S1 a w ∧ Fr ops S0 S1 ids ∧ ((Region.wanted o (yielded ops a.tmps) = true ∧ (exec S1).walk Kont = some r) ∨ (Region.wanted o (yielded ops a.tmps) = false ∧ (skip S1).walk Kont = some r)) := by
        intro c hl he
        refine ⟨S, hg, hf, ?_⟩
        rw [wanted_b hg.rel (σ := S.sg) hgd ht (.inl hl)]
        cases hc : (want == c) with
        | true => rw [hc] at he; exact .inl ⟨rfl, he⟩
        | false => rw [hc] at he; exact .inr ⟨rfl, he⟩
      split at he
      · rename_i f c hl
        simp only [Tr.walk] at he
        cases c with
        | true => refine go true (.inr ⟨f, hl⟩) ?_; cases want <;> exact he
        | false => refine go false (.inr ⟨f, hl⟩) ?_; cases want <;> exact he
      · rename_i c hl
        cases c with
        | true => refine go' true hl ?_; cases want <;> exact he
        | false => refine go' false hl ?_; cases want <;> exact he
      · rename_i hl
        exact ⟨S, hg, hf, .inr ⟨wanted_ud hg.rel (σ := S.sg) hgd ht hl, he⟩⟩
      · cases he

/-- a region in its order -/
theorem evOps_sound (hC : CallsOk C) {Pr : Act → Prop} {ops : Array Oper} (hPr : Kept Pr ops) {ρ : Type} {Q : Exit → Act → World → Prop} {S0 : St} : ∀ (is : List Nat) {S : St} {ids : List Id} {a : Act} {w : World} {Kont : Lg → Option ρ} {r : ρ}, Good C.toCtx0 w0 M Pr S a w → Fr ops S0 S ids →
    (evOps C ops is S ids).walk Kont = some r → (∀ x a' w', Good C.toCtx0 w0 M Pr x.S a' w' → Fr ops S0 x.S x.ids → Kont x = some r → Q .normal a' w') → wpOps C.P ops Q is a w
  | [], S, ids, a, w, Kont, r, h, hf, he, hQ => hQ ⟨S, ids⟩ a w h hf he
  | i :: rest, S, ids, a, w, Kont, r, h, hf, he, hQ => by
    simp only [evOps] at he
    unfold wpOps
    split at he
    · cases he
    · rename_i o ho
      rw [ho]
      simp only
      obtain ⟨S1, hg1, hf1, ⟨hw, he⟩ | ⟨hw, he⟩⟩ := guardT_sound h hf he
      · rw [hw]
        simp only [if_true]
        rw [walk_bind] at he
        have hp := walk_ok he
        refine .inl (evOp_sound hC (pre_ok C o hg1.rel) hp _ _ (fun v w' hv => ?_))
        obtain ⟨re, h1, h2⟩ := hv
        obtain ⟨K, γ, h3⟩ := h2.put a rfl o.dst
        refine evOps_sound hC hPr rest (S := (pre C o S1).S.put o.dst re) ⟨⟨K, γ, ?_⟩, hPr i o ho _ _ hg1.df⟩ ?_ h1 hQ
        · rw [St.sg_put]; exact h3
        · have hpo := pre_only C o S1
          have hfp : Fr ops S0 (pre C o S1).S (ids ++ (pre C o S1).ids) := ⟨by rw [hpo.1]; exact hf1.len, fun t ht => by rw [St.d_env hpo.1]; exact hf1.d t ht, fun y hy => by
            simp only [List.mem_append, not_or] at hy
            rw [hpo.2 y hy.2]; exact hf1.o y hy.1⟩
          refine hfp.put ho re (fun y hy => ?_) (fun y hy => ?_)
          · simp only [List.mem_append] at hy ⊢
            rcases hy with hy | hy
            · exact .inl hy
            · exact .inr (.inl hy)
          · simp only [List.mem_append]; exact .inr (.inr hy)
      · rw [hw]
        simp only [Bool.false_eq_true, if_false]
        refine evOps_sound hC hPr rest (S := skipS o S1) ⟨?_, hPr i o ho _ _ hg1.df⟩ ?_ he hQ
        · obtain ⟨K, γ, hr⟩ := hg1.rel
          unfold skipS
          cases hd : o.dst with
          | none => exact ⟨K, γ, hr⟩
          | some t =>
            refine ⟨K, γ, ?_⟩
            simp only
            rw [St.sg_setD]
            exact hr.setSlot t (v := undef) (d := one .ud) rfl
        · unfold skipS
          cases hd : o.dst with
          | none => exact hf1
          | some t => exact hf1.setD (mem_dsts ho hd) _
end
end Go.En
end
section
/-
  The engine, part Y: ways that come together again.
-/
namespace Go.En
open Go

section
variable {E : Ctx0} {w0 w : World} {M : Ml} {K : Bool → Nat → Prop} {γ : Gh} {σ : Sg} {tm : Array Value} {S : St}

/-! ### less is known -/
def WkL (a b : L) : Prop := ∀ (E : Ctx0) (w : World) (K : Bool → Nat → Prop) (so : Id → Ob) (γ : Gh) (cs : List Value), LR E w K so γ a cs → LR E w K so γ b cs
def WkLs (a b : List L) : Prop := ∀ (E : Ctx0) (w : World) (K : Bool → Nat → Prop) (so : Id → Ob) (γ : Gh) (cs : List Value), LRs E w K so γ a cs → LRs E w K so γ b cs
def WkD (a b : D) : Prop := ∀ (E : Ctx0) (w : World) (K : Bool → Nat → Prop) (so : Id → Ob) (γ : Gh) (x : Value), DR E w K so γ a x → DR E w K so γ b x
def WkP (a b : Pt) : Prop := ∀ (E : Ctx0) (w : World) (K : Bool → Nat → Prop) (so : Id → Ob) (γ : Gh) (x : Value), PtR E w K so γ a x → PtR E w K so γ b x
def WkPs (a b : List Pt) : Prop := ∀ (E : Ctx0) (w : World) (K : Bool → Nat → Prop) (so : Id → Ob) (γ : Gh) (x : List Value), PtsR E w K so γ a x → PtsR E w K so γ b x
theorem WkD.refl (a : D) : WkD a a := fun _ _ _ _ _ _ h => h
theorem WkD.trans {a b c : D} (h : WkD a b) (h' : WkD b c) : WkD a c := fun E w K so γ x hx => h' E w K so γ x (h E w K so γ x hx)

theorem mergeL_ok (c : Bool) (a b : L) : WkL (bif c then a else b) (mergeL c a b) := by
  intro E w K so γ cs h
  unfold mergeL
  split
  · rename_i f sh v g sh' v'
    split
    · rename_i u hu
      cases c with
      | true =>
        have e : mergeF true f g = f := by cases f <;> cases g <;> rfl
        rw [e]; exact h
      | false =>
        have e : mergeF false f g = g := by cases f <;> cases g <;> rfl
        rw [e]
        exact castV_ro hu h
    · exact h
  · rename_i u v
    cases c with
    | true => rw [show cs = [.bool u] from h]; exact Ro.b
    | false => rw [show cs = [.bool v] from h]; exact Ro.b
  · rename_i u v
    cases c with
    | true => rw [show cs = [.bool u] from h]; exact Ro.b
    | false => exact h
  · rename_i u v
    cases c with
    | true => exact h
    | false => rw [show cs = [.bool v] from h]; exact Ro.b
  · cases c <;> exact h
  · cases c <;> exact h
  · cases c <;> exact h
  · cases c <;> exact h
  · rename_i o o'
    cases he : o.eqb o' with
    | true =>
      simp only [cond_true]
      obtain rfl := Id.eqb_iff.1 he
      cases c <;> exact h
    | false => exact h
  · rename_i o j o' j'
    cases he : (o.eqb o' && j.beq j') with
    | true =>
      simp only [cond_true]
      rw [Bool.and_eq_true] at he
      obtain rfl := Id.eqb_iff.1 he.1
      obtain rfl := Nat.eq_of_beq_eq_true he.2
      cases c <;> exact h
    | false => exact h
  · rename_i o o'
    cases he : o.eqb o' with
    | true =>
      simp only [cond_true]
      obtain rfl := Id.eqb_iff.1 he
      cases c <;> exact h
    | false => exact h
  · exact h
theorem mergeLs_ok (c : Bool) : ∀ {a b r : List L}, mergeLs c a b = some r → WkLs (bif c then a else b) r
  | [], [], r, h => by simp only [mergeLs, Option.some.injEq] at h; subst h; intro E w K so γ cs hc; cases c <;> exact hc
  | x :: a, y :: b, r, h => by
    simp only [mergeLs] at h
    split at h
    · rename_i r' hr
      simp only [Option.some.injEq] at h; subst h
      intro E w K so γ cs hc
      have h1 := mergeL_ok c x y
      have h2 := mergeLs_ok c hr
      cases c with
      | true =>
        obtain ⟨c1, c2, e, g1, g2⟩ := hc
        exact ⟨c1, c2, e, h1 _ _ _ _ _ _ g1, h2 _ _ _ _ _ _ g2⟩
      | false =>
        obtain ⟨c1, c2, e, g1, g2⟩ := hc
        exact ⟨c1, c2, e, h1 _ _ _ _ _ _ g1, h2 _ _ _ _ _ _ g2⟩
    · cases h
  | [], _ :: _, _, h => by cases h
  | _ :: _, [], _, h => by cases h
theorem mergePt_ok (c : Bool) (a b : Pt) : WkP (bif c then a else b) (mergePt c a b) := by
  intro E w K so γ x h
  unfold mergePt
  split
  · rename_i l l'
    have h1 := mergeL_ok c l l'
    cases c <;> exact h1 _ _ _ _ _ _ h
  · rename_i ls ls'
    split
    · rename_i r hr
      have h1 := mergeLs_ok c hr
      cases c with
      | true => obtain ⟨cs, e, g⟩ := h; exact ⟨cs, e, h1 _ _ _ _ _ _ g⟩
      | false => obtain ⟨cs, e, g⟩ := h; exact ⟨cs, e, h1 _ _ _ _ _ _ g⟩
    · exact h
  · exact h
theorem mergePts_ok (c : Bool) : ∀ {a b r : List Pt}, mergePts c a b = some r → WkPs (bif c then a else b) r
  | [], [], r, h => by simp only [mergePts, Option.some.injEq] at h; subst h; intro E w K so γ cs hc; cases c <;> exact hc
  | x :: a, y :: b, r, h => by
    simp only [mergePts] at h
    split at h
    · rename_i r' hr
      simp only [Option.some.injEq] at h; subst h
      intro E w K so γ cs hc
      have h1 := mergePt_ok c x y
      have h2 := mergePts_ok c hr
      cases c with
      | true =>
        obtain ⟨c1, c2, e, g1, g2⟩ := hc
        exact ⟨c1, c2, e, h1 _ _ _ _ _ _ g1, h2 _ _ _ _ _ _ g2⟩
      | false =>
        obtain ⟨c1, c2, e, g1, g2⟩ := hc
        exact ⟨c1, c2, e, h1 _ _ _ _ _ _ g1, h2 _ _ _ _ _ _ g2⟩
    · cases h
  | [], _ :: _, _, h => by cases h
  | _ :: _, [], _, h => by cases h
theorem mergeD_ok (c : Bool) (a b : D) : WkD (bif c then a else b) (mergeD c a b) := by
  intro E w K so γ x h
  unfold mergeD
  split
  · rename_i p q
    have h1 := mergePt_ok c p q
    cases c <;> exact h1 _ _ _ _ _ _ h
  · rename_i as bs
    split
    · rename_i r hr
      have h1 := mergePts_ok c hr
      cases c with
      | true => obtain ⟨cs, e, g⟩ := h; exact ⟨cs, e, h1 _ _ _ _ _ _ g⟩
      | false => obtain ⟨cs, e, g⟩ := h; exact ⟨cs, e, h1 _ _ _ _ _ _ g⟩
    · exact h
  · exact h

/-- objects are forgotten, slots told otherwise -/
theorem Rel.weak (h : Rel E w0 M K γ σ tm w) {σ' : Sg} (hn : σ'.n = σ.n) (hd : ∀ t, WkD (σ.d t) (σ'.d t)) (ho : ∀ y, σ'.o y = σ.o y ∨ σ'.o y = .gone) : RelE E w0 M σ' tm w := by
  classical
  let γ' : Gh := ⟨γ.hd, fun y => if σ'.o y = σ.o y then γ.fp y else []⟩
  have hsub : ∀ o b, b ∈ γ'.fp o → b ∈ γ.fp o := by
    intro o b hb
    simp only [γ'] at hb
    split at hb
    · exact hb
    · cases hb
  have hfp : ∀ o, σ'.o o = σ.o o → γ'.fp o = γ.fp o := fun o e => by simp only [γ', if_pos e]
  have hgone : ∀ o, σ'.o o ≠ σ.o o → σ'.o o = .gone := fun o e => (ho o).resolve_left e
  have hx : Ext w w K K σ.o σ'.o γ γ' := by
    refine ⟨fun _ _ h => h, fun _ _ _ => rfl, ?_, ?_, ?_, ?_, ?_⟩
    · intro o hno
      by_cases e : σ'.o o = σ.o o
      · rw [e]; exact hno
      · rw [hgone o e]; simp
    · intro o q hno hr
      by_cases e : σ'.o o = σ.o o
      · rw [e] at hr; exact ⟨hr, rfl⟩
      · rw [hgone o e] at hr; cases hr
    · intro o hno hr
      by_cases e : σ'.o o = σ.o o
      · rw [e] at hr; exact ⟨hr, rfl⟩
      · rw [hgone o e] at hr; cases hr
    · intro o hno hr
      by_cases e : σ'.o o = σ.o o
      · rw [e] at hr; exact ⟨hr, rfl⟩
      · rw [hgone o e] at hr; cases hr
    · intro o v hno hr
      by_cases e : σ'.o o = σ.o o
      · rw [e] at hr
        exact ⟨v, hr, Nat.le_refl _, fun _ => ⟨by rw [e], fun b hb => ⟨.inl (by rw [hfp o e]; exact hb), rfl⟩⟩⟩
      · rw [hgone o e] at hr; cases hr
  have h1 := h.chg (K' := K) (γ' := γ') hx (fun o => by
      by_cases e : σ'.o o = σ.o o
      · exact .inl ⟨e, rfl, hfp o e, fun _ _ => rfl⟩
      · right
        rw [hgone o e]
        show γ'.fp o = []
        simp only [γ', if_neg e])
    (fun o o' b hb hb' => h.dj o o' b (hsub o b hb) (hsub o' b hb')) (fun o => by
      by_cases e : σ'.o o = σ.o o
      · rw [hfp o e]; exact h.nd o
      · simp only [γ', if_neg e]; exact List.nodup_nil)
    (fun o b hb => h.ow o b (hsub o b hb)) h.kb h.kk h.k1 h.k0 (Nat.le_refl _) (fun _ _ _ => rfl) rfl rfl rfl
  exact ⟨K, γ', { h1 with n := by rw [hn]; exact h1.n, sl := fun t => hd t _ _ _ _ _ _ (h1.sl t) }⟩

/-! ### one way of them -/
def Told (dsts : List Nat) (x : Lg) (m : Mg) : Prop :=
  m.ds.length = dsts.length ∧ (∀ (k t : Nat) (d : D), dsts[k]? = some t → m.ds[k]? = some d → WkD (x.S.d t) d) ∧ ∀ y, y ∈ x.ids → y.j < 4 ∧ (y.t ∈ dsts.map (· + 2))
def gOk (g : Option Bool) : Prop := g = none ∨ g = some true
theorem gOk.getD {g : Option Bool} : gOk g ↔ g.getD true = true := by
  unfold gOk
  cases g with
  | none => simp
  | some c => simp
theorem Told.merge {dsts : List Nat} {x : Lg} {a b : Mg} {c : Bool} {g : Option Bool} (hl : a.ds.length = dsts.length ∧ b.ds.length = dsts.length) (h : Told dsts x (bif c then a else b)) : Told dsts x ⟨g, a.ds.zipWith (mergeD c) b.ds⟩ := by
  obtain ⟨h1, h2, h3⟩ := h
  refine ⟨by simp [hl.1, hl.2], fun k t d hk hd => ?_, h3⟩
  rw [List.getElem?_zipWith] at hd
  cases ha : a.ds[k]? with
  | none => rw [ha] at hd; cases hd
  | some d1 =>
    cases hb : b.ds[k]? with
    | none => rw [ha, hb] at hd; cases hd
    | some d2 =>
      rw [ha, hb] at hd
      simp only [Option.some.injEq] at hd; subst hd
      have hm := mergeD_ok c d1 d2
      cases c with
      | true => exact (h2 k t d1 hk ha).trans hm
      | false => exact (h2 k t d2 hk hb).trans hm
theorem collapse_len {dsts : List Nat} : ∀ {t : Tr Lg} {m : Mg}, collapse dsts t = some (some m) → m.ds.length = dsts.length
  | .leaf x, m, h => by
    simp only [collapse] at h
    cases hc : (x.ids.all fun y => Nat.blt y.j 4 && dsts.any fun t => y.t.beq (t + 2)) with
    | true => rw [hc] at h; simp only [cond_true, Option.some.injEq] at h; subst h; simp
    | false => rw [hc] at h; cases h
  | .fail, m, h => by simp [collapse] at h
  | .any _ _, m, h => by simp [collapse] at h
  | .br c a b, m, h => by
    simp only [collapse] at h
    split at h
    · rename_i xa xb ha hb
      simp only [Option.some.injEq] at h; subst h
      simp [collapse_len ha, collapse_len hb]
    · rename_i xa ha hb
      simp only [Option.some.injEq] at h; subst h
      have h1 := collapse_len ha
      exact h1
    · rename_i xb ha hb
      simp only [Option.some.injEq] at h; subst h
      have h1 := collapse_len hb
      exact h1
    · simp at h
    · cases h
theorem collapse_ok {dsts : List Nat} : ∀ {t : Tr Lg} {m : Mg}, collapse dsts t = some (some m) → gOk m.g → ∃ x, t.walk some = some x ∧ Told dsts x m
  | .leaf x, m, h, hg => by
    simp only [collapse] at h
    cases hc : (x.ids.all fun y => Nat.blt y.j 4 && dsts.any fun t => y.t.beq (t + 2)) with
    | true =>
      rw [hc] at h; simp only [cond_true, Option.some.injEq] at h; subst h
      refine ⟨x, rfl, by simp, fun k t d hk hd => ?_, fun y hy => ?_⟩
      · simp only [List.getElem?_map, hk, Option.map_some, Option.some.injEq] at hd
        subst hd; exact WkD.refl _
      · rw [List.all_eq_true] at hc
        have := hc y hy
        rw [Bool.and_eq_true, List.any_eq_true] at this
        obtain ⟨h1, t, ht, h2⟩ := this
        exact ⟨by simpa using h1, List.mem_map.2 ⟨t, ht, (Nat.eq_of_beq_eq_true h2).symm⟩⟩
    | false => rw [hc] at h; cases h
  | .fail, m, h, _ => by simp [collapse] at h
  | .any _ _, m, h, _ => by simp [collapse] at h
  | .br c a b, m, h, hg => by
    simp only [collapse] at h
    split at h
    · rename_i xa xb ha hb
      simp only [Option.some.injEq] at h; subst h
      have hl := And.intro (collapse_len ha) (collapse_len hb)
      rw [gOk.getD] at hg
      cases c with
      | true =>
        have hga : gOk xa.g := by
          rw [gOk.getD]
          cases h1 : xa.g <;> cases h2 : xb.g <;> rw [h1, h2] at hg <;> first | rfl | exact hg
        obtain ⟨x, h1, h2⟩ := collapse_ok ha hga
        exact ⟨x, h1, Told.merge (c := true) hl h2⟩
      | false =>
        have hgb : gOk xb.g := by
          rw [gOk.getD]
          cases h1 : xa.g <;> cases h2 : xb.g <;> rw [h1, h2] at hg <;> first | rfl | exact hg
        obtain ⟨x, h1, h2⟩ := collapse_ok hb hgb
        exact ⟨x, h1, Told.merge (c := false) hl h2⟩
    · rename_i xa ha hb
      simp only [Option.some.injEq] at h; subst h
      rw [gOk.getD] at hg
      simp only [Option.getD_some, Bool.and_eq_true] at hg
      obtain ⟨rfl, hg⟩ := hg
      obtain ⟨x, h1, h2⟩ := collapse_ok ha (gOk.getD.2 hg)
      exact ⟨x, h1, h2⟩
    · rename_i xb ha hb
      simp only [Option.some.injEq] at h; subst h
      rw [gOk.getD] at hg
      simp only [Option.getD_some, Bool.and_eq_true, Bool.not_eq_true'] at hg
      obtain ⟨rfl, hg⟩ := hg
      obtain ⟨x, h1, h2⟩ := collapse_ok hb (gOk.getD.2 hg)
      exact ⟨x, h1, h2⟩
    · simp at h
    · cases h

theorem setDs_o : ∀ (ts : List Nat) (ds : List D) (S : St), (setDs S ts ds).o = S.o ∧ (setDs S ts ds).env.length = S.env.length
  | [], _, _ => by unfold setDs; exact ⟨rfl, rfl⟩
  | _ :: _, [], _ => by unfold setDs; exact ⟨rfl, rfl⟩
  | t :: ts, d :: ds, S => by
    obtain ⟨h1, h2⟩ := setDs_o ts ds (S.setD t d)
    refine ⟨h1, h2.trans ?_⟩
    show (S.env.set t d).length = _
    rw [List.length_set]
theorem setDs_d : ∀ (ts : List Nat) (ds : List D) (S : St) (d0 : Nat → D), ts.length = ds.length → (∀ t, t < S.env.length → t ∈ ts ∨ WkD (d0 t) (S.d t)) → (∀ (k t : Nat) (d : D), ts[k]? = some t → ds[k]? = some d → WkD (d0 t) d) → ∀ t, t < S.env.length → WkD (d0 t) ((setDs S ts ds).d t)
  | [], _, S, d0, _, h0, _, t, ht => by
    unfold setDs
    rcases h0 t ht with h | h
    · cases h
    · exact h
  | _ :: _, [], _, _, hl, _, _, _, _ => by cases hl
  | s :: ts, d :: ds, S, d0, hl, h0, hd, t, ht => by
    unfold setDs
    refine setDs_d ts ds (S.setD s d) d0 (by simpa using hl) (fun t ht' => ?_) (fun k t d' hk hd' => hd (k + 1) t d' hk hd') t (by show t < (S.env.set s d).length; rw [List.length_set]; exact ht)
    have ht2 : t < S.env.length := by
      have : t < (S.env.set s d).length := ht'
      rw [List.length_set] at this; exact this
    by_cases hts : t = s
    · subst hts
      right
      have : (S.setD t d).d t = d := by simp [St.d, St.setD, List.getD_eq_getElem?_getD, ht2]
      rw [this]
      exact hd 0 t d rfl rfl
    · rw [St.d_setD _ _ _ _ hts]
      rcases h0 t ht2 with h | h
      · rcases List.mem_cons.1 h with h | h
        · exact absurd h hts
        · exact .inl h
      · exact .inr h
theorem goneB_o : ∀ (ts : List Nat) (S : St), (goneB S ts).env = S.env ∧ ∀ y : Id, ((y.j < 4 ∧ y.t ∈ ts.map (· + 2)) → (goneB S ts).o y = .gone) ∧ ((goneB S ts).o y = S.o y ∨ (goneB S ts).o y = .gone)
  | [], S => ⟨rfl, fun y => ⟨fun h => by simp at h, .inl rfl⟩⟩
  | t :: ts, S => by
    obtain ⟨h1, h2⟩ := goneB_o ts { S with hp := padSet ([.gone, .gone, .gone, .gone] ++ (S.hp.getD (t + 2) []).drop 4) [] S.hp (t + 2) }
    have h3 : ∀ y : Id, St.o { S with hp := padSet ([.gone, .gone, .gone, .gone] ++ (S.hp.getD (t + 2) []).drop 4) [] S.hp (t + 2) } y = if y.t = t + 2 ∧ y.j < 4 then .gone else S.o y := by
      intro y
      simp only [St.o, padSet_getD]
      by_cases e : y.t = t + 2
      · rw [if_pos e]
        by_cases hj : y.j < 4
        · rw [if_pos ⟨e, hj⟩]
          match y.j, hj with
          | 0, _ => rfl
          | 1, _ => rfl
          | 2, _ => rfl
          | 3, _ => rfl
        · rw [if_neg (fun h => hj h.2), e, List.getD_eq_getElem?_getD, List.getElem?_append_right (by simp; omega), List.getElem?_drop, List.getD_eq_getElem?_getD]
          simp only [List.length_cons, List.length_nil]
          rw [show 4 + (y.j - (0 + 1 + 1 + 1 + 1)) = y.j by omega]
          first | rfl | (simp only [List.getD_eq_getElem?_getD]; done)
      · rw [if_neg e, if_neg (fun h => e h.1)]
    refine ⟨h1, fun y => ⟨fun hy => ?_, ?_⟩⟩
    · obtain ⟨hj, hm⟩ := hy
      rw [List.map_cons, List.mem_cons] at hm
      rcases hm with hm | hm
      · rcases (h2 y).2 with h | h
        · show (goneB _ ts).o y = _
          rw [h, h3 y, if_pos ⟨hm, hj⟩]
        · exact h
      · exact (h2 y).1 ⟨hj, hm⟩
    · rcases (h2 y).2 with h | h
      · have h4 : (goneB S (t :: ts)).o y = _ := h
        rw [h4, h3 y]
        by_cases e : y.t = t + 2 ∧ y.j < 4
        · rw [if_pos e]; exact .inr rfl
        · rw [if_neg e]; exact .inl rfl
      · exact .inr h

/-- what a region comes to, all ways in one -/
theorem region_sound {E : Ctx0} {Pr : Act → Prop} {ops : Array Oper} {ρ : Type} {mg : Bool} {t : Tr Lg} {Kont : St → Option ρ} {r : ρ} (he : regionK ρ mg (dstsOf ops) S t Kont = some r) :
    (t.walk fun x => Kont x.S) = some r ∨ ∃ x, t.walk some = some x ∧ ∀ a w, Good E w0 M Pr x.S a w → Fr ops S x.S x.ids → ∃ S', Good E w0 M Pr S' a w ∧ Kont S' = some r := by
  unfold regionK at he
  split at he
  · split at he
    · rename_i m hm
      have hg : gOk m.g ∧ Kont (setDs (goneB S (dstsOf ops)) (dstsOf ops) m.ds) = some r := by
        revert he
        cases h1 : m.g with
        | none => intro he; exact ⟨.inl rfl, he⟩
        | some g =>
          cases g with
          | true => intro he; exact ⟨.inr rfl, he⟩
          | false => intro he; cases he
      obtain ⟨hg, hk⟩ := hg
      obtain ⟨x, h1, h2, h3, h4⟩ := collapse_ok hm hg
      refine .inr ⟨x, h1, fun a w hgd hf => ⟨_, ⟨?_, hgd.df⟩, hk⟩⟩
      obtain ⟨K, γ, hr⟩ := hgd.rel
      obtain ⟨o1, o2⟩ := setDs_o (dstsOf ops) m.ds (goneB S (dstsOf ops))
      obtain ⟨b1, b2⟩ := goneB_o (dstsOf ops) S
      have hlen : (setDs (goneB S (dstsOf ops)) (dstsOf ops) m.ds).env.length = x.S.env.length := by rw [o2, b1, hf.len]
      have hdead : ∀ (S : St) (t : Nat), ¬ t < S.env.length → S.d t = dead := fun S t h => by
        simp only [St.d, List.getD_eq_getElem?_getD, List.getElem?_eq_none (Nat.le_of_not_lt h)]; rfl
      refine hr.weak (σ' := (setDs (goneB S (dstsOf ops)) (dstsOf ops) m.ds).sg) hlen (fun t => ?_) (fun y => ?_)
      · by_cases ht : t < x.S.env.length
        · refine setDs_d (dstsOf ops) m.ds (goneB S (dstsOf ops)) x.S.d h2.symm (fun t _ => ?_) h3 t (by rw [b1]; rw [← hf.len]; exact ht)
          by_cases hm : t ∈ dstsOf ops
          · exact .inl hm
          · right
            rw [St.d_env b1, ← hf.d t hm]; exact WkD.refl _
        · show WkD (x.S.d t) ((setDs (goneB S (dstsOf ops)) (dstsOf ops) m.ds).d t)
          rw [hdead _ t ht, hdead _ t (by rw [hlen]; exact ht)]; exact WkD.refl _
      · show (setDs (goneB S (dstsOf ops)) (dstsOf ops) m.ds).o y = x.S.o y ∨ _
        have e1 : (setDs (goneB S (dstsOf ops)) (dstsOf ops) m.ds).sg.o y = (goneB S (dstsOf ops)).o y := by
          show (setDs (goneB S (dstsOf ops)) (dstsOf ops) m.ds).o y = _
          rw [o1]
        have e2 : (setDs (goneB S (dstsOf ops)) (dstsOf ops) m.ds).o y = (goneB S (dstsOf ops)).o y := by rw [o1]
        rw [e1, e2]
        by_cases hy : y ∈ x.ids
        · exact .inr ((b2 y).1 (h4 y hy))
        · rw [hf.o y hy]; exact (b2 y).2
    · exact .inl he
  · exact .inl he
end
end Go.En
end
section
/-
  The engine, part Z: names anew; nil that becomes a row.
-/
namespace Go.En
open Go

section
variable {E : Ctx0} {w0 w : World} {M : Ml} {K : Bool → Nat → Prop} {γ : Gh} {σ : Sg} {tm : Array Value} {S : St}

theorem rowSz_rn (S : St) (order : List Id) (ob : Ob) : rowSz (rnO S order ob) = rowSz ob := by
  cases ob with
  | ro f ver e sh ow v fc => cases fc <;> rfl
  | _ => rfl
theorem isVa_rn (S : St) (order : List Id) (ob : Ob) : isVa (rnO S order ob) = isVa ob := by
  cases ob with
  | ro f ver e sh ow v fc => cases fc <;> rfl
  | _ => rfl
theorem isMa_rn (S : St) (order : List Id) (ob : Ob) : isMa (rnO S order ob) = isMa ob := by
  cases ob with
  | ro f ver e sh ow v fc => cases fc <;> rfl
  | _ => rfl
theorem flOf_rn (S : St) (order : List Id) (ob : Ob) : flOf (rnO S order ob) = flOf ob := by
  cases ob with
  | ro f ver e sh ow v fc => cases fc <;> rfl
  | _ => rfl
theorem verOf_rn (S : St) (order : List Id) (ob : Ob) {v : Nat} (h : verOf (rnO S order ob) = some v) : ∃ v0, verOf ob = some v0 := by
  cases ob with
  | ro f ver e sh ow v fc => exact ⟨ver, rfl⟩
  | fz f ver sh v => exact ⟨ver, rfl⟩
  | _ => cases h
theorem rn_no (S : St) (order : List Id) (ob : Ob) (h : ob ≠ .no) : rnO S order ob ≠ .no := by
  cases ob with
  | ro f ver e sh ow v fc => cases fc <;> (intro e; cases e)
  | no => exact absurd rfl h
  | _ => intro e; cases e

/-- what is at an old name is at the new one -/
def Rn (S : St) (order : List Id) (so' : Id → Ob) (γ γ' : Gh) : Prop := ∀ x x', rnId order x = some x' → so' x' = rnO S order (S.o x) ∧ γ'.hd x' = γ.hd x ∧ γ'.fp x' = γ.fp x

section rn
variable {order : List Id} {so' : Id → Ob} {γ' : Gh}
theorem CpsR.rn (h : Rn S order so' γ γ') : ∀ {cs cs' : List Cp} {xs : List Value}, rnCps order cs = some cs' → CpsR E w K S.o γ cs xs → CpsR E w K so' γ' cs' xs
  | [], cs', [], hr, _ => by simp only [rnCps, Option.some.injEq] at hr; subst hr; trivial
  | [], cs', _ :: _, hr, hc => hc.elim
  | _ :: _, cs', [], hr, hc => hc.elim
  | c :: cs, cs', x :: xs, hr, hc => by
    cases c with
    | b o =>
      simp only [rnCps] at hr
      split at hr
      · rename_i o' cs'' h1 h2
        simp only [Option.some.injEq] at hr; subst hr
        obtain ⟨e1, e2, _⟩ := h o o' h1
        refine ⟨⟨⟨by rw [e1]; exact rn_no _ _ _ hc.1.1.1, hc.1.1.2⟩, fun hv => ?_⟩, CpsR.rn h h2 hc.2⟩
        rw [e1, isVa_rn] at hv
        rw [e2]; exact hc.1.2 hv
      · cases hr
    | np =>
      simp only [rnCps] at hr
      split at hr
      · rename_i cs'' h2
        simp only [Option.some.injEq] at hr; subst hr
        exact ⟨hc.1, CpsR.rn h h2 hc.2⟩
      · cases hr
    | d f sh v =>
      simp only [rnCps] at hr
      split at hr
      · rename_i cs'' h2
        simp only [Option.some.injEq] at hr; subst hr
        exact ⟨hc.1, CpsR.rn h h2 hc.2⟩
      · cases hr
theorem LR.rn (h : Rn S order so' γ γ') {l : L} {cs : List Value} (hl : LR E w K S.o γ l cs) : LR E w K so' γ' (rnL S order l) cs := by
  unfold rnL
  cases l with
  | rw o =>
    obtain ⟨x, rfl, h1, h2⟩ := hl
    simp only
    split
    · rename_i o' ho
      obtain ⟨e1, e2, _⟩ := h o o' ho
      exact ⟨x, rfl, ⟨by rw [e1]; exact rn_no _ _ _ h1.1, h1.2⟩, fun hr => by rw [e1, rowSz_rn] at hr; rw [e2]; exact h2 hr⟩
    · rfl
  | sl o off n =>
    obtain ⟨x, rfl, h1, h2⟩ := hl
    simp only
    split
    · rename_i o' ho
      obtain ⟨e1, e2, _⟩ := h o o' ho
      exact ⟨x, rfl, ⟨by rw [e1]; exact rn_no _ _ _ h1.1, h1.2⟩, fun m z hr => by rw [e1, rowSz_rn] at hr; rw [e2]; exact h2 m z hr⟩
    · rfl
  | pe o i j =>
    obtain ⟨x, rfl, h1, h2⟩ := hl
    simp only
    split
    · rename_i o' ho
      obtain ⟨e1, e2, _⟩ := h o o' ho
      exact ⟨x, rfl, ⟨by rw [e1]; exact rn_no _ _ _ h1.1, h1.2⟩, fun m z hr => by rw [e1, rowSz_rn] at hr; rw [e2]; exact h2 m z hr⟩
    · rfl
  | pv o j =>
    obtain ⟨x, rfl, h1, h2⟩ := hl
    simp only
    split
    · rename_i o' ho
      obtain ⟨e1, e2, _⟩ := h o o' ho
      exact ⟨x, rfl, ⟨by rw [e1]; exact rn_no _ _ _ h1.1, h1.2⟩, fun hr => by rw [e1, isVa_rn] at hr; rw [e2]; exact h2 hr⟩
    · rfl
  | px o j q sh i c =>
    obtain ⟨x, rfl, h1, hi, h2⟩ := hl
    simp only
    split
    · rename_i o' ho
      obtain ⟨e1, e2, _⟩ := h o o' ho
      exact ⟨x, rfl, ⟨by rw [e1]; exact rn_no _ _ _ h1.1, h1.2⟩, hi, fun hr => by rw [e1, isVa_rn] at hr; rw [e2]; exact h2 hr⟩
    · rfl
  | mp o =>
    obtain ⟨x, rfl, h1, h2⟩ := hl
    simp only
    split
    · rename_i o' ho
      obtain ⟨e1, e2, _⟩ := h o o' ho
      exact ⟨x, rfl, ⟨by rw [e1]; exact rn_no _ _ _ h1.1, h1.2⟩, fun hr => by rw [e1, isMa_rn] at hr; rw [e2]; exact h2 hr⟩
    · rfl
  | d pv sh v =>
    cases pv with
    | fz f => exact hl
    | bw o ver =>
      obtain ⟨h1, h2, h3, h4⟩ := hl
      simp only
      split
      · rename_i o' ho
        obtain ⟨e1, e2, e3⟩ := h o o' ho
        cases hv : onEq (verOf (S.o o)) ver with
        | false => exact h1
        | true =>
          have hv' : verOf (S.o o) = some ver := by
            revert hv
            cases verOf (S.o o) with
            | none => intro hv; cases hv
            | some v0 => intro hv; rw [show v0 = ver from Nat.eq_of_beq_eq_true hv]
          refine ⟨h1, ⟨by rw [e1]; exact rn_no _ _ _ h2.1, h2.2⟩, fun _ _ => Nat.zero_le _, fun _ => ?_⟩
          rw [e1, e3, flOf_rn]
          exact h4 hv'
      · exact h1
  | fn g caps =>
    obtain ⟨vs, rfl, h2⟩ := hl
    simp only
    split
    · rename_i cs' hcs
      exact ⟨vs, rfl, h2.rn h hcs⟩
    · rfl
  | k c => rw [show cs = [.bool c] from hl]; exact Ro.b
  | _ => exact hl
theorem LRs.rn (h : Rn S order so' γ γ') : ∀ {ls : List L} {cs : List Value}, LRs E w K S.o γ ls cs → LRs E w K so' γ' (ls.map (rnL S order)) cs
  | [], _, hl => hl
  | _ :: _, _, ⟨c1, c2, h1, h2, h3⟩ => ⟨c1, c2, h1, h2.rn h, LRs.rn h h3⟩
theorem PtR.rn (h : Rn S order so' γ γ') {p : Pt} {x : Value} (hp : PtR E w K S.o γ p x) : PtR E w K so' γ' (rnPt S order p) x := by
  cases p with
  | one l => exact LR.rn h hp
  | agg ls => obtain ⟨cs, h1, h2⟩ := hp; exact ⟨cs, h1, h2.rn h⟩
theorem PtsR.rn (h : Rn S order so' γ γ') : ∀ {ps : List Pt} {xs : List Value}, PtsR E w K S.o γ ps xs → PtsR E w K so' γ' (ps.map (rnPt S order)) xs
  | [], _, hl => hl
  | _ :: _, _, ⟨c1, c2, h1, h2, h3⟩ => ⟨c1, c2, h1, h2.rn h, PtsR.rn h h3⟩
theorem DR.rn (h : Rn S order so' γ γ') {d : D} {x : Value} (hd : DR E w K S.o γ d x) : DR E w K so' γ' (rnD S order d) x := by
  cases d with
  | p y => exact PtR.rn h hd
  | tup xs => obtain ⟨vs, h1, h2⟩ := hd; exact ⟨vs, h1, h2.rn h⟩
theorem ObR.rn (h : Rn S order so' γ γ') {ob : Ob} {x : Value} {F : List Nat} (ho : ObR E w K S.o γ ob x F) : ObR E w K so' γ' (rnO S order ob) x F := by
  cases ob with
  | va ls =>
    obtain ⟨b, cs, T, h1, h2, h3, h4⟩ := ho
    exact ⟨b, cs, T, h1, h2, h3.rn h, h4⟩
  | ro f ver e sh ow v fc =>
    cases fc with
    | none => exact ⟨ho.1.mono (fun _ _ => rfl) (fun i cs G _ _ hel => hel), ho.2⟩
    | some c =>
      refine ⟨ho.1.mono (fun _ _ => rfl) (fun i cs G _ _ hel => ?_), fun c' hc => by cases hc; exact ho.2 c rfl⟩
      unfold ElR at hel ⊢
      simp only at hel ⊢
      by_cases hi : c.i = i
      · rw [if_pos hi] at hel ⊢; exact ⟨hel.1.rn h, hel.2⟩
      · rw [if_neg hi] at hel ⊢; exact hel
  | _ => exact ho
end rn

theorem idxOf_spec {x : Id} : ∀ {l : List Id} {k n : Nat}, idxOf x l k = some n → k ≤ n ∧ l[n - k]? = some x
  | [], k, n, h => by cases h
  | y :: l, k, n, h => by
    simp only [idxOf] at h
    cases e : y.eqb x with
    | true =>
      rw [e] at h
      simp only [cond_true, Option.some.injEq] at h; subst h
      rw [Id.eqb_iff.1 e]; exact ⟨Nat.le_refl _, by simp⟩
    | false =>
      rw [e] at h
      obtain ⟨h1, h2⟩ := idxOf_spec (k := k + 1) h
      refine ⟨by omega, ?_⟩
      rw [show n - k = (n - (k + 1)) + 1 by omega, List.getElem?_cons_succ]; exact h2
theorem memId_iff {x : Id} {l : List Id} : memId x l = true ↔ x ∈ l := by
  unfold memId
  rw [List.any_eq_true]
  constructor
  · rintro ⟨y, hy, he⟩; rw [← Id.eqb_iff.1 he]; exact hy
  · intro h; exact ⟨x, h, Id.eqb_iff.2 rfl⟩
/-- names, each once; none of what we were lent -/
def Names (l : List Id) : Prop := l.Nodup ∧ ∀ x, x ∈ l → x.t ≠ 0
theorem close_names (S : St) : ∀ (n : Nat) (q acc : List Id), Names acc → Names (close S n q acc)
  | 0, [], acc, h => h
  | 0, _ :: _, acc, h => h
  | n + 1, [], acc, h => h
  | n + 1, x :: q, acc, h => by
    simp only [close]
    cases h1 : (memId x acc || isGone (S.o x)) with
    | true => exact close_names S n q acc h
    | false =>
      simp only [cond_false]
      cases h2 : x.t.beq 0 with
      | true => exact close_names S n q acc h
      | false =>
        simp only [cond_false]
        refine close_names S n _ _ ⟨?_, fun y hy => ?_⟩
        · rw [Bool.or_eq_false_iff] at h1
          refine List.nodup_append.2 ⟨h.1, by simp, fun a ha b hb e => ?_⟩
          rw [List.mem_singleton] at hb
          subst e; subst hb
          rw [memId_iff.2 ha] at h1; cases h1.1
        · rcases List.mem_append.1 hy with hy | hy
          · exact h.2 y hy
          · rw [List.mem_singleton] at hy; subst hy
            intro e; rw [e] at h2; cases h2

/-- the old name of a new one -/
def inv (order : List Id) (x : Id) : Option Id :=
  match x.t with
  | 0 => some x
  | 1 => order[x.j]?
  | _ => none
theorem inv_inj {order : List Id} (h : Names order) {x y z : Id} (hx : inv order x = some z) (hy : inv order y = some z) : x = y := by
  obtain ⟨t, j⟩ := x
  obtain ⟨t', j'⟩ := y
  have nz : ∀ j : Nat, order[j]? = some z → z.t ≠ 0 := fun j hj => h.2 z (List.mem_of_getElem? hj)
  match t, t', hx, hy with
  | 0, 0, hx, hy => simp only [inv, Option.some.injEq] at hx hy; rw [hx, hy]
  | 0, 1, hx, hy => simp only [inv, Option.some.injEq] at hx; exact absurd (by rw [← hx]) (nz _ hy)
  | 1, 0, hx, hy => simp only [inv, Option.some.injEq] at hy; exact absurd (by rw [← hy]) (nz _ hx)
  | 1, 1, hx, hy =>
    simp only [inv] at hx hy
    have hlt := (List.getElem?_eq_some_iff.1 hx).1
    have := (List.getElem?_inj hlt h.1).1 (hx.trans hy.symm)
    rw [this]
theorem rnEnv_d (S : St) (order : List Id) (lv : List Nat) : ∀ (env : List D) (k t : Nat), (rnEnv S order lv k env).getD t dead = if lv.any (·.beq (k + t)) = true then rnD S order (env.getD t dead) else dead
  | [], k, t => by simp [rnEnv, dead, one, rnD, rnPt, rnL]
  | d :: env, k, 0 => by simp only [rnEnv, List.getD_cons_zero, Nat.add_zero]
  | d :: env, k, t + 1 => by
    have := rnEnv_d S order lv env (k + 1) t
    simp only [rnEnv, List.getD_cons_succ]
    rw [this, show k + 1 + t = k + (t + 1) by omega]
theorem rnEnv_len (S : St) (order : List Id) (lv : List Nat) : ∀ (env : List D) (k : Nat), (rnEnv S order lv k env).length = env.length
  | [], _ => rfl
  | _ :: env, k => by simp only [rnEnv, List.length_cons, rnEnv_len S order lv env]

theorem rename_o (S : St) {order : List Id} {lv : List Nat} (x : Id) : (rename S order lv).o x = match inv order x with | some y => rnO S order (S.o y) | none => .no := by
  obtain ⟨t, j⟩ := x
  match t with
  | 0 =>
    simp only [rename, St.o, inv]
    rw [List.getD_eq_getElem?_getD, List.getD_eq_getElem?_getD]
    simp only [List.getElem?_cons_zero, Option.getD_some, List.getElem?_map]
    cases h : (S.hp.getD 0 [])[j]? with
    | none => rw [List.getD_eq_getElem?_getD, h]; rfl
    | some ob => rw [List.getD_eq_getElem?_getD, h]; rfl
  | 1 =>
    simp only [rename, St.o, inv]
    rw [List.getD_eq_getElem?_getD, List.getD_eq_getElem?_getD]
    simp only [List.getElem?_cons_succ, List.getElem?_cons_zero, Option.getD_some, List.getElem?_map]
    cases h : order[j]? <;> rfl
  | t + 2 =>
    simp only [rename, St.o, inv]
    rw [List.getD_eq_getElem?_getD, List.getD_eq_getElem?_getD]
    simp

/-- the same, by new names -/
theorem Rel.rename (h : Rel E w0 M K γ S.sg tm w) {order : List Id} (hn : Names order) (lv : List Nat) :
    ∃ γ', Rn S order (rename S order lv).o γ γ' ∧ Rel E w0 M K γ' (rename S order lv).sg tm w := by
  let γ' : Gh := ⟨fun x => match inv order x with | some y => γ.hd y | none => .bool true, fun x => match inv order x with | some y => γ.fp y | none => []⟩
  have hrn : Rn S order (En.rename S order lv).o γ γ' := by
    intro x x' hx
    have hinv : inv order x' = some x := by
      unfold rnId at hx
      split at hx
      · rename_i h0
        simp only [Option.some.injEq] at hx; subst hx
        unfold inv; rw [h0]; rfl
      · cases hk : idxOf x order 0 with
        | none => rw [hk] at hx; cases hx
        | some k =>
          rw [hk] at hx
          simp only [Option.map_some, Option.some.injEq] at hx; subst hx
          obtain ⟨_, h2⟩ := idxOf_spec hk
          exact h2
    refine ⟨?_, ?_, ?_⟩
    · rw [rename_o, hinv]
    · simp only [γ', hinv]
    · simp only [γ', hinv]
  have hfp : ∀ o b, b ∈ γ'.fp o → ∃ x, inv order o = some x ∧ b ∈ γ.fp x := by
    intro o b hb
    simp only [γ'] at hb
    split at hb
    · rename_i y hy; exact ⟨y, hy, hb⟩
    · cases hb
  refine ⟨γ', hrn, ?_⟩
  refine { h with n := ?_, sl := ?_, ob := ?_, dj := ?_, nd := ?_, ow := ?_, h0 := ?_ }
  · show tm.size = (rnEnv S order lv 0 S.env).length
    rw [rnEnv_len]; exact h.n
  · intro t
    show DR E w K _ γ' ((rnEnv S order lv 0 S.env).getD t dead) _
    rw [rnEnv_d]
    split
    · exact (h.sl t).rn hrn
    · rfl
  · intro o
    show ObR E w K _ γ' ((En.rename S order lv).o o) _ _
    cases hi : inv order o with
    | none =>
      rw [rename_o, hi]
      show γ'.fp o = []
      simp only [γ', hi]
    | some y =>
      have h1 := (h.ob y).rn hrn
      have e1 : γ'.hd o = γ.hd y := by simp only [γ', hi]
      have e2 : γ'.fp o = γ.fp y := by simp only [γ', hi]
      have e3 : (En.rename S order lv).o o = rnO S order (S.o y) := by rw [rename_o, hi]
      rw [e1, e2, e3]
      exact h1
  · intro o o' b hb hb'
    obtain ⟨x, h1, h2⟩ := hfp o b hb
    obtain ⟨x', h3, h4⟩ := hfp o' b hb'
    obtain rfl := h.dj x x' b h2 h4
    exact inv_inj hn h1 h3
  · intro o
    simp only [γ']
    split
    · exact h.nd _
    · exact List.nodup_nil
  · intro o b hb
    obtain ⟨x, _, h2⟩ := hfp o b hb
    exact h.ow x b h2
  · intro j hj
    obtain ⟨h1, h2, h3, h4⟩ := h.h0 j hj
    obtain ⟨e1, e2, _⟩ := hrn ⟨0, j⟩ ⟨0, j⟩ rfl
    show LentOk M j ((En.rename S order lv).o ⟨0, j⟩) (γ'.hd ⟨0, j⟩)
    rw [e1, e2]
    exact ⟨rn_no _ _ _ h1, fun q hq => h2 q (by rw [rowSz_rn] at hq; exact hq), fun hq => h3 (by rw [isVa_rn] at hq; exact hq), fun hq => h4 (by rw [isMa_rn] at hq; exact hq)⟩
theorem norm_ok (h : RelE E w0 M S.sg tm w) (lv : List Nat) : RelE E w0 M (norm lv S).sg tm w := by
  obtain ⟨K, γ, h⟩ := h
  obtain ⟨γ', _, h'⟩ := h.rename (close_names S 200 _ [] ⟨List.nodup_nil, fun x hx => by cases hx⟩) lv
  exact ⟨K, γ', h'⟩

/-! ### nil becomes a row -/
theorem Rel.reslot (h : Rel E w0 M K γ σ tm w) {t : Nat} {d : D} (hd : DR E w K σ.o γ d (tmv tm t)) : Rel E w0 M K γ (σ.setD t d) tm w := by
  have := h.setSlot t hd
  have e : tm.setIfInBounds t (tmv tm t) = tm := by
    apply Array.ext
    · simp
    · intro i h1 h2
      rw [Array.getElem_setIfInBounds (by simpa using h1)]
      split
      · rename_i e; subst e
        unfold tmv; rw [Array.getD_eq_getD_getElem?, Array.getElem?_eq_getElem h2]; rfl
      · rfl
  rw [e] at this
  exact this
theorem coRow_ok {C : Ctx0} {c : Co} {S' : St} (h : RelE E w0 M S.sg tm w) (hc : coRow C c S = some S') : ∃ K γ, Rel E w0 M K γ S'.sg tm w ∧ γ.hd (coId c) = .slice none 0 0 ∧ (∃ f ver e sh ow v, S'.o (coId c) = .ro f ver e sh ow v none) ∧ S'.env = S.env ∧ (∀ y, y ≠ coId c → S'.o y = S.o y) ∧ S.o (coId c) = .no := by
  unfold coRow at hc
  split at hc
  · rename_i sh _
    split at hc
    · rename_i hno
      simp only [Option.some.injEq] at hc; subst hc
      obtain ⟨K, γ, h⟩ := h
      have h1 := h.mkO (x := coId c) hno (Grow.refl w) (ob := .ro (flatO sh c.ow) 0 c.e sh c.ow [] none) (hd := .slice none 0 0) (F := []) (fun b hb => by cases hb) List.nodup_nil ⟨.inl ⟨rfl, rfl, rfl⟩, fun c hc => by cases hc⟩
      refine ⟨K, _, by rw [St.sg_setO]; exact h1, by simp [Gh.set], ⟨_, _, _, _, _, _, by rw [St.o_setO, if_pos rfl]⟩, rfl, fun y hy => by rw [St.o_setO, if_neg hy], hno⟩
    · cases hc
  · cases hc
/-- the first part of a row becomes a row: nobody else comes to the old one any more -/
theorem Rel.cut (h : Rel E w0 M K γ S.sg tm w) {o y : Id} {f : Bool} {ver : Nat} {e : TypeId} {sh : Sh} {v : List (Val sh)} (ho : S.o o = .ro f ver e sh .z v none) (hno : S.o y = .no) {x : Value} {k : Nat} (hsl : SlR (γ.hd o) sh.sz 0 k x) :
    ∃ K γ', Rel E w0 M K γ' ((S.setO o .gone).setO y (.ro f 0 e sh .z (v.take k) none)).sg tm w ∧ γ'.hd y = x := by
  have hne : y ≠ o := fun e1 => by rw [e1, ho] at hno; cases hno
  have ho' : S.sg.o o = .ro f ver e sh .z v none := ho
  have hob := h.ob o
  rw [ho'] at hob
  obtain ⟨hrow, _⟩ := hob
  have hws : ∀ q, q ∈ [(o, Ob.gone)] → WOk S.sg q := fun q hq => by
    rw [List.mem_singleton.1 hq]
    exact ⟨f, ver, e, sh, .z, v, ho', .inl rfl⟩
  have hok : okW [(o, Ob.gone)] = true := rfl
  obtain ⟨r1, hA, hAn⟩ := h.takeW hok hws
  have hK : ∀ f' b, KZ K γ [(o, Ob.gone)] f' b ↔ K f' b := fun f' b => by
    unfold KZ Zof
    constructor
    · rintro (h1 | ⟨q, hq, h2, _⟩)
      · exact h1
      · rw [List.mem_singleton.1 hq] at h2; cases h2
    · exact .inl
  have hab : absF γ [(o, Ob.gone)] = γ.fp o := by simp [absF]
  rw [hab] at hA hAn
  have hnoy : (S.sg.setW [(o, Ob.gone)]).o y = .no := by
    rw [setW_o _ _ _ (fun q hq => by rw [List.mem_singleton.1 hq]; exact fun e1 => hne e1.symm)]; exact hno
  obtain ⟨ad, m, c, hx, hle, ad', c', hy, hnc, hpos, hzero⟩ := hsl
  obtain ⟨had, hcc⟩ := hzero rfl
  subst had hcc
  have hrow' : Row w e sh.sz (v.take k).length x (γ.fp o) (ElR E w (KZ K γ [(o, Ob.gone)]) ((S.sg.setW [(o, Ob.gone)]).setO y (.ro f 0 e sh .z (v.take k) none)).o ((γ.take [(o, Ob.gone)]).set y x (γ.fp o)) f sh .z (v.take k) none) := by
    rcases hrow with ⟨q1, q2, q3⟩ | ⟨b, c2, cur, css, Fs, q1, q2, q3, q4, q5, q6⟩
    · rw [hx] at q1
      injection q1 with a1 a2 a3
      have hk : k = 0 := by omega
      subst hk
      exact .inl ⟨by rw [hy, a1, a3], by simp, q3⟩
    · rw [hx] at q1
      injection q1 with a1 a2 a3
      have hlk : (v.take k).length = k := by rw [List.length_take]; omega
      have hFs : ∀ i, i < v.length → Fs i = [] := fun i hi => (Tv.z_iff.1 (q6 i hi).1).2
      have hfl : ∀ n, n ≤ v.length → (List.range n).flatMap Fs = [] := fun n hn => List.flatMap_eq_nil_iff.2 fun i hi => hFs i (Nat.lt_of_lt_of_le (List.mem_range.1 hi) hn)
      refine .inr ⟨b, c2, cur, css, Fs, by rw [hy, a1, a3, hlk], q2, ⟨by omega, q3.2⟩, q4, ?_, fun i hi => ?_⟩
      · rw [q5, hfl _ (Nat.le_refl _), hfl _ (by omega)]
      · rw [hlk] at hi
        obtain ⟨g1, g2, g3⟩ := q6 i (by omega)
        refine ⟨?_, g2, g3⟩
        have g1 := Tv.z_iff.1 g1
        refine Tv.z_iff.2 ⟨?_, g1.2⟩
        have e2 : (v.take k).getD i sh.zero = v.getD i sh.zero := by
          rw [List.getD_eq_getElem?_getD, List.getD_eq_getElem?_getD, List.getElem?_take, if_pos hi]
        rw [e2]
        exact Ro.mono (fun b hb => (hK f b).2 hb) (fun _ _ => rfl) g1.1
  have hr := r1.upd (w' := w) y (ob := .ro f 0 e sh .z (v.take k) none) (hd := x) (F := γ.fp o) (fun _ _ _ _ => rfl) (Nat.le_refl _) rfl rfl rfl (fun b hb => ⟨.inr (hA b hb).1, (hA b hb).2⟩) hAn (.inl hnoy) ⟨hrow', fun _ h => by cases h⟩
  refine ⟨KZ K γ [(o, Ob.gone)], (γ.take [(o, Ob.gone)]).set y x (γ.fp o), ?_, ?_⟩
  · rw [St.sg_setO, St.sg_setO]
    exact hr
  · simp [Gh.set]
/-! ### rows become data for good -/
theorem frzO_ok (l : L) (h : RelE E w0 M S.sg tm w) : RelE E w0 M (frzO S l).sg tm w := by
  unfold frzO
  split
  · rename_i o
    split
    · rename_i f ver e sh ow v ho
      obtain ⟨K, γ, h⟩ := h
      have r := (h.takeW (ws := [(o, .fz f ver sh v)]) rfl (fun q hq => by
        rw [List.mem_singleton.1 hq]
        exact ⟨f, ver, e, sh, ow, v, ho, .inr rfl⟩)).1
      rw [St.sg_setO]
      exact ⟨_, _, r⟩
    · exact h
  · exact h
theorem frzOs_ok : ∀ (ls : List L) {S : St}, RelE E w0 M S.sg tm w → RelE E w0 M (frzOs ls S).sg tm w
  | [], _, h => h
  | l :: ls, _, h => frzOs_ok ls (frzO_ok l h)
theorem frzL_ok (h : Rel E w0 M K γ S.sg tm w) {l : L} {cs : List Value} (hl : LR E w K S.o γ l cs) : LR E w K S.o γ (frzL S l) cs := by
  unfold frzL
  split
  · rename_i o
    split
    · rename_i f ver sh v ho
      obtain ⟨x, hx, _, hh⟩ := hl
      have hob := h.ob o
      rw [show S.sg.o o = .fz f ver sh v from ho] at hob
      rw [hx, hh (by rw [ho]; rfl)]
      exact hob.1
    · exact hl
  · exact hl
theorem frzLs_ok (h : Rel E w0 M K γ S.sg tm w) : ∀ {ls : List L} {cs : List Value}, LRs E w K S.o γ ls cs → LRs E w K S.o γ (ls.map (frzL S)) cs
  | [], _, hl => hl
  | _ :: _, _, hl => by
    obtain ⟨c1, c2, e, h1, h2⟩ := hl
    exact ⟨c1, c2, e, frzL_ok h h1, frzLs_ok h h2⟩
theorem frzPt_ok (h : Rel E w0 M K γ S.sg tm w) {x : Pt} {y : Value} (hl : PtR E w K S.o γ x y) : PtR E w K S.o γ (frzPt S x) y := by
  cases x with
  | one l => exact frzL_ok h hl
  | agg ls => obtain ⟨cs, e, h1⟩ := hl; exact ⟨cs, e, frzLs_ok h h1⟩
theorem frzPts_ok (h : Rel E w0 M K γ S.sg tm w) : ∀ {xs : List Pt} {ys : List Value}, PtsR E w K S.o γ xs ys → PtsR E w K S.o γ (xs.map (frzPt S)) ys
  | [], _, hl => hl
  | _ :: _, _, hl => by
    obtain ⟨y, ys, e, h1, h2⟩ := hl
    exact ⟨y, ys, e, frzPt_ok h h1, frzPts_ok h h2⟩
theorem frzD_ok (h : Rel E w0 M K γ S.sg tm w) {d : D} {y : Value} (hl : DR E w K S.o γ d y) : DR E w K S.o γ (frzD S d) y := by
  cases d with
  | p x => exact frzPt_ok h hl
  | tup xs => obtain ⟨vs, e, h1⟩ := hl; exact ⟨vs, e, frzPts_ok h h1⟩
/-- a variable's leaves told otherwise -/
theorem Rel.retell (h : Rel E w0 M K γ S.sg tm w) {o : Id} {ls ls' : List L} (ho : S.o o = .va ls) (hl : ∀ cs, LRs E w K S.o γ ls cs → LRs E w K S.o γ ls' cs) : RelE E w0 M (S.setO o (.va ls')).sg tm w := by
  have hob := h.ob o
  rw [show S.sg.o o = .va ls from ho] at hob
  obtain ⟨b, cs, T, g1, g2, g3, g4⟩ := hob
  have hvis : Vis γ S.sg o (.va ls') (γ.hd o) := .inr ⟨fun q hq => (by cases hq), fun _ => ⟨by rw [show S.sg.o o = .va ls from ho]; rfl, rfl⟩, fun hq => (by cases hq), fun v hv => (by cases hv), by simp⟩
  have hx := h.updX (w' := w) o (F := γ.fp o) (fun _ _ _ _ => rfl) hvis
  have hr := h.upd (w' := w) o (F := γ.fp o) (fun _ _ _ _ => rfl) (Nat.le_refl _) rfl rfl rfl (fun b' hb' => ⟨.inl hb', (h.ow o b' hb').2.1⟩) (h.nd o) hvis ⟨b, cs, T, g1, g2, LRs.ext hx (hl _ g3), g4⟩
  rw [← St.sg_setO] at hr
  exact ⟨K, _, hr⟩
theorem frzS_ok (s : Nat) (h : RelE E w0 M S.sg tm w) : RelE E w0 M (frzS s S).sg tm w := by
  unfold frzS
  split
  · split
    · rename_i ls _
      simp only []
      split
      · rename_i ls' ho
        obtain ⟨K, γ, h⟩ := frzOs_ok ls h
        exact h.retell ho fun cs hc => frzLs_ok h hc
      · exact frzOs_ok ls h
    · exact h
  · simp only []
    obtain ⟨K, γ, h⟩ := frzOs_ok (lsAll (S.d s)) h
    rw [St.sg_setD]
    exact ⟨K, γ, h.reslot (frzD_ok h (h.sl s))⟩
theorem coerce1_ok {C : Ctx0} {c : Co} (h : RelE E w0 M S.sg tm w) : RelE E w0 M (coerce1 C c S).sg tm w := by
  unfold coerce1
  split
  · split
    · rename_i hl
      split
      · rename_i S' hc
        obtain ⟨K, γ, h1, h2, ⟨f, ver, e, sh, ow, v, h3⟩, h4, h5, h6⟩ := coRow_ok h hc
        rw [St.sg_setD]
        have hv : tmv tm c.s = .slice none 0 0 := by
          obtain ⟨K0, γ0, h0⟩ := h
          have := h0.leaf (σ := S.sg) hl
          injection this
        refine ⟨K, γ, h1.reslot ?_⟩
        refine ⟨tmv tm c.s, rfl, ⟨?_, by rw [hv]; rfl⟩, fun _ => by rw [hv, h2]⟩
        show S'.o (coId c) ≠ .no
        rw [h3]; simp
      · exact h
    · exact shutN_ok 8 _ h
    · rename_i o k hl
      split
      · rename_i f ver e sh v ho hno
        obtain ⟨K, γ, h0⟩ := h
        have hlf := h0.leaf (σ := S.sg) hl
        obtain ⟨x, hx, hx1, hx2⟩ := hlf
        have hxt : tmv tm c.s = x := by injection hx
        obtain ⟨K', γ', h1, h2⟩ := h0.cut ho hno (hx2 v.length sh.sz (by show rowSz (S.o o) = _; rw [ho]; rfl))
        rw [St.sg_setD]
        refine ⟨K', γ', h1.reslot ?_⟩
        rw [hxt]
        refine ⟨x, rfl, ⟨?_, hx1.2⟩, fun _ => h2.symm⟩
        show ((S.setO o .gone).setO (coId c) _).o (coId c) ≠ .no
        rw [St.o_setO, if_pos rfl]; simp
      · exact h
    · exact h
  · rename_i j _
    cases hj : j.beq 1000 with
    | true => exact frzS_ok _ h
    | false =>
    simp only [cond_false]
    split
    · rename_i o hl
      split
      · rename_i ls ho
        split
        · rename_i rest hd
          split
          · rename_i S' ls' hc hs
            obtain ⟨K, γ, h1, h2, ⟨f, ver, e, sh, ow, v, h3⟩, h4, h5, h6⟩ := coRow_ok h hc
            have hne : o ≠ coId c := fun e => by rw [e, h6] at ho; cases ho
            have ho' : S'.sg.o o = .va ls := by show S'.o o = _; rw [h5 o hne]; exact ho
            have hob := h1.ob o
            rw [ho'] at hob
            obtain ⟨b, cs, T, g1, g2, g3, g4⟩ := hob
            have hcell := g3.drop hd
            obtain ⟨⟨c1, c2, k1, k2, k3⟩, k4⟩ := hcell
            rw [show c1 = [.slice none 0 0] from k2] at k1
            have hset := (g3.set (cn := [.slice none 0 0]) (LRs.one (l := .rw (coId c)) ⟨_, rfl, ⟨by show S'.o (coId c) ≠ .no; rw [h3]; simp, rfl⟩, fun _ => h2.symm⟩) hs).1
            have hcs : cs.toList.take j ++ [.slice none 0 0] ++ cs.toList.drop (j + 1) = cs.toList := by
              rw [List.append_assoc]
              have : [Value.slice none 0 0] ++ cs.toList.drop (j + 1) = cs.toList.drop j := by
                rw [k1, ← List.drop_drop, k1]; rfl
              rw [this, List.take_append_drop]
            rw [List.length_singleton, hcs] at hset
            have hvis : Vis γ S'.sg o (.va ls') (γ.hd o) := .inr ⟨fun q hq => (by cases hq), fun _ => ⟨by rw [ho']; rfl, rfl⟩, fun hq => (by cases hq), fun v hv => (by cases hv), by simp⟩
            have hx := h1.updX (w' := w) o (F := γ.fp o) (fun _ _ _ _ => rfl) hvis
            have hr := h1.upd (w' := w) o (F := γ.fp o) (fun _ _ _ _ => rfl) (Nat.le_refl _) rfl rfl rfl (fun b' hb' => ⟨.inl hb', (h1.ow o b' hb').2.1⟩) (h1.nd o) hvis ⟨b, cs, T, g1, g2, LRs.ext hx hset, g4⟩
            rw [← St.sg_setO] at hr
            exact ⟨K, _, hr⟩
          · exact h
        · exact h
      · exact h
    · exact h
theorem coerce_ok {C : Ctx0} : ∀ (cs : List Co) {S : St}, RelE E w0 M S.sg tm w → RelE E w0 M (coerce C cs S).sg tm w
  | [], _, h => h
  | _ :: cs, _, h => coerce_ok cs (coerce1_ok h)
end
end Go.En
end
section
/-
  The engine, part NA: code.
-/
namespace Go.En
open Go

/-- a region whose order is drawn -/
def DrawsOk (C : Ctx) : Prop :=
  ∀ (w0 w : World) (M : Ml) (Pr : Act → Prop) (ops : Array Oper) (id : Nat) (S : St) (a : Act) (Q : Exit → Act → World → Prop) (ρ : Type) (Kont : Lg → Option ρ) (r : ρ), Kept Pr ops → backC C.P ops = true → Good C.toCtx0 w0 M Pr S a w →
    (evOpsD C (bef ops.toList []) ops (List.range ops.size) S [] [] []).walk Kont = some r → (∀ x a' w', Good C.toCtx0 w0 M Pr x.S a' w' → Fr ops S x.S x.ids → Kont x = some r → Q .normal a' w') → (Code.region id ops true).wp C.P Q a w

def exOf : Ex1 → Exit
  | .normal => .normal
  | .exit id => .exit id
  | .ret => .ret
/-- what code keeps -/
def KeptC (Pr : Act → Prop) : Code → Prop
  | .region _ ops _ => Kept Pr ops
  | .seq a b | .cond _ a b => KeptC Pr a ∧ KeptC Pr b
  | .block _ a | .loop a => KeptC Pr a
  | _ => True

section
variable {C : Ctx} {w0 w : World} {M : Ml} {σ : Sg} {a : Act} {S : St}

/-- code -/
theorem ev_sound (hC : CallsOk C) (hD : DrawsOk C) {Pr : Act → Prop} (h : Hn) (n : Nat) {ρ : Type} {r : ρ} : ∀ (c : Code) {S : St} {a : Act} {w : World} {Kont : Ex1 → St → Option ρ} {Q : Exit → Act → World → Prop}, KeptC Pr c → Good C.toCtx0 w0 M Pr S a w → ev C h n ρ c S Kont = some r →
    (∀ x S' a' w', Good C.toCtx0 w0 M Pr S' a' w' → Kont x S' = some r → Q (exOf x) a' w') → c.wp C.P Q a w
  | .skip, S, a, w, Kont, Q, hk, hg, he, hQ => wp_skip (hQ .normal S a w hg he)
  | .region id ops draw, S, a, w, Kont, Q, hk, hg, he, hQ => by
    simp only [ev] at he
    -- the region as a whole
    have reg : ∀ {ρ' : Type} (K' : Lg → Option ρ') (r' : ρ'), (bif draw then (bif backC C.P ops then evOpsD C (bef ops.toList []) ops (List.range ops.size) S [] [] [] else .fail) else evOps C ops (List.range ops.size) S []).walk K' = some r' →
        (∀ x a' w', Good C.toCtx0 w0 M Pr x.S a' w' → Fr ops S x.S x.ids → K' x = some r' → Q .normal a' w') → (Code.region id ops draw).wp C.P Q a w := by
      intro ρ' K' r' hw hq
      cases draw with
      | true =>
        simp only [cond_true] at hw
        cases hb : backC C.P ops with
        | true => rw [hb] at hw; exact hD _ _ _ _ _ _ _ _ _ _ _ _ hk hb hg hw hq
        | false => rw [hb] at hw; cases hw
      | false => exact wp_region (evOps_sound hC hk _ hg Fr.refl hw hq)
    rcases region_sound (E := C.toCtx0) (w0 := w0) (M := M) (Pr := Pr) he with h1 | ⟨x, h1, h2⟩
    · exact reg _ r h1 (fun x a' w' g1 _ g3 => hQ .normal x.S a' w' g1 g3)
    · refine reg some x h1 (fun x' a' w' g1 g2 g3 => ?_)
      injection g3 with g3
      subst g3
      obtain ⟨S', g4, g5⟩ := h2 a' w' g1 g2
      exact hQ .normal S' a' w' g4 g5
  | .seq x y, S, a, w, Kont, Q, hk, hg, he, hQ => by
    simp only [ev] at he
    refine wp_seq (ev_sound hC hD h n x hk.1 hg he (fun ex S' a' w' h1 h2 => ?_))
    cases ex with
    | normal =>
      simp only [evCut] at h2
      split at h2
      · exact ev_sound hC hD h n y hk.2 h1 h2 hQ
      · rename_i t lv _
        cases n with
        | zero => cases h2
        | succ m => exact ev_sound hC hD h (m + 1) y hk.2 (S := norm (t :: lv) (coerce C.toCtx0 (h.co (firstId y + 10000)) S')) ⟨norm_ok (coerce_ok _ h1.rel) _, h1.df⟩ h2 hQ
    | exit id => exact hQ (.exit id) S' a' w' h1 h2
    | ret => exact hQ .ret S' a' w' h1 h2
  | .cond c x y, S, a, w, Kont, Q, hk, hg, he, hQ => by
    simp only [ev] at he
    have hp := walk_ok he
    obtain ⟨K, γ, hr⟩ := hg.rel
    obtain ⟨l, hp, hl⟩ := hr.operL (σ := S.sg) c a rfl hp
    have go : ∀ b : Bool, a.eval c = .bool b → (bif b then ev C h n ρ x S Kont else ev C h n ρ y S Kont) = some r → (Code.cond c x y).wp C.P Q a w := by
      intro b hb hp
      cases b with
      | true => exact wp_cond_true hb (ev_sound hC hD h n x hk.1 hg hp hQ)
      | false => exact wp_cond_false hb (ev_sound hC hD h n y hk.2 hg hp hQ)
    split at hp
    · rename_i b
      exact go b (by injection hl) hp
    · rename_i f b
      have hl' : Ro C.toCtx0 w (K f) .b b [a.eval c] := hl
      have := Ro.inv_b hl'
      exact go b (by injection this) hp
    · cases hp
  | .block id x, S, a, w, Kont, Q, hk, hg, he, hQ => by
    simp only [ev] at he
    refine wp_block (ev_sound hC hD h n x hk hg he (fun ex S' a' w' h1 h2 => ?_))
    cases ex with
    | normal => exact hQ .normal S' a' w' h1 h2
    | exit i =>
      simp only [exOf, Exit.inBlock]
      cases hi : i.beq id with
      | true =>
        have := Nat.eq_of_beq_eq_true hi
        simp only [hi, cond_true] at h2
        rw [if_pos this]
        exact hQ .normal S' a' w' h1 h2
      | false =>
        have : ¬ i = id := fun e => by rw [e] at hi; simp at hi
        simp only [hi, cond_false] at h2
        rw [if_neg this]
        exact hQ (.exit i) S' a' w' h1 h2
    | ret => exact hQ .ret S' a' w' h1 h2
  | .loop x, S, a, w, Kont, Q, hk, hg, he, hQ => by
    simp only [ev] at he
    refine wp_loop_rounds n ?_
    have key : ∀ (m : Nat) (S : St) (a : Act) (w : World), Good C.toCtx0 w0 M Pr S a w → evLoop ρ (fun S K => ev C h n ρ x S K) (fun S => norm (h.lv (firstId x)) (coerce C.toCtx0 (h.co (firstId x)) S)) Kont m (norm (h.lv (firstId x)) (coerce C.toCtx0 (h.co (firstId x)) S)) = some r → Code.rounds C.P x Q m a w := by
      intro m
      induction m with
      | zero => intro S a w _ h; cases h
      | succ m ih =>
        intro S a w hg hh
        simp only [evLoop] at hh
        unfold Code.rounds
        refine ev_sound hC hD h n x hk (S := norm (h.lv (firstId x)) (coerce C.toCtx0 (h.co (firstId x)) S)) ⟨norm_ok (coerce_ok _ hg.rel) _, hg.df⟩ hh (fun ex S' a' w' h1 h2 => ?_)
        cases ex with
        | normal => exact ih S' a' w' h1 h2
        | exit id => exact hQ (.exit id) S' a' w' h1 h2
        | ret => exact hQ .ret S' a' w' h1 h2
    exact key n S a w hg he
  | .exit id, S, a, w, Kont, Q, hk, hg, he, hQ => wp_exit (hQ (.exit id) S a w hg he)
  | .ret, S, a, w, Kont, Q, hk, hg, he, hQ => wp_ret (hQ .ret S a w hg he)
  | .goto _, _, _, _, _, _, _, _, he, _ => by simp [ev] at he
  | .label _, _, _, _, _, _, _, _, he, _ => by simp [ev] at he
  | .rangeFunc _ _ _ _, _, _, _, _, _, _, _, he, _ => by simp [ev] at he
  | .scope _, _, _, _, _, _, _, _, he, _ => by simp [ev] at he
  | .refuse _, _, _, _, _, _, _, _, he, _ => by simp [ev] at he
end
end Go.En
end
section
/-
  The engine, part NB: a function does what its code, read by the interpreter, says.
-/
namespace Go.En
open Go

def resV (vs : List Value) : Value :=
  match vs with
  | [v] => v
  | vs => .tuple vs.toArray
def resF (tm : Array Value) : ResultVar → Sem Value
  | .tmp t => pure (tm.getD t undef)
  | .cell a t => do loadVar t (← asAddr (tm.getD a undef))
theorem run_mapM {P : Program} {w : World} {α : Type} {f : α → Sem Value} : ∀ {rs : List α} {vs : List Value}, vs.length = rs.length → (∀ (j : Nat) (r : α) (v : Value), rs[j]? = some r → vs[j]? = some v → (f r).run P w = .ok v w) → (rs.mapM f).run P w = .ok vs w
  | [], [], _, _ => by simp
  | [], _ :: _, h, _ => by simp at h
  | _ :: _, [], h, _ => by simp at h
  | r :: rs, v :: vs, h, hr => by
    have h1 := hr 0 r v rfl rfl
    have h2 := run_mapM (f := f) (rs := rs) (vs := vs) (by simpa using h) (fun j r' v' e1 e2 => hr (j + 1) r' v' (by simpa using e1) (by simpa using e2))
    simp [List.mapM_cons, h1, h2]
theorem results_run {P : Program} {w : World} {fn : Func} {tm : Array Value} {us : List Value} (hl : us.length = fn.results.toList.length) (h : ∀ (j : Nat) (r : ResultVar) (v : Value), fn.results.toList[j]? = some r → us[j]? = some v → (resF tm r).run P w = .ok v w) : (results fn tm).run P w = .ok (resV us) w := by
  have hm := run_mapM (P := P) (w := w) (f := resF tm) (rs := fn.results.toList) (vs := us) hl h
  have e : results fn tm = (do
      let vs ← fn.results.mapM (resF tm)
      pure (if h : vs.size = 1 then vs[0] else .tuple vs)) := rfl
  rw [e, Array.mapM_eq_mapM_toList]
  simp only [Sem.run_bind, Sem.run_map, hm, Result.andThen_ok, Sem.run_pure]
  congr 1
  cases us with
  | nil => simp [resV]
  | cons v vs => cases vs with
    | nil => simp [resV]
    | cons u us => simp [resV]

/-- the state of a function's slots and of what it is lent; of results and of what is new -/
def sgOf (ds : List D) (os new : List Ob) : Sg := (⟨ds, [os, new]⟩ : St).sg
def K0 (M : Ml) (f : Bool) (b : Nat) : Prop := f = false ∧ M false b

/-- What it means that a function does what a spec says. -/
def FnOk (P : Program) (E : Ctx0) (g : FuncId) (sp : Spec) : Prop :=
  ∀ (w : World) (M : Ml) (γ : Gh) (ds : List D) (os : List Ob) (vs : Array Value), Rel E w M (K0 M) γ (sgOf ds os []) vs w → ∀ lf, (sp.F ds os).pick = some lf →
    CallsF P g vs w fun v w' => ∃ K' γ', Rel E w M K' γ' (sgOf [resD lf.res] lf.old lf.new) #[v] w'
def CtxOk (C : Ctx) : Prop := ∀ g sp, C.Φ g = some sp → FnOk C.P C.toCtx0 g sp

section
variable {E : Ctx0} {w0 w : World} {M : Ml} {K : Bool → Nat → Prop} {γ : Gh} {σ : Sg} {tm : Array Value} {S : St} {P : Program} {so : Id → Ob}

theorem retPt_ok (h : Rel E w0 M K γ S.sg tm w) {C : Ctx0} {r : ResultVar} {x : Pt} (hr : retPt C S r = some x) : ∃ v, (resF tm r).run C.P w = .ok v w ∧ PtR E w K S.o γ x v := by
  unfold retPt at hr
  split at hr
  · rename_i t
    split at hr
    · rename_i x' hd
      simp only [Option.some.injEq] at hr; subst hr
      have := h.sl t
      rw [show S.sg.d t = .p x' from hd] at this
      exact ⟨tmv tm t, rfl, this⟩
    · cases hr
  · rename_i a t
    split at hr
    · rename_i o m hl hm
      split at hr
      · rename_i ls ho
        have hlf := h.leaf (σ := S.sg) hl
        obtain ⟨y, hy, _, hva⟩ := hlf
        injection hy with hy
        obtain ⟨b, hh, hx⟩ := hva (by rw [show S.sg.o o = .va ls from ho]; rfl)
        obtain ⟨cs, T, g1, g2, g3⟩ := h.va (σ := S.sg) ho hh
        have hrun : ∀ v, (loadVar t ⟨b, 0, none⟩).run C.P w = .ok v w → (resF tm (.cell a t)).run C.P w = .ok v w := by
          intro v hv
          have e : tm.getD a undef = .pointer (some ⟨b, 0, none⟩) := by
            have : tmv tm a = .pointer (some ⟨b, 0, none⟩) := by rw [hy, hx]
            exact this
          simp only [resF, e, asAddr, Sem.run_bind, Sem.run_pure, Result.andThen_ok]
          exact hv
        have hc : ∀ (j : Nat) (x : Value), cs.toList[j]? = some x → w.cell? ((⟨b, 0, none⟩ : Addr).add j) = some x := fun j x hj => by
          rw [add0]; exact cells_of g1 j x hj
        cases m with
        | none =>
          simp only at hr
          split at hr
          · rename_i l
            cases hw : l.wd.beq 1 with
            | false => rw [hw] at hr; cases hr
            | true =>
              rw [hw] at hr
              simp only [cond_true, Option.some.injEq] at hr; subst hr
              have hl1 := g2.inv_one
              have hlen := hl1.len
              rw [Nat.eq_of_beq_eq_true hw] at hlen
              obtain ⟨x, hx1⟩ : ∃ x, cs.toList = [x] := by
                match h : cs.toList, hlen with
                | [x], _ => exact ⟨x, rfl⟩
              rw [hx1] at hl1
              refine ⟨x, hrun x ?_, hl1⟩
              have hag := aggSz_none hm
              have h0 := hc 0 x (by rw [hx1]; rfl)
              rw [Addr.add_zero'] at h0
              simp [loadVar, hag, h0]
          · cases hr
        | some q =>
          simp only at hr
          cases hw : (wds ls).beq q with
          | false => rw [hw] at hr; cases hr
          | true =>
            rw [hw] at hr
            simp only [cond_true, Option.some.injEq] at hr; subst hr
            have hlen := g2.len
            rw [Nat.eq_of_beq_eq_true hw] at hlen
            have hag := fun w => (aggSz_some hm w).1
            have hsz := fun w => (aggSz_some hm w).2
            have hlc : (loadCells ⟨b, 0, none⟩ cs.toList.length).run C.P w = .ok cs.toList.toArray w := run_loadCells_list w ⟨b, 0, none⟩ cs.toList hc
            rw [hlen] at hlc
            refine ⟨.agg cs, hrun _ ?_, cs, rfl, g2⟩
            simp [loadVar, hag, hsz, hlc]
      · cases hr
    · cases hr
theorem retPts_ok (h : Rel E w0 M K γ S.sg tm w) {C : Ctx0} : ∀ {rs : List ResultVar} {xs : List Pt}, retPts C S rs = some xs → ∃ vs, vs.length = rs.length ∧ (∀ (j : Nat) (r : ResultVar) (v : Value), rs[j]? = some r → vs[j]? = some v → (resF tm r).run C.P w = .ok v w) ∧ PtsR E w K S.o γ xs vs
  | [], xs, hr => by simp only [retPts, Option.some.injEq] at hr; subst hr; exact ⟨[], rfl, fun j r v hj => by simp at hj, rfl⟩
  | r :: rs, xs, hr => by
    simp only [retPts] at hr
    split at hr
    · rename_i x xs' h1 h2
      simp only [Option.some.injEq] at hr; subst hr
      obtain ⟨v, g1, g2⟩ := retPt_ok h h1
      obtain ⟨vs, g3, g4, g5⟩ := retPts_ok h h2
      refine ⟨v :: vs, by simp [g3], fun j r' v' e1 e2 => ?_, _, _, rfl, g2, g5⟩
      cases j with
      | zero =>
        simp only [List.getElem?_cons_zero, Option.some.injEq] at e1 e2
        subst e1; subst e2; exact g1
      | succ j => exact g4 j r' v' (by simpa using e1) (by simpa using e2)
    · cases hr

theorem nilL_ok {sh : Option Sh} {l : L} : WkL l (nilL sh l) := by
  intro E w K so γ cs h
  unfold nilL
  split
  · rw [show cs = [.slice none 0 0] from h]; exact Ro.l0
  · exact h
theorem nilLs_ok : ∀ {shs : List (Option Sh)} {ls : List L}, WkLs ls (nilLs shs ls)
  | shs, [] => by intro E w K so γ cs h; cases shs <;> exact h
  | shs, l :: ls => by
    intro E w K so γ cs h
    obtain ⟨c1, c2, e, g1, g2⟩ := h
    cases shs <;> exact ⟨c1, c2, e, nilL_ok _ _ _ _ _ _ g1, nilLs_ok _ _ _ _ _ _ g2⟩
theorem nilPt_ok {C : Ctx0} {t : TypeId} {x : Pt} : WkP x (nilPt C t x) := by
  intro E w K so γ v h
  cases x with
  | one l => exact nilL_ok _ _ _ _ _ _ h
  | agg ls => obtain ⟨cs, e, g⟩ := h; exact ⟨cs, e, nilLs_ok _ _ _ _ _ _ g⟩
theorem nilPts_ok {C : Ctx0} : ∀ {ts : List TypeId} {xs : List Pt}, WkPs xs (nilPts C ts xs)
  | ts, [] => by intro E w K so γ cs h; cases ts <;> exact h
  | ts, x :: xs => by
    intro E w K so γ cs h
    obtain ⟨y, ys, e, g1, g2⟩ := h
    cases ts <;> exact ⟨y, ys, e, nilPt_ok _ _ _ _ _ _ g1, nilPts_ok _ _ _ _ _ _ g2⟩
theorem resD_ok {xs : List Pt} {vs : List Value} (h : PtsR E w K so γ xs vs) : DR E w K so γ (resD xs) (resV vs) := by
  unfold resD
  split
  · rename_i x
    obtain ⟨y, ys, rfl, g1, g2⟩ := h
    rw [show ys = [] from g2]; exact g1
  · rename_i hne
    refine ⟨vs.toArray, ?_, by simpa using h⟩
    unfold resV
    split
    · rename_i v
      exfalso
      cases xs with
      | nil => cases h
      | cons x xs =>
        obtain ⟨y, ys, e, g1, g2⟩ := h
        injection e with _ e
        subst e
        cases xs with
        | nil => exact hne x rfl
        | cons x' xs' => obtain ⟨y', ys', e', _⟩ := g2; cases e'
    · rfl

/-- a function's end -/
theorem retK_ok {C : Ctx0} (h : RelE E w0 M S.sg tm w) {co : List Co} {fn : Func} {lf : Lf} (hr : retK C co fn.resultTypes.toList fn.results.toList S = some lf) :
    ∃ v, (results fn tm).run C.P w = .ok v w ∧ ∃ K' γ', Rel E w0 M K' γ' (sgOf [resD lf.res] lf.old lf.new) #[v] w := by
  unfold retK at hr
  have h1 := coerce_ok (C := C) co h
  generalize coerce C co S = S1 at hr h1
  obtain ⟨K, γ, h1⟩ := h1
  simp only at hr
  split at hr
  · rename_i xs hxs
    simp only [Option.some.injEq] at hr; subst hr
    obtain ⟨vs, g1, g2, g3⟩ := retPts_ok h1 hxs
    refine ⟨resV vs, results_run g1 g2, ?_⟩
    generalize hord : close S1 200 _ [] = order
    have hn : Names order := by rw [← hord]; exact close_names S1 200 _ [] ⟨List.nodup_nil, fun x hx => by cases hx⟩
    obtain ⟨γ', r1, r2⟩ := h1.rename hn []
    refine ⟨K, γ', { r2 with n := rfl, sl := fun t => ?_ }⟩
    cases t with
    | zero => exact resD_ok (PtsR.rn r1 (nilPts_ok _ _ _ _ _ _ g3))
    | succ t => rfl
  · cases hr

/-- a function's contract, from its code as the interpreter reads it -/
theorem fn_ok {C : Ctx} (hC : CallsOk C) (hD : DrawsOk C) {g : FuncId} {fn : Func} (hf : C.P.funcs[g]? = some fn) (hnm : fn.name ≠ "runtime.NumGoroutine") (sp : Spec) (h : Hn)
    (hspec : ∀ ds os lf, (sp.F ds os).pick = some lf → ∃ n, evF C h n fn ds os = some lf) : FnOk C.P C.toCtx0 g sp := by
  intro w M γ ds os vs hrel lf hpk
  obtain ⟨n, hev⟩ := hspec ds os lf hpk
  unfold evF at hev
  split at hev
  · rename_i body hb
    have hent : (callFunc g vs).run C.P w = .ok (.enter g vs) w := by simp [callFunc, hf, hnm, hb]
    unfold CallsF
    rw [hent]
    simp only
    refine calls_of_wp hf hb ?_
    have hvs : vs.size = ds.length := hrel.n
    have hgood : Good C.toCtx0 w M (fun a => a.defers = []) ⟨ds ++ List.replicate (fn.ntmps - ds.length) dead, [os]⟩ { tmps := vs ++ Array.replicate (fn.ntmps - vs.size) undef, defers := [] } w := by
      refine ⟨⟨K0 M, γ, ?_⟩, rfl⟩
      have ho : (⟨ds ++ List.replicate (fn.ntmps - ds.length) dead, [os]⟩ : St).o = (sgOf ds os []).o := by
        funext x
        obtain ⟨t, j⟩ := x
        match t with
        | 0 => rfl
        | 1 => show Ob.no = ([] : List Ob).getD j .no; simp
        | t + 2 => rfl
      have hd : ∀ t, (⟨ds ++ List.replicate (fn.ntmps - ds.length) dead, [os]⟩ : St).d t = (sgOf ds os []).d t := by
        intro t
        show (ds ++ List.replicate (fn.ntmps - ds.length) dead).getD t dead = ds.getD t dead
        rw [List.getD_eq_getElem?_getD, List.getD_eq_getElem?_getD]
        by_cases hlt : t < ds.length
        · rw [List.getElem?_append_left hlt]
        · rw [List.getElem?_append_right (by omega), List.getElem?_eq_none (show ds.length ≤ t by omega), List.getElem?_replicate]
          split <;> rfl
      have ht : ∀ t, tmv (vs ++ Array.replicate (fn.ntmps - vs.size) undef) t = tmv vs t := by
        intro t
        unfold tmv
        rw [Array.getD_eq_getD_getElem?, Array.getD_eq_getD_getElem?]
        by_cases hlt : t < vs.size
        · rw [Array.getElem?_append_left hlt]
        · rw [Array.getElem?_append_right (by omega), Array.getElem?_eq_none (show vs.size ≤ t by omega), Array.getElem?_replicate]
          split <;> rfl
      have hsg : (⟨ds ++ List.replicate (fn.ntmps - ds.length) dead, [os]⟩ : St).sg = { sgOf ds os [] with n := (ds ++ List.replicate (fn.ntmps - ds.length) dead).length } := by
        unfold St.sg
        rw [ho]
        congr 1
        funext t; exact hd t
      rw [hsg]
      exact { hrel with n := by simp [hvs], sl := fun t => by rw [ht]; exact hrel.sl t }
    have hkept : ∀ c : Code, KeptC (fun a => a.defers = []) c := by
      intro c
      induction c with
      | region id ops draw =>
        intro i o ho a v hp
        cases hd : o.dst <;> exact hp
      | seq a b iha ihb => exact ⟨iha, ihb⟩
      | cond c a b iha ihb => exact ⟨iha, ihb⟩
      | block id a ih => exact ih
      | loop a ih => exact ih
      | _ => trivial
    refine ev_sound hC hD h n body (hkept body) hgood hev (fun x S' a' w' hg hk => ?_)
    have fin : retK C.toCtx0 (h.co 1000000) fn.resultTypes.toList fn.results.toList S' = some lf → a'.defers = [] ∧ ∃ v, (results fn a'.tmps).run C.P w' = .ok v w' ∧ ∃ K' γ', Rel C.toCtx0 w M K' γ' (sgOf [resD lf.res] lf.old lf.new) #[v] w' :=
      fun hr => ⟨hg.df, retK_ok hg.rel hr⟩
    cases x with
    | normal =>
      obtain ⟨h1, v, h2, h3⟩ := fin hk
      exact ⟨h1, v, h2, h3⟩
    | exit id => cases hk
    | ret =>
      obtain ⟨h1, v, h2, h3⟩ := fin hk
      exact ⟨h1, v, h2, h3⟩
  · cases hev
end
end Go.En
end
section
/-
  The engine, part NC: what is lent.
-/
namespace Go.En
open Go

theorem flat_tv {E : Ctx0} {w : World} {Kf Kg : Nat → Prop} : ∀ {ow : Ow} {sh : Sh} {v : Val sh} {cs : List Value} {F : List Nat}, flatO sh ow = true → Tv E w Kf sh ow v cs F → Tv E w Kg sh ow v cs F := by
  intro ow
  induction ow with
  | z => intro sh v cs F hf h; rw [Tv.z_iff] at h ⊢; exact ⟨flat_ro (by cases sh <;> exact hf) h.1, h.2⟩
  | l e o ih =>
    intro sh v cs F hf h
    cases sh with
    | l a =>
      obtain ⟨x, h1, h2⟩ := h
      exact ⟨x, h1, h2.mono (fun _ _ => rfl) (fun i cs G _ _ hel => ih hf hel)⟩
    | _ => exact h.elim
  | p oa oc ih1 ih2 =>
    intro sh v cs F hf h
    cases sh with
    | p a c =>
      simp only [flatO, Bool.and_eq_true] at hf
      obtain ⟨c1, c2, F1, F2, h1, h2, h3, h4⟩ := h
      exact ⟨c1, c2, F1, F2, h1, h2, ih1 hf.1 h3, ih2 hf.2 h4⟩
    | _ => exact h.elim

/-- more is lent -/
structure Ln.le (s s' : Ln) : Prop where
  p : ∃ t, s'.perm = s.perm ++ t
  r : ∀ x, x ∈ s.rd → x ∈ s'.rd
  f : s'.f = true → s.f = true
  n : s.perm.Nodup → s'.perm.Nodup
theorem Ln.le.refl (s : Ln) : s.le s := ⟨⟨[], by simp⟩, fun _ h => h, fun h => h, fun h => h⟩
theorem Ln.le.trans {a b c : Ln} (h : a.le b) (h' : b.le c) : a.le c := by
  obtain ⟨t, ht⟩ := h.p
  obtain ⟨t', ht'⟩ := h'.p
  exact ⟨⟨t ++ t', by rw [ht', ht, List.append_assoc]⟩, fun x hx => h'.r x (h.r x hx), fun e => h.f (h'.f e), fun e => h'.n (h.n e)⟩
theorem Ln.le.get {a b : Ln} (h : a.le b) {k : Nat} {x : Id} (hk : a.perm[k]? = some x) : b.perm[k]? = some x := by
  obtain ⟨t, ht⟩ := h.p
  rw [ht, List.getElem?_append_left (List.getElem?_eq_some_iff.1 hk).1]; exact hk
theorem idxOf_none {x : Id} : ∀ {l : List Id} {k : Nat}, idxOf x l k = none → ¬ x ∈ l
  | [], k, _ => by simp
  | y :: l, k, h => by
    simp only [idxOf] at h
    cases e : y.eqb x with
    | true => rw [e] at h; cases h
    | false =>
      rw [e] at h
      have := idxOf_none (k := k + 1) h
      intro hx
      rcases List.mem_cons.1 hx with hx | hx
      · rw [← hx, Id.eqb_iff.2 rfl] at e; cases e
      · exact this hx
theorem Ln.name_ok (s : Ln) (x : Id) : ∃ k, (s.name x).1 = ⟨0, k⟩ ∧ s.le (s.name x).2 ∧ (s.name x).2.perm[k]? = some x := by
  unfold Ln.name
  cases h : idxOf x s.perm 0 with
  | some k =>
    obtain ⟨_, h2⟩ := idxOf_spec h
    exact ⟨k, rfl, .refl s, h2⟩
  | none =>
    refine ⟨s.perm.length, rfl, ⟨⟨[x], rfl⟩, fun _ h => h, fun h => h, fun hn => ?_⟩, by simp⟩
    refine List.nodup_append.2 ⟨hn, by simp, fun a ha b hb e => ?_⟩
    rw [List.mem_singleton] at hb
    subst e; subst hb
    exact idxOf_none h ha

section
variable {E : Ctx0} {w0 w w' : World} {M : Ml} {K : Bool → Nat → Prop} {γ : Gh} {σ : Sg} {tm : Array Value} {P : Program} {so : Id → Ob}

/-- what the function that is called sees of our objects -/
structure Cal (K : Bool → Nat → Prop) (so : Id → Ob) (γ : Gh) (s : Ln) (soc : Id → Ob) (γc : Gh) (Kc : Bool → Nat → Prop) : Prop where
  o : ∀ k x, s.perm[k]? = some x → soc ⟨0, k⟩ ≠ .no ∧ rowSz (soc ⟨0, k⟩) = rowSz (so x) ∧ isVa (soc ⟨0, k⟩) = isVa (so x) ∧ isMa (soc ⟨0, k⟩) = isMa (so x) ∧ γc.hd ⟨0, k⟩ = γ.hd x
  kf : ∀ f b, (s.f = true → f = true) → K f b → Kc false b
  rd : ∀ o, o ∈ s.rd → ∀ b, (b ∈ γ.fp o ∨ K (flOf (so o)) b) → Kc false b
/-- it is known to the function -/
def Sees (_E : Ctx0) (_w : World) (K : Bool → Nat → Prop) (so : Id → Ob) (γ : Gh) (s : Ln) (P : (Id → Ob) → Gh → (Bool → Nat → Prop) → Prop) : Prop :=
  ∀ (sf : Ln) (soc : Id → Ob) (γc : Gh) (Kc : Bool → Nat → Prop), s.le sf → Cal K so γ sf soc γc Kc → P soc γc Kc

theorem there_bw {o : Id} {ver : Nat} {Q : Unit → Prop} (h : (there (.bw o ver)).ok σ.d σ.o Q) : verOf (σ.o o) = some ver ∧ Q () := by
  unfold there at h
  simp only [ok_bind, ok_getO] at h
  split at h
  · rename_i hob
    rw [ok_chk] at h
    rw [hob, ← Nat.eq_of_beq_eq_true h.1]; exact ⟨rfl, h.2⟩
  · rename_i hob
    rw [ok_chk] at h
    rw [hob, ← Nat.eq_of_beq_eq_true h.1]; exact ⟨rfl, h.2⟩
  · exact h.elim

theorem giveCps_ok : ∀ {cs : List Cp} {xs : List Value} {s : Ln}, CpsR E w K so γ cs xs → s.le (giveCps s cs).2 ∧ Sees E w K so γ (giveCps s cs).2 fun soc γc Kc => CpsR E w Kc soc γc (giveCps s cs).1 xs
  | [], [], s, _ => ⟨.refl s, fun _ _ _ _ _ _ => trivial⟩
  | [], _ :: _, _, h => h.elim
  | _ :: _, [], _, h => h.elim
  | c :: cs, x :: xs, s, h => by
    cases c with
    | b o =>
      obtain ⟨k, h1, h2, h3⟩ := s.name_ok o
      obtain ⟨g1, g2⟩ := giveCps_ok (s := (s.name o).2) h.2
      refine ⟨h2.trans g1, fun sf soc γc Kc hle hc => ⟨?_, g2 sf soc γc Kc hle hc⟩⟩
      obtain ⟨a1, a2, a3, a4, a5⟩ := hc.o k o ((g1.trans hle).get h3)
      show CpR E w Kc soc γc (.b (s.name o).1) x
      rw [h1]
      exact ⟨⟨a1, h.1.1.2⟩, fun hv => by rw [a3] at hv; rw [a5]; exact h.1.2 hv⟩
    | np =>
      obtain ⟨g1, g2⟩ := giveCps_ok (s := s) h.2
      exact ⟨g1, fun sf soc γc Kc hle hc => ⟨h.1, g2 sf soc γc Kc hle hc⟩⟩
    | d f sh v =>
      obtain ⟨g1, g2⟩ := giveCps_ok (s := { s with f := s.f && (f || flat sh) }) h.2
      have h0 : s.le { s with f := s.f && (f || flat sh) } := ⟨⟨[], by simp⟩, fun _ h => h, fun e => by simp at e; exact e.1, fun h => h⟩
      refine ⟨h0.trans g1, fun sf soc γc Kc hle hc => ⟨?_, g2 sf soc γc Kc hle hc⟩⟩
      show Ro E w (Kc (flat sh)) sh v [x]
      cases hfl : flat sh with
      | true => exact flat_ro hfl h.1
      | false => exact Ro.mono (fun b hb => hc.kf f b (fun e => by have := (g1.trans hle).f e; simp [hfl] at this; exact this.2) hb) (fun _ _ => rfl) h.1

/-- a leaf is lent -/
def GivenL (E : Ctx0) (w : World) (K : Bool → Nat → Prop) (so : Id → Ob) (γ : Gh) (s : Ln) (cs : List Value) (x : L × Ln) : Prop :=
  s.le x.2 ∧ Sees E w K so γ x.2 fun soc γc Kc => LR E w Kc soc γc x.1 cs
theorem giveL_ok {s : Ln} {l : L} {cs : List Value} (hl : LR E w K σ.o γ l cs) {Q : L × Ln → Prop} (hp : (giveL s l).ok σ.d σ.o Q) : ∃ x, Q x ∧ GivenL E w K σ.o γ s cs x := by
  unfold giveL at hp
  split at hp
  · rename_i o
    obtain ⟨k, h1, h2, h3⟩ := s.name_ok o
    refine ⟨_, hp, h2, fun sf soc γc Kc hle hc => ?_⟩
    obtain ⟨a1, a2, a3, a4, a5⟩ := hc.o k o (hle.get h3)
    obtain ⟨x, e, g1, g2⟩ := hl
    show LR E w Kc soc γc (.rw (s.name o).1) cs
    rw [h1]
    exact ⟨x, e, ⟨a1, g1.2⟩, fun hr => by rw [a2] at hr; rw [a5]; exact g2 hr⟩
  · rename_i o off n
    obtain ⟨k, h1, h2, h3⟩ := s.name_ok o
    refine ⟨_, hp, h2, fun sf soc γc Kc hle hc => ?_⟩
    obtain ⟨a1, a2, a3, a4, a5⟩ := hc.o k o (hle.get h3)
    obtain ⟨x, e, g1, g2⟩ := hl
    show LR E w Kc soc γc (.sl (s.name o).1 off n) cs
    rw [h1]
    exact ⟨x, e, ⟨a1, g1.2⟩, fun m z hr => by rw [a2] at hr; rw [a5]; exact g2 m z hr⟩
  · rename_i o i j
    obtain ⟨k, h1, h2, h3⟩ := s.name_ok o
    refine ⟨_, hp, h2, fun sf soc γc Kc hle hc => ?_⟩
    obtain ⟨a1, a2, a3, a4, a5⟩ := hc.o k o (hle.get h3)
    obtain ⟨x, e, g1, g2⟩ := hl
    show LR E w Kc soc γc (.pe (s.name o).1 i j) cs
    rw [h1]
    exact ⟨x, e, ⟨a1, g1.2⟩, fun m z hr => by rw [a2] at hr; rw [a5]; exact g2 m z hr⟩
  · rename_i o j
    obtain ⟨k, h1, h2, h3⟩ := s.name_ok o
    refine ⟨_, hp, h2, fun sf soc γc Kc hle hc => ?_⟩
    obtain ⟨a1, a2, a3, a4, a5⟩ := hc.o k o (hle.get h3)
    obtain ⟨x, e, g1, g2⟩ := hl
    show LR E w Kc soc γc (.pv (s.name o).1 j) cs
    rw [h1]
    exact ⟨x, e, ⟨a1, g1.2⟩, fun hr => by rw [a3] at hr; rw [a5]; exact g2 hr⟩
  · rename_i o j q sh i c
    obtain ⟨k, h1, h2, h3⟩ := s.name_ok o
    refine ⟨_, hp, h2, fun sf soc γc Kc hle hc => ?_⟩
    obtain ⟨a1, a2, a3, a4, a5⟩ := hc.o k o (hle.get h3)
    obtain ⟨x, e, g1, g0, g2⟩ := hl
    show LR E w Kc soc γc (.px (s.name o).1 j q sh i c) cs
    rw [h1]
    exact ⟨x, e, ⟨a1, g1.2⟩, g0, fun hr => by rw [a3] at hr; rw [a5]; exact g2 hr⟩
  · rename_i o
    obtain ⟨k, h1, h2, h3⟩ := s.name_ok o
    refine ⟨_, hp, h2, fun sf soc γc Kc hle hc => ?_⟩
    obtain ⟨a1, a2, a3, a4, a5⟩ := hc.o k o (hle.get h3)
    obtain ⟨x, e, g1, g2⟩ := hl
    show LR E w Kc soc γc (.mp (s.name o).1) cs
    rw [h1]
    exact ⟨x, e, ⟨a1, g1.2⟩, fun hr => by rw [a4] at hr; rw [a5]; exact g2 hr⟩
  · rename_i f sh v
    refine ⟨_, hp, ⟨⟨[], by simp⟩, fun _ h => h, fun e => by simp at e; exact e.1, fun h => h⟩, fun sf soc γc Kc hle hc => ?_⟩
    show Ro E w (Kc (flat sh)) sh v cs
    have hl' : Ro E w (K f) sh v cs := hl
    cases hfl : flat sh with
    | true => exact flat_ro hfl hl'
    | false => exact Ro.mono (fun b hb => hc.kf f b (fun e => by have := hle.f e; simp [hfl] at this; exact this.2) hb) (fun _ _ => rfl) hl'
  · rename_i o ver sh v
    simp only [ok_bind, ok_pure] at hp
    obtain ⟨hv, hq⟩ := there_bw hp
    have hl' := hl.2.2.2 hv
    refine ⟨_, hq, ?_, fun sf soc γc Kc hle hc => ?_⟩
    · cases flat sh with
      | true => exact .refl s
      | false => exact ⟨⟨[], by simp⟩, fun _ h => List.mem_cons_of_mem _ h, fun h => h, fun h => h⟩
    · show Ro E w (Kc (flat sh)) sh v cs
      cases hfl : flat sh with
      | true => exact flat_ro hfl hl'
      | false =>
        refine Ro.mono (fun b hb => hc.rd o (hle.r o ?_) b hb) (fun _ _ => rfl) hl'
        simp only [hfl, Bool.false_eq_true, if_false]
        exact List.mem_cons_self ..
  · rename_i g caps
    obtain ⟨vs, e, g2⟩ := hl
    obtain ⟨h1, h2⟩ := giveCps_ok (s := s) g2
    exact ⟨_, hp, h1, fun sf soc γc Kc hle hc => ⟨vs, e, h2 sf soc γc Kc hle hc⟩⟩
  · rename_i c
    exact ⟨_, hp, .refl s, fun sf soc γc Kc hle hc => by rw [show cs = [.bool c] from hl]; exact Ro.b⟩
  · rename_i h1 h2 h3 h4 h5 h6 h7 h8 h9 h10
    refine ⟨_, hp, .refl s, fun sf soc γc Kc hle hc => ?_⟩
    cases l with
    | un n => exact hl
    | ud => exact hl
    | nl => exact hl
    | np => exact hl
    | nm => exact hl
    | rw o => exact absurd rfl (h1 o)
    | sl o off n => exact absurd rfl (h2 o off n)
    | pe o i j => exact absurd rfl (h3 o i j)
    | pv o j => exact absurd rfl (h4 o j)
    | px o j q sh i c => exact absurd rfl (h5 o j q sh i c)
    | mp o => exact absurd rfl (h6 o)
    | d pv sh v => cases pv with
      | fz f => exact absurd rfl (h7 f sh v)
      | bw o ver => exact absurd rfl (h8 o ver sh v)
    | fn g caps => exact absurd rfl (h9 g caps)
    | k c => exact absurd rfl (h10 c)
def GivenLs (E : Ctx0) (w : World) (K : Bool → Nat → Prop) (so : Id → Ob) (γ : Gh) (s : Ln) (cs : List Value) (x : List L × Ln) : Prop :=
  s.le x.2 ∧ Sees E w K so γ x.2 fun soc γc Kc => LRs E w Kc soc γc x.1 cs
theorem GivenL.cons {s : Ln} {c1 c2 : List Value} {x : L × Ln} {y : List L × Ln} (h : GivenL E w K so γ s c1 x) (h' : GivenLs E w K so γ x.2 c2 y) : GivenLs E w K so γ s (c1 ++ c2) (x.1 :: y.1, y.2) :=
  ⟨h.1.trans h'.1, fun sf soc γc Kc hle hc => ⟨c1, c2, rfl, h.2 sf soc γc Kc (h'.1.trans hle) hc, h'.2 sf soc γc Kc hle hc⟩⟩
theorem giveLs_ok : ∀ {ls : List L} {s : Ln} {cs : List Value}, LRs E w K σ.o γ ls cs → ∀ {Q : List L × Ln → Prop}, (giveLs s ls).ok σ.d σ.o Q → ∃ x, Q x ∧ GivenLs E w K σ.o γ s cs x
  | [], s, cs, hl, Q, hp => ⟨_, hp, .refl s, fun _ _ _ _ _ _ => hl⟩
  | l :: ls, s, cs, ⟨c1, c2, e, h1, h2⟩, Q, hp => by
    simp only [giveLs, ok_bind, ok_pure] at hp
    obtain ⟨x, hp, hx⟩ := giveL_ok h1 hp
    obtain ⟨y, hq, hy⟩ := giveLs_ok h2 hp
    subst e
    exact ⟨_, hq, hx.cons hy⟩

theorem slV_ok (h : Rel E w0 M K γ σ tm w) {l : L} {x : Value} (hl : LR E w K σ.o γ l [x]) {Q : Sl → Prop} (hp : (slV l).ok σ.d σ.o Q) : ∃ q, Q q ∧ LR E w K σ.o γ (.d q.pv (.l q.sh) q.v) [x] := by
  unfold slV at hp
  split at hp
  · rename_i pv sh v
    simp only [ok_bind, ok_pure] at hp
    exact ⟨_, (ok_there (E := E) (w := w) (K := K) (γ := γ) hp).1, hl⟩
  · rename_i o
    obtain ⟨y, hy, g1, g2⟩ := hl
    injection hy with hy; subst hy
    simp only [ok_bind, ok_getO] at hp
    split at hp
    · rename_i f ver e sh ow v ho
      refine ⟨_, hp, rfl, ⟨g1.1, fun z hz => by rw [List.mem_singleton] at hz; subst hz; exact g1.2⟩, fun v' hv => by rw [ho] at hv; cases hv; exact Nat.le_refl _, fun _ => ?_⟩
      rw [g2 (by rw [ho]; rfl), ho]
      exact h.ro_ro ho
    · rename_i f ver sh v ho
      have hob := h.ob o
      rw [ho] at hob
      refine ⟨_, hp, ?_⟩
      rw [g2 (by rw [ho]; rfl)]; exact hob.1
    · exact hp.elim
  · rename_i o off n
    obtain ⟨y, hy, g1, g2⟩ := hl
    injection hy with hy; subst hy
    simp only [ok_bind, ok_getO] at hp
    split at hp
    · rename_i f ver e sh ow v ho
      refine ⟨_, hp, rfl, ⟨g1.1, fun z hz => by rw [List.mem_singleton] at hz; subst hz; exact g1.2⟩, fun v' hv => by rw [ho] at hv; cases hv; exact Nat.le_refl _, fun _ => ?_⟩
      rw [ho]
      exact (h.ro_ro ho).slc (g2 v.length sh.sz (by rw [ho]; rfl))
    · rename_i f ver sh v ho
      have hob := h.ob o
      rw [ho] at hob
      refine ⟨_, hp, ?_⟩
      exact Ro.slc hob.1 (g2 v.length sh.sz (by rw [ho]; rfl))
    · exact hp.elim
  · exact hp.elim

theorem argL_ok (h : Rel E w0 M K γ σ tm w) {C : Ctx0} {asRow : Bool} {sh : Option Sh} {s : Ln} {l : L} {cs : List Value} (hl : LR E w K σ.o γ l cs) {Q : L × Ln → Prop} (hp : (argL C asRow sh s l).ok σ.d σ.o Q) : ∃ x, Q x ∧ GivenL E w K σ.o γ s cs x := by
  have one : ∀ l, (∃ o, l = .rw o) ∨ (∃ o off n, l = .sl o off n) → LR E w K σ.o γ l cs → ∃ x, cs = [x] := by
    rintro l (⟨o, rfl⟩ | ⟨o, off, n, rfl⟩) h
    · obtain ⟨x, e, _⟩ := h; exact ⟨x, e⟩
    · obtain ⟨x, e, _⟩ := h; exact ⟨x, e⟩
  unfold argL at hp
  split at hp
  · cases asRow with
    | true => exact ⟨_, hp, .refl s, fun sf soc γc Kc hle hc => hl⟩
    | false =>
      simp only [Bool.false_eq_true, if_false] at hp
      split at hp
      · rename_i a
        refine ⟨_, hp, .refl s, fun sf soc γc Kc hle hc => ?_⟩
        rw [show cs = [.slice none 0 0] from hl]; exact Ro.l0
      · exact ⟨_, hp, .refl s, fun sf soc γc Kc hle hc => hl⟩
  · rename_i o
    cases asRow with
    | true => exact giveL_ok hl hp
    | false =>
      obtain ⟨x, rfl⟩ := one _ (.inl ⟨o, rfl⟩) hl
      simp only [Bool.false_eq_true, if_false, ok_bind] at hp
      obtain ⟨q, hp, hq⟩ := slV_ok h hl hp
      exact giveL_ok hq hp
  · rename_i o off n
    cases asRow with
    | true => exact giveL_ok hl hp
    | false =>
      obtain ⟨x, rfl⟩ := one _ (.inr ⟨o, off, n, rfl⟩) hl
      simp only [Bool.false_eq_true, if_false, ok_bind] at hp
      obtain ⟨q, hp, hq⟩ := slV_ok h hl hp
      exact giveL_ok hq hp
  · exact giveL_ok hl hp
theorem argLs_ok (h : Rel E w0 M K γ σ tm w) {C : Ctx0} {asRow : Bool} : ∀ {ls : List L} {s : Ln} {shs : List (Option Sh)} {cs : List Value}, LRs E w K σ.o γ ls cs → ∀ {Q : List L × Ln → Prop}, (argLs C asRow s shs ls).ok σ.d σ.o Q → ∃ x, Q x ∧ GivenLs E w K σ.o γ s cs x
  | [], s, shs, cs, hl, Q, hp => by
    have : argLs C asRow s shs [] = .ret ([], s) := by cases shs <;> rfl
    rw [this] at hp
    exact ⟨_, hp, .refl s, fun _ _ _ _ _ _ => hl⟩
  | l :: ls, s, shs, cs, ⟨c1, c2, e, h1, h2⟩, Q, hp => by
    have hp' : (do let x ← argL C asRow (shs.head?.bind id) s l; let y ← argLs C asRow x.2 shs.tail ls; return (x.1 :: y.1, y.2) : Rd (List L × Ln)).ok σ.d σ.o Q := by cases shs <;> exact hp
    simp only [ok_bind, ok_pure] at hp'
    obtain ⟨x, hp', hx⟩ := argL_ok h h1 hp'
    obtain ⟨y, hq, hy⟩ := argLs_ok h h2 hp'
    subst e
    exact ⟨_, hq, hx.cons hy⟩
def GivenD (E : Ctx0) (w : World) (K : Bool → Nat → Prop) (so : Id → Ob) (γ : Gh) (s : Ln) (v : Value) (x : D × Ln) : Prop :=
  s.le x.2 ∧ Sees E w K so γ x.2 fun soc γc Kc => DR E w Kc soc γc x.1 v
theorem argD_ok (h : Rel E w0 M K γ σ tm w) {C : Ctx0} {asRow : Bool} {t : Option TypeId} {s : Ln} {d : D} {v : Value} (hd : DR E w K σ.o γ d v) {Q : D × Ln → Prop} (hp : (argD C asRow t s d).ok σ.d σ.o Q) : ∃ x, Q x ∧ GivenD E w K σ.o γ s v x := by
  unfold argD at hp
  split at hp
  · rename_i l
    simp only [ok_bind, ok_pure] at hp
    obtain ⟨x, hq, h1, h2⟩ := argL_ok h (show LR E w K σ.o γ l [v] from hd) hp
    exact ⟨_, hq, h1, h2⟩
  · rename_i ls
    simp only [ok_bind, ok_pure] at hp
    obtain ⟨cs, e, hl⟩ := hd
    obtain ⟨x, hq, h1, h2⟩ := argLs_ok h hl hp
    exact ⟨_, hq, h1, fun sf soc γc Kc hle hc => ⟨cs, e, h2 sf soc γc Kc hle hc⟩⟩
  · exact hp.elim
def DsR (E : Ctx0) (w : World) (K : Bool → Nat → Prop) (so : Id → Ob) (γ : Gh) : List D → List Value → Prop
  | [], xs => xs = []
  | d :: ds, xs => ∃ y ys, xs = y :: ys ∧ DR E w K so γ d y ∧ DsR E w K so γ ds ys
def GivenDs (E : Ctx0) (w : World) (K : Bool → Nat → Prop) (so : Id → Ob) (γ : Gh) (s : Ln) (vs : List Value) (x : List D × Ln) : Prop :=
  s.le x.2 ∧ Sees E w K so γ x.2 fun soc γc Kc => DsR E w Kc soc γc x.1 vs
theorem argDs_ok (h : Rel E w0 M K γ σ tm w) {C : Ctx0} {rows : List Nat} : ∀ {ds : List D} {i : Nat} {ts : List TypeId} {s : Ln} {vs : List Value}, DsR E w K σ.o γ ds vs → ∀ {Q : List D × Ln → Prop}, (argDs C rows i ts s ds).ok σ.d σ.o Q → ∃ x, Q x ∧ GivenDs E w K σ.o γ s vs x
  | [], i, ts, s, vs, hl, Q, hp => ⟨_, hp, .refl s, fun _ _ _ _ _ _ => hl⟩
  | d :: ds, i, ts, s, vs, ⟨y, ys, e, h1, h2⟩, Q, hp => by
    simp only [argDs, ok_bind, ok_pure] at hp
    obtain ⟨x, hp, hx⟩ := argD_ok h h1 hp
    obtain ⟨z, hq, hz⟩ := argDs_ok h h2 hp
    subst e
    exact ⟨_, hq, hx.1.trans hz.1, fun sf soc γc Kc hle hc => ⟨y, ys, rfl, hx.2 sf soc γc Kc (hz.1.trans hle) hc, hz.2 sf soc γc Kc hle hc⟩⟩

/-- an object as it is lent -/
structure GivenO (E : Ctx0) (w : World) (K : Bool → Nat → Prop) (so : Id → Ob) (γ : Gh) (s : Ln) (x : Id) (ob : Ob) (ver : Nat) : Prop where
  no : ob ≠ .no
  no' : so x ≠ .no
  row : rowSz ob = rowSz (so x)
  va : isVa ob = isVa (so x)
  ma : isMa ob = isMa (so x)
  ver : ∀ v, verOf (so x) = some v → v = ver
  ob : Sees E w K so γ s fun soc γc Kc => ObR E w Kc soc γc ob (γ.hd x) (γ.fp x)
structure GivenG (E : Ctx0) (w : World) (K : Bool → Nat → Prop) (so : Id → Ob) (γ : Gh) (k : Nat) (s : Ln) (g : Gv) : Prop where
  le : s.le g.s
  len : k + g.os.length = max k g.s.perm.length
  vlen : g.vers.length = g.os.length
  get : ∀ i ob ver, g.os[i]? = some ob → g.vers[i]? = some ver → ∃ x, g.s.perm[k + i]? = some x ∧ GivenO E w K so γ g.s x ob ver
theorem GivenO.mono {s s' : Ln} {x : Id} {ob : Ob} {ver : Nat} (h : GivenO E w K so γ s x ob ver) (hle : s.le s') : GivenO E w K so γ s' x ob ver :=
  ⟨h.no, h.no', h.row, h.va, h.ma, h.ver, fun sf soc γc Kc hl hc => h.ob sf soc γc Kc (hle.trans hl) hc⟩
theorem giveOs_ok (h : Rel E w0 M K γ σ tm w) : ∀ (fuel k : Nat) {s : Ln} {Q : Gv → Prop}, (giveOs fuel k s).ok σ.d σ.o Q → ∃ g, Q g ∧ GivenG E w K σ.o γ k s g
  | 0, k, s, Q, hp => hp.elim
  | fuel + 1, k, s, Q, hp => by
    simp only [giveOs] at hp
    split at hp
    · rename_i hn
      refine ⟨_, hp, .refl s, ?_, rfl, fun i ob ver hi => by simp at hi⟩
      rw [List.getElem?_eq_none_iff] at hn
      simp only [List.length_nil, Nat.add_zero]
      omega
    · rename_i x hx
      -- one more
      have more : ∀ {s' : Ln} {ob : Ob} {ver : Nat}, s.le s' → GivenO E w K σ.o γ s' x ob ver → (giveOs fuel (k + 1) s').ok σ.d σ.o (fun z => Q ⟨ob :: z.os, ver :: z.vers, z.s⟩) → ∃ g, Q g ∧ GivenG E w K σ.o γ k s g := by
        intro s' ob ver hle hob hp
        obtain ⟨g, hq, h1, h2, h3, h4⟩ := giveOs_ok h fuel (k + 1) hp
        have hxg := (hle.trans h1).get hx
        have hlt := (List.getElem?_eq_some_iff.1 hxg).1
        refine ⟨_, hq, hle.trans h1, ?_, by simp [h3], fun i ob' ver' hi hv => ?_⟩
        · simp only [List.length_cons]; omega
        · cases i with
          | zero =>
            simp only [List.getElem?_cons_zero, Option.some.injEq] at hi hv
            subst hi; subst hv
            exact ⟨x, hxg, hob.mono h1⟩
          | succ i =>
            obtain ⟨y, g1, g2⟩ := h4 i ob' ver' (by simpa using hi) (by simpa using hv)
            exact ⟨y, by rw [show k + (i + 1) = k + 1 + i by omega]; exact g1, g2⟩
      have hob := h.ob x
      simp only [ok_bind, ok_getO] at hp
      split at hp
      · rename_i ls ho
        simp only [ok_bind, ok_pure] at hp
        rw [ho] at hob
        obtain ⟨b, cs, T, e1, e2, e3, e4⟩ := hob
        obtain ⟨y, hp, hle, hs⟩ := giveLs_ok e3 hp
        refine more hle ⟨by simp, (by rw [ho]; simp), (by rw [ho] <;> rfl), (by rw [ho] <;> rfl), (by rw [ho] <;> rfl), fun v hv => (by rw [ho] at hv; cases hv), fun sf soc γc Kc hl hc => ?_⟩ hp
        exact ⟨b, cs, T, e1, e2, hs sf soc γc Kc hl hc, e4⟩
      · rename_i f ver e sh ow v ho
        simp only [ok_bind, ok_pure] at hp
        have hle : s.le { s with f := s.f && (f || flatO sh ow) } := ⟨⟨[], by simp⟩, fun _ h => h, fun e => by simp at e; exact e.1, fun h => h⟩
        refine more hle ⟨by simp, (by rw [ho]; simp), (by rw [ho] <;> rfl), (by rw [ho] <;> rfl), (by rw [ho] <;> rfl), fun v hv => (by rw [ho] at hv; cases hv; rfl), fun sf soc γc Kc hl hc => ?_⟩ hp
        rw [ho] at hob
        refine ⟨hob.1.mono (fun _ _ => rfl) (fun i cs G _ _ hel => ?_), fun c hc => by cases hc⟩
        have hel' : Tv E w (K f) sh ow (v.getD i sh.zero) cs G := hel
        show Tv E w (Kc (flatO sh ow)) sh ow (v.getD i sh.zero) cs G
        cases hfl : flatO sh ow with
        | true => exact flat_tv hfl hel'
        | false => exact hel'.mono (fun b hb => hc.kf f b (fun e => by have := hl.f e; simp [hfl] at this; exact this.2) hb) (fun _ _ => rfl) (fun _ _ => rfl)
      · exact hp.elim
      · rename_i f ver sh v ho
        simp only [ok_bind, ok_pure] at hp
        have hle : s.le { s with f := s.f && f } := ⟨⟨[], by simp⟩, fun _ h => h, fun e => by simp at e; exact e.1, fun h => h⟩
        refine more hle ⟨by simp, (by rw [ho]; simp), (by rw [ho] <;> rfl), (by rw [ho] <;> rfl), (by rw [ho] <;> rfl), fun v hv => (by rw [ho] at hv; cases hv; rfl), fun sf soc γc Kc hl hc => ?_⟩ hp
        rw [ho] at hob
        exact ⟨Ro.mono (fun b hb => hc.kf f b (fun e => by have := hl.f e; simp at this; exact this.2) hb) (fun _ _ => rfl) hob.1, hob.2⟩
      · rename_i a c v ho
        simp only [ok_bind, ok_pure] at hp
        refine more (.refl s) ⟨by simp, (by rw [ho]; simp), (by rw [ho] <;> rfl), (by rw [ho] <;> rfl), (by rw [ho] <;> rfl), fun v hv => (by rw [ho] at hv; cases hv), fun sf soc γc Kc hl hc => ?_⟩ hp
        rw [ho] at hob
        exact hob
      · rename_i ho
        simp only [ok_bind, ok_pure] at hp
        refine more (.refl s) ⟨by simp, (by rw [ho]; simp), (by rw [ho] <;> rfl), (by rw [ho] <;> rfl), (by rw [ho] <;> rfl), fun v hv => (by rw [ho] at hv; cases hv), fun sf soc γc Kc hl hc => ?_⟩ hp
        rw [ho] at hob
        exact hob
      · exact hp.elim
end
end Go.En
end
section
/-
  The engine, part ND: what comes back; calls.
-/
namespace Go.En
open Go

section
variable {E : Ctx0} {w0 w w' : World} {M : Ml} {K : Bool → Nat → Prop} {γ : Gh} {σ : Sg} {tm : Array Value} {P : Program} {so : Id → Ob}

theorem pick_ok {α : Type} {o : Out} {sd : Nat → D} {f : Lf → Rd α} {Q : α → Prop} (h : (o.rd >>= f).ok sd so Q) : ∃ lf, o.pick = some lf ∧ (f lf).ok sd so Q := by
  rw [ok_bind] at h
  induction o with
  | leaf res old new => exact ⟨_, rfl, h⟩
  | br c a b iha ihb =>
    cases c with
    | true => exact iha h
    | false => exact ihb h
  | fail => exact h.elim

/-! ### the function's state, at its start -/
section start
variable {s : Ln} {os : List Ob} {vers : List Nat}
def lentB (K : Bool → Nat → Prop) (γ : Gh) (s : Ln) : Bool → Nat → Prop
  | true, b => ∃ x, x ∈ s.perm ∧ b ∈ γ.fp x
  | false, b => (s.rd = [] ∧ K s.f b) ∨ (s.rd ≠ [] ∧ (K false b ∨ ∃ o, o ∈ s.rd ∧ b ∈ γ.fp o))
def lentM (K : Bool → Nat → Prop) (γ : Gh) (s : Ln) (os : List Ob) : Ml := ⟨lentB K γ s, os.length, fun j => os.getD j .no, fun j => γ.hd (s.perm.getD j ⟨0, 0⟩)⟩
def lentG (γ : Gh) (s : Ln) : Gh := ⟨fun x => match x.t with | 0 => γ.hd (s.perm.getD x.j ⟨0, 0⟩) | _ => .bool true, fun x => match x.t with | 0 => (match s.perm[x.j]? with | some y => γ.fp y | none => []) | _ => []⟩

theorem sgOf_o0 (ds : List D) (os new : List Ob) (j : Nat) : (sgOf ds os new).o ⟨0, j⟩ = os.getD j .no := rfl
theorem sgOf_o1 (ds : List D) (os new : List Ob) (j : Nat) : (sgOf ds os new).o ⟨1, j⟩ = new.getD j .no := rfl
theorem sgOf_o2 (ds : List D) (os new : List Ob) (t j : Nat) : (sgOf ds os new).o ⟨t + 2, j⟩ = .no := by simp [sgOf, St.sg, St.o]

theorem lent_cal (h : Rel E w0 M K γ σ tm w) {g : Gv} (hg : GivenG E w K σ.o γ 0 s g) (ds : List D) : Cal K σ.o γ g.s (sgOf ds g.os []).o (lentG γ g.s) (K0 (lentM K γ g.s g.os)) := by
  refine ⟨fun k x hk => ?_, fun f b hf hb => ⟨rfl, ?_⟩, fun o ho b hb => ⟨rfl, .inr ⟨?_, ?_⟩⟩⟩
  · have hl := hg.len
    have hlt := (List.getElem?_eq_some_iff.1 hk).1
    have hok : k < g.os.length := by omega
    obtain ⟨y, h1, h2⟩ := hg.get k _ _ (List.getElem?_eq_getElem hok) (List.getElem?_eq_getElem (by rw [hg.vlen]; exact hok))
    rw [Nat.zero_add, hk] at h1
    obtain rfl := Option.some.inj h1
    have e : (sgOf ds g.os []).o ⟨0, k⟩ = g.os[k] := by rw [sgOf_o0, List.getD_eq_getElem?_getD, List.getElem?_eq_getElem hok]; rfl
    rw [e]
    refine ⟨h2.no, h2.row, h2.va, h2.ma, ?_⟩
    simp only [lentG, List.getD_eq_getElem?_getD, hk, Option.getD_some]
  · by_cases hr : g.s.rd = []
    · refine .inl ⟨hr, ?_⟩
      cases hs : g.s.f with
      | true => rw [hf hs] at hb; exact hb
      | false => cases f with
        | true => exact h.kk b hb
        | false => exact hb
    · refine .inr ⟨hr, .inl ?_⟩
      cases f with
      | true => exact h.kk b hb
      | false => exact hb
  · intro e; rw [e] at ho; cases ho
  · rcases hb with hb | hb
    · exact .inr ⟨o, ho, hb⟩
    · left
      cases hfl : flOf (σ.o o) with
      | true => rw [hfl] at hb; exact h.kk b hb
      | false => rw [hfl] at hb; exact hb

theorem DsR.get {K' : Bool → Nat → Prop} {γ' : Gh} : ∀ {ds : List D} {vs : List Value}, DsR E w K' so γ' ds vs → ds.length = vs.length ∧ ∀ t, DR E w K' so γ' (ds.getD t dead) (vs.getD t undef)
  | [], vs, h => by rw [show vs = [] from h]; exact ⟨rfl, fun t => by simp only [List.getD_nil]; rfl⟩
  | d :: ds, vs, ⟨y, ys, e, h1, h2⟩ => by
    subst e
    obtain ⟨g1, g2⟩ := DsR.get h2
    refine ⟨by simp [g1], fun t => ?_⟩
    cases t with
    | zero => exact h1
    | succ t => exact g2 t

theorem lent_rel (h : Rel E w0 M K γ σ tm w) {g : Gv} (hg : GivenG E w K σ.o γ 0 s g) (hnd : g.s.perm.Nodup) (hrd : ∀ x, x ∈ g.s.rd → ¬ x ∈ g.s.perm) {ds : List D} {vs : Array Value}
    (hds : DsR E w (K0 (lentM K γ g.s g.os)) (sgOf ds g.os []).o (lentG γ g.s) ds vs.toList) : Rel E w (lentM K γ g.s g.os) (K0 (lentM K γ g.s g.os)) (lentG γ g.s) (sgOf ds g.os []) vs w := by
  have hcal := lent_cal h hg ds
  have hlen : g.os.length = g.s.perm.length := by have := hg.len; omega
  have hfp : ∀ o b, b ∈ (lentG γ g.s).fp o → ∃ k x, o = ⟨0, k⟩ ∧ g.s.perm[k]? = some x ∧ b ∈ γ.fp x := by
    rintro ⟨t, j⟩ b hb
    cases t with
    | zero =>
      simp only [lentG] at hb
      cases hp : g.s.perm[j]? with
      | none => rw [hp] at hb; cases hb
      | some y => rw [hp] at hb; exact ⟨j, y, rfl, hp, hb⟩
    | succ t => cases hb
  have hMt : ∀ b, (lentM K γ g.s g.os) true b → w0.heap.size ≤ b ∨ M true b := by
    rintro b ⟨x, _, hx⟩; exact (h.ow x b hx).1
  have hMf : ∀ b, (lentM K γ g.s g.os) false b → b < w.heap.size := by
    rintro b (⟨_, hb⟩ | ⟨_, hb | ⟨o, _, hb⟩⟩)
    · exact h.kb _ b hb
    · exact h.kb _ b hb
    · exact (h.ow o b hb).2.1
  obtain ⟨d1, d2⟩ := hds.get
  constructor
  · show vs.size = ds.length
    rw [d1]; simp
  · intro t
    have := d2 t
    have e : vs.toList.getD t undef = tmv vs t := by simp [tmv, Array.getD_eq_getD_getElem?, List.getD_eq_getElem?_getD]
    rw [e] at this
    exact this
  · rintro ⟨t, j⟩
    match t with
    | 0 =>
      rw [sgOf_o0]
      by_cases hj : j < g.os.length
      · obtain ⟨x, h1, h2⟩ := hg.get j _ _ (List.getElem?_eq_getElem hj) (List.getElem?_eq_getElem (by rw [hg.vlen]; exact hj))
        rw [Nat.zero_add] at h1
        have e : g.os.getD j .no = g.os[j] := by rw [List.getD_eq_getElem?_getD, List.getElem?_eq_getElem hj]; rfl
        have e2 : (lentG γ g.s).hd ⟨0, j⟩ = γ.hd x := by simp only [lentG, List.getD_eq_getElem?_getD, h1, Option.getD_some]
        have e3 : (lentG γ g.s).fp ⟨0, j⟩ = γ.fp x := by simp only [lentG, h1]
        rw [e, e2, e3]
        exact h2.ob _ _ _ _ (.refl _) hcal
      · have e : g.os.getD j .no = .no := by rw [List.getD_eq_getElem?_getD, List.getElem?_eq_none (by omega)]; rfl
        rw [e]
        show (lentG γ g.s).fp ⟨0, j⟩ = []
        simp only [lentG, List.getElem?_eq_none (show g.s.perm.length ≤ j by omega)]
    | 1 => rw [sgOf_o1]; rfl
    | t + 2 => rw [sgOf_o2]; rfl
  · intro o o' b hb hb'
    obtain ⟨k, x, rfl, h1, h2⟩ := hfp o b hb
    obtain ⟨k', x', rfl, h3, h4⟩ := hfp o' b hb'
    obtain rfl := h.dj x x' b h2 h4
    have := (List.getElem?_inj (List.getElem?_eq_some_iff.1 h1).1 hnd).1 (h1.trans h3.symm)
    rw [this]
  · rintro ⟨t, j⟩
    cases t with
    | zero =>
      simp only [lentG]
      cases g.s.perm[j]? with
      | none => exact List.nodup_nil
      | some y => exact h.nd y
    | succ t => exact List.nodup_nil
  · intro o b hb
    obtain ⟨k, x, rfl, h1, h2⟩ := hfp o b hb
    have hx := List.mem_of_getElem? h1
    obtain ⟨a1, a2, a3⟩ := h.ow x b h2
    refine ⟨.inr ⟨x, hx, h2⟩, a2, ?_⟩
    rintro ⟨_, hm⟩
    rcases hm with ⟨_, hb⟩ | ⟨_, hb | ⟨o, ho, hb⟩⟩
    · cases hs : g.s.f with
      | true => rw [hs] at hb; exact a3 (h.kk b hb)
      | false => rw [hs] at hb; exact a3 hb
    · exact a3 hb
    · have := h.dj o x b hb h2
      subst this
      exact hrd o ho hx
  · rintro f b ⟨_, hb⟩; exact hMf b hb
  · rintro b ⟨hb, _⟩; cases hb
  · rintro b ⟨hb, _⟩; cases hb
  · rintro b ⟨_, hb⟩; exact .inr (.inr hb)
  · exact Nat.le_refl _
  · intro b _ _; rfl
  · rfl
  · rfl
  · rfl
  · refine ⟨fun hne => ?_, fun p hp => ?_, fun p hp hm => ?_⟩
    · obtain ⟨g1, g2, g3⟩ := h.g0.c hne
      refine ⟨fun v hv => ?_, Nat.lt_of_lt_of_le g2 h.sz, ?_⟩
      · have := g1 v hv
        rw [← this]
        exact cell_of_heap (h.fr 0 g2 g3)
      · intro hm
        rcases hMt 0 hm with h1 | h1
        · omega
        · exact g3 h1
    · obtain ⟨g1, g2⟩ := h.g0.x.1 p hp
      refine ⟨Nat.lt_of_lt_of_le g1 h.sz, fun i v hv => ?_⟩
      rw [← g2 i v hv]
      exact cell_of_heap (h.fr p.1 g1 (h.g0.x.2 p hp))
    · obtain ⟨g1, _⟩ := h.g0.x.1 p hp
      rcases hMt p.1 hm with h1 | h1
      · omega
      · exact h.g0.x.2 p hp h1
  · intro j hj
    have hj' : j < g.os.length := hj
    obtain ⟨x, h1, h2⟩ := hg.get j _ _ (List.getElem?_eq_getElem hj') (List.getElem?_eq_getElem (by rw [hg.vlen]; exact hj'))
    have e : (sgOf ds g.os []).o ⟨0, j⟩ = g.os[j] := by rw [sgOf_o0, List.getD_eq_getElem?_getD, List.getElem?_eq_getElem hj']; rfl
    have e1 : (lentM K γ g.s g.os).ob j = g.os[j] := by show g.os.getD j .no = _; rw [List.getD_eq_getElem?_getD, List.getElem?_eq_getElem hj']; rfl
    rw [e]
    refine ⟨h2.no, fun q hq => ⟨by rw [e1]; exact hq, rfl⟩, fun hq => ⟨by rw [e1]; exact hq, rfl⟩, fun hq => ⟨by rw [e1]; exact hq, rfl⟩⟩
end start

/-! ### what comes back -/
section back
variable {k : Bk} {soc so' : Id → Ob} {γc γ' : Gh} {Kc K' : Bool → Nat → Prop}
/-- the objects that the function told of are ours, by other names -/
structure Bck (k : Bk) (soc so' : Id → Ob) (γc γ' : Gh) (Kc K' : Bool → Nat → Prop) : Prop where
  o : ∀ x y, k.id x = some y → soc x ≠ .no → so' y ≠ .no ∧ rowSz (so' y) = rowSz (soc x) ∧ isVa (so' y) = isVa (soc x) ∧ isMa (so' y) = isMa (soc x) ∧ γ'.hd y = γc.hd x
  t : ∀ b, Kc true b → K' true b
  f : k.own = false → ∀ b, Kc false b → K' k.f b
  tf : ∀ b, K' true b → K' false b

theorem CpsR.back (h : Bck k soc so' γc γ' Kc K') : ∀ {cs cs' : List Cp} {xs : List Value}, backCps k cs = some cs' → CpsR E w Kc soc γc cs xs → CpsR E w K' so' γ' cs' xs
  | [], cs', [], hr, _ => by simp only [backCps, Option.some.injEq] at hr; subst hr; trivial
  | [], cs', _ :: _, hr, hc => hc.elim
  | _ :: _, cs', [], hr, hc => hc.elim
  | c :: cs, cs', x :: xs, hr, hc => by
    cases c with
    | b o =>
      simp only [backCps] at hr
      split at hr
      · rename_i o' cs'' h1 h2
        simp only [Option.some.injEq] at hr; subst hr
        obtain ⟨e1, e2, e3, e4, e5⟩ := h.o o o' h1 hc.1.1.1
        exact ⟨⟨⟨e1, hc.1.1.2⟩, fun hv => by rw [e3] at hv; rw [e5]; exact hc.1.2 hv⟩, CpsR.back h h2 hc.2⟩
      · cases hr
    | np =>
      simp only [backCps] at hr
      split at hr
      · rename_i cs'' h2
        simp only [Option.some.injEq] at hr; subst hr
        exact ⟨hc.1, CpsR.back h h2 hc.2⟩
      · cases hr
    | d f sh v =>
      simp only [backCps] at hr
      split at hr
      · rename_i cs'' h2
        split at hr
        · rename_i hf
          simp only [Option.some.injEq] at hr; subst hr
          refine ⟨?_, CpsR.back h h2 hc.2⟩
          have h1 : Ro E w (Kc f) sh v [x] := hc.1
          rw [hf] at h1
          exact h1.mono h.t (fun _ _ => rfl)
        · rename_i hf
          split at hr
          · cases hr
          · rename_i ho
            simp only [Option.some.injEq] at hr; subst hr
            refine ⟨?_, CpsR.back h h2 hc.2⟩
            have h1 : Ro E w (Kc f) sh v [x] := hc.1
            have hf' : f = false := by simpa using hf
            rw [hf'] at h1
            exact h1.mono (h.f (by simpa using ho)) (fun _ _ => rfl)
      · cases hr
theorem LR.back (h : Bck k soc so' γc γ' Kc K') {l l' : L} (hb : backL k l = some l') {cs : List Value} (hl : LR E w Kc soc γc l cs) : LR E w K' so' γ' l' cs := by
  have mp : ∀ {α β : Type} {x : Option α} {f : α → β} {z : β}, x.map f = some z → ∃ y, x = some y ∧ f y = z := by
    intro α β x f z h
    cases x with
    | none => cases h
    | some y => exact ⟨y, rfl, by simpa using h⟩
  unfold backL at hb
  split at hb
  · obtain ⟨y, h1, rfl⟩ := mp hb
    obtain ⟨x, e, g1, g2⟩ := hl
    obtain ⟨e1, e2, e3, e4, e5⟩ := h.o _ y h1 g1.1
    exact ⟨x, e, ⟨e1, g1.2⟩, fun hr => by rw [e2] at hr; rw [e5]; exact g2 hr⟩
  · obtain ⟨y, h1, rfl⟩ := mp hb
    obtain ⟨x, e, g1, g2⟩ := hl
    obtain ⟨e1, e2, e3, e4, e5⟩ := h.o _ y h1 g1.1
    exact ⟨x, e, ⟨e1, g1.2⟩, fun m z hr => by rw [e2] at hr; rw [e5]; exact g2 m z hr⟩
  · obtain ⟨y, h1, rfl⟩ := mp hb
    obtain ⟨x, e, g1, g2⟩ := hl
    obtain ⟨e1, e2, e3, e4, e5⟩ := h.o _ y h1 g1.1
    exact ⟨x, e, ⟨e1, g1.2⟩, fun m z hr => by rw [e2] at hr; rw [e5]; exact g2 m z hr⟩
  · obtain ⟨y, h1, rfl⟩ := mp hb
    obtain ⟨x, e, g1, g2⟩ := hl
    obtain ⟨e1, e2, e3, e4, e5⟩ := h.o _ y h1 g1.1
    exact ⟨x, e, ⟨e1, g1.2⟩, fun hr => by rw [e3] at hr; rw [e5]; exact g2 hr⟩
  · obtain ⟨y, h1, rfl⟩ := mp hb
    obtain ⟨x, e, g1, g0, g2⟩ := hl
    obtain ⟨e1, e2, e3, e4, e5⟩ := h.o _ y h1 g1.1
    exact ⟨x, e, ⟨e1, g1.2⟩, g0, fun hr => by rw [e3] at hr; rw [e5]; exact g2 hr⟩
  · obtain ⟨y, h1, rfl⟩ := mp hb
    obtain ⟨x, e, g1, g2⟩ := hl
    obtain ⟨e1, e2, e3, e4, e5⟩ := h.o _ y h1 g1.1
    exact ⟨x, e, ⟨e1, g1.2⟩, fun hr => by rw [e4] at hr; rw [e5]; exact g2 hr⟩
  · rename_i f sh v
    have hl' : Ro E w (Kc f) sh v cs := hl
    split at hb
    · rename_i hf
      simp only [Option.some.injEq] at hb; subst hb
      show Ro E w (K' true) sh v cs
      cases hfl : flat sh with
      | true => exact flat_ro hfl hl'
      | false =>
        have : f = true := by simpa [hfl] using hf
        rw [this] at hl'
        exact hl'.mono h.t (fun _ _ => rfl)
    · rename_i hf
      split at hb
      · cases hb
      · rename_i ho
        simp only [Option.some.injEq] at hb; subst hb
        have : f = false := by
          cases f
          · rfl
          · simp at hf
        rw [this] at hl'
        exact Ro.mono (h.f (by simpa using ho)) (fun _ _ => rfl) hl'
  · simp only [Option.some.injEq] at hb; subst hb
    exact hl.1
  · obtain ⟨y, h1, rfl⟩ := mp hb
    obtain ⟨vs, e, g⟩ := hl
    exact ⟨vs, e, g.back h h1⟩
  · rename_i h1 h2 h3 h4 h5 h6 h7 h8 h9
    simp only [Option.some.injEq] at hb; subst hb
    cases l with
    | un n => exact hl
    | ud => exact hl
    | k c => exact hl
    | nl => exact hl
    | np => exact hl
    | nm => exact hl
    | rw o => exact absurd rfl (h1 o)
    | sl o off n => exact absurd rfl (h2 o off n)
    | pe o i j => exact absurd rfl (h3 o i j)
    | pv o j => exact absurd rfl (h4 o j)
    | px o j q sh i c => exact absurd rfl (h5 o j q sh i c)
    | mp o => exact absurd rfl (h6 o)
    | d pv sh v => cases pv with
      | fz f => exact absurd rfl (h7 f sh v)
      | bw o ver => exact absurd rfl (h8 o ver sh v)
    | fn g caps => exact absurd rfl (h9 g caps)
theorem LRs.back (h : Bck k soc so' γc γ' Kc K') : ∀ {ls ls' : List L} {cs : List Value}, backLs k ls = some ls' → LRs E w Kc soc γc ls cs → LRs E w K' so' γ' ls' cs
  | [], ls', cs, hb, hl => by simp only [backLs, Option.some.injEq] at hb; subst hb; exact hl
  | l :: ls, ls', cs, hb, ⟨c1, c2, e, g1, g2⟩ => by
    simp only [backLs] at hb
    split at hb
    · rename_i l1 ls1 h1 h2
      simp only [Option.some.injEq] at hb; subst hb
      exact ⟨c1, c2, e, g1.back h h1, LRs.back h h2 g2⟩
    · cases hb
theorem PtR.back (h : Bck k soc so' γc γ' Kc K') {p p' : Pt} (hb : backPt k p = some p') {x : Value} (hp : PtR E w Kc soc γc p x) : PtR E w K' so' γ' p' x := by
  cases p with
  | one l =>
    simp only [backPt] at hb
    cases hl : backL k l with
    | none => rw [hl] at hb; cases hb
    | some l' => rw [hl] at hb; simp only [Option.map_some, Option.some.injEq] at hb; subst hb; exact LR.back h hl hp
  | agg ls =>
    simp only [backPt] at hb
    obtain ⟨cs, e, g⟩ := hp
    cases hl : backLs k ls with
    | none => rw [hl] at hb; cases hb
    | some l' => rw [hl] at hb; simp only [Option.map_some, Option.some.injEq] at hb; subst hb; exact ⟨cs, e, g.back h hl⟩
theorem PtsR.back (h : Bck k soc so' γc γ' Kc K') : ∀ {ps ps' : List Pt} {xs : List Value}, backPts k ps = some ps' → PtsR E w Kc soc γc ps xs → PtsR E w K' so' γ' ps' xs ∧ ps'.length = ps.length
  | [], ps', xs, hb, hl => by simp only [backPts, Option.some.injEq] at hb; subst hb; exact ⟨hl, rfl⟩
  | p :: ps, ps', xs, hb, ⟨y, ys, e, g1, g2⟩ => by
    simp only [backPts] at hb
    split at hb
    · rename_i p1 ps1 h1 h2
      simp only [Option.some.injEq] at hb; subst hb
      obtain ⟨r1, r2⟩ := PtsR.back h h2 g2
      exact ⟨⟨y, ys, e, g1.back h h1, r1⟩, by simp [r2]⟩
    · cases hb
theorem resD_back (h : Bck k soc so' γc γ' Kc K') {ps ps' : List Pt} (hb : backPts k ps = some ps') {x : Value} (hd : DR E w Kc soc γc (resD ps) x) : DR E w K' so' γ' (resD ps') x := by
  match ps, hb, hd with
  | [], hb, hd =>
    simp only [backPts, Option.some.injEq] at hb; subst hb
    obtain ⟨vs, e, g⟩ := hd
    exact ⟨vs, e, g⟩
  | [p], hb, hd =>
    simp only [backPts] at hb
    split at hb
    · rename_i p1 ps1 h1 h2
      simp only [Option.some.injEq] at h2; subst h2
      simp only [Option.some.injEq] at hb; subst hb
      exact PtR.back h h1 hd
    · cases hb
  | p :: q :: ps, hb, hd =>
    obtain ⟨vs, e, g⟩ := hd
    obtain ⟨r1, r2⟩ := PtsR.back h hb g
    have : resD ps' = .tup ps' := by
      match ps', r2 with
      | _ :: _ :: _, _ => rfl
    rw [this]
    exact ⟨vs, e, r1⟩
theorem ObR.back (h : Bck k soc so' γc γ' Kc K') {ver : Nat} {ob ob' : Ob} (hb : backO k ver ob = some ob') {x : Value} {F : List Nat} (ho : ObR E w Kc soc γc ob x F) : ObR E w K' so' γ' ob' x F := by
  cases ob with
  | no => cases hb
  | gone => simp only [backO, Option.some.injEq] at hb; subst hb; exact ho
  | va ls =>
    simp only [backO] at hb
    obtain ⟨b, cs, T, e1, e2, e3, e4⟩ := ho
    cases hl : backLs k ls with
    | none => rw [hl] at hb; cases hb
    | some ls' => rw [hl] at hb; simp only [Option.map_some, Option.some.injEq] at hb; subst hb; exact ⟨b, cs, T, e1, e2, e3.back h hl, e4⟩
  | ro f ver' e sh ow v fc =>
    cases fc with
    | some c => simp [backO] at hb
    | none =>
      simp only [backO] at hb
      split at hb
      · rename_i hf
        simp only [Option.some.injEq] at hb; subst hb
        refine ⟨ho.1.mono (fun _ _ => rfl) (fun i cs G _ _ hel => ?_), fun c hc => by cases hc⟩
        have hel' : Tv E w (Kc f) sh ow (v.getD i sh.zero) cs G := hel
        show Tv E w (K' true) sh ow (v.getD i sh.zero) cs G
        cases hfl : flatO sh ow with
        | true => exact flat_tv hfl hel'
        | false =>
          have : f = true := by simpa [hfl] using hf
          rw [this] at hel'
          exact hel'.mono h.t (fun _ _ => rfl) (fun _ _ => rfl)
      · rename_i hf
        split at hb
        · cases hb
        · rename_i hown
          simp only [Option.some.injEq] at hb; subst hb
          refine ⟨ho.1.mono (fun _ _ => rfl) (fun i cs G _ _ hel => ?_), fun c hc => by cases hc⟩
          have hel' : Tv E w (Kc f) sh ow (v.getD i sh.zero) cs G := hel
          have : f = false := by
            cases f
            · rfl
            · simp at hf
          rw [this] at hel'
          exact hel'.mono (h.f (by simpa using hown)) (fun _ _ => rfl) (fun _ _ => rfl)
  | fz f ver' sh v =>
    simp only [backO] at hb
    split at hb
    · rename_i hf
      simp only [Option.some.injEq] at hb; subst hb
      have h1 : Ro E w (Kc f) (.l sh) v [x] := ho.1
      rw [hf] at h1
      exact ⟨h1.mono h.t (fun _ _ => rfl), ho.2⟩
    · rename_i hf
      split at hb
      · cases hb
      · rename_i hown
        simp only [Option.some.injEq] at hb; subst hb
        have h1 : Ro E w (Kc f) (.l sh) v [x] := ho.1
        have hf' : f = false := by simpa using hf
        rw [hf'] at h1
        exact ⟨Ro.mono (h.f (by simpa using hown)) (fun _ _ => rfl) h1, ho.2⟩
  | ma a c v => simp only [backO, Option.some.injEq] at hb; subst hb; exact ho
theorem backO_same {k : Bk} {ver : Nat} {ob ob' : Ob} (hb : backO k ver ob = some ob') : ob' ≠ .no ∧ rowSz ob' = rowSz ob ∧ isVa ob' = isVa ob ∧ isMa ob' = isMa ob ∧ ∀ v, verOf ob' = some v → v = ver + 1 := by
  cases ob with
  | no => cases hb
  | gone => simp only [backO, Option.some.injEq] at hb; subst hb; exact ⟨by simp, rfl, rfl, rfl, fun v hv => by cases hv⟩
  | va ls =>
    simp only [backO] at hb
    cases hl : backLs k ls with
    | none => rw [hl] at hb; cases hb
    | some ls' => rw [hl] at hb; simp only [Option.map_some, Option.some.injEq] at hb; subst hb; exact ⟨by simp, rfl, rfl, rfl, fun v hv => by cases hv⟩
  | ro f ver' e sh ow v fc =>
    cases fc with
    | some c => simp [backO] at hb
    | none =>
      simp only [backO] at hb
      split at hb
      · simp only [Option.some.injEq] at hb; subst hb; exact ⟨by simp, rfl, rfl, rfl, fun v hv => by cases hv; rfl⟩
      · split at hb
        · cases hb
        · simp only [Option.some.injEq] at hb; subst hb; exact ⟨by simp, rfl, rfl, rfl, fun v hv => by cases hv; rfl⟩
  | fz f ver' sh v =>
    simp only [backO] at hb
    split at hb
    · simp only [Option.some.injEq] at hb; subst hb; exact ⟨by simp, rfl, rfl, rfl, fun v hv => by cases hv; rfl⟩
    · split at hb
      · cases hb
      · simp only [Option.some.injEq] at hb; subst hb; exact ⟨by simp, rfl, rfl, rfl, fun v hv => by cases hv; rfl⟩
  | ma a c v => simp only [backO, Option.some.injEq] at hb; subst hb; exact ⟨by simp, rfl, rfl, rfl, fun v hv => by cases hv⟩
end back
end
end Go.En
end
