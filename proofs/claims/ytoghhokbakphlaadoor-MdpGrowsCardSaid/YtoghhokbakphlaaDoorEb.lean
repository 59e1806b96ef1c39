/-
  The engine, part Eb: an interpreter of the loaded code over typed values, and its soundness.
-/
import Derived.Test.YtoghhokbakphlaaDoorEa
import Derived.Laws.Tables
import Derived.Laws.OwnMore
import Derived.Maps.AppendAt
import Derived.Laws.CopyRow
import Derived.Laws.Small
import Derived.MapKept
import Derived.Laws.StructEq
section
/-
  The engine, part K: rows are taken; leaves become typed values.
-/
namespace Go.En
open Go

section
variable {E : Ctx0} {w0 w w' : World} {M : Ml} {K : Bool → Nat → Prop} {γ : Gh} {σ : Sg} {tm : Array Value} {P : Program} {sd : Nat → D} {so : Id → Ob}

def KZ (K : Bool → Nat → Prop) (γ : Gh) (ws : Wo) : Bool → Nat → Prop := fun f b => K f b ∨ Zof γ ws b

theorem setW_eq (σ : Sg) (ws : Wo) : σ.setW ws = { σ with o := (σ.setW ws).o } := by
  obtain ⟨h1, h2⟩ := setW_d ws σ
  have : ∀ τ : Sg, τ = ⟨τ.n, τ.d, τ.o⟩ := fun _ => rfl
  rw [this (σ.setW ws)]
  simp only [h1, h2]

theorem absF_nodup (h : Rel E w0 M K γ σ tm w) : ∀ {ws : Wo}, okW ws = true → (absF γ ws).Nodup
  | [], _ => List.nodup_nil
  | (k, ob) :: ws, ho => by
    have ho' : okW ws = true := by simp only [okW, Bool.and_eq_true] at ho; exact ho.2
    have ih := absF_nodup h ho'
    cases ob with
    | gone =>
      simp only [absF]
      refine List.nodup_append.2 ⟨h.nd k, ih, fun a ha b hb e => ?_⟩
      subst e
      obtain ⟨k', h1, h2⟩ := absF_mem.1 hb
      have hk : k' = k := h.dj k' k a h2 ha
      subst hk
      have := (okW_same ho h1 rfl).1
      cases this
    | _ => exact ih

theorem Rel.takeW (h : Rel E w0 M K γ σ tm w) {ws : Wo} (ho : okW ws = true) (hw : ∀ q, q ∈ ws → WOk σ q) :
    Rel E w0 M (KZ K γ ws) (γ.take ws) (σ.setW ws) tm w ∧ (∀ b, b ∈ absF γ ws → Free w0 M (KZ K γ ws) (γ.take ws) b ∧ b < w.heap.size) ∧ (absF γ ws).Nodup := by
  have hin : ∀ q, q ∈ ws → (σ.setW ws).o q.1 = q.2 := setW_mem ws σ ho hw
  have hout : ∀ o, (¬ ∃ q, q ∈ ws ∧ q.1 = o) → (σ.setW ws).o o = σ.o o := fun o hn => setW_o ws σ o (fun q hq e => hn ⟨q, hq, e⟩)
  have hfin : ∀ o, (∃ q, q ∈ ws ∧ q.1 = o) → (γ.take ws).fp o = [] := fun o hn => by rw [Gh.take_fp, if_pos hn]
  have hfout : ∀ o, (¬ ∃ q, q ∈ ws ∧ q.1 = o) → (γ.take ws).fp o = γ.fp o := fun o hn => by rw [Gh.take_fp, if_neg hn]
  have hfsub : ∀ o b, b ∈ (γ.take ws).fp o → b ∈ γ.fp o ∧ ¬ ∃ q, q ∈ ws ∧ q.1 = o := by
    intro o b hb
    by_cases hn : ∃ q, q ∈ ws ∧ q.1 = o
    · rw [hfin o hn] at hb; cases hb
    · rw [hfout o hn] at hb; exact ⟨hb, hn⟩
  have hx : Ext w w K (KZ K γ ws) σ.o (σ.setW ws).o γ (γ.take ws) := by
    refine ⟨fun _ _ h => .inl h, fun _ _ _ => rfl, ?_, ?_, ?_, ?_, ?_⟩
    · intro o hno
      by_cases hn : ∃ q, q ∈ ws ∧ q.1 = o
      · obtain ⟨q, hq, rfl⟩ := hn
        rw [hin q hq]
        obtain ⟨f, ver, e, sh, ow, v, _, h2 | h2⟩ := hw q hq <;> rw [h2] <;> simp
      · rw [hout o hn]; exact hno
    · intro o q' hno hr
      by_cases hn : ∃ q, q ∈ ws ∧ q.1 = o
      · obtain ⟨q, hq, rfl⟩ := hn
        rw [hin q hq] at hr
        obtain ⟨f, ver, e, sh, ow, v, h1, h2 | h2⟩ := hw q hq
        · rw [h2] at hr; cases hr
        · rw [h2] at hr; rw [h1]; exact ⟨hr, Gh.take_hd ..⟩
      · rw [hout o hn] at hr; exact ⟨hr, Gh.take_hd ..⟩
    · intro o hno hr
      by_cases hn : ∃ q, q ∈ ws ∧ q.1 = o
      · obtain ⟨q, hq, rfl⟩ := hn
        rw [hin q hq] at hr
        obtain ⟨f, ver, e, sh, ow, v, h1, h2 | h2⟩ := hw q hq <;> rw [h2] at hr <;> cases hr
      · rw [hout o hn] at hr; exact ⟨hr, Gh.take_hd ..⟩
    · intro o hno hr
      by_cases hn : ∃ q, q ∈ ws ∧ q.1 = o
      · obtain ⟨q, hq, rfl⟩ := hn
        rw [hin q hq] at hr
        obtain ⟨f, ver, e, sh, ow, v, h1, h2 | h2⟩ := hw q hq <;> rw [h2] at hr <;> cases hr
      · rw [hout o hn] at hr; exact ⟨hr, Gh.take_hd ..⟩
    · intro o v hno hr
      by_cases hn : ∃ q, q ∈ ws ∧ q.1 = o
      · obtain ⟨q, hq, rfl⟩ := hn
        rw [hin q hq] at hr
        obtain ⟨f, ver, e, sh, ow, vv, h1, h2 | h2⟩ := hw q hq
        · rw [h2] at hr; cases hr
        · rw [h2] at hr; rw [h1]
          exact ⟨v, hr, Nat.le_refl _, fun _ => ⟨by rw [hin q hq, h2]; rfl, fun b hb => ⟨.inr (.inr ⟨q, hq, by rw [h2]; rfl, hb⟩), rfl⟩⟩⟩
      · rw [hout o hn] at hr
        exact ⟨v, hr, Nat.le_refl _, fun _ => ⟨by rw [hout o hn], fun b hb => ⟨.inl (by rw [hfout o hn]; exact hb), rfl⟩⟩⟩
  have hnK : ∀ o b, b ∈ γ.fp o → (∀ q, q ∈ ws → isFz q.2 = true → q.1 ≠ o) → ¬ KZ K γ ws false b := by
    rintro o b hb hne (hk | ⟨q, hq, hz, hb'⟩)
    · exact (h.ow o b hb).2.2 hk
    · exact hne q hq hz (h.dj _ _ b hb' hb)
  have hrel : Rel E w0 M (KZ K γ ws) (γ.take ws) (σ.setW ws) tm w := by
    rw [setW_eq]
    refine h.chg hx ?_ ?_ ?_ ?_ ?_ ?_ ?_ ?_ (Nat.le_refl _) (fun _ _ _ => rfl) rfl rfl rfl
    · intro o
      by_cases hn : ∃ q, q ∈ ws ∧ q.1 = o
      · right
        rw [Gh.take_hd, hfin o hn]
        obtain ⟨q, hq, rfl⟩ := hn
        rw [hin q hq]
        obtain ⟨f, ver, e, sh, ow, v, h1, h2 | h2⟩ := hw q hq
        · rw [h2]; rfl
        · rw [h2]
          refine ⟨?_, rfl⟩
          have hob := h.ob q.1
          rw [h1] at hob
          refine hob.1.ro (fun i hi cs G hG hel => ?_) (fun b hb => .inr ⟨q, hq, by rw [h2]; rfl, hb⟩)
          have := Tv.ro hel
          rw [getD_get hi] at this
          exact this.mono (fun b hb => hb.elim (fun hb => .inr ⟨q, hq, by rw [h2]; rfl, hG b hb⟩) .inl) (fun _ _ => rfl)
      · exact .inl ⟨hout o hn, Gh.take_hd .., hfout o hn, fun _ _ => rfl⟩
    · intro o o' b hb hb'
      exact h.dj o o' b (hfsub o b hb).1 (hfsub o' b hb').1
    · intro o
      by_cases hn : ∃ q, q ∈ ws ∧ q.1 = o
      · rw [hfin o hn]; exact List.nodup_nil
      · rw [hfout o hn]; exact h.nd o
    · intro o b hb
      obtain ⟨h1, h2⟩ := hfsub o b hb
      exact ⟨(h.ow o b h1).1, (h.ow o b h1).2.1, hnK o b h1 (fun q hq _ e => h2 ⟨q, hq, e⟩)⟩
    · rintro f b (hk | ⟨q, hq, hz, hb⟩)
      · exact h.kb f b hk
      · exact (h.ow _ b hb).2.1
    · rintro b (hk | hz)
      · exact .inl (h.kk b hk)
      · exact .inr hz
    · rintro b (hk | ⟨q, hq, hz, hb⟩)
      · exact h.k1 b hk
      · exact (h.ow _ b hb).1
    · rintro b (hk | ⟨q, hq, hz, hb⟩)
      · exact h.k0 b hk
      · exact (h.ow _ b hb).1.imp id .inl
  refine ⟨hrel, fun b hb => ?_, absF_nodup h ho⟩
  obtain ⟨k, h1, h2⟩ := absF_mem.1 hb
  refine ⟨⟨(h.ow k b h2).1, hnK k b h2 (fun q hq hz e => ?_), fun o hbo => ?_⟩, (h.ow k b h2).2.1⟩
  · have e1 := hin (k, .gone) h1
    have e2 := hin q hq
    rw [e] at e2
    rw [← e2, e1] at hz; cases hz
  · obtain ⟨h3, h4⟩ := hfsub o b hbo
    obtain rfl := h.dj k o b h2 h3
    exact h4 ⟨_, h1, rfl⟩

/-! ### leaves become typed values -/
theorem castV_ro {Kf : Nat → Prop} {sh' sh : Sh} {v' : Val sh'} {v : Val sh} (h : castV (c := sh) v' = some v) {cs : List Value} (hr : Ro E w Kf sh' v' cs) : Ro E w Kf sh v cs := by
  unfold castV at h
  split at h
  · rename_i he
    have := Sh.eqb_eq he
    subst this
    simp only [Option.some.injEq] at h
    subst h; exact hr
  · cases h
theorem castV_eq {sh' sh : Sh} {v' : Val sh'} {v : Val sh} (h : castV (c := sh) v' = some v) : sh' = sh ∧ HEq v' v := by
  unfold castV at h
  split at h
  · rename_i he
    have := Sh.eqb_eq he
    subst this
    simp only [Option.some.injEq] at h
    subst h; exact ⟨rfl, HEq.rfl⟩
  · cases h

theorem Rel.ro_none (h : Rel E w0 M K γ σ tm w) {k : Id} {f : Bool} {ver : Nat} {e : TypeId} {sh : Sh} {ow : Ow} {v : List (Val sh)} (ho : σ.o k = .ro f ver e sh ow v none) :
    Row w e sh.sz v.length (γ.hd k) (γ.fp k) (fun i cs F => Tv E w (K f) sh ow (v.getD i sh.zero) cs F) := by
  have hob := h.ob k
  rw [ho] at hob; exact hob.1
theorem Rel.ro_ro (h : Rel E w0 M K γ σ tm w) {k : Id} {f : Bool} {ver : Nat} {e : TypeId} {sh : Sh} {ow : Ow} {v : List (Val sh)} (ho : σ.o k = .ro f ver e sh ow v none) : Ro E w (fun b => b ∈ γ.fp k ∨ K f b) (.l sh) v [γ.hd k] := by
  refine (h.ro_none ho).ro (fun i hi cs G hG hel => ?_) (fun b hb => .inl hb)
  have := Tv.ro hel
  rw [getD_get hi] at this
  exact this.mono (fun b hb => hb.elim (fun hb => .inl (hG b hb)) .inr) (fun _ _ => rfl)
theorem Ro.slc {Kf : Nat → Prop} {sh : Sh} {v : List (Val sh)} {x y : Value} (h : Ro E w Kf (.l sh) v [x]) {off n : Nat} (hs : SlR x sh.sz off n y) : Ro E w Kf (.l sh) ((v.drop off).take n) [y] := by
  obtain ⟨ad, m, c, rfl, hle, ad', c', rfl, hnc, hpos, _⟩ := hs
  rcases Ro.inv_l h with ⟨rfl, ad0, c0, h1⟩ | ⟨b, o, c0, css, h1, hK, hc, hel, hcell⟩
  · injection h1 with _ e2 _
    have hn : n = 0 := by omega
    subst hn
    simp only [List.drop_nil, List.take_nil]
    exact .l0
  · injection h1 with e1 e2 e3
    subst e2; subst e1
    by_cases hn : n = 0
    · subst hn; simp only [List.take_zero]; exact .l0
    · obtain ⟨b', o', e4, e5⟩ := hpos (by omega)
      injection e4 with e4; injection e4 with e4 e6
      subst e4; subst e6; subst e5
      have hl : ((v.drop off).take n).length = n := by simp; omega
      refine .l (fun i => css (off + i)) (by rw [hl]) hK hnc (fun i hi => ?_) (fun i j z hi hj => ?_)
      · rw [hl] at hi
        have : ((v.drop off).take n)[i]'(by rw [hl]; exact hi) = v[off + i]'(by omega) := by simp [List.getElem_take, List.getElem_drop]
        rw [this]; exact hel _ (by omega)
      · rw [hl] at hi
        have := hcell (off + i) j z (by omega) hj
        rw [show o + off * sh.sz + (i * sh.sz + j) = o + ((off + i) * sh.sz + j) from by rw [Nat.add_mul]; omega]
        exact this

/-- what a packed value is -/
def PkOk (γ : Gh) (σ : Sg) (ws : Wo) : Prop := (∀ q, q ∈ ws → WOk σ q) ∧ absF γ ws = []
theorem Zof_one {k : Id} {f : Bool} {ver : Nat} {sh : Sh} {v : List (Val sh)} {b : Nat} (hb : b ∈ γ.fp k) : Zof γ [(k, .fz f ver sh v)] b := ⟨_, List.mem_singleton.2 rfl, rfl, hb⟩
theorem PkOk.nil : PkOk γ σ [] := ⟨fun q hq => (by cases hq), rfl⟩

theorem ok_pk1 (h : Rel E w0 M K γ σ tm w) {sh : Sh} {l : L} {cs : List Value} (hl : LR E w K σ.o γ l cs) {Q : Pk (Val sh) → Prop} (hp : (pk1 sh l).ok σ.d σ.o Q) :
    ∃ x, Q x ∧ PkOk γ σ x.ws ∧ Ro E w (KZ K γ x.ws x.f) sh x.v cs := by
  have frz : ∀ {k : Id} {f : Bool} {ver : Nat} {e : TypeId} {s2 : Sh} {ow : Ow} {v2 : List (Val s2)}, σ.o k = .ro f ver e s2 ow v2 none → PkOk γ σ [(k, .fz f ver s2 v2)] := by
    intro k f ver e s2 ow v2 ho
    refine ⟨fun q hq => ?_, rfl⟩
    rw [List.mem_singleton] at hq; subst hq
    exact ⟨f, ver, e, s2, ow, v2, ho, .inr rfl⟩
  have toZ : ∀ {k : Id} {f : Bool} {ver : Nat} {s2 : Sh} {v2 : List (Val s2)} {b : Nat}, b ∈ γ.fp k ∨ K f b → KZ K γ [(k, .fz f ver s2 v2)] f b := fun hb => hb.elim (fun hb => .inr (Zof_one hb)) .inl
  unfold pk1 at hp
  split at hp
  · rename_i f sh' v
    simp only [ok_bind, ok_opt, ok_pure] at hp
    obtain ⟨u, hc, hq⟩ := hp
    exact ⟨_, hq, .nil, castV_ro hc (Ro.mono (fun b hb => .inl hb) (fun _ _ => rfl) hl)⟩
  · rename_i c
    simp only [ok_bind, ok_opt, ok_pure] at hp
    obtain ⟨u, hc, hq⟩ := hp
    refine ⟨_, hq, .nil, castV_ro hc ?_⟩
    rw [show cs = [.bool c] from hl]; exact .b
  · rename_i o ver sh' v
    simp only [ok_bind, ok_getO] at hp
    split at hp
    · rename_i f ver' e s2 ow v2 ho
      simp only [ok_bind, ok_chk, ok_opt, ok_pure] at hp
      obtain ⟨hv, u, hc, hq⟩ := hp
      obtain rfl : ver = ver' := by simpa using hv
      refine ⟨_, hq, frz ho, castV_ro hc ?_⟩
      have := hl.2.2.2 (by rw [ho]; rfl)
      rw [ho] at this
      exact this.mono (fun b hb => toZ hb) (fun _ _ => rfl)
    · rename_i f ver' s2 v2 ho
      simp only [ok_bind, ok_chk, ok_opt, ok_pure] at hp
      obtain ⟨hv, u, hc, hq⟩ := hp
      obtain rfl : ver = ver' := by simpa using hv
      refine ⟨_, hq, .nil, castV_ro hc ?_⟩
      have := hl.2.2.2 (by rw [ho]; rfl)
      rw [ho] at this
      have hob := h.ob o
      rw [ho] at hob
      exact this.mono (fun b hb => .inl (hb.elim (fun hb => by rw [hob.2] at hb; cases hb) (fun hb => hb))) (fun _ _ => rfl)
    · exact hp.elim
  · split at hp
    · rename_i a
      refine ⟨_, hp, .nil, ?_⟩
      rw [show cs = [.slice none 0 0] from hl]; exact .l0
    · exact hp.elim
  · split at hp
    · rename_i a
      refine ⟨_, hp, .nil, ?_⟩
      rw [show cs = [.pointer none] from hl]; exact .o0
    · exact hp.elim
  · rename_i o
    obtain ⟨x, rfl, hno, hrw⟩ := hl
    simp only [ok_bind, ok_getO] at hp
    split at hp
    · rename_i f ver e s2 ow v2 ho
      simp only [ok_bind, ok_opt, ok_pure] at hp
      obtain ⟨u, hc, hq⟩ := hp
      refine ⟨_, hq, frz ho, castV_ro hc ?_⟩
      rw [hrw (by rw [ho]; rfl)]
      exact (h.ro_ro ho).mono (fun b hb => toZ hb) (fun _ _ => rfl)
    · rename_i f ver s2 v2 ho
      simp only [ok_bind, ok_opt, ok_pure] at hp
      obtain ⟨u, hc, hq⟩ := hp
      refine ⟨_, hq, .nil, castV_ro hc ?_⟩
      rw [hrw (by rw [ho]; rfl)]
      have hob := h.ob o
      rw [ho] at hob
      exact hob.1.mono (fun b hb => .inl hb) (fun _ _ => rfl)
    · exact hp.elim
  · rename_i o off n
    obtain ⟨x, rfl, hno, hsl⟩ := hl
    simp only [ok_bind, ok_getO] at hp
    split at hp
    · rename_i f ver e s2 ow v2 ho
      simp only [ok_bind, ok_opt, ok_pure] at hp
      obtain ⟨u, hc, hq⟩ := hp
      refine ⟨_, hq, frz ho, castV_ro hc ?_⟩
      exact ((h.ro_ro ho).mono (fun b hb => toZ hb) (fun _ _ => rfl)).slc (hsl v2.length s2.sz (by rw [ho]; rfl))
    · rename_i f ver s2 v2 ho
      simp only [ok_bind, ok_opt, ok_pure] at hp
      obtain ⟨u, hc, hq⟩ := hp
      refine ⟨_, hq, .nil, castV_ro hc ?_⟩
      have hob := h.ob o
      rw [ho] at hob
      exact (hob.1.mono (fun b hb => .inl hb) (fun _ _ => rfl)).slc (hsl v2.length s2.sz (by rw [ho]; rfl))
    · exact hp.elim
  · exact hp.elim

theorem KZ_mono (h : Rel E w0 M K γ σ tm w) (a c : Wo) (f g : Bool) : (∀ b, KZ K γ a f b → KZ K γ (a ++ c) (f && g) b) ∧ ∀ b, KZ K γ c g b → KZ K γ (a ++ c) (f && g) b := by
  have hk : ∀ f g : Bool, (∀ b, K f b → K (f && g) b) ∧ ∀ b, K g b → K (f && g) b := by
    intro f g
    cases f <;> cases g <;> exact ⟨fun b h' => by first | exact h' | exact h.kk b h', fun b h' => by first | exact h' | exact h.kk b h'⟩
  refine ⟨fun b hb => hb.imp ((hk f g).1 b) (fun hz => Zof_append.2 (.inl hz)), fun b hb => hb.imp ((hk f g).2 b) (fun hz => Zof_append.2 (.inr hz))⟩
theorem PkOk.append {a c : Wo} (h1 : PkOk γ σ a) (h2 : PkOk γ σ c) : PkOk γ σ (a ++ c) :=
  ⟨fun q hq => (List.mem_append.1 hq).elim (h1.1 q) (h2.1 q), by rw [absF_append, h1.2, h2.2]; rfl⟩

/-- packing leaf by leaf -/
def PkS (E : Ctx0) (w : World) (K : Bool → Nat → Prop) (γ : Gh) (σ : Sg) (sh : Sh) (cs : List Value) (x : Pk (Val sh)) : Prop :=
  PkOk γ σ x.ws ∧ ∃ c1 c2, cs = c1 ++ c2 ∧ Ro E w (KZ K γ x.ws x.f) sh x.v c1 ∧ LRs E w K σ.o γ x.ls c2
theorem PkS.pair (h : Rel E w0 M K γ σ tm w) {a c : Sh} {cs : List Value} {x : Pk (Val a)} {c1 c2 : List Value} (hx : PkOk γ σ x.ws) (hcs : cs = c1 ++ c2) (hxr : Ro E w (KZ K γ x.ws x.f) a x.v c1) {y : Pk (Val c)} (hy : PkS E w K γ σ c c2 y) :
    PkS E w K γ σ (.p a c) cs ⟨x.f && y.f, (x.v, y.v), x.ws ++ y.ws, y.ls⟩ := by
  obtain ⟨h1, d1, d2, h2, h3, h4⟩ := hy
  refine ⟨hx.append h1, c1 ++ d1, d2, by rw [hcs, h2, List.append_assoc], ?_, h4⟩
  obtain ⟨m1, m2⟩ := KZ_mono h x.ws y.ws x.f y.f
  exact .p (hxr.mono m1 (fun _ _ => rfl)) (h3.mono m2 (fun _ _ => rfl))
theorem ok_pkB (h : Rel E w0 M K γ σ tm w) : ∀ {sh : Sh} {ls : List L} {cs : List Value} {Q : Pk (Val sh) → Prop}, LRs E w K σ.o γ ls cs → (pkB sh ls).ok σ.d σ.o Q → ∃ x, Q x ∧ PkS E w K γ σ sh cs x := by
  intro sh
  have leaf : ∀ {sh : Sh} {ls : List L} {cs : List Value} {Q : Pk (Val sh) → Prop}, LRs E w K σ.o γ ls cs → (match ls with | l :: ls => (do let x ← pk1 sh l; return { x with ls := ls } : Rd (Pk (Val sh))) | [] => .fail).ok σ.d σ.o Q → ∃ x, Q x ∧ PkS E w K γ σ sh cs x := by
    intro sh ls cs Q hl hp
    cases ls with
    | nil => exact hp.elim
    | cons l ls =>
      obtain ⟨c1, c2, h1, h2, h3⟩ := hl
      simp only [ok_bind, ok_pure] at hp
      obtain ⟨x, hq, h4, h5⟩ := ok_pk1 h h2 hp
      exact ⟨_, hq, h4, c1, c2, h1, h5, h3⟩
  induction sh with
  | u =>
    intro ls cs Q hl hp
    simp only [pkB, ok_pure] at hp
    exact ⟨_, hp, .nil, [], cs, rfl, .u, hl⟩
  | p a c ih1 ih2 =>
    intro ls cs Q hl hp
    simp only [pkB, ok_bind, ok_pure] at hp
    obtain ⟨x, hq, hx, c1, c2, hcs, hxr, hxl⟩ := ih1 hl hp
    obtain ⟨y, hq, hy⟩ := ih2 hxl hq
    exact ⟨_, hq, PkS.pair h hx hcs hxr hy⟩
  | _ =>
    intro ls cs Q hl hp
    refine leaf hl ?_
    cases ls with
    | nil => exact hp.elim
    | cons l ls => exact hp
theorem ok_pk (h : Rel E w0 M K γ σ tm w) : ∀ {sh : Sh} {ls : List L} {cs : List Value} {Q : Pk (Val sh) → Prop}, LRs E w K σ.o γ ls cs → (pk sh ls).ok σ.d σ.o Q → ∃ x, Q x ∧ PkS E w K γ σ sh cs x := by
  intro sh
  have leaf : ∀ {sh : Sh} {l : L} {ls : List L} {cs : List Value} {Q : Pk (Val sh) → Prop}, LRs E w K σ.o γ (l :: ls) cs → (do let x ← pk1 sh l; return { x with ls := ls } : Rd (Pk (Val sh))).ok σ.d σ.o Q → ∃ x, Q x ∧ PkS E w K γ σ sh cs x := by
    intro sh l ls cs Q hl hp
    obtain ⟨c1, c2, h1, h2, h3⟩ := hl
    simp only [ok_bind, ok_pure] at hp
    obtain ⟨x, hq, h4, h5⟩ := ok_pk1 h h2 hp
    exact ⟨_, hq, h4, c1, c2, h1, h5, h3⟩
  induction sh with
  | u =>
    intro ls cs Q hl hp
    simp only [pk, ok_pure] at hp
    exact ⟨_, hp, .nil, [], cs, rfl, .u, hl⟩
  | p a c ih1 ih2 =>
    intro ls cs Q hl hp
    simp only [pk, ok_bind, ok_pure] at hp
    obtain ⟨x, hq, hx, c1, c2, hcs, hxr, hxl⟩ := ih1 hl hp
    obtain ⟨y, hq, hy⟩ := ih2 hxl hq
    exact ⟨_, hq, PkS.pair h hx hcs hxr hy⟩
  | n k =>
    intro ls cs Q hl hp
    cases ls with
    | nil => exact hp.elim
    | cons l ls =>
      unfold pk at hp
      split at hp
      · exact leaf hl hp
      · simp only [ok_bind, ok_pure] at hp
        obtain ⟨x, hq, h1, c1, c2, h2, h3, h4⟩ := ok_pkB h hl hp
        exact ⟨_, hq, h1, c1, c2, h2, .n (by rw [nout_into]; exact h3), h4⟩
  | _ =>
    intro ls cs Q hl hp
    cases ls with
    | nil => exact hp.elim
    | cons l ls => exact leaf hl hp

/-- elements of rows of ours -/
def PkT (E : Ctx0) (w : World) (K : Bool → Nat → Prop) (γ : Gh) (σ : Sg) (sh : Sh) (ow : Ow) (cs : List Value) (x : Pk (Val sh)) : Prop :=
  (∀ q, q ∈ x.ws → WOk σ q) ∧ ∃ c1 c2, cs = c1 ++ c2 ∧ Tv E w (KZ K γ x.ws x.f) sh ow x.v c1 (absF γ x.ws) ∧ LRs E w K σ.o γ x.ls c2
theorem ok_pkO (h : Rel E w0 M K γ σ tm w) : ∀ {ow : Ow} {sh : Sh} {ls : List L} {cs : List Value} {Q : Pk (Val sh) → Prop}, LRs E w K σ.o γ ls cs → (pkO sh ow ls).ok σ.d σ.o Q → ∃ x, Q x ∧ PkT E w K γ σ sh ow cs x := by
  intro ow
  induction ow with
  | z =>
    intro sh ls cs Q hl hp
    have : pkO sh .z ls = pk sh ls := by cases sh <;> cases ls <;> rfl
    rw [this] at hp
    obtain ⟨x, hq, h1, c1, c2, h2, h3, h4⟩ := ok_pk h hl hp
    exact ⟨x, hq, h1.1, c1, c2, h2, by rw [Tv.z_iff]; exact ⟨h3, h1.2⟩, h4⟩
  | l e o ih =>
    intro sh ls cs Q hl hp
    cases sh with
    | l a =>
      cases ls with
      | nil => exact hp.elim
      | cons l ls =>
        obtain ⟨c1, c2, h1, h2, h3⟩ := hl
        unfold pkO at hp
        split at hp
        · refine ⟨_, hp, fun q hq => (by cases hq), c1, c2, h1, ?_, h3⟩
          rw [show c1 = [.slice none 0 0] from h2]
          exact ⟨_, rfl, .inl ⟨rfl, rfl, rfl⟩⟩
        · rename_i k
          obtain ⟨x, rfl, hno, hrw⟩ := h2
          simp only [ok_bind, ok_getO] at hp
          split at hp
          · rename_i f ver e' s2 ow2 v2 ho
            simp only [ok_bind, ok_chk, ok_opt, ok_pure, Bool.and_eq_true] at hp
            obtain ⟨⟨he, hw⟩, u, hc, hq⟩ := hp
            obtain rfl : e = e' := by simpa using he
            obtain rfl := Ow.eqb_eq hw
            obtain ⟨hs, hv⟩ := castV_eq hc
            injection hs with hs
            subst hs
            obtain rfl := eq_of_heq hv
            refine ⟨_, hq, ?_, [x], c2, h1, ?_, h3⟩
            · intro q hq
              rw [List.mem_singleton] at hq; subst hq
              exact ⟨f, ver, e, s2, o, v2, ho, .inl rfl⟩
            · refine ⟨x, rfl, ?_⟩
              rw [hrw (by rw [ho]; rfl)]
              have := h.ro_none ho
              simp only [absF, List.append_nil]
              exact this.mono (fun _ _ => rfl) (fun i cs G _ _ hel => hel.mono (fun b hb => .inl hb) (fun _ _ => rfl) (fun _ _ => rfl))
          · exact hp.elim
        · exact hp.elim
    | _ => cases ls <;> exact hp.elim
  | p oa oc ih1 ih2 =>
    intro sh ls cs Q hl hp
    cases sh with
    | p a c =>
      simp only [pkO, ok_bind, ok_pure] at hp
      obtain ⟨x, hq, hx, c1, c2, hcs, hxr, hxl⟩ := ih1 hl hp
      obtain ⟨y, hq, hy, d1, d2, h2, h3, h4⟩ := ih2 hxl hq
      refine ⟨_, hq, fun q hq => (List.mem_append.1 hq).elim (hx q) (hy q), c1 ++ d1, d2, by rw [hcs, h2, List.append_assoc], ?_, h4⟩
      obtain ⟨m1, m2⟩ := KZ_mono h x.ws y.ws x.f y.f
      exact ⟨c1, d1, absF γ x.ws, absF γ y.ws, rfl, absF_append .., hxr.mono m1 (fun _ _ => rfl) (fun _ _ => rfl), h3.mono m2 (fun _ _ => rfl) (fun _ _ => rfl)⟩
    | _ => cases ls <;> exact hp.elim
end
end Go.En
end
section
/-
  The engine, part L: variables, literals, slices that are made.
-/
namespace Go.En
open Go

section
variable {E : Ctx0} {w0 w w' : World} {M : Ml} {K : Bool → Nat → Prop} {γ : Gh} {σ : Sg} {tm : Array Value} {P : Program} {sd : Nat → D} {so : Id → Ob}

theorem LR.oneC {l : L} {cs : List Value} (h : LR E w K so γ l cs) (hn : noX l = true) : ∀ x ∈ cs, x.oneCell' = true := by
  cases l with
  | un n => cases hn
  | ud => cases hn
  | d pv sh v => cases pv with
    | fz f => exact Ro.one h
    | bw o ver => exact h.2.1.2
  | rw o => obtain ⟨x, rfl, h2, _⟩ := h; intro y hy; rw [List.mem_singleton] at hy; subst hy; exact h2.2
  | sl o off n => obtain ⟨x, rfl, h2, _⟩ := h; intro y hy; rw [List.mem_singleton] at hy; subst hy; exact h2.2
  | pe o i j => obtain ⟨x, rfl, h2, _⟩ := h; intro y hy; rw [List.mem_singleton] at hy; subst hy; exact h2.2
  | pv o j => obtain ⟨x, rfl, h2, _⟩ := h; intro y hy; rw [List.mem_singleton] at hy; subst hy; exact h2.2
  | px o j q sh i c => obtain ⟨x, rfl, h2, _⟩ := h; intro y hy; rw [List.mem_singleton] at hy; subst hy; exact h2.2
  | mp o => obtain ⟨x, rfl, h2, _⟩ := h; intro y hy; rw [List.mem_singleton] at hy; subst hy; exact h2.2
  | fn g caps => obtain ⟨vs, rfl, _⟩ := h; intro y hy; rw [List.mem_singleton] at hy; subst hy; rfl
  | _ => simp only [LR] at h; rw [h]; intro y hy; rw [List.mem_singleton] at hy; subst hy; rfl
theorem LRs.oneC : ∀ {ls : List L} {cs : List Value}, LRs E w K so γ ls cs → ls.all noX = true → ∀ x ∈ cs, x.oneCell' = true
  | [], _, h, _ => by rw [show _ = [] from h]; intro x hx; cases hx
  | l :: ls, _, ⟨c1, c2, h1, h2, h3⟩, ha => by
    rw [List.all_cons, Bool.and_eq_true] at ha
    intro x hx
    rw [h1] at hx
    exact (List.mem_append.1 hx).elim (h2.oneC ha.1 x) (LRs.oneC h3 ha.2 x)
theorem one_cells {x : Value} (h : x.oneCell' = true) : x.cells = #[x] := by cases x <;> first | rfl | cases h
/-- an operand's leaves and its cells -/
theorem DR.lsOf {d : D} {x : Value} (h : DR E w K so γ d x) (hn : (lsOf d).all noX = true) : LRs E w K so γ (lsOf d) x.cells.toList := by
  cases d with
  | tup xs => cases hn
  | p q =>
    cases q with
    | one l =>
      have hl : LR E w K so γ l [x] := h
      have : x.oneCell' = true := hl.oneC (by simpa [En.lsOf] using hn) x (List.mem_singleton.2 rfl)
      rw [one_cells this]
      exact LRs.one hl
    | agg ls =>
      obtain ⟨cs, rfl, h2⟩ := h
      exact h2

theorem LR.extO (h : Rel E w0 M K γ σ tm w) (hg : Grow w w') {x : Id} (hx : σ.o x = .no) {ob : Ob} {hd : Value} {F : List Nat} {ls : List L} {cs : List Value} (hl : LRs E w K σ.o γ ls cs) : LRs E w' K (σ.setO x ob).o (γ.set x hd F) ls cs := by
  have hne : ∀ o, σ.o o ≠ .no → o ≠ x := fun o ho e => ho (e ▸ hx)
  refine LRs.ext ?_ hl
  refine ⟨fun _ _ h => h, fun f b hb => hg.block b (h.kb f b hb), ?_, ?_, ?_, ?_, ?_⟩
  · intro o ho; simp only [Sg.setO, if_neg (hne o ho)]; exact ho
  · intro o q ho hr; simp only [Sg.setO, Gh.set, if_neg (hne o ho)] at hr ⊢; exact ⟨hr, trivial⟩
  · intro o ho hr; simp only [Sg.setO, Gh.set, if_neg (hne o ho)] at hr ⊢; exact ⟨hr, trivial⟩
  · intro o ho hr; simp only [Sg.setO, Gh.set, if_neg (hne o ho)] at hr ⊢; exact ⟨hr, trivial⟩
  · intro o v ho hr
    simp only [Sg.setO, Gh.set, if_neg (hne o ho)] at hr ⊢
    exact ⟨v, hr, Nat.le_refl _, fun _ => ⟨trivial, fun b hb => ⟨.inl hb, hg.block b (h.ow o b hb).2.1⟩⟩⟩

/-- a new object in a block that is new -/
theorem Rel.mkO (h : Rel E w0 M K γ σ tm w) {x : Id} (hx : σ.o x = .no) (hg : Grow w w') {ob : Ob} {hd : Value} {F : List Nat} (hF : ∀ b, b ∈ F → w.heap.size ≤ b ∧ b < w'.heap.size) (hnd : F.Nodup)
    (hob : ObR E w' K (σ.setO x ob).o (γ.set x hd F) ob hd F) : Rel E w0 M K (γ.set x hd F) (σ.setO x ob) tm w' :=
  h.upd x (fun b hb _ _ => hg.block b hb) hg.size hg.os hg.tape hg.output (fun b hb => ⟨.inr (h.free_new (hF b hb).1), (hF b hb).2⟩) hnd (.inl hx) hob

/-- a new variable -/
theorem Rel.mkVa (h : Rel E w0 M K γ σ tm w) {x : Id} (hx : σ.o x = .no) {ls : List L} {cs : Array Value} (T : TypeId) (hl : LRs E w K σ.o γ ls cs.toList) :
    Pos E w0 M σ tm (one (.pv x 0), [(x, .va ls)]) (.pointer (some ⟨w.heap.size, 0, none⟩)) (w.alloc (.cells cs T)) := by
  have hg := Grow.alloc w (.cells cs T)
  refine ⟨K, γ.set x (.pointer (some ⟨w.heap.size, 0, none⟩)) [w.heap.size], h.mkO hx hg ?_ (by simp) ⟨w.heap.size, cs, T, rfl, heap_alloc_new w _, LR.extO h hg hx hl, rfl⟩, ?_⟩
  · intro b hb; rw [List.mem_singleton] at hb; subst hb; exact ⟨Nat.le_refl _, by simp⟩
  · refine ⟨_, rfl, ⟨by simp [Sg.setW, Sg.setO], rfl⟩, fun _ => ⟨w.heap.size, by simp [Gh.set], rfl⟩⟩

/-! ### zero values -/
theorem zero_bytes {s : ByteArray} (h : s.size = 0) : s = ByteArray.empty := by
  cases s with
  | mk d => have : d = #[] := Array.size_eq_zero_iff.1 h; subst this; rfl
theorem zeroCs_ro {Kf : Nat → Prop} : ∀ {sh : Sh} {cs rest : List Value}, zeroCs sh cs = some rest → ∃ cs1, cs = cs1 ++ rest ∧ Ro E w Kf sh sh.zero cs1 := by
  intro sh
  induction sh with
  | i k =>
    intro cs rest h
    unfold zeroCs at h
    split at h <;> try contradiction
    rename_i k0 k' n cs' heq
    injection heq with heq; subst heq
    split at h
    · rename_i hc
      simp only [Option.some.injEq] at h; subst h
      simp only [Bool.and_eq_true, beq_iff_eq] at hc
      obtain ⟨h1, rfl⟩ := hc
      have := ikEq_eq h1; subst this
      exact ⟨[_], rfl, .i⟩
    · cases h
  | b =>
    intro cs rest h
    unfold zeroCs at h
    split at h <;> try contradiction
    simp only [Option.some.injEq] at h; subst h
    exact ⟨[_], rfl, .b⟩
  | s =>
    intro cs rest h
    unfold zeroCs at h
    split at h <;> try contradiction
    split at h
    · rename_i hc
      simp only [Option.some.injEq] at h; subst h
      have := zero_bytes (by simpa using hc)
      subst this
      exact ⟨[_], rfl, .s⟩
    · cases h
  | e =>
    intro cs rest h
    unfold zeroCs at h
    split at h <;> try contradiction
    simp only [Option.some.injEq] at h; subst h
    exact ⟨[_], rfl, .enil⟩
  | l x ih =>
    intro cs rest h
    unfold zeroCs at h
    split at h <;> try contradiction
    simp only [Option.some.injEq] at h; subst h
    exact ⟨[_], rfl, .l0⟩
  | o x ih =>
    intro cs rest h
    unfold zeroCs at h
    split at h <;> try contradiction
    simp only [Option.some.injEq] at h; subst h
    exact ⟨[_], rfl, .o0⟩
  | u =>
    intro cs rest h
    simp only [zeroCs, Option.some.injEq] at h; subst h
    exact ⟨[], rfl, .u⟩
  | p x c ih1 ih2 =>
    intro cs rest h
    simp only [zeroCs] at h
    split at h
    · rename_i cs1 h1
      obtain ⟨a1, rfl, r1⟩ := ih1 h1
      obtain ⟨a2, rfl, r2⟩ := ih2 h
      exact ⟨a1 ++ a2, by simp, .p r1 r2⟩
    · cases h
  | v q a ih =>
    intro cs rest h
    simp only [zeroCs] at h
    have key : ∀ (l : List Nat) (cs rest : List Value), l.foldl (fun r _ => match r with | some cs => zeroCs a cs | none => none) (some cs) = some rest → ∃ cs1, cs = cs1 ++ rest ∧ Ro E w Kf (.v l.length a) (List.replicate l.length a.zero) cs1 := by
      intro l
      induction l with
      | nil => intro cs rest h; simp only [List.foldl_nil, Option.some.injEq] at h; subst h; exact ⟨[], rfl, .v0⟩
      | cons x l ihl =>
        intro cs rest h
        simp only [List.foldl_cons] at h
        cases hz : zeroCs a cs with
        | none =>
          rw [hz] at h
          have : ∀ l : List Nat, l.foldl (fun (r : Option (List Value)) _ => match r with | some cs => zeroCs a cs | none => none) none = none := by
            intro l; induction l with
            | nil => rfl
            | cons _ _ ih => exact ih
          rw [this] at h; cases h
        | some cs2 =>
          rw [hz] at h
          obtain ⟨a1, rfl, r1⟩ := ih hz
          obtain ⟨a2, rfl, r2⟩ := ihl _ _ h
          exact ⟨a1 ++ a2, by simp, .vs r1 r2⟩
    obtain ⟨cs1, h1, h2⟩ := key (List.range q) cs rest h
    rw [List.length_range] at h2
    exact ⟨cs1, h1, h2⟩
  | r x ih => intro cs rest h; simp [zeroCs] at h
  | n k => intro cs rest h; simp [zeroCs] at h
theorem zeroOk_ro {Kf : Nat → Prop} {e : TypeId} {sh : Sh} (h : zeroOk P e sh = true) : ∃ i z, P.info? e = some i ∧ i.zero = some z ∧ Ro E w Kf sh sh.zero z.cells.toList := by
  unfold zeroOk at h
  split at h
  · rename_i z hz
    split at h
    · rename_i hc
      cases hi : P.info? e with
      | none => simp [hi] at hz
      | some i =>
        simp [hi] at hz
        obtain ⟨cs1, h1, h2⟩ := zeroCs_ro (E := E) (w := w) (Kf := Kf) hc
        exact ⟨i, z, rfl, hz, by rw [h1, List.append_nil]; exact h2⟩
    · cases h
  · cases h
theorem isZero_ok : ∀ {ls : List L} {cs : List Value}, isZero ls cs = true → LRs E w K so γ (ls.map zfix) cs
  | [], [], _ => rfl
  | [], _ :: _, h => by simp [isZero] at h
  | l :: ls, cs, h => by
    unfold isZero at h
    split at h
    · cases ‹l :: ls = []›
    · rename_i k n ls' k' m cs' heq
      injection heq with e1 e2; subst e1; subst e2
      simp only [Bool.and_eq_true, beq_iff_eq] at h
      obtain ⟨⟨h1, rfl, rfl⟩, h2⟩ := h
      obtain rfl := ikEq_eq h1
      exact ⟨[_], _, rfl, .i, isZero_ok h2⟩
    · rename_i v ls' c cs' heq
      injection heq with e1 e2; subst e1; subst e2
      simp only [Bool.and_eq_true, Bool.not_eq_true'] at h
      obtain ⟨⟨rfl, rfl⟩, h2⟩ := h
      exact ⟨[_], _, rfl, rfl, isZero_ok h2⟩
    · rename_i v ls' c cs' heq
      injection heq with e1 e2; subst e1; subst e2
      simp only [Bool.and_eq_true, beq_iff_eq] at h
      obtain ⟨⟨h1, h3⟩, h2⟩ := h
      rw [zero_bytes h3]
      refine ⟨[_], _, rfl, ?_, isZero_ok h2⟩
      show LR E w K so γ (.d (.fz true) .s v) _
      rw [zero_bytes h1]; exact .s
    · rename_i ls' cs' heq
      injection heq with e1 e2; subst e1; subst e2
      exact ⟨[_], _, rfl, .enil, isZero_ok h⟩
    · rename_i ls' cs' heq
      injection heq with e1 e2; subst e1; subst e2
      exact ⟨[_], _, rfl, rfl, isZero_ok h⟩
    · rename_i ls' cs' heq
      injection heq with e1 e2; subst e1; subst e2
      exact ⟨[_], _, rfl, rfl, isZero_ok h⟩
    · rename_i ls' cs' heq
      injection heq with e1 e2; subst e1; subst e2
      exact ⟨[_], _, rfl, rfl, isZero_ok h⟩
    · rename_i k a v ls' heq
      injection heq with e1 e2; subst e1; subst e2
      split at h
      · rename_i hz
        obtain ⟨cs1, h1, h2⟩ := zeroCs_ro (E := E) (w := w) (Kf := K true) hz
        rw [List.append_nil] at h1
        refine ⟨_, _, (List.take_append_drop (Sh.sz (.v k a)) _).symm, ?_, isZero_ok h⟩
        rw [h1]; exact h2
      · cases h
    · cases h
theorem zeroOf_ok {C : Ctx0} {t : TypeId} {ls : List L} (h : zeroOf C t = some ls) : ∃ i z, C.P.info? t = some i ∧ i.zero = some z ∧ LRs E w K so γ ls z.cells.toList := by
  unfold zeroOf at h
  split at h
  · rename_i ls' z h1 h2
    split at h
    · rename_i hz
      simp only [Option.some.injEq] at h; subst h
      cases hi : C.P.info? t with
      | none => simp [hi] at h2
      | some i =>
        simp [hi] at h2
        exact ⟨i, z, rfl, h2, isZero_ok hz⟩
    · cases h
  · cases h

theorem so_alloc (h : Rel E w0 M K γ σ tm w) {C : Ctx0} {dst : Option Tmp} {t : TypeId} {ls : List L} (hz : zeroOf C t = some ls) {Q : Re → Prop}
    (hp : (do let x ← fresh dst 0; return (one (.pv x 0), [(x, .va ls)]) : Rd Re).ok σ.d σ.o Q) : Gets C.P E w0 M σ tm w (Instr.alloc t true (.tuple #[])) Q := by
  rw [ok_bind] at hp
  obtain ⟨T, _, hno, hq⟩ := ok_fresh _ _ _ hp
  obtain ⟨i, z, hi, hzz, hl⟩ := zeroOf_ok (E := E) (w := w) (K := K) (so := σ.o) (γ := γ) hz
  exact ⟨_, _, by simp [Instr.alloc, zeroValue, typeInfo, hi, hzz, newVar, newRow], _, hq, h.mkVa hno t hl⟩
theorem so_box (h : Rel E w0 M K γ σ tm w) {dst : Option Tmp} {t : TypeId} {d : D} {x : Value} (hd : DR E w K σ.o γ d x) (hn : (lsOf d).all noX = true) {Q : Re → Prop}
    (hp : (do let x ← fresh dst 0; return (one (.pv x 0), [(x, .va (lsOf d))]) : Rd Re).ok σ.d σ.o Q) : Gets P E w0 M σ tm w (Instr.box t x) Q := by
  rw [ok_bind] at hp
  obtain ⟨T, _, hno, hq⟩ := ok_fresh _ _ _ hp
  exact ⟨_, _, by simp [Instr.box, newVar, newRow], _, hq, h.mkVa hno t (hd.lsOf hn)⟩
end
end Go.En
end
section
/-
  The engine, part M: literals; slices that are made.
-/
namespace Go.En
open Go

theorem seg_get : ∀ (xs : List Value) (k off : Nat) (cells : Array Value) (j : Nat),
    ((xs.zipIdx k).foldl (fun (cs : Array Value) (p : Value × Nat) => cs.setIfInBounds (off + p.2) p.1) cells)[j]? = if off + k ≤ j ∧ j < off + k + xs.length ∧ j < cells.size then xs[j - off - k]? else cells[j]?
  | [], k, off, cells, j => by
    simp only [List.zipIdx_nil, List.foldl_nil, List.length_nil]
    rw [if_neg (by omega)]
  | x :: xs, k, off, cells, j => by
    simp only [List.zipIdx_cons, List.foldl_cons]
    rw [seg_get xs (k + 1) off _ j]
    simp only [Array.size_setIfInBounds, List.length_cons, Array.getElem?_setIfInBounds]
    by_cases hj : off + k = j
    · subst hj
      by_cases hs : off + k < cells.size
      · rw [if_neg (by omega), if_pos rfl, if_pos hs, if_pos (by omega), show off + k - off - k = 0 by omega]; rfl
      · rw [if_neg (by omega), if_pos rfl, if_neg hs, if_neg (by omega)]
        exact (Array.getElem?_eq_none (by omega)).symm
    · by_cases h1 : off + (k + 1) ≤ j ∧ j < off + (k + 1) + xs.length ∧ j < cells.size
      · rw [if_pos h1, if_pos (by omega), show j - off - k = (j - off - (k + 1)) + 1 by omega]; rfl
      · rw [if_neg h1, if_neg hj, if_neg (by omega)]
theorem seg_size : ∀ (xs : List Value) (k off : Nat) (cells : Array Value),
    ((xs.zipIdx k).foldl (fun (cs : Array Value) (p : Value × Nat) => cs.setIfInBounds (off + p.2) p.1) cells).size = cells.size
  | [], _, _, _ => rfl
  | x :: xs, k, off, cells => by
    simp only [List.zipIdx_cons, List.foldl_cons]
    rw [seg_size xs (k + 1)]; simp
theorem seg_fold (v : Value) (off : Nat) (cells : Array Value) : v.cells.zipIdx.foldl (fun cs (c, j) => cs.setIfInBounds (off + j) c) cells = (v.cells.toList.zipIdx 0).foldl (fun (cs : Array Value) (p : Value × Nat) => cs.setIfInBounds (off + p.2) p.1) cells := by
  rw [← Array.foldl_toList, Array.toList_zipIdx]

theorem fill_get (v : Value) (off : Nat) (cells : Array Value) (h : off + v.cells.size ≤ cells.size) (j : Nat) :
    (v.cells.zipIdx.foldl (fun cs (c, j) => cs.setIfInBounds (off + j) c) cells)[j]? = if off ≤ j ∧ j < off + v.cells.size then v.cells[j - off]? else cells[j]? := by
  rw [seg_fold, seg_get]
  simp only [Nat.add_zero, Array.length_toList, Nat.sub_zero, Array.getElem?_toList]
  by_cases hc : off ≤ j ∧ j < off + v.cells.size
  · rw [if_pos (by omega), if_pos hc]
  · rw [if_neg (by omega), if_neg hc]


theorem fill_list (v : Value) (off : Nat) (cells : Array Value) (h : off + v.cells.size ≤ cells.size) :
    (v.cells.zipIdx.foldl (fun cs (c, j) => cs.setIfInBounds (off + j) c) cells).toList = cells.toList.take off ++ v.cells.toList ++ cells.toList.drop (off + v.cells.toList.length) := by
  apply List.ext_getElem?
  intro j
  have h1 := fill_get v off cells h j
  rw [Array.getElem?_toList, h1]
  have hl : (cells.toList.take off).length = off := by rw [List.length_take]; simp; omega
  rw [List.append_assoc]
  by_cases hj : j < off
  · rw [if_neg (by omega), List.getElem?_append_left (by omega), List.getElem?_take, if_pos hj, Array.getElem?_toList]
  · rw [List.getElem?_append_right (by omega), hl]
    by_cases hj2 : j < off + v.cells.size
    · rw [if_pos (by omega), List.getElem?_append_left (by simp; omega), Array.getElem?_toList]
    · rw [if_neg (by omega), List.getElem?_append_right (by simp; omega), List.getElem?_drop, Array.getElem?_toList]
      congr 1
      simp; omega

section
variable {E : Ctx0} {w0 w w' : World} {M : Ml} {K : Bool → Nat → Prop} {γ : Gh} {σ : Sg} {tm : Array Value} {P : Program} {sd : Nat → D} {so : Id → Ob}

/-- parts and what they stand for -/
def PsR (E : Ctx0) (w : World) (K : Bool → Nat → Prop) (so : Id → Ob) (γ : Gh) : List (Nat × D) → List (Nat × Value) → Prop
  | [], qs => qs = []
  | p :: ps, qs => ∃ q qs', qs = q :: qs' ∧ q.1 = p.1 ∧ DR E w K so γ p.2 q.2 ∧ PsR E w K so γ ps qs'
theorem ok_partsD (h : Rel E w0 M K γ σ tm w) (a : Act) (ha : a.tmps = tm) : ∀ (ps : List (Nat × Operand)) {Q : List (Nat × D) → Prop}, (partsD ps).ok σ.d σ.o Q → ∃ ds, Q ds ∧ PsR E w K σ.o γ ds (ps.map fun (i, x) => (i, a.eval x))
  | [], Q, hp => ⟨[], hp, rfl⟩
  | (i, x) :: ps, Q, hp => by
    simp only [partsD, ok_bind, ok_pure] at hp
    obtain ⟨d, hp, hd⟩ := h.oper x a ha hp
    obtain ⟨ds, hq, hr⟩ := ok_partsD h a ha ps hp
    exact ⟨_, hq, (i, a.eval x), _, rfl, rfl, hd, hr⟩

theorem fill_ok {places : List (Nat × Nat)} {place : Nat → Option (Nat × Nat)} (hpl : ∀ i, places[i]? = place i) : ∀ {ps : List (Nat × D)} {qs : List (Nat × Value)} {ls ls' : List L} {cs : Array Value},
    PsR E w K so γ ps qs → LRs E w K so γ ls cs.toList → fillLs places ls ps = some ls' → ∃ cs', Instr.fill place cs qs = some cs' ∧ LRs E w K so γ ls' cs'.toList
  | [], qs, ls, ls', cs, hq, hl, hf => by
    rw [show qs = [] from hq]
    simp only [fillLs, Option.some.injEq] at hf; subst hf
    exact ⟨cs, rfl, hl⟩
  | (i, d) :: ps, qs, ls, ls', cs, hq, hl, hf => by
    obtain ⟨⟨i', x⟩, qs', rfl, hi, hd, hr⟩ := hq
    simp only at hi hd; subst hi
    simp only [fillLs] at hf
    split at hf
    · cases hf
    · rename_i off size hpl'
      rw [hpl] at hpl'
      cases hc : ((wds (lsOf d)).beq size && (lsOf d).all noX) with
      | false => rw [hc] at hf; cases hf
      | true =>
        rw [hc] at hf
        rw [Bool.and_eq_true] at hc
        simp only [cond_true] at hf
        split at hf
        · rename_i ls2 hs
          have hcn := hd.lsOf hc.2
          obtain ⟨h1, h2⟩ := hl.set hcn hs
          have hsz : x.cells.size = size := by have := hcn.len; rw [Nat.eq_of_beq_eq_true hc.1] at this; simpa using this
          have hoff : off + x.cells.size ≤ cs.size := by simpa using h2
          rw [← fill_list x off cs hoff] at h1
          obtain ⟨cs', g1, g2⟩ := fill_ok hpl hr h1 hf
          refine ⟨cs', ?_, g2⟩
          simp only [Instr.fill, hpl']
          rw [if_neg (by simp only [Bool.or_eq_true, decide_eq_true_eq]; omega)]
          exact g1
        · cases hf

theorem elems_go {z : List L} {sz : Nat} : ∀ {n i : Nat} {ps : List (Nat × D)} {qs : List (Nat × Value)} {els : List (List L)}, PsR E w K so γ ps qs → elemsOf.go n i ps = some els → (els.all fun ls => ls.all noX && (wds ls).beq sz) = true →
    ∃ xs : List Value, els.length = n ∧ xs.length = n ∧ qs = (xs.zipIdx i).map (fun p => (p.2, p.1)) ∧ (∀ x ∈ xs, x.cells.size = sz) ∧ ∀ (k : Nat) (ls : List L) (x : Value), els[k]? = some ls → xs[k]? = some x → LRs E w K so γ ls x.cells.toList
  | 0, i, [], qs, els, hq, he, _ => by
    simp only [elemsOf.go, Option.some.injEq] at he; subst he
    rw [show qs = [] from hq]
    exact ⟨[], rfl, rfl, rfl, fun x hx => (by cases hx), fun k ls x hk => by simp at hk⟩
  | 0, i, _ :: _, _, _, _, he, _ => by cases he
  | n + 1, i, [], _, _, _, he, _ => by cases he
  | n + 1, i, (k, d) :: ps, qs, els, hq, he, ha => by
    obtain ⟨⟨k', x⟩, qs', rfl, hi, hd, hr⟩ := hq
    simp only at hi hd; subst hi
    simp only [elemsOf.go] at he
    cases hk : k'.beq i with
    | false => rw [hk] at he; cases he
    | true =>
      rw [hk] at he
      obtain rfl := Nat.eq_of_beq_eq_true hk
      simp only [cond_true] at he
      split at he
      · rename_i r hgo
        simp only [Option.some.injEq] at he; subst he
        rw [List.all_cons, Bool.and_eq_true, Bool.and_eq_true] at ha
        obtain ⟨xs, h1, h2, h3, h4, h5⟩ := elems_go (z := z) hr hgo ha.2
        have hcn := hd.lsOf ha.1.1
        refine ⟨x :: xs, by simp [h1], by simp [h2], by rw [h3]; simp, ?_, ?_⟩
        · intro y hy
          rcases List.mem_cons.1 hy with rfl | hy
          · have := hcn.len; rw [Nat.eq_of_beq_eq_true ha.1.2] at this; simpa using this
          · exact h4 y hy
        · intro k ls y hk hy
          cases k with
          | zero =>
            simp only [List.getElem?_cons_zero, Option.some.injEq] at hk hy
            subst hk; subst hy; exact hcn
          | succ k => exact h5 k ls y (by simpa using hk) (by simpa using hy)
      · cases he

/-- a run of parts of the same size -/
theorem fill_seq (sz : Nat) : ∀ (xs : List Value) (k : Nat) (c : Array Value), (∀ x ∈ xs, x.cells.size = sz) → (k + xs.length) * sz ≤ c.size →
    ∃ c', Instr.fill (fun i => some (i * sz, sz)) c ((xs.zipIdx k).map (fun p => (p.2, p.1))) = some c' ∧ c'.toList = c.toList.take (k * sz) ++ xs.flatMap (fun x => x.cells.toList) ++ c.toList.drop ((k + xs.length) * sz)
  | [], k, c, _, _ => ⟨c, rfl, by simp⟩
  | x :: xs, k, c, hx, hc => by
    have hxs := hx x (List.mem_cons_self ..)
    have hle : (k + 1) * sz ≤ (k + (x :: xs).length) * sz := Nat.mul_le_mul_right _ (by simp only [List.length_cons]; omega)
    have hoff : k * sz + x.cells.size ≤ c.size := by rw [Nat.add_mul, Nat.one_mul] at hle; omega
    have hl := fill_list x (k * sz) c hoff
    obtain ⟨c', h1, h2⟩ := fill_seq sz xs (k + 1) (x.cells.zipIdx.foldl (fun cs (c, j) => cs.setIfInBounds (k * sz + j) c) c) (fun y hy => hx y (List.mem_cons_of_mem _ hy)) (by
      have : (x.cells.zipIdx.foldl (fun cs (c, j) => cs.setIfInBounds (k * sz + j) c) c).size = c.size := by
        rw [seg_fold, seg_size]
      rw [this]
      simp only [List.length_cons] at hc
      rw [show k + 1 + xs.length = k + (xs.length + 1) by omega]; exact hc)
    refine ⟨c', ?_, ?_⟩
    · simp only [List.zipIdx_cons, List.map_cons, Instr.fill]
      rw [if_neg (by simp only [Bool.or_eq_true, decide_eq_true_eq]; omega)]
      exact h1
    · rw [h2, hl]
      have hlk : (c.toList.take (k * sz)).length = k * sz := by rw [List.length_take]; simp; omega
      have hlx : x.cells.toList.length = sz := by simpa using hxs
      have e1 : (k + 1) * sz = k * sz + sz := by rw [Nat.add_mul, Nat.one_mul]
      rw [List.flatMap_cons, e1]
      have t1 : (c.toList.take (k * sz) ++ x.cells.toList ++ c.toList.drop (k * sz + x.cells.toList.length)).take (k * sz + sz) = c.toList.take (k * sz) ++ x.cells.toList := by
        rw [List.take_append_of_le_length (by rw [List.length_append, hlk, hlx]; exact Nat.le_refl _)]
        exact List.take_of_length_le (by rw [List.length_append, hlk, hlx]; exact Nat.le_refl _)
      have t2 : (c.toList.take (k * sz) ++ x.cells.toList ++ c.toList.drop (k * sz + x.cells.toList.length)).drop ((k + 1 + xs.length) * sz) = c.toList.drop ((k + (x :: xs).length) * sz) := by
        have e2 : (k + 1 + xs.length) * sz = (k * sz + sz) + xs.length * sz := by rw [Nat.add_mul, e1]
        have hL : (c.toList.take (k * sz) ++ x.cells.toList).length = k * sz + sz := by rw [List.length_append, hlk, hlx]
        rw [e2, ← List.drop_drop, List.drop_left' hL, List.drop_drop, hlx, List.length_cons]
        congr 1
        rw [Nat.add_mul, Nat.add_mul, Nat.one_mul]; omega
      rw [t1, t2]
      simp only [List.append_assoc]

theorem zeros_flat (z : Array Value) (sz n : Nat) (hz : z.size = sz) (h0 : 0 < sz) : ((Array.range (n * sz)).map (z[· % z.size]!)).toList = (List.replicate n z.toList).flatMap id := by
  apply List.ext_getElem?
  intro j
  have key : ∀ n j, ((List.replicate n z.toList).flatMap id)[j]? = if j < n * sz then z.toList[j % sz]? else none := by
    intro n
    induction n with
    | zero => intro j; simp
    | succ n ih =>
      intro j
      rw [List.replicate_succ, List.flatMap_cons, List.getElem?_append]
      simp only [id, Array.length_toList, hz]
      by_cases hj : j < sz
      · rw [if_pos hj, if_pos (by rw [Nat.add_mul, Nat.one_mul]; omega), Nat.mod_eq_of_lt hj]
      · rw [if_neg hj, ih, Nat.add_mul, Nat.one_mul]
        have : (j - sz) % sz = j % sz := by rw [← Nat.mod_eq_sub_mod (by omega)]
        rw [this]
        by_cases h2 : j - sz < n * sz
        · rw [if_pos h2, if_pos (by omega)]
        · rw [if_neg h2, if_neg (by omega)]
  rw [key]
  simp only [Array.getElem?_toList, Array.getElem?_map, hz]
  rw [Array.getElem?_range]
  by_cases hj : j < n * sz
  · rw [if_pos hj, if_pos hj]
    have hm : j % sz < z.size := by rw [hz]; exact Nat.mod_lt _ h0
    simp only [Option.map_some]
    rw [Array.getElem?_eq_getElem hm, getElem!_pos z _ hm]
  · rw [if_neg hj, if_neg hj]; rfl

/-- elements of a literal -/
theorem ok_pkN (h : Rel E w0 M K γ σ tm w) {sh : Sh} {ow : Ow} : ∀ {els : List (List L)} {css : List (List Value)} {Q : Pk (List (Val sh)) → Prop}, css.length = els.length → (∀ (k : Nat) (ls : List L) (c : List Value), els[k]? = some ls → css[k]? = some c → LRs E w K σ.o γ ls c) →
    (pkN sh ow els).ok σ.d σ.o Q → ∃ y, Q y ∧ (∀ q, q ∈ y.ws → WOk σ q) ∧ y.v.length = els.length ∧ ∃ Fs : Nat → List Nat, absF γ y.ws = (List.range els.length).flatMap Fs ∧
      ∀ i c, css[i]? = some c → Tv E w (KZ K γ y.ws y.f) sh ow (y.v.getD i sh.zero) c (Fs i)
  | [], css, Q, hl, _, hp => by
    simp only [pkN, ok_pure] at hp
    refine ⟨_, hp, fun q hq => (by cases hq), rfl, fun _ => [], rfl, fun i c hc => ?_⟩
    rw [List.eq_nil_of_length_eq_zero hl] at hc; simp at hc
  | ls :: els, css, Q, hl, hr, hp => by
    cases css with
    | nil => simp at hl
    | cons c css =>
      simp only [pkN, ok_bind, ok_chk, ok_pure] at hp
      obtain ⟨x, hq, hx, c1, c2, hcs, ht, hrest⟩ := ok_pkO h (hr 0 ls c rfl rfl) hp
      obtain ⟨hemp, hq⟩ := hq
      obtain ⟨y, hq, hy, hlen, Fs, hF, hel⟩ := ok_pkN h (css := css) (by simpa using hl) (fun k ls c h1 h2 => hr (k + 1) ls c (by simpa using h1) (by simpa using h2)) hq
      have hxl : x.ls = [] := by simpa using hemp
      rw [hxl] at hrest
      rw [show c2 = [] from hrest, List.append_nil] at hcs
      subst hcs
      obtain ⟨m1, m2⟩ := KZ_mono h x.ws y.ws x.f y.f
      refine ⟨_, hq, fun q hq => (List.mem_append.1 hq).elim (hx q) (hy q), by simp [hlen], fun i => if i = 0 then absF γ x.ws else Fs (i - 1), ?_, ?_⟩
      · rw [absF_append, hF, List.length_cons, List.range_succ_eq_map, List.flatMap_cons, List.flatMap_map]
        simp
      · intro i c' hc'
        cases i with
        | zero =>
          simp only [List.getElem?_cons_zero, Option.some.injEq] at hc'; subst hc'
          simp only [if_true, List.getD_cons_zero]
          exact ht.mono m1 (fun _ _ => rfl) (fun _ _ => rfl)
        | succ i =>
          simp only [List.getElem?_cons_succ] at hc'
          simp only [List.getD_cons_succ, Nat.add_sub_cancel, if_neg (Nat.succ_ne_zero i)]
          exact (hel i c' hc').mono m2 (fun _ _ => rfl) (fun _ _ => rfl)
end
end Go.En
end
section
/-
  The engine, part N: literals and slices that are made, as operations.
-/
namespace Go.En
open Go

section
variable {E : Ctx0} {w0 w w' : World} {M : Ml} {K : Bool → Nat → Prop} {γ : Gh} {σ : Sg} {tm : Array Value} {P : Program} {sd : Nat → D} {so : Id → Ob}

theorem flat_get {css : List (List Value)} {sz : Nat} (h : ∀ c ∈ css, c.length = sz) {i : Nat} {c : List Value} (hi : css[i]? = some c) {j : Nat} {y : Value} (hj : c[j]? = some y) : (css.flatMap id)[i * sz + j]? = some y := by
  induction css generalizing i with
  | nil => simp at hi
  | cons d css ih =>
    have hd := h d (List.mem_cons_self ..)
    rw [List.flatMap_cons, List.getElem?_append]
    simp only [id, hd]
    cases i with
    | zero =>
      simp only [List.getElem?_cons_zero, Option.some.injEq] at hi; subst hi
      have := (List.getElem?_eq_some_iff.1 hj).1
      rw [Nat.zero_mul, Nat.zero_add, if_pos (by omega)]; exact hj
    | succ i =>
      simp only [List.getElem?_cons_succ] at hi
      rw [Nat.add_mul, Nat.one_mul, if_neg (by omega), show i * sz + sz + j - sz = i * sz + j by omega]
      exact ih (fun c hc => h c (List.mem_cons_of_mem _ hc)) hi
theorem flat_len {css : List (List Value)} {sz : Nat} (h : ∀ c ∈ css, c.length = sz) : (css.flatMap id).length = css.length * sz := by
  induction css with
  | nil => simp
  | cons d css ih =>
    rw [List.flatMap_cons, List.length_append, ih (fun c hc => h c (List.mem_cons_of_mem _ hc))]
    simp only [id, h d (List.mem_cons_self ..), List.length_cons, Nat.add_mul, Nat.one_mul]; omega
/-- an array's elements -/
theorem Ro.arr {Kf : Nat → Prop} {a : Sh} : ∀ {css : List (List Value)} {v : List (Val a)}, v.length = css.length → (∀ i c, css[i]? = some c → Ro E w Kf a (v.getD i a.zero) c) → Ro E w Kf (.v css.length a) v (css.flatMap id)
  | [], v, hl, _ => by rw [List.eq_nil_of_length_eq_zero hl]; exact .v0
  | c :: css, v, hl, h => by
    cases v with
    | nil => simp at hl
    | cons x v => exact .vs (h 0 c rfl) (Ro.arr (by simpa using hl) (fun i c' hc => h (i + 1) c' (by simpa using hc)))

/-- the cells of a literal's elements -/
theorem elems_ok {C : Ctx0} {e : TypeId} {z : List L} {sz n : Nat} (hz : zeroOf C e = some z) (hsz : szOf C.P e = some sz) {ps : List (Nat × D)} {qs : List (Nat × Value)} {els : List (List L)} (hq : PsR E w K so γ ps qs) (he : elemsOf z n ps = some els)
    (ha : (els.all fun ls => ls.all noX && (wds ls).beq sz) = true) : ∃ (css : List (List Value)) (zv : Value) (i0 : TypeInfo), C.P.info? e = some i0 ∧ i0.zero = some zv ∧ i0.size = sz ∧ css.length = n ∧ els.length = n ∧ (∀ c ∈ css, c.length = sz) ∧ (∀ (k : Nat) (ls : List L) (c : List Value), els[k]? = some ls → css[k]? = some c → LRs E w K so γ ls c) ∧
      ∀ c0 : Array Value, c0.size = n * sz → (ps = [] → zv.cells.size = sz → 0 < sz → c0.toList = (List.replicate n zv.cells.toList).flatMap id) → ∃ c', Instr.fill (fun i => some (i * sz, sz)) c0 qs = some c' ∧ (0 < sz → c'.toList = css.flatMap id) := by
  obtain ⟨i0, zv, hi, hzv, hzl⟩ := zeroOf_ok (E := E) (w := w) (K := K) (so := so) (γ := γ) hz
  have hisz : i0.size = sz := by unfold szOf at hsz; simpa [hi] using hsz
  cases ps with
  | nil =>
    simp only [elemsOf, Option.some.injEq] at he; subst he
    rw [show qs = [] from hq]
    refine ⟨List.replicate n zv.cells.toList, zv, i0, hi, hzv, hisz, by simp, by simp, ?_, ?_, ?_⟩
    · intro c hc
      rw [List.mem_replicate] at hc
      rw [hc.2]
      cases n with
      | zero => exact absurd rfl hc.1
      | succ n =>
        rw [List.replicate_succ, List.all_cons, Bool.and_eq_true, Bool.and_eq_true] at ha
        have := hzl.len
        rw [Nat.eq_of_beq_eq_true ha.1.2] at this; exact this
    · intro k ls c hk hc
      rw [List.getElem?_replicate] at hk hc
      split at hk
      · rename_i hkn
        rw [if_pos hkn] at hc
        simp only [Option.some.injEq] at hk hc
        subst hk; subst hc; exact hzl
      · cases hk
    · intro c0 hc0 hc0z
      refine ⟨c0, rfl, fun hs => ?_⟩
      by_cases hn : n = 0
      · subst hn
        have : c0 = #[] := Array.size_eq_zero_iff.1 (by simpa using hc0)
        rw [this]; simp
      · obtain ⟨m, rfl⟩ := Nat.exists_eq_succ_of_ne_zero hn
        have hzs : zv.cells.size = sz := by
          have ha' := ha
          rw [Nat.succ_eq_add_one, List.replicate_succ, List.all_cons, Bool.and_eq_true, Bool.and_eq_true] at ha'
          have := hzl.len
          rw [Nat.eq_of_beq_eq_true ha'.1.2] at this; simpa using this
        exact hc0z rfl hzs hs
  | cons p ps =>
    have he' : elemsOf.go n 0 (p :: ps) = some els := he
    obtain ⟨xs, h1, h2, h3, h4, h5⟩ := elems_go (z := z) hq he' ha
    refine ⟨xs.map (fun x => x.cells.toList), zv, i0, hi, hzv, hisz, by simp [h2], h1, ?_, ?_, ?_⟩
    · intro c hc
      obtain ⟨x, hx, rfl⟩ := List.mem_map.1 hc
      simpa using h4 x hx
    · intro k ls c hk hc
      rw [List.getElem?_map] at hc
      cases hx : xs[k]? with
      | none => rw [hx] at hc; cases hc
      | some x =>
        rw [hx] at hc
        simp only [Option.map_some, Option.some.injEq] at hc; subst hc
        exact h5 k ls x hk hx
    · intro c0 hc0 _
      obtain ⟨c', g1, g2⟩ := fill_seq sz xs 0 c0 h4 (by rw [Nat.zero_add, h2, hc0]; exact Nat.le_refl _)
      refine ⟨c', by rw [h3]; exact g1, fun _ => ?_⟩
      rw [g2, Nat.zero_mul, List.take_zero, List.nil_append, Nat.zero_add, h2]
      have : c0.toList.drop (n * sz) = [] := List.drop_eq_nil_of_le (by simp [hc0])
      rw [this, List.append_nil, List.flatMap_map]; rfl

theorem ok_some {α : Type} : ∀ {x : Rd α} {R : α → Prop}, x.ok sd so R → ∃ a, R a := by
  intro x
  induction x with
  | ret a => intro R h; exact ⟨a, h⟩
  | fail => intro R h; exact h.elim
  | s t k ih => intro R h; exact ih _ h
  | o x k ih => intro R h; exact ih _ h
  | br c a b iha ihb => intro R h; cases c; exact ihb h; exact iha h
  | any k ih => intro R h; exact ih _ h.1
theorem Rel.posI {σ' : Sg} (h : Rel E w0 M K γ σ' tm w) {ws : Wo} (he : σ.setW ws = σ') {l : L} {v : Value} (hl : LR E w K σ'.o γ l [v]) : Pos E w0 M σ tm (one l, ws) v w := by
  subst he; exact ⟨K, γ, h, hl⟩
theorem setW_fresh {x : Id} {ob : Ob} {ws : Wo} (hne : ∀ q, q ∈ ws → q.1 ≠ x) : σ.setW ((x, ob) :: ws) = (σ.setW ws).setO x ob := by
  have gen : ∀ (ws : Wo) (τ : Sg), (∀ q, q ∈ ws → q.1 ≠ x) → (τ.setO x ob).setW ws = (τ.setW ws).setO x ob := by
    intro ws
    induction ws with
    | nil => intro τ _; rfl
    | cons q ws ih =>
      intro τ hne
      obtain ⟨k, ob'⟩ := q
      simp only [Sg.setW]
      rw [← ih _ (fun q hq => hne q (List.mem_cons_of_mem _ hq))]
      congr 1
      have hk : k ≠ x := hne (k, ob') (List.mem_cons_self ..)
      unfold Sg.setO
      congr 1
      funext z
      by_cases h1 : z = k
      · subst h1; simp [hk]
      · simp [h1]
  exact gen ws σ hne
/-- zero values, with slices of our own -/
theorem zero_tv {Kf : Nat → Prop} : ∀ {ow : Ow} {sh : Sh} {cs rest : List Value}, zeroCs sh cs = some rest → owFits sh ow = true → ∃ cs1, cs = cs1 ++ rest ∧ Tv E w Kf sh ow sh.zero cs1 [] := by
  intro ow
  induction ow with
  | z =>
    intro sh cs rest h _
    obtain ⟨c1, h1, h2⟩ := zeroCs_ro (E := E) (w := w) (Kf := Kf) h
    exact ⟨c1, h1, by rw [Tv.z_iff]; exact ⟨h2, rfl⟩⟩
  | l e o ih =>
    intro sh cs rest h hf
    cases sh with
    | l a =>
      unfold zeroCs at h
      split at h <;> try contradiction
      simp only [Option.some.injEq] at h; subst h
      exact ⟨[_], rfl, _, rfl, .inl ⟨rfl, rfl, rfl⟩⟩
    | _ => cases hf
  | p oa oc ih1 ih2 =>
    intro sh cs rest h hf
    cases sh with
    | p a c =>
      simp only [owFits, Bool.and_eq_true] at hf
      simp only [zeroCs] at h
      split at h
      · rename_i cs1 h1
        obtain ⟨a1, rfl, r1⟩ := ih1 h1 hf.1
        obtain ⟨a2, rfl, r2⟩ := ih2 h hf.2
        exact ⟨a1 ++ a2, by simp, a1, a2, [], [], rfl, rfl, r1, r2⟩
      · cases h
    | _ => cases hf

theorem so_build (h : Rel E w0 M K γ σ tm w) {C : Ctx0} {t : TypeId} {ps : List (Nat × D)} {qs : Array (Nat × Value)} (hq : PsR E w K σ.o γ ps qs.toList) {Q : Re → Prop} (hp : (buildF C t ps).ok σ.d σ.o Q) : Gets C.P E w0 M σ tm w (Instr.build t qs) Q := by
  unfold buildF at hp
  split at hp
  · rename_i fs hu
    split at hp
    · rename_i z places hz hpl
      split at hp
      · rename_i ls hf
        obtain ⟨i, z', hi, hz', hl⟩ := zeroOf_ok (E := E) (w := w) (K := K) (so := σ.o) (γ := γ) hz
        obtain ⟨cs', g1, g2⟩ := fill_ok (place := (places.toArray[·]?)) (fun i => by simp) hq hl hf
        refine ⟨.agg cs', w, run_build w t _ cs' ?_, _, hp, h.pos (d := .p (.agg ls)) ⟨cs', rfl, g2⟩⟩
        unfold Program.built
        simp only [hi, hu, hz', hpl]
        exact g1
      · exact hp.elim
    · exact hp.elim
  · rename_i k e hu
    split at hp
    · rename_i sh z sz hsh hz hsz
      simp only [ok_bind, ok_chk, Bool.and_eq_true] at hp
      obtain ⟨⟨⟨hsh1, hsz0⟩, hzo⟩, hp⟩ := hp
      obtain ⟨it, z', hit, hz', hro⟩ := zeroOk_ro (E := E) (w := w) (Kf := K true) hzo
      obtain rfl : sh.sz = sz := Nat.eq_of_beq_eq_true hsh1
      have hsz0' : 0 < sh.sz := by rw [Nat.blt_eq] at hsz0; exact hsz0
      have hzs : z'.cells.size = k * sh.sz := by have := hro.length; simpa [Sh.sz] using this
      have hib : ∃ ie, C.P.info? e = some ie ∧ ie.size = sh.sz := by
        unfold szOf at hsz
        cases hi : C.P.info? e with
        | none => simp [hi] at hsz
        | some ie => simp [hi] at hsz; exact ⟨ie, rfl, hsz⟩
      obtain ⟨ie, hie, hies⟩ := hib
      have hbuilt : ∀ cells, Instr.fill (fun i => some (i * sh.sz, sh.sz)) z'.cells qs.toList = some cells → C.P.built t qs.toList = some cells := by
        intro cells hf
        unfold Program.built
        simp only [hit, hu, hz', hie, hies]
        exact hf
      split at hp
      · have hqs : qs.toList = [] := hq
        refine ⟨.agg z'.cells, w, run_build w t _ _ (hbuilt _ (by rw [hqs]; rfl)), _, hp, h.pos (d := .p (.agg _)) ⟨z'.cells, rfl, LRs.one ?_⟩⟩
        exact hro
      · rename_i p ps
        simp only [ok_bind, ok_chk, ok_opt, ok_pure] at hp
        obtain ⟨els, hel, hall, hp⟩ := hp
        obtain ⟨css, zv, i0, hi0, hzv, his, hcl, hell, hcs, hlr, hfill⟩ := elems_ok hz hsz hq hel hall
        obtain ⟨y, ⟨hws, hq'⟩, hy, hlen, Fs, hF, htv⟩ := ok_pkN h (by rw [hcl, hell]) hlr hp
        have hyw : y.ws = [] := by simpa using hws
        obtain ⟨c', g1, g2⟩ := hfill z'.cells hzs (fun e => by cases e)
        refine ⟨.agg c', w, run_build w t _ _ (hbuilt _ g1), _, hq', h.pos (d := .p (.agg _)) ⟨c', rfl, LRs.one ?_⟩⟩
        show Ro E w (K y.f) (.v k sh) y.v c'.toList
        rw [g2 hsz0', ← hcl]
        refine Ro.arr (by rw [hlen, hell, hcl]) (fun i c hc => ?_)
        have := htv i c hc
        rw [Tv.z_iff, hyw] at this
        exact this.1.mono (fun b hb => hb.elim (fun hb => hb) (fun hz => by obtain ⟨q, hq, _⟩ := hz; cases hq)) (fun _ _ => rfl)
    · exact hp.elim
  · exact hp.elim

theorem so_buildSlice (h : Rel E w0 M K γ σ tm w) {C : Ctx0} {dst : Option Tmp} {t : TypeId} {n : Nat} {ps : List (Nat × D)} {qs : Array (Nat × Value)} (hq : PsR E w K σ.o γ ps qs.toList) {Q : Re → Prop} (hp : (buildSliceF C dst t n ps).ok σ.d σ.o Q) :
    Gets C.P E w0 M σ tm w (Instr.buildSlice t n qs) Q := by
  unfold buildSliceF at hp
  split at hp
  · rename_i e he
    have hu : C.P.underlying t = some (.slice e) := by
      unfold elemOf? at he; split at he
      · rename_i e' hu; simp only [Option.some.injEq] at he; subst he; exact hu
      · cases he
    split at hp
    · rename_i sh z sz hsh hz hsz
      simp only [ok_bind, ok_chk, ok_opt, Bool.and_eq_true, Nat.ble_eq, Nat.blt_eq] at hp
      obtain ⟨⟨⟨hsh1, hsz0⟩, hle⟩, els, hel, hall, hp⟩ := hp
      obtain rfl : sh.sz = sz := Nat.eq_of_beq_eq_true hsh1
      have hp2 : ∃ ow, (pkN sh ow els).ok σ.d σ.o fun y => (fresh dst 0).ok σ.d σ.o fun x => okW y.ws = true ∧ Q (one (.rw x), (x, .ro y.f 0 e sh ow y.v none) :: y.ws) := by
        cases ho : C.Own (dst.getD 0) with
        | some o => rw [ho] at hp; exact ⟨o, hp⟩
        | none =>
          rw [ho] at hp
          obtain ⟨ow, how⟩ := ok_some hp
          exact ⟨ow, how⟩
      clear hp
      obtain ⟨ow, hp⟩ := hp2
      obtain ⟨css, zv, i0, hi0, hzv, his, hcl, hell, hcs, hlr, hfill⟩ := elems_ok hz hsz hq hel hall
      obtain ⟨y, hp, hy, hlen, Fs, hF, htv⟩ := ok_pkN h (by rw [hcl, hell]) hlr hp
      obtain ⟨T, rfl, hno, hok, hq'⟩ := ok_fresh _ _ _ hp
      -- the machine's side
      let zero : Array Value := if n * sh.sz = 0 then #[] else zv.cells
      let c0 : Array Value := (Array.range (n * sh.sz)).map (zero[· % zero.size]!)
      obtain ⟨c', g1, g2⟩ := hfill c0 (by simp [c0]) (fun _ hzs hs => by
        by_cases hn : n * sh.sz = 0
        · have hn0 : n = 0 := by
            rcases Nat.mul_eq_zero.1 hn with h1 | h1
            · exact h1
            · omega
          subst hn0
          simp [c0]
        · have : c0 = (Array.range (n * sh.sz)).map (zv.cells[· % zv.cells.size]!) := by simp only [c0, zero, if_neg hn]
          rw [this]; exact zeros_flat zv.cells sh.sz n hzs hs)
      replace g2 := g2 hsz0
      have hrun : (Instr.buildSlice t n qs).run C.P w = .ok (.slice (some ⟨w.heap.size, 0, none⟩) n n) (w.alloc (.cells c' e)) := by
        have hle' : ¬ (n * sh.sz > 2 ^ 24) := by have := hle; simp; exact this
        by_cases h0 : n * sh.sz = 0
        · have hz0 : c0 = (Array.range (n * sh.sz)).map ((#[] : Array Value)[· % (#[] : Array Value).size]!) := by simp only [c0, zero, if_pos h0]
          rw [hz0] at g1
          simp only [Instr.buildSlice, Sem.run_bind, run_underlying hu, Result.andThen_ok, szOf_run hsz, if_neg hle', if_pos h0, Sem.run_pure, g1, newRow, run_newObj, World.alloc_eq, Sem.run_ite]
        · have hz0 : c0 = (Array.range (n * sh.sz)).map (zv.cells[· % zv.cells.size]!) := by simp only [c0, zero, if_neg h0]
          rw [hz0] at g1
          have hzr : (zeroValue e).run C.P w = .ok zv w := by simp [zeroValue, typeInfo, hi0, hzv]
          simp only [Instr.buildSlice, Sem.run_bind, run_underlying hu, Result.andThen_ok, szOf_run hsz, if_neg hle', if_neg h0, Sem.run_pure, g1, newRow, run_newObj, World.alloc_eq, Sem.run_ite, hzr]
      -- what is taken
      obtain ⟨h1, hfree, hnd⟩ := h.takeW hok hy
      have hxno : ∀ q, q ∈ y.ws → q.1 ≠ (⟨T + 2, 0⟩ : Id) := by
        intro q hq e
        obtain ⟨f, ver, e', s', o, v, h2, _⟩ := hy q hq
        rw [e, hno] at h2; cases h2
      have hno' : (σ.setW y.ws).o ⟨T + 2, 0⟩ = .no := by rw [setW_o _ _ _ hxno]; exact hno
      have hg := Grow.alloc w (.cells c' e)
      have hrel := h1.upd ⟨T + 2, 0⟩ (w' := w.alloc (.cells c' e)) (ob := .ro y.f 0 e sh ow y.v none) (hd := .slice (some ⟨w.heap.size, 0, none⟩) n n) (F := w.heap.size :: absF γ y.ws)
        (fun b hb _ _ => hg.block b hb) hg.size rfl rfl rfl ?_ ?_ (.inl hno') ?_
      · refine ⟨_, _, hrun, _, hq', ?_⟩
        exact hrel.posI (setW_fresh hxno) ⟨_, rfl, ⟨by simp [Sg.setO], rfl⟩, fun _ => by simp [Gh.set]⟩
      · intro b hb
        rcases List.mem_cons.1 hb with rfl | hb
        · exact ⟨.inr (h1.free_new (Nat.le_refl _)), by simp⟩
        · exact ⟨.inr (hfree b hb).1, Nat.lt_of_lt_of_le (hfree b hb).2 hg.size⟩
      · refine List.nodup_cons.2 ⟨fun hb => ?_, hnd⟩
        have := (hfree _ hb).2; omega
      · refine ⟨.inr ⟨w.heap.size, n, c', fun i => css.getD i [], Fs, by rw [hlen, hell], heap_alloc_new w _, ⟨by rw [hlen, hell]; exact Nat.le_refl _, ?_⟩, ?_, by rw [hF, hlen], fun i hi => ?_⟩, fun c hc => (by cases hc)⟩
        · have : n ≤ 16777216 := Nat.le_trans (Nat.le_mul_of_pos_right n hsz0) hle
          unfold maxLen; omega
        · have := flat_len hcs
          rw [← g2, hcl] at this; simpa using this
        · rw [hlen, hell] at hi
          have hci : css[i]? = some (css.getD i []) := by
            rw [List.getD_eq_getElem?_getD, List.getElem?_eq_getElem (by omega)]; rfl
          refine ⟨?_, hcs _ (List.mem_of_getElem? hci), fun j u hj => ?_⟩
          · exact (htv i _ hci).mono (fun _ hb => hb) (fun b hb => hg.block b (h1.kb y.f b hb)) (fun b hb => hg.block b (hfree b (by rw [hF]; exact List.mem_flatMap.2 ⟨i, List.mem_range.2 (by omega), hb⟩)).2)
          · have := flat_get hcs hci hj
            rw [← g2] at this; simpa using this
    · exact hp.elim
  · exact hp.elim

theorem elemOf_u {t e : TypeId} (h : elemOf? P t = some e) : P.underlying t = some (.slice e) := by
  unfold elemOf? at h
  split at h
  · rename_i e' hu; simp only [Option.some.injEq] at h; subst h; exact hu
  · cases h
theorem so_makeSlice (h : Rel E w0 M K γ σ tm w) {C : Ctx0} {dst : Option Tmp} {t : TypeId} {kn kc : IntKind} {n c : Int} {Q : Re → Prop} (hp : (makeSliceF C dst t n c).ok σ.d σ.o Q) :
    Gets C.P E w0 M σ tm w (Instr.makeSlice t (.int kn n) (.int kc c)) Q := by
  unfold makeSliceF at hp
  split at hp
  · rename_i e he
    have hu := elemOf_u he
    split at hp
    · rename_i sh z by_ hsh hz hby
      simp only [ok_bind, ok_chk, Bool.and_eq_true, decide_eq_true_eq, Nat.blt_eq] at hp
      obtain ⟨⟨⟨⟨hsz1, hzo⟩, hb0⟩, hz0⟩, ⟨hn0, hnc, hb⟩, hp⟩ := hp
      obtain ⟨T, rfl, hno, hfit, hq⟩ := ok_fresh _ _ _ hp
      obtain rfl : sh.sz = z := Nat.eq_of_beq_eq_true hsz1
      have hzv : ∃ i0 z0, C.P.info? e = some i0 ∧ i0.zero = some z0 ∧ zeroCs sh z0.cells.toList = some [] := by
        unfold zeroOk at hzo
        split at hzo
        · rename_i z hzz
          split at hzo
          · rename_i hc
            cases hi : C.P.info? e with
            | none => simp [hi] at hzz
            | some i => simp [hi] at hzz; exact ⟨i, z, rfl, hzz, hc⟩
          · cases hzo
        · cases hzo
      obtain ⟨i0, z0, hi, hz0', hzc⟩ := hzv
      have hsz : i0.size = sh.sz := by unfold szOf at hz; simpa [hi] using hz
      have hbs : i0.bytes = by_ := by unfold bytesOf? at hby; simpa [hi] using hby
      have hcm : c.toNat ≤ by_ * c.toNat := Nat.le_mul_of_pos_left _ hb0
      have hmx : maxBytes = 140737488355328 := rfl
      have hcl : c.toNat ≤ 140737488355328 := by rw [hmx] at hb; exact Nat.le_trans hcm hb
      have hbI : (i0.bytes : Int) * c ≤ 281474976710656 := by
        rw [hbs]
        have : ((by_ * c.toNat : Nat) : Int) ≤ 140737488355328 := by rw [hmx] at hb; omega
        rw [Int.natCast_mul, Int.toNat_of_nonneg (by omega)] at this
        exact Int.le_trans this (by decide)
      have hr := run_make (P := C.P) w t e i0 z0 hu hi hz0' kn kc n c hn0 hnc hbI (by omega)
      have hg := Grow.alloc w (.cells (madeCells z0.cells (c.toNat * i0.size)) e)
      generalize ownOf C (some T) e = ow at hfit hq
      obtain ⟨cz, hcz, htz⟩ := zero_tv (E := E) (w := w.alloc (.cells (madeCells z0.cells (c.toNat * i0.size)) e)) (Kf := K true) hzc hfit
      rw [List.append_nil] at hcz
      have hzlen : z0.cells.size = sh.sz := by have := htz.length; rw [← hcz] at this; simpa using this
      refine ⟨_, _, hr, _, hq, ?_⟩
      have hrel := h.mkO hno hg (ob := .ro true 0 e sh ow (List.replicate n.toNat sh.zero) none) (hd := .slice (some ⟨w.heap.size, 0, none⟩) n.toNat c.toNat) (F := [w.heap.size])
        (fun b hb => by rw [List.mem_singleton] at hb; subst hb; exact ⟨Nat.le_refl _, by simp⟩) (by simp)
        ⟨.inr ⟨w.heap.size, c.toNat, _, fun _ => z0.cells.toList, fun _ => [], by rw [List.length_replicate], heap_alloc_new w _, ⟨by rw [List.length_replicate]; omega, by unfold maxLen; omega⟩, by rw [size_madeCells, hsz], by simp, fun i hi => ?_⟩, fun c hc => (by cases hc)⟩
      · exact hrel.posI (σ := σ) (ws := [(_, _)]) (l := .rw ⟨T + 2, 0⟩) rfl ⟨_, rfl, ⟨by simp [Sg.setO], rfl⟩, fun _ => by simp [Gh.set]⟩
      · rw [List.length_replicate] at hi
        refine ⟨?_, by simpa using hzlen, fun j y hj => ?_⟩
        · show Tv E _ (K true) sh ow ((List.replicate n.toNat sh.zero).getD i sh.zero) z0.cells.toList []
          rw [getD_get (by simpa using hi), List.getElem_replicate, hcz]
          exact htz
        · have hj' := (List.getElem?_eq_some_iff.1 hj).1
          have hj2 : j < sh.sz := by simpa [hzlen] using hj'
          have h1 : i * sh.sz + j < n.toNat * sh.sz := by
            have : (i + 1) * sh.sz ≤ n.toNat * sh.sz := Nat.mul_le_mul_right _ hi
            rw [Nat.add_mul] at this; omega
          have h2 : n.toNat * sh.sz ≤ c.toNat * sh.sz := Nat.mul_le_mul_right _ (by omega)
          have hmod : (i * sh.sz + j) % z0.cells.size = j := by rw [hzlen, Nat.mul_comm, Nat.mul_add_mod]; exact Nat.mod_eq_of_lt hj2
          simp only [madeCells, Array.getElem?_map]
          rw [Array.getElem?_range, if_pos (by rw [hsz]; omega)]
          simp only [Option.map_some, hmod]
          rw [getElem!_pos z0.cells j (by omega)]
          have := hj
          rw [Array.getElem?_toList, Array.getElem?_eq_getElem (by omega)] at this
          exact this
    · exact hp.elim
  · exact hp.elim
theorem so_makeMap (h : Rel E w0 M K γ σ tm w) {C : Ctx0} {dst : Option Tmp} {t : TypeId} {Q : Re → Prop} (hp : (makeMapF C dst t).ok σ.d σ.o Q) : Gets C.P E w0 M σ tm w (Instr.makeMap t none) Q := by
  unfold makeMapF at hp
  split at hp
  · rename_i k a hm
    simp only [ok_bind, ok_chk] at hp
    obtain ⟨_, hp⟩ := hp
    obtain ⟨T, rfl, hno, hq⟩ := ok_fresh _ _ _ hp
    have hg := Grow.alloc w (.map #[] 0)
    have hrel := h.mkO hno hg (ob := .ma k a []) (hd := .map (some w.heap.size)) (F := [w.heap.size])
      (fun b hb => by rw [List.mem_singleton] at hb; subst hb; exact ⟨Nat.le_refl _, by simp⟩) (by simp)
      ⟨w.heap.size, #[], 0, rfl, heap_alloc_new w _, rfl, rfl⟩
    exact ⟨.map (some w.heap.size), w.alloc (.map #[] 0), by simp [Instr.makeMap], _, hq, hrel.posI (σ := σ) (ws := [(_, _)]) (l := .mp ⟨T + 2, 0⟩) rfl ⟨_, rfl, ⟨by simp [Sg.setO], rfl⟩, fun _ => by simp [Gh.set]⟩⟩
  · exact hp.elim
end
end Go.En
end
section
/-
  The engine, part O: append.
-/
namespace Go.En
open Go

section
variable {E : Ctx0} {w0 w w' : World} {M : Ml} {K : Bool → Nat → Prop} {γ : Gh} {σ : Sg} {tm : Array Value} {P : Program} {sd : Nat → D} {so : Id → Ob}

theorem run_append_zero (base : Nat) (t ty e : TypeId) (i : TypeInfo) (size : Nat) (ht : P.underlying t = some (.slice e)) (hi : P.info? e = some i)
    (v : Value) (n : Nat) (xs : List Value) (hown : w.ownsRow base e size v n xs) (ad : Option Addr) (c : Nat) :
    (Builtin.append_ #[t, t] ty #[v, .slice ad 0 c]).run P w = .ok v w := by
  rcases hown.2 with ⟨rfl, rfl⟩ | ⟨g, cap, cur, rfl, _, _, hnc, _⟩
  · cases ad <;> simp [Builtin.append_, run_underlying ht, sizeOf, typeInfo, hi, Builtin.lenOf, Builtin.firstCells, loadCells, loadCellsFrom]
  · cases ad <;> simp [Builtin.append_, run_underlying ht, sizeOf, typeInfo, hi, Builtin.lenOf, Builtin.firstCells, hnc, storeCells, loadCells, loadCellsFrom]


theorem sub_flatMap {α β : Type} (f : α → List β) {a c : List α} (h : List.Sublist a c) : List.Sublist (a.flatMap f) (c.flatMap f) := by
  induction h with
  | slnil => exact .slnil
  | cons x _ ih => rw [List.flatMap_cons]; exact ih.trans (List.sublist_append_right _ _)
  | cons_cons x _ ih => rw [List.flatMap_cons, List.flatMap_cons]; exact ih.append_left _
/-- a shorter row in the same block -/
theorem Row.trunc {e : TypeId} {z n : Nat} {x y : Value} {F : List Nat} {El : Nat → List Value → List Nat → Prop} (h : Row w e z n x F El) {m : Nat} (hs : SlR x z 0 m y) :
    ∃ F', Row w e z m y F' El ∧ (F.Nodup → F'.Nodup) ∧ ∀ b, b ∈ F' → b ∈ F := by
  obtain ⟨ad, n', c, rfl, hle, ad', c', rfl, hnc, hpos, h0⟩ := hs
  obtain ⟨rfl, rfl⟩ := h0 rfl
  rcases h with ⟨h1, h2, h3⟩ | ⟨b, c, cur, css, Fs, h1, h2, h3, h4, h5, h6⟩
  · injection h1 with e1 e2 e3
    have hm : m = 0 := by omega
    subst hm; subst e1; subst e3
    exact ⟨[], .inl ⟨rfl, rfl, rfl⟩, fun _ => List.nodup_nil, fun b hb => by cases hb⟩
  · injection h1 with e1 e2 e3
    subst e1; subst e2; subst e3
    have hsub : List.Sublist ((List.range m).flatMap Fs) ((List.range n').flatMap Fs) := by
      have : List.Sublist (List.range m) (List.range n') := List.range_sublist.2 (by omega)
      exact sub_flatMap Fs this
    refine ⟨b :: (List.range m).flatMap Fs, .inr ⟨b, _, cur, css, Fs, rfl, h2, ⟨by omega, h3.2⟩, h4, rfl, fun i hi => h6 i (by omega)⟩, fun hnd => ?_, fun b' hb' => ?_⟩
    · rw [h5] at hnd
      exact (hsub.cons_cons b).nodup hnd
    · rw [h5]
      exact (hsub.cons_cons b).subset hb'
theorem Row.owns {e : TypeId} {z n : Nat} {x : Value} {F : List Nat} {El : Nat → List Value → List Nat → Prop} (h : Row w e z n x F El) :
    ∃ (xs : List Value) (css : Nat → List Value) (Fs : Nat → List Nat), w.ownsRow 0 e z x n xs ∧ (∀ i, i < n → El i (css i) (Fs i) ∧ (css i).length = z ∧ ∀ j y, (css i)[j]? = some y → xs[i * z + j]? = some y) ∧
      ((x.ownBlock = none ∧ n = 0 ∧ F = []) ∨ ∃ b, x.ownBlock = some b ∧ F = b :: (List.range n).flatMap Fs ∧ b < w.heap.size) := by
  rcases h with ⟨rfl, rfl, rfl⟩ | ⟨b, c, cur, css, Fs, rfl, h2, h3, h4, h5, h6⟩
  · exact ⟨[], fun _ => [], fun _ => [], World.ownsRow_nil w 0 e z, fun i hi => absurd hi (Nat.not_lt_zero _), .inl ⟨rfl, rfl, rfl⟩⟩
  · have hle : n * z ≤ c * z := Nat.mul_le_mul_right _ h3.1
    refine ⟨cur.toList.take (n * z), css, Fs, ⟨by rw [List.length_take]; simp; omega, .inr ⟨b, c, cur, rfl, Nat.zero_le _, h2, h3.1, h3.2, h4, rfl⟩⟩, fun i hi => ?_, .inr ⟨b, rfl, h5, (Array.getElem?_eq_some_iff.1 h2).1⟩⟩
    obtain ⟨g1, g2, g3⟩ := h6 i hi
    refine ⟨g1, g2, fun j y hj => ?_⟩
    have hjz : j < z := by rw [← g2]; exact (List.getElem?_eq_some_iff.1 hj).1
    have : (i + 1) * z ≤ n * z := Nat.mul_le_mul_right _ hi
    rw [Nat.add_mul, Nat.one_mul] at this
    rw [List.getElem?_take, if_pos (by omega), Array.getElem?_toList]
    exact g3 j y hj

/-- the row that is appended to -/
theorem ok_base (h : Rel E w0 M K γ σ tm w) {C : Ctx0} {dst : Option Tmp} {e : TypeId} {l : L} {y : Value} (hl : LR E w K σ.o γ l [y]) {Q : Bs → Prop} (hp : (baseF C dst e l).ok σ.d σ.o Q) :
    ∃ b F, Q b ∧ (∀ q, q ∈ b.ws → WOk σ q) ∧ Row w e b.sh.sz b.v.length y F (fun i cs G => ∀ ow, b.ow = some ow → Tv E w (K b.f) b.sh ow (b.v.getD i b.sh.zero) cs G) ∧ F.Nodup ∧ (∀ x, x ∈ F → x ∈ absF γ b.ws) ∧ (b.ow = none → b.v = []) := by
  unfold baseF at hp
  split at hp
  · split at hp
    · rename_i sh hsh
      refine ⟨_, [], hp, fun q hq => (by cases hq), .inl ⟨by injection hl, rfl, rfl⟩, List.nodup_nil, fun x hx => (by cases hx), fun _ => rfl⟩
    · exact hp.elim
  · rename_i o
    obtain ⟨x, hx, hno, hrw⟩ := hl
    injection hx with hx; subst hx
    simp only [ok_bind, ok_getO] at hp
    split at hp
    · rename_i f ver e' sh ow v ho
      simp only [ok_bind, ok_chk, ok_pure] at hp
      obtain ⟨he, hq⟩ := hp
      obtain rfl : e = e' := by simpa using he
      refine ⟨_, γ.fp o, hq, ?_, ?_, h.nd o, fun x hx => by simp only [absF, List.append_nil]; exact hx, fun hn => by cases hn⟩
      · intro q hq
        rw [List.mem_singleton] at hq; subst hq
        exact ⟨f, ver, e, sh, ow, v, ho, .inl rfl⟩
      · rw [hrw (by rw [ho]; rfl)]
        exact (h.ro_none ho).mono (fun _ _ => rfl) (fun i cs G _ _ hel ow' how => by cases how; exact hel)
    · exact hp.elim
  · rename_i o off n
    obtain ⟨x, hx, hno, hsl⟩ := hl
    injection hx with hx; subst hx
    simp only [ok_bind, ok_getO] at hp
    split at hp
    · rename_i f ver e' sh ow v ho
      simp only [ok_bind, ok_chk, ok_pure, Bool.and_eq_true] at hp
      obtain ⟨⟨he, hoff⟩, hq⟩ := hp
      obtain rfl : e = e' := by simpa using he
      obtain rfl : off = 0 := by simpa using hoff
      have hs := hsl v.length sh.sz (by rw [ho]; rfl)
      obtain ⟨F', hrow, hnd, hsub⟩ := (h.ro_none ho).trunc hs
      have hn : n ≤ v.length := by
        obtain ⟨ad, m, c, h1, h2, _⟩ := hs
        obtain ⟨ad2, c2, h3, _⟩ := h.row_val (o := o) (n := v.length) (z := sh.sz) (by rw [ho]; rfl)
        rw [h1] at h3; injection h3 with _ e2 _; omega
      have hlen : (v.take n).length = n := by rw [List.length_take]; omega
      refine ⟨_, F', hq, ?_, ?_, hnd (h.nd o), fun x hx => by simp only [absF, List.append_nil]; exact hsub x hx, fun hn => by cases hn⟩
      · intro q hq
        rw [List.mem_singleton] at hq; subst hq
        exact ⟨f, ver, e, sh, ow, v, ho, .inl rfl⟩
      · simp only [hlen]
        refine hrow.mono (fun _ _ => rfl) (fun i cs G hi _ hel ow' how => ?_)
        cases how
        have : (v.take n).getD i sh.zero = v.getD i sh.zero := by
          rw [List.getD_eq_getElem?_getD, List.getD_eq_getElem?_getD, List.getElem?_take, if_pos hi]
        rw [this]; exact hel
    · exact hp.elim
  · exact hp.elim

theorem nil_flat {n : Nat} : (List.range n).flatMap (fun _ => ([] : List Nat)) = [] := by induction (List.range n) with | nil => rfl | cons x l ih => rw [List.flatMap_cons, ih]; rfl
/-- elements that are appended -/
def Src (E : Ctx0) (w : World) (Kf : Nat → Prop) (sh : Sh) (ow : Ow) (u : List (Val sh)) (x : Value) (A : List Nat) : Prop :=
  ∃ ad c, x = .slice ad u.length c ∧ (u = [] ∨ ∃ (b p : Nat) (css : Nat → List Value) (Gs : Nat → List Nat), ad = some ⟨b, p, none⟩ ∧ ((List.range u.length).flatMap Gs).Nodup ∧ (∀ y, y ∈ (List.range u.length).flatMap Gs → y ∈ A) ∧
    ∀ i, i < u.length → Tv E w Kf sh ow (u.getD i sh.zero) (css i) (Gs i) ∧ ∀ j y, (css i)[j]? = some y → w.cell? ⟨b, p + (i * sh.sz + j), none⟩ = some y)
theorem Src.data {Kf : Nat → Prop} {sh : Sh} {u : List (Val sh)} {x : Value} (hr : Ro E w Kf (.l sh) u [x]) (A : List Nat) : Src E w Kf sh .z u x A := by
  rcases Ro.inv_l hr with ⟨rfl, ad, c, h1⟩ | ⟨b, p, c, css, h1, hK, hc, hel, hcell⟩
  · exact ⟨ad, c, h1, .inl rfl⟩
  · refine ⟨_, c, h1, .inr ⟨b, p, css, fun _ => [], rfl, by rw [nil_flat]; exact List.nodup_nil, fun y hy => by (rw [nil_flat] at hy; cases hy), fun i hi => ⟨?_, fun j y hj => hcell i j y hi hj⟩⟩⟩
    rw [Tv.z_iff, getD_get hi]; exact ⟨hel i hi, rfl⟩
theorem cast_l {s2 sh : Sh} {v : List (Val s2)} {u : List (Val sh)} (h : castV (a := .l s2) (c := .l sh) v = some u) : s2 = sh ∧ HEq v u := by
  obtain ⟨h1, h2⟩ := castV_eq h
  injection h1 with h1
  exact ⟨h1, h2⟩
theorem flat_ro {Kf Kg : Nat → Prop} : ∀ {sh : Sh} {v : Val sh} {cs : List Value}, flat sh = true → Ro E w Kf sh v cs → Ro E w Kg sh v cs := by
  intro sh
  induction sh with
  | i k => intro v cs _ h; rw [Ro.inv_i h]; exact .i
  | b => intro v cs _ h; rw [Ro.inv_b h]; exact .b
  | s => intro v cs _ h; rw [Ro.inv_s h]; exact .s
  | u => intro v cs _ h; rw [Ro.inv_u h]; exact .u
  | p a c ih1 ih2 =>
    intro v cs hf h
    simp only [flat, Bool.and_eq_true] at hf
    obtain ⟨xs, ys, rfl, h1, h2⟩ := Ro.inv_p h
    exact .p (ih1 hf.1 h1) (ih2 hf.2 h2)
  | v q a ih =>
    intro v cs hf h
    have hf' : flat a = true := hf
    have key : ∀ {q : Nat} {v : List (Val a)} {cs : List Value}, Ro E w Kf (.v q a) v cs → Ro E w Kg (.v q a) v cs := by
      intro q
      induction q with
      | zero => intro v cs h; cases h; exact .v0
      | succ q ihq => intro v cs h; cases h with | vs h1 h2 => exact .vs (ih hf' h1) (ihq h2)
    exact key h
  | _ => intro v cs hf; cases hf
theorem Src.flat {Kf : Nat → Prop} {Kg : Nat → Prop} {sh : Sh} (hf : flat sh = true) {u : List (Val sh)} {x : Value} {A : List Nat} (h : Src E w Kf sh .z u x A) : Src E w Kg sh .z u x A := by
  obtain ⟨ad, c, h1, h2⟩ := h
  refine ⟨ad, c, h1, h2.imp id ?_⟩
  rintro ⟨b, p, css, Gs, h3, h4, h5, h6⟩
  refine ⟨b, p, css, Gs, h3, h4, h5, fun i hi => ?_⟩
  obtain ⟨g1, g2⟩ := h6 i hi
  rw [Tv.z_iff] at g1
  exact ⟨by rw [Tv.z_iff]; exact ⟨flat_ro hf g1.1, g1.2⟩, g2⟩

theorem ok_tail (h : Rel E w0 M K γ σ tm w) {sh : Sh} {ow : Option Ow} {l : L} {x : Value} (hl : LR E w K σ.o γ l [x]) {Q : Ow × Bool × List (Val sh) × Wo → Prop} (hp : (tailF sh ow l).ok σ.d σ.o Q) :
    ∃ o f u ws, Q (o, f, u, ws) ∧ (∀ q, q ∈ ws → WOk σ q) ∧ (∀ o', ow = some o' → o = o') ∧ Src E w (KZ K γ ws f) sh o u x (absF γ ws) := by
  have kz : ∀ {ws : Wo} {f : Bool} {b : Nat}, K f b → KZ K γ ws f b := fun hb => .inl hb
  have isz : ∀ {ow : Option Ow}, (match ow with | none => true | some .z => true | _ => false) = true → ∀ o', ow = some o' → Ow.z = o' := by
    intro ow hm o' ho
    subst ho
    cases o' <;> first | rfl | cases hm
  unfold tailF at hp
  split at hp
  · exact ⟨_, _, _, _, hp, fun q hq => (by cases hq), fun o' ho => by rw [ho]; rfl, none, 0, by injection hl, .inl rfl⟩
  · rename_i o
    obtain ⟨x', hx, hno, hrw⟩ := hl
    injection hx with hx; subst hx
    simp only [ok_bind, ok_getO] at hp
    split at hp
    · rename_i f ver e2 s2 ow2 v ho
      simp only [ok_bind, ok_opt] at hp
      obtain ⟨u, hc, hp⟩ := hp
      obtain ⟨rfl, hv⟩ := cast_l hc
      obtain rfl := eq_of_heq hv
      have hx := hrw (by rw [ho]; rfl)
      split at hp
      · rename_i hg
        refine ⟨_, _, _, _, hp, fun q hq => (by cases hq), fun o' ho' => by subst ho'; exact hg.symm, ?_⟩
        rcases h.ro_none ho with ⟨h1, h2, _⟩ | ⟨b, c, cur, css, Fs, h1, h2, h3, h4, h5, h6⟩
        · rw [hx, h1]
          have : v = [] := List.eq_nil_of_length_eq_zero h2
          subst this
          exact ⟨none, 0, rfl, .inl rfl⟩
        · rw [hx, h1]
          refine ⟨_, c, rfl, .inr ⟨b, 0, css, fun _ => [], rfl, by rw [nil_flat]; exact List.nodup_nil, fun y hy => by (rw [nil_flat] at hy; cases hy), fun i hi => ⟨?_, fun j y hj => ?_⟩⟩⟩
          · have this : Tv E w (K f) s2 .z (v.getD i s2.zero) (css i) (Fs i) := (h6 i hi).1
            rw [Tv.z_iff] at this ⊢
            exact ⟨this.1.mono (fun b hb => kz hb) (fun _ _ => rfl), rfl⟩
          · have := (h6 i hi).2.2 j y hj
            simp only [World.cell?, h2, Nat.zero_add]; exact this
      · rename_i hg
        refine ⟨_, _, _, _, hp, ?_, fun o' ho' => by subst ho'; first | exact hg.symm | (simp_all), ?_⟩
        · intro q hq
          rw [List.mem_singleton] at hq; subst hq
          exact ⟨f, ver, e2, s2, _, v, ho, .inr rfl⟩
        · rw [hx]
          exact Src.data ((h.ro_ro ho).mono (fun b hb => hb.elim (fun hb => .inr (Zof_one hb)) .inl) (fun _ _ => rfl)) _
      · simp only [ok_bind, ok_chk, ok_pure] at hp
        obtain ⟨hw, hp⟩ := hp
        refine ⟨_, _, _, _, hp, ?_, fun o' ho' => by subst ho'; rfl, ?_⟩
        · intro q hq
          rw [List.mem_singleton] at hq; subst hq
          exact ⟨f, ver, e2, s2, _, v, ho, .inl rfl⟩
        · have hww := Ow.eqb_eq hw
          rw [hww, hx]
          simp only [absF, List.append_nil]
          have hnd := h.nd o
          rcases h.ro_none ho with ⟨h1, h2, _⟩ | ⟨b, c, cur, css, Fs, h1, h2, h3, h4, h5, h6⟩
          · rw [h1]
            have : v = [] := List.eq_nil_of_length_eq_zero h2
            subst this
            exact ⟨none, 0, rfl, .inl rfl⟩
          · rw [h1]
            rw [h5] at hnd
            refine ⟨_, c, rfl, .inr ⟨b, 0, css, Fs, rfl, (List.nodup_cons.1 hnd).2, fun y hy => by rw [h5]; exact List.mem_cons_of_mem _ hy, fun i hi => ⟨?_, fun j y hj => ?_⟩⟩⟩
            · exact (h6 i hi).1.mono (fun b hb => kz hb) (fun _ _ => rfl) (fun _ _ => rfl)
            · have := (h6 i hi).2.2 j y hj
              simp only [World.cell?, h2, Nat.zero_add]; exact this
    · rename_i f ver s2 v ho
      simp only [ok_bind, ok_chk, ok_opt, ok_pure] at hp
      obtain ⟨hz, u, hc, hq⟩ := hp
      obtain ⟨rfl, hv⟩ := cast_l hc
      obtain rfl := eq_of_heq hv
      have hob := h.ob o
      rw [ho] at hob
      refine ⟨_, _, _, _, hq, fun q hq => (by cases hq), isz hz, ?_⟩
      rw [hrw (by rw [ho]; rfl)]
      exact Src.data (hob.1.mono (fun b hb => kz hb) (fun _ _ => rfl)) _
    · exact hp.elim
  · rename_i o off n
    obtain ⟨x', hx, hno, hsl⟩ := hl
    injection hx with hx; subst hx
    simp only [ok_bind, ok_getO] at hp
    split at hp
    · rename_i f ver e2 s2 v ho
      simp only [ok_bind, ok_chk, ok_opt, ok_pure] at hp
      obtain ⟨hz, u, hc, hq⟩ := hp
      obtain ⟨rfl, hv⟩ := cast_l hc
      have hu := eq_of_heq hv
      subst hu
      refine ⟨_, _, _, _, hq, fun q hq => (by cases hq), isz hz, ?_⟩
      have hs := hsl v.length s2.sz (by rw [ho]; rfl)
      obtain ⟨ad, m, c, hh, hle, ad', c', rfl, hnc, hpos, _⟩ := hs
      obtain ⟨ad2, c2, hh2, _⟩ := h.row_val (o := o) (n := v.length) (z := s2.sz) (by rw [ho]; rfl)
      rw [hh] at hh2
      injection hh2 with e1 e2' e3
      subst e2'
      have hl : ((v.drop off).take n).length = n := by simp; omega
      by_cases hn : n = 0
      · subst hn
        exact ⟨ad', c', by rw [hl], .inl (by simp)⟩
      · obtain ⟨b, p, g1, g2⟩ := hpos (by omega)
        subst g1
        rcases h.ro_none ho with ⟨h1, h2, _⟩ | ⟨b', c'', cur, css, Fs, h1, h2, h3, h4, h5, h6⟩
        · rw [hh] at h1; cases h1
        · rw [hh] at h1
          injection h1 with e1 _ _
          injection e1 with e1; injection e1 with e1 e4
          subst e1; subst e4
          refine ⟨ad', c', by rw [hl], .inr ⟨b, 0 + off * s2.sz, fun i => css (off + i), fun _ => [], g2, by rw [nil_flat]; exact List.nodup_nil, fun y hy => by (rw [nil_flat] at hy; cases hy), fun i hi => ?_⟩⟩
          rw [hl] at hi
          have hg : ((v.drop off).take n).getD i s2.zero = v.getD (off + i) s2.zero := by
            rw [List.getD_eq_getElem?_getD, List.getD_eq_getElem?_getD, List.getElem?_take, if_pos hi, List.getElem?_drop]
          refine ⟨?_, fun j y hj => ?_⟩
          · have this : Tv E w (K f) s2 .z (v.getD (off + i) s2.zero) (css (off + i)) (Fs (off + i)) := (h6 (off + i) (by omega)).1
            rw [hg]
            rw [Tv.z_iff] at this ⊢
            exact ⟨this.1.mono (fun b hb => kz hb) (fun _ _ => rfl), rfl⟩
          · have := (h6 (off + i) (by omega)).2.2 j y hj
            simp only [World.cell?, h2]
            rw [show 0 + off * s2.sz + (i * s2.sz + j) = (off + i) * s2.sz + j by rw [Nat.add_mul]; omega]; exact this
    · rename_i f ver s2 v ho
      simp only [ok_bind, ok_chk, ok_opt, ok_pure] at hp
      obtain ⟨hz, u, hc, hq⟩ := hp
      obtain ⟨rfl, hv⟩ := cast_l hc
      have hu := eq_of_heq hv
      subst hu
      have hob := h.ob o
      rw [ho] at hob
      refine ⟨_, _, _, _, hq, fun q hq => (by cases hq), isz hz, ?_⟩
      exact Src.data ((hob.1.mono (fun b hb => kz hb) (fun _ _ => rfl)).slc (hsl v.length s2.sz (by rw [ho]; rfl))) _
    · exact hp.elim
  · rename_i pv s2 v
    simp only [ok_bind, ok_chk] at hp
    obtain ⟨hz, hp⟩ := hp
    obtain ⟨hp1, Kf, hto, hof⟩ := ok_there (K := K) (γ := γ) (w := w) (E := E) hp
    clear hp
    cases pv with
    | fz f =>
      simp only [ok_pure, ok_opt] at hp1
      obtain ⟨u, hc, hq⟩ := hp1
      obtain ⟨rfl, hv⟩ := cast_l hc
      obtain rfl := eq_of_heq hv
      refine ⟨_, _, _, _, hq, fun q hq => (by cases hq), isz hz, ?_⟩
      cases hfl : flat s2 with
      | true => exact (Src.data (Ro.mono (K' := KZ K γ [] f) (fun b hb => kz hb) (fun _ _ => rfl) hl) _).flat hfl
      | false => rw [Bool.or_false]; exact Src.data (Ro.mono (fun b hb => kz hb) (fun _ _ => rfl) hl) _
    | bw o ver =>
      simp only [ok_bind, ok_chk, ok_pure, ok_opt] at hp1
      obtain ⟨hfl, u, hc, hq⟩ := hp1
      obtain ⟨rfl, hv⟩ := cast_l hc
      obtain rfl := eq_of_heq hv
      exact ⟨_, _, _, _, hq, fun q hq => (by cases hq), isz hz, (Src.data (hto hl) _).flat hfl⟩
  · exact hp.elim
end
end Go.En
end
section
/-
  The engine, part P: append.
-/
namespace Go.En
open Go

section
variable {E : Ctx0} {w0 w w' : World} {M : Ml} {K : Bool → Nat → Prop} {γ : Gh} {σ : Sg} {tm : Array Value} {P : Program} {sd : Nat → D} {so : Id → Ob}

theorem Tv.one {Kz : Nat → Prop} : ∀ {ow : Ow} {sh : Sh} {v : Val sh} {cs : List Value} {F : List Nat}, Tv E w Kz sh ow v cs F → ∀ x ∈ cs, x.oneCell' = true := fun h => (Tv.ro h).one

theorem szOf_info {e : TypeId} {z : Nat} (hz : szOf P e = some z) : ∃ i, P.info? e = some i ∧ i.size = z := by
  unfold szOf at hz; cases hi : P.info? e with
  | none => rw [hi] at hz; cases hz
  | some i => exact ⟨i, rfl, by simpa [hi] using hz⟩
theorem flatMap_split {Fs Gs : Nat → List Nat} (n m : Nat) : (List.range (n + m)).flatMap (fun i => if i < n then Fs i else Gs (i - n)) = (List.range n).flatMap Fs ++ (List.range m).flatMap Gs := by
  have cong : ∀ (l : List Nat) (f g : Nat → List Nat), (∀ x ∈ l, f x = g x) → l.flatMap f = l.flatMap g := by
    intro l f g
    induction l with
    | nil => intro _; rfl
    | cons x l ih => intro h; rw [List.flatMap_cons, List.flatMap_cons, h x (List.mem_cons_self ..), ih (fun y hy => h y (List.mem_cons_of_mem _ hy))]
  rw [List.range_add, List.flatMap_append, List.flatMap_map]
  congr 1
  · exact cong _ _ _ fun i hi => by rw [if_pos (List.mem_range.1 hi)]
  · exact cong _ _ _ fun i hi => by rw [if_neg (by omega), Nat.add_sub_cancel_left]
theorem flat_inv {css : Nat → List Value} {m z : Nat} (h : ∀ i, i < m → (css i).length = z) {j : Nat} {u : Value} (hj : ((List.range m).flatMap css)[j]? = some u) : ∃ i k, i < m ∧ j = i * z + k ∧ (css i)[k]? = some u := by
  induction m with
  | zero => simp at hj
  | succ m ih =>
    have hl : ((List.range m).flatMap css).length = m * z := by
      have := flat_len (css := (List.range m).map css) (sz := z) (fun c hc => by
        obtain ⟨i, hi, rfl⟩ := List.mem_map.1 hc
        exact h i (by have := List.mem_range.1 hi; omega))
      rw [List.flatMap_map] at this
      simpa using this
    rw [List.range_succ, List.flatMap_append] at hj
    rw [List.getElem?_append] at hj
    split at hj
    · obtain ⟨i, k, h1, h2, h3⟩ := ih (fun i hi => h i (by omega)) hj
      exact ⟨i, k, by omega, h2, h3⟩
    · rw [hl] at hj
      simp only [List.flatMap_cons, List.flatMap_nil, List.append_nil] at hj
      exact ⟨m, j - m * z, by omega, by omega, hj⟩
theorem flat_at {css : Nat → List Value} {m z : Nat} (h : ∀ i, i < m → (css i).length = z) {i : Nat} (hi : i < m) {j : Nat} {y : Value} (hj : (css i)[j]? = some y) : ((List.range m).flatMap css)[i * z + j]? = some y := by
  have := flat_get (css := (List.range m).map css) (sz := z) (fun c hc => by
        obtain ⟨i, hi, rfl⟩ := List.mem_map.1 hc
        exact h i (List.mem_range.1 hi)) (i := i) (c := css i) (by rw [List.getElem?_map, List.getElem?_range hi]; rfl) hj
  rw [List.flatMap_map] at this
  exact this
theorem flat_lenR {css : Nat → List Value} {m z : Nat} (h : ∀ i, i < m → (css i).length = z) : ((List.range m).flatMap css).length = m * z := by
  have := flat_len (css := (List.range m).map css) (sz := z) (fun c hc => by
    obtain ⟨i, hi, rfl⟩ := List.mem_map.1 hc
    exact h i (List.mem_range.1 hi))
  rw [List.flatMap_map] at this
  simpa using this
theorem zeroOk_size {e : TypeId} {sh : Sh} (h : zeroOk P e sh = true) {i : TypeInfo} (hi : P.info? e = some i) : ∃ z, i.zero = some z ∧ z.cells.size = sh.sz := by
  obtain ⟨i', z, h1, h2, h3⟩ := zeroOk_ro (E := ⟨P, 0, 0, fun _ => none, fun _ => false, fun _ => none, none, []⟩) (w := default) (Kf := fun _ => False) h
  rw [hi] at h1; cases h1
  exact ⟨z, h2, by have := h3.length; simpa using this⟩

theorem so_append (h : Rel E w0 M K γ σ tm w) {C : Ctx0} {dst : Option Tmp} {t ty : TypeId} {s x : L} {y xv : Value} (hs : LR E w K σ.o γ s [y]) (hx : LR E w K σ.o γ x [xv]) {Q : Re → Prop} (hp : (appendF C dst t s x).ok σ.d σ.o Q) :
    Gets C.P E w0 M σ tm w (Builtin.append_ #[t, t] ty #[y, xv]) Q := by
  unfold appendF at hp
  split at hp
  · rename_i e he
    have hu := elemOf_u he
    split at hp
    · rename_i by_ z hby hz
      simp only [ok_bind] at hp
      obtain ⟨b, F, hp, hbw, hrow, hnd, hsub, hnone⟩ := ok_base h hs hp
      obtain ⟨o, f, u, ws, hp, hw, hoo, hsrc⟩ := ok_tail h hx hp
      simp only [ok_chk, Bool.and_eq_true, decide_eq_true_eq, Nat.blt_eq] at hp
      obtain ⟨⟨⟨hsz, hz0⟩, hb0⟩, hzo, hlen, hp⟩ := hp
      obtain ⟨T, rfl, hno, hok, hq⟩ := ok_fresh _ _ _ hp
      obtain rfl : b.sh.sz = z := Nat.eq_of_beq_eq_true hsz
      obtain ⟨i0, hi, hisz⟩ := szOf_info hz
      have hibs : i0.bytes = by_ := by unfold bytesOf? at hby; simpa [hi] using hby
      obtain ⟨zv, hzv, hzs⟩ := zeroOk_size hzo hi
      obtain ⟨hr', hfree, hnda⟩ := h.takeW hok (fun q hq => (List.mem_append.1 hq).elim (hbw q) (hw q))
      obtain ⟨m1, m2⟩ := KZ_mono h b.ws ws b.f f
      rw [absF_append] at hnda hfree
      have hdisj := (List.nodup_append.1 hnda).2.2
      have hne : ∀ q, q ∈ b.ws ++ ws → q.1 ≠ (⟨T + 2, 0⟩ : Id) := by
        intro q hq e1
        obtain ⟨f, ver, e, sh, ow, v, h1, _⟩ := (List.mem_append.1 hq).elim (hbw q) (hw q)
        rw [e1, hno] at h1; cases h1
      have hno' : (σ.setW (b.ws ++ ws)).o ⟨T + 2, 0⟩ = .no := by rw [setW_o _ _ _ hne]; exact hno
      have hfpx : (γ.take (b.ws ++ ws)).fp ⟨T + 2, 0⟩ = [] := by
        have := hr'.ob ⟨T + 2, 0⟩
        rw [hno'] at this; exact this
      obtain ⟨ad, c, rfl, hsrc⟩ := hsrc
      -- once the value, the world and the row are there
      have fin : ∀ (y' : Value) (w' : World) (F' : List Nat), (Builtin.append_ #[t, t] ty #[y, .slice ad u.length c]).run C.P w = .ok y' w' → w.grownBy w' y.ownBlock → (∀ b0, y.ownBlock = some b0 → b0 ∈ absF γ b.ws) →
          (∀ b', b' ∈ F' → (b' ∈ absF γ b.ws ++ absF γ ws ∨ w.heap.size ≤ b') ∧ b' < w'.heap.size) → F'.Nodup →
          Row w' e b.sh.sz (b.v ++ u).length y' F' (fun i cs G => Tv E w' (KZ K γ (b.ws ++ ws) (b.f && f)) b.sh o ((b.v ++ u).getD i b.sh.zero) cs G) →
          Gets C.P E w0 M σ tm w (Builtin.append_ #[t, t] ty #[y, .slice ad u.length c]) Q := by
        intro y' w' F' hrun hg hblk hF' hnd' hrow'
        have hrel := hr'.upd ⟨T + 2, 0⟩ (ob := .ro (b.f && f) 0 e b.sh o (b.v ++ u) none) (hd := y') (F := F') (w' := w')
          (fun b' hb' _ hnf => hg.block b' hb' (fun e1 => hnf (hfree b' (List.mem_append_left _ (hblk b' e1.symm))).1)) hg.size hg.os hg.tape hg.output
          (fun b' hb' => ⟨.inr ((hF' b' hb').1.elim (fun h1 => (hfree b' h1).1) (fun h1 => hr'.free_new h1)), (hF' b' hb').2⟩) hnd' (.inl hno') ⟨hrow', fun c hc => by cases hc⟩
        refine ⟨_, _, hrun, _, hq, hrel.posI (l := .rw ⟨T + 2, 0⟩) (setW_fresh hne) ⟨_, rfl, ⟨by simp [Sg.setO], ?_⟩, fun _ => by simp [Gh.set]⟩⟩
        rcases hrow' with ⟨h1, _⟩ | ⟨_, _, _, _, _, h1, _⟩ <;> rw [h1] <;> rfl
      have elb : ∀ {cs G} (i : Nat), i < b.v.length → (∀ ow, b.ow = some ow → Tv E w (K b.f) b.sh ow (b.v.getD i b.sh.zero) cs G) → Tv E w (K b.f) b.sh o (b.v.getD i b.sh.zero) cs G := by
        intro cs G i hi hel
        cases how : b.ow with
        | none => rw [hnone how] at hi; exact absurd hi (Nat.not_lt_zero _)
        | some ow => rw [hoo ow how]; exact hel ow how
      obtain ⟨xs, css, Fs, hown, hel, hb⟩ := hrow.owns
      have hblk : ∀ b0, y.ownBlock = some b0 → b0 ∈ absF γ b.ws := by
        intro b0 h0
        rcases hb with ⟨h1, _⟩ | ⟨b1, h1, h2, _⟩
        · rw [h1] at h0; cases h0
        · rw [h1] at h0; cases h0
          exact hsub _ (by rw [h2]; exact List.mem_cons_self ..)
      rcases hsrc with rfl | ⟨p, off, dss, Gs, rfl, hgnd, hgsub, hgel⟩
      · -- nothing is appended
        refine fin y w F (run_append_zero 0 t ty e i0 b.sh.sz hu hi y b.v.length xs hown ad c) ⟨rfl, rfl, rfl, Nat.le_refl _, fun _ _ _ => rfl⟩ hblk (fun b' hb' => ?_) hnd ?_
        · have := hsub b' hb'
          exact ⟨.inl (List.mem_append_left _ this), (hfree b' (List.mem_append_left _ this)).2⟩
        · rw [List.append_nil]
          exact hrow.mono (fun _ _ => rfl) (fun i cs G hi _ hel => (elb i hi hel).mono (fun b hb => m1 b (.inl hb)) (fun _ _ => rfl) (fun _ _ => rfl))
      · have hdl : ∀ i, i < u.length → (dss i).length = b.sh.sz := fun i hi => (hgel i hi).1.length
        have hnl := flat_lenR hdl
        have hmax : b.v.length + u.length ≤ maxLen := by
          have h1 : b.v.length + u.length ≤ (b.v.length + u.length) * by_ := Nat.le_mul_of_pos_right _ hb0
          unfold maxBytes at hlen; unfold maxLen; omega
        obtain ⟨y', w', hr, ho', hg, _, hbl⟩ := run_append_own_at (P := C.P) w 0 t ty e i0 zv b.sh.sz by_ hu hi hzv hisz hibs hzs hz0 y b.v.length xs hown ⟨p, off, none⟩ u.length c ((List.range u.length).flatMap dss) hnl
          (fun j v hj => by
            obtain ⟨i, k, h1, h2, h3⟩ := flat_inv hdl hj
            rw [add0, h2]; exact (hgel i h1).2 k v h3)
          (fun v hv => by
            obtain ⟨i, h1, h2⟩ := List.mem_flatMap.1 hv
            exact (hgel i (List.mem_range.1 h1)).1.one v h2) hmax hlen (Nat.zero_le _)
        -- blocks that stay
        have hother : ∀ b', b' < w.heap.size → ¬ y.ownBlock = some b' → w'.heap[b']? = w.heap[b']? := fun b' h1 h2 => hg.block b' h1 (fun e1 => h2 e1.symm)
        have hK : ∀ fl b', K fl b' → w'.heap[b']? = w.heap[b']? := by
          intro fl b' hk
          have hk' : K false b' := by cases fl; exact hk; exact h.kk b' hk
          exact hother b' (h.kb _ _ hk) (fun e1 => (hfree b' (List.mem_append_left _ (hblk b' e1))).1.2.1 (.inl hk'))
        have hKZ : ∀ fl b', KZ K γ (b.ws ++ ws) fl b' → w'.heap[b']? = w.heap[b']? := by
          intro fl b' hk
          have hk' : KZ K γ (b.ws ++ ws) false b' := by cases fl; exact hk; exact hr'.kk b' hk
          exact hother b' (hr'.kb _ _ hk) (fun e1 => (hfree b' (List.mem_append_left _ (hblk b' e1))).1.2.1 hk')
        have hFs : ∀ b', b' ∈ (List.range b.v.length).flatMap Fs → b' ∈ F ∧ ¬ y.ownBlock = some b' := by
          intro b' hb'
          rcases hb with ⟨_, h2, h3⟩ | ⟨b1, h1, h2, _⟩
          · rw [h2] at hb'; cases hb'
          · rw [h2] at hnd ⊢
            refine ⟨List.mem_cons_of_mem _ hb', fun e1 => ?_⟩
            rw [h1] at e1; cases e1
            exact (List.nodup_cons.1 hnd).1 hb'
        have hGs : ∀ b', b' ∈ (List.range u.length).flatMap Gs → b' ∈ absF γ ws ∧ ¬ y.ownBlock = some b' := fun b' hb' => ⟨hgsub b' hb', fun e1 => hdisj b' (hblk b' e1) b' (hgsub b' hb') rfl⟩
        have hwF : ∀ b', b' ∈ (List.range b.v.length).flatMap Fs ++ (List.range u.length).flatMap Gs → b' < w.heap.size ∧ w'.heap[b']? = w.heap[b']? := by
          intro b' hb'
          rcases List.mem_append.1 hb' with h1 | h1
          · obtain ⟨h2, h3⟩ := hFs b' h1
            have := (hfree b' (List.mem_append_left _ (hsub b' h2))).2
            exact ⟨this, hother b' this h3⟩
          · obtain ⟨h2, h3⟩ := hGs b' h1
            have := (hfree b' (List.mem_append_right _ h2)).2
            exact ⟨this, hother b' this h3⟩
        have hndI : ((List.range b.v.length).flatMap Fs ++ (List.range u.length).flatMap Gs).Nodup := by
          refine List.nodup_append.2 ⟨?_, hgnd, fun a ha c hc => ?_⟩
          · rcases hb with ⟨_, h2, _⟩ | ⟨b1, h1, h2, _⟩
            · rw [h2]; exact List.nodup_nil
            · rw [h2] at hnd; exact (List.nodup_cons.1 hnd).2
          · exact hdisj a (hsub a (hFs a ha).1) c (hGs c hc).1
        have hll : (b.v ++ u).length = b.v.length + u.length := List.length_append
        rcases ho'.2 with ⟨h1, h2⟩ | ⟨g, cap, cur, h1, _, h2, h3, h4, h5, h6⟩
        · -- nothing at all
          have hv0 : b.v = [] := List.eq_nil_of_length_eq_zero (by omega)
          have hu0 : u = [] := List.eq_nil_of_length_eq_zero (by omega)
          refine fin y' w' [] hr hg hblk (fun b' hb' => by cases hb') List.nodup_nil (.inl ⟨h1, by rw [hv0, hu0]; rfl, rfl⟩)
        · have hgF : (g ∈ absF γ b.ws ++ absF γ ws ∨ w.heap.size ≤ g) ∧ ¬ g ∈ (List.range b.v.length).flatMap Fs ++ (List.range u.length).flatMap Gs := by
            rw [h1] at hbl
            rcases hbl with e1 | e1
            · have e2 : y.ownBlock = some g := e1.symm
              refine ⟨.inl (List.mem_append_left _ (hblk g e2)), fun hm => ?_⟩
              rcases List.mem_append.1 hm with h7 | h7
              · exact (hFs g h7).2 e2
              · exact (hGs g h7).2 e2
            · have e2 : g = w.heap.size := by simpa [Value.ownBlock] using e1
              exact ⟨.inr (by omega), fun hm => by have := (hwF g hm).1; omega⟩
          refine fin y' w' (g :: ((List.range b.v.length).flatMap Fs ++ (List.range u.length).flatMap Gs)) hr hg hblk ?_ (List.nodup_cons.2 ⟨hgF.2, hndI⟩) ?_
          · intro b' hb'
            rcases List.mem_cons.1 hb' with rfl | hb'
            · exact ⟨hgF.1, (Array.getElem?_eq_some_iff.1 h2).1⟩
            · refine ⟨.inl ?_, Nat.lt_of_lt_of_le (hwF b' hb').1 hg.size⟩
              rcases List.mem_append.1 hb' with h7 | h7
              · exact List.mem_append_left _ (hsub _ (hFs b' h7).1)
              · exact List.mem_append_right _ (hGs b' h7).1
          · have hxl : xs.length = b.v.length * b.sh.sz := hown.1
            have hcur : ∀ (k : Nat) (v : Value), (xs ++ (List.range u.length).flatMap dss)[k]? = some v → cur[k]? = some v := by
              intro k v hk
              rw [← h6, List.getElem?_take] at hk
              split at hk
              · simpa using hk
              · cases hk
            refine .inr ⟨g, cap, cur, fun i => if i < b.v.length then css i else dss (i - b.v.length), fun i => if i < b.v.length then Fs i else Gs (i - b.v.length), by rw [hll]; exact h1, h2, ⟨by rw [hll]; exact h3, h4⟩, h5, by rw [hll, flatMap_split], fun i hi => ?_⟩
            rw [hll] at hi
            by_cases hin : i < b.v.length
            · simp only [if_pos hin]
              obtain ⟨g1, g2, g3⟩ := hel i hin
              refine ⟨?_, g2, fun j v hj => hcur _ _ ?_⟩
              · have : (b.v ++ u).getD i b.sh.zero = b.v.getD i b.sh.zero := by rw [List.getD_eq_getElem?_getD, List.getD_eq_getElem?_getD, List.getElem?_append_left hin]
                rw [this]
                exact (elb i hin g1).mono (fun b hb => m1 b (.inl hb)) (fun b' hb' => hK _ b' hb') (fun b' hb' => (hwF b' (List.mem_append_left _ (List.mem_flatMap.2 ⟨i, List.mem_range.2 hin, hb'⟩))).2)
              · have := g3 j v hj
                rw [List.getElem?_append_left (List.getElem?_eq_some_iff.1 this).1]; exact this
            · simp only [if_neg hin]
              have hi2 : i - b.v.length < u.length := by omega
              obtain ⟨g1, g2⟩ := hgel _ hi2
              refine ⟨?_, g1.length, fun j v hj => hcur _ _ ?_⟩
              · have : (b.v ++ u).getD i b.sh.zero = u.getD (i - b.v.length) b.sh.zero := by rw [List.getD_eq_getElem?_getD, List.getD_eq_getElem?_getD, List.getElem?_append_right (by omega)]
                rw [this]
                refine g1.mono (fun b' hb' => m2 b' hb') (fun b' hb' => ?_) (fun b' hb' => (hwF b' (List.mem_append_right _ (List.mem_flatMap.2 ⟨_, List.mem_range.2 hi2, hb'⟩))).2)
                exact hKZ _ b' (m2 b' hb')
              · have := flat_at hdl hi2 hj
                have hpos : i * b.sh.sz + j = xs.length + ((i - b.v.length) * b.sh.sz + j) := by
                  rw [hxl, ← Nat.add_assoc, ← Nat.add_mul]; congr 2; omega
                rw [hpos, List.getElem?_append_right (by omega), Nat.add_sub_cancel_left]; exact this
    · exact hp.elim
  · exact hp.elim
end
end Go.En
end
section
/-
  The engine, part Q: stores.
-/
namespace Go.En
open Go

section
variable {E : Ctx0} {w0 w w' : World} {M : Ml} {K : Bool → Nat → Prop} {γ : Gh} {σ : Sg} {tm : Array Value} {P : Program} {sd : Nat → D} {so : Id → Ob}

/-- what an operation without a value came to -/
def GetsW (P : Program) (E : Ctx0) (w0 : World) (M : Ml) (σ : Sg) (tm : Array Value) (w : World) (s : Sem Unit) (Q : Wo → Prop) : Prop :=
  ∃ w', s.run P w = .ok () w' ∧ ∃ ws, Q ws ∧ ∃ K γ, Rel E w0 M K γ (σ.setW ws) tm w'

/-- what is known of an object that changes, is known less -/
def Vis (γ : Gh) (σ : Sg) (x : Id) (ob : Ob) (hd : Value) : Prop :=
  σ.o x = .no ∨ ((∀ q, rowSz ob = some q → rowSz (σ.o x) = some q ∧ hd = γ.hd x) ∧ (isVa ob = true → isVa (σ.o x) = true ∧ hd = γ.hd x) ∧ (isMa ob = true → isMa (σ.o x) = true ∧ hd = γ.hd x) ∧ (∀ v, verOf ob = some v → ∃ v0, verOf (σ.o x) = some v0 ∧ v0 < v) ∧ ob ≠ .no)
theorem Rel.updX (h : Rel E w0 M K γ σ tm w) (x : Id) {ob : Ob} {hd : Value} {F : List Nat} (hw : ∀ b, b < w.heap.size → ¬ b ∈ γ.fp x → ¬ Free w0 M K γ b → w'.heap[b]? = w.heap[b]?)
    (hvis : Vis γ σ x ob hd) : Ext w w' K K σ.o (σ.setO x ob).o γ (γ.set x hd F) := by
  have hfp : ∀ o, o ≠ x → (γ.set x hd F).fp o = γ.fp o := fun o ho => by simp only [Gh.set, if_neg ho]
  have hhd : ∀ o, o ≠ x → (γ.set x hd F).hd o = γ.hd o := fun o ho => by simp only [Gh.set, if_neg ho]
  have hso : ∀ o, o ≠ x → (σ.setO x ob).o o = σ.o o := fun o ho => by simp only [Sg.setO, if_neg ho]
  have hxo : (σ.setO x ob).o x = ob := by simp [Sg.setO]
  have hxh : (γ.set x hd F).hd x = hd := by simp [Gh.set]
  have hother : ∀ o, o ≠ x → ∀ b, b ∈ γ.fp o → w'.heap[b]? = w.heap[b]? := by
    intro o ho b hb
    exact hw b (h.ow o b hb).2.1 (fun hb' => ho (h.dj o x b hb hb')) (fun hf => hf.2.2 o hb)
  have hK : ∀ f b, K f b → w'.heap[b]? = w.heap[b]? := by
    intro f b hb
    have hb' : K false b := by cases f; exact hb; exact h.kk b hb
    exact hw b (h.kb f b hb) (fun hm => (h.ow x b hm).2.2 hb') (fun hf => hf.2.1 hb')
  refine ⟨fun _ _ h => h, hK, ?_, ?_, ?_, ?_, ?_⟩
  · intro o ho
    by_cases e : o = x
    · subst e
      rcases hvis with hv | hv
      · exact absurd hv ho
      · rw [hxo]; exact hv.2.2.2.2
    · rw [hso o e]; exact ho
  · intro o q ho hr
    by_cases e : o = x
    · subst e
      rcases hvis with hv | hv
      · exact absurd hv ho
      · rw [hxo] at hr; rw [hxh]; exact hv.1 q hr
    · rw [hso o e] at hr; exact ⟨hr, hhd o e⟩
  · intro o ho hr
    by_cases e : o = x
    · subst e
      rcases hvis with hv | hv
      · exact absurd hv ho
      · rw [hxo] at hr; rw [hxh]; exact hv.2.1 hr
    · rw [hso o e] at hr; exact ⟨hr, hhd o e⟩
  · intro o ho hr
    by_cases e : o = x
    · subst e
      rcases hvis with hv | hv
      · exact absurd hv ho
      · rw [hxo] at hr; rw [hxh]; exact hv.2.2.1 hr
    · rw [hso o e] at hr; exact ⟨hr, hhd o e⟩
  · intro o v ho hr
    by_cases e : o = x
    · subst e
      rcases hvis with hv | hv
      · exact absurd hv ho
      · rw [hxo] at hr
        obtain ⟨v0, h1, h2⟩ := hv.2.2.2.1 v hr
        exact ⟨v0, h1, by omega, fun e => by omega⟩
    · rw [hso o e] at hr
      exact ⟨v, hr, Nat.le_refl _, fun _ => ⟨by rw [hso o e], fun b hb => ⟨.inl (by rw [hfp o e]; exact hb), hother o e b hb⟩⟩⟩

/-! ### cells that are written -/
def updL (cs : List Value) (o : Nat) (vs : List Value) : List Value := cs.take o ++ vs ++ cs.drop (o + vs.length)
theorem updL_len {cs vs : List Value} {o : Nat} (h : o + vs.length ≤ cs.length) : (updL cs o vs).length = cs.length := by
  simp only [updL, List.length_append, List.length_take, List.length_drop]; omega
theorem updL_in {cs vs : List Value} {o k : Nat} (h : o + vs.length ≤ cs.length) (h1 : o ≤ k) (h2 : k < o + vs.length) : (updL cs o vs)[k]? = vs[k - o]? := by
  have hl : (cs.take o).length = o := by rw [List.length_take]; omega
  rw [updL, List.append_assoc, List.getElem?_append_right (by omega), hl, List.getElem?_append_left (by omega)]
theorem updL_out {cs vs : List Value} {o k : Nat} (h : o + vs.length ≤ cs.length) (h1 : k < o ∨ o + vs.length ≤ k) : (updL cs o vs)[k]? = cs[k]? := by
  have hl : (cs.take o).length = o := by rw [List.length_take]; omega
  rw [updL, List.append_assoc]
  rcases h1 with h1 | h1
  · rw [List.getElem?_append_left (by omega), List.getElem?_take, if_pos h1]
  · rw [List.getElem?_append_right (by omega), hl, List.getElem?_append_right (by omega), List.getElem?_drop]
    congr 1; omega

theorem storeAt_run {t : TypeId} {m : Nat} (hm : szOf P t = some m) {b o : Nat} {cur : Array Value} {T : TypeId} (hg : w.heap[b]? = some (.cells cur T (0, 0))) {x : Value} (hx : x.cells.size = m) (hle : o + m ≤ cur.size) (h1 : ∀ v ∈ x.cells.toList, v.oneCell' = true) :
    (Instr.storeAt t (.pointer (some ⟨b, o, none⟩)) x).run P w = .ok () (w.setRow b (updL cur.toList o x.cells.toList).toArray) := by
  have hr := run_storeCells_at P b o T x.cells.toList 0 cur w hg (by simpa [hx] using hle) h1
  simp only [Nat.add_zero] at hr
  unfold Instr.storeAt storeVar
  simp only [Instr.sureAddr, Sem.run_bind, Sem.run_pure, Result.andThen_ok, szOf_run hm]
  rw [if_neg (by simp [hx])]
  exact hr

/-- a variable's cells are written -/
theorem Rel.vaSet (h : Rel E w0 M K γ σ tm w) {o : Id} {ls : List L} (ho : σ.o o = .va ls) {b : Nat} {cs : Array Value} {T : TypeId} (hh : γ.hd o = .pointer (some ⟨b, 0, none⟩)) (hg : w.heap[b]? = some (.cells cs T (0, 0))) {ls' : List L} {cs' : List Value}
    (hl : LRs E w K σ.o γ ls' cs') : Rel E w0 M K γ (σ.setO o (.va ls')) tm (w.setRow b cs'.toArray) := by
  obtain ⟨cs0, T0, g1, _, g3⟩ := h.va ho hh
  have hvis : Vis γ σ o (.va ls') (γ.hd o) := .inr ⟨fun q hq => (by cases hq), fun _ => ⟨by rw [ho]; rfl, rfl⟩, fun hq => (by cases hq), fun v hv => (by cases hv), by simp⟩
  have hγ : γ.set o (γ.hd o) (γ.fp o) = γ := by
    unfold Gh.set
    cases γ with | mk hd fp => ?_
    congr 1
    · funext y; by_cases e : y = o <;> simp [e]
    · funext y; by_cases e : y = o <;> simp [e]
  have hother : ∀ b', b' ≠ b → (w.setRow b cs'.toArray).heap[b']? = w.heap[b']? := fun b' hb => setRow_other _ _ _ _ hb
  have hw : ∀ b', b' < w.heap.size → ¬ b' ∈ γ.fp o → ¬ Free w0 M K γ b' → (w.setRow b cs'.toArray).heap[b']? = w.heap[b']? := fun b' _ hn _ => hother b' (fun e => hn (by rw [g3, e]; exact List.mem_singleton.2 rfl))
  have hx := h.updX (w' := w.setRow b cs'.toArray) o (F := γ.fp o) hw hvis
  have := h.upd (w' := w.setRow b cs'.toArray) o (F := γ.fp o) hw (by simp) rfl rfl rfl (fun b' hb' => ⟨.inl hb', by simpa using (h.ow o b' hb').2.1⟩) (h.nd o) hvis
    ⟨b, cs'.toArray, T, hh, setRow_heap w b cs _ T _ hg, LRs.ext hx hl, g3⟩
  rw [hγ] at this; exact this

theorem so_storeV (h : Rel E w0 M K γ σ tm w) {o : Id} {ls : List L} (ho : σ.o o = .va ls) {t : TypeId} {m j : Nat} (hm : szOf P t = some m) {y x : Value} (hl : LR E w K σ.o γ (.pv o j) [y]) {new ls' : List L} (hn : LRs E w K σ.o γ new x.cells.toList) (hw : wds new = m) (hno : new.all noX = true)
    (hs : setC ls j new = some ls') {Q : Wo → Prop} (hq : Q [(o, .va ls')]) : GetsW P E w0 M σ tm w (Instr.storeAt t y x) Q := by
  obtain ⟨y', hy, _, hva⟩ := hl
  injection hy with hy; subst hy
  obtain ⟨b, hh, rfl⟩ := hva (by rw [ho]; rfl)
  obtain ⟨cs, T, g1, g2, g3⟩ := h.va ho hh
  obtain ⟨s1, s2⟩ := g2.set hn hs
  have hlen := hn.len
  rw [hw] at hlen
  have hsz : x.cells.size = m := by simpa using hlen
  refine ⟨_, storeAt_run hm g1 hsz (by rw [← hlen]; simpa using s2) (hn.oneC hno), _, hq, K, γ, ?_⟩
  exact h.vaSet ho hh g1 s1
end
end Go.En
end
section
/-
  The engine, part R: stores into rows of our own.
-/
namespace Go.En
open Go

section
variable {E : Ctx0} {w0 w w' : World} {M : Ml} {K : Bool → Nat → Prop} {γ : Gh} {σ : Sg} {tm : Array Value} {P : Program} {sd : Nat → D} {so : Id → Ob}

theorem ElR.ext {K' : Bool → Nat → Prop} {so' : Id → Ob} {γ' : Gh} (h : Ext w w' K K' so so' γ γ') {f : Bool} {sh : Sh} {ow : Ow} {v : List (Val sh)} {fc : Option Fc} {i : Nat} {cs : List Value} {F : List Nat} (hF : ∀ b, b ∈ F → w'.heap[b]? = w.heap[b]?)
    (hel : ElR E w K so γ f sh ow v fc i cs F) : ElR E w' K' so' γ' f sh ow v fc i cs F := by
  unfold ElR at hel ⊢
  cases fc with
  | none => exact Tv.mono (h.kK f) (h.kw f) hF hel
  | some c =>
    simp only at hel ⊢
    split
    · rename_i hi
      rw [if_pos hi] at hel; exact ⟨hel.1.ext h, hel.2⟩
    · rename_i hi
      rw [if_neg hi] at hel; exact Tv.mono (h.kK f) (h.kw f) hF hel

/-- a row's new footprint, when one element's changes -/
def setF (Fs : Nat → List Nat) (i : Nat) (G : List Nat) : Nat → List Nat := fun k => if k = i then G else Fs k
theorem flatMap_setF {Fs : Nat → List Nat} {i : Nat} {G1 D G2 A : List Nat} (hi : Fs i = G1 ++ D ++ G2) : ∀ {n : Nat}, i < n → ∃ X Y, (List.range n).flatMap Fs = X ++ (G1 ++ D ++ G2) ++ Y ∧ (List.range n).flatMap (setF Fs i (G1 ++ A ++ G2)) = X ++ (G1 ++ A ++ G2) ++ Y := by
  have cong : ∀ (l : List Nat), (∀ x ∈ l, x ≠ i) → l.flatMap (setF Fs i (G1 ++ A ++ G2)) = l.flatMap Fs := by
    intro l
    induction l with
    | nil => intro _; rfl
    | cons x l ih =>
      intro h
      rw [List.flatMap_cons, List.flatMap_cons, ih (fun y hy => h y (List.mem_cons_of_mem _ hy))]
      simp only [setF, if_neg (h x (List.mem_cons_self ..))]
  intro n
  induction n with
  | zero => intro h; omega
  | succ n ih =>
    intro h
    rw [List.range_succ, List.flatMap_append, List.flatMap_append]
    simp only [List.flatMap_cons, List.flatMap_nil, List.append_nil]
    by_cases hn : i = n
    · subst hn
      refine ⟨(List.range i).flatMap Fs, [], ?_, ?_⟩
      · rw [hi]; simp
      · rw [cong _ (fun x hx => by have := List.mem_range.1 hx; omega)]
        simp [setF]
    · obtain ⟨X, Y, h1, h2⟩ := ih (by omega)
      refine ⟨X, Y ++ Fs n, by rw [h1]; simp, ?_⟩
      rw [h2]
      simp only [setF, if_neg (fun e : n = i => hn e.symm)]
      simp

theorem Rel.takeX (_h : Rel E w0 M K γ σ tm w) {ws : Wo} (ho : okW ws = true) (hw : ∀ q, q ∈ ws → WOk σ q) : Ext w w K (KZ K γ ws) σ.o (σ.setW ws).o γ (γ.take ws) := by
  have hin : ∀ q, q ∈ ws → (σ.setW ws).o q.1 = q.2 := setW_mem ws σ ho hw
  have hout : ∀ o, (¬ ∃ q, q ∈ ws ∧ q.1 = o) → (σ.setW ws).o o = σ.o o := fun o hn => setW_o ws σ o (fun q hq e => hn ⟨q, hq, e⟩)
  have hfout : ∀ o, (¬ ∃ q, q ∈ ws ∧ q.1 = o) → (γ.take ws).fp o = γ.fp o := fun o hn => by rw [Gh.take_fp, if_neg hn]
  refine ⟨fun _ _ h => .inl h, fun _ _ _ => rfl, ?_, ?_, ?_, ?_, ?_⟩
  · intro o hno
    by_cases hn : ∃ q, q ∈ ws ∧ q.1 = o
    · obtain ⟨q, hq, rfl⟩ := hn
      rw [hin q hq]
      obtain ⟨f, ver, e, sh, ow, v, _, h2 | h2⟩ := hw q hq <;> rw [h2] <;> simp
    · rw [hout o hn]; exact hno
  · intro o q' hno hr
    by_cases hn : ∃ q, q ∈ ws ∧ q.1 = o
    · obtain ⟨q, hq, rfl⟩ := hn
      rw [hin q hq] at hr
      obtain ⟨f, ver, e, sh, ow, v, h1, h2 | h2⟩ := hw q hq
      · rw [h2] at hr; cases hr
      · rw [h2] at hr; rw [h1]; exact ⟨hr, Gh.take_hd ..⟩
    · rw [hout o hn] at hr; exact ⟨hr, Gh.take_hd ..⟩
  · intro o hno hr
    by_cases hn : ∃ q, q ∈ ws ∧ q.1 = o
    · obtain ⟨q, hq, rfl⟩ := hn
      rw [hin q hq] at hr
      obtain ⟨f, ver, e, sh, ow, v, h1, h2 | h2⟩ := hw q hq <;> rw [h2] at hr <;> cases hr
    · rw [hout o hn] at hr; exact ⟨hr, Gh.take_hd ..⟩
  · intro o hno hr
    by_cases hn : ∃ q, q ∈ ws ∧ q.1 = o
    · obtain ⟨q, hq, rfl⟩ := hn
      rw [hin q hq] at hr
      obtain ⟨f, ver, e, sh, ow, v, h1, h2 | h2⟩ := hw q hq <;> rw [h2] at hr <;> cases hr
    · rw [hout o hn] at hr; exact ⟨hr, Gh.take_hd ..⟩
  · intro o v hno hr
    by_cases hn : ∃ q, q ∈ ws ∧ q.1 = o
    · obtain ⟨q, hq, rfl⟩ := hn
      rw [hin q hq] at hr
      obtain ⟨f, ver, e, sh, ow, vv, h1, h2 | h2⟩ := hw q hq
      · rw [h2] at hr; cases hr
      · rw [h2] at hr; rw [h1]
        exact ⟨v, hr, Nat.le_refl _, fun _ => ⟨by rw [hin q hq, h2]; rfl, fun b hb => ⟨.inr (.inr ⟨q, hq, by rw [h2]; rfl, hb⟩), rfl⟩⟩⟩
    · rw [hout o hn] at hr
      exact ⟨v, hr, Nat.le_refl _, fun _ => ⟨by rw [hout o hn], fun b hb => ⟨.inl (by rw [hfout o hn]; exact hb), rfl⟩⟩⟩

/-- a row that isn't nil, laid apart -/
structure RowAt (E : Ctx0) (w : World) (K : Bool → Nat → Prop) (γ : Gh) (σ : Sg) (o : Id) (e : TypeId) (sh : Sh) (n b c : Nat) (El : Nat → List Value → List Nat → Prop) (cur : Array Value) (css : Nat → List Value) (Fs : Nat → List Nat) : Prop where
  hd : γ.hd o = .slice (some ⟨b, 0, none⟩) n c
  heap : w.heap[b]? = some (.cells cur e (0, 0))
  cap : n ≤ c ∧ c ≤ maxLen
  size : cur.size = c * sh.sz
  fp : γ.fp o = b :: (List.range n).flatMap Fs
  el : ∀ i, i < n → El i (css i) (Fs i) ∧ (css i).length = sh.sz ∧ ∀ j y, (css i)[j]? = some y → cur[i * sh.sz + j]? = some y
theorem Rel.rowAt (h : Rel E w0 M K γ σ tm w) {o : Id} {f : Bool} {ver : Nat} {e : TypeId} {sh : Sh} {ow : Ow} {v : List (Val sh)} {fc : Option Fc} (ho : σ.o o = .ro f ver e sh ow v fc) (hn : 0 < v.length) :
    ∃ b c cur css Fs, RowAt E w K γ σ o e sh v.length b c (ElR E w K σ.o γ f sh ow v fc) cur css Fs := by
  have hob := h.ob o
  rw [ho] at hob
  obtain ⟨hrow, hfci⟩ := hob
  rcases hrow with ⟨h1, h2, _⟩ | ⟨b', cc, cur, css, Fs, h1, h2, h3, h4, h5, h6⟩
  · omega
  · exact ⟨b', cc, cur, css, Fs, h1, h2, h3, h4, h5, h6⟩

def fcAt (fc : Option Fc) (k : Nat) : Option (List L) :=
  match fc with
  | some c => if c.i = k then some c.ls else none
  | none => none
theorem ElR.at_iff {f : Bool} {sh : Sh} {ow : Ow} {v : List (Val sh)} {fc : Option Fc} {i : Nat} {cs : List Value} {F : List Nat} : ElR E w K so γ f sh ow v fc i cs F ↔ match fcAt fc i with
    | some ls => LRs E w K so γ ls cs ∧ F = []
    | none => Tv E w (K f) sh ow (v.getD i sh.zero) cs F := by
  unfold ElR fcAt
  cases fc with
  | none => rfl
  | some c =>
    simp only
    by_cases h : c.i = i
    · rw [if_pos h, if_pos h]
    · rw [if_neg h, if_neg h]
/-- an element of a row, or a part of it, is written -/
theorem Rel.rowSet (h : Rel E w0 M K γ σ tm w) {o : Id} {f : Bool} {ver : Nat} {e : TypeId} {sh : Sh} {ow : Ow} {v : List (Val sh)} {fc : Option Fc} (ho : σ.o o = .ro f ver e sh ow v fc) {b c : Nat} {cur : Array Value} {css : Nat → List Value} {Fs : Nat → List Nat} (hra : RowAt E w K γ σ o e sh v.length b c (ElR E w K σ.o γ f sh ow v fc) cur css Fs) {i j : Nat} (hi : i < v.length)
    {vs : List Value} (hj : j + vs.length ≤ sh.sz) {f' : Bool} {v' : List (Val sh)} {fc' : Option Fc} (hlen : v'.length = v.length) (hf : f' = true → f = true) (hother : ∀ k, k ≠ i → v'.getD k sh.zero = v.getD k sh.zero)
    (hfc : ∀ k, k ≠ i → fcAt fc k = fcAt fc' k) (hfi : ∀ c, fc' = some c → c.i < v.length) {ws : Wo} (hok : okW ws = true) (hws : ∀ q, q ∈ ws → WOk σ q) (hne : ∀ q, q ∈ ws → q.1 ≠ o)
    {G1 D G2 : List Nat} (hG : Fs i = G1 ++ D ++ G2) (hel' : ElR E w (KZ K γ ws) (σ.setW ws).o (γ.take ws) f' sh ow v' fc' i (updL (css i) j vs) (G1 ++ absF γ ws ++ G2)) :
    ∃ X Y : List Nat, γ.fp o = b :: (X ++ (G1 ++ D ++ G2) ++ Y) ∧ i * sh.sz + j + vs.length ≤ cur.size ∧ Rel E w0 M (KZ K γ ws) ((γ.take ws).set o (γ.hd o) (b :: (X ++ (G1 ++ absF γ ws ++ G2) ++ Y))) ((σ.setW ws).setO o (.ro f' (ver + 1) e sh ow v' fc')) tm (w.setRow b (updL cur.toList (i * sh.sz + j) vs).toArray) := by
  obtain ⟨hr', hA, hAn⟩ := h.takeW hok hws
  have hx0 := h.takeX hok hws
  have ho' : (σ.setW ws).o o = .ro f ver e sh ow v fc := by rw [setW_o _ _ _ hne]; exact ho
  have hh' : (γ.take ws).hd o = γ.hd o := Gh.take_hd ..
  have hfp' : (γ.take ws).fp o = γ.fp o := by rw [Gh.take_fp, if_neg (by rintro ⟨q, hq, e⟩; exact hne q hq e)]
  generalize hAe : absF γ ws = A at hA hAn hel' ⊢
  have hob := h.ob o
  rw [ho] at hob
  obtain ⟨hh, h2, h3, h4, h5, h6⟩ := hra
  obtain ⟨g1, g2, g3⟩ := h6 i hi
  obtain ⟨X, Y, hX, hY⟩ := flatMap_setF (Fs := Fs) (A := A) hG hi
  have hin : (i + 1) * sh.sz ≤ v.length * sh.sz := Nat.mul_le_mul_right _ hi
  have hnc : v.length * sh.sz ≤ c * sh.sz := Nat.mul_le_mul_right _ h3.1
  rw [Nat.add_mul, Nat.one_mul] at hin
  have hfit : i * sh.sz + j + vs.length ≤ cur.toList.length := by have : cur.toList.length = cur.size := Array.length_toList; omega
  have hnd := h.nd o
  rw [h5, hX] at hnd
  obtain ⟨hb0, hnd⟩ := List.nodup_cons.1 hnd
  have hfo : ∀ x, x ∈ X ++ (G1 ++ D ++ G2) ++ Y → x ∈ γ.fp o := fun x hx => by rw [h5, hX]; exact List.mem_cons_of_mem _ hx
  have hbo : b ∈ γ.fp o := by rw [h5]; exact List.mem_cons_self ..
  have hAno : ∀ x, x ∈ A → ¬ x ∈ γ.fp o := fun x hx => (by have := (hA x hx).1.2.2 o; rw [hfp'] at this; exact this)
  have hbw : ∀ b', b' ≠ b → (w.setRow b (updL cur.toList (i * sh.sz + j) vs).toArray).heap[b']? = w.heap[b']? := fun b' hb => setRow_other _ _ _ _ hb
  refine ⟨X, Y, by rw [h5, hX], by simpa using hfit, ?_⟩
  have hw : ∀ b', b' < w.heap.size → ¬ b' ∈ (γ.take ws).fp o → ¬ Free w0 M (KZ K γ ws) (γ.take ws) b' → (w.setRow b (updL cur.toList (i * sh.sz + j) vs).toArray).heap[b']? = w.heap[b']? := fun b' _ hn _ => hbw b' (fun e => hn (by rw [hfp', e]; exact hbo))
  have hvis : Vis (γ.take ws) (σ.setW ws) o (.ro f' (ver + 1) e sh ow v' fc') (γ.hd o) := .inr ⟨fun q hq => ⟨by rw [ho']; simp only [rowSz] at hq ⊢; rw [hlen] at hq; exact hq, hh'.symm⟩, fun hq => (by cases hq), fun hq => (by cases hq), fun v hv => ⟨ver, by rw [ho']; rfl, by cases hv; omega⟩, by simp⟩
  have hx := hr'.updX (w' := w.setRow b (updL cur.toList (i * sh.sz + j) vs).toArray) o (F := b :: (X ++ (G1 ++ A ++ G2) ++ Y)) hw hvis
  refine hr'.upd o hw (by simp) rfl rfl rfl (fun b' hb' => ?_) ?_ hvis ⟨.inr ⟨b, c, (updL cur.toList (i * sh.sz + j) vs).toArray, fun k => if k = i then updL (css i) j vs else css k, setF Fs i (G1 ++ A ++ G2), ?_, setRow_heap w b cur _ e _ h2, ⟨by rw [hlen]; exact h3.1, h3.2⟩, ?_, ?_, fun k hk => ?_⟩, fun c hc => ?_⟩
  · rcases List.mem_cons.1 hb' with rfl | hb'
    · exact ⟨.inl (by rw [hfp']; exact hbo), by simpa using (h.ow o _ hbo).2.1⟩
    · have : b' ∈ A ∨ b' ∈ γ.fp o := by
        simp only [List.mem_append] at hb'
        rcases hb' with (hb' | (hb' | hb') | hb') | hb'
        · exact .inr (hfo _ (by simp [hb']))
        · exact .inr (hfo _ (by simp [hb']))
        · exact .inl hb'
        · exact .inr (hfo _ (by simp [hb']))
        · exact .inr (hfo _ (by simp [hb']))
      rcases this with h7 | h7
      · exact ⟨.inr (hA b' h7).1, by simpa using (hA b' h7).2⟩
      · exact ⟨.inl (by rw [hfp']; exact h7), by simpa using (h.ow o b' h7).2.1⟩
  · refine List.nodup_cons.2 ⟨fun hb' => ?_, ?_⟩
    · have : b ∈ A ∨ b ∈ X ++ (G1 ++ D ++ G2) ++ Y := by
        simp only [List.mem_append] at hb' ⊢
        rcases hb' with (hb' | (hb' | hb') | hb') | hb' <;> simp [hb']
      rcases this with h7 | h7
      · exact hAno b h7 hbo
      · exact hb0 h7
    · have hsub : List.Sublist (X ++ (G1 ++ G2) ++ Y) (X ++ (G1 ++ D ++ G2) ++ Y) :=
        ((List.Sublist.refl X).append ((List.sublist_append_left G1 D).append (List.Sublist.refl G2))).append (List.Sublist.refl Y)
      have hn2 := hsub.nodup hnd
      have hperm : List.Perm (X ++ (G1 ++ A ++ G2) ++ Y) (A ++ (X ++ (G1 ++ G2) ++ Y)) := by
        simp only [List.append_assoc]
        have p1 : List.Perm (G1 ++ (A ++ (G2 ++ Y))) (A ++ (G1 ++ (G2 ++ Y))) := List.perm_append_comm_assoc ..
        have p2 : List.Perm (X ++ (A ++ (G1 ++ (G2 ++ Y)))) (A ++ (X ++ (G1 ++ (G2 ++ Y)))) := List.perm_append_comm_assoc ..
        exact (p1.append_left X).trans p2
      refine hperm.nodup_iff.2 (List.nodup_append.2 ⟨hAn, hn2, fun a ha d hd e => ?_⟩)
      subst e
      exact hAno a ha (hfo a (hsub.subset hd))
  · rw [hh, hlen]
  · rw [List.size_toArray, updL_len hfit, Array.length_toList, h4]
  · rw [hlen, hY]
  · rw [hlen] at hk
    have hkn : (k + 1) * sh.sz ≤ v.length * sh.sz := Nat.mul_le_mul_right _ hk
    rw [Nat.add_mul, Nat.one_mul] at hkn
    by_cases hki : k = i
    · subst hki
      simp only [if_true, setF]
      refine ⟨?_, by rw [updL_len (by omega)]; exact g2, fun q y hq => ?_⟩
      · have hin : ∀ b', b' ∈ G1 ++ A ++ G2 → b' ≠ b := by
          intro b' hb' e
          subst e
          simp only [List.mem_append] at hb'
          rcases hb' with (hb' | hb') | hb'
          · exact hb0 (by simp [hb'])
          · exact hAno b' hb' hbo
          · exact hb0 (by simp [hb'])
        exact ElR.ext hx (fun b' hb' => hbw b' (hin b' hb')) hel'
      · have hq1 : q < sh.sz := by
          have := (List.getElem?_eq_some_iff.1 hq).1
          rw [updL_len (by omega), g2] at this; exact this
        rw [List.getElem?_toArray]
        by_cases hq2 : j ≤ q ∧ q < j + vs.length
        · rw [updL_in (by omega) hq2.1 hq2.2] at hq
          rw [updL_in hfit (by omega) (by omega), show k * sh.sz + q - (k * sh.sz + j) = q - j by omega]; exact hq
        · rw [updL_out (by omega) (by omega)] at hq
          rw [updL_out hfit (by omega)]
          have := g3 q y hq
          simpa using this
    · simp only [if_neg hki, setF]
      obtain ⟨k1, k2, k3⟩ := h6 k hk
      refine ⟨?_, k2, fun q y hq => ?_⟩
      · have hin : ∀ b', b' ∈ Fs k → b' ≠ b := fun b' hb' e => hb0 (by rw [← hX]; exact List.mem_flatMap.2 ⟨k, List.mem_range.2 hk, e ▸ hb'⟩)
        refine ElR.ext hx (fun b' hb' => hbw b' (hin b' hb')) ?_
        have k1 := ElR.ext hx0 (fun _ _ => rfl) k1
        have hf : ∀ b, KZ K γ ws f b → KZ K γ ws f' b := by
          intro b hb
          cases f' with
          | true => rw [hf rfl] at hb; exact hb
          | false => cases f with
            | false => exact hb
            | true => exact hr'.kk b hb
        rw [ElR.at_iff] at k1 ⊢
        rw [← hfc k hki]
        cases hfk : fcAt fc k with
        | none =>
          rw [hfk] at k1
          simp only at k1 ⊢
          rw [hother k hki]
          exact Tv.mono hf (fun _ _ => rfl) (fun _ _ => rfl) k1
        | some ls => rw [hfk] at k1; exact k1
      · have hq1 : q < sh.sz := by rw [← k2]; exact (List.getElem?_eq_some_iff.1 hq).1
        rw [List.getElem?_toArray, updL_out hfit ?_]
        · simpa using k3 q y hq
        · by_cases hlt : k < i
          · have : (k + 1) * sh.sz ≤ i * sh.sz := Nat.mul_le_mul_right _ hlt
            rw [Nat.add_mul] at this; omega
          · have : (i + 1) * sh.sz ≤ k * sh.sz := Nat.mul_le_mul_right _ (by omega)
            rw [Nat.add_mul] at this; omega
  · rw [hlen]; exact hfi c hc

/-- leaves into an element of a row -/
def PutT (E : Ctx0) (w : World) (K : Bool → Nat → Prop) (γ : Gh) (σ : Sg) (f : Bool) (sh : Sh) (ow : Ow) (cs : List Value) (G : List Nat) (j m : Nat) (vs : List Value) (x : Pk (Val sh)) : Prop :=
  (∀ q, q ∈ x.ws → WOk σ q) ∧ j + m ≤ sh.sz ∧ ∃ c1 c2, vs = c1 ++ c2 ∧ c1.length = m ∧ LRs E w K σ.o γ x.ls c2 ∧ ∃ G1 D G2, G = G1 ++ D ++ G2 ∧ Tv E w (KZ K γ x.ws (f && x.f)) sh ow x.v (updL cs j c1) (G1 ++ absF γ x.ws ++ G2)
theorem ok_putV (h : Rel E w0 M K γ σ tm w) {f : Bool} : ∀ {sh : Sh} {ow : Ow} {v : Val sh} {cs : List Value} {G : List Nat} {j m : Nat} {ls : List L} {vs : List Value} {Q : Pk (Val sh) → Prop}, Tv E w (K f) sh ow v cs G → LRs E w K σ.o γ ls vs → (putV sh ow v j m ls).ok σ.d σ.o Q →
    ∃ x, Q x ∧ PutT E w K γ σ f sh ow cs G j m vs x := by
  have whole : ∀ {sh : Sh} {ow : Ow} {v : Val sh} {cs : List Value} {G : List Nat} {j m : Nat} {ls : List L} {vs : List Value} {Q : Pk (Val sh) → Prop}, Tv E w (K f) sh ow v cs G → LRs E w K σ.o γ ls vs → j = 0 → m = sh.sz → (pkO sh ow ls).ok σ.d σ.o Q → ∃ x, Q x ∧ PutT E w K γ σ f sh ow cs G j m vs x := by
    intro sh ow v cs G j m ls vs Q ht hl hj hm hp
    subst hj; subst hm
    obtain ⟨x, hq, hx, c1, c2, hcs, hxr, hxl⟩ := ok_pkO h hl hp
    have hl1 := hxr.length
    refine ⟨x, hq, hx, by omega, c1, c2, hcs, hl1, hxl, [], G, [], by simp, ?_⟩
    have : updL cs 0 c1 = c1 := by
      unfold updL
      rw [List.take_zero, List.nil_append, List.drop_eq_nil_of_le (by rw [ht.length]; omega), List.append_nil]
    rw [this, List.nil_append, List.append_nil]
    obtain ⟨_, m2⟩ := KZ_mono h [] x.ws f x.f
    exact hxr.mono m2 (fun _ _ => rfl) (fun _ _ => rfl)
  intro sh
  induction sh with
  | p a c ih1 ih2 =>
    intro ow v cs G j m ls vs Q ht hl hp
    unfold putV at hp
    cases hc : (j.beq 0 && m.beq (Sh.sz (.p a c))) with
    | true =>
      rw [hc] at hp
      simp only [Bool.and_eq_true] at hc
      exact whole ht hl (Nat.eq_of_beq_eq_true hc.1) (Nat.eq_of_beq_eq_true hc.2) hp
    | false =>
      rw [hc] at hp
      simp only [cond_false] at hp
      -- the two parts
      obtain ⟨x1, x2, F1, F2, hcs, hG, h1, h2⟩ : ∃ c1 c2 F1 F2, cs = c1 ++ c2 ∧ G = F1 ++ F2 ∧ Tv E w (K f) a ow.fst v.1 c1 F1 ∧ Tv E w (K f) c ow.snd v.2 c2 F2 := by
        cases ow with
        | p oa oc => exact ht
        | z =>
          rw [Tv.z_iff] at ht
          obtain ⟨hr, hg⟩ := ht
          obtain ⟨x, y⟩ := v
          obtain ⟨xs, ys, h3, h4, h5⟩ := Ro.inv_p hr
          refine ⟨xs, ys, [], [], h3, by simpa using hg, ?_, ?_⟩
          · show Tv E w (K f) a .z _ _ _
            rw [Tv.z_iff]; exact ⟨h4, rfl⟩
          · show Tv E w (K f) c .z _ _ _
            rw [Tv.z_iff]; exact ⟨h5, rfl⟩
        | l e o => exact ht.elim
      have hl1 := h1.length
      have hl2 := h2.length
      -- and back
      have back : ∀ {Kf : Nat → Prop} {u1 : Val a} {u2 : Val c} {d1 d2 : List Value} {H1 H2 : List Nat}, Tv E w Kf a ow.fst u1 d1 H1 → Tv E w Kf c ow.snd u2 d2 H2 → Tv E w Kf (.p a c) ow (u1, u2) (d1 ++ d2) (H1 ++ H2) := by
        intro Kf u1 u2 d1 d2 H1 H2 g1 g2
        cases ow with
        | p oa oc => exact ⟨d1, d2, H1, H2, rfl, rfl, g1, g2⟩
        | z =>
          have g1' : Tv E w Kf a .z u1 d1 H1 := g1
          have g2' : Tv E w Kf c .z u2 d2 H2 := g2
          rw [Tv.z_iff] at g1' g2' ⊢
          exact ⟨.p g1'.1 g2'.1, by rw [g1'.2, g2'.2]; rfl⟩
        | l e o => exact ht.elim
      cases hc1 : Nat.ble (j + m) a.sz with
      | true =>
        rw [hc1] at hp
        simp only [cond_true, ok_bind, ok_pure] at hp
        have hc1' := Nat.le_of_ble_eq_true hc1
        obtain ⟨x, hq, hw, hjm, c1, c2, hvs, hcl, hxl, G1, D, G2, hGG, htv⟩ := ih1 h1 hl hp
        refine ⟨_, hq, hw, by simp only [Sh.sz]; omega, c1, c2, hvs, hcl, hxl, G1, D, G2 ++ F2, by rw [hG, hGG]; simp, ?_⟩
        obtain ⟨m1, _⟩ := KZ_mono h [] x.ws f x.f
        have hu : updL cs j c1 = updL x1 j c1 ++ x2 := by
          rw [hcs]; unfold updL
          rw [List.take_append_of_le_length (by omega), List.drop_append_of_le_length (by omega)]; simp
        rw [hu, show G1 ++ absF γ x.ws ++ (G2 ++ F2) = (G1 ++ absF γ x.ws ++ G2) ++ F2 by simp]
        exact back htv (h2.mono (fun b hb => m1 b (.inl hb)) (fun _ _ => rfl) (fun _ _ => rfl))
      | false =>
        rw [hc1] at hp
        simp only [cond_false] at hp
        cases hc2 : Nat.ble a.sz j with
        | true =>
          rw [hc2] at hp
          simp only [cond_true, ok_bind, ok_pure] at hp
          have hc2' := Nat.le_of_ble_eq_true hc2
          obtain ⟨x, hq, hw, hjm, c1, c2, hvs, hcl, hxl, G1, D, G2, hGG, htv⟩ := ih2 h2 hl hp
          refine ⟨_, hq, hw, by simp only [Sh.sz]; omega, c1, c2, hvs, hcl, hxl, F1 ++ G1, D, G2, by rw [hG, hGG]; simp, ?_⟩
          obtain ⟨m1, _⟩ := KZ_mono h [] x.ws f x.f
          have hu : updL cs j c1 = x1 ++ updL x2 (j - a.sz) c1 := by
            rw [hcs]; unfold updL
            rw [List.take_append, List.take_of_length_le (by omega), List.drop_append, List.drop_eq_nil_of_le (by omega), hl1]
            rw [show j + c1.length - a.sz = j - a.sz + c1.length by omega]; simp
          rw [hu, show F1 ++ G1 ++ absF γ x.ws ++ G2 = F1 ++ (G1 ++ absF γ x.ws ++ G2) by simp]
          exact back (h1.mono (fun b hb => m1 b (.inl hb)) (fun _ _ => rfl) (fun _ _ => rfl)) htv
        | false => rw [hc2] at hp; exact hp.elim
  | _ =>
    intro ow v cs G j m ls vs Q ht hl hp
    simp only [putV, ok_bind, ok_chk, Bool.and_eq_true] at hp
    exact whole ht hl (Nat.eq_of_beq_eq_true hp.1.1) (Nat.eq_of_beq_eq_true hp.1.2) hp.2
end
end Go.En
end
section
/-
  The engine, part S: stores, all of them.
-/
namespace Go.En
open Go

section
variable {E : Ctx0} {w0 w w' : World} {M : Ml} {K : Bool → Nat → Prop} {γ : Gh} {σ : Sg} {tm : Array Value} {P : Program} {sd : Nat → D} {so : Id → Ob}

theorem noWs {sh : Sh} {v : Val sh} {Kf : Nat → Prop} {cs : List Value} {G1 G2 : List Nat} {ws : Wo} (h : Tv E w Kf sh .z v cs (G1 ++ absF γ ws ++ G2)) : absF γ ws = [] := by
  rw [Tv.z_iff] at h
  have := h.2
  simp only [List.append_eq_nil_iff] at this
  exact this.1.2

theorem Rel.fci (h : Rel E w0 M K γ σ tm w) {o : Id} {f : Bool} {ver : Nat} {e : TypeId} {sh : Sh} {ow : Ow} {v : List (Val sh)} {fc : Option Fc} (ho : σ.o o = .ro f ver e sh ow v fc) : ∀ c, fc = some c → c.i < v.length := by
  have hob := h.ob o
  rw [ho] at hob
  exact hob.2
theorem ok_liveLs {α : Type} {sd : Nat → D} {so : Id → Ob} {r : Rd α} {Q : α → Prop} : ∀ (ls : List L), (liveLs r ls).ok sd so Q → r.ok sd so Q
  | [], h => h
  | l :: ls, h => by
    cases l with
    | rw k =>
      have h : (bif goneOb (so k) then Rd.fail else liveLs r ls).ok sd so Q := h
      cases hg : goneOb (so k) with
      | true => rw [hg] at h; exact h.elim
      | false => rw [hg] at h; exact ok_liveLs ls h
    | _ => exact ok_liveLs ls h
theorem so_store (h : Rel E w0 M K γ σ tm w) {t : TypeId} {m : Nat} (hm : szOf P t = some m) {l : L} {y x : Value} {d : D} (hl : LR E w K σ.o γ l [y]) (hd : DR E w K σ.o γ d x) {Q : Wo → Prop}
    (hp : (storeF l m (lsOf d)).ok σ.d σ.o Q) : GetsW P E w0 M σ tm w (Instr.storeAt t y x) Q := by
  unfold storeF at hp
  simp only [ok_bind, ok_chk] at hp
  obtain ⟨hw, hno, hp⟩ := hp
  replace hw : wds (lsOf d) = m := Nat.eq_of_beq_eq_true hw
  have hn := hd.lsOf hno
  have hone := hn.oneC hno
  have hlen := hn.len
  rw [hw] at hlen
  have hsz : x.cells.size = m := by simpa using hlen
  have fresh_o : ∀ {o : Id} {ws : Wo}, okW ((o, .gone) :: ws) = true → (∀ q, q ∈ ws → q.1 ≠ o) ∧ okW ws = true := by
    intro o ws hok
    refine ⟨fun q hq e => ?_, ?_⟩
    · have := (okW_same hok hq e).1; cases this
    · simp only [okW, Bool.and_eq_true] at hok; exact hok.2
  split at hp
  · rename_i o j
    simp only [ok_bind, ok_getO] at hp
    split at hp
    · rename_i ls ho
      simp only [ok_bind, ok_opt, ok_pure] at hp
      obtain ⟨ls', hs, hq⟩ := hp
      exact so_storeV h ho hm hl hn hw hno hs hq
    · exact hp.elim
  · rename_i o j q' sh i c
    obtain ⟨y', hy, _, hiq, hva⟩ := hl
    injection hy with hy; subst hy
    simp only [ok_bind, ok_getO] at hp
    split at hp
    · rename_i ls ho
      split at hp
      · rename_i g q sh' v rest pre hd1 hd2
        simp only [ok_bind, ok_chk, Bool.and_eq_true] at hp
        obtain ⟨⟨hsh, hqq⟩, hp⟩ := hp
        obtain rfl := Sh.eqb_eq hsh
        obtain rfl : q = q' := Nat.eq_of_beq_eq_true hqq
        obtain ⟨b, hh, rfl⟩ := hva (by rw [ho]; rfl)
        obtain ⟨cs, T, g1, g2, g3⟩ := h.va ho hh
        obtain ⟨k1, k2⟩ := g2.take hd2
        obtain ⟨⟨c1, c2, k3, k4, k5⟩, k6⟩ := g2.drop hd1
        have hro : Ro E w (K g) (.v q sh) v c1 := k4
        obtain ⟨hvl, hel⟩ := Ro.inv_v hro
        have hcl : c1.length = q * sh.sz := hro.length
        have hi : i < v.length := by omega
        have hin : (i + 1) * sh.sz ≤ q * sh.sz := Nat.mul_le_mul_right _ hiq
        rw [Nat.add_mul, Nat.one_mul] at hin
        rw [getD_get hi] at hp
        have hell : ((c1.drop (i * sh.sz)).take sh.sz).length = sh.sz := by simp only [List.length_take, List.length_drop]; omega
        obtain ⟨x1, hp, hxw, hcm, d1, d2, hvs, hd1l, hxl, G1, D, G2, hGG, htv⟩ := ok_putV h (f := g) (ow := .z) (G := []) ((Tv.z_iff).2 ⟨hel i hi, rfl⟩) hn hp
        obtain ⟨he, hok, hq⟩ := hp
        have he' : x1.ls = [] := by simpa using he
        rw [he'] at hxl
        rw [show d2 = [] from hxl, List.append_nil] at hvs
        subst hvs
        obtain ⟨hr', _, _⟩ := h.takeW hok hxw
        obtain ⟨m1, m2⟩ := KZ_mono h [] x1.ws g x1.f
        have hfz : ∀ q', q' ∈ x1.ws → isFz q'.2 = true ∨ q'.2 = .gone := fun q' hq' => by
          obtain ⟨f, ver, e, sh, ow, v, _, h2 | h2⟩ := hxw q' hq'
          · exact .inr h2
          · rw [h2]; exact .inl rfl
        have hne : ∀ q', q' ∈ x1.ws → q'.1 ≠ o := by
          intro q' hq' e
          obtain ⟨f, ver, e', sh, ow, v, h1, _⟩ := hxw q' hq'
          rw [e, ho] at h1; cases h1
        have ho' : (σ.setW x1.ws).o o = .va ls := by rw [setW_o _ _ _ hne]; exact ho
        have hx : Ext w w K (KZ K γ x1.ws) σ.o (σ.setW x1.ws).o γ (γ.take x1.ws) := h.takeX hok hxw
        have hh' : (γ.take x1.ws).hd o = .pointer (some ⟨b, 0, none⟩) := by rw [Gh.take_hd]; exact hh
        rw [Tv.z_iff] at htv
        have hfit : j + (i * sh.sz + c) + x.cells.toList.length ≤ cs.toList.length := by
          have := congrArg List.length k3
          rw [List.length_drop, List.length_append] at this
          omega
        have hnew : LRs E w (KZ K γ x1.ws) (σ.setW x1.ws).o (γ.take x1.ws) (pre ++ .d (.fz (g && x1.f)) (.v q sh) (v.set i x1.v) :: rest) (updL cs.toList (j + (i * sh.sz + c)) x.cells.toList) := by
          have e1 : updL cs.toList (j + (i * sh.sz + c)) x.cells.toList = cs.toList.take j ++ (updL c1 (i * sh.sz + c) x.cells.toList ++ c2) := by
            have e2 : cs.toList = cs.toList.take j ++ (c1 ++ c2) := by rw [← k3, List.take_append_drop]
            have hl0 : (cs.toList.take j).length = j := by rw [List.length_take]; omega
            unfold updL
            conv => lhs; rw [e2]
            rw [List.take_append, List.take_of_length_le (l := cs.toList.take j) (by omega), hl0, Nat.add_sub_cancel_left, List.take_append_of_le_length (by omega),
              List.drop_append, List.drop_eq_nil_of_le (as := cs.toList.take j) (by omega), hl0, show j + (i * sh.sz + c) + x.cells.toList.length - j = i * sh.sz + c + x.cells.toList.length by omega, List.drop_append_of_le_length (by omega)]
            simp
          rw [e1]
          refine (LRs.ext hx k1).append ⟨_, c2, rfl, ?_, LRs.ext hx k5⟩
          show Ro E w (KZ K γ x1.ws (g && x1.f)) (.v q sh) (v.set i x1.v) (updL c1 (i * sh.sz + c) x.cells.toList)
          -- the array's elements
          have hul : (updL c1 (i * sh.sz + c) x.cells.toList).length = q * sh.sz := by rw [updL_len (by omega), hcl]
          have hseg : updL c1 (i * sh.sz + c) x.cells.toList = ((List.range q).map fun k => if k = i then updL ((c1.drop (i * sh.sz)).take sh.sz) c x.cells.toList else (c1.drop (k * sh.sz)).take sh.sz).flatMap id := by
            rw [List.flatMap_map]
            have hls : ∀ k, k < q → ((if k = i then updL ((c1.drop (i * sh.sz)).take sh.sz) c x.cells.toList else (c1.drop (k * sh.sz)).take sh.sz)).length = sh.sz := by
              intro k hk
              have : (k + 1) * sh.sz ≤ q * sh.sz := Nat.mul_le_mul_right _ hk
              rw [Nat.add_mul, Nat.one_mul] at this
              by_cases e : k = i
              · rw [if_pos e, updL_len (by rw [hell]; omega)]; exact hell
              · rw [if_neg e, List.length_take, List.length_drop]; omega
            apply List.ext_getElem?
            intro p
            by_cases hp : p < q * sh.sz
            · have hs0 : 0 < sh.sz := Nat.pos_of_ne_zero (fun e => by rw [e] at hp; omega)
              have hpq : p / sh.sz < q := (Nat.div_lt_iff_lt_mul hs0).2 hp
              have hpr : p % sh.sz < sh.sz := Nat.mod_lt _ hs0
              have hdm : p / sh.sz * sh.sz + p % sh.sz = p := by rw [Nat.mul_comm]; exact Nat.div_add_mod p sh.sz
              generalize p / sh.sz = k at *
              generalize p % sh.sz = r at *
              subst hdm
              have hkb : (k + 1) * sh.sz ≤ q * sh.sz := Nat.mul_le_mul_right _ hpq
              rw [Nat.add_mul, Nat.one_mul] at hkb
              have hsome : ∃ z, ((if k = i then updL ((c1.drop (i * sh.sz)).take sh.sz) c x.cells.toList else (c1.drop (k * sh.sz)).take sh.sz))[r]? = some z := ⟨_, List.getElem?_eq_getElem (by rw [hls k hpq]; exact hpr)⟩
              obtain ⟨z, hz⟩ := hsome
              have := flat_at hls hpq hz
              simp only [id]
              rw [this]
              by_cases e : k = i
              · subst e
                rw [if_pos rfl] at hz
                by_cases hr2 : c ≤ r ∧ r < c + x.cells.toList.length
                · rw [updL_in (by rw [hell]; omega) hr2.1 hr2.2] at hz
                  rw [updL_in (by omega) (by omega) (by omega), show k * sh.sz + r - (k * sh.sz + c) = r - c by omega]; exact hz
                · rw [updL_out (by rw [hell]; omega) (by omega), List.getElem?_take, if_pos hpr, List.getElem?_drop] at hz
                  rw [updL_out (by omega) (by omega)]; exact hz
              · rw [if_neg e, List.getElem?_take, if_pos hpr, List.getElem?_drop] at hz
                rw [updL_out (by omega) ?_]
                · exact hz
                · by_cases hlt : k < i
                  · have : (k + 1) * sh.sz ≤ i * sh.sz := Nat.mul_le_mul_right _ hlt
                    rw [Nat.add_mul] at this; omega
                  · have : (i + 1) * sh.sz ≤ k * sh.sz := Nat.mul_le_mul_right _ (by omega)
                    rw [Nat.add_mul] at this; omega
            · rw [List.getElem?_eq_none (by omega), List.getElem?_eq_none (by simp only [id]; rw [flat_lenR hls]; omega)]
          rw [hseg]
          have := Ro.arr (E := E) (w := w) (Kf := KZ K γ x1.ws (g && x1.f)) (a := sh) (v := v.set i x1.v) (css := (List.range q).map fun k => if k = i then updL ((c1.drop (i * sh.sz)).take sh.sz) c x.cells.toList else (c1.drop (k * sh.sz)).take sh.sz) (by simp [hvl]) (by
            intro k cc hk
            rw [List.getElem?_map] at hk
            have hkq : k < q := by
              by_cases hkq : k < q
              · exact hkq
              · rw [List.getElem?_eq_none (by simp; omega)] at hk; cases hk
            rw [List.getElem?_range hkq] at hk
            simp only [Option.map_some, Option.some.injEq] at hk
            subst hk
            rw [List.getD_eq_getElem?_getD, List.getElem?_set]
            by_cases e : i = k
            · subst e
              rw [if_pos rfl, if_pos (by omega), if_pos rfl]
              exact htv.1
            · rw [if_neg e, if_neg (fun e' => e e'.symm), List.getElem?_eq_getElem (by omega)]
              exact (hel k (by omega)).mono (fun b hb => m1 b (.inl hb)) (fun _ _ => rfl))
          rw [List.length_map, List.length_range] at this
          exact this
        have hfin := hr'.vaSet ho' hh' g1 hnew
        rw [← setW_fresh hne] at hfin
        exact ⟨_, storeAt_run hm g1 hsz (by have : cs.toList.length = cs.size := Array.length_toList; have : x.cells.toList.length = m := hlen; omega) hone, _, hq, _, _, hfin⟩
      · exact hp.elim
    · exact hp.elim
  · rename_i o i j
    obtain ⟨y', hy, _, hro⟩ := hl
    injection hy with hy; subst hy
    simp only [ok_bind, ok_getO] at hp
    split at hp
    · rename_i f ver e sh ow v fc ho
      obtain ⟨hi, b, p, c, hh, rfl⟩ := hro v.length sh.sz (by rw [ho]; rfl)
      obtain ⟨b', c', cur, css, Fs, hra⟩ := h.rowAt ho (by omega)
      have hh2 := hra.hd
      rw [hh] at hh2
      injection hh2 with e1 e2 e3
      injection e1 with e1; injection e1 with e1 e4
      subst e1; subst e4
      -- an element that isn't laid open
      have plain : (∀ c, fc = some c → c.i ≠ i) → (do
          let y ← putV sh ow (v.getD i sh.zero) j m (lsOf d)
          chk y.ls.isEmpty
          chk (okW ((o, .gone) :: y.ws))
          return (o, .ro (f && y.f) (ver + 1) e sh ow (v.set i y.v) fc) :: y.ws : Rd Wo).ok σ.d σ.o Q → GetsW P E w0 M σ tm w (Instr.storeAt t (.pointer (some ⟨b, 0 + (i * sh.sz + j), none⟩)) x) Q := by
        intro hfc hp
        simp only [ok_bind, ok_chk, ok_pure] at hp
        have hel0 := (hra.el i hi).1
        obtain ⟨x1, ⟨he, hok, hq⟩, hxw, hjm, d1, d2, hvs, hd1l, hxl, G1, D, G2, hGG, htv⟩ := ok_putV h (hel0.plain hfc) hn hp
        have he' : x1.ls = [] := by simpa using he
        obtain ⟨hne, hok'⟩ := fresh_o hok
        rw [he'] at hxl
        rw [show d2 = [] from hxl, List.append_nil] at hvs
        subst hvs
        obtain ⟨_, _, _, s2, s3⟩ := h.rowSet ho hra (i := i) (j := j) hi (vs := x.cells.toList) (by omega) (f' := f && x1.f) (v' := v.set i x1.v) (fc' := fc) (by simp) (fun e => by simp at e; exact e.1)
          (fun k hk => by rw [List.getD_eq_getElem?_getD, List.getElem?_set_ne (fun e => hk e.symm), ← List.getD_eq_getElem?_getD])
          (fun _ _ => rfl) (h.fci ho) hok' hxw hne hGG (by
            have hv : (v.set i x1.v).getD i sh.zero = x1.v := by rw [List.getD_eq_getElem?_getD, List.getElem?_set_self hi]; rfl
            unfold ElR
            cases hf : fc with
            | none => simp only; rw [hv]; exact htv
            | some cc => simp only; rw [if_neg (hfc cc hf), hv]; exact htv)
        rw [← setW_fresh hne] at s3
        have hrun := storeAt_run hm hra.heap hsz (by rw [← hlen]; exact s2) hone
        rw [Nat.zero_add]
        exact ⟨_, hrun, _, hq, _, _, s3⟩
      cases fc with
      | none => exact plain (fun _ e => by cases e) hp
      | some cc =>
        simp only [ok_br] at hp
        rcases hp with ⟨hc, hp⟩ | ⟨hc, hp⟩
        · have hc' : cc.i = i := by simpa using hc
          simp only [ok_bind, ok_opt, ok_pure] at hp
          obtain ⟨ls', hs, hq⟩ := hp
          obtain ⟨hel0, hcl0, _⟩ := hra.el i hi
          unfold ElR at hel0
          simp only at hel0
          rw [if_pos hc'] at hel0
          obtain ⟨s1, sj⟩ := hel0.1.set hn hs
          obtain ⟨_, _, _, s2, s3⟩ := h.rowSet ho hra (i := i) (j := j) hi (vs := x.cells.toList) (by omega) (f' := f) (v' := v) (fc' := some ⟨cc.i, ls'⟩) rfl (fun e => e)
            (fun k hk => rfl) (fun k hk => by unfold fcAt; simp only; rw [if_neg (by omega), if_neg (by omega)]) (fun c hc => by cases hc; exact h.fci ho cc rfl) (ws := []) rfl (fun q hq => by cases hq) (fun q hq => by cases hq) (G1 := []) (D := []) (G2 := []) (by simpa using hel0.2) (by
              unfold ElR
              simp only
              rw [if_pos hc']
              exact ⟨LRs.ext (h.takeX (ws := []) rfl (fun q hq => by cases hq)) s1, rfl⟩)
          have hrun := storeAt_run hm hra.heap hsz (by rw [← hlen]; exact s2) hone
          rw [Nat.zero_add]
          exact ⟨_, hrun, _, hq, _, _, s3⟩
        · have hc' : cc.i ≠ i := by simpa using hc
          exact plain (fun _ e => by cases e; exact hc') (ok_liveLs _ hp)
    · exact hp.elim
  · exact hp.elim
end
end Go.En
end
section
/-
  The engine, part T: loads that lay an element open.
-/
namespace Go.En
open Go

section
variable {E : Ctx0} {w0 w w' : World} {M : Ml} {K : Bool → Nat → Prop} {γ : Gh} {σ : Sg} {tm : Array Value} {P : Program} {sd : Nat → D} {so : Id → Ob}

theorem Ext.trans {w1 w2 w3 : World} {K1 K2 K3 : Bool → Nat → Prop} {s1 s2 s3 : Id → Ob} {g1 g2 g3 : Gh} (h : Ext w1 w2 K1 K2 s1 s2 g1 g2) (h' : Ext w2 w3 K2 K3 s2 s3 g2 g3) : Ext w1 w3 K1 K3 s1 s3 g1 g3 := by
  refine ⟨fun f b hb => h'.kK f b (h.kK f b hb), fun f b hb => (h'.kw f b (h.kK f b hb)).trans (h.kw f b hb), fun o ho => h'.no o (h.no o ho), ?_, ?_, ?_, ?_⟩
  · intro o q ho hq
    obtain ⟨a1, a2⟩ := h'.row o q (h.no o ho) hq
    obtain ⟨b1, b2⟩ := h.row o q ho a1
    exact ⟨b1, a2.trans b2⟩
  · intro o ho hq
    obtain ⟨a1, a2⟩ := h'.va o (h.no o ho) hq
    obtain ⟨b1, b2⟩ := h.va o ho a1
    exact ⟨b1, a2.trans b2⟩
  · intro o ho hq
    obtain ⟨a1, a2⟩ := h'.ma o (h.no o ho) hq
    obtain ⟨b1, b2⟩ := h.ma o ho a1
    exact ⟨b1, a2.trans b2⟩
  · intro o v ho hv
    obtain ⟨v1, a1, a2, a3⟩ := h'.ver o v (h.no o ho) hv
    obtain ⟨v0, b1, b2, b3⟩ := h.ver o v1 ho a1
    refine ⟨v0, b1, Nat.le_trans b2 a2, fun e => ?_⟩
    obtain rfl : v1 = v := by omega
    obtain ⟨c1, c2⟩ := a3 rfl
    obtain ⟨d1, d2⟩ := b3 e
    refine ⟨c1.trans d1, fun b hb => ?_⟩
    obtain ⟨e1, e2⟩ := d2 b hb
    rcases e1 with e1 | e1
    · obtain ⟨f1, f2⟩ := c2 b e1
      rw [d1] at f1
      exact ⟨f1, f2.trans e2⟩
    · exact ⟨.inr (h'.kK _ b e1), (h'.kw _ b e1).trans e2⟩

/-- the rows that an element holds -/
def NewR (E : Ctx0) (w : World) (K : Bool → Nat → Prop) (f : Bool) (t : Nat) : Nat → Wo → List (Value × List Nat) → Prop
  | _, [], H => H = []
  | j, q :: N, H => ∃ hd F H', H = (hd, F) :: H' ∧ q.1 = ⟨t, j⟩ ∧ (∃ (e : TypeId) (a : Sh) (o : Ow) (v : List (Val a)), q.2 = .ro f 0 e a o v none ∧ Row w e a.sz v.length hd F (fun i cs G => Tv E w (K f) a o (v.getD i a.zero) cs G)) ∧ NewR E w K f t (j + 1) N H'
/-- they are there -/
def AtR (so : Id → Ob) (γ : Gh) (t : Nat) : Nat → Wo → List (Value × List Nat) → Prop
  | _, [], _ => True
  | j, q :: N, H => so ⟨t, j⟩ = q.2 ∧ γ.hd ⟨t, j⟩ = (H.headD (.bool true, [])).1 ∧ AtR so γ t (j + 1) N H.tail
theorem NewR.append {f : Bool} {t : Nat} : ∀ {N N' : Wo} {H H' : List (Value × List Nat)} {j : Nat}, NewR E w K f t j N H → NewR E w K f t (j + N.length) N' H' → NewR E w K f t j (N ++ N') (H ++ H')
  | [], N', H, H', j, h, h' => by rw [show H = [] from h]; exact h'
  | q :: N, N', H, H', j, h, h' => by
    obtain ⟨hd, F, H1, rfl, h2, h3, h4⟩ := h
    refine ⟨hd, F, H1 ++ H', rfl, h2, h3, NewR.append h4 ?_⟩
    rw [List.length_cons] at h'
    rw [show j + 1 + N.length = j + (N.length + 1) by omega]; exact h'
theorem NewR.len {f : Bool} {t : Nat} : ∀ {N : Wo} {H : List (Value × List Nat)} {j : Nat}, NewR E w K f t j N H → H.length = N.length
  | [], H, j, h => by rw [show H = [] from h]; rfl
  | q :: N, H, j, h => by
    obtain ⟨hd, F, H1, rfl, h2, h3, h4⟩ := h
    rw [List.length_cons, List.length_cons, NewR.len h4]
theorem AtR.append {t : Nat} : ∀ {N N' : Wo} {H H' : List (Value × List Nat)} {j : Nat}, H.length = N.length → AtR so γ t j (N ++ N') (H ++ H') → AtR so γ t j N H ∧ AtR so γ t (j + N.length) N' H'
  | [], N', H, H', j, hl, h => by
    rw [List.eq_nil_of_length_eq_zero hl] at h ⊢
    exact ⟨trivial, h⟩
  | q :: N, N', [], H', j, hl, h => by cases hl
  | q :: N, N', x :: H, H', j, hl, h => by
    obtain ⟨h1, h2, h3⟩ := h
    obtain ⟨h4, h5⟩ := AtR.append (N := N) (H := H) (by simpa using hl) h3
    refine ⟨⟨h1, h2, h4⟩, ?_⟩
    rw [List.length_cons, show j + (N.length + 1) = j + 1 + N.length by omega]; exact h5

theorem AtR.congr {so' : Id → Ob} {γ' : Gh} {t : Nat} : ∀ {N : Wo} {H : List (Value × List Nat)} {j : Nat}, (∀ k, j ≤ k → k < j + N.length → so' ⟨t, k⟩ = so ⟨t, k⟩ ∧ γ'.hd ⟨t, k⟩ = γ.hd ⟨t, k⟩) → AtR so γ t j N H → AtR so' γ' t j N H
  | [], _, _, _, _ => trivial
  | q :: N, H, j, hc, ⟨h1, h2, h3⟩ => by
    obtain ⟨c1, c2⟩ := hc j (Nat.le_refl _) (by rw [List.length_cons]; omega)
    exact ⟨c1.trans h1, c2.trans h2, AtR.congr (fun k hk hk2 => hc k (by omega) (by rw [List.length_cons]; omega)) h3⟩

/-- leaves in which rows of our own aren't known -/
def unRw : L → L
  | .rw _ => .un 1
  | l => l
theorem lvsB_un {pv : Pv} : ∀ {sh : Sh} {v : Val sh}, (lvsB pv sh v).map unRw = lvsB pv sh v := by
  intro sh
  induction sh with
  | p a c ih1 ih2 => intro v; simp only [lvsB, List.map_append, ih1, ih2]
  | _ => intro v; rfl
theorem lvs_un {pv : Pv} : ∀ {sh : Sh} {v : Val sh}, (lvs pv sh v).map unRw = lvs pv sh v := by
  intro sh
  induction sh with
  | p a c ih1 ih2 => intro v; simp only [lvs, List.map_append, ih1, ih2]
  | n k => intro v; exact lvsB_un
  | _ => intro v; rfl
theorem lvsF_ok {f : Bool} {t : Nat} : ∀ {ow : Ow} {sh : Sh} {v : Val sh} {cs : List Value} {G : List Nat} {j : Nat}, Tv E w (K f) sh ow v cs G →
    ∃ H, NewR E w K f t j (lvsF f t sh ow v j).2 H ∧ G = H.flatMap (·.2) ∧ (∀ so γ, LRs E w K so γ ((lvsF f t sh ow v j).1.map unRw) cs) ∧
      ∀ so γ, AtR so γ t j (lvsF f t sh ow v j).2 H → LRs E w K so γ (lvsF f t sh ow v j).1 cs := by
  intro ow
  have plain : ∀ {sh : Sh} {v : Val sh} {cs : List Value} {G : List Nat} {j : Nat}, Tv E w (K f) sh .z v cs G → ∃ H, NewR E w K f t j [] H ∧ G = H.flatMap (·.2) ∧ (∀ so γ, LRs E w K so γ ((lvs (.fz f) sh v).map unRw) cs) ∧ ∀ so γ, AtR so γ t j [] H → LRs E w K so γ (lvs (.fz f) sh v) cs := by
    intro sh v cs G j h
    rw [Tv.z_iff] at h
    have key : ∀ so γ, LRs E w K so γ (lvs (.fz f) sh v) cs := fun so γ => lvs_ok (E := E) (w := w) (K := K) (so := so) (γ := γ) (pv := .fz f) (Kf := K f) (fun h => h) h.1
    exact ⟨[], rfl, h.2, fun so γ => by rw [lvs_un]; exact key so γ, fun so γ _ => key so γ⟩
  induction ow with
  | z =>
    intro sh v cs G j h
    have : lvsF f t sh .z v j = (lvs (.fz f) sh v, []) := by cases sh <;> rfl
    rw [this]
    exact plain h
  | l e o ih =>
    intro sh v cs G j h
    cases sh with
    | l a =>
      obtain ⟨x, rfl, hrow⟩ := h
      refine ⟨[(x, G)], ⟨x, G, [], rfl, rfl, ⟨e, a, o, v, rfl, hrow⟩, rfl⟩, by simp, fun so γ => LRs.one (l := .un 1) rfl, fun so γ hat => LRs.one ?_⟩
      have hx1 : x.oneCell' = true := by rcases hrow with ⟨h1, _⟩ | ⟨_, _, _, _, _, h1, _⟩ <;> rw [h1] <;> rfl
      exact ⟨x, rfl, ⟨by rw [hat.1]; simp, hx1⟩, fun _ => hat.2.1.symm⟩
    | _ => exact h.elim
  | p oa oc ih1 ih2 =>
    intro sh v cs G j h
    cases sh with
    | p a c =>
      obtain ⟨c1, c2, F1, F2, rfl, rfl, h3, h4⟩ := h
      obtain ⟨H1, g1, g2, g3, g4⟩ := ih1 (j := j) h3
      obtain ⟨H2, k1, k2, k3, k4⟩ := ih2 (j := j + (lvsF f t a oa v.1 j).2.length) h4
      refine ⟨H1 ++ H2, g1.append k1, by rw [g2, k2, List.flatMap_append], fun so γ => ?_, fun so γ hat => ?_⟩
      · simp only [lvsF, List.map_append]
        exact (g3 so γ).append (k3 so γ)
      · obtain ⟨a1, a2⟩ := AtR.append g1.len hat
        exact (g4 so γ a1).append (k4 so γ a2)
    | _ => exact h.elim

/-- new rows out of free blocks -/
theorem Rel.newRows {f : Bool} {t : Nat} : ∀ {N : Wo} {H : List (Value × List Nat)} {j : Nat} {γ : Gh} {σ : Sg}, Rel E w0 M K γ σ tm w → NewR E w K f t j N H → (∀ k, k < N.length → σ.o ⟨t, j + k⟩ = .no) →
    (∀ b, b ∈ H.flatMap (·.2) → Free w0 M K γ b ∧ b < w.heap.size) → (H.flatMap (·.2)).Nodup →
    ∃ γ', Rel E w0 M K γ' (σ.setW N) tm w ∧ Ext w w K K σ.o (σ.setW N).o γ γ' ∧ AtR (σ.setW N).o γ' t j N H ∧ ∀ x, (∀ k, j ≤ k → k < j + N.length → x ≠ ⟨t, k⟩) → γ'.hd x = γ.hd x ∧ γ'.fp x = γ.fp x ∧ (σ.setW N).o x = σ.o x
  | [], H, j, γ, σ, h, hn, _, _, _ => ⟨γ, h, Ext.refl, trivial, fun _ _ => ⟨rfl, rfl, rfl⟩⟩
  | q :: N, H, j, γ, σ, h, hn, hfr, hF, hnd => by
    obtain ⟨hd, F, H', rfl, hq, ⟨e, a, o, v, hob, hrow⟩, hn'⟩ := hn
    obtain ⟨x, ob⟩ := q
    simp only at hq hob
    subst hq; subst hob
    rw [List.flatMap_cons] at hF hnd
    obtain ⟨n1, n2, n3⟩ := List.nodup_append.1 hnd
    have hno : σ.o ⟨t, j⟩ = .no := by have := hfr 0 (by simp); simpa using this
    have h1 := h.upd (w' := w) ⟨t, j⟩ (ob := .ro f 0 e a o v none) (hd := hd) (F := F) (fun _ _ _ _ => rfl) (Nat.le_refl _) rfl rfl rfl (fun b hb => ⟨.inr (hF b (List.mem_append_left _ hb)).1, (hF b (List.mem_append_left _ hb)).2⟩) n1 (.inl hno) ⟨hrow, fun c hc => by cases hc⟩
    have hx1 := h.updX (w' := w) ⟨t, j⟩ (ob := .ro f 0 e a o v none) (hd := hd) (F := F) (fun _ _ _ _ => rfl) (.inl hno)
    have hfp : (γ.set ⟨t, j⟩ hd F).fp ⟨t, j⟩ = F := by simp [Gh.set]
    obtain ⟨γ', r1, r2, r3, r4⟩ := Rel.newRows (j := j + 1) h1 hn' (fun k hk => by
      have := hfr (k + 1) (by simpa using hk)
      simp only [Sg.setO]
      rw [if_neg (by intro e; injection e with _ e; omega), show j + 1 + k = j + (k + 1) by omega]; exact this) (fun b hb => by
      obtain ⟨g1, g2⟩ := hF b (List.mem_append_right _ hb)
      refine ⟨⟨g1.1, g1.2.1, fun o' hbo => ?_⟩, g2⟩
      by_cases e : o' = ⟨t, j⟩
      · subst e
        rw [hfp] at hbo
        exact n3 b hbo b hb rfl
      · simp only [Gh.set, if_neg e] at hbo
        exact g1.2.2 o' hbo) n2
    have hne : ∀ k, j + 1 ≤ k → k < j + 1 + N.length → (⟨t, j⟩ : Id) ≠ ⟨t, k⟩ := fun k hk _ e => by injection e with _ e; omega
    obtain ⟨s1, s2, s3⟩ := r4 ⟨t, j⟩ hne
    refine ⟨γ', r1, hx1.trans r2, ⟨by rw [Sg.setW, s3]; simp [Sg.setO], by rw [s1]; simp [Gh.set], r3⟩, fun x hx => ?_⟩
    obtain ⟨u1, u2, u3⟩ := r4 x (fun k hk hk2 => hx k (by omega) (by rw [List.length_cons]; omega))
    have hxj := hx j (Nat.le_refl _) (by rw [List.length_cons]; omega)
    exact ⟨by rw [u1]; simp only [Gh.set, if_neg hxj], by rw [u2]; simp only [Gh.set, if_neg hxj], by rw [Sg.setW, u3]; simp only [Sg.setO, if_neg hxj]⟩
theorem Sg.setO_setO (σ : Sg) (x : Id) (a b : Ob) : (σ.setO x a).setO x b = σ.setO x b := by
  unfold Sg.setO
  congr 1
  funext y
  by_cases h : y = x <;> simp [h]
theorem updL_nil (cs : List Value) (o : Nat) : updL cs o [] = cs := by simp [updL]

theorem so_loadO (h : Rel E w0 M K γ σ tm w) {dst : Option Tmp} {t : TypeId} {m : Option Nat} (hm : aggSz P t = some m) {o : Id} {i j : Nat} {x : Value} (hl : LR E w K σ.o γ (.pe o i j) [x]) {f : Bool} {ver : Nat} {e : TypeId} {sh : Sh} {ow : Ow} {v : List (Val sh)} (ho : σ.o o = .ro f ver e sh ow v none) {Q : Re → Prop}
    (hp : (do
          let d ← loadLs m (← opt (dropC (lvsF f ((dst.getD 0) + 2) sh ow (v.getD i sh.zero) 0).1 j))
          let _ ← fresh dst 0
          let _ ← fresh dst 1
          let _ ← fresh dst 2
          chk (Nat.ble (lvsF f ((dst.getD 0) + 2) sh ow (v.getD i sh.zero) 0).2.length 3)
          return (d, (o, .ro f (ver + 2) e sh ow v (some ⟨i, (lvsF f ((dst.getD 0) + 2) sh ow (v.getD i sh.zero) 0).1⟩)) :: (lvsF f ((dst.getD 0) + 2) sh ow (v.getD i sh.zero) 0).2) : Rd Re).ok σ.d σ.o Q) : Gets P E w0 M σ tm w (Instr.loadAt t x) Q := by
  obtain ⟨y', hy, _, hro⟩ := hl
  injection hy with hy; subst hy
  obtain ⟨hi, b, p, c, hh, rfl⟩ := hro v.length sh.sz (by rw [ho]; rfl)
  obtain ⟨b', c', cur, css, Fs, hra⟩ := h.rowAt ho (by omega)
  have hh2 := hra.hd
  rw [hh] at hh2
  injection hh2 with e1 e2 e3
  injection e1 with e1; injection e1 with e1 e4
  subst e1; subst e4
  obtain ⟨hel, hcl, hcell⟩ := hra.el i hi
  have hel' : Tv E w (K f) sh ow (v.getD i sh.zero) (css i) (Fs i) := hel
  simp only [ok_bind, ok_opt] at hp
  obtain ⟨ls', hd, hp⟩ := hp
  -- names that are free
  obtain ⟨T, rfl, hlen, hfr⟩ : ∃ T, dst = some T ∧ (lvsF f ((dst.getD 0) + 2) sh ow (v.getD i sh.zero) 0).2.length ≤ 3 ∧ ∀ k, k < 3 → σ.o ⟨T + 2, k⟩ = .no := by
    obtain ⟨d, hp⟩ := ok_some hp
    simp only [ok_chk] at hp
    obtain ⟨T, rfl, h0, hp⟩ := ok_fresh _ _ _ hp
    obtain ⟨T', hT', h1, hp⟩ := ok_fresh _ _ _ hp
    cases hT'
    obtain ⟨T', hT', h2, hp⟩ := ok_fresh _ _ _ hp
    cases hT'
    refine ⟨T, rfl, Nat.le_of_ble_eq_true hp.1, fun k hk => ?_⟩
    match k, hk with
    | 0, _ => exact h0
    | 1, _ => exact h1
    | 2, _ => exact h2
  simp only [Option.getD_some] at hd hp hlen
  obtain ⟨H, hN, hG, hun, hls⟩ := lvsF_ok (f := f) (t := T + 2) (j := 0) hel'
  generalize lvsF f (T + 2) sh ow (v.getD i sh.zero) 0 = y at *
  obtain ⟨lsE, N⟩ := y
  simp only at *
  -- first: what its rows are isn't known
  obtain ⟨X, Y, g1, _, g3⟩ := h.rowSet ho hra (i := i) (j := 0) hi (vs := []) (by simp) (f' := f) (v' := v) (fc' := some ⟨i, lsE.map unRw⟩) rfl (fun e => e) (fun k hk => rfl)
    (fun k hk => by unfold fcAt; simp only; rw [if_neg (fun e => hk e.symm)]) (fun c hc => by cases hc; exact hi) (ws := []) rfl (fun q hq => by cases hq) (fun q hq => by cases hq) (G1 := []) (D := Fs i) (G2 := []) (by simp) (by
      unfold ElR
      simp only
      simp only [if_true, updL_nil]
      exact ⟨LRs.ext (h.takeX (ws := []) rfl (fun q hq => by cases hq)) (hun _ _), rfl⟩)
  have hKZ : KZ K γ [] = K := by
    funext f b
    apply propext
    constructor
    · rintro (hk | ⟨q, hq, _⟩)
      · exact hk
      · cases hq
    · exact .inl
  rw [updL_nil, Array.toArray_toList, setRow_self w b cur e (0, 0) hra.heap, hKZ] at g3
  simp only [Gh.take, absF, List.nil_append, List.append_nil] at g1 g3
  change Rel E w0 M K (γ.set o (γ.hd o) (b :: (X ++ Y))) (σ.setO o _) tm w at g3
  have hnd := h.nd o
  rw [g1] at hnd
  have hndF : (Fs i).Nodup := by
    have : List.Sublist (Fs i) (b :: (X ++ Fs i ++ Y)) := ((List.sublist_append_right X _).trans (List.sublist_append_left _ Y)).trans (List.sublist_cons_self _ _)
    exact this.nodup hnd
  have hfree : ∀ b', b' ∈ Fs i → Free w0 M K (γ.set o (γ.hd o) (b :: (X ++ Y))) b' ∧ b' < w.heap.size := by
    intro b' hb'
    have hbo : b' ∈ γ.fp o := by rw [g1]; simp [hb']
    obtain ⟨k1, k2, k3⟩ := h.ow o b' hbo
    refine ⟨⟨k1, k3, fun o' ho' => ?_⟩, k2⟩
    by_cases eo : o' = o
    · subst eo
      simp only [Gh.set, if_true] at ho'
      obtain ⟨n1, n2⟩ := List.nodup_cons.1 hnd
      rw [List.append_assoc] at n2
      obtain ⟨a1, a2, a3⟩ := List.nodup_append.1 n2
      obtain ⟨b1, b2, b3⟩ := List.nodup_append.1 a2
      rcases List.mem_cons.1 ho' with rfl | ho'
      · exact n1 (by simp [hb'])
      · rcases List.mem_append.1 ho' with h7 | h7
        · exact a3 b' h7 b' (List.mem_append_left _ hb') rfl
        · exact b3 b' hb' b' h7 rfl
    · simp only [Gh.set, if_neg eo] at ho'
      exact eo (h.dj _ _ _ ho' hbo)
  have hoT : ∀ k, k < 3 → o ≠ ⟨T + 2, k⟩ := fun k hk e => by have := hfr k hk; rw [← e, ho] at this; cases this
  -- then its rows
  have hNk : ∀ k, k < N.length → (σ.setO o (.ro f (ver + 1) e sh ow v (some ⟨i, lsE.map unRw⟩))).o ⟨T + 2, 0 + k⟩ = .no := by
    intro k hk
    simp only [Sg.setO]
    rw [Nat.zero_add, if_neg (fun e => hoT k (by omega) e.symm)]; exact hfr k (by omega)
  obtain ⟨γ2, r1, _, r3, r4⟩ := g3.newRows hN hNk (fun b hb => hfree b (by rw [hG]; exact hb)) (by rw [← hG]; exact hndF)
  obtain ⟨u1, u2, u3⟩ := r4 o (fun k _ hk => hoT k (by omega))
  have ho2 : ((σ.setO o (.ro f (ver + 1) e sh ow v (some ⟨i, lsE.map unRw⟩))).setW N).o o = .ro f (ver + 1) e sh ow v (some ⟨i, lsE.map unRw⟩) := by rw [u3]; simp [Sg.setO]
  have hhd2 : γ2.hd o = γ.hd o := by rw [u1]; simp [Gh.set]
  obtain ⟨b2, c2, cur2, css2, Fs2, hra2⟩ := r1.rowAt ho2 (by omega)
  have hh3 := hra2.hd
  rw [hhd2, hh] at hh3
  injection hh3 with e1 e2 e3
  injection e1 with e1; injection e1 with e1 _
  subst e1
  have hcur : cur2 = cur := by
    have h1 := hra2.heap
    rw [hra.heap] at h1
    injection h1 with h1; injection h1 with h1
    exact h1.symm
  subst hcur
  obtain ⟨_, hcl2, hcell2⟩ := hra2.el i hi
  have hcss : css2 i = css i := by
    apply List.ext_getElem?
    intro k
    by_cases hk : k < sh.sz
    · rw [List.getElem?_eq_getElem (by omega), List.getElem?_eq_getElem (by omega)]
      have k1 := hcell k _ (List.getElem?_eq_getElem (by omega))
      have k2 := hcell2 k _ (List.getElem?_eq_getElem (by omega))
      rw [k1] at k2
      exact k2.symm
    · rw [List.getElem?_eq_none (by omega), List.getElem?_eq_none (by omega)]
  -- now they are
  obtain ⟨X', Y', _, _, q3⟩ := r1.rowSet ho2 hra2 (i := i) (j := 0) hi (vs := []) (by simp) (f' := f) (v' := v) (fc' := some ⟨i, lsE⟩) rfl (fun e => e) (fun k hk => rfl)
    (fun k hk => by unfold fcAt; simp only; rw [if_neg (fun e => hk e.symm), if_neg (fun e => hk e.symm)]) (fun c hc => by cases hc; exact hi) (ws := []) rfl (fun q hq => by cases hq) (fun q hq => by cases hq) (G1 := []) (D := Fs2 i) (G2 := []) (by simp) (by
      unfold ElR
      simp only [if_true, updL_nil]
      rw [hcss]
      exact ⟨LRs.ext (r1.takeX (ws := []) rfl (fun q hq => by cases hq)) (hls _ _ r3), rfl⟩)
  have hKZ2 : KZ K γ2 [] = K := by
    funext f b
    apply propext
    constructor
    · rintro (hk | ⟨q, hq, _⟩)
      · exact hk
      · cases hq
    · exact .inl
  rw [updL_nil, Array.toArray_toList, setRow_self w b cur2 e (0, 0) hra.heap, hKZ2] at q3
  have hneN : ∀ q, q ∈ N → q.1 ≠ o := by
    have gen : ∀ {N : Wo} {H : List (Value × List Nat)} {j : Nat}, NewR E w K f (T + 2) j N H → j + N.length ≤ 3 → ∀ q, q ∈ N → q.1 ≠ o := by
      intro N
      induction N with
      | nil => intro H j _ _ q hq; cases hq
      | cons p N ih =>
        intro H j hn hle q hq
        obtain ⟨hd, F, H', rfl, hp1, _, hn'⟩ := hn
        rw [List.length_cons] at hle
        rcases List.mem_cons.1 hq with rfl | hq
        · rw [hp1]; exact fun e => hoT j (by omega) e.symm
        · exact ih hn' (by omega) q hq
    exact gen hN (by omega)
  have hσ : (((σ.setO o (.ro f (ver + 1) e sh ow v (some ⟨i, lsE.map unRw⟩))).setW N).setO o (.ro f (ver + 2) e sh ow v (some ⟨i, lsE⟩))) = σ.setW ((o, .ro f (ver + 2) e sh ow v (some ⟨i, lsE⟩)) :: N) := by
    have := setW_fresh (σ := σ) (ob := .ro f (ver + 1) e sh ow v (some ⟨i, lsE.map unRw⟩)) hneN
    simp only [Sg.setW] at this
    rw [this, Sg.setO_setO, setW_fresh hneN]
  change Rel E w0 M K _ (((σ.setO o (.ro f (ver + 1) e sh ow v (some ⟨i, lsE.map unRw⟩))).setW N).setO o (.ro f (ver + 2) e sh ow v (some ⟨i, lsE⟩))) tm w at q3
  rw [hσ] at q3
  obtain ⟨γ3, hγ3, q3⟩ : ∃ γ3 : Gh, (∀ k, k < 3 → γ3.hd ⟨T + 2, k⟩ = γ2.hd ⟨T + 2, k⟩) ∧ Rel E w0 M K γ3 (σ.setW ((o, .ro f (ver + 2) e sh ow v (some ⟨i, lsE⟩)) :: N)) tm w := by
    refine ⟨_, fun k hk => ?_, q3⟩
    have hne : ¬ (⟨T + 2, k⟩ : Id) = o := fun e => hoT k hk e.symm
    simp only [Gh.set, Gh.take, if_neg hne]
  have hatt : LRs E w K (σ.setW ((o, .ro f (ver + 2) e sh ow v (some ⟨i, lsE⟩)) :: N)).o γ3 lsE (css i) := hls _ _ (AtR.congr (fun k _ hk => by
    rw [← hσ]
    have : (⟨T + 2, k⟩ : Id) ≠ o := fun e => hoT k (by omega) e.symm
    exact ⟨by simp only [Sg.setO, if_neg this], hγ3 k (by omega)⟩) r3)
  have hc : ∀ k y, ((css i).drop j)[k]? = some y → w.cell? ((⟨b, 0 + (i * sh.sz + j), none⟩ : Addr).add k) = some y := by
    rw [Nat.zero_add]
    refine cell_drop (o := i * sh.sz) (fun k y hk => ?_)
    have := hcell k y hk
    simp only [World.cell?, hra.heap]
    simpa using this
  obtain ⟨y, d, l1, l2, l3⟩ := ok_load hm hc (hatt.drop hd).1 hp
  simp only [ok_chk] at l2
  obtain ⟨T0, hT0, _, l2⟩ := ok_fresh _ _ _ l2
  obtain ⟨T1, hT1, _, l2⟩ := ok_fresh _ _ _ l2
  obtain ⟨T2, hT2, _, l2⟩ := ok_fresh _ _ _ l2
  have hrun : (Instr.loadAt t (.pointer (some ⟨b, 0 + (i * sh.sz + j), none⟩))).run P w = .ok y w := by
    simp only [Instr.loadAt, Instr.sureAddr, Sem.run_bind, Sem.run_pure, Result.andThen_ok]
    exact l1
  exact ⟨y, w, hrun, _, l2.2, K, γ3, q3, l3⟩

/-- loads -/
theorem so_loadA (h : Rel E w0 M K γ σ tm w) {C : Ctx0} {dst : Option Tmp} {t : TypeId} {m : Option Nat} (hm : aggSz P t = some m) {l : L} {x : Value} (hl : LR E w K σ.o γ l [x]) {Q : Re → Prop}
    (hp : (loadF C dst m l).ok σ.d σ.o Q) : Gets P E w0 M σ tm w (Instr.loadAt t x) Q := by
  cases hC : opens C dst with
  | false => exact so_load h hC hm hl hp
  | true =>
    have hC' : opens { C with fo := fun _ => false } dst = false := by cases dst <;> rfl
    by_cases hpe : ∃ o i j f ver e sh ow v fc, l = .pe o i j ∧ σ.o o = .ro f ver e sh ow v fc
    · obtain ⟨o, i, j, f, ver, e, sh, ow, v, fc, rfl, ho⟩ := hpe
      unfold loadF at hp
      simp only [ok_bind, ok_getO, ho, hC, if_true] at hp
      cases fc with
      | some c => exact hp.elim
      | none =>
        refine so_loadO h (dst := dst) hm hl ho (Q := Q) ?_
        simp only [ok_bind] at hp ⊢
        exact hp
    · refine so_load h hC' hm hl ?_
      unfold loadF at hp ⊢
      cases l with
      | pe o i j =>
        simp only [ok_bind, ok_getO] at hp ⊢
        cases ho : σ.o o with
        | ro f ver e sh ow v fc => exact absurd ⟨o, i, j, f, ver, e, sh, ow, v, fc, rfl, ho⟩ hpe
        | _ => rw [ho] at hp; exact hp
      | d pv sh v => cases sh <;> exact hp
      | _ => exact hp
end
end Go.En
end
section
/-
  The engine, part U: single operations.
-/
namespace Go.En
open Go

section
variable {E : Ctx0} {w0 w w' : World} {M : Ml} {K : Bool → Nat → Prop} {γ : Gh} {σ : Sg} {tm : Array Value} {P : Program} {sd : Nat → D} {so : Id → Ob}

def RunV (P : Program) (o : Oper) (a : Act) (w : World) (y : Value) (w' : World) : Prop := (execOp a.eval o).run P w = .ok (.value y) w'
def RunN (P : Program) (o : Oper) (a : Act) (w : World) (y : Value) (w' : World) : Prop := RunV P o a w y w' ∨ ((execOp a.eval o).run P w = .ok .skip w' ∧ y = undef)
/-- an operation that comes to a value -/
def Does (P : Program) (E : Ctx0) (w0 : World) (M : Ml) (σ : Sg) (a : Act) (w : World) (o : Oper) (Q : Re → Prop) : Prop :=
  ∃ y w', RunN P o a w y w' ∧ ∃ r, Q r ∧ Pos E w0 M σ a.tmps r y w'

/-- a variable becomes data -/
theorem Rel.freezeVa (h : Rel E w0 M K γ σ tm w) {k : Id} {ls : List L} (ho : σ.o k = .va ls) {b : Nat} (hh : γ.hd k = .pointer (some ⟨b, 0, none⟩)) :
    Rel E w0 M (fun f x => K f x ∨ x = b) (γ.set k (γ.hd k) []) (σ.setO k .gone) tm w := by
  obtain ⟨cs, T, g1, g2, g3⟩ := h.va ho hh
  have hbk : b ∈ γ.fp k := by rw [g3]; exact List.mem_singleton.2 rfl
  have hfo : ∀ o, o ≠ k → (γ.set k (γ.hd k) []).fp o = γ.fp o := fun o ho => by simp only [Gh.set, if_neg ho]
  have hfk : (γ.set k (γ.hd k) []).fp k = [] := by simp [Gh.set]
  have hhd : ∀ o, (γ.set k (γ.hd k) []).hd o = γ.hd o := fun o => by
    simp only [Gh.set]; split
    · rename_i e; rw [e]
    · rfl
  have hso : ∀ o, o ≠ k → (σ.setO k .gone).o o = σ.o o := fun o ho => by simp only [Sg.setO, if_neg ho]
  have hsk : (σ.setO k .gone).o k = .gone := by simp [Sg.setO]
  have hfs : ∀ o x, x ∈ (γ.set k (γ.hd k) []).fp o → x ∈ γ.fp o ∧ o ≠ k := by
    intro o x hx
    by_cases e : o = k
    · subst e; rw [hfk] at hx; cases hx
    · rw [hfo o e] at hx; exact ⟨hx, e⟩
  have hx : Ext w w K (fun f x => K f x ∨ x = b) σ.o (σ.setO k .gone).o γ (γ.set k (γ.hd k) []) := by
    refine ⟨fun _ _ h => .inl h, fun _ _ _ => rfl, ?_, ?_, ?_, ?_, ?_⟩
    · intro o hno
      by_cases e : o = k
      · subst e; rw [hsk]; simp
      · rw [hso o e]; exact hno
    · intro o q hno hr
      by_cases e : o = k
      · subst e; rw [hsk] at hr; cases hr
      · rw [hso o e] at hr; exact ⟨hr, hhd o⟩
    · intro o hno hr
      by_cases e : o = k
      · subst e; rw [hsk] at hr; cases hr
      · rw [hso o e] at hr; exact ⟨hr, hhd o⟩
    · intro o hno hr
      by_cases e : o = k
      · subst e; rw [hsk] at hr; cases hr
      · rw [hso o e] at hr; exact ⟨hr, hhd o⟩
    · intro o v hno hr
      by_cases e : o = k
      · subst e; rw [hsk] at hr; cases hr
      · rw [hso o e] at hr
        exact ⟨v, hr, Nat.le_refl _, fun _ => ⟨by rw [hso o e], fun x hx => ⟨.inl (by rw [hfo o e]; exact hx), rfl⟩⟩⟩
  refine h.chg hx ?_ ?_ ?_ ?_ ?_ ?_ ?_ ?_ (Nat.le_refl _) (fun _ _ _ => rfl) rfl rfl rfl
  · intro o
    by_cases e : o = k
    · subst e; right
      have : ObR E w (fun f x => K f x ∨ x = b) (σ.setO o .gone).o (γ.set o (γ.hd o) []) .gone ((γ.set o (γ.hd o) []).hd o) ((γ.set o (γ.hd o) []).fp o) := hfk
      show ObR E w (fun f x => K f x ∨ x = b) (σ.setO o .gone).o (γ.set o (γ.hd o) []) (if o = o then Ob.gone else σ.o o) _ _
      rw [if_pos rfl]
      exact this
    · exact .inl ⟨hso o e, hhd o, hfo o e, fun _ _ => rfl⟩
  · intro o o' x h1 h2; exact h.dj o o' x (hfs o x h1).1 (hfs o' x h2).1
  · intro o
    by_cases e : o = k
    · subst e; rw [hfk]; exact List.nodup_nil
    · rw [hfo o e]; exact h.nd o
  · intro o x hx1
    obtain ⟨h1, h2⟩ := hfs o x hx1
    obtain ⟨a1, a2, a3⟩ := h.ow o x h1
    refine ⟨a1, a2, ?_⟩
    rintro (h3 | h3)
    · exact a3 h3
    · subst h3; exact h2 (h.dj o k x h1 hbk)
  · rintro f x (h3 | h3)
    · exact h.kb f x h3
    · subst h3; exact (h.ow k x hbk).2.1
  · rintro x (h3 | h3)
    · exact .inl (h.kk x h3)
    · exact .inr h3
  · rintro x (h3 | h3)
    · exact h.k1 x h3
    · subst h3; exact (h.ow k x hbk).1
  · rintro x (h3 | h3)
    · exact h.k0 x h3
    · subst h3; exact (h.ow k x hbk).1.imp id .inl

theorem so_iface (h : Rel E w0 M K γ σ tm w) {t : TypeId} {l : L} {x : Value} (hl : LR E w K σ.o γ l [x]) {Q : Re → Prop} (hp : (ifaceF E t l).ok σ.d σ.o Q) : Gets E.P E w0 M σ tm w (Instr.makeInterface t x) Q := by
  unfold ifaceF at hp
  split at hp
  · rename_i f n ht
    split at hp
    · rename_i k hu
      have hl' : Ro E w (K f) (.i .i64) n [x] := hl
      have hx := Ro.inv_i hl'
      injection hx with hx; subst hx
      obtain rfl : t = E.noT := Nat.eq_of_beq_eq_true ht
      refine h.gets (l := .d (.fz true) .e (.no n)) (y := .iface E.noT (.int .i64 n)) ?_ ?_ hp
      · unfold Instr.makeInterface; simp [run_underlying hu]
      · exact Ro.eno
    · exact hp.elim
  · rename_i k ht
    split at hp
    · rename_i e hu
      simp only [ok_bind, ok_getO] at hp
      split at hp
      · rename_i f1 n f er ho
        obtain rfl : t = E.atT := Nat.eq_of_beq_eq_true ht
        obtain ⟨y', hy, _, hva⟩ := hl
        injection hy with hy; subst hy
        obtain ⟨b, hh, rfl⟩ := hva (by rw [ho]; rfl)
        obtain ⟨cs, T, g1, g2, g3⟩ := h.va ho hh
        obtain ⟨c1, c2, hc, k1, c3, c4, hc2, k2, k3⟩ := g2
        have k1' : Ro E w (K f1) (.i .i64) n c1 := k1
        rw [Ro.inv_i k1'] at hc
        have k2' : Ro E w (K f) .e er c3 := k2
        have hl3 := k2'.length
        obtain ⟨z, rfl⟩ : ∃ z, c3 = [z] := by
          match c3, hl3 with
          | [z], _ => exact ⟨z, rfl⟩
        rw [show c4 = [] from k3] at hc2
        rw [hc2] at hc
        have hr := h.freezeVa ho hh
        have hcell : ∀ (i : Nat) (y : Value), cs.toList[i]? = some y → w.cell? ⟨b, i, none⟩ = some y := fun i y hi => by
          have := cells_of g1 i y hi
          rw [Nat.zero_add] at this; exact this
        refine ⟨_, w, ?_, _, hp, hr.posI (σ := σ) (ws := [(k, .gone)]) (l := .d (.fz f) .e (.at n er)) (v := .iface E.atT (.pointer (some ⟨b, 0, none⟩))) rfl ?_⟩
        · unfold Instr.makeInterface; simp [run_underlying hu]
        · show Ro E w (fun x => K f x ∨ x = b) .e (.at n er) _
          refine .eat (x := z) (.inr rfl) (k2'.mono (fun _ h => .inl h) (fun _ _ => rfl)) (hcell 0 _ (by rw [hc]; rfl)) (hcell 1 _ (by rw [hc]; rfl))
      · exact hp.elim
    · exact hp.elim
  · exact hp.elim

theorem so_nilChk (h : Rel E w0 M K γ σ tm w) {a : Act} (ha : a.tmps = tm) {o : Oper} {x : Operand} (ho : o.op = .nilCheck x) {l : L} (hl : LR E w K σ.o γ l [a.eval x]) {Q : Re → Prop} (hp : (nilChkF l).ok σ.d σ.o Q) : Does P E w0 M σ a w o Q := by
  subst ha
  have ptr : ∀ {ad : Addr} {l' : L}, a.eval x = .pointer (some ad) → LR E w K σ.o γ l' [a.eval x] → Q (one l', []) → Does P E w0 M σ a w o Q := by
    intro ad l' hx hl' hq
    refine ⟨a.eval x, w, .inl ?_, _, hq, h.posL hl'⟩
    unfold RunV execOp
    rw [ho]
    simp only [hx]; rfl
  unfold nilChkF at hp
  split at hp
  · rename_i k j
    simp only [ok_bind, ok_getO] at hp
    split at hp
    · rename_i ls hk
      have hl' := hl
      obtain ⟨y, hy, _, hva⟩ := hl
      injection hy with hy
      obtain ⟨b, _, hx⟩ := hva (by rw [hk]; rfl)
      exact ptr (by rw [hy]; exact hx) hl' hp
    · exact hp.elim
  · rename_i k i j
    have key : (rowSz (σ.o k)).isSome = true → Q (one (.pe k i j), []) → Does P E w0 M σ a w o Q := by
      intro hr hq
      have hl' := hl
      obtain ⟨y, hy, _, hro⟩ := hl
      injection hy with hy
      obtain ⟨⟨m, z⟩, hmz⟩ := Option.isSome_iff_exists.1 hr
      obtain ⟨_, b, p, c, _, hx⟩ := hro m z hmz
      exact ptr (by rw [hy]; exact hx) hl' hq
    simp only [ok_bind, ok_getO] at hp
    split at hp
    · rename_i hk; exact key (by rw [hk]; rfl) hp
    · rename_i hk; exact key (by rw [hk]; rfl) hp
    · exact hp.elim
  · rename_i k j q sh i c
    simp only [ok_bind, ok_getO] at hp
    split at hp
    · rename_i ls hk
      have hl' := hl
      obtain ⟨y, hy, _, _, hva⟩ := hl
      injection hy with hy
      obtain ⟨b, _, hx⟩ := hva (by rw [hk]; rfl)
      exact ptr (by rw [hy]; exact hx) hl' hp
    · exact hp.elim
  · rename_i pv sh v
    simp only [ok_bind] at hp
    obtain ⟨hp, Kf, hto, hof⟩ := ok_there (K := K) (γ := γ) (w := w) (E := E) hp
    obtain ⟨b, p, cs, hx, _⟩ := Ro.inv_r (hto hl)
    exact ptr hx hl hp
  · rename_i pv sh v
    simp only [ok_bind] at hp
    obtain ⟨hp, Kf, hto, hof⟩ := ok_there (K := K) (γ := γ) (w := w) (E := E) hp
    simp only [ok_chk] at hp
    obtain ⟨hs, hq⟩ := hp
    cases v with
    | none => cases hs
    | some v =>
      have hro := hto hl
      generalize hy : a.eval x = y at hro
      cases hro with
      | o1 hK h1 hw => exact ptr hy (by rw [hy]; exact hof (.r hK h1 hw)) hq
  · rename_i g cs
    have hl' := hl
    obtain ⟨vs, hx, _⟩ := hl
    injection hx with hx
    refine ⟨a.eval x, w, .inl ?_, _, hp, h.posL hl'⟩
    unfold RunV execOp
    rw [ho]
    simp only [hx]; rfl
  · exact hp.elim

/-! ### closures -/
theorem ok_capCp {l : L} {x : Value} (hl : LR E w K σ.o γ l [x]) {Q : Cp → Prop} (hp : (capCp l).ok σ.d σ.o Q) : ∃ c, Q c ∧ CpR E w K σ.o γ c x := by
  unfold capCp at hp
  split at hp
  · rename_i o
    refine ⟨_, hp, ?_⟩
    obtain ⟨y, hy, h1, h2⟩ := hl
    injection hy with hy; subst hy
    exact ⟨h1, fun hv => by obtain ⟨b, h3, h4⟩ := h2 hv; rw [h3, h4]⟩
  · refine ⟨_, hp, ?_⟩
    injection hl
  · rename_i f sh v
    simp only [ok_bind, ok_chk, ok_pure] at hp
    exact ⟨_, hp.2, hl⟩
  · exact hp.elim
def CellsR (E : Ctx0) (w : World) (K : Bool → Nat → Prop) (so : Id → Ob) (γ : Gh) : List L → List Value → Prop
  | [], xs => xs = []
  | l :: ls, xs => ∃ y ys, xs = y :: ys ∧ LR E w K so γ l [y] ∧ CellsR E w K so γ ls ys
theorem ok_capAll : ∀ {ls : List L} {xs : List Value}, CellsR E w K σ.o γ ls xs → ∀ {Q : List Cp → Prop}, (capAll ls).ok σ.d σ.o Q → ∃ cs, Q cs ∧ CpsR E w K σ.o γ cs xs
  | [], xs, hl, Q, hp => by rw [show xs = [] from hl]; exact ⟨[], hp, trivial⟩
  | l :: ls, xs, hl, Q, hp => by
    obtain ⟨y, ys, rfl, h1, h2⟩ := hl
    simp only [capAll, ok_bind, ok_pure] at hp
    obtain ⟨c, hp, hc⟩ := ok_capCp h1 hp
    obtain ⟨cs, hq, hcs⟩ := ok_capAll h2 hp
    exact ⟨_, hq, hc, hcs⟩
theorem Rel.opLs (h : Rel E w0 M K γ σ tm w) {a : Act} (ha : a.tmps = tm) : ∀ {xs : List Operand} {Q : List L → Prop}, (opLs xs).ok σ.d σ.o Q → ∃ ls, Q ls ∧ CellsR E w K σ.o γ ls (xs.map a.eval)
  | [], Q, hp => ⟨[], hp, rfl⟩
  | x :: xs, Q, hp => by
    simp only [En.opLs, ok_bind, ok_pure] at hp
    obtain ⟨l, hp, hl⟩ := h.operL x a ha hp
    obtain ⟨ls, hq, hls⟩ := Rel.opLs h ha hp
    exact ⟨_, hq, _, _, rfl, hl, hls⟩
theorem so_makeFunc (h : Rel E w0 M K γ σ tm w) {a : Act} (ha : a.tmps = tm) {g : FuncId} {first caps : Array Operand} {Q : Re → Prop} (hp : (do chk (first.size.beq 0); let cs ← capAll (← En.opLs caps.toList); re (.fn g cs) : Rd Re).ok σ.d σ.o Q) :
    Gets P E w0 M σ tm w (Instr.makeFunc (.func g) (first.map a.eval) (caps.map a.eval)) Q := by
  simp only [ok_bind, ok_chk] at hp
  obtain ⟨hf, hp⟩ := hp
  obtain ⟨ls, hp, hls⟩ := h.opLs ha hp
  obtain ⟨cs, hq, hcs⟩ := ok_capAll hls hp
  have hf' : first = #[] := Array.size_eq_zero_iff.1 (Nat.eq_of_beq_eq_true hf)
  subst hf'
  refine h.gets (l := .fn g cs) (y := .func (.func g) #[] (caps.map a.eval)) ?_ ⟨caps.map a.eval, rfl, by simpa using hcs⟩ hq
  simp [Instr.makeFunc]

/-! ### builtins -/
theorem so_builtin (h : Rel E w0 M K γ σ tm w) {a : Act} (ha : a.tmps = tm) {C : Ctx0} {dst : Option Tmp} {b : Builtin} {args : Array Operand} {ts : Array TypeId} {ty : TypeId} {consts : Array Bool} {Q : Re → Prop}
    (hp : (builtinF C dst b args.toList ts.toList).ok σ.d σ.o Q) : ∃ y w', (builtin b ts ty consts (args.map a.eval)).run C.P w = .ok (.value y) w' ∧ ∃ r, Q r ∧ Pos E w0 M σ tm r y w' := by
  have v : ∀ {s : Sem Value}, builtin b ts ty consts (args.map a.eval) = (do pure (.value (← s))) → Gets C.P E w0 M σ tm w s Q → ∃ y w', (builtin b ts ty consts (args.map a.eval)).run C.P w = .ok (.value y) w' ∧ ∃ r, Q r ∧ Pos E w0 M σ tm r y w' := by
    rintro s he ⟨y, w', h1, h2⟩
    refine ⟨y, w', ?_, h2⟩
    rw [he]
    simp only [Sem.run_bind, h1, Result.andThen_ok, Sem.run_pure]
  have two : ∀ {x y : Operand}, args.toList = [x, y] → args.map a.eval = #[a.eval x, a.eval y] := by
    intro x y hh
    apply Array.toList_inj.1
    rw [Array.toList_map, hh]; rfl
  unfold builtinF at hp
  split at hp
  · rename_i x hh
    simp only [ok_bind] at hp
    obtain ⟨l, hp, hl⟩ := h.operL x a ha hp
    have hm : args.map a.eval = #[a.eval x] := by
      apply Array.toList_inj.1
      rw [Array.toList_map, hh]; rfl
    refine v (s := Builtin.len_ ts ty (args.map a.eval)) rfl ?_
    rw [hm]
    exact so_len h hl hp
  · rename_i x y hh
    simp only [ok_bind] at hp
    obtain ⟨l, hp, hl⟩ := h.operL x a ha hp
    obtain ⟨k, n, hx, hp⟩ := ok_intL hp hl
    obtain ⟨l2, hp, hl2⟩ := h.operL y a ha hp
    obtain ⟨k2, n2, hy, hp⟩ := ok_intL hp hl2
    refine v (s := Builtin.max_ ts ty (args.map a.eval)) rfl ?_
    rw [two hh, hx, hy]
    exact h.gets (l := .d (.fz true) (.i k) _) (run_max_int2 ..) .i hp
  · rename_i x y hh
    simp only [ok_bind] at hp
    obtain ⟨l, hp, hl⟩ := h.operL x a ha hp
    obtain ⟨k, n, hx, hp⟩ := ok_intL hp hl
    obtain ⟨l2, hp, hl2⟩ := h.operL y a ha hp
    obtain ⟨k2, n2, hy, hp⟩ := ok_intL hp hl2
    refine v (s := Builtin.min_ ts ty (args.map a.eval)) rfl ?_
    rw [two hh, hx, hy]
    exact h.gets (l := .d (.fz true) (.i k) _) (run_min_int2 ..) .i hp
  · rename_i s x hh
    split at hp
    · rename_i t t' hts
      simp only [ok_bind, ok_chk] at hp
      obtain ⟨htt, hp⟩ := hp
      obtain rfl : t = t' := Nat.eq_of_beq_eq_true htt
      obtain ⟨l, hp, hl⟩ := h.operL s a ha hp
      obtain ⟨l2, hp, hl2⟩ := h.operL x a ha hp
      refine v (s := Builtin.append_ ts ty (args.map a.eval)) rfl ?_
      have hts' : ts = #[t, t] := by apply Array.toList_inj.1; rw [hts]
      rw [two hh, hts']
      exact so_append h hl hl2 hp
    · exact hp.elim
  · exact hp.elim
end
end Go.En
end
section
/-
  The engine, part UA: maps: looking up, putting in.
-/
namespace Go.En
open Go

section
variable {E : Ctx0} {w0 w w' : World} {M : Ml} {K : Bool → Nat → Prop} {γ : Gh} {σ : Sg} {tm : Array Value} {P : Program} {sd : Nat → D} {so : Id → Ob}

theorem KV.fn : ∀ {k : Sh} {q : Val k} {x y : Value}, KV k q x → KV k q y → x = y
  | .i _, _, _, _, h, h' => by rw [show _ = _ from h, show _ = _ from h']
  | .b, _, _, _, h, h' => by rw [show _ = _ from h, show _ = _ from h']
  | .s, _, _, _, h, h' => by rw [show _ = _ from h, show _ = _ from h']
  | .p (.i _) (.p (.i _) .u), _, _, _, h, h' => by rw [show _ = _ from h, show _ = _ from h']
  | .v _ (.i _), _, _, _, ⟨n, m, h1, h2⟩, ⟨n', m', h3, h4⟩ => by
    rw [h1] at h3; injection h3 with e1 e2; injection e2 with e2 _; rw [h2, h4, e1, e2]
  | .e, _, _, _, h, _ | .u, _, _, _, h, _ | .l _, _, _, _, h, _ | .r _, _, _, _, h, _ | .o _, _, _, _, h, _ | .n _, _, _, _, h, _ => h.elim
  | .p .b _, _, _, _, h, _ | .p .s _, _, _, _, h, _ | .p .e _, _, _, _, h, _ | .p .u _, _, _, _, h, _ | .p (.p _ _) _, _, _, _, h, _ | .p (.l _) _, _, _, _, h, _ | .p (.v _ _) _, _, _, _, h, _ | .p (.r _) _, _, _, _, h, _ | .p (.o _) _, _, _, _, h, _ | .p (.n _) _, _, _, _, h, _ => h.elim
  | .p (.i _) (.i _), _, _, _, h, _ | .p (.i _) .b, _, _, _, h, _ | .p (.i _) .s, _, _, _, h, _ | .p (.i _) .e, _, _, _, h, _ | .p (.i _) .u, _, _, _, h, _ | .p (.i _) (.l _), _, _, _, h, _ | .p (.i _) (.v _ _), _, _, _, h, _ | .p (.i _) (.r _), _, _, _, h, _ | .p (.i _) (.o _), _, _, _, h, _ | .p (.i _) (.n _), _, _, _, h, _ => h.elim
  | .p (.i _) (.p .b _), _, _, _, h, _ | .p (.i _) (.p .s _), _, _, _, h, _ | .p (.i _) (.p .e _), _, _, _, h, _ | .p (.i _) (.p .u _), _, _, _, h, _ | .p (.i _) (.p (.p _ _) _), _, _, _, h, _ | .p (.i _) (.p (.l _) _), _, _, _, h, _ | .p (.i _) (.p (.v _ _) _), _, _, _, h, _ | .p (.i _) (.p (.r _) _), _, _, _, h, _ | .p (.i _) (.p (.o _) _), _, _, _, h, _ | .p (.i _) (.p (.n _) _), _, _, _, h, _ => h.elim
  | .p (.i _) (.p (.i _) (.i _)), _, _, _, h, _ | .p (.i _) (.p (.i _) .b), _, _, _, h, _ | .p (.i _) (.p (.i _) .s), _, _, _, h, _ | .p (.i _) (.p (.i _) .e), _, _, _, h, _ | .p (.i _) (.p (.i _) (.p _ _)), _, _, _, h, _ | .p (.i _) (.p (.i _) (.l _)), _, _, _, h, _ | .p (.i _) (.p (.i _) (.v _ _)), _, _, _, h, _ | .p (.i _) (.p (.i _) (.r _)), _, _, _, h, _ | .p (.i _) (.p (.i _) (.o _)), _, _, _, h, _ | .p (.i _) (.p (.i _) (.n _)), _, _, _, h, _ => h.elim
  | .v _ .b, _, _, _, h, _ | .v _ .s, _, _, _, h, _ | .v _ .e, _, _, _, h, _ | .v _ .u, _, _, _, h, _ | .v _ (.p _ _), _, _, _, h, _ | .v _ (.l _), _, _, _, h, _ | .v _ (.v _ _), _, _, _, h, _ | .v _ (.r _), _, _, _, h, _ | .v _ (.o _), _, _, _, h, _ | .v _ (.n _), _, _, _, h, _ => h.elim

/-- the shapes that are keys -/
inductive KSh : Sh → Prop where
  | i (a : IntKind) : KSh (.i a)
  | b : KSh .b
  | s : KSh .s
  | p (a c : IntKind) : KSh (.p (.i a) (.p (.i c) .u))
  | v (a : IntKind) : KSh (.v 2 (.i a))
theorem keyKind_sh {kt : TypeId} {k : Sh} (h : keyKind P kt k = true) : KSh k := by
  unfold keyKind at h
  split at h
  · exact .i _
  · exact .b
  · exact .s
  · exact .p _ _
  · rename_i m a
    split at h
    · simp only [Bool.and_eq_true] at h
      obtain rfl : m = 2 := Nat.eq_of_beq_eq_true h.1.1.1
      exact .v _
    · cases h
  · cases h
theorem scal_sh {k : Sh} (h : scal k = true) : KSh k := by
  cases k <;> first | exact .i _ | exact .b | exact .s | cases h

/-- a key that was packed, in the machine -/
theorem kv_one {Kf : Nat → Prop} {k : Sh} (hk : KSh k) (hs : scal k = true) {v : Val k} {x : Value} (h : Ro E w Kf k v [x]) : KV k v x := by
  cases hk with
  | i a => have := Ro.inv_i h; injection this
  | b => have := Ro.inv_b h; injection this
  | s => have := Ro.inv_s h; injection this
  | p a c => cases hs
  | v a => cases hs
theorem kv_agg {Kf : Nat → Prop} {k : Sh} (hk : KSh k) (hs : scal k = false) {v : Val k} {cs : Array Value} (h : Ro E w Kf k v cs.toList) : KV k v (.agg cs) := by
  cases hk with
  | i a => cases hs
  | b => cases hs
  | s => cases hs
  | p a c =>
    obtain ⟨xs, ys, h1, h2, h3⟩ := Ro.inv_p h
    obtain ⟨us, zs, h4, h5, h6⟩ := Ro.inv_p h3
    rw [Ro.inv_i h2] at h1
    rw [Ro.inv_i h5, Ro.inv_u h6] at h4
    rw [h4] at h1
    show Value.agg cs = .agg #[.int a v.1, .int c v.2.1]
    congr 1
    exact Array.toList_inj.1 h1
  | v a =>
    obtain ⟨h1, h2⟩ := Ro.inv_v h
    match v, h1, h2 with
    | [n, m], _, h2 =>
      have e0 := Ro.inv_i (h2 0 (by simp))
      have e1 := Ro.inv_i (h2 1 (by simp))
      have hl := h.length
      simp only [Sh.sz, Nat.zero_mul, Nat.one_mul, Nat.mul_one, List.drop_zero] at e0 e1 hl
      refine ⟨n, m, rfl, ?_⟩
      congr 1
      apply Array.toList_inj.1
      match hcs : cs.toList, hl with
      | [x, y], _ =>
        rw [hcs] at e0 e1
        simp only [List.take_succ_cons, List.take_zero, List.drop_succ_cons, List.drop_zero, List.cons.injEq, and_true, List.getElem_cons_zero, List.getElem_cons_succ] at e0 e1
        rw [e0, e1]

theorem run_plain {t : TypeId} {a : IntKind} (h : intT P t a = true) : P.underlying t = some (.int a) ∧ aggSz P t = some none := by
  unfold intT at h
  rw [Bool.and_eq_true] at h
  obtain ⟨h1, h2⟩ := h
  constructor
  · split at h1
    · rename_i c hu; rw [hu, ikEq_eq h1]
    · cases h1
  · split at h2
    · rename_i hu; exact hu
    · cases h2
theorem run_part1 {t : TypeId} (h : aggSz P t = some none) {cs : Array Value} {off : Nat} {x : Value} (hx : cs[off]? = some x) (w : World) : (part t cs off).run P w = .ok x w := by
  unfold part
  simp only [Sem.run_bind, aggSz_none h w, Result.andThen_ok]
  simp only [Bool.false_eq_true, if_false, hx]
  rfl

structure PairT (P : Program) (kt : TypeId) (a c : IntKind) where
  f : Go.Field
  g : Go.Field
  u : P.underlying kt = some (.struct #[f, g])
  fa : intT P f.type a = true
  gc : intT P g.type c = true
  o0 : f.offset = 0
  o1 : g.offset = 1
  n0 : f.name ≠ "_"
  n1 : g.name ≠ "_"
  sh : P.stoodInHeld kt = false
theorem pairT {kt : TypeId} {a c : IntKind} (h : keyKind P kt (.p (.i a) (.p (.i c) .u)) = true) : Nonempty (PairT P kt a c) := by
  simp only [keyKind] at h
  split at h
  · rename_i fs hu
    split at h
    · rename_i f g hf
      simp only [Bool.and_eq_true, bne_iff_ne, ne_eq, Bool.not_eq_true', Bool.not_eq_eq_eq_not, Bool.not_true] at h
      obtain ⟨⟨⟨⟨⟨⟨h1, h2⟩, h3⟩, h4⟩, h5⟩, h6⟩, h7⟩ := h
      exact ⟨⟨f, g, by rw [hu]; congr 2; exact Array.toList_inj.1 hf, h1, h2, Nat.eq_of_beq_eq_true h3, Nat.eq_of_beq_eq_true h4, h5, h6, h7⟩⟩
    · cases h
  · cases h
theorem arrT {kt : TypeId} {a : IntKind} (h : keyKind P kt (.v 2 (.i a)) = true) : ∃ e, P.underlying kt = some (.array 2 e) ∧ intT P e a = true ∧ szOf P e = some 1 := by
  simp only [keyKind] at h
  split at h
  · rename_i n e hu
    simp only [Bool.and_eq_true] at h
    obtain ⟨⟨⟨_, h1⟩, h2⟩, h3⟩ := h
    refine ⟨e, by rw [hu, Nat.eq_of_beq_eq_true h1], h2, ?_⟩
    split at h3
    · rename_i z hz; rw [hz, Nat.eq_of_beq_eq_true h3]
    · cases h3
  · cases h

theorem eq_int {t : TypeId} {a : IntKind} (h : P.underlying t = some (.int a)) (x y : Int) (n : Nat) (w : World) : (Op.equalIn (n + 1) t (.int a x) (.int a y)).run P w = .ok (x == y) w := by
  simp [Op.equalIn, run_underlying h]

theorem eqIn_pair {kt : TypeId} {a c : IntKind} (h : PairT P kt a c) (n m x y : Int) (d : Nat) (w : World) :
    (Op.equalIn (d + 2) kt (.agg #[.int a n, .int c m]) (.agg #[.int a x, .int c y])).run P w = .ok ((n == x) && (m == y)) w := by
  obtain ⟨f, g, u, fa, gc, o0, o1, n0, n1, sh⟩ := h
  obtain ⟨fa1, fa2⟩ := run_plain fa
  obtain ⟨gc1, gc2⟩ := run_plain gc
  have p1 : ∀ (x y : Value), (part f.type #[x, y] f.offset).run P w = .ok x w := fun x y => run_part1 fa2 (by rw [o0]; rfl) w
  have p2 : ∀ (x y : Value), (part g.type #[x, y] g.offset).run P w = .ok y w := fun x y => run_part1 gc2 (by rw [o1]; rfl) w
  rw [Op.equalIn]
  simp only [Sem.run_bind, run_underlying u, Result.andThen_ok]
  by_cases e : n = x <;> by_cases e' : m = y <;> simp [run_program, sh, n0, n1, p1, p2, eq_int fa1, eq_int gc1, e, e', Sem.run_bind]

theorem eqIn_arr {kt e : TypeId} {a : IntKind} (u : P.underlying kt = some (.array 2 e)) (he : intT P e a = true) (hz : szOf P e = some 1) (n m x y : Int) (d : Nat) (w : World) :
    (Op.equalIn (d + 2) kt (.agg #[.int a n, .int a m]) (.agg #[.int a x, .int a y])).run P w = .ok ((n == x) && (m == y)) w := by
  obtain ⟨e1, e2⟩ := run_plain he
  have p1 : ∀ (x y : Value), (part e #[x, y] 0).run P w = .ok x w := fun x y => run_part1 e2 rfl w
  have p2 : ∀ (x y : Value), (part e #[x, y] 1).run P w = .ok y w := fun x y => run_part1 e2 rfl w
  rw [Op.equalIn]
  simp only [Sem.run_bind, run_underlying u, Result.andThen_ok, szOf_run hz]
  simp only [Std.Legacy.Range.forIn_eq_forIn_range', Std.Legacy.Range.size, Nat.sub_zero, Nat.add_one_sub_one, Nat.div_one, List.range']
  by_cases h : n = x <;> by_cases h' : m = y <;> simp [p1, p2, eq_int e1, h, h', Sem.run_bind]

theorem check_pair {kt : TypeId} {a c : IntKind} (h : PairT P kt a c) (em : Bool) (n m : Int) (d : Nat) (w : World) : (Instr.checkKey em (d + 2) kt (.agg #[.int a n, .int c m])).run P w = .ok () w := by
  obtain ⟨f, g, u, fa, gc, o0, o1, n0, n1, sh⟩ := h
  obtain ⟨fa1, fa2⟩ := run_plain fa
  obtain ⟨gc1, gc2⟩ := run_plain gc
  have p1 : ∀ (x y : Value), (part f.type #[x, y] f.offset).run P w = .ok x w := fun x y => run_part1 fa2 (by rw [o0]; rfl) w
  have p2 : ∀ (x y : Value), (part g.type #[x, y] g.offset).run P w = .ok y w := fun x y => run_part1 gc2 (by rw [o1]; rfl) w
  have c1 : ∀ x, (Instr.checkKey em (d + 1) f.type (.int a x)).run P w = .ok () w := fun x => MapKept.run_checkKey fa1 (by exact rfl) em d
  have c2 : ∀ x, (Instr.checkKey em (d + 1) g.type (.int c x)).run P w = .ok () w := fun x => MapKept.run_checkKey gc1 (by exact rfl) em d
  rw [Instr.checkKey]
  simp [run_underlying u, n0, n1, p1, p2, c1, c2, Sem.run_bind]
theorem check_arr {kt e : TypeId} {a : IntKind} (u : P.underlying kt = some (.array 2 e)) (he : intT P e a = true) (hz : szOf P e = some 1) (em : Bool) (n m : Int) (d : Nat) (w : World) : (Instr.checkKey em (d + 2) kt (.agg #[.int a n, .int a m])).run P w = .ok () w := by
  obtain ⟨e1, e2⟩ := run_plain he
  have p1 : ∀ (x y : Value), (part e #[x, y] 0).run P w = .ok x w := fun x y => run_part1 e2 rfl w
  have p2 : ∀ (x y : Value), (part e #[x, y] 1).run P w = .ok y w := fun x y => run_part1 e2 rfl w
  have c1 : ∀ x, (Instr.checkKey em (d + 1) e (.int a x)).run P w = .ok () w := fun x => MapKept.run_checkKey e1 (by exact rfl) em d
  rw [Instr.checkKey]
  simp only [Sem.run_bind, run_underlying u, Result.andThen_ok]
  simp only [Std.Legacy.Range.forIn_eq_forIn_range', Std.Legacy.Range.size, Nat.sub_zero, Nat.add_one_sub_one, Nat.div_one, List.range']
  simp [p1, p2, c1, szOf_run hz, Sem.run_bind]

theorem key_check {kt : TypeId} {k : Sh} (h : keyKind P kt k = true) {q : Val k} {x : Value} (hx : KV k q x) (em : Bool) (w : World) : (Instr.checkKey em 10000 kt x).run P w = .ok () w := by
  cases keyKind_sh h with
  | i a =>
    simp only [keyKind] at h
    split at h
    · rename_i c hu
      rw [show x = _ from hx]
      exact MapKept.run_checkKey hu (by exact ikEq_eq h) em 9999
    · cases h
  | b =>
    simp only [keyKind] at h
    split at h
    · rename_i hu
      rw [show x = _ from hx]
      exact MapKept.run_checkKey hu (by exact trivial) em 9999
    · cases h
  | s =>
    simp only [keyKind] at h
    split at h
    · rename_i hu
      rw [show x = _ from hx]
      exact MapKept.run_checkKey hu (by exact trivial) em 9999
    · cases h
  | p a c => obtain ⟨hp⟩ := pairT h; rw [show x = _ from hx]; exact check_pair hp em _ _ 9998 w
  | v a => obtain ⟨e, u, he, hz⟩ := arrT h; obtain ⟨n, m, _, h2⟩ := hx; rw [h2]; exact check_arr u he hz em _ _ 9998 w

theorem sameNow_agg (d : TypeDesc) (x : Value) (cs : Array Value) : Instr.sameNow d x (.agg cs) = none := by
  cases d <;> cases x <;> rfl

/-- two keys are told the same by the machine just as their values are -/
theorem key_eq {kt : TypeId} {k : Sh} (h : keyKind P kt k = true) {q u : Val k} {x y : Value} (hx : KV k q x) (hy : KV k u y) :
    (scal k = true ∧ ∃ d, P.underlying kt = some d ∧ Instr.sameNow d x y = some (keyEq k q u)) ∨ (scal k = false ∧ (∀ d, Instr.sameNow d x y = none) ∧ ∀ w, (Op.equal kt x y).run P w = .ok (keyEq k q u) w) := by
  cases keyKind_sh h with
  | i a =>
    simp only [keyKind] at h
    split at h
    · rename_i c hu
      rw [show x = _ from hx, show y = _ from hy]
      exact .inl ⟨rfl, _, hu, by simp [Instr.sameNow, keyEq]⟩
    · cases h
  | b =>
    simp only [keyKind] at h
    split at h
    · rename_i hu
      rw [show x = _ from hx, show y = _ from hy]
      exact .inl ⟨rfl, _, hu, rfl⟩
    · cases h
  | s =>
    simp only [keyKind] at h
    split at h
    · rename_i hu
      rw [show x = _ from hx, show y = _ from hy]
      exact .inl ⟨rfl, _, hu, rfl⟩
    · cases h
  | p a c =>
    obtain ⟨hp⟩ := pairT h
    rw [show x = _ from hx, show y = _ from hy]
    refine .inr ⟨rfl, fun d => sameNow_agg _ _ _, fun w => ?_⟩
    refine (eqIn_pair hp q.1 q.2.1 u.1 u.2.1 9998 w).trans ?_
    simp [keyEq]
  | v a =>
    obtain ⟨e, hu, he, hz⟩ := arrT h
    obtain ⟨n, m, rfl, h2⟩ := hx
    obtain ⟨n', m', rfl, h4⟩ := hy
    rw [h2, h4]
    refine .inr ⟨rfl, fun d => sameNow_agg _ _ _, fun w => ?_⟩
    refine (eqIn_arr hu he hz n m n' m' 9998 w).trans ?_
    simp [keyEq]

theorem keyEq_kv {k : Sh} (hk : KSh k) {q u : Val k} {x y : Value} (hx : KV k q x) (hy : KV k u y) (h : keyEq k q u = true) : x = y := by
  cases hk with
  | i a =>
    rw [show x = _ from hx, show y = _ from hy]
    have : q = u := by simpa [keyEq] using h
    rw [this]
  | b =>
    rw [show x = _ from hx, show y = _ from hy]
    have : q = u := by simpa [keyEq] using h
    rw [this]
  | s =>
    rw [show x = _ from hx, show y = _ from hy]
    have : q = u := (MapKept.bytes_beq _ _).1 h
    rw [this]
  | p a c =>
    rw [show x = _ from hx, show y = _ from hy]
    have : q.1 = u.1 ∧ q.2.1 = u.2.1 := by simpa [keyEq] using h
    rw [this.1, this.2]
  | v a =>
    obtain ⟨n, m, rfl, h2⟩ := hx
    obtain ⟨n', m', rfl, h4⟩ := hy
    have : n = n' ∧ m = m' := by simpa [keyEq] using h
    rw [h2, h4, this.1, this.2]

theorem same_self {k : Sh} (hk : KSh k) {q : Val k} {x : Value} (hx : KV k q x) : Instr.sameBits 10000 x x = true := by
  cases hk with
  | i a => rw [show x = _ from hx]; simp [Instr.sameBits]
  | b => rw [show x = _ from hx]; simp [Instr.sameBits]
  | s => rw [show x = _ from hx]; simp [Instr.sameBits, MapKept.bytes_beq]
  | p a c => rw [show x = _ from hx]; simp [Instr.sameBits]
  | v a => obtain ⟨n, m, _, h2⟩ := hx; rw [h2]; simp [Instr.sameBits]

/-- what is found -/
def Fnd (k a : Sh) (q : Val k) (x : Value) (vs : List (Val k × Val a)) (es : List MapEntry) (i : Nat) (r : Option (Nat × Value)) : Prop :=
  (r = none ∧ mapGet k a q vs = none ∧ ∀ z zx b, KV a z zx → EntR k a (mapSet k a q z vs) (es ++ [⟨x, zx, b⟩])) ∨
  ∃ j e u, r = some (i + j, e.val) ∧ es[j]? = some e ∧ e.key = x ∧ KV a u e.val ∧ mapGet k a q vs = some u ∧
    ∀ z zx, KV a z zx → EntR k a (mapSet k a q z vs) (es.modify j (fun e => { e with key := x, val := zx }))

theorem find_ok {kt : TypeId} {k a : Sh} (h : keyKind P kt k = true) {q : Val k} {x : Value} (hx : KV k q x) : ∀ {vs : List (Val k × Val a)} {es : List MapEntry} (i : Nat), EntR k a vs es →
    ∃ r, Fnd k a q x vs es i r ∧ ((scal k = true ∧ ∃ d, P.underlying kt = some d ∧ Instr.findNow d x es i = some r) ∨ (scal k = false ∧ (∀ w, (Instr.findAsking kt x es i).run P w = .ok r w) ∧ ∀ d, Instr.findNow d x es i = some r ∨ Instr.findNow d x es i = none)) := by
  intro vs
  induction vs with
  | nil =>
    intro es i he
    rw [show es = [] from he]
    refine ⟨none, .inl ⟨rfl, rfl, fun z zx b hz => ⟨_, _, rfl, hx, hz, rfl⟩⟩, ?_⟩
    rcases key_eq h hx hx with ⟨h1, d, h2, _⟩ | ⟨h1, _, _⟩
    · exact .inl ⟨h1, d, h2, rfl⟩
    · exact .inr ⟨h1, fun w => rfl, fun d => .inl rfl⟩
  | cons v vs ih =>
    rintro es i ⟨m, ms, rfl, hk, ha, hr⟩
    have hkk := keyKind_sh h
    cases hc : keyEq k q v.1 with
    | true =>
      have hkey : x = m.key := keyEq_kv hkk hx hk hc
      refine ⟨some (i, m.val), .inr ⟨0, m, v.2, rfl, rfl, hkey.symm, ha, by simp [mapGet, hc], fun z zx hz => ?_⟩, ?_⟩
      · simp only [mapSet, hc, cond_true]
        exact ⟨_, _, rfl, hx, hz, hr⟩
      · rcases key_eq h hx hk with ⟨h1, d, h2, h3⟩ | ⟨h1, h2, h3⟩
        · exact .inl ⟨h1, d, h2, by simp [Instr.findNow, h3, hc]⟩
        · exact .inr ⟨h1, fun w => by simp [Instr.findAsking, h3, hc], fun d => .inr (by simp [Instr.findNow, h2])⟩
    | false =>
      obtain ⟨r, h1, h2⟩ := ih (i + 1) hr
      refine ⟨r, ?_, ?_⟩
      · rcases h1 with ⟨h1, h3, h4⟩ | ⟨j, e, u, h1, h3, h4, h5, h6, h7⟩
        · refine .inl ⟨h1, by simp [mapGet, hc, h3], fun z zx b hz => ?_⟩
          simp only [mapSet, hc, cond_false]
          exact ⟨m, _, rfl, hk, ha, h4 z zx b hz⟩
        · refine .inr ⟨j + 1, e, u, by rw [h1]; congr 2; omega, by simpa using h3, h4, h5, by simp [mapGet, hc, h6], fun z zx hz => ?_⟩
          simp only [mapSet, hc, cond_false, List.modify_succ_cons]
          exact ⟨m, _, rfl, hk, ha, h7 z zx hz⟩
      · rcases key_eq h hx hk with ⟨g1, d, g2, g3⟩ | ⟨g1, g2, g3⟩
        · rcases h2 with ⟨_, d', h3, h4⟩ | ⟨h2, _⟩
          · have : d = d' := Option.some.inj (g2.symm.trans h3)
            subst this
            exact .inl ⟨g1, d, g2, by simp [Instr.findNow, g3, hc, h4]⟩
          · rw [g1] at h2; cases h2
        · rcases h2 with ⟨h2, _⟩ | ⟨_, h3, _⟩
          · rw [g1] at h2; cases h2
          · exact .inr ⟨g1, fun w => by simp [Instr.findAsking, g3, hc, h3], fun d => .inr (by simp [Instr.findNow, g2])⟩

theorem findKey_ok {kt : TypeId} {k a : Sh} (h : keyKind P kt k = true) {q : Val k} {x : Value} (hx : KV k q x) {vs : List (Val k × Val a)} {es : List MapEntry} (he : EntR k a vs es) :
    ∃ r, Fnd k a q x vs es 0 r ∧ ∀ w, (Instr.findKey kt x es).run P w = .ok r w := by
  obtain ⟨r, h1, h2⟩ := find_ok h hx 0 he
  refine ⟨r, h1, fun w => ?_⟩
  rcases h2 with ⟨_, d, h2, h3⟩ | ⟨_, h2, h3⟩
  · exact MapKept.run_findKey h2 h3
  · have hu : ∃ d, P.underlying kt = some d := by
      cases keyKind_sh h with
      | p a c => obtain ⟨hp⟩ := pairT h; exact ⟨_, hp.u⟩
      | v a => obtain ⟨e, hu, _⟩ := arrT h; exact ⟨_, hu⟩
      | i a => simp only [keyKind] at h; split at h; exact ⟨_, by assumption⟩; cases h
      | b => simp only [keyKind] at h; split at h; exact ⟨_, by assumption⟩; cases h
      | s => simp only [keyKind] at h; split at h; exact ⟨_, by assumption⟩; cases h
    obtain ⟨d, hu⟩ := hu
    unfold Instr.findKey
    simp only [Sem.run_bind, run_underlying hu, Result.andThen_ok]
    rcases h3 d with h3 | h3
    · rw [h3]; rfl
    · rw [h3]; exact h2 w

theorem mapC_ok {C : Ctx0} {t : TypeId} {e : TypeId} {k a : Sh} (h : mapC C t = some (e, k, a)) : ∃ kt, C.P.underlying t = some (.map kt e) ∧ keyKind C.P kt k = true ∧ scal a = true ∧ zeroOk C.P e a = true ∧ zone C.P e = true := by
  unfold mapC at h
  split at h
  · rename_i kt e' hu
    split at h
    · rename_i k' a' _ _
      cases hb : (keyKind C.P kt k' && (scal a' && (zeroOk C.P e' a' && zone C.P e'))) with
      | false => rw [hb] at h; cases h
      | true =>
        rw [hb] at h
        simp only [cond_true, Option.some.injEq, Prod.mk.injEq] at h
        obtain ⟨rfl, rfl, rfl⟩ := h
        simp only [Bool.and_eq_true] at hb
        exact ⟨kt, hu, hb.1, hb.2.1, hb.2.2.1, hb.2.2.2⟩
    · cases h
  · cases h
theorem castV_ent {k' a' k a : Sh} {v' : List (Val k' × Val a')} {v : List (Val k × Val a)} (h : castV (a := .l (.p k' a')) (c := .l (.p k a)) v' = some v) {es : List MapEntry} (he : EntR k' a' v' es) : EntR k a v es := by
  obtain ⟨h1, h2⟩ := castV_eq h
  injection h1 with h1
  injection h1 with h1 h3
  subst h1
  subst h3
  rw [← eq_of_heq h2]
  exact he
theorem ok_pkD (h : Rel E w0 M K γ σ tm w) {k : Sh} (hk : KSh k) {d : D} {x : Value} (hd : DR E w K σ.o γ d x) {Q : Val k → Prop} (hp : (pkD k d).ok σ.d σ.o Q) : ∃ v, Q v ∧ KV k v x := by
  unfold pkD at hp
  split at hp
  · rename_i l
    simp only [ok_bind, ok_chk, ok_pure] at hp
    obtain ⟨hs, hp⟩ := hp
    obtain ⟨y, ⟨h1, h2, hq⟩, _, c1, c2, h3, h4, h5⟩ := ok_pk h (LRs.one (show LR E w K σ.o γ l [x] from hd)) hp
    have : c2 = [] := by rw [List.isEmpty_iff.1 h1] at h5; exact h5
    rw [this, List.append_nil] at h3
    rw [← h3] at h4
    exact ⟨y.v, hq, kv_one hk hs h4⟩
  · rename_i ls
    simp only [ok_bind, ok_chk, ok_pure, Bool.not_eq_true'] at hp
    obtain ⟨hs, hp⟩ := hp
    obtain ⟨cs, rfl, hd⟩ : ∃ cs : Array Value, x = .agg cs ∧ LRs E w K σ.o γ ls cs.toList := hd
    obtain ⟨y, ⟨h1, h2, hq⟩, _, c1, c2, h3, h4, h5⟩ := ok_pk h hd hp
    have : c2 = [] := by rw [List.isEmpty_iff.1 h1] at h5; exact h5
    rw [this, List.append_nil] at h3
    rw [← h3] at h4
    exact ⟨y.v, hq, kv_agg hk hs h4⟩
  · exact hp.elim
theorem kv_ro {Kf : Nat → Prop} {a : Sh} (hs : scal a = true) {v : Val a} {x : Value} (h : KV a v x) : Ro E w Kf a v [x] := by
  cases a with
  | i k => rw [show x = _ from h]; exact .i
  | b => rw [show x = _ from h]; exact .b
  | s => rw [show x = _ from h]; exact .s
  | _ => cases hs
theorem zero_kv {C : Ctx0} {e : TypeId} {a : Sh} (hs : scal a = true) (hz : zeroOk C.P e a = true) (h1 : zone C.P e = true) : ∃ z, (∀ w, (zeroValue e).run C.P w = .ok z w) ∧ KV a a.zero z := by
  obtain ⟨i, z, hi, hzz, hr⟩ := zeroOk_ro (E := C) (w := default) (Kf := fun _ => False) hz
  refine ⟨z, fun w => by simp [zeroValue, typeInfo, hi, hzz], ?_⟩
  have hc : z.cells.toList = [z] := by
    unfold zone at h1
    rw [hi] at h1
    simp only [hzz] at h1
    cases z <;> first | rfl | cases h1
  rw [hc] at hr
  exact kv_one (scal_sh hs) hs hr

theorem so_lookup (h : Rel E w0 M K γ σ tm w) {C : Ctx0} {t : TypeId} {l : L} {x : Value} (hl : LR E w K σ.o γ l [x]) {d : D} {y : Value} (hd : DR E w K σ.o γ d y) {c : Bool} {Q : Re → Prop} (hp : (lookupF C t l d c).ok σ.d σ.o Q) :
    Gets C.P E w0 M σ tm w (Instr.lookup t x y c) Q := by
  unfold lookupF at hp
  split at hp
  · rename_i e k a hm
    obtain ⟨kt, hu, hk, hs, hz, hz1⟩ := mapC_ok hm
    simp only [ok_bind] at hp
    replace hp := ok_pkD h (keyKind_sh hk) hd hp
    obtain ⟨q, hp, hq⟩ := hp
    obtain ⟨z, hzr, hzv⟩ := zero_kv hs hz hz1
    have fin : ∀ (r : Option (Val a)) (u : Value) (s : Bool), KV a (r.getD a.zero) u → s = r.isSome → (Instr.lookup t x y c).run C.P w = .ok (if c then .tuple #[u, .bool s] else u) w →
        (lookR a r c).ok σ.d σ.o Q → Gets C.P E w0 M σ tm w (Instr.lookup t x y c) Q := by
      intro r u s hu hs' hr hp
      subst hs'
      cases c with
      | true => exact ⟨_, w, hr, _, hp, h.pos (d := .tup _) ⟨#[u, .bool r.isSome], rfl, u, [.bool r.isSome], rfl, kv_ro hs hu, .bool r.isSome, [], rfl, Ro.b, rfl⟩⟩
      | false => exact ⟨_, w, hr, _, hp, h.posL (l := .d (.fz true) a _) (kv_ro hs hu)⟩
    split at hp
    · rename_i o
      simp only [ok_bind, ok_getO] at hp
      obtain ⟨x', hx, hno, hma⟩ := hl
      injection hx with hx; subst hx
      split at hp
      · rename_i k' a' v' ho
        split at hp
        · rename_i v hcast
          simp only [ok_pure] at hp
          have hob := h.ob o
          rw [ho] at hob
          obtain ⟨b, es, clk, h1, h2, h3, h4⟩ := hob
          have hxx := (hma (by rw [ho]; rfl)).trans h1
          have he := castV_ent hcast h3
          obtain ⟨r, hf, hr⟩ := findKey_ok hk hq he
          rcases hf with ⟨rfl, g1, g2⟩ | ⟨j, e', u, rfl, g1, g2, g3, g4, g5⟩
          · refine fin none z false hzv rfl ?_ (by rw [← g1]; exact hp)
            rw [hxx]
            simp [Instr.lookup, run_underlying hu, MapKept.run_getObj_map h2, key_check hk hq, hr, hzr, Sem.run_bind]
          · refine fin (some u) e'.val true g3 rfl ?_ (by rw [← g4]; exact hp)
            rw [hxx]
            simp [Instr.lookup, run_underlying hu, MapKept.run_getObj_map h2, key_check hk hq, hr, Sem.run_bind]
        · exact hp.elim
      · exact hp.elim
    · have hx : x = .map none := by injection hl
      simp only [ok_pure] at hp
      refine fin none z false hzv rfl ?_ hp
      rw [hx]
      obtain ⟨r, hf, hr⟩ := findKey_ok hk hq (a := a) (vs := []) (es := []) rfl
      rcases hf with ⟨rfl, g1, g2⟩ | ⟨j, e', u, rfl, g1, g2, g3, g4, g5⟩
      · simp [Instr.lookup, run_underlying hu, key_check hk hq, hr, hzr, Sem.run_bind]
      · cases g4
    · exact hp.elim
  · exact hp.elim

theorem so_mapUpdate (h : Rel E w0 M K γ σ tm w) {C : Ctx0} {t : TypeId} {l : L} {x : Value} (hl : LR E w K σ.o γ l [x]) {d d' : D} {y z : Value} (hd : DR E w K σ.o γ d y) (hd' : DR E w K σ.o γ d' z) {Q : Wo → Prop} (hp : (mapUpdateF C t l d d').ok σ.d σ.o Q) :
    GetsW C.P E w0 M σ tm w (Instr.mapUpdate t x y z) Q := by
  unfold mapUpdateF at hp
  split at hp
  · rename_i e k a hm
    obtain ⟨kt, hu, hk, hs, _, _⟩ := mapC_ok hm
    simp only [ok_bind] at hp
    replace hp := ok_pkD h (keyKind_sh hk) hd hp
    obtain ⟨q, hp, hq⟩ := hp
    replace hp := ok_pkD h (scal_sh hs) hd' hp
    obtain ⟨v, hp, hv⟩ := hp
    split at hp
    · rename_i o
      simp only [ok_bind, ok_getO] at hp
      obtain ⟨x', hx, hno, hma⟩ := hl
      injection hx with hx; subst hx
      split at hp
      · rename_i k' a' vs' ho
        split at hp
        · rename_i vs hcast
          have hob := h.ob o
          rw [ho] at hob
          obtain ⟨b, es, clk, h1, h2, h3, h4⟩ := hob
          have hxx := (hma (by rw [ho]; rfl)).trans h1
          have he := castV_ent hcast h3
          have upd : ∀ (es' : Array MapEntry) (clk' : Nat), EntR k a (mapSet k a q v vs) es'.toList → Rel E w0 M K γ (σ.setO o (.ma k a (mapSet k a q v vs))) tm { w with heap := w.heap.setIfInBounds b (.map es' clk') } := by
            intro es' clk' he'
            have hbs : b < w.heap.size := (h.ow o b (by rw [h4]; exact List.mem_singleton.2 rfl)).2.1
            have hvis : Vis γ σ o (.ma k a (mapSet k a q v vs)) (γ.hd o) := .inr ⟨fun q hq => (by cases hq), fun hq => (by cases hq), fun _ => ⟨by rw [ho]; rfl, rfl⟩, fun v hv => (by cases hv), by simp⟩
            have hγ : γ.set o (γ.hd o) (γ.fp o) = γ := by
              unfold Gh.set
              cases γ with | mk hd fp => ?_
              congr 1
              · funext y; by_cases e : y = o <;> simp [e]
              · funext y; by_cases e : y = o <;> simp [e]
            have hother : ∀ b', b' ≠ b → (w.heap.setIfInBounds b (.map es' clk'))[b']? = w.heap[b']? := fun b' hb => by rw [Array.getElem?_setIfInBounds]; rw [if_neg (fun e => hb e.symm)]
            have := h.upd (w' := { w with heap := w.heap.setIfInBounds b (.map es' clk') }) o (F := γ.fp o) (fun b' _ hn _ => hother b' (fun e => hn (by rw [h4, e]; exact List.mem_singleton.2 rfl))) (by simp) rfl rfl rfl
              (fun b' hb' => ⟨.inl hb', by simpa using (h.ow o b' hb').2.1⟩) (h.nd o) hvis ⟨b, es', clk', h1, by simp [hbs], he', h4⟩
            rw [hγ] at this; exact this
          obtain ⟨r, hf, hr⟩ := findKey_ok hk hq he
          rcases hf with ⟨rfl, g1, g2⟩ | ⟨j, e', u, rfl, g1, g2, g3, g4, g5⟩
          · refine ⟨{ w with heap := w.heap.setIfInBounds b (.map (es.push ⟨y, z, clk⟩) (clk + 1)) }, ?_, _, hp, K, γ, upd _ _ (by rw [Array.toList_push]; exact g2 v z clk hv)⟩
            rw [hxx]
            simp [Instr.mapUpdate, run_underlying hu, MapKept.run_getObj_map h2, key_check hk hq, hr, MapKept.run_setObj_map _ h2, Sem.run_bind]
          · refine ⟨{ w with heap := w.heap.setIfInBounds b (.map (es.modify j fun e => { e with key := y, val := z }) clk) }, ?_, _, hp, K, γ, upd _ _ (by rw [Array.toList_modify]; exact g5 v z hv)⟩
            rw [hxx]
            have hj : es[j]? = some e' := by rw [← Array.getElem?_toList]; exact g1
            have hkk : (Instr.keyThatStays y y).run C.P w = .ok y w := by
              unfold Instr.keyThatStays
              rw [same_self (keyKind_sh hk) hq]; rfl
            simp [Instr.mapUpdate, run_underlying hu, MapKept.run_getObj_map h2, key_check hk hq, hr, hj, g2, hkk, MapKept.run_setObj_map _ h2, Sem.run_bind]
        · exact hp.elim
      · exact hp.elim
    · exact hp.elim
  · exact hp.elim

theorem pairK_ok {C : Ctx0} {t : TypeId} {a c : IntKind} (h : pairK C t = some (a, c)) : Nonempty (PairT C.P t a c) := by
  unfold pairK at h
  split at h
  · rename_i a' c' _
    cases hk : keyKind C.P t (.p (.i a') (.p (.i c') .u)) with
    | false => rw [hk] at h; cases h
    | true =>
      rw [hk] at h
      simp only [cond_true, Option.some.injEq, Prod.mk.injEq] at h
      obtain ⟨rfl, rfl⟩ := h
      exact pairT hk
  · cases h
theorem pair_guard {t : TypeId} {a c : IntKind} (h : PairT P t a c) : P.eqGuardType P.depth t = false := by
  obtain ⟨f, g, u, fa, gc, _, _, _, _, _⟩ := h
  have e : P.depth = (2 * (P.types.size + Made.depth)) + 1 + 1 := rfl
  rw [e]
  generalize 2 * (P.types.size + Made.depth) = d at e
  have gg : ∀ (t : TypeId) (k : IntKind), P.underlying t = some (.int k) → P.eqGuardType (d + 1) t = false := fun t k h => by rw [Program.eqGuardType, h]
  first | rw [e, Program.eqGuardType, u] | rw [Program.eqGuardType, u]
  simp [gg _ _ (run_plain fa).1, gg _ _ (run_plain gc).1]
theorem so_pairEq (h : Rel E w0 M K γ σ tm w) {C : Ctx0} {op : BinOp} {t : TypeId} {a c : IntKind} (hk : pairK C t = some (a, c)) {x y : Operand} {xv yv : Value} {d d' : D} (hd : DR E w K σ.o γ d xv) (hd' : DR E w K σ.o γ d' yv) {Q : Re → Prop}
    (hp : (do
      let u ← pkD (.p (.i a) (.p (.i c) .u)) d
      let v ← pkD (.p (.i a) (.p (.i c) .u)) d'
      eqOp op (keyEq (.p (.i a) (.p (.i c) .u)) u v) : Rd Re).ok σ.d σ.o Q) : Gets C.P E w0 M σ tm w (do eqGuard op t x y xv yv; binOp op t xv yv) Q := by
  obtain ⟨hP⟩ := pairK_ok hk
  simp only [ok_bind] at hp
  replace hp := ok_pkD h (.p a c) hd hp
  obtain ⟨u, hp, hu⟩ := hp
  replace hp := ok_pkD h (.p a c) hd' hp
  obtain ⟨v, hp, hv⟩ := hp
  rw [show xv = _ from hu, show yv = _ from hv]
  have he : ∀ w, (Op.equalIn 10000 t (.agg #[.int a u.1, .int c u.2.1]) (.agg #[.int a v.1, .int c v.2.1])).run C.P w = .ok ((u.1 == v.1) && (u.2.1 == v.2.1)) w := fun w => eqIn_pair hP _ _ _ _ 9998 w
  have hkey : keyEq (.p (.i a) (.p (.i c) .u)) u v = ((u.1 == v.1) && (u.2.1 == v.2.1)) := by simp [keyEq]
  unfold eqOp at hp
  split at hp
  · refine h.getsB ?_ hp
    simp only [Sem.run_bind, run_eqGuard_agg _ _ _ _ _ _ _ (pair_guard hP), Result.andThen_ok, run_eql_struct, he, hkey]
  · refine h.getsB ?_ hp
    simp only [Sem.run_bind, run_eqGuard_agg _ _ _ _ _ _ _ (pair_guard hP), Result.andThen_ok, run_neq_struct, he, hkey]
  · exact hp.elim
end
end Go.En
end
section
/-
  The engine, part V: all operations but calls.
-/
namespace Go.En
open Go

section
variable {E : Ctx0} {w0 w w' : World} {M : Ml} {K : Bool → Nat → Prop} {γ : Gh} {σ : Sg} {tm : Array Value} {P : Program} {sd : Nat → D} {so : Id → Ob}

theorem Rel.optI (h : Rel E w0 M K γ σ tm w) {a : Act} (ha : a.tmps = tm) {x : Option Operand} {Q : Option Int → Prop} (hp : (optI x).ok σ.d σ.o Q) : ∃ v, Q v ∧ HiR (x.map a.eval) v := by
  cases x with
  | none => exact ⟨none, hp, .inl ⟨rfl, rfl⟩⟩
  | some x =>
    simp only [En.optI, ok_bind, ok_pure] at hp
    obtain ⟨k, n, hq, hx⟩ := h.operI x a ha hp
    exact ⟨_, hq, .inr ⟨k, n, by simp [hx], rfl⟩⟩
theorem HiR.lo {x : Option Value} {v : Option Int} (h : HiR x v) : LoR x (v.getD 0) := by
  rcases h with ⟨rfl, rfl⟩ | ⟨k, n, rfl, rfl⟩
  · exact .inl ⟨rfl, rfl⟩
  · exact .inr ⟨k, rfl⟩

theorem op_sound {a : Act} (h : Rel E w0 M K γ σ a.tmps w) (o : Oper) {Q : Re → Prop} (hp : (opF E o).ok σ.d σ.o Q) : Does E.P E w0 M σ a w o Q := by
  have v : ∀ {s : Sem Value}, execOp a.eval o = (do pure (.value (← s))) → Gets E.P E w0 M σ a.tmps w s Q → Does E.P E w0 M σ a w o Q := by
    rintro s he ⟨y, w', h1, r, h2, h3⟩
    refine ⟨y, w', .inl ?_, r, h2, h3⟩
    unfold RunV
    rw [he]
    simp only [Sem.run_bind, h1, Result.andThen_ok, Sem.run_pure]
  have u : ∀ {s : Sem Unit}, execOp a.eval o = (do s; pure .skip) → GetsW E.P E w0 M σ a.tmps w s (fun ws => Q (one .ud, ws)) → Does E.P E w0 M σ a w o Q := by
    rintro s he ⟨w', h1, ws, h2, K, γ, h3⟩
    refine ⟨undef, w', .inr ⟨?_, rfl⟩, _, h2, K, γ, h3, rfl⟩
    rw [he]
    simp only [Sem.run_bind, h1, Result.andThen_ok, Sem.run_pure]
  have val : ∀ {x : Operand} {Q' : D → Prop}, execOp a.eval o = pure (.value (a.eval x)) → (opD x).ok σ.d σ.o Q' → (∀ d, Q' d → Q (d, [])) → Does E.P E w0 M σ a w o Q := by
    intro x Q' he hp hq
    obtain ⟨d, h1, h2⟩ := h.oper x a rfl hp
    refine ⟨a.eval x, w, .inl ?_, _, hq d h1, h.pos h2⟩
    unfold RunV
    rw [he]; rfl
  unfold opF at hp
  split at hp
  · rename_i x ho
    simp only [ok_bind, ok_pure] at hp
    exact val (by unfold execOp; rw [ho]) hp (fun _ h => h)
  · rename_i x ho
    simp only [ok_bind, ok_pure] at hp
    exact val (by unfold execOp; rw [ho]) hp (fun _ h => h)
  · rename_i c x y ho
    simp only [ok_bind] at hp
    obtain ⟨l, hp, hl⟩ := h.operL c a rfl hp
    have pk : ∀ b : Bool, a.eval c = .bool b → (opD (if b then x else y)).ok σ.d σ.o (fun d => Q (d, [])) → Does E.P E w0 M σ a w o Q := by
      intro b hb hp
      refine val (x := if b then x else y) ?_ hp (fun _ h => h)
      unfold execOp
      rw [ho]
      simp only [hb, asBool]
      cases b <;> rfl
    split at hp
    · have : a.eval c = .bool true := by injection hl
      simp only [ok_bind, ok_pure] at hp
      exact pk true this hp
    · have : a.eval c = .bool false := by injection hl
      simp only [ok_bind, ok_pure] at hp
      exact pk false this hp
    · rename_i f cc
      have hl' : Ro E w (K f) .b cc [a.eval c] := hl
      have hx := Ro.inv_b hl'
      injection hx with hx
      simp only [ok_br, ok_bind, ok_pure] at hp
      rcases hp with ⟨rfl, hp⟩ | ⟨rfl, hp⟩
      · exact pk true hx hp
      · exact pk false hx hp
    · exact hp.elim
  · rename_i t ho
    split at hp
    · rename_i ls hz
      exact v (by unfold execOp; rw [ho]) (so_alloc h hz hp)
    · exact hp.elim
  · rename_i t x ho
    split at hp
    · rename_i n hn
      simp only [ok_bind, ok_chk] at hp
      obtain ⟨d, ⟨_, hno, hp⟩, hd⟩ := h.oper x a rfl hp
      exact v (by unfold execOp; rw [ho]) (so_box h (dst := o.dst) hd hno (by simpa only [ok_bind, ok_pure] using hp))
    · exact hp.elim
  · rename_i t parts ho
    simp only [ok_bind] at hp
    obtain ⟨ds, hp, hds⟩ := ok_partsD h a rfl parts.toList hp
    exact v (by unfold execOp; rw [ho]) (so_build h (by simpa using hds) hp)
  · rename_i t n parts ho
    simp only [ok_bind] at hp
    obtain ⟨ds, hp, hds⟩ := ok_partsD h a rfl parts.toList hp
    exact v (by unfold execOp; rw [ho]) (so_buildSlice h (by simpa using hds) hp)
  · rename_i t x ho
    split at hp
    · rename_i m hm
      simp only [ok_bind] at hp
      obtain ⟨l, hp, hl⟩ := h.operL x a rfl hp
      exact v (by unfold execOp; rw [ho]) (so_loadA h hm hl hp)
    · exact hp.elim
  · rename_i t ad x ho
    split at hp
    · rename_i m hm
      simp only [ok_bind, ok_pure] at hp
      obtain ⟨l, hp, hl⟩ := h.operL ad a rfl hp
      obtain ⟨d, hp, hd⟩ := h.oper x a rfl hp
      exact u (by unfold execOp; rw [ho]) (so_store h hm hl hd hp)
    · exact hp.elim
  · rename_i x ho
    simp only [ok_bind] at hp
    obtain ⟨l, hp, hl⟩ := h.operL x a rfl hp
    exact so_nilChk h rfl ho hl hp
  · rename_i op t x y t2 ho
    split at hp
    · rename_i k1 k2 hk
      simp only [ok_bind] at hp
      obtain ⟨d, hp, hd⟩ := h.oper x a rfl hp
      obtain ⟨d', hp, hd'⟩ := h.oper y a rfl hp
      exact v (by unfold execOp; rw [ho]) (so_pairEq h hk hd hd' (by simpa only [ok_bind] using hp))
    · exact v (by unfold execOp; rw [ho]) (so_binO h rfl hp)
  · rename_i op t x ho
    simp only [ok_bind] at hp
    obtain ⟨l, hp, hl⟩ := h.operL x a rfl hp
    exact v (by unfold execOp; rw [ho]) (so_un h hl hp)
  · rename_i src dst x ho
    simp only [ok_bind] at hp
    obtain ⟨l, hp, hl⟩ := h.operL x a rfl hp
    exact v (by unfold execOp; rw [ho]) (so_convert h hl hp)
  · rename_i t x ho
    simp only [ok_bind] at hp
    obtain ⟨l, hp, hl⟩ := h.operL x a rfl hp
    exact v (by unfold execOp; rw [ho]) (so_iface h hl hp)
  · rename_i g first caps ho
    exact v (by unfold execOp; rw [ho]) (so_makeFunc h rfl hp)
  · rename_i t ho
    exact v (by unfold execOp; rw [ho]; rfl) (so_makeMap h hp)
  · rename_i t x k c ho
    simp only [ok_bind] at hp
    obtain ⟨l, hp, hl⟩ := h.operL x a rfl hp
    obtain ⟨q, hp, hq⟩ := h.oper k a rfl hp
    exact v (by unfold execOp; rw [ho]) (so_lookup h hl hq hp)
  · rename_i t m k z ho
    simp only [ok_bind, ok_pure] at hp
    obtain ⟨l, hp, hl⟩ := h.operL m a rfl hp
    obtain ⟨q, hp, hq⟩ := h.oper k a rfl hp
    obtain ⟨d, hp, hd⟩ := h.oper z a rfl hp
    exact u (by unfold execOp; rw [ho]) (so_mapUpdate h hl hq hd hp)
  · rename_i t len cap ho
    simp only [ok_bind] at hp
    obtain ⟨k, n, hp, hn⟩ := h.operI len a rfl hp
    obtain ⟨k2, c, hp, hc⟩ := h.operI cap a rfl hp
    refine v (s := Instr.makeSlice t (a.eval len) (a.eval cap)) (by unfold execOp; rw [ho]) ?_
    rw [hn, hc]
    exact so_makeSlice h hp
  · rename_i t x lo hi ho
    simp only [ok_bind] at hp
    obtain ⟨lv, hp, hlo⟩ := h.optI rfl hp
    obtain ⟨hv, hp, hhi⟩ := h.optI rfl hp
    obtain ⟨l, hp, hl⟩ := h.operL x a rfl hp
    exact v (by unfold execOp; rw [ho]; rfl) (so_slice h hl hlo.lo hhi hp)
  · rename_i t x f ho
    split at hp
    · rename_i off hoff
      simp only [ok_bind] at hp
      obtain ⟨l, hp, hl⟩ := h.operL x a rfl hp
      exact v (by unfold execOp; rw [ho]) (so_fieldAddr h hoff hl hp)
    · exact hp.elim
  · rename_i t x f ho
    simp only [ok_bind] at hp
    obtain ⟨d, hp, hd⟩ := h.oper x a rfl hp
    exact v (by unfold execOp; rw [ho]) (so_field h hd hp)
  · rename_i t x ix ho
    simp only [ok_bind] at hp
    obtain ⟨k, i, hp, hi⟩ := h.operI ix a rfl hp
    obtain ⟨l, hp, hl⟩ := h.operL x a rfl hp
    refine v (s := Instr.indexAt t (a.eval x) (a.eval ix)) (by unfold execOp; rw [ho]) ?_
    rw [hi]
    unfold indexAddrO at hp
    split at hp
    · rename_i e hu
      split at hp
      · rename_i z hz
        exact so_indexAddr h hu hz hl hp
      · exact hp.elim
    · rename_i q e hu
      split at hp
      · rename_i z hz
        exact so_indexArr h hu hz hl hp
      · exact hp.elim
    · exact hp.elim
  · rename_i t x ix ho
    simp only [ok_bind] at hp
    obtain ⟨k, i, hp, hi⟩ := h.operI ix a rfl hp
    obtain ⟨d, hp, hd⟩ := h.oper x a rfl hp
    refine v (s := Instr.index t (a.eval x) (a.eval ix)) (by unfold execOp; rw [ho]) ?_
    rw [hi]
    exact so_index h hd hp
  · rename_i t ix ho
    simp only [ok_bind] at hp
    obtain ⟨d, hp, hd⟩ := h.oper t a rfl hp
    exact v (by unfold execOp; rw [ho]) (so_extract h hd hp)
  · rename_i c ho
    split at hp
    · rename_i b hb
      obtain ⟨y, w', h1, r, h2, h3⟩ := so_builtin h rfl (C := E) (dst := o.dst) (b := b) (args := c.args) (ts := c.argTypes) (ty := o.type) (consts := c.args.map fun | .const _ => true | _ => false) hp
      refine ⟨y, w', .inl ?_, r, h2, h3⟩
      unfold RunV execOp
      rw [ho]
      simp only [resolve, hb, Sem.run_bind, Sem.run_pure, Result.andThen_ok, invoke]
      exact h1
    · exact hp.elim
  · exact hp.elim
end
end Go.En
end
