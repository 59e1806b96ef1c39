/-
  Seat 18: DraKeeps returns true.
-/
import Derived.Test.YtfkmnklnnccopaaDoorS18GB
import Derived.Test.YtfkmnklnnccopaaDoorS18ZG
import Derived.Test.YtfkmnklnnccopaaDoorS18MA
open Go Go.En
namespace Go.S18
theorem ctx21 : CtxOk C21 := fun _ _ h => tbl_ok (l := l21) ⟨alive_ok, far_ok, of_ok, check_ok, right_ok, accepts_ok, word_ok, trim_ok, same_ok, to_ok, trivial⟩ h
theorem drG_trim {nx : List (List Int)} {ps : List PairV} {i : Int} {o : List Int} (hf : Fit nx ps) (ho : TrimOk nx i o) : drG (rowsO nx o o.length) (keepR o ps) = true := by
  obtain ⟨h1, h2, h3, h4⟩ := trim_small hf ho
  have lift : ∀ n, m6 n = true → big n = true := fun n h => big6 (of_ble h)
  unfold drG
  rw [lift _ h1, lift _ h3, List.all_eq_true.2 fun l hl => lift _ (List.all_eq_true.1 h2 l hl), List.all_eq_true.2 fun q hq => by
    have := List.all_eq_true.1 h4 q hq
    rw [Bool.and_eq_true] at this
    rw [lift _ this.1, lift _ this.2]; rfl]; rfl
theorem keeps_T {p i : Int} {nx : List (List Int)} {ps : List PairV} {s l : List Int} (hw : ps.all pairW = true) (us : u8 s = true) (ul : u8 l = true) : f7M 1 p i nx ps s l = some ⟨[pB true], [], []⟩ := by
  unfold f7M f7T
  cases hf : farF nx ps with
  | true => rfl
  | false =>
    obtain ⟨n1, n2, n3⟩ := near hf
    have hdr := drG_of n1 (by omega) n3 hw
    rw [hdr]
    cases hd : drOk p i nx ps with
    | false => rfl
    | true =>
      obtain ⟨hA, hp, _, hi⟩ := aut_of hd
      obtain ⟨hfit, _⟩ := fit_of hd
      obtain ⟨o, ho⟩ := trim_all hfit hi
      obtain ⟨s8, sin⟩ := letters_in (z := p) us
      obtain ⟨l0, l8, lin⟩ := loop_in (z := p) ul
      rw [us, ul, decide_eq_true hp.1, decide_eq_true hp.2, ofG_of n1 (by omega) n3 hw]
      generalize lettersF p s = S at s8 sin ⊢
      generalize loopF p l = L at l0 l8 lin ⊢
      have hd2 := trim_ok2 hd ho
      have hdr2 := drG_trim hfit ho
      have hw2 : wdOk p S L = true := wd_ok l0 (by omega) sin lin
      have hs1 : seenOk p i nx ps S L = true := by unfold seenOk; rw [hd, hw2]; rfl
      have hs2 : seenOk p 0 (rowsO nx o o.length) (keepR o ps) S L = true := by unfold seenOk; rw [hd2, hw2]; rfl
      have hacc := accept_trim hA ho hi lin l0 sin ps
      have m1 : m6 S.length = true := ble_of (by omega)
      have m2 : m6 L.length = true := ble_of (by omega)
      obtain ⟨_, _, h3, _⟩ := trim_small hfit ho
      have hle : decide (zn (rowsO nx o o.length).length ≤ zn nx.length) = true := decide_eq_true (by rw [rows_len]; have := ho.le; show ((o.length : Nat) : Int) ≤ ((nx.length : Nat) : Int); omega)
      have key : f7L1 1 1 Er.nil Er.nil p i nx ps p 0 (rowsO nx o o.length) (keepR o ps) p 0 (rowsO nx o o.length) (keepR o ps) S L = some ⟨[pB true], [], []⟩ := by
        show f7S1 (f7L1 1 0) Er.nil Er.nil p i nx ps p 0 (rowsO nx o o.length) (keepR o ps) p 0 (rowsO nx o o.length) (keepR o ps) S L = _
        unfold f7S1
        rw [ofG_of n1 (by omega) n3 hw, hdr, hdr2, m1, m2, hs1, hs2, hacc, hd2, hle, h3, trim_same hfit ho]
        simp [er1, Er.isNil, pB]
      show f7S0 (f7L1 1 1) (f7L0 1 0) Er.nil p i nx ps p 0 (trimO i nx).2 (keepP (trimO i nx).1 ps) S L = _
      rw [ho.eq]
      simp only []
      rw [keep_ref hfit ho.nd]
      unfold f7S0
      rw [hdr2, hd2]
      simp only [cond_true]
      rw [ho.again]
      simp only []
      rw [keep_again]
      exact key
def keepsS : En.Spec := ⟨[], fun ds os => match ds, os with
  | [.p (.agg [.d (.fz true) (.i .i64) _p, .d (.fz true) (.i .i64) _i, .d (.fz false) (.l (.l (.i .i64))) _nx, .d (.fz false) (.l (.p (.l (.i .i64)) (.p (.l (.i .i64)) .u))) ps]), .p (.one (.d (.fz false) (.l (.i .u8)) s)), .p (.one (.d (.fz false) (.l (.i .u8)) l))], [] =>
    .br (ps.all pairW && (u8 s && u8 l)) (.leaf [pB true] [] []) .fail
  | _, _ => .fail⟩
theorem keeps_ok : FnOk P C0 7 keepsS := by
  refine fn_okC ctx21 (show P.funcs[7]? = some f7f by kernel_rfl) (of_decide_eq_true (by kernel_rfl)) keepsS f7h (fun ds os lf hp => ?_)
  unfold keepsS at hp
  simp only at hp
  split at hp
  · rename_i p i nx ps s l
    simp only [Out.pick] at hp
    cases hc : (ps.all pairW && (u8 s && u8 l)) with
    | false => rw [hc] at hp; cases hp
    | true =>
      rw [hc] at hp
      simp only [cond_true, Option.some.injEq] at hp
      subst hp
      rw [Bool.and_eq_true, Bool.and_eq_true] at hc
      exact ⟨1, (f7_ev 1 p i nx ps s l).trans (keeps_T hc.1 hc.2.1 hc.2.2)⟩
  · cases hp
end Go.S18
