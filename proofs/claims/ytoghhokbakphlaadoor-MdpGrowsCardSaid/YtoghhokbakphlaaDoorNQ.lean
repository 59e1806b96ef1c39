/-
  slices.Sort of numbers, as a contract: out of the library's own contract.
-/
import Derived.Test.YtoghhokbakphlaaDoorNP
import Derived.Shelf.Sort.Plain
namespace Go.En
open Go Go.Sort
def sortI (l : List Int) : List Int := l.mergeSort fun x y => decide (x ≤ y)
def sortS (ti : Nat) : En.Spec := ⟨[0], fun ds os => match ds, os with
  | [.p (.one (.rw ⟨0, 0⟩))], [.ro true 0 e (.i .i64) .z l none] => bif e.beq ti then .br (Nat.ble 1 l.length && Nat.ble l.length 1000000) (.leaf [] [.ro true 0 e (.i .i64) .z (sortI l) none] []) .fail else .fail
  | _, _ => .fail⟩
theorem sortI_len (l : List Int) : (sortI l).length = l.length := List.length_mergeSort _
theorem sort_fn {P : Program} {E : Ctx0} {g : FuncId} (ti : Nat)
    (hent : ∀ (vs : Array Value) (w : World), (callFunc g vs).run P w = .ok (.enter g vs) w)
    (hs : ∀ (blk off cap : Nat) (zs : List Int) (w : World), Holds (Value.int .i64) w blk off zs.toArray → blk < w.heap.size → zs.length < 4611686018427387904 →
      Calls P g #[.slice (some ⟨blk, off, none⟩) zs.length cap] w fun e w' => e = .returned (.tuple #[]) ∧ ∃ n os, w' = grow (putRow (Value.int .i64) (Sort.ahead w n) blk off (zs.mergeSort fun x y => decide (x ≤ y)).toArray) os) :
    FnOk P E g (sortS ti) := by
  intro w M γ ds os vs hr lf hp
  unfold sortS at hp
  simp only at hp
  split at hp
  · rename_i e l
    cases he : e.beq ti with
    | false => rw [he] at hp; cases hp
    | true =>
      rw [he] at hp
      simp only [cond_true, Out.pick] at hp
      cases hc : (Nat.ble 1 l.length && Nat.ble l.length 1000000) with
      | false => rw [hc] at hp; cases hp
      | true =>
        rw [hc] at hp
        simp only [cond_true, Option.some.injEq] at hp
        subst hp
        rw [Bool.and_eq_true] at hc
        have h1 := of_ble hc.1
        have h2 := of_ble hc.2
        have hsz : vs.size = 1 := hr.n
        obtain ⟨x, rfl⟩ : ∃ x, vs = #[x] := by
          match vs, hsz with
          | ⟨[x]⟩, _ => exact ⟨x, rfl⟩
        have ho : (sgOf [.p (.one (.rw ⟨0, 0⟩))] [.ro true 0 e (.i .i64) .z l none] []).o ⟨0, 0⟩ = .ro true 0 e (.i .i64) .z l none := rfl
        obtain ⟨x', hx', _, hhd⟩ : ∃ x', [x] = [x'] ∧ _ ∧ _ := hr.sl 0
        have hxx : x = x' := by injection hx'
        subst hxx
        have hhd := hhd rfl
        obtain ⟨b, c, cur, css, Fs, hra⟩ := hr.rowAt ho (by omega)
        obtain ⟨q1, q2, q3, q4, q5, q6⟩ := hra
        have hcell : ∀ i, i < l.length → cur[i]? = some (.int .i64 (l.getD i 0)) ∧ Fs i = [] ∧ css i = [.int .i64 (l.getD i 0)] := fun i hi => by
          obtain ⟨a1, a2, a3⟩ := q6 i hi
          have a1 : Tv E w (K0 M true) (.i .i64) .z (l.getD i (Sh.zero (.i .i64))) (css i) (Fs i) := a1
          obtain ⟨b1, b2⟩ := Tv.z_iff.1 a1
          have b3 := Ro.inv_i b1
          have a4 := a3 0 (.int .i64 (l.getD i 0)) (by rw [b3]; rfl)
          refine ⟨?_, b2, b3⟩
          have : i * (Sh.i IntKind.i64).sz + 0 = i := by show i * 1 + 0 = i; omega
          rw [this] at a4
          exact a4
        have hbsz : b < w.heap.size := by
          rcases Nat.lt_or_ge b w.heap.size with h | h
          · exact h
          · rw [Array.getElem?_eq_none h] at q2; cases q2
        have hH : Holds (Value.int .i64) w b 0 l.toArray := fun j hj => by
          have hj : j < l.length := hj
          refine ⟨?_, ?_⟩
          · unfold World.cell?
            simp only [q2, Nat.zero_add]
            show cur[j]? = _
            rw [(hcell j hj).1]
            congr 2
            rw [List.getElem!_toArray, List.getD_eq_getElem?_getD, List.getElem?_eq_getElem hj, getElem!_pos l j hj]; rfl
          · unfold World.frozen?
            simp only [q2, Nat.zero_add]
            simp
        unfold CallsF
        rw [hent]
        simp only
        rw [hhd, q1]
        refine (hs b 0 c l w hH hbsz (by omega)).mono ?_
        rintro ev w' ⟨rfl, n, ex, rfl⟩
        simp only
        rw [show (l.mergeSort fun x y => decide (x ≤ y)) = sortI l from rfl]
        have hblk : (putRow (Value.int .i64) (Sort.ahead w n) b 0 (sortI l).toArray).heap[b]? = some (.cells (putCells (Value.int .i64) 0 (sortI l).toArray cur) e (0, 0)) := by
          unfold putRow mapBlock Sort.ahead
          simp only [Array.getElem?_modify, if_true, q2, Option.map_some]
          rfl
        have hoth : ∀ k, k < w.heap.size → k ≠ b → (putRow (Value.int .i64) (Sort.ahead w n) b 0 (sortI l).toArray).heap[k]? = w.heap[k]? := fun k hk hne => by
          unfold putRow mapBlock Sort.ahead
          simp only [Array.getElem?_modify, if_neg (Ne.symm hne)]
        have hsz0 : (putRow (Value.int .i64) (Sort.ahead w n) b 0 (sortI l).toArray).heap.size = w.heap.size := by rw [size_putRow]; rfl
        have hgr : ∀ k, k < w.heap.size → (grow (putRow (Value.int .i64) (Sort.ahead w n) b 0 (sortI l).toArray) ex).heap[k]? = (putRow (Value.int .i64) (Sort.ahead w n) b 0 (sortI l).toArray).heap[k]? := fun k hk => by
          unfold grow
          rw [Array.getElem?_append_left (by rw [hsz0]; exact hk)]
        have hsz1 : w.heap.size ≤ (grow (putRow (Value.int .i64) (Sort.ahead w n) b 0 (sortI l).toArray) ex).heap.size := by
          unfold grow
          rw [Array.size_append, hsz0]; omega
        have hbf : b ∈ γ.fp ⟨0, 0⟩ := by rw [q5]; exact List.mem_cons_self ..
        have hbo := hr.ow ⟨0, 0⟩ b hbf
        refine ⟨K0 M, γ, ?_⟩
        refine { n := rfl, sl := fun t => ?_, ob := fun o => ?_, dj := hr.dj, nd := hr.nd, ow := fun o k hk => ⟨(hr.ow o k hk).1, Nat.lt_of_lt_of_le (hr.ow o k hk).2.1 hsz1, (hr.ow o k hk).2.2⟩, kb := fun f k hk => Nat.lt_of_lt_of_le (hr.kb f k hk) hsz1, kk := hr.kk, k1 := hr.k1, k0 := hr.k0, sz := hsz1, fr := fun k hk hn => ?_, os := rfl, tape := rfl, output := rfl, g0 := hr.g0, h0 := fun j hj => ?_ }
        · cases t with
          | zero => exact ⟨#[], rfl, rfl⟩
          | succ t => rfl
        · obtain ⟨t, j⟩ := o
          match t, j with
          | 0, 0 =>
            refine ⟨.inr ⟨b, c, putCells (Value.int .i64) 0 (sortI l).toArray cur, fun i => [.int .i64 ((sortI l).getD i 0)], Fs, by rw [sortI_len]; exact q1, ?_, by rw [sortI_len]; exact q3, ?_, by rw [sortI_len]; exact q5, fun i hi => ?_⟩, fun _ h => by cases h⟩
            · rw [hgr b hbsz]; exact hblk
            · unfold putCells
              rw [Array.size_mapIdx]; exact q4
            · have hi' : i < l.length := by rw [sortI_len] at hi; exact hi
              refine ⟨Tv.z_iff.2 ⟨Ro.i, (hcell i hi').2.1⟩, rfl, fun j y hy => ?_⟩
              cases j with
              | zero =>
                have hy : y = .int .i64 ((sortI l).getD i 0) := by
                  have := hy
                  simp at this
                  exact this.symm
                have hci := (hcell i hi').1
                show (putCells (Value.int .i64) 0 (sortI l).toArray cur)[i * 1 + 0]? = some y
                rw [show i * 1 + 0 = i by omega]
                unfold putCells
                rw [Array.getElem?_mapIdx, hci, hy]
                have hz : 0 ≤ i ∧ i < 0 + (sortI l).toArray.size := ⟨Nat.zero_le _, by rw [Nat.zero_add]; exact hi⟩
                simp only [Option.map_some, if_pos hz, Nat.sub_zero]
                congr 2
                rw [List.getElem!_toArray, List.getD_eq_getElem?_getD, List.getElem?_eq_getElem hi, getElem!_pos (sortI l) i hi]; rfl
              | succ j => cases hy
          | 0, j + 1 =>
            have := hr.ob ⟨0, j + 1⟩
            exact this
          | 1, j =>
            have := hr.ob ⟨1, j⟩
            have e0 : (sgOf [resD []] [.ro true 0 e (.i .i64) .z (sortI l) none] []).o ⟨1, j⟩ = .no := by cases j <;> rfl
            rw [e0]
            have e1 : (sgOf [.p (.one (.rw ⟨0, 0⟩))] [.ro true 0 e (.i .i64) .z l none] []).o ⟨1, j⟩ = .no := by cases j <;> rfl
            rw [e1] at this
            exact this
          | t + 2, j =>
            have := hr.ob ⟨t + 2, j⟩
            exact this
        · have hne : k ≠ b := fun h => by
            subst h
            rcases hbo.1 with h | h
            · omega
            · exact hn h
          rw [hgr k hk, hoth k hk hne]
        · have := hr.h0 j hj
          match j with
          | 0 =>
            obtain ⟨a1, a2, a3, a4⟩ := this
            refine ⟨(fun h => by cases h), fun q hq => a2 q ?_, (fun h => by cases h), (fun h => by cases h)⟩
            rw [← hq]
            show some (l.length, _) = some ((sortI l).length, _)
            rw [sortI_len]
          | j + 1 => exact this
  · cases hp
end Go.En
