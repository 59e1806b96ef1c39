import Derived.Test.YtoghhokbakphlaaDoorAs11a
open Go Go.RowKit Go.Extern.Stop Go.Stop Go.Extern
namespace As2
theorem num_nil (w : World) : Calls prog 14 #[.nilIface] w fun ev w' => ev = .returned (.int .i64 0) ∧ w' = w := by
  go_enter Go.Proofs.Tryd.func14, Go.Proofs.Tryd.ntmps14
  go_wp2
  go_ret
  exact ⟨rfl, rfl⟩
set_option maxHeartbeats 4000000 in
theorem num_no (e : Int) (w : World) (hg : w.cell? ⟨0, 0, none⟩ = some (.iface 116 (.agg #[.pointer (some ⟨1, 43, none⟩)]))) :
    Calls prog 14 #[.iface 69 (.int .i64 e)] w fun ev w' => ev = .returned (.int .i64 e) ∧ w'.os = w.os ∧ w'.tape = w.tape ∧ w'.output = w.output ∧ w.heap.size ≤ w'.heap.size ∧ ∀ b, b < w.heap.size → w'.heap[b]? = w.heap[b]? := by
  have hlt : 0 < w.heap.size := by
    rcases Nat.lt_or_ge 0 w.heap.size with h | h
    · exact h
    · simp [World.cell?, Array.getElem?_eq_none h] at hg
  have hg1 : (w.alloc (.cells #[.int .i64 0] 69)).cell? ⟨0, 0, none⟩ = some (.iface 116 (.agg #[.pointer (some ⟨1, 43, none⟩)])) := by
    rw [World.cell?_alloc_lt _ _ ⟨0, 0, none⟩ hlt]; exact hg
  have ht0 : (w.alloc (.cells #[.int .i64 0] 69)).cell? ⟨w.heap.size, 0, none⟩ = some (.int .i64 0) := by simp
  have hf0 : (w.alloc (.cells #[.int .i64 0] 69)).frozen? ⟨w.heap.size, 0, none⟩ = false := by simp
  go_enter Go.Proofs.Tryd.func14, Go.Proofs.Tryd.ntmps14
  go_wp2_with (go_at_call 28; refine (as_hit e ⟨w.heap.size, 0, none⟩ (.int .i64 0) _ hg1 ht0 hf0).mono ?_; rintro ev w' ⟨rfl, rfl⟩)
  go_ret
  refine ⟨rfl, rfl, rfl, rfl, ?_, fun b hb => ?_⟩
  · simp; omega
  · have old : ∀ (w : World) (o : Obj), b < w.heap.size → (w.alloc o).heap[b]? = w.heap[b]? := fun w o h => heap_alloc_old w o h
    have st : ∀ (w : World) (o : Obj), b < w.heap.size → b < (w.alloc o).heap.size := by intro w o h; simp; omega
    exact (old _ _ (st _ _ (st _ _ (st _ _ (st _ _ hb))))).trans ((old _ _ (st _ _ (st _ _ (st _ _ hb)))).trans ((old _ _ (st _ _ (st _ _ hb))).trans ((old _ _ (st _ _ hb)).trans (old _ _ hb))))
end As2
