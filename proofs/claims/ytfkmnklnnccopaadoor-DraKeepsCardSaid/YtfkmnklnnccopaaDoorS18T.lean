/-
  Seat 18: slices.Grow of nil: its contract.
-/
import Derived.Test.YtfkmnklnnccopaaDoorS18A
import Derived.Test.YtfkmnklnnccopaaDoorEd
import Derived.WalkKit
import Derived.Lib.Walk
import Derived.Lib.AppendZeros
import Derived.Lib.SliceRun
open Go Go.En Go.RowKit Go.Lib
namespace Go.S18
set_option maxHeartbeats 1000000 in
theorem grow_zero (w : World) : Calls P 47 #[.slice none 0 0, .int .i64 0] w fun e w' => e = .returned (.slice none 0 0) ∧ w' = w := by
  go_enter Go.Proofs.Tryd.func47, Go.Proofs.Tryd.ntmps47
  go_wp2
  go_ret
  exact ⟨rfl, rfl⟩
set_option maxHeartbeats 4000000 in
theorem grow_more (n : Nat) (hn : 0 < n) (h63 : n ≤ 1099511627776) (w : World) (i0 : TypeInfo) (hi : P.info? 3 = some i0) (hb : i0.bytes = 8) (hs : i0.size = 1) (hz : i0.zero = some (.int .i64 0)) :
    Calls P 47 #[.slice none 0 0, .int .i64 n] w fun e w' => e = .returned (.slice (some ⟨w.heap.size, 0, none⟩) 0 (grownCap w n 0 3)) ∧
      w' = w.drew.alloc (.cells (Builtin.zeroCells (Value.int .i64 0).cells n ++ Builtin.zeroCells (Value.int .i64 0).cells (grownCap w n 0 3 - n)) 3) := by
  have h1 : ¬ ((n : Int) < 0) := by omega
  have h2 : wrap64 ((n : Int) - 0) = (n : Int) := by unfold wrap64; omega
  have h3 : (n : Int) > 0 := by omega
  have hrz := fun ty => Lib.run_append_nil_zeros (P := P) w 26 3 ty 3 i0 (.int .i64 0) .i64 .i64 (by kernel_rfl) (by kernel_rfl) hi hz n hn (by omega) (by omega) (by rw [hb]; omega)
  have hGn : n ≤ grownCap w n 0 3 := grownCap_ge w _ _ _
  obtain ⟨G, hG⟩ : ∃ G, G = grownCap w n 0 3 := ⟨_, rfl⟩
  rw [← hG] at hrz hGn ⊢
  have hG63 : G ≤ 9223372036854775807 := by
    have := grownCap_le_maxLen w n 0 3 (by unfold maxLen; omega)
    rw [← hG] at this
    unfold maxLen at this
    omega
  clear hG
  go_enter Go.Proofs.Tryd.func47, Go.Proofs.Tryd.ntmps47
  go_wp2_with (at_builtin; refine Lib.wpList_append_run _ rfl _ _ _ _ rfl _ _ rfl rfl _ _ (hrz _) ?_)
  all_goals (go_ret; exact ⟨rfl, rfl⟩)
end Go.S18
