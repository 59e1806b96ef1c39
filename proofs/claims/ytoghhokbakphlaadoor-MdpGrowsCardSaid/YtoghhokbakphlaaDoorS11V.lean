/-
  Seat 11: Sort's and Compact's contracts.
-/
import Derived.Test.YtoghhokbakphlaaDoorS11B
import Derived.Test.YtoghhokbakphlaaDoorS11LY
import Derived.Test.YtoghhokbakphlaaDoorNT
import Derived.Test.YtoghhokbakphlaaDoorNU
import Derived.Test.YtoghhokbakphlaaDoorNV
open Go Go.En
namespace Go.S11
theorem sort_ok : FnOk P C0 21 (sortS0 3) :=
  sort_fn0 3 (hent 21 (show P.funcs[21]? = some Go.Proofs.Tryd.f21 from Go.Proofs.Tryd.func21) (of_decide_eq_true (by kernel_rfl)) (by kernel_rfl))
    (fun blk off cap zs w hH hb hl => Go.Proofs.Any.slices_Sort_int Go.Proofs.Tryd.lays189 blk off cap zs w hH hb hl)
    (fun p cap w => SortNil.sort_calls Go.Proofs.Tryd.lays189 p cap w)
theorem cmp_ok : FnOk P C0 29 (cmpS 3) :=
  cmp_fn 3 (hent 29 (show P.funcs[29]? = some Go.Proofs.Tryd.f29 from Go.Proofs.Tryd.func29) (of_decide_eq_true (by kernel_rfl)) (by kernel_rfl))
    (fun blk off cap zs w hH hb hl hc => (Go.Proofs.Any.slices_Compact_int_arr Go.Proofs.Tryd.lays220 blk off cap zs.toArray w hH (by rw [List.size_toArray]; omega) (by rw [List.size_toArray]; exact hc)).mono (by
      rintro e w' ⟨rfl, q, rfl⟩
      exact ⟨rfl, q, #[], by unfold Sort.grow; simp; rfl⟩))
    (fun p cap w => CompactNil.compact_calls Go.Proofs.Tryd.lays220 p cap w)
end Go.S11
