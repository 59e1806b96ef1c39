/-
  Seat 23: what Reach comes to: values, contexts.
-/
import Derived.Test.YtkbablmhgnpmmaaDoorS23T
import Derived.Test.YtkbablmhgnpmmaaDoorS23LY
import Derived.Test.YtkbablmhgnpmmaaDoorNQ
open Go Go.En
namespace Go.S23
theorem sort_ok : FnOk P C0 42 (sortS 3) :=
  sort_fn 3 (hent 42 (show P.funcs[42]? = some Go.Proofs.Tryd.f42 from Go.Proofs.Tryd.func42) (of_decide_eq_true (by kernel_rfl)) (by kernel_rfl))
    (fun blk off cap zs w hH hb hl => Go.Proofs.Any.slices_Sort_int Go.Proofs.Tryd.lays189 blk off cap zs w hH hb hl)
abbrev SK := List Bool × List Int
/-- states that weren't seen are seen, and laid upon the stack -/
def pushM : List MvV → SK → SK
  | [], q => q
  | v :: l, q => pushM l (bif q.1.getD v.1.toNat false then q else (q.1.set v.1.toNat true, q.2 ++ [v.1]))
def pushC : List ChV → SK → SK
  | [], q => q
  | c :: l, q => pushC l (pushM c.2.1 q)
def topK (q : SK) : Int := q.2.getD (q.2.length - 1) 0
def dfs (ch : List (List ChV)) : Nat → SK → List Int → List Int
  | 0, _, o => o
  | f + 1, q, o => bif Nat.blt 0 q.2.length then dfs ch f (pushC (ch.getD (topK q).toNat []) (q.1, q.2.take (q.2.length - 1))) (o ++ [topK q]) else o
def dfs0 (i : Int) (ch : List (List ChV)) : List Int := dfs ch (ch.length + 1) ((List.replicate ch.length false).set i.toNat true, [i]) []
def reachL (i : Int) (ch : List (List ChV)) (nm : List ByteArray) (ho : List (List Int)) : List Int := bif mdOk i ch nm ho then sortI (dfs0 i ch) else []
def reachS : En.Spec := ⟨[], fun ds os => match ds, os with
  | [.p (.agg [.d (.fz true) (.i .i64) i, .d (.fz false) (.l (.l (.p .s (.p (.l (.p (.i .i64) (.p (.i .i64) .u))) .u)))) ch, .d (.fz false) (.l .s) nm, .d (.fz false) (.l (.l (.i .i64))) ho])], [] =>
    .br (ofMG ch nm ho) (.leaf [.one (.rw ⟨1, 0⟩)] [] [roI (reachL i ch nm ho)]) .fail
  | _, _ => .fail⟩
noncomputable def C40 : Ctx := ctxOf C0 [(23, checkMS), (42, sortS 3)]
theorem ctx40 : CtxOk C40 := fun _ _ h => tbl_ok (l := [(23, checkMS), (42, sortS 3)]) ⟨checkM_ok, sort_ok, trivial⟩ h
def h24 : Hn := ⟨fun | 7 => [1, 3, 4, 5] | 12 => [1, 3, 4, 5, 47, 48, 49] | 15 => [1, 3, 4, 5, 47, 48, 49, 54, 55, 56] | _ => [], fun | 7 => [⟨4, none, 3, .z⟩, ⟨5, none, 3, .z⟩] | 12 => [⟨4, none, 3, .z⟩] | 15 => [⟨4, none, 3, .z⟩] | 1000000 => [⟨2, none, 3, .z⟩] | _ => [], fun _ => false⟩
end Go.S23
