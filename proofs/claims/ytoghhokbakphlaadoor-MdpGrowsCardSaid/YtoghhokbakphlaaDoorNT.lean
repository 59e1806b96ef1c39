/-
  The library's slices.Sort of no number at all: it comes back, and the world is as it was. For any program in which it lies as it lies in the library's contract.
-/
import Derived.Shelf.Sort.Plain
namespace Go.En.SortNil
open Go Go.Proofs Go.Shelf Go.RowKit Go.Sort
variable {P : Program} {ρ : Ren}
theorem ins (Ly : Lays.n294 P ρ) (D : Nat) (p : Option Addr) (cap : Nat) (w : World) :
    CallsIn (Fence.list [ρ.f 189, ρ.f 191, ρ.f 257, ρ.f 125, ρ.f 294, ρ.f 295, ρ.f 296, ρ.f 297, ρ.f 298, ρ.f 299, ρ.f 216, ρ.f 300, ρ.f 301, ρ.f 129, ρ.f 328, ρ.f 329, ρ.f 330, ρ.f 331, ρ.f 332, ρ.f 215, ρ.f 343] (some D)) 2 P (ρ.f 294) #[.slice p 0 cap, .int .i64 0, .int .i64 0] w fun e w' => e = .returned (.tuple #[]) ∧ w' = w := by
  have mixed := Ly.mixed
  have t0 := Ly.t0; have a0 := Ly.a0; have z0 := Ly.z0; have v0 := Ly.v0; have t3 := Ly.t3; have a3 := Ly.a3; have z3 := Ly.z3; have v3 := Ly.v3; have t4 := Ly.t4; have a4 := Ly.a4; have z4 := Ly.z4; have v4 := Ly.v4; have t28 := Ly.t28; have a28 := Ly.a28; have z28 := Ly.z28; have v28 := Ly.v28
  have e216 : ∀ args w, (callFunc (ρ.f 216) args).run P w = .ok (.enter (ρ.f 216) args) w := enters_of Ly.f216 (by kernel_rfl) rfl
  gi_enter Ly.f294, Body.n294_ntmps ρ
  gi_wp2
  gi_loopw [6] (fun vi wr => vi = .int .i64 1 ∧ wr = w) (fun _ _ => 0)
  case atStart => exact ⟨rfl, rfl⟩
  case round =>
    obtain ⟨rfl, rfl⟩ := hrel
    gi_wp2
    go_end0
    exact ⟨rfl, rfl⟩
set_option maxRecDepth 100000 in
theorem pdq (Ly : Lays.n257 P ρ) (D : Nat) (p : Option Addr) (cap : Nat) (w : World) :
    CallsIn (Fence.list [ρ.f 189, ρ.f 191, ρ.f 257, ρ.f 125, ρ.f 294, ρ.f 295, ρ.f 296, ρ.f 297, ρ.f 298, ρ.f 299, ρ.f 216, ρ.f 300, ρ.f 301, ρ.f 129, ρ.f 328, ρ.f 329, ρ.f 330, ρ.f 331, ρ.f 332, ρ.f 215, ρ.f 343] (some D)) 3 P (ρ.f 257) #[.slice p 0 cap, .int .i64 0, .int .i64 0, .int .i64 0] w fun e w' => e = .returned (.tuple #[]) ∧ w' = w := by
  have mixed := Ly.mixed
  have t0 := Ly.t0; have a0 := Ly.a0; have z0 := Ly.z0; have v0 := Ly.v0; have t3 := Ly.t3; have a3 := Ly.a3; have z3 := Ly.z3; have v3 := Ly.v3; have t4 := Ly.t4; have a4 := Ly.a4; have z4 := Ly.z4; have v4 := Ly.v4; have t28 := Ly.t28; have a28 := Ly.a28; have z28 := Ly.z28; have v28 := Ly.v28; have t131 := Ly.t131; have a131 := Ly.a131; have z131 := Ly.z131; have v131 := Ly.v131; have t182 := Ly.t182; have a182 := Ly.a182; have z182 := Ly.z182; have v182 := Ly.v182; have t183 := Ly.t183; have a183 := Ly.a183; have z183 := Ly.z183; have v183 := Ly.v183
  have e294 : ∀ args w, (callFunc (ρ.f 294) args).run P w = .ok (.enter (ρ.f 294) args) w := enters_of Ly.f294 (by kernel_rfl) rfl
  gi_enter Ly.f257, Body.n257_ntmps ρ
  gi_wp2
  gi_loopg [1, 2, 3, 8, 9] 0 (fun _ s1 s2 s3 s8 s9 wr => s1 = .int .i64 0 ∧ s2 = .int .i64 0 ∧ s3 = .int .i64 0 ∧ s8 = .bool true ∧ s9 = .bool true ∧ wr = w)
  case atStart => exact ⟨rfl, rfl, rfl, rfl, rfl, rfl⟩
  case round =>
    obtain ⟨rfl, rfl, rfl, rfl, rfl, rfl⟩ := hrel
    have hc := ins { Ly with } D p cap wr
    gi_wp2_with (gi_at_fn (ρ.f 294); refine hc.mono ?_; rintro e w1 ⟨rfl, rfl⟩)
    refine bodyPost_ret (results_none rfl _ _ _) rfl ?_
    exact ⟨rfl, rfl⟩
set_option maxRecDepth 100000 in
theorem sort (Ly : Lays.n189 P ρ) (D : Nat) (p : Option Addr) (cap : Nat) (w : World) :
    CallsIn (Fence.list [ρ.f 189, ρ.f 191, ρ.f 257, ρ.f 125, ρ.f 294, ρ.f 295, ρ.f 296, ρ.f 297, ρ.f 298, ρ.f 299, ρ.f 216, ρ.f 300, ρ.f 301, ρ.f 129, ρ.f 328, ρ.f 329, ρ.f 330, ρ.f 331, ρ.f 332, ρ.f 215, ρ.f 343] (some D)) 4 P (ρ.f 189) #[.slice p 0 cap] w fun e w' => e = .returned (.tuple #[]) ∧ w' = w := by
  have mixed := Ly.mixed
  have t0 := Ly.t0; have a0 := Ly.a0; have z0 := Ly.z0; have v0 := Ly.v0; have t3 := Ly.t3; have a3 := Ly.a3; have z3 := Ly.z3; have v3 := Ly.v3; have t28 := Ly.t28; have a28 := Ly.a28; have z28 := Ly.z28; have v28 := Ly.v28; have t46 := Ly.t46; have a46 := Ly.a46; have z46 := Ly.z46; have v46 := Ly.v46
  have e125 : ∀ args w, (callFunc (ρ.f 125) args).run P w = .ok (.enter (ρ.f 125) args) w := enters_of Ly.f125 (by kernel_rfl) rfl
  have e257 : ∀ args w, (callFunc (ρ.f 257) args).run P w = .ok (.enter (ρ.f 257) args) w := enters_of Ly.f257 (by kernel_rfl) rfl
  have hlen := Any.lenWalkInAll (P := P) (ρ := ρ) { Ly with } D
  have hpdq := pdq (P := P) (ρ := ρ) { Ly with } D
  gi_enter Ly.f189, Body.n189_ntmps ρ
  gi_wp2_with (first
    | (gi_at_fn (ρ.f 125); refine ((hlen 0 _ (by decide)).more (by decide)).mono ?_; rintro e w' ⟨rfl, rfl⟩)
    | (gi_at_fn (ρ.f 257); refine ((hpdq p cap _).more (by decide)).mono ?_; rintro e w' ⟨rfl, rfl⟩))
  go_end0
  exact ⟨rfl, rfl⟩
theorem sort_calls (Ly : Lays.n189 P ρ) (p : Option Addr) (cap : Nat) (w : World) :
    Calls P (ρ.f 189) #[.slice p 0 cap] w fun e w' => e = .returned (.tuple #[]) ∧ w' = w :=
  calls_of_every_depth fun D => sort Ly D p cap w
end Go.En.SortNil
