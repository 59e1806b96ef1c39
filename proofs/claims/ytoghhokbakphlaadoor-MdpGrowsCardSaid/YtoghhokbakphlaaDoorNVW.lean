/-
  The library's slices.Compact of no number at all: it comes back with what it was handed. For any program in which it lies as it lies in the library's contract.
-/
import Derived.Shelf.Slices.CompactI
namespace Go.En.CompactNil
open Go Go.Proofs Go.Shelf Go.RowKit Go.Lib Go.Sort
variable {P : Program} {ρ : Ren}
theorem compact_calls (L : Lays2.n20 P ρ) (p : Option Addr) (cap : Nat) (w : World) :
    Calls P (ρ.f 20) #[.slice p 0 cap] w fun e w' => e = .returned (.slice p 0 cap) ∧ w' = w := by
  have mixed := L.mixed; have t0 := L.t0; have a0 := L.a0; have z0 := L.z0; have v0 := L.v0; have t3 := L.t3; have a3 := L.a3; have z3 := L.z3; have v3 := L.v3; have t4 := L.t4; have a4 := L.a4; have z4 := L.z4; have v4 := L.v4; have t22 := L.t22; have a22 := L.a22; have z22 := L.z22; have v22 := L.v22
  go_enter L.f20, Body2.n20_ntmps ρ
  go_wp2
  go_ret
  exact ⟨rfl, rfl⟩
end Go.En.CompactNil
