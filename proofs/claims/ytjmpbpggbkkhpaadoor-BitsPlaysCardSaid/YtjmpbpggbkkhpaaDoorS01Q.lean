/-
  Seat 01: how many bits a number has (math/bits.OnesCount64), in plain numbers.
-/
import Derived.Test.YtjmpbpggbkkhpaaDoorS01GA
open Go Go.En
namespace Go.S1
theorem and_split {p q c d : Nat} (hp : p < 256) (hc : c < 256) : (p + 256 * q) &&& (c + 256 * d) = (p &&& c) + 256 * (q &&& d) := by
  have h1 : ((p + 256 * q) &&& (c + 256 * d)) % 2 ^ 8 = (p &&& c) := by
    rw [Nat.and_mod_two_pow]
    have e1 : (p + 256 * q) % 2 ^ 8 = p := by omega
    have e2 : (c + 256 * d) % 2 ^ 8 = c := by omega
    rw [e1, e2]
  have h2 : ((p + 256 * q) &&& (c + 256 * d)) / 2 ^ 8 = (q &&& d) := by
    rw [Nat.and_div_two_pow]
    have e1 : (p + 256 * q) / 2 ^ 8 = q := by omega
    have e2 : (c + 256 * d) / 2 ^ 8 = d := by omega
    rw [e1, e2]
  omega
/-- eight bytes -/
structure By where
  a : Nat
  b : Nat
  c : Nat
  d : Nat
  e : Nat
  f : Nat
  g : Nat
  h : Nat
def By.n (x : By) : Nat := x.a + 256 * (x.b + 256 * (x.c + 256 * (x.d + 256 * (x.e + 256 * (x.f + 256 * (x.g + 256 * x.h))))))
def By.all (p : Nat → Prop) (x : By) : Prop := (p x.a ∧ p x.b ∧ p x.c ∧ p x.d) ∧ (p x.e ∧ p x.f ∧ p x.g ∧ p x.h)
def By.map (f : Nat → Nat) (x : By) : By := ⟨f x.a, f x.b, f x.c, f x.d, f x.e, f x.f, f x.g, f x.h⟩
def bytes (x : Nat) : By := ⟨x % 256, x / 256 % 256, x / 65536 % 256, x / 16777216 % 256, x / 4294967296 % 256, x / 1099511627776 % 256, x / 281474976710656 % 256, x / 72057594037927936 % 256⟩
theorem bytes_n {x : Nat} (h : x < 18446744073709551616) : (bytes x).n = x := by unfold bytes By.n; simp only; omega
theorem bytes_lt (x : Nat) : (bytes x).all (· < 256) := by unfold bytes By.all; simp only; omega
theorem By.and {x y : By} (hx : x.all (· < 256)) (hy : y.all (· < 256)) : x.n &&& y.n = (⟨x.a &&& y.a, x.b &&& y.b, x.c &&& y.c, x.d &&& y.d, x.e &&& y.e, x.f &&& y.f, x.g &&& y.g, x.h &&& y.h⟩ : By).n := by
  unfold By.n
  obtain ⟨⟨a1, a2, a3, a4⟩, a5, a6, a7, a8⟩ := hx
  obtain ⟨⟨b1, b2, b3, b4⟩, b5, b6, b7, b8⟩ := hy
  rw [and_split a1 b1, and_split a2 b2, and_split a3 b3, and_split a4 b4, and_split a5 b5, and_split a6 b6, and_split a7 b7]
def rep (m : Nat) : By := ⟨m, m, m, m, m, m, m, m⟩
theorem k0 : ∀ b, b < 256 → ∀ e, e < 2 → (b / 2 + 128 * e) &&& 85 = b / 2 &&& 85 := by decide +kernel
theorem k1 : ∀ b, b < 256 → ∀ e, e < 4 → (b / 4 + 64 * e) &&& 51 = b / 4 &&& 51 := by decide +kernel
def u0 (b : Nat) : Nat := (b / 2 &&& 85) + (b &&& 85)
def u1 (b : Nat) : Nat := (b / 4 &&& 51) + (b &&& 51)
def u2 (b : Nat) : Nat := b / 16 + b % 16
theorem u0_lt : ∀ b, b < 256 → u0 b < 256 := by decide +kernel
theorem u1_lt : ∀ b, b < 256 → u1 (u0 b) < 256 ∧ u1 (u0 b) / 16 ≤ 4 ∧ u1 (u0 b) % 16 ≤ 4 := by decide +kernel
theorem u2_eq : ∀ b, b < 256 → u2 (u1 (u0 b)) = b % 2 + b / 2 % 2 + b / 4 % 2 + b / 8 % 2 + b / 16 % 2 + b / 32 % 2 + b / 64 % 2 + b / 128 % 2 := by decide +kernel
theorem k2 : ∀ b, b < 69 → ∀ e, e < 5 → b % 16 ≤ 4 → (b + b / 16 + 16 * e) &&& 15 = b / 16 + b % 16 := by decide +kernel
def s0 (x : Nat) : Nat := (x / 2 &&& 6148914691236517205) + (x &&& 6148914691236517205)
def s1 (x : Nat) : Nat := (x / 4 &&& 3689348814741910323) + (x &&& 3689348814741910323)
def s2 (x : Nat) : Nat := (x / 16 + x) &&& 1085102592571150095
theorem s0_eq {x : By} (h : x.all (· < 256)) : s0 x.n = (x.map u0).n := by
  have hh := h
  obtain ⟨⟨a1, a2, a3, a4⟩, a5, a6, a7, a8⟩ := hh
  have e : x.n / 2 = (⟨x.a / 2 + 128 * (x.b % 2), x.b / 2 + 128 * (x.c % 2), x.c / 2 + 128 * (x.d % 2), x.d / 2 + 128 * (x.e % 2), x.e / 2 + 128 * (x.f % 2), x.f / 2 + 128 * (x.g % 2), x.g / 2 + 128 * (x.h % 2), x.h / 2 + 128 * 0⟩ : By).n := by
    unfold By.n; simp only; omega
  have em : (6148914691236517205 : Nat) = (rep 85).n := rfl
  have hr : (rep 85).all (· < 256) := by unfold rep By.all; simp
  unfold s0
  rw [em, By.and h hr, e, By.and ⟨⟨by simp only; omega, by simp only; omega, by simp only; omega, by simp only; omega⟩, by simp only; omega, by simp only; omega, by simp only; omega, by simp only; omega⟩ hr]
  simp only [rep, By.map, u0]
  rw [k0 _ a1 _ (Nat.mod_lt _ (by omega)), k0 _ a2 _ (Nat.mod_lt _ (by omega)), k0 _ a3 _ (Nat.mod_lt _ (by omega)), k0 _ a4 _ (Nat.mod_lt _ (by omega)), k0 _ a5 _ (Nat.mod_lt _ (by omega)), k0 _ a6 _ (Nat.mod_lt _ (by omega)), k0 _ a7 _ (Nat.mod_lt _ (by omega)), k0 _ a8 0 (by omega)]
  unfold By.n; simp only; omega
theorem s1_eq {x : By} (h : x.all (· < 256)) : s1 x.n = (x.map u1).n := by
  have hh := h
  obtain ⟨⟨a1, a2, a3, a4⟩, a5, a6, a7, a8⟩ := hh
  have e : x.n / 4 = (⟨x.a / 4 + 64 * (x.b % 4), x.b / 4 + 64 * (x.c % 4), x.c / 4 + 64 * (x.d % 4), x.d / 4 + 64 * (x.e % 4), x.e / 4 + 64 * (x.f % 4), x.f / 4 + 64 * (x.g % 4), x.g / 4 + 64 * (x.h % 4), x.h / 4 + 64 * 0⟩ : By).n := by
    unfold By.n; simp only; omega
  have em : (3689348814741910323 : Nat) = (rep 51).n := rfl
  have hr : (rep 51).all (· < 256) := by unfold rep By.all; simp
  unfold s1
  rw [em, By.and h hr, e, By.and ⟨⟨by simp only; omega, by simp only; omega, by simp only; omega, by simp only; omega⟩, by simp only; omega, by simp only; omega, by simp only; omega, by simp only; omega⟩ hr]
  simp only [rep, By.map, u1]
  rw [k1 _ a1 _ (Nat.mod_lt _ (by omega)), k1 _ a2 _ (Nat.mod_lt _ (by omega)), k1 _ a3 _ (Nat.mod_lt _ (by omega)), k1 _ a4 _ (Nat.mod_lt _ (by omega)), k1 _ a5 _ (Nat.mod_lt _ (by omega)), k1 _ a6 _ (Nat.mod_lt _ (by omega)), k1 _ a7 _ (Nat.mod_lt _ (by omega)), k1 _ a8 0 (by omega)]
  unfold By.n; simp only; omega
theorem s2_eq {x : By} (h : x.all (fun b => b < 69 ∧ b % 16 ≤ 4)) : s2 x.n = (x.map u2).n := by
  obtain ⟨⟨a1, a2, a3, a4⟩, a5, a6, a7, a8⟩ := h
  have e : x.n / 16 + x.n = (⟨x.a + x.a / 16 + 16 * (x.b % 16), x.b + x.b / 16 + 16 * (x.c % 16), x.c + x.c / 16 + 16 * (x.d % 16), x.d + x.d / 16 + 16 * (x.e % 16), x.e + x.e / 16 + 16 * (x.f % 16), x.f + x.f / 16 + 16 * (x.g % 16), x.g + x.g / 16 + 16 * (x.h % 16), x.h + x.h / 16 + 16 * 0⟩ : By).n := by
    unfold By.n; simp only; omega
  have em : (1085102592571150095 : Nat) = (rep 15).n := rfl
  have hr : (rep 15).all (· < 256) := by unfold rep By.all; simp
  unfold s2
  rw [em, e, By.and ⟨⟨by simp only; omega, by simp only; omega, by simp only; omega, by simp only; omega⟩, by simp only; omega, by simp only; omega, by simp only; omega, by simp only; omega⟩ hr]
  simp only [rep, By.map, u2]
  rw [k2 _ a1.1 _ (by omega) a1.2, k2 _ a2.1 _ (by omega) a2.2, k2 _ a3.1 _ (by omega) a3.2, k2 _ a4.1 _ (by omega) a4.2, k2 _ a5.1 _ (by omega) a5.2, k2 _ a6.1 _ (by omega) a6.2, k2 _ a7.1 _ (by omega) a7.2, k2 _ a8.1 0 (by omega) a8.2]
def s3 (w : Nat) : Nat :=
  let a := w + w / 256
  let b := a + a / 65536
  (b + b / 4294967296) % 128
theorem s3_one {p q r s t u v w : Nat} (h : (p ≤ 8 ∧ q ≤ 8 ∧ r ≤ 8 ∧ s ≤ 8) ∧ (t ≤ 8 ∧ u ≤ 8 ∧ v ≤ 8 ∧ w ≤ 8)) : s3 (By.n ⟨p, q, r, s, t, u, v, w⟩) = p + q + r + s + t + u + v + w := by
  have e1 : By.n ⟨p, q, r, s, t, u, v, w⟩ / 256 = By.n ⟨q, r, s, t, u, v, w, 0⟩ := by unfold By.n; simp only; omega
  have e2 : By.n ⟨p, q, r, s, t, u, v, w⟩ + By.n ⟨q, r, s, t, u, v, w, 0⟩ = By.n ⟨p + q, q + r, r + s, s + t, t + u, u + v, v + w, w⟩ := by unfold By.n; simp only; omega
  have e3 : By.n ⟨p + q, q + r, r + s, s + t, t + u, u + v, v + w, w⟩ / 65536 = By.n ⟨r + s, s + t, t + u, u + v, v + w, w, 0, 0⟩ := by unfold By.n; simp only; omega
  have e4 : By.n ⟨p + q, q + r, r + s, s + t, t + u, u + v, v + w, w⟩ + By.n ⟨r + s, s + t, t + u, u + v, v + w, w, 0, 0⟩ = By.n ⟨p + q + r + s, q + r + s + t, r + s + t + u, s + t + u + v, t + u + v + w, u + v + w, v + w, w⟩ := by unfold By.n; simp only; omega
  have e5 : By.n ⟨p + q + r + s, q + r + s + t, r + s + t + u, s + t + u + v, t + u + v + w, u + v + w, v + w, w⟩ / 4294967296 = By.n ⟨t + u + v + w, u + v + w, v + w, w, 0, 0, 0, 0⟩ := by unfold By.n; simp only; omega
  have e6 : ∀ a b c d e f g h i j k : Nat, (By.n ⟨a, b, c, d, e, f, g, h⟩ + By.n ⟨i, j, k, h, 0, 0, 0, 0⟩) % 128 = (a + i) % 128 := by intro a b c d e f g h i j k; unfold By.n; simp only; omega
  unfold s3
  simp only
  rw [e1, e2, e3, e4, e5, e6]
  omega
theorem s3_eq {x : By} (h : x.all (· ≤ 8)) : s3 x.n = x.a + x.b + x.c + x.d + x.e + x.f + x.g + x.h := by
  cases x
  exact s3_one h
/-- the bits of a byte -/
def pc8 (b : Nat) : Nat := b % 2 + b / 2 % 2 + b / 4 % 2 + b / 8 % 2 + b / 16 % 2 + b / 32 % 2 + b / 64 % 2 + b / 128 % 2
def pc (x : Nat) : Nat := let y := (bytes x).map pc8; y.a + y.b + y.c + y.d + y.e + y.f + y.g + y.h
theorem ones_eq {x : Nat} (h : x < 18446744073709551616) : s3 (s2 (s1 (s0 x))) = pc x := by
  have hb := bytes_lt x
  have e : s2 (s1 (s0 x)) = (((((bytes x).map u0).map u1).map u2)).n := by
    conv => lhs; rw [← bytes_n h]
    obtain ⟨⟨a1, a2, a3, a4⟩, a5, a6, a7, a8⟩ := hb
    rw [s0_eq (bytes_lt x), s1_eq ⟨⟨u0_lt _ a1, u0_lt _ a2, u0_lt _ a3, u0_lt _ a4⟩, u0_lt _ a5, u0_lt _ a6, u0_lt _ a7, u0_lt _ a8⟩, s2_eq]
    have f : ∀ b, b < 256 → u1 (u0 b) < 69 ∧ u1 (u0 b) % 16 ≤ 4 := fun b hb => by have := u1_lt b hb; omega
    exact ⟨⟨f _ a1, f _ a2, f _ a3, f _ a4⟩, f _ a5, f _ a6, f _ a7, f _ a8⟩
  obtain ⟨⟨a1, a2, a3, a4⟩, a5, a6, a7, a8⟩ := hb
  have g : ∀ b, b < 256 → u2 (u1 (u0 b)) ≤ 8 := fun b hb => by rw [u2_eq b hb]; omega
  rw [e, s3_eq ⟨⟨g _ a1, g _ a2, g _ a3, g _ a4⟩, g _ a5, g _ a6, g _ a7, g _ a8⟩]
  unfold pc
  simp only [By.map]
  rw [u2_eq _ a1, u2_eq _ a2, u2_eq _ a3, u2_eq _ a4, u2_eq _ a5, u2_eq _ a6, u2_eq _ a7, u2_eq _ a8]
  rfl
end Go.S1
