/-
  Walks: dyadic.Mul of valid numbers.
-/
import Derived.Test.YtkkiinbgjjjcoaaGreatDoorMRoMul
namespace Go.Proofs.YtkkiinbgjjjcoaaGreatDoor
open Go.RowKit

/-- the exact product -/
def prodD (d f : Dy) : Dy := canon (d.neg != f.neg) (d.m * f.m) (d.e + f.e)
theorem chk_zero_dy : chk Dy.zero = (.zero, 0) := chk_of_ok Dy.ok_zero
theorem odd_mul {a b : Nat} (ha : a % 2 = 1) (hb : b % 2 = 1) : a * b % 2 = 1 := by rw [Nat.mul_mod, ha, hb]
theorem bits_mul_ge {a b : Nat} (ha : a ≠ 0) (hb : b ≠ 0) : bits a + bits b ≤ bits (a * b) + 1 := by
  have h1 := two_pow_le_of_bits ha
  have h2 := two_pow_le_of_bits hb
  have h3 := bits_pos ha
  have h4 := bits_pos hb
  have h5 : bits a - 1 + (bits b - 1) < bits (a * b) := lt_bits.2 (by rw [Nat.pow_add]; exact Nat.mul_le_mul h1 h2)
  omega
theorem ok_odd {d : Dy} (h : d.ok) (h0 : d.m ≠ 0) : d.m % 2 = 1 := by
  rcases h with ⟨h1, _⟩ | ⟨h1, _⟩
  · exact absurd h1 h0
  · exact h1
theorem prod_big {d f : Dy} (hd : d.ok) (hf : f.ok) (hd0 : d.m ≠ 0) (hf0 : f.m ≠ 0) (h : 4096 < bits d.m + bits f.m - 1) : chk (prodD d f) = (.zero, 9) := by
  have ho := odd_mul (ok_odd hd hd0) (ok_odd hf hf0)
  have hb := bits_mul_ge hd0 hf0
  unfold chk prodD
  rw [inrB_canon ho (by omega)]; rfl
end Go.Proofs.YtkkiinbgjjjcoaaGreatDoor
