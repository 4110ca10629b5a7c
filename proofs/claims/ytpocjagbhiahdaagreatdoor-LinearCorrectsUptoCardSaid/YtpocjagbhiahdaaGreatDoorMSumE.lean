/-
  Walks: dyadic.sum of two numbers that are not 0 and not far apart, of the same sign.
-/
import Derived.Test.YtpocjagbhiahdaaGreatDoorMRoF
namespace Go.Proofs.YtpocjagbhiahdaaGreatDoor
open Go.RowKit

theorem bits_add_le {P Q k : Nat} (hP : bits P ≤ k) (hQ : bits Q ≤ k) : bits (P + Q) ≤ k + 1 := by
  rw [bits_le] at *
  rw [Nat.pow_succ]
  omega
end Go.Proofs.YtpocjagbhiahdaaGreatDoor
