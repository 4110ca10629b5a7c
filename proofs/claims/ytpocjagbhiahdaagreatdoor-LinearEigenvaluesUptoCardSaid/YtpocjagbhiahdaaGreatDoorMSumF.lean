/-
  Walks: dyadic.sum of two numbers that are not 0 and not far apart, of different signs, the first one being the greater.
-/
import Derived.Test.YtpocjagbhiahdaaGreatDoorMSumE
namespace Go.Proofs.YtpocjagbhiahdaaGreatDoor
open Go.RowKit

theorem cmpN_nlt {m n : Nat} (h : n ≤ m) : ¬ cmpN m n < 0 := by unfold cmpN; rw [if_neg (by omega)]; split <;> omega
end Go.Proofs.YtpocjagbhiahdaaGreatDoor
