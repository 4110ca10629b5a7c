/-
  Walks: dyadic.sum of two numbers that are not 0 and not far apart, of different signs, the second one being the greater.
-/
import Derived.Test.YtpocjagbhiahdaaGreatDoorMSumF
namespace Go.Proofs.YtpocjagbhiahdaaGreatDoor
open Go.RowKit

end Go.Proofs.YtpocjagbhiahdaaGreatDoor
