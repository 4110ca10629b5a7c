/-
  Walks: dyadic.sum of two numbers that are not 0 and not far apart, of the same sign.
-/
import Derived.Test.YtpocjagbhiahdaaGreatDoorMRoF
namespace Go.Proofs.YtpocjagbhiahdaaGreatDoor
open Go.RowKit

end Go.Proofs.YtpocjagbhiahdaaGreatDoor
