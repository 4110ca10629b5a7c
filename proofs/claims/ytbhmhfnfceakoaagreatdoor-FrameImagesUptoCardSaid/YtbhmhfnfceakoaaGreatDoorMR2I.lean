/-
  Walks: the reference's Checked.
-/
import Derived.Test.YtbhmhfnfceakoaaGreatDoorMR2H
namespace Go.Proofs.YtbhmhfnfceakoaaGreatDoor
open Go.RowKit

end Go.Proofs.YtbhmhfnfceakoaaGreatDoor
