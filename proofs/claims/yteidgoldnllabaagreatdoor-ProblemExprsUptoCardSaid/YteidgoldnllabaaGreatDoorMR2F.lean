/-
  Walks: the reference's bits, Neg.
-/
import Derived.Test.YteidgoldnllabaaGreatDoorMKnuE
import Derived.Test.YteidgoldnllabaaGreatDoorMRoE
namespace Go.Proofs.YteidgoldnllabaaGreatDoor
open Go.RowKit
end Go.Proofs.YteidgoldnllabaaGreatDoor
