/-
  Walks: the reference's Sum.
-/
import Derived.Test.YteidgoldnllabaaGreatDoorMR2I
namespace Go.Proofs.YteidgoldnllabaaGreatDoor
open Go.RowKit
end Go.Proofs.YteidgoldnllabaaGreatDoor
