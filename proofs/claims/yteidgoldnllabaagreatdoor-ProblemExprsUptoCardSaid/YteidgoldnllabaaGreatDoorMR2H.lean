/-
  Walks: the reference's Valid, Checked.
-/
import Derived.Test.YteidgoldnllabaaGreatDoorMR2F
namespace Go.Proofs.YteidgoldnllabaaGreatDoor
open Go.RowKit
end Go.Proofs.YteidgoldnllabaaGreatDoor
