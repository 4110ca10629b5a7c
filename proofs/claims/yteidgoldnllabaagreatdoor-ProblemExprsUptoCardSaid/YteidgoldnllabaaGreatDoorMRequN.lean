/-
  Walks: ref13.Equal.
-/
import Derived.Deep.RegionHeld3
import Derived.Test.YteidgoldnllabaaGreatDoorMRCoN
import Derived.Test.YteidgoldnllabaaGreatDoorMWalN
namespace Go.Proofs.YteidgoldnllabaaGreatDoor
open Go.RowKit Go.Sort
end Go.Proofs.YteidgoldnllabaaGreatDoor
