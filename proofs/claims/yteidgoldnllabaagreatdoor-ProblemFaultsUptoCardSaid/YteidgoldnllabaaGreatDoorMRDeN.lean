/-
  Walks: ref13.Depth.
-/
import Derived.Test.YteidgoldnllabaaGreatDoorMIdxX
import Derived.Deep.RegionHeld3
import Derived.Test.YteidgoldnllabaaGreatDoorMWalN
namespace Go.Proofs.YteidgoldnllabaaGreatDoor
open Go.RowKit
section
open Go.RowKit Go.Sort
end
section
open Go.RowKit Go.Sort
end
section
open Go.RowKit Go.Sort
end
end Go.Proofs.YteidgoldnllabaaGreatDoor
