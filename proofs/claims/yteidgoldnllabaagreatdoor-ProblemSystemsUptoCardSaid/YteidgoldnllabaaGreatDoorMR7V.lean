/-
  Walks: the seventh reference's Valid.
-/
import Derived.Deep.LoopGhost
import Derived.Test.YteidgoldnllabaaGreatDoorMBoxB
import Derived.Test.YteidgoldnllabaaGreatDoorMR2F
import Derived.Deep.AppendLies
import Derived.Test.YteidgoldnllabaaGreatDoorMKnuE
import Derived.Deep.RegionLaw
import Derived.Test.YteidgoldnllabaaGreatDoorMIvB
import Derived.Deep.DeepFit
import Derived.Laws.EntriesVeiled
import Derived.Test.YteidgoldnllabaaGreatDoorMDyA
import Derived.Test.YteidgoldnllabaaGreatDoorMAwk4
import Derived.Deep.RegionHeld3
import Derived.Test.YteidgoldnllabaaGreatDoorMRoE
import Derived.Test.YteidgoldnllabaaGreatDoorMIncP
import Derived.Test.YteidgoldnllabaaGreatDoorMDotM
namespace Go.Proofs.YteidgoldnllabaaGreatDoor
open Go.RowKit
end Go.Proofs.YteidgoldnllabaaGreatDoor
