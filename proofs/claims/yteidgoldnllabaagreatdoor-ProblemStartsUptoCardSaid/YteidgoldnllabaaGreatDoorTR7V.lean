/-
  Walks: the seventh reference's Valid.
-/
import Derived.Deep.LoopGhost
import Derived.Test.YteidgoldnllabaaGreatDoorTBoxB
import Derived.Test.YteidgoldnllabaaGreatDoorTR2F
import Derived.Deep.AppendLies
import Derived.Test.YteidgoldnllabaaGreatDoorTKnuE
import Derived.Deep.RegionLaw
import Derived.Test.YteidgoldnllabaaGreatDoorTIvA
import Derived.Deep.DeepFit
import Derived.Laws.EntriesVeiled
import Derived.Test.YteidgoldnllabaaGreatDoorTAwk4
import Derived.Deep.RegionHeld3
import Derived.Test.YteidgoldnllabaaGreatDoorTRoE
import Derived.Test.YteidgoldnllabaaGreatDoorTIncP
import Derived.Test.YteidgoldnllabaaGreatDoorTDotM
namespace Go.Proofs.YteidgoldnllabaaGreatDoor
open Go.RowKit
end Go.Proofs.YteidgoldnllabaaGreatDoor
