/-
  Walks: the second reference's Int, of any small integer.
-/
import Derived.Deep.CutRange
import Derived.Deep.DeepFit
import Derived.Test.YteidgoldnllabaaGreatDoorTR2F
import Derived.Test.YteidgoldnllabaaGreatDoorTR7V
import Derived.Test.YteidgoldnllabaaGreatDoorTDotM
namespace Go.Proofs.YteidgoldnllabaaGreatDoor
open Go.RowKit
end Go.Proofs.YteidgoldnllabaaGreatDoor
