/-
  Walks: ref13.node.
-/
import Derived.Deep.QuietTactic
import Derived.BigQuiet
import Derived.Test.YteidgoldnllabaaGreatDoorMIdxX
import Derived.Test.YteidgoldnllabaaGreatDoorMEvrN
namespace Go.Proofs.YteidgoldnllabaaGreatDoor
open Go.RowKit Go.Sort
end Go.Proofs.YteidgoldnllabaaGreatDoor
