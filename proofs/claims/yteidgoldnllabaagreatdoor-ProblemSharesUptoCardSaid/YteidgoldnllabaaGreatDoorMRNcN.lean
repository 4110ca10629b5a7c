/-
  Walks: ref13.node.
-/
import Derived.Deep.QuietTactic
import Derived.BigQuiet
import Derived.Test.YteidgoldnllabaaGreatDoorMAwkT
namespace Go.Proofs.YteidgoldnllabaaGreatDoor
open Go.RowKit Go.Sort
end Go.Proofs.YteidgoldnllabaaGreatDoor
