/-
  Walks: ref13.rangeOf, decls, edge, mode, Problem.
-/
import Derived.Test.YteidgoldnllabaaGreatDoorMPrbN
namespace Go.Proofs.YteidgoldnllabaaGreatDoor
open Go.RowKit Go.Sort
end Go.Proofs.YteidgoldnllabaaGreatDoor
