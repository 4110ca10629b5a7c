/-
  Walks: the seventh reference's Norm.
-/
import Derived.Deep.LoopGhost
import Derived.Deep.RegionWith
import Derived.Deep.CutRange
import Derived.Test.YtdidocdpjiiedaaGreatDoorMNrmP
import Derived.Test.YtdidocdpjiiedaaGreatDoorMR7V
import Derived.Test.YtdidocdpjiiedaaGreatDoorMR5D
import Derived.Test.YtdidocdpjiiedaaGreatDoorMR3C
namespace Go.Proofs.YtdidocdpjiiedaaGreatDoor
open Go.RowKit

end Go.Proofs.YtdidocdpjiiedaaGreatDoor
