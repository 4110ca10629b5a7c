/-
  Walks: dyadic.sum of two numbers that are not 0 and not far apart, of different signs, the second one being the greater.
-/
import Derived.Test.YtdidocdpjiiedaaGreatDoorMSumF
namespace Go.Proofs.YtdidocdpjiiedaaGreatDoor
open Go.RowKit

end Go.Proofs.YtdidocdpjiiedaaGreatDoor
