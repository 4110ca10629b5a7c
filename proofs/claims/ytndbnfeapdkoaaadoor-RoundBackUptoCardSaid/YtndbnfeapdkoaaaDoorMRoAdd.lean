/-
  Walks: round.add.
-/
import Derived.Test.YtndbnfeapdkoaaaDoorMRoSum
namespace Go.Proofs.YtndbnfeapdkoaaaDoor
open Go.RowKit

/-- a sum, rounded -/
def addB (x y : RD) (p : Int) (up : Bool) : Dy × Int :=
  if fltB p [x, y] = 0 then rndE (rnd 0 (x.iv + y.iv) p.toNat up) else (.zero, fltB p [x, y])
end Go.Proofs.YtndbnfeapdkoaaaDoor
