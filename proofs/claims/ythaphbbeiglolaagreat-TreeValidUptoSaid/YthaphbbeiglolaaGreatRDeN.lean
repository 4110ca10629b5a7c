/-
  Walks: ref13.Depth.
-/
import Derived.Test.YthaphbbeiglolaaGreatDepN
namespace Go.Proofs.YthaphbbeiglolaaGreat
open Go.RowKit Go.Sort

end Go.Proofs.YthaphbbeiglolaaGreat
