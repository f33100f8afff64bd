/-
  The reference's checkPairs.
-/
import Derived.Test.YtpmjlbmegieieaaDoorPairsC9
namespace Go.Proofs.YtpmjlbmegieieaaDoor.C9
open Go.RowKit
set_option linter.unusedVariables false

end Go.Proofs.YtpmjlbmegieieaaDoor.C9
