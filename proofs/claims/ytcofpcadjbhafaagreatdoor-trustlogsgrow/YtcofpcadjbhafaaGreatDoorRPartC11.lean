/-
  isPart of the reference.
-/
import Derived.Test.YtcofpcadjbhafaaGreatDoorPartC11
namespace Go.Proofs.YtcofpcadjbhafaaGreatDoor.C11
open Go.RowKit
set_option linter.unusedVariables false

end Go.Proofs.YtcofpcadjbhafaaGreatDoor.C11
