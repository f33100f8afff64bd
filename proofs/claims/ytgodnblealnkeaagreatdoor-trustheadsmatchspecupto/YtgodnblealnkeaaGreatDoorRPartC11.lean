/-
  isPart of the reference.
-/
import Derived.Test.YtgodnblealnkeaaGreatDoorPartC11
namespace Go.Proofs.YtgodnblealnkeaaGreatDoor.C11
open Go.RowKit
set_option linter.unusedVariables false

end Go.Proofs.YtgodnblealnkeaaGreatDoor.C11
