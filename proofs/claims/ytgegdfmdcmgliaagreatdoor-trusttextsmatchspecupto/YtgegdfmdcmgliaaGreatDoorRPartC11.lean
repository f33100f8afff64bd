/-
  isPart of the reference.
-/
import Derived.Test.YtgegdfmdcmgliaaGreatDoorPartC11
namespace Go.Proofs.YtgegdfmdcmgliaaGreatDoor.C11
open Go.RowKit
set_option linter.unusedVariables false

end Go.Proofs.YtgegdfmdcmgliaaGreatDoor.C11
