/-
  isPart of the reference.
-/
import Derived.Test.YtaeeicnbnohghaaGreatDoorPartC11
namespace Go.Proofs.YtaeeicnbnohghaaGreatDoor.C11
open Go.RowKit
set_option linter.unusedVariables false

end Go.Proofs.YtaeeicnbnohghaaGreatDoor.C11
