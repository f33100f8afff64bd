/-
  The reference's checkPairs.
-/
import Derived.Test.YtpmnkhklfoknhaaGreatDoorPairsC9
namespace Go.Proofs.YtpmnkhklfoknhaaGreatDoor.C9
open Go.RowKit
set_option linter.unusedVariables false

end Go.Proofs.YtpmnkhklfoknhaaGreatDoor.C9
