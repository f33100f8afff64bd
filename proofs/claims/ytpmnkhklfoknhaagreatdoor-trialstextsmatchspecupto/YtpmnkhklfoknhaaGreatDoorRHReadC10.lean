/-
  Read of the reference. Printed by a program of mine.
-/
import Derived.Test.YtpmnkhklfoknhaaGreatDoorHReadC10
namespace Go.Proofs.YtpmnkhklfoknhaaGreatDoor.C10
open Go.RowKit
set_option linter.unusedVariables false

end Go.Proofs.YtpmnkhklfoknhaaGreatDoor.C10
