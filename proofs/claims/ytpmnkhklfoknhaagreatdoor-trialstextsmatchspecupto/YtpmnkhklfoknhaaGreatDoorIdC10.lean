/-
  Keys of two strings: trials.id.
-/
import Derived.Test.YtpmnkhklfoknhaaGreatDoorMap
import Derived.WideKeyArgs
import Derived.DeepKeys4
namespace Go.Proofs.YtpmnkhklfoknhaaGreatDoor.C10
open Go.ChangeShapes Go.WideShapes Go.Deep Go.RowKit Go.Maps
set_option linter.unusedVariables false

theorem idStr : Tryz.prog.cellsOf 9 = 1 := by kernel_rfl
theorem idLaid : laidOutB Tryz.prog = true := by kernel_rfl
end Go.Proofs.YtpmnkhklfoknhaaGreatDoor.C10
