/-
  verdict, of the program and of the reference.
-/
import Derived.Test.YtpmnkhklfoknhaaGreatDoorTallyC10
namespace Go.Proofs.YtpmnkhklfoknhaaGreatDoor.C10
open Go.RowKit
set_option linter.unusedVariables false

def verdF (x : Int × Int) : Int := if x.1 + x.2 = 0 then 1 else if x.2 = 0 then 2 else if x.1 = 0 then 3 else 4

def VRel (l : List TestRun) (x : ByteArray × ByteArray) (w0 : World) (g b i : Value) (wr : World) : Prop :=
  ∃ (k : Nat), k ≤ l.length ∧ i = .int .i64 k ∧ g = .bool (decide (0 < (tal (l.take k) x).1)) ∧ b = .bool (decide (0 < (tal (l.take k) x).2)) ∧ Below w0.heap.size w0 wr

end Go.Proofs.YtpmnkhklfoknhaaGreatDoor.C10
