/-
  The walk of TrialsVerdictsMatchSpec.
-/
import Derived.Test.YtpmnkhklfoknhaaGreatDoorVerdictC10
import Derived.Test.YtpmnkhklfoknhaaGreatDoorAwakePC10
namespace Go.Proofs.YtpmnkhklfoknhaaGreatDoor.C10
open Go.RowKit
set_option linter.unusedVariables false

theorem sumBulk_mem {α : Type} (f : α → Nat) : ∀ {l : List α} {x : α}, x ∈ l → f x ≤ sumBulk f l
  | y :: s, x, h => by
    rcases List.mem_cons.1 h with rfl | h
    · simp only [sumBulk]; omega
    · have := sumBulk_mem f h
      simp only [sumBulk]; omega
theorem runs_small {l : SlD TestRun} {B : Nat} (hb : (RSl RTestRun).bulk l ≤ B) : ∀ r ∈ l.l, r.test.size ≤ B := by
  intro r hr
  have := sumBulk_mem RTestRun.bulk hr
  have h2 : (RSl RTestRun).bulk l = sumBulk RTestRun.bulk l.l + 1 := rfl
  have h3 : RTestRun.bulk r = RStr.bulk r.test + RStr.bulk r.key + RInt.bulk r.at_ + RBool.bulk r.pass + RInt.bulk r.seconds := rfl
  have h4 : RStr.bulk r.test = r.test.size + 1 := rfl
  omega

end Go.Proofs.YtpmnkhklfoknhaaGreatDoor.C10
