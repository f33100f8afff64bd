/-
  checkKey and askTest; Verdict, of the program and of the reference.
-/
import Derived.Test.YtpmnkhklfoknhaaGreatDoorVerdC10
namespace Go.Proofs.YtpmnkhklfoknhaaGreatDoor.C10
open Go.RowKit Go.Maps
set_option linter.unusedVariables false

def keyF (l : List TestRun) (te ke : ByteArray) : Int := if histF l = 0 then (if pathB te = true then (if digB ke = true then 0 else 3) else 5) else histF l
def verdR (l : List TestRun) (te ke : ByteArray) : Int × Int := if keyF l te ke = 0 then (verdF (tal l (te, ke)), 0) else (0, keyF l te ke)
theorem key_good {l : List TestRun} {te ke : ByteArray} (h : keyF l te ke = 0) : histF l = 0 ∧ l.length ≤ 3000 ∧ pathB te = true ∧ digB ke = true := by
  unfold keyF at h
  split at h
  · rename_i h0
    split at h
    · rename_i h1
      split at h
      · rename_i h2
        refine ⟨h0, ?_, h1, h2⟩
        unfold histF at h0
        split at h0
        · assumption
        · cases h0
      · cases h
    · cases h
  · rename_i h0
    exact absurd h h0

/-- MustRun's answer -/
def mustR (l : List TestRun) (te ke : ByteArray) (again : Bool) : Bool × Int := if keyF l te ke = 0 then ((verdF (tal l (te, ke)) == 1) || (again && (verdF (tal l (te, ke)) == 3)), 0) else (false, keyF l te ke)

end Go.Proofs.YtpmnkhklfoknhaaGreatDoor.C10
