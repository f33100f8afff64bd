/-
  readRun of the reference.
-/
import Derived.Test.YtpmnkhklfoknhaaGreatDoorLinePC10
namespace Go.Proofs.YtpmnkhklfoknhaaGreatDoor.C10
open Go.RowKit
set_option linter.unusedVariables false

theorem dig_row {l : List UInt8} (h : l.all (dset.contains ·) = true) : l.all rch = true := by
  rw [List.all_eq_true] at h ⊢
  intro x hx
  have := h x hx
  rw [dset_dig, decide_eq_true_iff] at this
  unfold rch
  rw [decide_eq_true_iff]; omega
theorem num_row {s : ByteArray} (h : (numR s).2 = true) : rowB s = true := by
  unfold numR at h
  split at h
  · rename_i hn
    unfold numB at hn
    simp only [Bool.and_eq_true, decide_eq_true_eq] at hn
    obtain ⟨h0, _, h2, _⟩ := hn
    unfold rowB rowL
    rw [dig_row h2, Bool.and_true]
    have h3 : s.size = s.data.toList.length := by simp
    cases hd : s.data.toList with
    | nil => rw [hd, List.length_nil] at h3; omega
    | cons a r => rfl
  · cases h
theorem lineB_r (a b c d e : ByteArray) : lineB [a, b, c, d, e] = (rowB b && (rowB c && ((decide (d = PASS) || decide (d = FAIL)) && ((numR a).2 && (numR e).2)))) := by
  rw [lineB]
  by_cases h : ((decide (d = PASS) || decide (d = FAIL)) && ((numR a).2 && (numR e).2)) = true
  · rw [h, Bool.and_true]
    simp only [Bool.and_eq_true, Bool.or_eq_true, decide_eq_true_eq] at h
    obtain ⟨h1, h2, h3⟩ := h
    have hd : rowB d = true := by rcases h1 with rfl | rfl <;> decide
    simp only [List.any_cons, List.any_nil, num_row h2, num_row h3, hd, Bool.not_true, Bool.false_or, Bool.or_false]
    cases rowB b <;> cases rowB c <;> rfl
  · have h' : ((decide (d = PASS) || decide (d = FAIL)) && ((numR a).2 && (numR e).2)) = false := by simpa using h
    rw [h']
    simp

end Go.Proofs.YtpmnkhklfoknhaaGreatDoor.C10
