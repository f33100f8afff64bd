/-
  A line of runs, in plain words; the place of its end.
-/
import Derived.Test.YtpmnkhklfoknhaaGreatDoorNumC9
import Derived.Test.YtpmnkhklfoknhaaGreatDoorRowBC9
import Derived.Test.YtpmnkhklfoknhaaGreatDoorWords
import Derived.Test.YtpmnkhklfoknhaaGreatDoorIdx
import Derived.Test.YtpmnkhklfoknhaaGreatDoorTypesM
import Derived.Deep.RegionHeld3
namespace Go.Proofs.YtpmnkhklfoknhaaGreatDoor.C9
open Go.RowKit
set_option linter.unusedVariables false

def DONE : ByteArray := ⟨#[100, 111, 110, 101]⟩
def LOST : ByteArray := ⟨#[108, 111, 115, 116]⟩
def STOP : ByteArray := ⟨#[115, 116, 111, 112, 112, 101, 100]⟩
/-- the place of an end, as the program looks for it -/
def endN (s : ByteArray) : Int := idxF s [⟨#[]⟩, DONE, LOST, STOP] 0
theorem endN_cases (s : ByteArray) : (s = DONE ∧ endN s = 1) ∨ (s = LOST ∧ endN s = 2) ∨ (s = STOP ∧ endN s = 3) ∨ (s ≠ DONE ∧ s ≠ LOST ∧ s ≠ STOP ∧ endN s ≤ 0) := by
  by_cases h1 : s = DONE
  · subst h1; exact .inl ⟨rfl, by decide⟩
  · by_cases h2 : s = LOST
    · subst h2; exact .inr (.inl ⟨rfl, by decide⟩)
    · by_cases h3 : s = STOP
      · subst h3; exact .inr (.inr (.inl ⟨rfl, by decide⟩))
      · refine .inr (.inr (.inr ⟨h1, h2, h3, ?_⟩))
        unfold endN
        rw [idxF, idxF, idxF, idxF, idxF]
        by_cases h0 : (⟨#[]⟩ : ByteArray) = s
        · rw [if_pos h0]; omega
        · rw [if_neg h0, if_neg (fun h => h1 h.symm), if_neg (fun h => h2 h.symm), if_neg (fun h => h3 h.symm)]
          omega
/-- the reference's way -/
def endM (s : ByteArray) : Int := idxF s [DONE, LOST, STOP] 0 + 1
theorem endM_pos {s : ByteArray} (h : 0 < endN s) : endM s = endN s := by
  rcases endN_cases s with ⟨rfl, _⟩ | ⟨rfl, _⟩ | ⟨rfl, _⟩ | ⟨_, _, _, h1⟩
  · decide
  · decide
  · decide
  · omega
theorem endM_not {s : ByteArray} (h : ¬ 0 < endN s) : endM s = 0 := by
  rcases endN_cases s with ⟨rfl, h1⟩ | ⟨rfl, h1⟩ | ⟨rfl, h1⟩ | ⟨h1, h2, h3, _⟩
  · omega
  · omega
  · omega
  · unfold endM
    rw [idxF, idxF, idxF, idxF, if_neg (fun h => h1 h.symm), if_neg (fun h => h2 h.symm), if_neg (fun h => h3 h.symm)]
    rfl
theorem endN_range (s : ByteArray) : -1 ≤ endN s ∧ endN s ≤ 3 := by
  unfold endN
  rw [idxF, idxF, idxF, idxF, idxF]
  repeat' split
  all_goals omega
theorem endM_range (s : ByteArray) : 0 ≤ endM s ∧ endM s ≤ 3 := by
  unfold endM
  rw [idxF, idxF, idxF, idxF]
  repeat' split
  all_goals omega
/-- what a line says, by its words -/
def lineV : List ByteArray → Run
  | [a, b, c, d, e] => ⟨d, e, (numR a).1, (numR b).1, endN c⟩
  | _ => default
def lineB : List ByteArray → Bool
  | [a, b, c, d, e] => (numR a).2 && ((numR b).2 && (decide (0 < endN c) && (rowB d && rowB e)))
  | _ => false
theorem line_short {l : List ByteArray} (h : ¬ l.length = 5) : lineB l = false := by
  match l, h with
  | [], _ => rfl
  | [_], _ => rfl
  | [_, _], _ => rfl
  | [_, _, _], _ => rfl
  | [_, _, _, _], _ => rfl
  | [_, _, _, _, _], h => exact absurd rfl h
  | _ :: _ :: _ :: _ :: _ :: _ :: _, _ => rfl
def LineAns (ws : List ByteArray) (ok : Bool) (w0 : World) (e : Ending) (w' : World) : Prop :=
  ∃ x : Run, e = .returned (.tuple #[.agg #[.string x.id_, .string x.worker, .int .i64 x.from_, .int .i64 x.to_, .int .i64 x.end_], .bool ok]) ∧ (ok = true → x = lineV ws) ∧ Below w0.heap.size w0 w'
end Go.Proofs.YtpmnkhklfoknhaaGreatDoor.C9
