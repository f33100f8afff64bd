/-
  A line of a history: readRun, of the program.
-/
import Derived.Test.YtpmnkhklfoknhaaGreatDoorNumC10
import Derived.Test.YtpmnkhklfoknhaaGreatDoorRowBC10
import Derived.Test.YtpmnkhklfoknhaaGreatDoorWords
import Derived.Test.YtpmnkhklfoknhaaGreatDoorFuncC10
import Derived.Test.YtpmnkhklfoknhaaGreatDoorTypesM
import Derived.Deep.RegionHeld3
namespace Go.Proofs.YtpmnkhklfoknhaaGreatDoor.C10
open Go.RowKit
set_option linter.unusedVariables false

def PASS : ByteArray := ⟨#[112, 97, 115, 115]⟩
def FAIL : ByteArray := ⟨#[102, 97, 105, 108]⟩
/-- what a line says, by its words -/
def lineV : List ByteArray → TestRun
  | [a, b, c, d, e] => ⟨b, c, (numR a).1, decide (d = PASS), (numR e).1⟩
  | _ => default
def lineB : List ByteArray → Bool
  | [a, b, c, d, e] => ![a, b, c, d, e].any (fun x => !rowB x) && ((decide (d = PASS) || decide (d = FAIL)) && ((numR a).2 && (numR e).2))
  | _ => false

theorem line_short {l : List ByteArray} (h : ¬ l.length = 5) : lineB l = false := by
  match l, h with
  | [], _ => rfl
  | [_], _ => rfl
  | [_, _], _ => rfl
  | [_, _, _], _ => rfl
  | [_, _, _, _], _ => rfl
  | [_, _, _, _, _], h => exact absurd rfl h
  | _ :: _ :: _ :: _ :: _ :: _ :: _, _ => rfl

theorem notRow_fn (W : World) (x : ByteArray) : Calls Tryz.prog 61 #[.string x] W fun e w' => e = .returned (.bool (!rowB x)) ∧ Below W.heap.size W w' := by
  obtain ⟨b, hb⟩ : ∃ b, rowB x = b := ⟨_, rfl⟩
  rw [hb]
  have hbH := Lib.hid hb
  clear hb
  go_enter Tryz.func61, Tryz.ntmps61
  go_wp2_with fail
  refine (isWordR_any x _ b hbH.out).mono ?_
  rintro e w1 ⟨rfl, hw1⟩
  have hw1H := Lib.hid hw1
  clear hw1
  cases b
  · go_wp2
    go_ret
    exact ⟨rfl, hw1H.out⟩
  · go_wp2
    go_ret
    exact ⟨rfl, hw1H.out⟩
end Go.Proofs.YtpmnkhklfoknhaaGreatDoor.C10
