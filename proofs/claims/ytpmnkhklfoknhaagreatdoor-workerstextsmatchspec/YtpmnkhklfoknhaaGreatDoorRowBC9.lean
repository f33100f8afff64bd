/-
  Rows of bytes from 33 to 126: isWord of the program's text reader, isRow of the reference.
-/
import Derived.Test.YtpmnkhklfoknhaaGreatDoorRowDC9
import Derived.Test.YtpmnkhklfoknhaaGreatDoorShelf
import Derived.Lib.SpaceUEq
import Derived.Lib.TrimUEq
namespace Go.Proofs.YtpmnkhklfoknhaaGreatDoor.C9
open Go.RowKit Go.Lib
set_option linter.unusedVariables false

set_option maxHeartbeats 1000000 in
theorem pR_fn (W : World) (x : Nat) (hx : x ≤ 1114111) : Calls Tryz.prog 68 #[.int .i32 (x : Int)] W fun e w' => e = .returned (.bool (pR x)) ∧ ∃ q, w' = W.drewN q := by
  unfold pR
  by_cases h1 : x < 33
  · have h1' : (x : Int) < 33 := by omega
    rw [decide_eq_true h1, Bool.true_or]
    go_enter Tryz.func68, Tryz.ntmps68
    go_wp2
    go_ret
    exact ⟨rfl, 0, rfl⟩
  · have h1' : ¬ (x : Int) < 33 := by omega
    rw [decide_eq_false h1, Bool.false_or]
    by_cases h2 : 126 < x
    · have h2' : (x : Int) > 126 := by omega
      rw [decide_eq_true h2]
      go_enter Tryz.func68, Tryz.ntmps68
      go_wp2
      go_ret
      exact ⟨rfl, 0, rfl⟩
    · have h2' : ¬ (x : Int) > 126 := by omega
      rw [decide_eq_false h2]
      go_enter Tryz.func68, Tryz.ntmps68
      go_wp2
      go_ret
      exact ⟨rfl, 0, rfl⟩

theorem containsR (s : ByteArray) (w : World) (b : Bool) (hb : s.data.toList.all rch = b) :
    Calls Tryz.prog 67 #[.string s, .func (.func 68) #[] #[]] w fun e w' => e = .returned (.bool (!b)) ∧ Below w.heap.size w w' := by
  refine (Tryz.strings_ContainsFunc_runes 68 #[] (enters_of Tryz.func68 (by kernel_rfl) rfl) pR s w (fun W x hx _ => pR_fn W x hx)).mono ?_
  rintro e w' ⟨rfl, hw⟩
  have := idx_row s s.size 0 (by omega)
  rw [List.drop_zero, hb] at this
  exact ⟨by rw [← this]; rfl, hw⟩

set_option maxHeartbeats 1000000 in
theorem isWordR_any (s : ByteArray) (w : World) (b : Bool) (hb : rowB s = b) :
    Calls Tryz.prog 37 #[.string s] w fun e w' => e = .returned (.bool b) ∧ Below w.heap.size w w' := by
  unfold rowB rowL at hb
  by_cases h0 : s.data.toList = []
  · have h0' : (s.toList == ([] : List UInt8)) = true := by rw [Lib.toList_data, h0]; rfl
    rw [h0] at hb
    subst hb
    have h0'' : s.toList = [] := by rw [Lib.toList_data, h0]
    clear h0
    go_enter Tryz.func37, Tryz.ntmps37
    go_wp2
    go_ret
    exact ⟨rfl, Below.refl _ _⟩
  · obtain ⟨a, ha⟩ : ∃ a, s.data.toList.all rch = a := ⟨_, rfl⟩
    have h1 : (s.data.toList == []) = false := by simpa using h0
    rw [ha, h1, Bool.not_false, Bool.true_and] at hb
    subst hb
    have h2 : ¬ s.toList = [] := by rw [Lib.toList_data]; exact h0
    have h3 : (s.toList == ([] : List UInt8)) = false := by simpa using h2
    clear h0 h1
    have haH := Lib.hid ha
    clear ha
    go_enter Tryz.func37, Tryz.ntmps37
    go_wp2_with fail
    refine (containsR s _ a haH.out).mono ?_
    rintro e w1 ⟨rfl, hw1⟩
    have hw1H := Lib.hid hw1
    clear hw1
    cases a
    · go_wp2
      go_ret
      exact ⟨rfl, hw1H.out⟩
    · go_wp2
      go_ret
      exact ⟨rfl, hw1H.out⟩
end Go.Proofs.YtpmnkhklfoknhaaGreatDoor.C9
