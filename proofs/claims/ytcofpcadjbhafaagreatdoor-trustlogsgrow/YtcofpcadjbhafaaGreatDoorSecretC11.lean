/-
  isPlain, isSecret, of the program and of the reference (isRow).
-/
import Derived.Test.YtcofpcadjbhafaaGreatDoorPlainC11
import Derived.Test.YtcofpcadjbhafaaGreatDoorShelf
import Derived.Test.YtcofpcadjbhafaaGreatDoorOrd
namespace Go.Proofs.YtcofpcadjbhafaaGreatDoor.C11
open Go.RowKit Go.Lib
set_option linter.unusedVariables false

def secretB (s : ByteArray) : Bool := decide (1 ≤ s.size) && (decide (s.size ≤ 100) && plainB s)
set_option maxHeartbeats 1000000 in
theorem plain_fn (w : World) : PredAt Tryz.prog 150 #[] encR np w := fun W r _ => by
  unfold FnGives np
  by_cases h1 : r < 33
  · have e1 : ((r : Int) < 33) = True := by simp; omega
    rw [decide_eq_true h1, Bool.true_or]
    go_enter Tryz.func150, Tryz.ntmps150
    go_wp2
    go_ret
    exact ⟨rfl, 0, rfl⟩
  · have e1 : decide ((r : Int) < 33) = false := decide_eq_false (by omega)
    rw [decide_eq_false h1, Bool.false_or]
    by_cases h2 : 126 < r
    · have e2 : decide ((126 : Int) < (r : Int)) = true := decide_eq_true (by omega)
      rw [decide_eq_true h2]
      go_enter Tryz.func150, Tryz.ntmps150
      go_wp2
      all_goals
        go_ret
        first | exact ⟨rfl, 0, rfl⟩ | (refine ⟨?_, 0, rfl⟩; simp [*]; done) | (exfalso; omega)
    · have e2 : decide ((126 : Int) < (r : Int)) = false := decide_eq_false (by omega)
      rw [decide_eq_false h2]
      go_enter Tryz.func150, Tryz.ntmps150
      go_wp2
      all_goals
        go_ret
        first | exact ⟨rfl, 0, rfl⟩ | (refine ⟨?_, 0, rfl⟩; simp [*]; done) | (exfalso; omega)
theorem plain_any (s : ByteArray) (w : World) (b : Bool) (hb : plainB s = b) :
    Calls Tryz.prog 122 #[.string s] w fun e w' => e = .returned (.bool b) ∧ Below w.heap.size w w' := by
  have h := idxFunc_plain s
  rw [hb] at h
  have hbH := Lib.hid hb
  clear hb
  have hH := Lib.hid h
  clear h
  go_enter Tryz.func122, Tryz.ntmps122
  go_wp2_with fail
  refine (Tryz.strings_ContainsFunc 150 #[] (enters_of Tryz.func150 (by kernel_rfl) rfl) np s _ (plain_fn _)).mono ?_
  rintro e w1 ⟨rfl, hw1⟩
  rw [hH.out]
  have hw1H := Lib.hid hw1
  clear hw1
  cases b
  all_goals
    go_wp2
    go_ret
    exact ⟨rfl, hw1H.out⟩
theorem secret_any (s : ByteArray) (w : World) (hs : s.size ≤ maxLen) (b : Bool) (hb : secretB s = b) :
    Calls Tryz.prog 121 #[.string s] w fun e w' => e = .returned (.bool b) ∧ Below w.heap.size w w' := by
  unfold maxLen at hs
  unfold secretB at hb
  by_cases h1 : 1 ≤ s.size
  · rw [decide_eq_true h1, Bool.true_and] at hb
    by_cases h2 : s.size ≤ 100
    · rw [decide_eq_true h2, Bool.true_and] at hb
      have hbH := Lib.hid hb
      clear hb
      go_enter Tryz.func121, Tryz.ntmps121
      go_wp2_with fail
      refine (plain_any s _ b hbH.out).mono ?_
      rintro e w1 ⟨rfl, hw1⟩
      have hw1H := Lib.hid hw1
      clear hw1
      go_wp2
      go_ret
      exact ⟨rfl, hw1H.out⟩
    · rw [decide_eq_false h2, Bool.false_and] at hb
      subst hb
      go_enter Tryz.func121, Tryz.ntmps121
      go_wp2
      go_ret
      exact ⟨rfl, Below.refl _ _⟩
  · rw [decide_eq_false h1, Bool.false_and] at hb
    subst hb
    go_enter Tryz.func121, Tryz.ntmps121
    go_wp2
    go_ret
    exact ⟨rfl, Below.refl _ _⟩

def rowB (s : ByteArray) : Bool := plainB s && !(s.toList == [])
def RowRel (s : ByteArray) (a : Bool) (i : Value) : Prop := ∃ k : Nat, k ≤ s.size ∧ i = .int .i64 k ∧ a = (s.data.toList.drop k).all plch
theorem nil_size (s : ByteArray) : (s.toList == []) = !decide (1 ≤ s.size) := by
  rw [Lib.toList_data, Bool.eq_iff_iff, beq_iff_eq, Bool.not_eq_true', decide_eq_false_iff_not]
  constructor
  · intro h
    have : s.data.toList.length = 0 := by rw [h]; rfl
    rw [Array.length_toList] at this
    show ¬ 1 ≤ s.data.size
    omega
  · intro h
    apply List.eq_nil_of_length_eq_zero
    rw [Array.length_toList]
    have : ¬ 1 ≤ s.data.size := h
    omega
end Go.Proofs.YtcofpcadjbhafaaGreatDoor.C11
