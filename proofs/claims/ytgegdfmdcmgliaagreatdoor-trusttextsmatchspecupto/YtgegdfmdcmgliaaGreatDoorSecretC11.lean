/-
  isPlain, isSecret, of the program and of the reference (isRow).
-/
import Derived.Test.YtgegdfmdcmgliaaGreatDoorPlainC11
import Derived.Test.YtgegdfmdcmgliaaGreatDoorShelf
import Derived.Test.YtgegdfmdcmgliaaGreatDoorOrd
namespace Go.Proofs.YtgegdfmdcmgliaaGreatDoor.C11
open Go.RowKit Go.Lib
set_option linter.unusedVariables false

def secretB (s : ByteArray) : Bool := decide (1 ≤ s.size) && (decide (s.size ≤ 100) && plainB s)
set_option maxHeartbeats 1000000 in
theorem plain_fn (w : World) : PredAt Tryz.prog 103 #[] encR np w := fun W r _ => by
  unfold FnGives np
  by_cases h1 : r < 33
  · have e1 : ((r : Int) < 33) = True := by simp; omega
    rw [decide_eq_true h1, Bool.true_or]
    go_enter Tryz.func103, Tryz.ntmps103
    go_wp2
    go_ret
    exact ⟨rfl, 0, rfl⟩
  · have e1 : decide ((r : Int) < 33) = false := decide_eq_false (by omega)
    rw [decide_eq_false h1, Bool.false_or]
    by_cases h2 : 126 < r
    · have e2 : decide ((126 : Int) < (r : Int)) = true := decide_eq_true (by omega)
      rw [decide_eq_true h2]
      go_enter Tryz.func103, Tryz.ntmps103
      go_wp2
      all_goals
        go_ret
        first | exact ⟨rfl, 0, rfl⟩ | (refine ⟨?_, 0, rfl⟩; simp [*]; done) | (exfalso; omega)
    · have e2 : decide ((126 : Int) < (r : Int)) = false := decide_eq_false (by omega)
      rw [decide_eq_false h2]
      go_enter Tryz.func103, Tryz.ntmps103
      go_wp2
      all_goals
        go_ret
        first | exact ⟨rfl, 0, rfl⟩ | (refine ⟨?_, 0, rfl⟩; simp [*]; done) | (exfalso; omega)
theorem plain_any (s : ByteArray) (w : World) (b : Bool) (hb : plainB s = b) :
    Calls Tryz.prog 67 #[.string s] w fun e w' => e = .returned (.bool b) ∧ Below w.heap.size w w' := by
  have h := idxFunc_plain s
  rw [hb] at h
  have hbH := Lib.hid hb
  clear hb
  have hH := Lib.hid h
  clear h
  go_enter Tryz.func67, Tryz.ntmps67
  go_wp2_with fail
  refine (Tryz.strings_ContainsFunc 103 #[] (enters_of Tryz.func103 (by kernel_rfl) rfl) np s _ (plain_fn _)).mono ?_
  rintro e w1 ⟨rfl, hw1⟩
  rw [hH.out]
  have hw1H := Lib.hid hw1
  clear hw1
  cases b
  all_goals
    go_wp2
    go_ret
    exact ⟨rfl, hw1H.out⟩
theorem secret_any (s : ByteArray) (w : World) (hs : s.size ≤ maxLen) (b : Bool) (hb : secretB s = b) :
    Calls Tryz.prog 114 #[.string s] w fun e w' => e = .returned (.bool b) ∧ Below w.heap.size w w' := by
  unfold maxLen at hs
  unfold secretB at hb
  by_cases h1 : 1 ≤ s.size
  · rw [decide_eq_true h1, Bool.true_and] at hb
    by_cases h2 : s.size ≤ 100
    · rw [decide_eq_true h2, Bool.true_and] at hb
      have hbH := Lib.hid hb
      clear hb
      go_enter Tryz.func114, Tryz.ntmps114
      go_wp2_with fail
      refine (plain_any s _ b hbH.out).mono ?_
      rintro e w1 ⟨rfl, hw1⟩
      have hw1H := Lib.hid hw1
      clear hw1
      go_wp2
      go_ret
      exact ⟨rfl, hw1H.out⟩
    · rw [decide_eq_false h2, Bool.false_and] at hb
      subst hb
      go_enter Tryz.func114, Tryz.ntmps114
      go_wp2
      go_ret
      exact ⟨rfl, Below.refl _ _⟩
  · rw [decide_eq_false h1, Bool.false_and] at hb
    subst hb
    go_enter Tryz.func114, Tryz.ntmps114
    go_wp2
    go_ret
    exact ⟨rfl, Below.refl _ _⟩

def rowB (s : ByteArray) : Bool := plainB s && !(s.toList == [])
def RowRel (s : ByteArray) (a : Bool) (i : Value) : Prop := ∃ k : Nat, k ≤ s.size ∧ i = .int .i64 k ∧ a = (s.data.toList.drop k).all plch
set_option maxHeartbeats 1000000 in
theorem row_any (s : ByteArray) (w : World) (hs : s.size ≤ maxLen) (b : Bool) (hb : rowB s = b) :
    Calls Tryz.prog 70 #[.string s] w fun e w' => e = .returned (.bool b) ∧ w = w' := by
  unfold maxLen at hs
  unfold rowB plainB at hb
  obtain ⟨a, ha⟩ : ∃ a, a = s.data.toList.all plch := ⟨_, rfl⟩
  obtain ⟨e0, he0⟩ : ∃ e0, (s.toList == []) = e0 := ⟨_, rfl⟩
  rw [← ha, he0] at hb
  have haH := Lib.hid ha
  clear ha
  have hbH := Lib.hid hb
  clear hb
  go_enter Tryz.func70, Tryz.ntmps70
  go_wp2
  go_loop [6] (fun i => RowRel s a i) (fun i => s.size - (intOf i).toNat)
  case atStart => exact ⟨0, Nat.zero_le _, rfl, haH.out⟩
  case round =>
    obtain ⟨k, hk, rfl, hr⟩ := hrel
    by_cases hlt : k < s.size
    · have hst := all_step hlt hr
      have hkk : s[k].toNat < 256 := s[k].toNat_lt
      cases hc : plch s[k]
      · have ha0 : a = false := by rw [hst, hc]; rfl
        have hb0 : b = false := by rw [← hbH.out, ha0]; rfl
        subst hb0
        have hn : s[k].toNat < 33 ∨ 126 < s[k].toNat := by
          unfold plch at hc
          rw [decide_eq_false_iff_not] at hc
          omega
        clear hst ha0
        have hrH := Lib.hid hr
        clear hr
        have hcH := Lib.hid hc
        clear hc
        rcases hn with hn | hn
        · go_wp2
          all_goals
            go_ret
            exact ⟨rfl, rfl⟩
        · by_cases hn2 : s[k].toNat < 33
          · go_wp2
            all_goals
              go_ret
              exact ⟨rfl, rfl⟩
          · go_wp2
            all_goals
              go_ret
              exact ⟨rfl, rfl⟩
      · have R : RowRel s a (.int .i64 (k + 1)) := ⟨k + 1, hlt, by go_num, by rw [hst, hc, Bool.true_and]⟩
        have hn : ¬ s[k].toNat < 33 ∧ ¬ 126 < s[k].toNat := by
          unfold plch at hc
          rw [decide_eq_true_iff] at hc
          omega
        obtain ⟨n1, n2⟩ := hn
        clear hst
        have hrH := Lib.hid hr
        clear hr
        have hcH := Lib.hid hc
        clear hc
        have RH := Lib.hid R
        clear R
        go_wp2
        refine ⟨?rel, ?measure⟩
        case measure => (simp [intOf]; omega)
        case rel => first | exact RH.out | exact ⟨rfl, RH.out⟩ | ((try refine ⟨rfl, ?_⟩); (repeat apply Exists.intro); refine ⟨RH.out, ?_⟩; ((repeat' apply And.intro) <;> rfl))
    · have e : s.data.toList.drop k = [] := List.drop_eq_nil_of_le (by simp; omega)
      rw [e] at hr
      have ha1 : a = true := hr
      have hb1 := hbH.out
      rw [ha1, Bool.true_and] at hb1
      clear hr e hbH
      cases e0
      · have hb2 : true = b := hb1
        subst hb2
        clear hb1 ha1
        go_wp2
        go_ret
        exact ⟨rfl, rfl⟩
      · have hb2 : false = b := hb1
        subst hb2
        clear hb1 ha1
        go_wp2
        go_ret
        exact ⟨rfl, rfl⟩
theorem nil_size (s : ByteArray) : (s.toList == []) = !decide (1 ≤ s.size) := by
  rw [Lib.toList_data, Bool.eq_iff_iff, beq_iff_eq, Bool.not_eq_true', decide_eq_false_iff_not]
  constructor
  · intro h
    have : s.data.toList.length = 0 := by rw [h]; rfl
    rw [Array.length_toList] at this
    show ¬ 1 ≤ s.data.size
    omega
  · intro h
    apply List.eq_nil_of_length_eq_zero
    rw [Array.length_toList]
    have : ¬ 1 ≤ s.data.size := h
    omega
end Go.Proofs.YtgegdfmdcmgliaaGreatDoor.C11
