/-
  IsDigest, of the program and of the reference.
-/
import Derived.Test.YtgegdfmdcmgliaaGreatDoorWordPC11
import Derived.Test.YtgegdfmdcmgliaaGreatDoorInC11
namespace Go.Proofs.YtgegdfmdcmgliaaGreatDoor.C11
open Go.RowKit Go.Shelf
set_option linter.unusedVariables false

def hexcut : List UInt8 := [48, 49, 50, 51, 52, 53, 54, 55, 56, 57, 97, 98, 99, 100, 101, 102]
def digB (s : ByteArray) : Bool := decide (s.size = 16) && s.data.toList.all (hexcut.contains ·)
theorem digB_size {s : ByteArray} (h : digB s = true) : s.size = 16 := by
  unfold digB at h
  rw [Bool.and_eq_true] at h
  exact of_decide_eq_true h.1
theorem trim_hex (s : ByteArray) (w : World) (hs : s.size ≤ 9223372036854775807) :
    Calls Tryz.prog 61 #[.string s, .string ⟨#[48, 49, 50, 51, 52, 53, 54, 55, 56, 57, 97, 98, 99, 100, 101, 102]⟩] w fun e w' =>
      e = .returned (.string ⟨(Lib.trimS s.data.toList hexcut).toArray⟩) ∧ Below w.heap.size w w' :=
  Any.strings_Trim_laid Tryz.lays160 (by kernel_rfl) s ⟨#[48, 49, 50, 51, 52, 53, 54, 55, 56, 57, 97, 98, 99, 100, 101, 102]⟩ w hs (by decide) (ascii_of_all (by decide))

theorem dig_any (s : ByteArray) (w : World) (b : Bool) (hb : digB s = b) :
    Calls Tryz.prog 30 #[.string s] w fun e w' => e = .returned (.bool b) ∧ Below w.heap.size w w' := by
  unfold digB at hb
  by_cases h : s.size = 16
  · rw [decide_eq_true h, Bool.true_and] at hb
    have h9 : s.size ≤ 9223372036854775807 := by omega
    have hI : (s.size : Int) = 16 := by omega
    cases b
    · obtain ⟨c, r, hcr⟩ := trim_some hb
      have hbH := Lib.hid hb
      clear hb
      have hcrH := Lib.hid hcr
      clear hcr
      have hH := Lib.hid h
      clear h
      go_enter Tryz.func30, Tryz.ntmps30
      go_wp2_with fail
      refine (trim_hex s _ h9).mono ?_
      rw [hcrH.out]
      rintro e w1 ⟨rfl, hb1⟩
      have hb1H := Lib.hid hb1
      clear hb1
      go_wp2
      go_ret
      exact ⟨rfl, hb1H.out⟩
    · have hcr := trim_nil hb
      have hbH := Lib.hid hb
      clear hb
      have hcrH := Lib.hid hcr
      clear hcr
      have hH := Lib.hid h
      clear h
      go_enter Tryz.func30, Tryz.ntmps30
      go_wp2_with fail
      refine (trim_hex s _ h9).mono ?_
      rw [hcrH.out]
      rintro e w1 ⟨rfl, hb1⟩
      have hb1H := Lib.hid hb1
      clear hb1
      go_wp2
      go_ret
      exact ⟨rfl, hb1H.out⟩
  · rw [decide_eq_false h, Bool.false_and] at hb
    subst hb
    have hI : ((s.size : Int) == 16) = false := by rw [beq_eq_false_iff_ne]; omega
    have hI2 : ¬ (s.size : Int) = 16 := by omega
    have hH := Lib.hid h
    clear h
    go_enter Tryz.func30, Tryz.ntmps30
    go_wp2_with fail
    go_ret
    exact ⟨rfl, Below.refl _ _⟩
theorem rdig_any (s : ByteArray) (w : World) (b : Bool) (hb : digB s = b) :
    Calls Tryz.prog 32 #[.string s] w fun e w' => e = .returned (.bool b) ∧ Below w.heap.size w w' := by
  unfold digB at hb
  by_cases h : s.size = 16
  · rw [decide_eq_true h, Bool.true_and] at hb
    have h9 : s.size ≤ 9223372036854775807 := by omega
    have hI : (s.size : Int) = 16 := by omega
    cases b
    · obtain ⟨c, r, hcr⟩ := trim_some hb
      have hbH := Lib.hid hb
      clear hb
      have hcrH := Lib.hid hcr
      clear hcr
      have hH := Lib.hid h
      clear h
      go_enter Tryz.func32, Tryz.ntmps32
      go_wp2_with fail
      refine (trim_hex s _ h9).mono ?_
      rw [hcrH.out]
      rintro e w1 ⟨rfl, hb1⟩
      have hb1H := Lib.hid hb1
      clear hb1
      go_wp2
      go_ret
      exact ⟨rfl, hb1H.out⟩
    · have hcr := trim_nil hb
      have hbH := Lib.hid hb
      clear hb
      have hcrH := Lib.hid hcr
      clear hcr
      have hH := Lib.hid h
      clear h
      go_enter Tryz.func32, Tryz.ntmps32
      go_wp2_with fail
      refine (trim_hex s _ h9).mono ?_
      rw [hcrH.out]
      rintro e w1 ⟨rfl, hb1⟩
      have hb1H := Lib.hid hb1
      clear hb1
      go_wp2
      go_ret
      exact ⟨rfl, hb1H.out⟩
  · rw [decide_eq_false h, Bool.false_and] at hb
    subst hb
    have hI : ((s.size : Int) == 16) = false := by rw [beq_eq_false_iff_ne]; omega
    have hI2 : ¬ (s.size : Int) = 16 := by omega
    have hH := Lib.hid h
    clear h
    go_enter Tryz.func32, Tryz.ntmps32
    go_wp2_with fail
    go_ret
    exact ⟨rfl, Below.refl _ _⟩
end Go.Proofs.YtgegdfmdcmgliaaGreatDoor.C11
