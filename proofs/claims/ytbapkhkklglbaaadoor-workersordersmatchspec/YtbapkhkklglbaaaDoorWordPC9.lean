/-
  config.IsWord.
-/
import Derived.Test.YtbapkhkklglbaaaDoorWordC9
import Derived.Test.YtbapkhkklglbaaaDoorSets
import Derived.Test.YtbapkhkklglbaaaDoorShelf
import Derived.Shelf.Strings.SlTrimAscii
namespace Go.Proofs.YtbapkhkklglbaaaDoor.C9
open Go.RowKit Go.Shelf
set_option linter.unusedVariables false

def wcut : List UInt8 := [97, 98, 99, 100, 101, 102, 103, 104, 105, 106, 107, 108, 109, 110, 111, 112, 113, 114, 115, 116, 117, 118, 119, 120, 121, 122, 48, 49, 50, 51, 52, 53, 54, 55, 56, 57, 95, 45]
theorem wcut_wch (b : UInt8) : wcut.contains b = wch b := by
  have := byte_all (p := fun b => wcut.contains b == wch b) (by decide +kernel) b
  simpa using this
theorem wcut_all (l : List UInt8) : l.all (wcut.contains ·) = l.all wch := by
  congr 1
  funext b
  exact wcut_wch b

theorem trim_word (s : ByteArray) (w : World) (hs : s.size ≤ 9223372036854775807) :
    Calls Tryd.prog 55 #[.string s, .string ⟨#[97, 98, 99, 100, 101, 102, 103, 104, 105, 106, 107, 108, 109, 110, 111, 112, 113, 114, 115, 116, 117, 118, 119, 120, 121, 122, 48, 49, 50, 51, 52, 53, 54, 55, 56, 57, 95, 45]⟩] w fun e w' =>
      e = .returned (.string ⟨(Lib.trimS s.data.toList wcut).toArray⟩) ∧ Below w.heap.size w w' :=
  Any.strings_Trim_laid Tryd.lays160 (by kernel_rfl) s ⟨#[97, 98, 99, 100, 101, 102, 103, 104, 105, 106, 107, 108, 109, 110, 111, 112, 113, 114, 115, 116, 117, 118, 119, 120, 121, 122, 48, 49, 50, 51, 52, 53, 54, 55, 56, 57, 95, 45]⟩ w hs (by decide) (ascii_of_all (by decide))

theorem trim_nil {s : ByteArray} {cs : List UInt8} (h : s.data.toList.all (cs.contains ·) = true) : (⟨(Lib.trimS s.data.toList cs).toArray⟩ : ByteArray) = ⟨#[]⟩ := by
  rw [(trimS_nil _ _).2 h]
theorem trim_some {s : ByteArray} {cs : List UInt8} (h : s.data.toList.all (cs.contains ·) = false) : ∃ c r, (⟨(Lib.trimS s.data.toList cs).toArray⟩ : ByteArray) = ⟨(c :: r).toArray⟩ := by
  cases hd : Lib.trimS s.data.toList cs with
  | nil => rw [trimS_nil] at hd; rw [hd] at h; cases h
  | cons c r => exact ⟨c, r, rfl⟩

theorem word_any (s : ByteArray) (b : Bool) (w : World) (hs : s.size ≤ maxLen) (hb : wordB s = b) :
    Calls Tryd.prog 40 #[.string s] w fun e w' => e = .returned (.bool b) ∧ Below w.heap.size w w' := by
  unfold maxLen at hs
  by_cases h0 : 1 ≤ s.size
  · by_cases h1 : s.size ≤ 40
    · rw [word_of h0, decide_eq_true h1, Bool.and_true] at hb
      by_cases c0 : 97 ≤ (s[0]'(by omega)).toNat
      · by_cases c1 : (s[0]'(by omega)).toNat ≤ 122
        · rw [decide_eq_true ⟨c0, c1⟩, Bool.true_and, ← wcut_all] at hb
          cases b
          · obtain ⟨c, r, hcr⟩ := trim_some hb
            have hbH := Lib.hid hb
            clear hb
            have hcrH := Lib.hid hcr
            clear hcr
            go_enter Tryd.func40, Tryd.ntmps40
            go_wp2_with fail
            refine (trim_word s _ hs).mono ?_
            rw [hcrH.out]
            rintro e w1 ⟨rfl, hb1⟩
            have hb1H := Lib.hid hb1
            clear hb1
            go_wp2
            go_ret
            exact ⟨rfl, hb1H.out⟩
          · have hcr := trim_nil hb
            have hbH := Lib.hid hb
            clear hb
            have hcrH := Lib.hid hcr
            clear hcr
            go_enter Tryd.func40, Tryd.ntmps40
            go_wp2_with fail
            refine (trim_word s _ hs).mono ?_
            rw [hcrH.out]
            rintro e w1 ⟨rfl, hb1⟩
            have hb1H := Lib.hid hb1
            clear hb1
            go_wp2
            go_ret
            exact ⟨rfl, hb1H.out⟩
        · rw [decide_eq_false (fun h => c1 h.2), Bool.false_and] at hb
          subst hb
          go_enter Tryd.func40, Tryd.ntmps40
          go_wp2
          go_ret
          exact ⟨rfl, Below.refl _ _⟩
      · rw [decide_eq_false (fun h => c0 h.1), Bool.false_and] at hb
        subst hb
        go_enter Tryd.func40, Tryd.ntmps40
        go_wp2
        go_ret
        exact ⟨rfl, Below.refl _ _⟩
    · rw [word_of h0, decide_eq_false h1, Bool.and_false, Bool.false_and] at hb
      subst hb
      go_enter Tryd.func40, Tryd.ntmps40
      go_wp2
      go_ret
      exact ⟨rfl, Below.refl _ _⟩
  · rw [word_empty h0] at hb
    subst hb
    go_enter Tryd.func40, Tryd.ntmps40
    go_wp2
    go_ret
    exact ⟨rfl, Below.refl _ _⟩
end Go.Proofs.YtbapkhkklglbaaaDoor.C9
