/-
  Strings of bytes from 33 to 126 alone: in plain words, and as Go's runes tell them.
-/
import Derived.Test.YtgegdfmdcmgliaaGreatDoorWordC11
import Derived.Shelf.GgClosure.StringsIndexFunc
namespace Go.Proofs.YtgegdfmdcmgliaaGreatDoor.C11
open Go.RowKit Go.Lib
set_option linter.unusedVariables false

def plch (b : UInt8) : Bool := decide (33 ≤ b.toNat ∧ b.toNat ≤ 126)
def plainB (s : ByteArray) : Bool := s.data.toList.all plch
/-- what the program asks of a rune -/
def np (r : Nat) : Bool := decide (r < 33) || decide (126 < r)

theorem np_big {r : Nat} (h : 126 < r) : np r = true := by unfold np; rw [decide_eq_true h, Bool.or_true]
theorem np_byte (b : UInt8) : np b.toNat = !plch b := by
  unfold np plch
  rw [Bool.eq_iff_iff]
  simp only [Bool.or_eq_true, decide_eq_true_iff, Bool.not_eq_true', decide_eq_false_iff_not]
  omega
theorem decode_small {s : ByteArray} {pos : Nat} (h : (s.get! pos).toNat < 128) : Utf8.decode s pos = ((s.get! pos).toNat, 1) := by
  unfold Utf8.decode
  simp only [Nat.add_zero, h, if_true]
theorem decode_large {s : ByteArray} {pos : Nat} (h : ¬ (s.get! pos).toNat < 128) : 126 < (Utf8.decode s pos).1 := by
  unfold Utf8.decode
  simp only [Nat.add_zero, h, if_false]
  have hr : 126 < Utf8.runeError := by decide
  repeat' split
  all_goals simp only
  all_goals first | exact hr | omega | (rename_i hc; simp only [Bool.and_eq_true, decide_eq_true_eq, ge_iff_le] at hc; omega)
theorem idx_plain (s : ByteArray) : ∀ f pos, s.size ≤ pos + f → decide (0 ≤ idxFuncFrom np true s f pos) = !(s.data.toList.drop pos).all plch
  | 0, pos, h => by
    have : s.data.toList.drop pos = [] := List.drop_eq_nil_of_le (by simp; omega)
    rw [this]; rfl
  | f + 1, pos, h => by
    unfold idxFuncFrom
    by_cases hp : pos < s.size
    · rw [if_pos hp, drop_cons (str_get hp), List.all_cons]
      have hg : s.get! pos = s[pos] := by
        show s.data[pos]! = s.data[pos]
        exact getElem!_pos s.data pos hp
      by_cases hs : (s.get! pos).toNat < 128
      · rw [decode_small hs]
        simp only
        rw [hg, np_byte]
        cases hc : plch s[pos]
        · simp
        · simp only [Bool.not_true, Bool.false_eq_true, if_false, Bool.true_and]
          exact idx_plain s f (pos + 1) (by omega)
      · rw [np_big (decode_large hs), if_pos rfl]
        have : plch s[pos] = false := by
          unfold plch
          rw [hg] at hs
          rw [decide_eq_false_iff_not]
          omega
        rw [this]
        simp
    · have : s.data.toList.drop pos = [] := List.drop_eq_nil_of_le (by simp; omega)
      rw [if_neg hp, this]; rfl
theorem idxFunc_plain (s : ByteArray) : decide (0 ≤ idxFunc np true s) = !plainB s := by
  unfold idxFunc plainB
  have := idx_plain s s.size 0 (by omega)
  rwa [List.drop_zero] at this
end Go.Proofs.YtgegdfmdcmgliaaGreatDoor.C11
