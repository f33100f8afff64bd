/-
  A word: what the reference's isWord says.
-/
import Derived.Test.YtpmjlbmegieieaaDoorRead
namespace Go.Proofs.YtpmjlbmegieieaaDoor.C9
open Go.RowKit
set_option linter.unusedVariables false

/-- a byte that a word can hold -/
def wch (b : UInt8) : Bool := decide ((97 ≤ b.toNat ∧ b.toNat ≤ 122) ∨ (48 ≤ b.toNat ∧ b.toNat ≤ 57) ∨ b.toNat = 45 ∨ b.toNat = 95)
def wordL : List UInt8 → Bool
  | [] => false
  | c :: r => decide (97 ≤ c.toNat ∧ c.toNat ≤ 122) && decide (r.length < 40) && (c :: r).all wch
/-- whether a string is a word -/
def wordB (s : ByteArray) : Bool := wordL s.data.toList

theorem str_get {s : ByteArray} {k : Nat} (h : k < s.size) : s.data.toList[k]? = some s[k] := by
  rw [List.getElem?_eq_getElem (by simpa using h)]
  rfl

theorem all_step {p : UInt8 → Bool} {s : ByteArray} {k : Nat} {b : Bool} (h : k < s.size) (hb : b = (s.data.toList.drop k).all p) : b = (p s[k] && (s.data.toList.drop (k + 1)).all p) := by
  rw [hb, List.drop_eq_getElem_cons (by simpa using h), List.all_cons]
  rfl

def WordRel (s : ByteArray) (b : Bool) (i : Value) : Prop := ∃ k : Nat, k ≤ s.size ∧ i = .int .i64 k ∧ b = (s.data.toList.drop k).all wch

theorem ret_bool {a b : Bool} (h : a = b) : Ending.returned (.bool a) = .returned (.bool b) := by rw [h]

theorem word_of {s : ByteArray} (h : 1 ≤ s.size) : wordB s = (decide (97 ≤ (s[0]'(by omega)).toNat ∧ (s[0]'(by omega)).toNat ≤ 122) && decide (s.size ≤ 40) && s.data.toList.all wch) := by
  unfold wordB
  have h0 := str_get (s := s) (k := 0) (by omega)
  have hl : s.data.toList.length = s.size := by simp
  cases hd : s.data.toList with
  | nil => rw [hd] at hl; simp at hl; omega
  | cons c r =>
    rw [hd] at h0 hl
    simp only [List.getElem?_cons_zero, Option.some.injEq] at h0
    simp only [List.length_cons] at hl
    have e : decide (r.length < 40) = decide (s.size ≤ 40) := decide_eq_decide.2 (by omega)
    rw [← h0]
    show (decide (97 ≤ c.toNat ∧ c.toNat ≤ 122) && decide (r.length < 40) && (c :: r).all wch) = _
    rw [e]
theorem word_empty {s : ByteArray} (h : ¬ 1 ≤ s.size) : wordB s = false := by
  unfold wordB
  have hl : s.data.toList.length = s.size := by simp
  cases hd : s.data.toList with
  | nil => rfl
  | cons c r => rw [hd] at hl; simp only [List.length_cons] at hl; omega

end Go.Proofs.YtpmjlbmegieieaaDoor.C9
