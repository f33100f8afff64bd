/-
  Go's order of strings: plain Lean.
-/
import Derived.Test.YtbapkhkklglbaaaDoorRead
import Derived.Lib.Bytealg
import Derived.Lib.Small
namespace Go.Proofs.YtbapkhkklglbaaaDoor
open Go.RowKit
set_option linter.unusedVariables false

def cmpB : List UInt8 → List UInt8 → Int := Lib.compareBytes

theorem cmpB_zero : ∀ a b : List UInt8, cmpB a b = 0 ↔ a = b
  | [], [] => by simp [cmpB, Lib.compareBytes]
  | [], _ :: _ => by simp [cmpB, Lib.compareBytes]
  | _ :: _, [] => by simp [cmpB, Lib.compareBytes]
  | x :: r, y :: s => by
    have ih := cmpB_zero r s
    unfold cmpB at ih ⊢
    unfold Lib.compareBytes
    by_cases h : x < y
    · simp only [if_pos h, List.cons.injEq]
      exact ⟨fun h => (by cases h), fun h' => by rw [h'.1] at h; exact absurd h (by simp)⟩
    · by_cases h2 : y < x
      · simp only [if_neg h, if_pos h2, List.cons.injEq]
        exact ⟨fun h => (by cases h), fun h' => by rw [h'.1] at h2; exact absurd h2 (by simp)⟩
      · rw [if_neg h, if_neg h2, ih]
        have : x = y := by
          have h1 : y ≤ x := UInt8.not_lt.1 h
          have h3 : x ≤ y := UInt8.not_lt.1 h2
          exact UInt8.le_antisymm h3 h1
        simp [this]
theorem cmpB_swap : ∀ a b : List UInt8, cmpB b a = - cmpB a b
  | [], [] => by simp [cmpB, Lib.compareBytes]
  | [], _ :: _ => by simp [cmpB, Lib.compareBytes]
  | _ :: _, [] => by simp [cmpB, Lib.compareBytes]
  | x :: r, y :: s => by
    have ih := cmpB_swap r s
    unfold cmpB at ih ⊢
    unfold Lib.compareBytes
    by_cases h : x < y
    · have h2 : ¬ y < x := fun h2 => by have := UInt8.lt_trans h h2; simp at this
      rw [if_pos h, if_neg h2, if_pos h]; rfl
    · by_cases h2 : y < x
      · rw [if_pos h2, if_neg h, if_pos h2]
      · rw [if_neg h2, if_neg h, if_neg h, if_neg h2, ih]
theorem cmpB_range : ∀ a b : List UInt8, cmpB a b = -1 ∨ cmpB a b = 0 ∨ cmpB a b = 1
  | [], [] => by simp [cmpB, Lib.compareBytes]
  | [], _ :: _ => by simp [cmpB, Lib.compareBytes]
  | _ :: _, [] => by simp [cmpB, Lib.compareBytes]
  | x :: r, y :: s => by
    have ih := cmpB_range r s
    unfold cmpB at ih ⊢
    unfold Lib.compareBytes
    split
    · exact Or.inl rfl
    · split
      · exact Or.inr (Or.inr rfl)
      · exact ih
theorem cmpB_trans : ∀ a b c : List UInt8, cmpB a b = -1 → cmpB b c = -1 → cmpB a c = -1
  | [], [], c, h, _ => by simp [cmpB, Lib.compareBytes] at h
  | [], _ :: _, [], _, h => by simp [cmpB, Lib.compareBytes] at h
  | [], _ :: _, _ :: _, _, _ => by simp [cmpB, Lib.compareBytes]
  | _ :: _, [], _, h, _ => by simp [cmpB, Lib.compareBytes] at h
  | _ :: _, _ :: _, [], _, h => by simp [cmpB, Lib.compareBytes] at h
  | x :: r, y :: s, z :: t, h1, h2 => by
    have ih := cmpB_trans r s t
    unfold cmpB at ih h1 h2 ⊢
    unfold Lib.compareBytes at h1 h2 ⊢
    by_cases a : x < y
    · by_cases b : y < z
      · rw [if_pos (UInt8.lt_trans a b)]
      · rw [if_neg b] at h2
        by_cases b2 : z < y
        · rw [if_pos b2] at h2; cases h2
        · have : y = z := UInt8.le_antisymm (UInt8.not_lt.1 b2) (UInt8.not_lt.1 b)
          subst this
          rw [if_pos a]
    · rw [if_neg a] at h1
      by_cases a2 : y < x
      · rw [if_pos a2] at h1; cases h1
      · have : x = y := UInt8.le_antisymm (UInt8.not_lt.1 a2) (UInt8.not_lt.1 a)
        subst this
        rw [if_neg a2] at h1
        by_cases b : x < z
        · rw [if_pos b]
        · rw [if_neg b] at h2 ⊢
          by_cases b2 : z < x
          · rw [if_pos b2] at h2; cases h2
          · rw [if_neg b2] at h2 ⊢
            exact ih h1 h2
theorem less_cmpB : ∀ a b : List UInt8, Op.bytesLess a b = decide (cmpB a b = -1)
  | [], [] => by simp [cmpB, Lib.compareBytes, Op.bytesLess]
  | [], _ :: _ => by simp [cmpB, Lib.compareBytes, Op.bytesLess]
  | _ :: _, [] => by simp [cmpB, Lib.compareBytes, Op.bytesLess]
  | x :: r, y :: s => by
    have ih := less_cmpB r s
    unfold cmpB at ih ⊢
    unfold Lib.compareBytes
    rw [Op.bytesLess, ih]
    by_cases h : x < y
    · simp [h]
    · by_cases h2 : y < x
      · have hne : (x == y) = false := by
          rw [beq_eq_false_iff_ne]; intro e; rw [e] at h2; simp at h2
        simp [h, h2, hne]
      · have : x = y := UInt8.le_antisymm (UInt8.not_lt.1 h2) (UInt8.not_lt.1 h)
        subst this
        simp

/-- Go's <= on strings -/
def sle (a b : ByteArray) : Bool := Op.bytesLess a.toList b.toList || a.toList == b.toList

theorem cell_new (w : World) (cs : Array Value) (t : TypeId) (j : Nat) : (w.alloc (.cells cs t)).cell? ⟨w.heap.size, j, none⟩ = cs[j]? := by
  simp [go_sem]

/-- Go's order of strings -/
def cmpS (a b : ByteArray) : Int := cmpB a.data.toList b.data.toList
def ltS (a b : ByteArray) : Bool := Op.bytesLess a.toList b.toList
theorem ltS_cmp (a b : ByteArray) : ltS a b = decide (cmpS a b = -1) := by rw [ltS, Lib.toList_data, Lib.toList_data, less_cmpB]; rfl
theorem cmpS_zero (a b : ByteArray) : cmpS a b = 0 ↔ a = b := by
  rw [cmpS, cmpB_zero]
  constructor
  · intro h
    cases a; cases b
    simpa using h
  · rintro rfl; rfl
theorem cmpS_swap (a b : ByteArray) : cmpS b a = - cmpS a b := cmpB_swap _ _
theorem cmpS_range (a b : ByteArray) : cmpS a b = -1 ∨ cmpS a b = 0 ∨ cmpS a b = 1 := cmpB_range _ _
theorem cmpS_trans {a b c : ByteArray} : cmpS a b = -1 → cmpS b c = -1 → cmpS a c = -1 := cmpB_trans _ _ _
theorem sle_cmp (a b : ByteArray) : sle a b = decide (cmpS a b ≤ 0) := by
  have h1 : (a.toList == b.toList) = decide (cmpS a b = 0) := by
    rw [Bool.eq_iff_iff, beq_iff_eq, decide_eq_true_iff, Lib.toList_data, Lib.toList_data, cmpS, cmpB_zero]
  have h2 := ltS_cmp a b
  unfold ltS at h2
  rw [sle, h1, h2]
  rcases cmpS_range a b with h | h | h <;> rw [h] <;> decide
theorem beq_data (a b : ByteArray) : (a.toList == b.toList) = decide (a = b) := by
  rw [Bool.eq_iff_iff, beq_iff_eq, decide_eq_true_iff, Lib.toList_data, Lib.toList_data]
  constructor
  · intro h
    cases a; cases b
    simpa using h
  · rintro rfl; rfl
theorem bne_data {a b : ByteArray} (h : ¬ a = b) : (!a.toList == b.toList) = true := by rw [beq_data, decide_eq_false h]; rfl
theorem nbne_data {a b : ByteArray} (h : a = b) : (!a.toList == b.toList) = false := by rw [beq_data, decide_eq_true h]; rfl
end Go.Proofs.YtbapkhkklglbaaaDoor
