/-
  Strings that hold bytes of a set alone: plain Lean.
-/
import Derived.Test.YtbapkhkklglbaaaDoorRead
import Derived.Lib.SlTrimSet
namespace Go.Proofs.YtbapkhkklglbaaaDoor

theorem dropWhile_nil_iff {α : Type} (p : α → Bool) : ∀ l : List α, (l.dropWhile p = []) ↔ l.all p = true
  | [] => by simp
  | x :: r => by
    have ih := dropWhile_nil_iff p r
    cases hx : p x
    · simp [hx]
    · simp [hx, ih]
theorem dropWhile_head {α : Type} (p : α → Bool) : ∀ (l : List α) (x : α) (r : List α), l.dropWhile p = x :: r → p x = false
  | [], x, r, h => by cases h
  | y :: l, x, r, h => by
    rw [List.dropWhile_cons] at h
    split at h
    · exact dropWhile_head p l x r h
    · rename_i hy
      simp only [List.cons.injEq] at h
      rw [← h.1]
      simpa using hy

/-- Trim leaves nothing just if all bytes are in the set -/
theorem trimS_nil (l cs : List UInt8) : (Lib.trimS l cs = []) ↔ l.all (cs.contains ·) = true := by
  unfold Lib.trimS Lib.trimLeftS Lib.trimRightS
  rw [dropWhile_nil_iff]
  constructor
  · intro h
    rw [List.all_reverse] at h
    have : l.reverse.dropWhile (cs.contains ·) = [] := by
      cases hd : l.reverse.dropWhile (cs.contains ·) with
      | nil => rfl
      | cons x r =>
        have hx := dropWhile_head _ _ _ _ hd
        rw [hd] at h
        simp only [List.all_cons, Bool.and_eq_true] at h
        rw [h.1] at hx
        cases hx
    rw [dropWhile_nil_iff, List.all_reverse] at this
    exact this
  · intro h
    rw [← List.all_reverse, ← dropWhile_nil_iff] at h
    rw [h]
    rfl

theorem byte_all {p : UInt8 → Bool} (h : (List.range 256).all (fun n => p (UInt8.ofNat n)) = true) (b : UInt8) : p b = true := by
  have hb : b.toNat < 256 := b.toNat_lt
  have := List.all_eq_true.1 h b.toNat (List.mem_range.2 hb)
  rwa [UInt8.ofNat_toNat] at this
end Go.Proofs.YtbapkhkklglbaaaDoor
