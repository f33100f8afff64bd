/-
  Strings in pieces and in rows: small facts; that internal/bytealg.MaxLen holds an int.
-/
import Derived.Test.YtpcgfodiikljdaaDoorOrd
import Derived.Lib.SplitLaws
namespace Go.Proofs.YtpcgfodiikljdaaDoor
open Go.RowKit
set_option linter.unusedVariables false

/-- internal/bytealg.MaxLen holds an int -/
def MaxLenAt (w : World) : Prop := ∃ m : Int, w.cell? ⟨0, 0, none⟩ = some (.int .i64 m)
theorem MaxLenAt.below {w w' : World} (h : MaxLenAt w) (hb : Below w.heap.size w w') : MaxLenAt w' := by
  obtain ⟨m, hm⟩ := h
  exact ⟨m, (hb.cell (cell?_lt hm)).trans hm⟩
theorem splitB_size (sep : ByteArray) : ∀ (k : Nat) (s x : ByteArray), x ∈ Lib.splitB sep 0 k s → x.size ≤ s.size
  | 0, s, x, h => by
    rw [Lib.splitB_zero] at h
    simp only [List.mem_singleton] at h
    subst h
    exact Nat.le_refl _
  | k + 1, s, x, h => by
    unfold Lib.splitB at h
    split at h
    · simp only [List.mem_singleton] at h
      subst h
      exact Nat.le_refl _
    · rcases List.mem_cons.1 h with rfl | h
      · simp only [ByteArray.size_extract]; omega
      · have := splitB_size sep k _ x h
        simp only [ByteArray.size_extract] at this
        omega
theorem cell_Str {w : World} {b off m k : Nat} {l : List ByteArray} {x : ByteArray} (h : SlAt RStr w (some ⟨b, off, none⟩) m l) (hx : l[k]? = some x) : w.cell? ⟨b, off + k, none⟩ = some (.string x) := by
  have hk := (List.getElem?_eq_some_iff.1 hx).1
  obtain ⟨b', off', hA, hc⟩ := h.2.1 (by have := h.1; omega)
  obtain ⟨rfl, rfl⟩ : b = b' ∧ off = off' := by simpa using hA
  have := hc k x hx 0 _ rfl
  simpa [RStr] using this

end Go.Proofs.YtpcgfodiikljdaaDoor
