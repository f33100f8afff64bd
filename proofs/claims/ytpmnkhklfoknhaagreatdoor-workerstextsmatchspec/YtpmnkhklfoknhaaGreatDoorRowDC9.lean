/-
  Rows of bytes from 33 to 126, in plain words, and as Go's runes tell them.
-/
import Derived.Test.YtpmnkhklfoknhaaGreatDoorWordC9
import Derived.Lib.SpaceUEq
import Derived.Lib.TrimUEq
import Derived.Shelf.GgClosure.StringsIndexFunc
namespace Go.Proofs.YtpmnkhklfoknhaaGreatDoor.C9
open Go.RowKit Go.Lib
set_option linter.unusedVariables false

def rch (b : UInt8) : Bool := decide (33 ≤ b.toNat ∧ b.toNat ≤ 126)
def rowL (l : List UInt8) : Bool := !(l == []) && l.all rch
def rowB (s : ByteArray) : Bool := rowL s.data.toList
/-- a rune that no such row holds -/
def pR (r : Nat) : Bool := decide (r < 33) || decide (126 < r)

theorem dec_row (s : ByteArray) (pos : Nat) (hp : pos < s.size) : (pR (Utf8.decode s pos).1 = true ∧ rch s[pos] = false) ∨ (pR (Utf8.decode s pos).1 = false ∧ rch s[pos] = true ∧ (Utf8.decode s pos).2 = 1) := by
  have h0 : (s.data.toList.getD pos 0) = s[pos] := by
    rw [List.getD_eq_getElem?_getD, List.getElem?_eq_getElem (by simpa using hp)]; rfl
  rw [decode_N, h0]
  have hb : s[pos].toNat < 256 := s[pos].toNat_lt
  generalize hN : decodeN (s.data.toList.length - pos) s[pos].toNat (s.data.toList.getD (pos + 1) 0).toNat (s.data.toList.getD (pos + 2) 0).toNat (s.data.toList.getD (pos + 3) 0).toNat = d
  have hc := decodeN_cases (s.data.toList.length - pos) s[pos].toNat (s.data.toList.getD (pos + 1) 0).toNat (s.data.toList.getD (pos + 2) 0).toNat (s.data.toList.getD (pos + 3) 0).toNat
  rw [hN] at hc
  unfold pR rch
  rcases hc with ⟨h, hd⟩ | ⟨h, _, _, h2, hd⟩ | ⟨h, _, _, _, h2, hd⟩ | ⟨h, _⟩ | hd
  · subst hd
    by_cases e : 33 ≤ s[pos].toNat ∧ s[pos].toNat ≤ 126
    · right
      simp only [Bool.or_eq_false_iff, decide_eq_false_iff_not, decide_eq_true_eq]
      exact ⟨⟨by omega, by omega⟩, e, trivial⟩
    · left
      simp only [Bool.or_eq_true, decide_eq_false_iff_not, decide_eq_true_eq]
      exact ⟨by omega, e⟩
  · left
    subst hd
    simp only [Bool.or_eq_true, decide_eq_false_iff_not, decide_eq_true_eq]
    refine ⟨by omega, fun ⟨a, b⟩ => ?_⟩
    omega
  · left
    subst hd
    simp only [Bool.or_eq_true, decide_eq_false_iff_not, decide_eq_true_eq]
    refine ⟨by omega, fun ⟨a, b⟩ => ?_⟩
    omega
  · left
    simp only [Bool.or_eq_true, decide_eq_false_iff_not, decide_eq_true_eq]
    refine ⟨by omega, fun ⟨a, b⟩ => ?_⟩
    have hl : decodeN (s.data.toList.length - pos) s[pos].toNat (s.data.toList.getD (pos + 1) 0).toNat (s.data.toList.getD (pos + 2) 0).toNat (s.data.toList.getD (pos + 3) 0).toNat = (s[pos].toNat, 1) := decodeN_ascii _ _ _ _ _ (by omega)
    rw [hN] at hl
    rw [hl] at h
    simp only at h
    omega
  · by_cases e : 33 ≤ s[pos].toNat ∧ s[pos].toNat ≤ 126
    · have hl : decodeN (s.data.toList.length - pos) s[pos].toNat (s.data.toList.getD (pos + 1) 0).toNat (s.data.toList.getD (pos + 2) 0).toNat (s.data.toList.getD (pos + 3) 0).toNat = (s[pos].toNat, 1) := decodeN_ascii _ _ _ _ _ (by omega)
      rw [hN, hd] at hl
      simp only [Prod.mk.injEq] at hl
      omega
    · left
      subst hd
      simp only [Bool.or_eq_true, decide_eq_false_iff_not, decide_eq_true_eq]
      exact ⟨by omega, e⟩

theorem idx_row (s : ByteArray) : ∀ (f pos : Nat), s.size ≤ pos + f → decide (0 ≤ idxFuncFrom pR true s f pos) = !(s.data.toList.drop pos).all rch
  | 0, pos, h => by
    rw [List.drop_eq_nil_of_le (by simpa using h)]
    simp [idxFuncFrom]
  | f + 1, pos, h => by
    unfold idxFuncFrom
    by_cases hp : pos < s.size
    · rw [if_pos hp]
      have hd := all_step (p := rch) hp rfl
      rcases dec_row s pos hp with ⟨h1, h2⟩ | ⟨h1, h2, h3⟩
      · rw [if_pos h1, hd, h2]
        simp
      · rw [if_neg (by rw [h1]; simp), h3, idx_row s f (pos + 1) (by omega), hd, h2, Bool.true_and]
    · rw [if_neg hp, List.drop_eq_nil_of_le (by simp; omega)]
      simp

end Go.Proofs.YtpmnkhklfoknhaaGreatDoor.C9
