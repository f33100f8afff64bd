/-
  Whole labels, in plain words.
-/
import Derived.Test.YtgegdfmdcmgliaaGreatDoorPathC11
import Derived.Lib.IndexBytes
import Derived.Lib.IndexLaws
import Derived.Lib.IndexMore
namespace Go.Proofs.YtgegdfmdcmgliaaGreatDoor.C11
open Go.RowKit Go.Lib
set_option linter.unusedVariables false

def bs (l : List UInt8) : ByteArray := ⟨l.toArray⟩
theorem bs_data (l : List UInt8) : (bs l).data.toList = l := by simp [bs]
theorem bs_size (l : List UInt8) : (bs l).size = l.length := by simp [bs, ByteArray.size]
theorem data_bs (s : ByteArray) : bs s.data.toList = s := by cases s; simp [bs]
theorem bs_inj {a b : List UInt8} (h : bs a = bs b) : a = b := by rw [← bs_data a, ← bs_data b, h]

theorem cut_cases (s : List UInt8) : ((58 : UInt8) ∉ s ∧ cut s [58] = (s, [], false)) ∨ ∃ a b, s = a ++ 58 :: b ∧ (58 : UInt8) ∉ a ∧ cut s [58] = (a, b, true) := by
  have hi := index_one s 58
  have hge := indexByte_ge s 58
  by_cases h : 0 ≤ indexByte s 58
  · right
    obtain ⟨o, ho⟩ : ∃ o : Nat, indexByte s 58 = o := ⟨(indexByte s 58).toNat, by omega⟩
    obtain ⟨h1, h2⟩ := indexByte_some ho
    obtain ⟨hlt, hget⟩ := List.getElem?_eq_some_iff.1 h1
    have e : s = s.take o ++ 58 :: s.drop (o + 1) := by
      conv => lhs; rw [← List.take_append_drop o s]
      rw [drop_cons h1]
    refine ⟨s.take o, s.drop (o + 1), e, fun hin => ?_, ?_⟩
    · obtain ⟨j, hj, hx⟩ := List.getElem_of_mem hin
      have hjo : j < o := by rw [List.length_take] at hj; omega
      rw [List.getElem_take] at hx
      exact h2 j hjo (by rw [← hx]; exact List.getElem?_eq_getElem (by omega))
    · unfold cut
      rw [hi, ho, if_pos (by omega)]
      simp
  · left
    have hn : indexByte s 58 = -1 := by omega
    refine ⟨fun hin => ?_, by unfold cut; rw [hi, hn, if_neg (by omega)]⟩
    obtain ⟨j, hj, hx⟩ := List.getElem_of_mem hin
    exact indexByte_none hn j (by rw [← hx]; exact List.getElem?_eq_getElem hj)
theorem split_uniq : ∀ {a b c d : List UInt8}, a ++ 58 :: b = c ++ 58 :: d → (58 : UInt8) ∉ a → (58 : UInt8) ∉ c → a = c ∧ b = d
  | [], b, [], d, h, _, _ => by
    simp only [List.nil_append, List.cons.injEq, true_and] at h
    exact ⟨rfl, h⟩
  | [], b, x :: c, d, h, _, hc => by
    simp only [List.nil_append, List.cons_append, List.cons.injEq] at h
    exact absurd (by rw [← h.1]; exact List.mem_cons_self) hc
  | x :: a, b, [], d, h, ha, _ => by
    simp only [List.nil_append, List.cons_append, List.cons.injEq] at h
    exact absurd (by rw [h.1]; exact List.mem_cons_self) ha
  | x :: a, b, y :: c, d, h, ha, hc => by
    simp only [List.cons_append, List.cons.injEq] at h
    obtain ⟨e1, e2⟩ := split_uniq h.2 (fun h => ha (List.mem_cons_of_mem _ h)) (fun h => hc (List.mem_cons_of_mem _ h))
    exact ⟨by rw [h.1, e1], e2⟩
theorem cut_of {s a b : List UInt8} (h : s = a ++ 58 :: b) (ha : (58 : UInt8) ∉ a) : cut s [58] = (a, b, true) := by
  rcases cut_cases s with ⟨h1, _⟩ | ⟨a', b', h1, h2, h3⟩
  · exact absurd (by rw [h]; simp) h1
  · obtain ⟨rfl, rfl⟩ := split_uniq (h.symm.trans h1) ha h2
    exact h3
theorem cut_no {s : List UInt8} (h : (58 : UInt8) ∉ s) : cut s [58] = (s, [], false) := by
  rcases cut_cases s with ⟨_, h1⟩ | ⟨a, b, h1, _, _⟩
  · exact h1
  · exact absurd (by rw [h1]; simp) h

def okPkgB (s : ByteArray) : Bool := decide (s = bs []) || pathB s
def checkB (p n : ByteArray) : Bool := okPkgB p && pathB n
/-- whether a text is the whole text of a label -/
def labelL (t : List UInt8) : Bool := hasPrefix t [47, 47] && ((cut (t.drop 2) [58]).2.2 && checkB (bs (cut (t.drop 2) [58]).1) (bs (cut (t.drop 2) [58]).2.1))
def wholeL (p n : List UInt8) : List UInt8 := [47, 47] ++ p ++ [58] ++ n

theorem pref2 {t : List UInt8} (h : hasPrefix t [47, 47] = true) : t = 47 :: 47 :: t.drop 2 := by
  unfold hasPrefix at h
  match t, h with
  | [a], h => simp [List.isPrefixOf] at h
  | a :: b :: r, h =>
    simp only [List.isPrefixOf, Bool.and_eq_true, beq_iff_eq] at h
    rw [← h.1, ← h.2.1]
    rfl
theorem pref2_of (r : List UInt8) : hasPrefix (47 :: 47 :: r) [47, 47] = true := by simp [hasPrefix, List.isPrefixOf]
theorem whole_pref (p n : List UInt8) : hasPrefix (wholeL p n) [47, 47] = true := by
  unfold wholeL
  simp only [List.cons_append, List.nil_append, List.append_assoc]
  exact pref2_of _
/-- the whole text cut again -/
theorem label_of {p n : List UInt8} (h : (58 : UInt8) ∉ p) : labelL (wholeL p n) = checkB (bs p) (bs n) := by
  have e : (wholeL p n).drop 2 = p ++ 58 :: n := by simp [wholeL]
  unfold labelL
  rw [whole_pref, e, cut_of rfl h]
  simp
theorem label_no_pref {t : List UInt8} (h : hasPrefix t [47, 47] = false) : labelL t = false := by unfold labelL; rw [h]; rfl
theorem label_no_colon {t : List UInt8} (h : (58 : UInt8) ∉ t.drop 2) : labelL t = false := by
  unfold labelL
  rw [cut_no h]
  simp
theorem not_whole_no_pref {t p n : List UInt8} (h : hasPrefix t [47, 47] = false) : wholeL p n ≠ t := fun e => by rw [← e, whole_pref] at h; cases h
theorem not_whole_long {t n : List UInt8} (h : hasPrefix t [47, 47] = true) : wholeL (t.drop 2) n ≠ t := fun e => by
  have h1 := congrArg List.length e
  have h2 := congrArg List.length (pref2 h)
  simp only [wholeL, List.length_append, List.length_cons, List.length_nil] at h1 h2
  omega
end Go.Proofs.YtgegdfmdcmgliaaGreatDoor.C11
