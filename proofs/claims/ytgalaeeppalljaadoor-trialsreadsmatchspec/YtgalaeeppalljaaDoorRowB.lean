/-
  Rows of bytes from 33 to 126: isWord of the program's text reader, isRow of the reference.
-/
import Derived.Test.YtgalaeeppalljaaDoorPath
import Derived.Test.YtgalaeeppalljaaDoorShelfC
import Derived.Lib.SpaceUEq
import Derived.Lib.TrimUEq
namespace Go.Proofs.YtgalaeeppalljaaDoor
open Go.RowKit Go.Lib
set_option linter.unusedVariables false

def rch (b : UInt8) : Bool := decide (33 ≤ b.toNat ∧ b.toNat ≤ 126)
def rowL (l : List UInt8) : Bool := !(l == []) && l.all rch
def rowB (s : ByteArray) : Bool := rowL s.data.toList
/-- a rune that no such row holds -/
def pR (r : Nat) : Bool := decide (r < 33) || decide (126 < r)

theorem dec_row (s : ByteArray) (pos : Nat) (hp : pos < s.size) : (pR (Utf8.decode s pos).1 = true ∧ rch s[pos] = false) ∨ (pR (Utf8.decode s pos).1 = false ∧ rch s[pos] = true ∧ (Utf8.decode s pos).2 = 1) := by
  have h0 : (s.data.toList.getD pos 0) = s[pos] := by
    rw [List.getD_eq_getElem?_getD, List.getElem?_eq_getElem (by simpa using hp)]; rfl
  rw [decode_N, h0]
  have hb : s[pos].toNat < 256 := s[pos].toNat_lt
  generalize hN : decodeN (s.data.toList.length - pos) s[pos].toNat (s.data.toList.getD (pos + 1) 0).toNat (s.data.toList.getD (pos + 2) 0).toNat (s.data.toList.getD (pos + 3) 0).toNat = d
  have hc := decodeN_cases (s.data.toList.length - pos) s[pos].toNat (s.data.toList.getD (pos + 1) 0).toNat (s.data.toList.getD (pos + 2) 0).toNat (s.data.toList.getD (pos + 3) 0).toNat
  rw [hN] at hc
  unfold pR rch
  rcases hc with ⟨h, hd⟩ | ⟨h, _, _, h2, hd⟩ | ⟨h, _, _, _, h2, hd⟩ | ⟨h, _⟩ | hd
  · subst hd
    by_cases e : 33 ≤ s[pos].toNat ∧ s[pos].toNat ≤ 126
    · right
      simp only [Bool.or_eq_false_iff, decide_eq_false_iff_not, decide_eq_true_eq]
      exact ⟨⟨by omega, by omega⟩, e, trivial⟩
    · left
      simp only [Bool.or_eq_true, decide_eq_false_iff_not, decide_eq_true_eq]
      exact ⟨by omega, e⟩
  · left
    subst hd
    simp only [Bool.or_eq_true, decide_eq_false_iff_not, decide_eq_true_eq]
    refine ⟨by omega, fun ⟨a, b⟩ => ?_⟩
    omega
  · left
    subst hd
    simp only [Bool.or_eq_true, decide_eq_false_iff_not, decide_eq_true_eq]
    refine ⟨by omega, fun ⟨a, b⟩ => ?_⟩
    omega
  · left
    simp only [Bool.or_eq_true, decide_eq_false_iff_not, decide_eq_true_eq]
    refine ⟨by omega, fun ⟨a, b⟩ => ?_⟩
    have hl : decodeN (s.data.toList.length - pos) s[pos].toNat (s.data.toList.getD (pos + 1) 0).toNat (s.data.toList.getD (pos + 2) 0).toNat (s.data.toList.getD (pos + 3) 0).toNat = (s[pos].toNat, 1) := decodeN_ascii _ _ _ _ _ (by omega)
    rw [hN] at hl
    rw [hl] at h
    simp only at h
    omega
  · by_cases e : 33 ≤ s[pos].toNat ∧ s[pos].toNat ≤ 126
    · have hl : decodeN (s.data.toList.length - pos) s[pos].toNat (s.data.toList.getD (pos + 1) 0).toNat (s.data.toList.getD (pos + 2) 0).toNat (s.data.toList.getD (pos + 3) 0).toNat = (s[pos].toNat, 1) := decodeN_ascii _ _ _ _ _ (by omega)
      rw [hN, hd] at hl
      simp only [Prod.mk.injEq] at hl
      omega
    · left
      subst hd
      simp only [Bool.or_eq_true, decide_eq_false_iff_not, decide_eq_true_eq]
      exact ⟨by omega, e⟩

theorem idx_row (s : ByteArray) : ∀ (f pos : Nat), s.size ≤ pos + f → decide (0 ≤ idxFuncFrom pR true s f pos) = !(s.data.toList.drop pos).all rch
  | 0, pos, h => by
    rw [List.drop_eq_nil_of_le (by simpa using h)]
    simp [idxFuncFrom]
  | f + 1, pos, h => by
    unfold idxFuncFrom
    by_cases hp : pos < s.size
    · rw [if_pos hp]
      have hd := all_step (p := rch) hp rfl
      rcases dec_row s pos hp with ⟨h1, h2⟩ | ⟨h1, h2, h3⟩
      · rw [if_pos h1, hd, h2]
        simp
      · rw [if_neg (by rw [h1]; simp), h3, idx_row s f (pos + 1) (by omega), hd, h2, Bool.true_and]
    · rw [if_neg hp, List.drop_eq_nil_of_le (by simp; omega)]
      simp

set_option maxHeartbeats 1000000 in
theorem pR_fn (W : World) (x : Nat) (hx : x ≤ 1114111) : Calls Tryd.prog 149 #[.int .i32 (x : Int)] W fun e w' => e = .returned (.bool (pR x)) ∧ ∃ q, w' = W.drewN q := by
  unfold pR
  by_cases h1 : x < 33
  · have h1' : (x : Int) < 33 := by omega
    rw [decide_eq_true h1, Bool.true_or]
    go_enter Tryd.func149, Tryd.ntmps149
    go_wp2
    go_ret
    exact ⟨rfl, 0, rfl⟩
  · have h1' : ¬ (x : Int) < 33 := by omega
    rw [decide_eq_false h1, Bool.false_or]
    by_cases h2 : 126 < x
    · have h2' : (x : Int) > 126 := by omega
      rw [decide_eq_true h2]
      go_enter Tryd.func149, Tryd.ntmps149
      go_wp2
      go_ret
      exact ⟨rfl, 0, rfl⟩
    · have h2' : ¬ (x : Int) > 126 := by omega
      rw [decide_eq_false h2]
      go_enter Tryd.func149, Tryd.ntmps149
      go_wp2
      go_ret
      exact ⟨rfl, 0, rfl⟩

theorem containsR (s : ByteArray) (w : World) (b : Bool) (hb : s.data.toList.all rch = b) :
    Calls Tryd.prog 148 #[.string s, .func (.func 149) #[] #[]] w fun e w' => e = .returned (.bool (!b)) ∧ Below w.heap.size w w' := by
  refine (Tryd.strings_ContainsFunc_runes 149 #[] (enters_of Tryd.func149 (by kernel_rfl) rfl) pR s w (fun W x hx _ => pR_fn W x hx)).mono ?_
  rintro e w' ⟨rfl, hw⟩
  have := idx_row s s.size 0 (by omega)
  rw [List.drop_zero, hb] at this
  exact ⟨by rw [← this]; rfl, hw⟩

set_option maxHeartbeats 1000000 in
theorem isWordR_any (s : ByteArray) (w : World) (b : Bool) (hb : rowB s = b) :
    Calls Tryd.prog 119 #[.string s] w fun e w' => e = .returned (.bool b) ∧ Below w.heap.size w w' := by
  unfold rowB rowL at hb
  by_cases h0 : s.data.toList = []
  · have h0' : (s.toList == ([] : List UInt8)) = true := by rw [Lib.toList_data, h0]; rfl
    rw [h0] at hb
    subst hb
    have h0'' : s.toList = [] := by rw [Lib.toList_data, h0]
    clear h0
    go_enter Tryd.func119, Tryd.ntmps119
    go_wp2
    go_ret
    exact ⟨rfl, Below.refl _ _⟩
  · obtain ⟨a, ha⟩ : ∃ a, s.data.toList.all rch = a := ⟨_, rfl⟩
    have h1 : (s.data.toList == []) = false := by simpa using h0
    rw [ha, h1, Bool.not_false, Bool.true_and] at hb
    subst hb
    have h2 : ¬ s.toList = [] := by rw [Lib.toList_data]; exact h0
    have h3 : (s.toList == ([] : List UInt8)) = false := by simpa using h2
    clear h0 h1
    have haH := Lib.hid ha
    clear ha
    go_enter Tryd.func119, Tryd.ntmps119
    go_wp2_with fail
    refine (containsR s _ a haH.out).mono ?_
    rintro e w1 ⟨rfl, hw1⟩
    have hw1H := Lib.hid hw1
    clear hw1
    cases a
    · go_wp2
      go_ret
      exact ⟨rfl, hw1H.out⟩
    · go_wp2
      go_ret
      exact ⟨rfl, hw1H.out⟩
end Go.Proofs.YtgalaeeppalljaaDoor
