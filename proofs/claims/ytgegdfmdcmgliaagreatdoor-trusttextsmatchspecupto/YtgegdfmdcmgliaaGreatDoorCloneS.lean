/-
  slices.Clone at []string.
-/
import Derived.Test.YtgegdfmdcmgliaaGreatDoorOwn
import Derived.Test.YtgegdfmdcmgliaaGreatDoorShelf
import Derived.Test.YtgegdfmdcmgliaaGreatDoorStr
import Derived.Test.YtgegdfmdcmgliaaGreatDoorBRow
namespace Go.Proofs.YtgegdfmdcmgliaaGreatDoor
open Go.RowKit
set_option linter.unusedVariables false

theorem Own.sl {α : Type} {R : Rd α} {e : TypeId} {w : World} {base n cap : Nat} {A : Option Addr} {l : List α} (h : Own R e w base (.slice A n cap) l) : (RSl R).ok w ⟨A, n, cap, l⟩ := by
  refine ⟨h.slAt, h.cap_le, ?_, ?_⟩
  · rcases h.1.2 with ⟨hv, _⟩ | ⟨g, cap', cur, hv, _, _, _, h63, _⟩
    · injection hv with _ _ h3; subst h3; exact Nat.zero_le _
    · injection hv with _ _ h3; subst h3; exact h63
  · intro hA
    rcases h.1.2 with ⟨hv, _⟩ | ⟨g, cap', cur, hv, _⟩
    · injection hv with _ _ h3
    · injection hv with h1 _ _; rw [show A = none from hA] at h1; cases h1
theorem Own.cell {α : Type} {R : Rd α} {e : TypeId} {w : World} {base : Nat} {v : Value} {l : List α} (h : Own R e w base v l) (a : Addr) (u : Value) (ha : a.block < base) (hok : ∀ x ∈ l, R.ok w x → R.ok (w.setCell a u) x) : Own R e (w.setCell a u) base v l :=
  h.kept (grown_setc w a u) (by
    cases hv : v.ownBlock with
    | none => exact .inl rfl
    | some k => exact .inr (by have := (h.1.lt k hv).1; intro hc; injection hc with hc; omega)) hok
theorem vals_str (l : List ByteArray) : l.flatMap RStr.vals = l.map Value.string := by
  induction l with
  | nil => rfl
  | cons x r ih => rw [List.flatMap_cons, ih]; rfl
theorem clone_strN (A : Option Addr) (n c : Nat) (l : List ByteArray) (w : World) (h : SlAt RStr w A n l) (hn : n ≤ 1000000000) :
    Calls Tryz.prog 69 #[.slice A n c] w fun e w' => ∃ A' c', e = .returned (.slice A' n c') ∧ Own RStr 9 w' w.heap.size (.slice A' n c') l ∧ Below w.heap.size w w' := by
  have hz : ∀ x ∈ l, x.size ≤ maxLen := h.2.2
  cases A with
  | none =>
    have hn0 : n = 0 := by
      rcases Nat.eq_zero_or_pos n with h0 | h0
      · exact h0
      · obtain ⟨_, _, h1, _⟩ := h.2.1 h0; cases h1
    subst hn0
    obtain rfl : l = [] := List.eq_nil_of_length_eq_zero h.1
    refine (Tryz.slices_Clone_string_nil 0 c w).mono ?_
    rintro e w' ⟨rfl, rfl⟩
    exact ⟨none, 0, rfl, Own.nil _ _, Below.refl _ _⟩
  | some a =>
    rcases Nat.eq_zero_or_pos n with h0 | h0
    · subst h0
      obtain rfl : l = [] := List.eq_nil_of_length_eq_zero h.1
      refine (Tryz.slices_Clone_string_zero a c w).mono ?_
      rintro e w' ⟨v, rfl, ho, _, hb⟩
      have hown : Own RStr 9 w' w.heap.size v [] := ⟨ho, fun x hx => by cases hx⟩
      obtain ⟨A', c', rfl⟩ := hown.form
      exact ⟨A', c', rfl, hown, hb⟩
    · obtain ⟨b, off, hA, _⟩ := h.2.1 h0
      injection hA with hA
      subst hA
      have hl := h.1
      refine (Tryz.slices_Clone_string b off n c l w (by omega) (by omega) (fun j hj => ?_)).mono ?_
      · have hx : l[j]? = some (l.getD j ByteArray.empty) := by
          rw [List.getD_eq_getElem?_getD, List.getElem?_eq_getElem hj]; rfl
        exact cell_Str h hx
      · rintro e w' ⟨v, rfl, ho, _, hb⟩
        rw [List.take_of_length_le (by omega), ← vals_str] at ho
        rw [← hl] at ho
        have hown : Own RStr 9 w' w.heap.size v l := ⟨ho, hz⟩
        obtain ⟨A', c', rfl⟩ := hown.form
        rw [hl] at hown
        exact ⟨A', c', by rw [hl], hown, hb⟩
theorem clone_str (A : Option Addr) (n c : Nat) (l : List ByteArray) (w : World) (h : SlAt RStr w A n l) (hn : n ≤ 1000) :
    Calls Tryz.prog 69 #[.slice A n c] w fun e w' => ∃ A' c', e = .returned (.slice A' n c') ∧ Own RStr 9 w' w.heap.size (.slice A' n c') l ∧ Below w.heap.size w w' :=
  clone_strN A n c l w h (by omega)
end Go.Proofs.YtgegdfmdcmgliaaGreatDoor
