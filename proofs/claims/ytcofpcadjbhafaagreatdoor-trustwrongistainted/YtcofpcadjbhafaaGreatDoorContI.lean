/-
  slices.Contains at []int, of what is there.
-/
import Derived.Test.YtcofpcadjbhafaaGreatDoorRead
import Derived.Test.YtcofpcadjbhafaaGreatDoorShelf
namespace Go.Proofs.YtcofpcadjbhafaaGreatDoor
open Go.RowKit
set_option linter.unusedVariables false

theorem cont_int (A : Option Addr) (n c : Nat) (l : List Int) (x : Int) (w : World) (hn : n ≤ 9223372036854775807) (hl : SlAt RInt w A n l) (hx : x ∈ l) :
    Calls Tryz.prog 12 #[.slice A n c, .int .i64 x] w fun e w' => e = .returned (.bool true) ∧ w' = w := by
  by_cases h0 : n = 0
  · subst h0
    obtain rfl : l = [] := List.eq_nil_of_length_eq_zero hl.1
    cases hx
  · obtain ⟨b, off, rfl, hc⟩ := hl.2.1 (by omega)
    have hll := hl.1
    refine (Tryz.slices_Contains_int b off n c l x w (by omega) hn (fun j hj => ?_)).mono ?_
    · have := hc j l[j] (List.getElem?_eq_getElem hj) 0 (.int .i64 l[j]) rfl
      rw [List.getD_eq_getElem?_getD, List.getElem?_eq_getElem hj]
      simpa [RInt] using this
    · rintro e w' ⟨rfl, rfl⟩
      rw [List.take_of_length_le (by omega), List.contains_iff_mem.2 hx]
      exact ⟨rfl, rfl⟩
end Go.Proofs.YtcofpcadjbhafaaGreatDoor
