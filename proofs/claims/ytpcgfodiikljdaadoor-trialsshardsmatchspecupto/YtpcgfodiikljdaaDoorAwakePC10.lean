/-
  The contract of smithyardlaw10.awake: it returns true, and turns nothing that was there.
-/
import Derived.Test.YtpcgfodiikljdaaDoorTriedPC10
namespace Go.Proofs.YtpcgfodiikljdaaDoor.C10
open Go.RowKit

theorem awake_any (w : World) : Calls Tryd.prog 6 #[] w fun e w' => e = .returned (.bool true) ∧ Below w.heap.size w w' := by
  go_enter Tryd.func6, Tryd.ntmps6
  go_wp2_with fail
  refine (tried_any 3 1 _ 3 3 [false, true, true] _ ⟨rfl, fun _ => ⟨_, rfl, ?_⟩⟩).mono ?_
  · intro i hi
    match i, hi with
    | 0, _ => simp [go_sem]
    | 1, _ => simp [go_sem]
    | 2, _ => simp [go_sem]
  · rintro e w' ⟨rfl, rfl⟩
    rw [show triedF 3 1 [false, true, true] = (4, 2, 0) by decide]
    go_wp2
    go_ret
    exact ⟨rfl, (Below.refl _ _).alloc (Nat.le_refl _) _⟩
end Go.Proofs.YtpcgfodiikljdaaDoor.C10
