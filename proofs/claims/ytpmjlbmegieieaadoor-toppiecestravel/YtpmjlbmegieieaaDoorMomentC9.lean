/-
  isMoment: contract.
-/
import Derived.Test.YtpmjlbmegieieaaDoorInC9
namespace Go.Proofs.YtpmjlbmegieieaaDoor.C9
open Go.RowKit
set_option linter.unusedVariables false
theorem moment_p (n : Int) (w : World) :
    Calls Tryd.prog 24 #[.int .i64 n] w fun e w' => e = .returned (.bool (inR 0 1000000000 n)) ∧ w' = w := by
  go_enter Tryd.func24, Tryd.ntmps24
  go_wp2_with (go_at_call 21; refine (within_p _ _ _ _).mono ?_; rintro e wz ⟨rfl, rfl⟩)
  go_ret
  exact ⟨rfl, rfl⟩
end Go.Proofs.YtpmjlbmegieieaaDoor.C9
