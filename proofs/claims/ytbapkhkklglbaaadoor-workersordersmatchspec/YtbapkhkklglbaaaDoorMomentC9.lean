/-
  isMoment: contract.
-/
import Derived.Test.YtbapkhkklglbaaaDoorInC9
namespace Go.Proofs.YtbapkhkklglbaaaDoor.C9
open Go.RowKit
set_option linter.unusedVariables false
theorem moment_p (n : Int) (w : World) :
    Calls Tryd.prog 60 #[.int .i64 n] w fun e w' => e = .returned (.bool (inR 0 1000000000 n)) ∧ w' = w := by
  go_enter Tryd.func60, Tryd.ntmps60
  go_wp2_with (go_at_call 42; refine (within_p _ _ _ _).mono ?_; rintro e wz ⟨rfl, rfl⟩)
  go_ret
  exact ⟨rfl, rfl⟩
end Go.Proofs.YtbapkhkklglbaaaDoor.C9
