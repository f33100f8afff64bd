/-
  isMoment: contract.
-/
import Derived.Test.YtoakhcajhfponaaDoorInC9
namespace Go.Proofs.YtoakhcajhfponaaDoor.C9
open Go.RowKit
set_option linter.unusedVariables false
theorem moment_p (n : Int) (w : World) :
    Calls Tryd.prog 116 #[.int .i64 n] w fun e w' => e = .returned (.bool (inR 0 1000000000 n)) ∧ w' = w := by
  go_enter Tryd.func116, Tryd.ntmps116
  go_wp2_with (go_at_call 115; refine (within_p _ _ _ _).mono ?_; rintro e wz ⟨rfl, rfl⟩)
  go_ret
  exact ⟨rfl, rfl⟩
end Go.Proofs.YtoakhcajhfponaaDoor.C9
