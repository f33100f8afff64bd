/-
  within, isMoment: contracts.
-/
import Derived.Test.YtbapkhkklglbaaaDoorRead
import Derived.Deep.QuietTactic
import Derived.BigQuiet
namespace Go.Proofs.YtbapkhkklglbaaaDoor.C9
open Go.RowKit
set_option linter.unusedVariables false

theorem bel_drewN {B : Nat} {a w : World} (h : Below B a w) (n : Nat) : Below B a (w.drewN n) := h.trans ⟨rfl, rfl, rfl, Nat.le_refl _, fun _ _ => rfl⟩
/-- a number in a range -/
def inR (lo hi n : Int) : Bool := decide (lo ≤ n) && decide (n ≤ hi)
theorem inR_true {lo hi n : Int} (h : inR lo hi n = true) : lo ≤ n ∧ n ≤ hi := by simpa [inR] using h
theorem inR_of {lo hi n : Int} (h : lo ≤ n ∧ n ≤ hi) : inR lo hi n = true := by simpa [inR] using h

theorem within_p (n lo hi : Int) (w : World) :
    Calls Tryd.prog 42 #[.int .i64 n, .int .i64 lo, .int .i64 hi] w fun e w' => e = .returned (.bool (inR lo hi n)) ∧ w' = w := by
  unfold inR
  by_cases h1 : lo ≤ n
  · by_cases h2 : n ≤ hi
    · go_enter Tryd.func42, Tryd.ntmps42
      go_wp2
      go_ret
      first | (simp; done) | (simp; omega) | (exact ⟨by simp; omega, rfl⟩)
    · go_enter Tryd.func42, Tryd.ntmps42
      go_wp2
      go_ret
      first | (simp; done) | (simp; omega) | (exact ⟨by simp; omega, rfl⟩)
  · go_enter Tryd.func42, Tryd.ntmps42
    go_wp2
    go_ret
    first | (simp; done) | (simp; omega) | (exact ⟨by simp; omega, rfl⟩)
theorem within_r (n lo hi : Int) (w : World) :
    Calls Tryd.prog 47 #[.int .i64 n, .int .i64 lo, .int .i64 hi] w fun e w' => e = .returned (.bool (inR lo hi n)) ∧ w' = w := by
  unfold inR
  by_cases h1 : lo ≤ n
  · by_cases h2 : n ≤ hi
    · go_enter Tryd.func47, Tryd.ntmps47
      go_wp2
      go_ret
      first | (simp; done) | (simp; omega) | (exact ⟨by simp; omega, rfl⟩)
    · go_enter Tryd.func47, Tryd.ntmps47
      go_wp2
      go_ret
      first | (simp; done) | (simp; omega) | (exact ⟨by simp; omega, rfl⟩)
  · go_enter Tryd.func47, Tryd.ntmps47
    go_wp2
    go_ret
    first | (simp; done) | (simp; omega) | (exact ⟨by simp; omega, rfl⟩)
end Go.Proofs.YtbapkhkklglbaaaDoor.C9
