/-
  slices.SortStableFunc at []int, of nothing.
-/
import Derived.Test.YtbapkhkklglbaaaDoorStbIC9
namespace Go.Proofs.YtbapkhkklglbaaaDoor.C9
open Go.ChangeShapes Go.WideShapes Go.Deep Go.RowKit
set_option linter.unusedVariables false
set_option linter.unusedSimpArgs false

set_option maxRecDepth 100000 in
theorem ins_nil (C : CC) (w : World) : Calls Tryd.prog 57 #[.slice none 0 0, .int .i64 0, .int .i64 0, (gI C)] w fun e w' => e = .returned (.tuple #[]) ∧ w' = w := by
  unfold gI
  go_enter Tryd.func57, Tryd.ntmps57
  go_wp2
  go_loopw [8] (fun i wr => i = .int .i64 1 ∧ wr = w) (fun i _ => 0)
  case atStart => exact ⟨rfl, rfl⟩
  case round =>
    obtain ⟨rfl, rfl⟩ := hrel
    go_wp2
    go_end0
    exact ⟨rfl, rfl⟩
set_option maxRecDepth 100000 in
theorem stcmp_nil (C : CC) (w : World) : Calls Tryd.prog 49 #[.slice none 0 0, .int .i64 0, (gI C)] w fun e w' => e = .returned (.tuple #[]) ∧ w' = w := by
  have hi := fun w => ins_nil C w
  unfold gI at hi
  unfold gI
  have hiH := Lib.hid hi
  clear hi
  go_enter Tryd.func49, Tryd.ntmps49
  go_wp2
  go_loopw [7, 8] (fun va vb wr => va = .int .i64 0 ∧ vb = .int .i64 20 ∧ wr = w) (fun _ vb _ => 0)
  case atStart => exact ⟨rfl, rfl, rfl⟩
  case round =>
    obtain ⟨rfl, rfl, rfl⟩ := hrel
    go_wp2_with fail
    refine (hiH.out _).mono ?_
    rintro e w2 ⟨rfl, rfl⟩
    go_wp2
    go_loopw [6] (fun vs wr => vs = .int .i64 20 ∧ wr = w2) (fun vs _ => 0)
    case atStart => exact ⟨rfl, rfl⟩
    case round =>
      obtain ⟨rfl, rfl⟩ := hrel
      go_wp2
      go_end0
      exact ⟨rfl, rfl⟩
set_option maxRecDepth 100000 in
theorem stable_nil (C : CC) (w : World) : Calls Tryd.prog 31 #[.slice none 0 0, (gI C)] w fun e w' => e = .returned (.tuple #[]) ∧ w' = w := by
  have hi := fun w => stcmp_nil C w
  unfold gI at hi
  unfold gI
  have hiH := Lib.hid hi
  clear hi
  go_enter Tryd.func31, Tryd.ntmps31
  go_wp2_with fail
  refine (hiH.out _).mono ?_
  rintro e w1 ⟨rfl, rfl⟩
  go_wp2
  go_end0
  exact ⟨rfl, rfl⟩
end Go.Proofs.YtbapkhkklglbaaaDoor.C9
