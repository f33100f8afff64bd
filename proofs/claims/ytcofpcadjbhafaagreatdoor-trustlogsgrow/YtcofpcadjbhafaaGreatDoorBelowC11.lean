/-
  The contract of the reference's Below.
-/
import Derived.Test.YtcofpcadjbhafaaGreatDoorRead
namespace Go.Proofs.YtcofpcadjbhafaaGreatDoor.C11
open Go.RowKit
set_option linter.unusedVariables false

theorem below_any (x n : Int) (w : World) (hx : I64 x) (h1 : 1 ≤ n) (h2 : n ≤ 4611686018427387904) :
    Calls Tryz.prog 22 #[.int .i64 x, .int .i64 n] w fun e w' => (∃ r : Int, e = .returned (.int .i64 r) ∧ 0 ≤ r ∧ r < n) ∧ w = w' := by
  have hlo : -n < x.tmod n := by
    have := Int.lt_tmod_of_pos x (show 0 < n by omega)
    omega
  have hhi : x.tmod n < n := Int.tmod_lt_of_pos x (show 0 < n by omega)
  have hn0 : (n == 0) = false := by simp; omega
  unfold I64 at hx
  obtain ⟨r, hr⟩ : ∃ r, x.tmod n = r := ⟨_, rfl⟩
  rw [hr] at hlo hhi
  by_cases h : r < 0
  · go_enter Tryz.func22, Tryz.ntmps22
    go_wp2
    go_ret
    exact ⟨⟨r + n, rfl, by omega, by omega⟩, rfl⟩
  · go_enter Tryz.func22, Tryz.ntmps22
    go_wp2
    go_ret
    exact ⟨⟨r, rfl, by omega, by omega⟩, rfl⟩
end Go.Proofs.YtcofpcadjbhafaaGreatDoor.C11
