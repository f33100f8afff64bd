/-
  signature, Signature, of the program and of the reference; the reference's digest.
-/
import Derived.Test.YtgegdfmdcmgliaaGreatDoorClaimWC11
import Derived.Test.YtgegdfmdcmgliaaGreatDoorDigW
import Derived.Test.YtgegdfmdcmgliaaGreatDoorSignDC11
import Derived.Test.YtgegdfmdcmgliaaGreatDoorHeadsWC11
namespace Go.Proofs.YtgegdfmdcmgliaaGreatDoor.C11
open Go.ChangeShapes Go.WideShapes Go.Deep Go.RowKit
set_option linter.unusedVariables false

theorem cells7 {w W : World} {v0 v1 v2 v3 v4 v5 v6 : Value} {T : TypeId} (hb : Below (w.alloc (.cells #[v0, v1, v2, v3, v4, v5, v6] T)).heap.size (w.alloc (.cells #[v0, v1, v2, v3, v4, v5, v6] T)) W) :
    W.cell? ⟨w.heap.size, 0, none⟩ = some v0 ∧ W.cell? ⟨w.heap.size, 1, none⟩ = some v1 ∧ W.cell? ⟨w.heap.size, 2, none⟩ = some v2 ∧ W.cell? ⟨w.heap.size, 3, none⟩ = some v3 ∧ W.cell? ⟨w.heap.size, 4, none⟩ = some v4 ∧ W.cell? ⟨w.heap.size, 5, none⟩ = some v5 ∧ W.cell? ⟨w.heap.size, 6, none⟩ = some v6 :=
  ⟨(hb.cell (by simp)).trans (by simp [go_sem]), (hb.cell (by simp)).trans (by simp [go_sem]), (hb.cell (by simp)).trans (by simp [go_sem]), (hb.cell (by simp)).trans (by simp [go_sem]), (hb.cell (by simp)).trans (by simp [go_sem]), (hb.cell (by simp)).trans (by simp [go_sem]), (hb.cell (by simp)).trans (by simp [go_sem])⟩

set_option maxRecDepth 100000 in
set_option maxHeartbeats 1000000 in
theorem rdigest_s (s : ByteArray) (w : World) (hs : s.size ≤ 4611686018427387904) :
    Calls Tryz.prog 58 #[.string s] w fun e w' => e = .returned (.string (digF s.data.toList)) ∧ Below w.heap.size w w' := by
  have hcv := fun (w : World) (s : ByteArray) => run_bytes_of_string (P := Tryz.prog) w 9 71 5 s Tryz.underlying9 Tryz.underlying71 Tryz.underlying5
  go_enter Tryz.func58, Tryz.ntmps58
  go_wp2_with fail
  refine (rdigest_bytes w.heap.size 0 s.size _ s.data.toList _ (by rw [Array.length_toList]; rfl) (by first | exact bytes_row w.drew s _ _ | exact bytes_row w s _ _) hs).mono ?_
  rintro e w5 ⟨rfl, rfl⟩
  go_wp2
  go_ret
  exact ⟨rfl, ((Below.refl _ _).alloc (Nat.le_refl _) _).drew⟩

end Go.Proofs.YtgegdfmdcmgliaaGreatDoor.C11
