/-
  slices.Clone at []bool.
-/
import Derived.Test.YtjiijiamhpkahaaOwn
import Derived.Lib.SliceRun
import Derived.WalkSpells
namespace Go.Proofs.Ytjiijiamhpkahaa
open Go.RowKit

theorem elem_bool : Elem Try.prog 4 RBool.size 1 := elem_of (z := .bool false) (by kernel_rfl) (by decide)

theorem clone_bools (b off m c : Nat) (l : List Bool) (w : World) (h : SlAt RBool w (some ⟨b, off, none⟩) m l) (hm : m ≤ 140737488355328) :
    Calls Try.prog 10 #[.slice (some ⟨b, off, none⟩) m c] w fun e w' =>
      ∃ A' c', e = .returned (.slice A' m c') ∧ Own RBool 4 w' w.heap.size (.slice A' m c') l ∧ Below w.heap.size w w' := by
  have hH := Lib.hid h
  clear h
  have he := fun W : World => Lib.run_eql_slice_nil (P := Try.prog) W 22 4 (some ⟨b, off, none⟩) m c 0 0 Try.underlying22
  go_enter Try.func10, Try.ntmps10
  go_wp2_with (at_builtin; go_loud (refine wpList_app rfl (.tmp 5) (.tmp 6) 22 rfl Try.underlying22 elem_bool (by decide) rfl (Own.empty w) (some ⟨b, off, none⟩) m c l rfl ?rd ?nn ?ok ?c1 ?c2 ?c3 m ?c4 ?_))
  case rd => exact hH.out.below ((Below.refl _ _).alloc (Nat.le_refl _) _)
  case nn => intro _ h; cases h
  case ok => exact fun _ _ _ _ _ => trivial
  case c1 => simp [maxLen]; omega
  case c2 => simp; omega
  case c3 => simp
  case c4 => simp
  intro A' c' w1 hown hg hat hb
  go_wp2
  go_ret
  exact ⟨A', c', rfl, hown, ((Below.refl _ _).alloc (Nat.le_refl _) _).trans hb⟩
end Go.Proofs.Ytjiijiamhpkahaa
