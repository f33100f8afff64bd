/-
  awake of chapter 11.
-/
import Derived.Test.YtgegdfmdcmgliaaGreatDoorMayC11
namespace Go.Proofs.YtgegdfmdcmgliaaGreatDoor.C11
open Go.RowKit
set_option linter.unusedVariables false

def apS : ByteArray := ⟨#[47, 47, 97, 112, 112]⟩
def apL : ByteArray := ⟨#[47, 47, 97, 112, 112, 108, 101, 58, 120]⟩
def awW (b : Nat) : Writer := ⟨⟨#[97]⟩, ⟨#[115]⟩, ⟨some ⟨b, 0, none⟩, 1, 1, [apS]⟩, 0, 5⟩
theorem cells_one {α : Type} {R : Rd α} {W : World} {b : Nat} {x : α} (h : ∀ j v, (R.vals x)[j]? = some v → W.cell? ⟨b, j, none⟩ = some v) (hx : R.ok W x) : SlAt R W (some ⟨b, 0, none⟩) 1 [x] := by
  refine ⟨rfl, fun _ => ⟨b, 0, rfl, fun i y hy j v hv => ?_⟩, fun y hy => ?_⟩
  · match i, hy with
    | 0, hy =>
      simp only [List.getElem?_cons_zero, Option.some.injEq] at hy
      subst hy
      simpa using h j v hv
    | i + 1, hy => simp at hy
  · rw [List.mem_singleton.1 hy]; exact hx
theorem awW_at {W : World} {b0 b1 : Nat} (h : W.cell? ⟨b0, 0, none⟩ = some (.string apS)) (h0 : W.cell? ⟨b1, 0, none⟩ = some (.string ⟨#[97]⟩)) (h1 : W.cell? ⟨b1, 1, none⟩ = some (.string ⟨#[115]⟩))
    (h2 : W.cell? ⟨b1, 2, none⟩ = some (.slice (some ⟨b0, 0, none⟩) 1 1)) (h3 : W.cell? ⟨b1, 3, none⟩ = some (.int .i64 0)) (h4 : W.cell? ⟨b1, 4, none⟩ = some (.int .i64 5)) :
    SlAt RWriter W (some ⟨b1, 0, none⟩) 1 [awW b0] := by
  refine cells_one (fun j v hv => ?_) ⟨?_, ?_, ⟨cells_one (fun j v hv => ?_) ?_, Nat.le_refl _, ?_, ?_⟩, ?_, ?_⟩
  · match j, hv with
    | 0, hv => simp [RWriter, awW] at hv; subst hv; exact h0
    | 1, hv => simp [RWriter, awW] at hv; subst hv; exact h1
    | 2, hv => simp [RWriter, awW] at hv; subst hv; exact h2
    | 3, hv => simp [RWriter, awW] at hv; subst hv; exact h3
    | 4, hv => simp [RWriter, awW] at hv; subst hv; exact h4
    | j + 5, hv => simp [RWriter] at hv
  · show ByteArray.size ⟨#[97]⟩ ≤ maxLen
    decide +kernel
  · show ByteArray.size ⟨#[115]⟩ ≤ maxLen
    decide +kernel
  · match j, hv with
    | 0, hv => simp [RStr] at hv; subst hv; exact h
    | j + 1, hv => simp [RStr] at hv
  · show apS.size ≤ maxLen
    decide +kernel
  · show 1 ≤ maxLen
    decide
  · intro h; cases h
  · show RInt.ok W 0
    exact ⟨by decide, by decide⟩
  · show RInt.ok W 5
    exact ⟨by decide, by decide⟩
theorem aw_F (b : Nat) : mayF [awW b] ⟨#[97]⟩ apL 4 = 0 ∧ mayF [awW b] ⟨#[97]⟩ apL 5 = 0 ∧ mayR [awW b] ⟨#[97]⟩ apL 4 = true ∧ mayR [awW b] ⟨#[97]⟩ apL 5 = false := by
  have e : ∀ b, mayF [awW b] ⟨#[97]⟩ apL 4 = mayF [awW 0] ⟨#[97]⟩ apL 4 ∧ mayF [awW b] ⟨#[97]⟩ apL 5 = mayF [awW 0] ⟨#[97]⟩ apL 5 ∧ mayR [awW b] ⟨#[97]⟩ apL 4 = mayR [awW 0] ⟨#[97]⟩ apL 4 ∧ mayR [awW b] ⟨#[97]⟩ apL 5 = mayR [awW 0] ⟨#[97]⟩ apL 5 := fun b => ⟨rfl, rfl, rfl, rfl⟩
  obtain ⟨e1, e2, e3, e4⟩ := e b
  rw [e1, e2, e3, e4]
  decide +kernel

theorem awake_any (w : World) (hm : MaxLenAt w) : Calls Tryz.prog 8 #[] w fun e w' => e = .returned (.bool true) ∧ Below w.heap.size w w' := by
  obtain ⟨f1, f2, r1, r2⟩ := aw_F w.heap.size
  have ha : ByteArray.size ⟨#[97]⟩ ≤ maxLen := by decide +kernel
  have hs : apL.size ≤ 1048576 := by decide +kernel
  go_enter Tryz.func8, Tryz.ntmps8
  go_wp2_with fail
  have hb := ((Below.refl w.heap.size w).alloc (Nat.le_refl _) (.cells #[.string apS] 9)).alloc (by simp) (.cells #[.string ⟨#[97]⟩, .string ⟨#[115]⟩, .slice (some ⟨w.heap.size, 0, none⟩) 1 1, .int .i64 0, .int .i64 5] 55)
  have hl : SlAt RWriter ((w.alloc (.cells #[.string apS] 9)).alloc (.cells #[.string ⟨#[97]⟩, .string ⟨#[115]⟩, .slice (some ⟨w.heap.size, 0, none⟩) 1 1, .int .i64 0, .int .i64 5] 55)) (some ⟨w.heap.size + 1, 0, none⟩) 1 [awW w.heap.size] :=
    awW_at (by simp [go_sem]) (by simp [go_sem]) (by simp [go_sem]) (by simp [go_sem]) (by simp [go_sem]) (by simp [go_sem])
  have hbH := Lib.hid hb
  clear hb
  have hlH := Lib.hid hl
  clear hl
  have f1H := Lib.hid f1
  clear f1
  have f2H := Lib.hid f2
  clear f2
  have r1H := Lib.hid r1
  clear r1
  have r2H := Lib.hid r2
  clear r2
  have haH := Lib.hid ha
  clear ha
  have hsH := Lib.hid hs
  clear hs
  have hmH := Lib.hid hm
  clear hm
  refine (May_any (some ⟨w.heap.size + 1, 0, none⟩) 1 1 [awW w.heap.size] ⟨#[97]⟩ apL 4 _ (hmH.out.below hbH.out) hlH.out haH.out hsH.out 0 f1H.out true r1H.out).mono ?_
  rintro e w1 ⟨rfl, hw⟩
  have hb := hbH.out.trans (hw.mono hbH.out.size)
  have hl := hlH.out.below hw
  clear hbH hlH
  have hbH := Lib.hid hb
  clear hb
  have hlH := Lib.hid hl
  clear hl
  have hwH := Lib.hid hw
  clear hw
  go_wp2_with fail
  refine (May_any (some ⟨w.heap.size + 1, 0, none⟩) 1 1 [awW w.heap.size] ⟨#[97]⟩ apL 5 _ (hmH.out.below hbH.out) hlH.out haH.out hsH.out 0 f2H.out false r2H.out).mono ?_
  rintro e w2 ⟨rfl, hw⟩
  have hb := hbH.out.trans (hw.mono hbH.out.size)
  clear hbH hlH hwH
  have hbH := Lib.hid hb
  clear hb
  have hwH := Lib.hid hw
  clear hw
  go_wp2
  go_ret
  exact ⟨rfl, hbH.out⟩
end Go.Proofs.YtgegdfmdcmgliaaGreatDoor.C11
