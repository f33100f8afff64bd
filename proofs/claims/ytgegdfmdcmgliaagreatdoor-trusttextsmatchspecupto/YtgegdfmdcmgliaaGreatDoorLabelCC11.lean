/-
  CutPrefix, Cut, last, CheckLabel: of the program and of the reference.
-/
import Derived.Test.YtgegdfmdcmgliaaGreatDoorCut1C11
import Derived.Test.YtgegdfmdcmgliaaGreatDoorR2PathC11
namespace Go.Proofs.YtgegdfmdcmgliaaGreatDoor.C11
open Go.RowKit Go.Lib
set_option linter.unusedVariables false

theorem cp2_any (s : ByteArray) (b : Bool) (u : List UInt8) (h : hasPrefix s.data.toList [47, 47] = b) (hu : trimPrefix s.data.toList [47, 47] = u) (w : World) :
    Calls Tryz.prog 116 #[.string s, .string ⟨#[47, 47]⟩] w fun e w' => e = .returned (.tuple #[.string (bs u), .bool b]) ∧ w' = w := by
  have := Tryz.strings_CutPrefix s ⟨#[47, 47]⟩ w
  rw [show (⟨#[47, 47]⟩ : ByteArray).data.toList = [47, 47] from rfl, h, hu] at this
  exact this
theorem cp1_any (s : ByteArray) (b : Bool) (u : List UInt8) (h : hasPrefix s.data.toList [58] = b) (hu : trimPrefix s.data.toList [58] = u) (w : World) :
    Calls Tryz.prog 116 #[.string s, .string ⟨#[58]⟩] w fun e w' => e = .returned (.tuple #[.string (bs u), .bool b]) ∧ w' = w := by
  have := Tryz.strings_CutPrefix s ⟨#[58]⟩ w
  rw [show (⟨#[58]⟩ : ByteArray).data.toList = [58] from rfl, h, hu] at this
  exact this
theorem cut58_any (s : ByteArray) (u rest : List UInt8) (ok : Bool) (h : cut s.data.toList [58] = (u, rest, ok)) (w : World) (hm : MaxLenAt w) (ht : s.size ≤ 9223372036854775807) :
    Calls Tryz.prog 34 #[.string s, .string ⟨#[58]⟩] w fun e w' => e = .returned (.tuple #[.string (bs u), .string (bs rest), .bool ok]) ∧ Below w.heap.size w w' := cutw58_any s u rest ok h w ht
theorem last_any (s : ByteArray) (w : World) (hs : s.size ≤ 9223372036854775807) : Calls Tryz.prog 117 #[.string s] w fun e w' => ∃ u : ByteArray, e = .returned (.string u) ∧ u.size ≤ s.size ∧ w = w' := by
  go_enter Tryz.func117, Tryz.ntmps117
  go_wp2_with fail
  refine (lastIdx_any s _ (by omega)).mono ?_
  rintro e w1 ⟨k, rfl, h1, h2, rfl⟩
  go_wp2
  go_ret
  exact ⟨_, rfl, by first | exact Nat.le_refl _ | (simp [ByteArray.size_extract]; omega) | (simp [ByteArray.size_extract]), rfl⟩
theorem rlast_any (s : ByteArray) (w : World) (hs : s.size ≤ 2000000) : Calls Tryz.prog 167 #[.string s] w fun e w' => ∃ u : ByteArray, e = .returned (.string u) ∧ u.size ≤ s.size ∧ w = w' := by
  go_enter Tryz.func167, Tryz.ntmps167
  go_wp2_with fail
  refine (lastIdx_any s _ (by omega)).mono ?_
  rintro e w1 ⟨k, rfl, h1, h2, rfl⟩
  go_wp2
  go_ret
  exact ⟨_, rfl, by first | exact Nat.le_refl _ | (simp [ByteArray.size_extract]; omega) | (simp [ByteArray.size_extract]), rfl⟩

theorem bs_nil (s : ByteArray) : decide (s = bs []) = (s.toList == []) := by
  rw [Lib.toList_data, Bool.eq_iff_iff, decide_eq_true_iff, beq_iff_eq]
  constructor
  · rintro rfl; rfl
  · intro h; rw [← data_bs s, h]

def chkV (b : Bool) : Int := if b = true then 0 else 3
set_option maxHeartbeats 1000000 in
theorem check_any (p n : ByteArray) (w : World) (hm : MaxLenAt w) (b : Bool) (hb : checkB p n = b) :
    Calls Tryz.prog 118 #[.agg #[.string p, .string n]] w fun e w' => e = .returned (.int .i64 (chkV b)) ∧ Below w.heap.size w w' := by
  have hba := (Below.refl w.heap.size w).alloc (Nat.le_refl _) (.cells #[.string p, .string n] 111)
  unfold checkB okPkgB at hb
  rw [bs_nil] at hb
  obtain ⟨e0, he0⟩ : ∃ e0, (p.toList == []) = e0 := ⟨_, rfl⟩
  obtain ⟨b1, hb1⟩ : ∃ b1, pathB p = b1 := ⟨_, rfl⟩
  obtain ⟨b2, hb2⟩ : ∃ b2, pathB n = b2 := ⟨_, rfl⟩
  rw [he0, hb1, hb2] at hb
  cases e0
  · have hbaH := Lib.hid hba
    clear hba
    have hb1H := Lib.hid hb1
    clear hb1
    have hb2H := Lib.hid hb2
    clear hb2
    have hmH := Lib.hid hm
    clear hm
    go_enter Tryz.func118, Tryz.ntmps118
    go_wp2_with fail
    refine (isPath_any p _ (hmH.out.below hbaH.out) b1 hb1H.out).mono ?_
    rintro e w1 ⟨rfl, hw1⟩
    have q1 : w1.cell? ⟨w.heap.size, 1, none⟩ = some (.string n) := (hw1.cell (by simp)).trans (cell_new w _ _ 1)
    have hbw1 := hbaH.out.trans (hw1.mono hbaH.out.size)
    have hw1H := Lib.hid hw1
    clear hw1
    have hbw1H := Lib.hid hbw1
    clear hbw1
    cases b1
    · have hb : false = b := hb
      subst hb
      clear q1
      go_wp2
      go_ret
      exact ⟨rfl, hbw1H.out⟩
    · have hb : b2 = b := hb
      subst hb
      go_wp2_with fail
      refine (isPath_any n _ (hmH.out.below hbw1H.out) b2 hb2H.out).mono ?_
      rintro e w2 ⟨rfl, hw2⟩
      have hbw2 := hbw1H.out.trans (hw2.mono hbw1H.out.size)
      clear q1
      have hw2H := Lib.hid hw2
      clear hw2
      have hbw2H := Lib.hid hbw2
      clear hbw2
      cases b2
      all_goals
        go_wp2
        go_ret
        exact ⟨rfl, hbw2H.out⟩
  · have hb : b2 = b := by rw [← hb]; simp
    subst hb
    have hbaH := Lib.hid hba
    clear hba
    have hb1H := Lib.hid hb1
    clear hb1
    have hb2H := Lib.hid hb2
    clear hb2
    have hmH := Lib.hid hm
    clear hm
    go_enter Tryz.func118, Tryz.ntmps118
    go_wp2_with fail
    refine (isPath_any n _ (hmH.out.below hbaH.out) b2 hb2H.out).mono ?_
    rintro e w2 ⟨rfl, hw2⟩
    have hbw2 := hbaH.out.trans (hw2.mono hbaH.out.size)
    have hw2H := Lib.hid hw2
    clear hw2
    have hbw2H := Lib.hid hbw2
    clear hbw2
    cases b2
    all_goals
      go_wp2
      go_ret
      exact ⟨rfl, hbw2H.out⟩

set_option maxHeartbeats 1000000 in
theorem rpkg_any (p : ByteArray) (w : World) (hm : MaxLenAt w) (hs : p.size ≤ 2000000) (b : Bool) (hb : okPkgB p = b) :
    Calls Tryz.prog 166 #[.string p] w fun e w' => e = .returned (.bool b) ∧ Below w.heap.size w w' := by
  unfold okPkgB at hb
  rw [bs_nil] at hb
  obtain ⟨e0, he0⟩ : ∃ e0, (p.toList == []) = e0 := ⟨_, rfl⟩
  obtain ⟨b1, hb1⟩ : ∃ b1, pathB p = b1 := ⟨_, rfl⟩
  rw [he0, hb1] at hb
  cases e0
  · have hb : b1 = b := by rw [← hb]; simp
    subst hb
    have hb1H := Lib.hid hb1
    clear hb1
    have hmH := Lib.hid hm
    clear hm
    go_enter Tryz.func166, Tryz.ntmps166
    go_wp2_with fail
    refine (r2Path_any p _ hmH.out (by omega) b1 hb1H.out).mono ?_
    rintro e w1 ⟨rfl, hw1⟩
    have hw1H := Lib.hid hw1
    clear hw1
    go_wp2
    go_ret
    exact ⟨rfl, hw1H.out⟩
  · have hb : true = b := by rw [← hb]; simp
    subst hb
    have hb1H := Lib.hid hb1
    clear hb1
    have hmH := Lib.hid hm
    clear hm
    go_enter Tryz.func166, Tryz.ntmps166
    go_wp2_with fail
    go_ret
    exact ⟨rfl, Below.refl _ _⟩
set_option maxHeartbeats 1000000 in
theorem rcheck_any (p n : ByteArray) (w : World) (hm : MaxLenAt w) (hp : p.size ≤ 2000000) (hn : n.size ≤ 2000000) (b : Bool) (hb : checkB p n = b) :
    Calls Tryz.prog 168 #[.agg #[.string p, .string n]] w fun e w' => e = .returned (.int .i64 (chkV b)) ∧ Below w.heap.size w w' := by
  have hba := (Below.refl w.heap.size w).alloc (Nat.le_refl _) (.cells #[.string p, .string n] 111)
  unfold checkB at hb
  obtain ⟨b1, hb1⟩ : ∃ b1, okPkgB p = b1 := ⟨_, rfl⟩
  obtain ⟨b2, hb2⟩ : ∃ b2, pathB n = b2 := ⟨_, rfl⟩
  rw [hb1, hb2] at hb
  have hbaH := Lib.hid hba
  clear hba
  have hb1H := Lib.hid hb1
  clear hb1
  have hb2H := Lib.hid hb2
  clear hb2
  have hmH := Lib.hid hm
  clear hm
  go_enter Tryz.func168, Tryz.ntmps168
  go_wp2_with fail
  refine (rpkg_any p _ (hmH.out.below hbaH.out) hp b1 hb1H.out).mono ?_
  rintro e w1 ⟨rfl, hw1⟩
  have q1 : w1.cell? ⟨w.heap.size, 1, none⟩ = some (.string n) := (hw1.cell (by simp)).trans (cell_new w _ _ 1)
  have hbw1 := hbaH.out.trans (hw1.mono hbaH.out.size)
  have hw1H := Lib.hid hw1
  clear hw1
  have hbw1H := Lib.hid hbw1
  clear hbw1
  cases b1
  · have hb : false = b := hb
    subst hb
    clear q1
    go_wp2
    go_ret
    exact ⟨rfl, hbw1H.out⟩
  · have hb : b2 = b := hb
    subst hb
    go_wp2_with fail
    refine (r2Path_any n _ (hmH.out.below hbw1H.out) (by omega) b2 hb2H.out).mono ?_
    rintro e w2 ⟨rfl, hw2⟩
    have hbw2 := hbw1H.out.trans (hw2.mono hbw1H.out.size)
    clear q1
    have hw2H := Lib.hid hw2
    clear hw2
    have hbw2H := Lib.hid hbw2
    clear hbw2
    cases b2
    all_goals
      go_wp2
      go_ret
      exact ⟨rfl, hbw2H.out⟩
end Go.Proofs.YtgegdfmdcmgliaaGreatDoor.C11
