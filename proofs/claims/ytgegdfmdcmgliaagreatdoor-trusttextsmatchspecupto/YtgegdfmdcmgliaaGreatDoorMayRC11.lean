/-
  may, of the program and of the reference.
-/
import Derived.Test.YtgegdfmdcmgliaaGreatDoorMayPC11
namespace Go.Proofs.YtgegdfmdcmgliaaGreatDoor.C11
open Go.RowKit
set_option linter.unusedVariables false

theorem mayfn_any (label p : ByteArray) (w : World) (a : Addr) (ha : w.cell? a = some (.string label)) :
    Calls Tryz.prog 84 #[.string p, .pointer (some a)] w fun e w' => e = .returned (.bool (Lib.hasPrefix label.data.toList p.data.toList)) ∧ Below w.heap.size w w' := by
  go_enter Tryz.func84, Tryz.ntmps84
  go_wp2_with (go_at_call 85; refine (Tryz.strings_HasPrefix _ _ _).mono ?_; rintro e wz ⟨rfl, hwz⟩; rw [hwz]; clear hwz; clear wz)
  go_ret
  exact ⟨rfl, Below.refl _ _⟩

set_option maxHeartbeats 2000000 in
theorem may_any (x : Writer) (label : ByteArray) (at_ : Int) (w : World) (hok : RWriter.ok w x) (b : Bool) (hb : mayB x label at_ = b) :
    Calls Tryz.prog 52 #[.agg #[.string x.name, .string x.secret, .slice x.prefixes.A x.prefixes.n x.prefixes.cap, .int .i64 x.from_, .int .i64 x.to_], .string label, .int .i64 at_] w fun e w' =>
      e = .returned (.bool b) ∧ Below w.heap.size w w' := by
  obtain ⟨nm, se, ⟨A, n, cap, l⟩, fr, tt⟩ := x
  obtain ⟨o0, o1, o2, o3, o4⟩ := hok
  simp only at o0 o1 o2 o3 o4 ⊢
  unfold mayB at hb
  simp only at hb
  have han9 : n ≤ 9223372036854775807 := Nat.le_trans o2.2.1 o2.2.2.1
  have hl : SlAt RStr w A n l := o2.1
  have hba := ((Below.refl w.heap.size w).alloc (Nat.le_refl _) (.cells #[.string nm, .string se, .slice A n cap, .int .i64 fr, .int .i64 tt] 55)).alloc (by simp) (.cells #[.string label] 9)
  have hcell : ((w.alloc (.cells #[.string nm, .string se, .slice A n cap, .int .i64 fr, .int .i64 tt] 55)).alloc (.cells #[.string label] 9)).cell? ⟨w.heap.size + 1, 0, none⟩ = some (.string label) := by simp [go_sem]
  obtain ⟨r, hr⟩ : ∃ r, l.any (fun p => Lib.hasPrefix label.data.toList p.data.toList) = r := ⟨_, rfl⟩
  rw [hr] at hb
  by_cases h1 : fr ≤ at_
  · by_cases h2 : at_ < tt
    · rw [decide_eq_true h1, decide_eq_true h2] at hb
      have hb : r = b := hb
      subst hb
      have hlH := Lib.hid hl
      clear hl
      have hbaH := Lib.hid hba
      clear hba
      have o0H := Lib.hid o0
      clear o0
      have o1H := Lib.hid o1
      clear o1
      have o2H := Lib.hid o2
      clear o2
      have o3H := Lib.hid o3
      clear o3
      have o4H := Lib.hid o4
      clear o4
      have hrH := Lib.hid hr
      clear hr
      have hcellH := Lib.hid hcell
      clear hcell
      go_enter Tryz.func52, Tryz.ntmps52
      go_wp2_with fail
      refine (containsFunc_any 84 #[.pointer (some ⟨w.heap.size + 1, 0, none⟩)] (enters_of Tryz.func84 (by kernel_rfl) rfl) (fun p => Lib.hasPrefix label.data.toList p.data.toList) A n cap l _ (hlH.out.below hbaH.out) han9 (fun W p _ hW => mayfn_any label p W _ ((hW.cell (by simp)).trans hcellH.out)) r hrH.out).mono ?_
      rintro e w1 ⟨rfl, hw1⟩
      have hbr := hbaH.out.trans (hw1.mono hbaH.out.size)
      have hbrH := Lib.hid hbr
      clear hbr
      have hw1H := Lib.hid hw1
      clear hw1
      go_wp2
      go_ret
      exact ⟨rfl, hbrH.out⟩
    · have h2d : decide (at_ < tt) = false := decide_eq_false h2
      rw [h2d, Bool.and_false, Bool.false_and] at hb
      subst hb
      have hlH := Lib.hid hl
      clear hl
      have hbaH := Lib.hid hba
      clear hba
      have o0H := Lib.hid o0
      clear o0
      have o1H := Lib.hid o1
      clear o1
      have o2H := Lib.hid o2
      clear o2
      have o3H := Lib.hid o3
      clear o3
      have o4H := Lib.hid o4
      clear o4
      have hrH := Lib.hid hr
      clear hr
      have hcellH := Lib.hid hcell
      clear hcell
      go_enter Tryz.func52, Tryz.ntmps52
      go_wp2_with fail
      go_ret
      exact ⟨rfl, hbaH.out⟩
  · have h1d : decide (fr ≤ at_) = false := decide_eq_false h1
    rw [h1d, Bool.false_and, Bool.false_and] at hb
    subst hb
    have hlH := Lib.hid hl
    clear hl
    have hbaH := Lib.hid hba
    clear hba
    have o0H := Lib.hid o0
    clear o0
    have o1H := Lib.hid o1
    clear o1
    have o2H := Lib.hid o2
    clear o2
    have o3H := Lib.hid o3
    clear o3
    have o4H := Lib.hid o4
    clear o4
    have hrH := Lib.hid hr
    clear hr
    have hcellH := Lib.hid hcell
    clear hcell
    go_enter Tryz.func52, Tryz.ntmps52
    go_wp2_with fail
    go_ret
    exact ⟨rfl, hbaH.out⟩

end Go.Proofs.YtgegdfmdcmgliaaGreatDoor.C11
