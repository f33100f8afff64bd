/-
  may, of the program and of the reference.
-/
import Derived.Test.YtaeeicnbnohghaaGreatDoorMayPC11
namespace Go.Proofs.YtaeeicnbnohghaaGreatDoor.C11
open Go.RowKit
set_option linter.unusedVariables false

theorem mayfn_any (label p : ByteArray) (w : World) (a : Addr) (ha : w.cell? a = some (.string label)) :
    Calls Tryz.prog 82 #[.string p, .pointer (some a)] w fun e w' => e = .returned (.bool (Lib.hasPrefix label.data.toList p.data.toList)) ∧ Below w.heap.size w w' := by
  go_enter Tryz.func82, Tryz.ntmps82
  go_wp2_with (go_at_call 83; refine (Tryz.strings_HasPrefix _ _ _).mono ?_; rintro e wz ⟨rfl, hwz⟩; rw [hwz]; clear hwz; clear wz)
  go_ret
  exact ⟨rfl, Below.refl _ _⟩

set_option maxHeartbeats 2000000 in
theorem may_any (x : Writer) (label : ByteArray) (at_ : Int) (w : World) (hok : RWriter.ok w x) (b : Bool) (hb : mayB x label at_ = b) :
    Calls Tryz.prog 42 #[.agg #[.string x.name, .string x.secret, .slice x.prefixes.A x.prefixes.n x.prefixes.cap, .int .i64 x.from_, .int .i64 x.to_], .string label, .int .i64 at_] w fun e w' =>
      e = .returned (.bool b) ∧ Below w.heap.size w w' := by
  obtain ⟨nm, se, ⟨A, n, cap, l⟩, fr, tt⟩ := x
  obtain ⟨o0, o1, o2, o3, o4⟩ := hok
  simp only at o0 o1 o2 o3 o4 ⊢
  unfold mayB at hb
  simp only at hb
  have han9 : n ≤ 9223372036854775807 := Nat.le_trans o2.2.1 o2.2.2.1
  have hl : SlAt RStr w A n l := o2.1
  have hba := ((Below.refl w.heap.size w).alloc (Nat.le_refl _) (.cells #[.string nm, .string se, .slice A n cap, .int .i64 fr, .int .i64 tt] 68)).alloc (by simp) (.cells #[.string label] 9)
  have hcell : ((w.alloc (.cells #[.string nm, .string se, .slice A n cap, .int .i64 fr, .int .i64 tt] 68)).alloc (.cells #[.string label] 9)).cell? ⟨w.heap.size + 1, 0, none⟩ = some (.string label) := by simp [go_sem]
  obtain ⟨r, hr⟩ : ∃ r, l.any (fun p => Lib.hasPrefix label.data.toList p.data.toList) = r := ⟨_, rfl⟩
  rw [hr] at hb
  by_cases h1 : fr ≤ at_
  · by_cases h2 : at_ < tt
    · rw [decide_eq_true h1, decide_eq_true h2] at hb
      have hb : r = b := hb
      subst hb
      have hlH := Lib.hid hl
      clear hl
      have hbaH := Lib.hid hba
      clear hba
      have o0H := Lib.hid o0
      clear o0
      have o1H := Lib.hid o1
      clear o1
      have o2H := Lib.hid o2
      clear o2
      have o3H := Lib.hid o3
      clear o3
      have o4H := Lib.hid o4
      clear o4
      have hrH := Lib.hid hr
      clear hr
      have hcellH := Lib.hid hcell
      clear hcell
      go_enter Tryz.func42, Tryz.ntmps42
      go_wp2_with fail
      refine (containsFunc_any 82 #[.pointer (some ⟨w.heap.size + 1, 0, none⟩)] (enters_of Tryz.func82 (by kernel_rfl) rfl) (fun p => Lib.hasPrefix label.data.toList p.data.toList) A n cap l _ (hlH.out.below hbaH.out) han9 (fun W p _ hW => mayfn_any label p W _ ((hW.cell (by simp)).trans hcellH.out)) r hrH.out).mono ?_
      rintro e w1 ⟨rfl, hw1⟩
      have hbr := hbaH.out.trans (hw1.mono hbaH.out.size)
      have hbrH := Lib.hid hbr
      clear hbr
      have hw1H := Lib.hid hw1
      clear hw1
      go_wp2
      go_ret
      exact ⟨rfl, hbrH.out⟩
    · have h2d : decide (at_ < tt) = false := decide_eq_false h2
      rw [h2d, Bool.and_false, Bool.false_and] at hb
      subst hb
      have hlH := Lib.hid hl
      clear hl
      have hbaH := Lib.hid hba
      clear hba
      have o0H := Lib.hid o0
      clear o0
      have o1H := Lib.hid o1
      clear o1
      have o2H := Lib.hid o2
      clear o2
      have o3H := Lib.hid o3
      clear o3
      have o4H := Lib.hid o4
      clear o4
      have hrH := Lib.hid hr
      clear hr
      have hcellH := Lib.hid hcell
      clear hcell
      go_enter Tryz.func42, Tryz.ntmps42
      go_wp2_with fail
      go_ret
      exact ⟨rfl, hbaH.out⟩
  · have h1d : decide (fr ≤ at_) = false := decide_eq_false h1
    rw [h1d, Bool.false_and, Bool.false_and] at hb
    subst hb
    have hlH := Lib.hid hl
    clear hl
    have hbaH := Lib.hid hba
    clear hba
    have o0H := Lib.hid o0
    clear o0
    have o1H := Lib.hid o1
    clear o1
    have o2H := Lib.hid o2
    clear o2
    have o3H := Lib.hid o3
    clear o3
    have o4H := Lib.hid o4
    clear o4
    have hrH := Lib.hid hr
    clear hr
    have hcellH := Lib.hid hcell
    clear hcell
    go_enter Tryz.func42, Tryz.ntmps42
    go_wp2_with fail
    go_ret
    exact ⟨rfl, hbaH.out⟩

set_option maxHeartbeats 2000000 in
theorem rmay_any (x : Writer) (label : ByteArray) (at_ : Int) (w : World) (hok : RWriter.ok w x) (b : Bool) (hb : mayB x label at_ = b) :
    Calls Tryz.prog 90 #[.agg #[.string x.name, .string x.secret, .slice x.prefixes.A x.prefixes.n x.prefixes.cap, .int .i64 x.from_, .int .i64 x.to_], .string label, .int .i64 at_] w fun e w' =>
      e = .returned (.bool b) ∧ Below w.heap.size w w' := by
  obtain ⟨nm, se, ⟨A, n, cap, l⟩, fr, tt⟩ := x
  obtain ⟨o0, o1, o2, o3, o4⟩ := hok
  simp only at o0 o1 o2 o3 o4 ⊢
  unfold mayB at hb
  simp only at hb
  have han9 : n ≤ 9223372036854775807 := Nat.le_trans o2.2.1 o2.2.2.1
  have hl : SlAt RStr w A n l := o2.1
  have hll := hl.1
  have hba := (Below.refl w.heap.size w).alloc (Nat.le_refl _) (.cells #[.string nm, .string se, .slice A n cap, .int .i64 fr, .int .i64 tt] 68)
  obtain ⟨r, hr⟩ : ∃ r, l.any (fun p => Lib.hasPrefix label.data.toList p.data.toList) = r := ⟨_, rfl⟩
  rw [hr] at hb
  have q3 : (w.alloc (.cells #[.string nm, .string se, .slice A n cap, .int .i64 fr, .int .i64 tt] 68)).cell? ⟨w.heap.size, 3, none⟩ = some (.int .i64 fr) := by simp [go_sem]
  have q4 : (w.alloc (.cells #[.string nm, .string se, .slice A n cap, .int .i64 fr, .int .i64 tt] 68)).cell? ⟨w.heap.size, 4, none⟩ = some (.int .i64 tt) := by simp [go_sem]
  have hlH := Lib.hid hl
  clear hl
  have hllH := Lib.hid hll
  clear hll
  have hbaH := Lib.hid hba
  clear hba
  have o0H := Lib.hid o0
  clear o0
  have o1H := Lib.hid o1
  clear o1
  have o2H := Lib.hid o2
  clear o2
  have o3H := Lib.hid o3
  clear o3
  have o4H := Lib.hid o4
  clear o4
  have hrH := Lib.hid hr
  clear hr
  have hbH := Lib.hid hb
  clear hb
  have q3H := Lib.hid q3
  clear q3
  have q4H := Lib.hid q4
  clear q4
  go_enter Tryz.func90, Tryz.ntmps90
  go_wp2_with fail
  go_loopw [12] (fun i wr => AnyRel (fun p => Lib.hasPrefix label.data.toList p.data.toList) l r (w.alloc (.cells #[.string nm, .string se, .slice A n cap, .int .i64 fr, .int .i64 tt] 68)) i wr) (fun i _ => n - (intOf i).toNat)
  case atStart => exact ⟨0, Nat.zero_le _, rfl, hrH.out, Below.refl _ _⟩
  case round =>
    obtain ⟨k, hk, rfl, hck, hbw⟩ := hrel
    have hkl : k ≤ n := by have := hllH.out; omega
    have hbr := hbaH.out.trans (hbw.mono (by simp))
    have q3 := (hbw.cell (by simp)).trans q3H.out
    have q4 := (hbw.cell (by simp)).trans q4H.out
    by_cases hlt : k < n
    · obtain ⟨b0, off, hA, _⟩ := hlH.out.2.1 (by omega)
      subst hA
      obtain ⟨s, hx⟩ : ∃ x, l[k]? = some x := ⟨l[k]'(by have := hllH.out; omega), List.getElem?_eq_getElem _⟩
      have c0 := cell_Str (hlH.out.below hbr) hx
      rw [drop_cons hx, List.any_cons] at hck
      have hkl2 : k + 1 ≤ l.length := by have := hllH.out; omega
      cases hp : Lib.hasPrefix label.data.toList s.data.toList
      · rw [hp, Bool.false_or] at hck
        have R : AnyRel (fun p => Lib.hasPrefix label.data.toList p.data.toList) l r (w.alloc (.cells #[.string nm, .string se, .slice (some ⟨b0, off, none⟩) n cap, .int .i64 fr, .int .i64 tt] 68)) (.int .i64 (k + 1)) wr := ⟨k + 1, hkl2, by go_num, hck, hbw⟩
        clear q3 q4
        have hxH := Lib.hid hx
        clear hx
        have hckH := Lib.hid hck
        clear hck
        have hbwH := Lib.hid hbw
        clear hbw
        have hbrH := Lib.hid hbr
        clear hbr
        have RH := Lib.hid R
        clear R
        go_wp2_with (go_at_call 83; refine (Tryz.strings_HasPrefix _ _ _).mono ?_; rintro e wz ⟨rfl, hwz⟩; rw [hp, hwz]; clear hwz; clear wz)
        refine ⟨?rel, ?measure⟩
        case measure => (simp [intOf]; omega)
        case rel => first | exact RH.out | exact ⟨rfl, RH.out⟩ | ((try refine ⟨rfl, ?_⟩); (repeat apply Exists.intro); refine ⟨RH.out, ?_⟩; ((repeat' apply And.intro) <;> rfl))
      · rw [hp, Bool.true_or] at hck
        subst hck
        have hb := hbH.out
        rw [Bool.and_true] at hb
        clear hbH
        by_cases h1 : fr ≤ at_
        · have h1d : decide (fr ≤ at_) = true := decide_eq_true h1
          rw [h1d, Bool.true_and] at hb
          subst hb
          have hxH := Lib.hid hx
          clear hx
          have hbwH := Lib.hid hbw
          clear hbw
          have hbrH := Lib.hid hbr
          clear hbr
          go_wp2_with (go_at_call 83; refine (Tryz.strings_HasPrefix _ _ _).mono ?_; rintro e wz ⟨rfl, hwz⟩; rw [hp, hwz]; clear hwz; clear wz)
          go_ret
          exact ⟨rfl, hbrH.out⟩
        · have h1d : decide (fr ≤ at_) = false := decide_eq_false h1
          rw [h1d, Bool.false_and] at hb
          subst hb
          have hxH := Lib.hid hx
          clear hx
          have hbwH := Lib.hid hbw
          clear hbw
          have hbrH := Lib.hid hbr
          clear hbr
          go_wp2_with (go_at_call 83; refine (Tryz.strings_HasPrefix _ _ _).mono ?_; rintro e wz ⟨rfl, hwz⟩; rw [hp, hwz]; clear hwz; clear wz)
          go_ret
          exact ⟨rfl, hbrH.out⟩
    · have e : l.drop k = [] := List.drop_eq_nil_of_le (by have := hllH.out; omega)
      rw [e] at hck
      have hr0 : r = false := by rw [← hck]; rfl
      subst hr0
      have hb := hbH.out
      rw [Bool.and_false] at hb
      subst hb
      clear hbH q3 q4
      have hckH := Lib.hid hck
      clear hck
      have hbwH := Lib.hid hbw
      clear hbw
      have hbrH := Lib.hid hbr
      clear hbr
      have eH := Lib.hid e
      clear e
      go_wp2
      go_ret
      exact ⟨rfl, hbrH.out⟩
end Go.Proofs.YtaeeicnbnohghaaGreatDoor.C11
