/-
  checkWriter of the program, checkPrefixes of the reference.
-/
import Derived.Test.YtgegdfmdcmgliaaGreatDoorWritDC11
import Derived.Test.YtgegdfmdcmgliaaGreatDoorPathC11
namespace Go.Proofs.YtgegdfmdcmgliaaGreatDoor.C11
open Go.RowKit
set_option linter.unusedVariables false

theorem rword_b (s : ByteArray) (b : Bool) (w : World) (hs : s.size ≤ maxLen) (hb : wordB s = b) :
    Calls Tryz.prog 98 #[.string s] w fun e w' => e = .returned (.bool b) ∧ Below w.heap.size w w' :=
  (rword_any s b w hs hb).mono fun e w' h => ⟨h.1, h.2 ▸ Below.refl _ _⟩
theorem row_b (s : ByteArray) (w : World) (hs : s.size ≤ maxLen) (b : Bool) (hb : rowB s = b) :
    Calls Tryz.prog 70 #[.string s] w fun e w' => e = .returned (.bool b) ∧ Below w.heap.size w w' :=
  (row_any s w hs b hb).mono fun e w' h => ⟨h.1, h.2 ▸ Below.refl _ _⟩
theorem plain_b (s : ByteArray) (w : World) (hs : s.size ≤ maxLen) (b : Bool) (hb : plainB s = b) :
    Calls Tryz.prog 67 #[.string s] w fun e w' => e = .returned (.bool b) ∧ Below w.heap.size w w' := plain_any s w b hb
/-- behind the two slashes there is a byte, so that the one more thing the reference asks of a prefix holds -/
theorem pref_row {s : ByteArray} (h : Lib.hasPrefix s.data.toList slsl.data.toList = true) : rowB s = plainB s := by
  unfold rowB
  have : (s.toList == []) = false := by
    rw [beq_eq_false_iff_ne, Lib.toList_data]
    intro e
    rw [e] at h
    cases h
  rw [this]
  cases plainB s <;> rfl

def PrRel (l : List ByteArray) (c : Int) (w0 : World) (i : Value) (wr : World) : Prop :=
  ∃ k : Nat, k ≤ l.length ∧ i = .int .i64 k ∧ prefsErr (prevP l k) (l.drop k) = c ∧ Below w0.heap.size w0 wr

-- {0} the way from the prefixes' fault to the fault asked; {1} isPlain's contract; {2} more rows for what lies behind the call; {3} the cell of the row in the box, or nothing

set_option maxHeartbeats 4000000 in
theorem writer_any (x : Writer) (w : World) (hok : RWriter.ok w x) (c : Int) (hF : writerF x = c) :
    Calls Tryz.prog 78 #[.agg #[.string x.name, .string x.secret, .slice x.prefixes.A x.prefixes.n x.prefixes.cap, .int .i64 x.from_, .int .i64 x.to_]] w fun e w' =>
      e = .returned (.int .i64 c) ∧ Below w.heap.size w w' := by
  obtain ⟨nm, se, ⟨A, n, cap, l⟩, fr, tt⟩ := x
  obtain ⟨o0, o1, o2, o3, o4⟩ := hok
  simp only at o0 o1 o2 o3 o4 hF ⊢
  unfold writerF at hF
  simp only at hF
  obtain ⟨b1, hb1⟩ : ∃ b, wordB nm = b := ⟨_, rfl⟩
  obtain ⟨b2, hb2⟩ : ∃ b, secretB se = b := ⟨_, rfl⟩
  rw [hb1, hb2] at hF
  have hba := (Below.refl w.heap.size w).alloc (Nat.le_refl _) (.cells #[.string nm, .string se, .slice A n cap, .int .i64 fr, .int .i64 tt] 55)
  have hbas := hba.size
  have hl : SlAt RStr w A n l := o2.1
  have hal := hl.1
  have han9 : n ≤ 9223372036854775807 := Nat.le_trans o2.2.1 o2.2.2.1
  have o0 : nm.size ≤ maxLen := o0
  have o1 : se.size ≤ maxLen := o1
  have o0H := Lib.hid o0
  clear o0
  have o1H := Lib.hid o1
  clear o1
  have o2H := Lib.hid o2
  clear o2
  have o3H := Lib.hid o3
  clear o3
  have o4H := Lib.hid o4
  clear o4
  have hFH := Lib.hid hF
  clear hF
  have hb1H := Lib.hid hb1
  clear hb1
  have hb2H := Lib.hid hb2
  clear hb2
  have hbaH := Lib.hid hba
  clear hba
  have hbasH := Lib.hid hbas
  clear hbas
  have hlH := Lib.hid hl
  clear hl
  have halH := Lib.hid hal
  clear hal
  go_enter Tryz.func78, Tryz.ntmps78
  go_wp2_with fail
  refine (word_any nm b1 _ o0H.out hb1H.out).mono ?_
  rintro e w1 ⟨rfl, hw1⟩
  have q1 := (hw1.cell (by simp)).trans (cell_new w _ _ 1)
  have q2 := (hw1.cell (by simp)).trans (cell_new w _ _ 2)
  have q3 := (hw1.cell (by simp)).trans (cell_new w _ _ 3)
  have q4 := (hw1.cell (by simp)).trans (cell_new w _ _ 4)
  have hbw1 := hbaH.out.trans (hw1.mono hbasH.out)
  have hz1 : w.heap.size < w1.heap.size := by have := hw1.size; simp at this; omega
  simp only [List.getElem?_toArray, List.getElem?_cons_succ, List.getElem?_cons_zero] at q1 q2 q3 q4
  have hw1H := Lib.hid hw1
  clear hw1
  have hbw1H := Lib.hid hbw1
  clear hbw1
  have hF := hFH.out
  clear hFH
  cases b1
  · rw [if_neg (by decide)] at hF
    have hFH := Lib.hid hF
    clear hF
    clear q1 q2 q3 q4
    go_wp2
    go_ret
    exact ⟨ret1_int hFH.out, hbw1H.out⟩
  · rw [if_pos rfl] at hF
    have hFH := Lib.hid hF
    clear hF
    go_wp2_with fail
    refine (secret_any se _ o1H.out b2 hb2H.out).mono ?_
    rintro e w2 ⟨rfl, hw2⟩
    replace q2 := (hw2.cell (by omega)).trans q2
    replace q3 := (hw2.cell (by omega)).trans q3
    replace q4 := (hw2.cell (by omega)).trans q4
    have hbw2 := hbw1H.out.trans (hw2.mono hbw1H.out.size)
    have hz2 : w.heap.size < w2.heap.size := by have := hw2.size; omega
    clear q1
    have hw2H := Lib.hid hw2
    clear hw2
    have hbw2H := Lib.hid hbw2
    clear hbw2
    have hF := hFH.out
    clear hFH
    cases b2
    · rw [if_neg (by decide)] at hF
      have hFH := Lib.hid hF
      clear hF
      clear q2 q3 q4
      go_wp2
      go_ret
      exact ⟨ret1_int hFH.out, hbw2H.out⟩
    · rw [if_pos rfl] at hF
      by_cases h30 : n ≤ 30
      · have hpf : prefsF l = prefsErr none l := by unfold prefsF; rw [halH.out, if_pos h30]
        rw [hpf] at hF
        obtain ⟨c3, hc3⟩ : ∃ c3, prefsErr none l = c3 := ⟨_, rfl⟩
        rw [hc3] at hF
        have hX : ∀ z : Int, z = c3 → z ≠ 0 → z = c := fun z h2 h1 => by
          rw [if_neg (by omega)] at hF
          omega
        have hFH := Lib.hid hF
        clear hF
        have hXH := Lib.hid hX
        clear hX
        have hc3H := Lib.hid hc3
        clear hc3
        clear hpf
        go_wp2_with fail
        go_loopw [23] (fun i wr => PrRel l c3 w2 i wr) (fun i _ => n - (intOf i).toNat)
        case atStart => exact ⟨0, Nat.zero_le _, rfl, hc3H.out, Below.refl _ _⟩
        case round =>
          obtain ⟨k, hk, rfl, hck, hb⟩ := hrel
          have hkl : k ≤ n := by have := halH.out; omega
          have hbs := hb.size
          have q2r := (hb.cell hz2).trans q2;have q3r := (hb.cell hz2).trans q3;have q4r := (hb.cell hz2).trans q4;clear q2 q3 q4
          have hbw := hbw2H.out.trans (hb.mono hbw2H.out.size)
          by_cases hlt : k < n
          · obtain ⟨b, off, hA, _⟩ := hlH.out.2.1 (by omega)
            obtain ⟨s, hx⟩ : ∃ x, l[k]? = some x := ⟨l[k]'(by have := halH.out; omega), List.getElem?_eq_getElem _⟩
            have hsl := hlH.out
            rw [hA] at hsl
            have c0 := cell_Str (hsl.below hbw) hx
            have hos : s.size ≤ maxLen := hsl.2.2 s (List.mem_of_getElem? hx)
            have hos9 : s.size ≤ 9223372036854775807 := hos
            rw [drop_cons hx, prefsErr] at hck
            have hkl2 : k + 1 ≤ l.length := by have := halH.out; omega
            have hpn : prevP l (k + 1) = some s := by rw [prevP, if_neg (by omega), show k + 1 - 1 = k from rfl, hx]
            subst hA
            cases hp : Lib.hasPrefix s.data.toList slsl.data.toList
            · have hbs : prefB s = false := by unfold prefB; rw [hp]; rfl
              have hp1 : Lib.hasPrefix s.data.toList (⟨#[47, 47]⟩ : ByteArray).data.toList = false := hp
              rw [hbs, if_neg (by decide)] at hck
              have hckH := Lib.hid hck
              clear hck
              have hbH := Lib.hid hb
              clear hb
              have hbwH := Lib.hid hbw
              clear hbw
              have hpnH := Lib.hid hpn
              clear hpn
              have hkl2H := Lib.hid hkl2
              clear hkl2
              have hxH := Lib.hid hx
              clear hx
              have hosH := Lib.hid hos
              clear hos
              have hslH := Lib.hid hsl
              clear hsl
              go_wp2_with (go_at_call 85; refine (Tryz.strings_HasPrefix _ _ _).mono ?_; rintro e wz ⟨rfl, hwz⟩; rw [hp1, hwz]; clear hwz; clear wz)
              go_ret
              exact ⟨ret1_int (hXH.out _ hckH.out (by decide)), hbwH.out⟩
            · have hp1 : Lib.hasPrefix s.data.toList (⟨#[47, 47]⟩ : ByteArray).data.toList = true := hp
              by_cases hz : s.size ≤ 1000
              · obtain ⟨q, hq⟩ : ∃ q, plainB s = q := ⟨_, rfl⟩
                have hqr : rowB s = q := by rw [pref_row hp]; exact hq
                have hbs : prefB s = q := by unfold prefB; rw [hp, decide_eq_true hz, hq]; rfl
                rw [hbs] at hck
                clear hbs hp
                have hckH := Lib.hid hck
                clear hck
                have hbH := Lib.hid hb
                clear hb
                have hbwH := Lib.hid hbw
                clear hbw
                have hpnH := Lib.hid hpn
                clear hpn
                have hkl2H := Lib.hid hkl2
                clear hkl2
                have hxH := Lib.hid hx
                clear hx
                have hosH := Lib.hid hos
                clear hos
                have hslH := Lib.hid hsl
                clear hsl
                have hqH := Lib.hid hq
                clear hq
                have hqrH := Lib.hid hqr
                clear hqr
                go_wp2_with (go_at_call 85; refine (Tryz.strings_HasPrefix _ _ _).mono ?_; rintro e wz ⟨rfl, hwz⟩; rw [hp1, hwz]; clear hwz; clear wz)
                refine (plain_b s _ hosH.out q hqH.out).mono ?_
                rintro e w3 ⟨rfl, hw3⟩
                have hb3 := hbH.out.trans (hw3.mono hbH.out.size)
                have hbw3 := hbwH.out.trans (hw3.mono hbwH.out.size)
                replace q2r := (hw3.cell (show w.heap.size < wr.heap.size by omega)).trans q2r
                clear hw3 c0
                have hck := hckH.out
                clear hckH
                cases q
                · rw [if_neg (by decide)] at hck
                  have hckH := Lib.hid hck
                  clear hck
                  have hb3H := Lib.hid hb3
                  clear hb3
                  have hbw3H := Lib.hid hbw3
                  clear hbw3
                  go_wp2
                  go_ret
                  exact ⟨ret1_int (hXH.out _ hckH.out (by decide)), hbw3H.out⟩
                · rw [if_pos rfl] at hck
                  by_cases hk0 : k = 0
                  · subst hk0
                    have R : ∀ nq, PrRel l c3 w2 (.int .i64 1) (w3.drewN nq) := by
                      refine fun nq => ⟨1, hkl2H.out, by go_num, ?_, bel_drewN hb3 nq⟩
                      rw [prevP, if_pos rfl, Option.map_none, if_neg (by decide)] at hck
                      rw [hpnH.out]
                      exact hck
                    clear hck
                    have RH := Lib.hid R
                    clear R
                    have hb3H := Lib.hid hb3
                    clear hb3
                    have hbw3H := Lib.hid hbw3
                    clear hbw3
                    go_wp2
                    refine ⟨?rel, ?measure⟩
                    case measure => (simp [intOf]; omega)
                    case rel => first | exact (RH.out 0) | exact ⟨rfl, (RH.out 0)⟩ | ((try refine ⟨rfl, ?_⟩); (repeat apply Exists.intro); refine ⟨(RH.out 0), ?_⟩; ((repeat' apply And.intro) <;> rfl))
                  · obtain ⟨j, rfl⟩ : ∃ j, k = j + 1 := ⟨k - 1, by omega⟩
                    obtain ⟨y, hy⟩ : ∃ y, l[j]? = some y := ⟨l[j]'(by have := halH.out; omega), List.getElem?_eq_getElem _⟩
                    have d0 := cell_Str (hslH.out.below hbw3) hy
                    have hpr : prevP l (j + 1) = some y := by rw [prevP, if_neg (by omega), show j + 1 - 1 = j from rfl, hy]
                    rw [hpr, Option.map_some] at hck
                    clear hpr
                    cases hle : sle s y
                    · have hle' : (Op.bytesLess s.toList y.toList || s.toList == y.toList) = false := hle
                      rw [hle, if_neg (by decide)] at hck
                      have R : ∀ nq, PrRel l c3 w2 (.int .i64 (j + 1 + 1)) (w3.drewN nq) := by
                        refine fun nq => ⟨j + 1 + 1, hkl2H.out, by go_num, ?_, bel_drewN hb3 nq⟩
                        rw [hpnH.out]
                        exact hck
                      clear hck
                      have hleH := Lib.hid hle
                      clear hle
                      have hyH := Lib.hid hy
                      clear hy
                      have RH := Lib.hid R
                      clear R
                      have hb3H := Lib.hid hb3
                      clear hb3
                      have hbw3H := Lib.hid hbw3
                      clear hbw3
                      go_wp2
                      refine ⟨?rel, ?measure⟩
                      case measure => (simp [intOf]; omega)
                      case rel => first | exact (RH.out 0) | exact ⟨rfl, (RH.out 0)⟩ | ((try refine ⟨rfl, ?_⟩); (repeat apply Exists.intro); refine ⟨(RH.out 0), ?_⟩; ((repeat' apply And.intro) <;> rfl))
                    · have hle' : (Op.bytesLess s.toList y.toList || s.toList == y.toList) = true := hle
                      rw [hle, if_pos rfl] at hck
                      have hleH := Lib.hid hle
                      clear hle
                      have hckH := Lib.hid hck
                      clear hck
                      have hyH := Lib.hid hy
                      clear hy
                      have hb3H := Lib.hid hb3
                      clear hb3
                      have hbw3H := Lib.hid hbw3
                      clear hbw3
                      go_wp2
                      go_ret
                      exact ⟨ret1_int (hXH.out _ hckH.out (by decide)), hbw3H.out⟩
              · have hbs : prefB s = false := by unfold prefB; rw [hp, decide_eq_false hz]; rfl
                have hzd : decide ((s.size : Int) ≤ 1000) = false := decide_eq_false (by omega)
                rw [hbs, if_neg (by decide)] at hck
                have hckH := Lib.hid hck
                clear hck
                have hbH := Lib.hid hb
                clear hb
                have hbwH := Lib.hid hbw
                clear hbw
                have hpnH := Lib.hid hpn
                clear hpn
                have hkl2H := Lib.hid hkl2
                clear hkl2
                have hxH := Lib.hid hx
                clear hx
                have hosH := Lib.hid hos
                clear hos
                have hslH := Lib.hid hsl
                clear hsl
                go_wp2_with (go_at_call 85; refine (Tryz.strings_HasPrefix _ _ _).mono ?_; rintro e wz ⟨rfl, hwz⟩; rw [hp1, hwz]; clear hwz; clear wz)
                go_ret
                exact ⟨ret1_int (hXH.out _ hckH.out (by decide)), hbwH.out⟩
          · have e : l.drop k = [] := List.drop_eq_nil_of_le (by have := halH.out; omega)
            rw [e] at hck
            have hc0 : 0 = c3 := by rw [← hck]; unfold prefsErr; rfl
            clear e hck
            have hF := hFH.out
            clear hFH
            rw [if_pos hc0.symm] at hF
            clear hc0
            by_cases i4 : inR 0 1000000000 fr = true
            · by_cases i5 : inR 0 1000000001 tt = true
              · rw [if_pos ⟨i4, i5⟩] at hF
                by_cases hle : tt ≤ fr
                · rw [if_pos hle] at hF
                  have hFH := Lib.hid hF
                  clear hF
                  have hbH := Lib.hid hb
                  clear hb
                  have hbwH := Lib.hid hbw
                  clear hbw
                  go_wp2_with (go_at_call 20; refine (within_p _ _ _ _).mono ?_; rintro e wz ⟨rfl, rfl⟩)
                  go_ret
                  exact ⟨ret1_int hFH.out, hbwH.out⟩
                · rw [if_neg hle] at hF
                  have hle2 : decide (tt ≤ fr) = false := decide_eq_false hle
                  have hFH := Lib.hid hF
                  clear hF
                  have hbH := Lib.hid hb
                  clear hb
                  have hbwH := Lib.hid hbw
                  clear hbw
                  go_wp2_with (go_at_call 20; refine (within_p _ _ _ _).mono ?_; rintro e wz ⟨rfl, rfl⟩)
                  go_ret
                  exact ⟨ret1_int hFH.out, hbwH.out⟩
              · rw [if_neg (fun h => i5 h.2)] at hF
                have i5 : inR 0 1000000001 tt = false := by simpa using i5
                have hFH := Lib.hid hF
                clear hF
                have hbH := Lib.hid hb
                clear hb
                have hbwH := Lib.hid hbw
                clear hbw
                go_wp2_with (go_at_call 20; refine (within_p _ _ _ _).mono ?_; rintro e wz ⟨rfl, rfl⟩)
                go_ret
                exact ⟨ret1_int hFH.out, hbwH.out⟩
            · rw [if_neg (fun h => i4 h.1)] at hF
              have i4 : inR 0 1000000000 fr = false := by simpa using i4
              have hFH := Lib.hid hF
              clear hF
              have hbH := Lib.hid hb
              clear hb
              have hbwH := Lib.hid hbw
              clear hbw
              go_wp2_with (go_at_call 20; refine (within_p _ _ _ _).mono ?_; rintro e wz ⟨rfl, rfl⟩)
              go_ret
              exact ⟨ret1_int hFH.out, hbwH.out⟩
      · have hpf : prefsF l = 2 := by unfold prefsF; rw [halH.out, if_neg h30]
        rw [hpf, if_neg (by decide)] at hF
        have h30d : decide ((n : Int) ≤ 30) = false := decide_eq_false (by omega)
        clear hpf q3 q4
        have hFH := Lib.hid hF
        clear hF
        go_wp2_with fail
        go_ret
        exact ⟨ret1_int hFH.out, hbw2H.out⟩
end Go.Proofs.YtgegdfmdcmgliaaGreatDoor.C11
