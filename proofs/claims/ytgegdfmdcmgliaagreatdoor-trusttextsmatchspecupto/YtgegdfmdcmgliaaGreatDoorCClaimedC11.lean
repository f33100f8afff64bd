/-
  checkClaimed, of the program and of the reference (printed by gen_claimed.py).
-/
import Derived.Test.YtgegdfmdcmgliaaGreatDoorClaimDC11
import Derived.Test.YtgegdfmdcmgliaaGreatDoorPathC11
import Derived.Test.YtgegdfmdcmgliaaGreatDoorLabelRC11
namespace Go.Proofs.YtgegdfmdcmgliaaGreatDoor.C11
open Go.RowKit
set_option linter.unusedVariables false

theorem rword_bb (s : ByteArray) (b : Bool) (w : World) (hs : s.size ≤ maxLen) (hb : wordB s = b) :
    Calls Tryz.prog 98 #[.string s] w fun e w' => e = .returned (.bool b) ∧ Below w.heap.size w w' :=
  (rword_any s b w hs hb).mono fun e w' h => ⟨h.1, h.2 ▸ Below.refl _ _⟩
def UsRel (l : List ByteArray) (c : Int) (w0 : World) (i : Value) (wr : World) : Prop :=
  ∃ k : Nat, k ≤ l.length ∧ i = .int .i64 k ∧ usesErr (prevU l k) (l.drop k) = c ∧ Below w0.heap.size w0 wr

set_option maxHeartbeats 4000000 in
theorem claimed_any (x : Claimed) (w : World) (hm : MaxLenAt w) (hok : RClaimed.ok w x) (c : Int) (hF : claimedF x = c) :
    Calls Tryz.prog 60 #[.agg #[.string x.key, .string x.label, .string x.result, .string x.writer, .int .i64 x.at_, .slice x.uses.A x.uses.n x.uses.cap, .string x.sign]] w fun e w' =>
      e = .returned (.int .i64 c) ∧ Below w.heap.size w w' := by
  obtain ⟨key, label, result, writer, at_, ⟨A, n, cap, l⟩, sign⟩ := x
  obtain ⟨o0, o1, o2, o3, o4, o5, o6⟩ := hok
  simp only at o0 o1 o2 o3 o4 o5 o6 hF ⊢
  unfold claimedF at hF
  simp only at hF
  obtain ⟨b1, hb1⟩ : ∃ b, digB key = b := ⟨_, rfl⟩
  obtain ⟨b2, hb2⟩ : ∃ b, labelL label.data.toList = b := ⟨_, rfl⟩
  obtain ⟨b3, hb3⟩ : ∃ b, digB result = b := ⟨_, rfl⟩
  obtain ⟨b4, hb4⟩ : ∃ b, wordB writer = b := ⟨_, rfl⟩
  rw [hb1, hb2, hb3, hb4] at hF
  have hba := (Below.refl w.heap.size w).alloc (Nat.le_refl _) (.cells #[.string key, .string label, .string result, .string writer, .int .i64 at_, .slice A n cap, .string sign] 51)
  have hbas := hba.size
  have hl : SlAt RStr w A n l := o5.1
  have hal := hl.1
  have han9 : n ≤ 9223372036854775807 := Nat.le_trans o5.2.1 o5.2.2.1
  have o1 : label.size ≤ maxLen := o1
  have o3 : writer.size ≤ maxLen := o3
  have o0H := Lib.hid o0
  clear o0
  have o1H := Lib.hid o1
  clear o1
  have o2H := Lib.hid o2
  clear o2
  have o3H := Lib.hid o3
  clear o3
  have o4H := Lib.hid o4
  clear o4
  have o5H := Lib.hid o5
  clear o5
  have o6H := Lib.hid o6
  clear o6
  have hFH := Lib.hid hF
  clear hF
  have hb1H := Lib.hid hb1
  clear hb1
  have hb2H := Lib.hid hb2
  clear hb2
  have hb3H := Lib.hid hb3
  clear hb3
  have hb4H := Lib.hid hb4
  clear hb4
  have hbaH := Lib.hid hba
  clear hba
  have hbasH := Lib.hid hbas
  clear hbas
  have hlH := Lib.hid hl
  clear hl
  have halH := Lib.hid hal
  clear hal
  have hmH := Lib.hid hm
  clear hm
  go_enter Tryz.func60, Tryz.ntmps60
  go_wp2_with fail
  refine (dig_any key _ b1 hb1H.out).mono ?_
  rintro e w1 ⟨rfl, hw1⟩
  have q1 := (hw1.cell (by simp)).trans (cell_new w _ _ 1)
  have q2 := (hw1.cell (by simp)).trans (cell_new w _ _ 2)
  have q3 := (hw1.cell (by simp)).trans (cell_new w _ _ 3)
  have q4 := (hw1.cell (by simp)).trans (cell_new w _ _ 4)
  have q5 := (hw1.cell (by simp)).trans (cell_new w _ _ 5)
  have q6 := (hw1.cell (by simp)).trans (cell_new w _ _ 6)
  have hbw1 := hbaH.out.trans (hw1.mono hbasH.out)
  have hz1 : w.heap.size < w1.heap.size := by have := hw1.size; simp at this; omega
  simp only [List.getElem?_toArray, List.getElem?_cons_succ, List.getElem?_cons_zero] at q1 q2 q3 q4 q5 q6
  have hw1H := Lib.hid hw1
  clear hw1
  have hbw1H := Lib.hid hbw1
  clear hbw1
  have hF := hFH.out
  clear hFH
  cases b1
  · rw [if_neg (by decide)] at hF
    have hFH := Lib.hid hF
    clear hF
    clear q1 q2 q3 q4 q5 q6
    go_wp2
    go_ret
    exact ⟨ret1_int hFH.out, hbw1H.out⟩
  · rw [if_pos rfl] at hF
    have hFH := Lib.hid hF
    clear hF
    go_wp2_with fail
    refine (isWhole_big label _ (hmH.out.below hbw1H.out) o1H.out b2 hb2H.out).mono ?_
    rintro e w2 ⟨rfl, hw2⟩
    replace q1 := (hw2.cell (by omega)).trans q1
    replace q2 := (hw2.cell (by omega)).trans q2
    replace q3 := (hw2.cell (by omega)).trans q3
    replace q4 := (hw2.cell (by omega)).trans q4
    replace q5 := (hw2.cell (by omega)).trans q5
    replace q6 := (hw2.cell (by omega)).trans q6
    have hbw2 := hbw1H.out.trans (hw2.mono hbw1H.out.size)
    have hz2 : w.heap.size < w2.heap.size := by have := hw2.size; omega
    have hw2H := Lib.hid hw2
    clear hw2
    have hbw2H := Lib.hid hbw2
    clear hbw2
    have hF := hFH.out
    clear hFH
    cases b2
    · rw [if_neg (by decide)] at hF
      have hFH := Lib.hid hF
      clear hF
      clear q1 q2 q3 q4 q5 q6
      go_wp2
      go_ret
      exact ⟨ret1_int hFH.out, hbw2H.out⟩
    · rw [if_pos rfl] at hF
      have hFH := Lib.hid hF
      clear hF
      go_wp2_with fail
      refine (dig_any result _ b3 hb3H.out).mono ?_
      rintro e w3 ⟨rfl, hw3⟩
      replace q2 := (hw3.cell (by omega)).trans q2
      replace q3 := (hw3.cell (by omega)).trans q3
      replace q4 := (hw3.cell (by omega)).trans q4
      replace q5 := (hw3.cell (by omega)).trans q5
      replace q6 := (hw3.cell (by omega)).trans q6
      have hbw3 := hbw2H.out.trans (hw3.mono hbw2H.out.size)
      have hz3 : w.heap.size < w3.heap.size := by have := hw3.size; omega
      have hw3H := Lib.hid hw3
      clear hw3
      have hbw3H := Lib.hid hbw3
      clear hbw3
      have hF := hFH.out
      clear hFH
      cases b3
      · rw [if_neg (by decide)] at hF
        have hFH := Lib.hid hF
        clear hF
        clear q2 q3 q4 q5 q6
        go_wp2
        go_ret
        exact ⟨ret1_int hFH.out, hbw3H.out⟩
      · rw [if_pos rfl] at hF
        have hFH := Lib.hid hF
        clear hF
        go_wp2_with fail
        refine (word_any writer b4 _ o3H.out hb4H.out).mono ?_
        rintro e w4 ⟨rfl, hw4⟩
        replace q3 := (hw4.cell (by omega)).trans q3
        replace q4 := (hw4.cell (by omega)).trans q4
        replace q5 := (hw4.cell (by omega)).trans q5
        replace q6 := (hw4.cell (by omega)).trans q6
        have hbw4 := hbw3H.out.trans (hw4.mono hbw3H.out.size)
        have hz4 : w.heap.size < w4.heap.size := by have := hw4.size; omega
        have hw4H := Lib.hid hw4
        clear hw4
        have hbw4H := Lib.hid hbw4
        clear hbw4
        have hF := hFH.out
        clear hFH
        cases b4
        · rw [if_neg (by decide)] at hF
          have hFH := Lib.hid hF
          clear hF
          clear q3 q4 q5 q6
          go_wp2
          go_ret
          exact ⟨ret1_int hFH.out, hbw4H.out⟩
        · rw [if_pos rfl] at hF
          clear q3
          by_cases i4 : inR 0 1000000000 at_ = true
          · rw [if_pos i4] at hF
            by_cases h50 : n ≤ 50
            · rw [halH.out, if_pos h50] at hF
              obtain ⟨c3, hc3⟩ : ∃ c3, usesErr none l = c3 := ⟨_, rfl⟩
              rw [hc3] at hF
              have hX : ∀ z : Int, z = c3 → z ≠ 0 → z = c := fun z h2 h1 => by
                rw [if_neg (by omega)] at hF
                omega
              have hFH := Lib.hid hF
              clear hF
              have hXH := Lib.hid hX
              clear hX
              have hc3H := Lib.hid hc3
              clear hc3
              go_wp2_with (go_at_call 20; refine (within_p _ _ _ _).mono ?_; rintro e wz ⟨rfl, hwz⟩; rw [hwz]; clear hwz; clear wz)
              go_loopw [38] (fun i wr => UsRel l c3 w4 i wr) (fun i _ => n - (intOf i).toNat)
              case atStart => exact ⟨0, Nat.zero_le _, rfl, hc3H.out, Below.refl _ _⟩
              case round =>
                obtain ⟨k, hk, rfl, hck, hb⟩ := hrel
                have hkl : k ≤ n := by have := halH.out; omega
                have hbs := hb.size
                have q5r := (hb.cell hz4).trans q5
                have q6r := (hb.cell hz4).trans q6
                clear q4 q5 q6 i4
                have hbw := hbw4H.out.trans (hb.mono hbw4H.out.size)
                by_cases hlt : k < n
                · obtain ⟨b, off, hA, _⟩ := hlH.out.2.1 (by omega)
                  obtain ⟨s, hx⟩ : ∃ x, l[k]? = some x := ⟨l[k]'(by have := halH.out; omega), List.getElem?_eq_getElem _⟩
                  have hsl := hlH.out
                  rw [hA] at hsl
                  have c0 := cell_Str (hsl.below hbw) hx
                  rw [drop_cons hx, usesErr] at hck
                  have hkl2 : k + 1 ≤ l.length := by have := halH.out; omega
                  have hpn : prevU l (k + 1) = some s := by rw [prevU, if_neg (by omega), show k + 1 - 1 = k from rfl, hx]
                  subst hA
                  obtain ⟨q, hq⟩ : ∃ q, digB s = q := ⟨_, rfl⟩
                  rw [hq] at hck
                  have hckH := Lib.hid hck
                  clear hck
                  have hbH := Lib.hid hb
                  clear hb
                  have hbwH := Lib.hid hbw
                  clear hbw
                  have hpnH := Lib.hid hpn
                  clear hpn
                  have hkl2H := Lib.hid hkl2
                  clear hkl2
                  have hxH := Lib.hid hx
                  clear hx
                  have hslH := Lib.hid hsl
                  clear hsl
                  have hqH := Lib.hid hq
                  clear hq
                  go_wp2_with fail
                  refine (dig_any s _ q hqH.out).mono ?_
                  rintro e w5 ⟨rfl, hw5⟩
                  have hb5 := hbH.out.trans (hw5.mono hbH.out.size)
                  have hbw5 := hbwH.out.trans (hw5.mono hbwH.out.size)
                  replace q5r := (hw5.cell (show w.heap.size < wr.heap.size by omega)).trans q5r
                  clear hw5 c0 q6r
                  have hck := hckH.out
                  clear hckH
                  cases q
                  · rw [if_neg (by decide)] at hck
                    have hckH := Lib.hid hck
                    clear hck
                    have hb5H := Lib.hid hb5
                    clear hb5
                    have hbw5H := Lib.hid hbw5
                    clear hbw5
                    go_wp2
                    go_ret
                    exact ⟨ret1_int (hXH.out _ hckH.out (by decide)), hbw5H.out⟩
                  · rw [if_pos rfl] at hck
                    by_cases hk0 : k = 0
                    · subst hk0
                      have R : ∀ nq, UsRel l c3 w4 (.int .i64 1) (w5.drewN nq) := by
                        refine fun nq => ⟨1, hkl2H.out, by go_num, ?_, bel_drewN hb5 nq⟩
                        rw [prevU, if_pos rfl, Option.map_none, if_neg (by decide)] at hck
                        rw [hpnH.out]
                        exact hck
                      clear hck
                      have RH := Lib.hid R
                      clear R
                      have hb5H := Lib.hid hb5
                      clear hb5
                      have hbw5H := Lib.hid hbw5
                      clear hbw5
                      go_wp2
                      refine ⟨?rel, ?measure⟩
                      case measure => (simp [intOf]; omega)
                      case rel => first | exact (RH.out 0) | exact ⟨rfl, (RH.out 0)⟩ | ((try refine ⟨rfl, ?_⟩); (repeat apply Exists.intro); refine ⟨(RH.out 0), ?_⟩; ((repeat' apply And.intro) <;> rfl))
                    · obtain ⟨j, rfl⟩ : ∃ j, k = j + 1 := ⟨k - 1, by omega⟩
                      obtain ⟨y, hy⟩ : ∃ y, l[j]? = some y := ⟨l[j]'(by have := halH.out; omega), List.getElem?_eq_getElem _⟩
                      have d0 := cell_Str (hslH.out.below hbw5) hy
                      have hpr : prevU l (j + 1) = some y := by rw [prevU, if_neg (by omega), show j + 1 - 1 = j from rfl, hy]
                      rw [hpr, Option.map_some] at hck
                      clear hpr
                      cases hle : sle s y
                      · have hle' : (Op.bytesLess s.toList y.toList || s.toList == y.toList) = false := hle
                        rw [hle, if_neg (by decide)] at hck
                        have R : ∀ nq, UsRel l c3 w4 (.int .i64 (j + 1 + 1)) (w5.drewN nq) := by
                          refine fun nq => ⟨j + 1 + 1, hkl2H.out, by go_num, ?_, bel_drewN hb5 nq⟩
                          rw [hpnH.out]
                          exact hck
                        clear hck
                        have hleH := Lib.hid hle
                        clear hle
                        have hyH := Lib.hid hy
                        clear hy
                        have RH := Lib.hid R
                        clear R
                        have hb5H := Lib.hid hb5
                        clear hb5
                        have hbw5H := Lib.hid hbw5
                        clear hbw5
                        go_wp2
                        refine ⟨?rel, ?measure⟩
                        case measure => (simp [intOf]; omega)
                        case rel => first | exact (RH.out 0) | exact ⟨rfl, (RH.out 0)⟩ | ((try refine ⟨rfl, ?_⟩); (repeat apply Exists.intro); refine ⟨(RH.out 0), ?_⟩; ((repeat' apply And.intro) <;> rfl))
                      · have hle' : (Op.bytesLess s.toList y.toList || s.toList == y.toList) = true := hle
                        rw [hle, if_pos rfl] at hck
                        have hleH := Lib.hid hle
                        clear hle
                        have hckH := Lib.hid hck
                        clear hck
                        have hyH := Lib.hid hy
                        clear hy
                        have hb5H := Lib.hid hb5
                        clear hb5
                        have hbw5H := Lib.hid hbw5
                        clear hbw5
                        go_wp2
                        go_ret
                        exact ⟨ret1_int (hXH.out _ hckH.out (by decide)), hbw5H.out⟩
                · have e : l.drop k = [] := List.drop_eq_nil_of_le (by have := halH.out; omega)
                  rw [e] at hck
                  have hc0 : 0 = c3 := by rw [← hck]; unfold usesErr; rfl
                  clear e hck
                  have hF := hFH.out
                  clear hFH
                  rw [if_pos hc0.symm] at hF
                  clear hc0 q5r
                  obtain ⟨e0, he0⟩ : ∃ e0, (sign.toList == []) = e0 := ⟨_, rfl⟩
                  unfold signB at hF
                  rw [he0] at hF
                  cases e0
                  · obtain ⟨b5, hb5⟩ : ∃ b, digB sign = b := ⟨_, rfl⟩
                    rw [hb5, Bool.false_or] at hF
                    have hFH := Lib.hid hF
                    clear hF
                    have hbH := Lib.hid hb
                    clear hb
                    have hbwH := Lib.hid hbw
                    clear hbw
                    have hb5H := Lib.hid hb5
                    clear hb5
                    go_wp2_with fail
                    refine (dig_any sign _ b5 hb5H.out).mono ?_
                    rintro e w6 ⟨rfl, hw6⟩
                    have hbw6 := hbwH.out.trans (hw6.mono hbwH.out.size)
                    clear hw6 q6r
                    have hF := hFH.out
                    clear hFH
                    have hbw6H := Lib.hid hbw6
                    clear hbw6
                    cases b5
                    · rw [if_neg (by decide)] at hF
                      have hFH := Lib.hid hF
                      clear hF
                      go_wp2
                      go_ret
                      exact ⟨ret1_int hFH.out, hbw6H.out⟩
                    · rw [if_pos rfl] at hF
                      have hFH := Lib.hid hF
                      clear hF
                      go_wp2
                      go_ret
                      exact ⟨ret1_int hFH.out, hbw6H.out⟩
                  · rw [Bool.true_or, if_pos rfl] at hF
                    have hFH := Lib.hid hF
                    clear hF
                    have hbH := Lib.hid hb
                    clear hb
                    have hbwH := Lib.hid hbw
                    clear hbw
                    go_wp2_with fail
                    go_ret
                    exact ⟨ret1_int hFH.out, hbwH.out⟩
            · rw [halH.out, if_neg h50] at hF
              have h50d : decide ((n : Int) ≤ 50) = false := decide_eq_false (by omega)
              clear q6
              have hFH := Lib.hid hF
              clear hF
              go_wp2_with (go_at_call 20; refine (within_p _ _ _ _).mono ?_; rintro e wz ⟨rfl, hwz⟩; rw [hwz]; clear hwz; clear wz)
              go_ret
              exact ⟨ret1_int hFH.out, hbw4H.out⟩
          · rw [if_neg i4] at hF
            have i4 : inR 0 1000000000 at_ = false := by simpa using i4
            clear q5 q6
            have hFH := Lib.hid hF
            clear hF
            go_wp2_with (go_at_call 20; refine (within_p _ _ _ _).mono ?_; rintro e wz ⟨rfl, hwz⟩; rw [hwz]; clear hwz; clear wz)
            go_ret
            exact ⟨ret1_int hFH.out, hbw4H.out⟩

set_option maxHeartbeats 4000000 in
theorem rclaimed_big (x : Claimed) (w : World) (hm : MaxLenAt w) (hlz : x.label.size ≤ 2000000) (hok : RClaimed.ok w x) (c : Int) (hF : claimedF x = c) :
    Calls Tryz.prog 62 #[.agg #[.string x.key, .string x.label, .string x.result, .string x.writer, .int .i64 x.at_, .slice x.uses.A x.uses.n x.uses.cap, .string x.sign]] w fun e w' =>
      e = .returned (.int .i64 c) ∧ Below w.heap.size w w' := by
  obtain ⟨key, label, result, writer, at_, ⟨A, n, cap, l⟩, sign⟩ := x
  obtain ⟨o0, o1, o2, o3, o4, o5, o6⟩ := hok
  simp only at o0 o1 o2 o3 o4 o5 o6 hF ⊢ hlz
  unfold claimedF at hF
  simp only at hF
  obtain ⟨b1, hb1⟩ : ∃ b, digB key = b := ⟨_, rfl⟩
  obtain ⟨b2, hb2⟩ : ∃ b, labelL label.data.toList = b := ⟨_, rfl⟩
  obtain ⟨b3, hb3⟩ : ∃ b, digB result = b := ⟨_, rfl⟩
  obtain ⟨b4, hb4⟩ : ∃ b, wordB writer = b := ⟨_, rfl⟩
  rw [hb1, hb2, hb3, hb4] at hF
  have hba := (Below.refl w.heap.size w).alloc (Nat.le_refl _) (.cells #[.string key, .string label, .string result, .string writer, .int .i64 at_, .slice A n cap, .string sign] 51)
  have hbas := hba.size
  have hl : SlAt RStr w A n l := o5.1
  have hal := hl.1
  have han9 : n ≤ 9223372036854775807 := Nat.le_trans o5.2.1 o5.2.2.1
  have o1 : label.size ≤ maxLen := o1
  have o3 : writer.size ≤ maxLen := o3
  have o0H := Lib.hid o0
  clear o0
  have o1H := Lib.hid o1
  clear o1
  have o2H := Lib.hid o2
  clear o2
  have o3H := Lib.hid o3
  clear o3
  have o4H := Lib.hid o4
  clear o4
  have o5H := Lib.hid o5
  clear o5
  have o6H := Lib.hid o6
  clear o6
  have hFH := Lib.hid hF
  clear hF
  have hb1H := Lib.hid hb1
  clear hb1
  have hb2H := Lib.hid hb2
  clear hb2
  have hb3H := Lib.hid hb3
  clear hb3
  have hb4H := Lib.hid hb4
  clear hb4
  have hbaH := Lib.hid hba
  clear hba
  have hbasH := Lib.hid hbas
  clear hbas
  have hlH := Lib.hid hl
  clear hl
  have halH := Lib.hid hal
  clear hal
  have hmH := Lib.hid hm
  clear hm
  have hlzH := Lib.hid hlz
  clear hlz
  go_enter Tryz.func62, Tryz.ntmps62
  go_wp2_with fail
  refine (rdig_any key _ b1 hb1H.out).mono ?_
  rintro e w1 ⟨rfl, hw1⟩
  have q1 := (hw1.cell (by simp)).trans (cell_new w _ _ 1)
  have q2 := (hw1.cell (by simp)).trans (cell_new w _ _ 2)
  have q3 := (hw1.cell (by simp)).trans (cell_new w _ _ 3)
  have q4 := (hw1.cell (by simp)).trans (cell_new w _ _ 4)
  have q5 := (hw1.cell (by simp)).trans (cell_new w _ _ 5)
  have q6 := (hw1.cell (by simp)).trans (cell_new w _ _ 6)
  have hbw1 := hbaH.out.trans (hw1.mono hbasH.out)
  have hz1 : w.heap.size < w1.heap.size := by have := hw1.size; simp at this; omega
  simp only [List.getElem?_toArray, List.getElem?_cons_succ, List.getElem?_cons_zero] at q1 q2 q3 q4 q5 q6
  have hw1H := Lib.hid hw1
  clear hw1
  have hbw1H := Lib.hid hbw1
  clear hbw1
  have hF := hFH.out
  clear hFH
  cases b1
  · rw [if_neg (by decide)] at hF
    have hFH := Lib.hid hF
    clear hF
    clear q1 q2 q3 q4 q5 q6
    go_wp2
    go_ret
    exact ⟨ret1_int hFH.out, hbw1H.out⟩
  · rw [if_pos rfl] at hF
    have hFH := Lib.hid hF
    clear hF
    go_wp2_with fail
    refine (isLabel_big label _ (hmH.out.below hbw1H.out) hlzH.out b2 hb2H.out).mono ?_
    rintro e w2 ⟨rfl, hw2⟩
    replace q1 := (hw2.cell (by omega)).trans q1
    replace q2 := (hw2.cell (by omega)).trans q2
    replace q3 := (hw2.cell (by omega)).trans q3
    replace q4 := (hw2.cell (by omega)).trans q4
    replace q5 := (hw2.cell (by omega)).trans q5
    replace q6 := (hw2.cell (by omega)).trans q6
    have hbw2 := hbw1H.out.trans (hw2.mono hbw1H.out.size)
    have hz2 : w.heap.size < w2.heap.size := by have := hw2.size; omega
    have hw2H := Lib.hid hw2
    clear hw2
    have hbw2H := Lib.hid hbw2
    clear hbw2
    have hF := hFH.out
    clear hFH
    cases b2
    · rw [if_neg (by decide)] at hF
      have hFH := Lib.hid hF
      clear hF
      clear q1 q2 q3 q4 q5 q6
      go_wp2
      go_ret
      exact ⟨ret1_int hFH.out, hbw2H.out⟩
    · rw [if_pos rfl] at hF
      have hFH := Lib.hid hF
      clear hF
      go_wp2_with fail
      refine (rdig_any result _ b3 hb3H.out).mono ?_
      rintro e w3 ⟨rfl, hw3⟩
      replace q2 := (hw3.cell (by omega)).trans q2
      replace q3 := (hw3.cell (by omega)).trans q3
      replace q4 := (hw3.cell (by omega)).trans q4
      replace q5 := (hw3.cell (by omega)).trans q5
      replace q6 := (hw3.cell (by omega)).trans q6
      have hbw3 := hbw2H.out.trans (hw3.mono hbw2H.out.size)
      have hz3 : w.heap.size < w3.heap.size := by have := hw3.size; omega
      have hw3H := Lib.hid hw3
      clear hw3
      have hbw3H := Lib.hid hbw3
      clear hbw3
      have hF := hFH.out
      clear hFH
      cases b3
      · rw [if_neg (by decide)] at hF
        have hFH := Lib.hid hF
        clear hF
        clear q2 q3 q4 q5 q6
        go_wp2
        go_ret
        exact ⟨ret1_int hFH.out, hbw3H.out⟩
      · rw [if_pos rfl] at hF
        have hFH := Lib.hid hF
        clear hF
        go_wp2_with fail
        refine (rword_bb writer b4 _ o3H.out hb4H.out).mono ?_
        rintro e w4 ⟨rfl, hw4⟩
        replace q3 := (hw4.cell (by omega)).trans q3
        replace q4 := (hw4.cell (by omega)).trans q4
        replace q5 := (hw4.cell (by omega)).trans q5
        replace q6 := (hw4.cell (by omega)).trans q6
        have hbw4 := hbw3H.out.trans (hw4.mono hbw3H.out.size)
        have hz4 : w.heap.size < w4.heap.size := by have := hw4.size; omega
        have hw4H := Lib.hid hw4
        clear hw4
        have hbw4H := Lib.hid hbw4
        clear hbw4
        have hF := hFH.out
        clear hFH
        cases b4
        · rw [if_neg (by decide)] at hF
          have hFH := Lib.hid hF
          clear hF
          clear q3 q4 q5 q6
          go_wp2
          go_ret
          exact ⟨ret1_int hFH.out, hbw4H.out⟩
        · rw [if_pos rfl] at hF
          clear q3
          by_cases i4 : inR 0 1000000000 at_ = true
          · rw [if_pos i4] at hF
            by_cases h50 : n ≤ 50
            · rw [halH.out, if_pos h50] at hF
              obtain ⟨c3, hc3⟩ : ∃ c3, usesErr none l = c3 := ⟨_, rfl⟩
              rw [hc3] at hF
              have hX : ∀ z : Int, z = c3 → z ≠ 0 → z = c := fun z h2 h1 => by
                rw [if_neg (by omega)] at hF
                omega
              have hFH := Lib.hid hF
              clear hF
              have hXH := Lib.hid hX
              clear hX
              have hc3H := Lib.hid hc3
              clear hc3
              go_wp2_with (go_at_call 25; refine (within_r _ _ _ _).mono ?_; rintro e wz ⟨rfl, hwz⟩; rw [hwz]; clear hwz; clear wz)
              go_loopw [38] (fun i wr => UsRel l c3 w4 i wr) (fun i _ => n - (intOf i).toNat)
              case atStart => exact ⟨0, Nat.zero_le _, rfl, hc3H.out, Below.refl _ _⟩
              case round =>
                obtain ⟨k, hk, rfl, hck, hb⟩ := hrel
                have hkl : k ≤ n := by have := halH.out; omega
                have hbs := hb.size
                have q5r := (hb.cell hz4).trans q5
                have q6r := (hb.cell hz4).trans q6
                clear q4 q5 q6 i4
                have hbw := hbw4H.out.trans (hb.mono hbw4H.out.size)
                by_cases hlt : k < n
                · obtain ⟨b, off, hA, _⟩ := hlH.out.2.1 (by omega)
                  obtain ⟨s, hx⟩ : ∃ x, l[k]? = some x := ⟨l[k]'(by have := halH.out; omega), List.getElem?_eq_getElem _⟩
                  have hsl := hlH.out
                  rw [hA] at hsl
                  have c0 := cell_Str (hsl.below hbw) hx
                  rw [drop_cons hx, usesErr] at hck
                  have hkl2 : k + 1 ≤ l.length := by have := halH.out; omega
                  have hpn : prevU l (k + 1) = some s := by rw [prevU, if_neg (by omega), show k + 1 - 1 = k from rfl, hx]
                  subst hA
                  obtain ⟨q, hq⟩ : ∃ q, digB s = q := ⟨_, rfl⟩
                  rw [hq] at hck
                  have hckH := Lib.hid hck
                  clear hck
                  have hbH := Lib.hid hb
                  clear hb
                  have hbwH := Lib.hid hbw
                  clear hbw
                  have hpnH := Lib.hid hpn
                  clear hpn
                  have hkl2H := Lib.hid hkl2
                  clear hkl2
                  have hxH := Lib.hid hx
                  clear hx
                  have hslH := Lib.hid hsl
                  clear hsl
                  have hqH := Lib.hid hq
                  clear hq
                  go_wp2_with fail
                  refine (rdig_any s _ q hqH.out).mono ?_
                  rintro e w5 ⟨rfl, hw5⟩
                  have hb5 := hbH.out.trans (hw5.mono hbH.out.size)
                  have hbw5 := hbwH.out.trans (hw5.mono hbwH.out.size)
                  replace q5r := (hw5.cell (show w.heap.size < wr.heap.size by omega)).trans q5r
                  clear hw5 c0 q6r
                  have hck := hckH.out
                  clear hckH
                  cases q
                  · rw [if_neg (by decide)] at hck
                    have hckH := Lib.hid hck
                    clear hck
                    have hb5H := Lib.hid hb5
                    clear hb5
                    have hbw5H := Lib.hid hbw5
                    clear hbw5
                    go_wp2
                    go_ret
                    exact ⟨ret1_int (hXH.out _ hckH.out (by decide)), hbw5H.out⟩
                  · rw [if_pos rfl] at hck
                    by_cases hk0 : k = 0
                    · subst hk0
                      have R : ∀ nq, UsRel l c3 w4 (.int .i64 1) (w5.drewN nq) := by
                        refine fun nq => ⟨1, hkl2H.out, by go_num, ?_, bel_drewN hb5 nq⟩
                        rw [prevU, if_pos rfl, Option.map_none, if_neg (by decide)] at hck
                        rw [hpnH.out]
                        exact hck
                      clear hck
                      have RH := Lib.hid R
                      clear R
                      have hb5H := Lib.hid hb5
                      clear hb5
                      have hbw5H := Lib.hid hbw5
                      clear hbw5
                      go_wp2
                      refine ⟨?rel, ?measure⟩
                      case measure => (simp [intOf]; omega)
                      case rel => first | exact (RH.out 0) | exact ⟨rfl, (RH.out 0)⟩ | ((try refine ⟨rfl, ?_⟩); (repeat apply Exists.intro); refine ⟨(RH.out 0), ?_⟩; ((repeat' apply And.intro) <;> rfl))
                    · obtain ⟨j, rfl⟩ : ∃ j, k = j + 1 := ⟨k - 1, by omega⟩
                      obtain ⟨y, hy⟩ : ∃ y, l[j]? = some y := ⟨l[j]'(by have := halH.out; omega), List.getElem?_eq_getElem _⟩
                      have d0 := cell_Str (hslH.out.below hbw5) hy
                      have hpr : prevU l (j + 1) = some y := by rw [prevU, if_neg (by omega), show j + 1 - 1 = j from rfl, hy]
                      rw [hpr, Option.map_some] at hck
                      clear hpr
                      cases hle : sle s y
                      · have hle' : (Op.bytesLess s.toList y.toList || s.toList == y.toList) = false := hle
                        rw [hle, if_neg (by decide)] at hck
                        have R : ∀ nq, UsRel l c3 w4 (.int .i64 (j + 1 + 1)) (w5.drewN nq) := by
                          refine fun nq => ⟨j + 1 + 1, hkl2H.out, by go_num, ?_, bel_drewN hb5 nq⟩
                          rw [hpnH.out]
                          exact hck
                        clear hck
                        have hleH := Lib.hid hle
                        clear hle
                        have hyH := Lib.hid hy
                        clear hy
                        have RH := Lib.hid R
                        clear R
                        have hb5H := Lib.hid hb5
                        clear hb5
                        have hbw5H := Lib.hid hbw5
                        clear hbw5
                        go_wp2
                        refine ⟨?rel, ?measure⟩
                        case measure => (simp [intOf]; omega)
                        case rel => first | exact (RH.out 0) | exact ⟨rfl, (RH.out 0)⟩ | ((try refine ⟨rfl, ?_⟩); (repeat apply Exists.intro); refine ⟨(RH.out 0), ?_⟩; ((repeat' apply And.intro) <;> rfl))
                      · have hle' : (Op.bytesLess s.toList y.toList || s.toList == y.toList) = true := hle
                        rw [hle, if_pos rfl] at hck
                        have hleH := Lib.hid hle
                        clear hle
                        have hckH := Lib.hid hck
                        clear hck
                        have hyH := Lib.hid hy
                        clear hy
                        have hb5H := Lib.hid hb5
                        clear hb5
                        have hbw5H := Lib.hid hbw5
                        clear hbw5
                        go_wp2
                        go_ret
                        exact ⟨ret1_int (hXH.out _ hckH.out (by decide)), hbw5H.out⟩
                · have e : l.drop k = [] := List.drop_eq_nil_of_le (by have := halH.out; omega)
                  rw [e] at hck
                  have hc0 : 0 = c3 := by rw [← hck]; unfold usesErr; rfl
                  clear e hck
                  have hF := hFH.out
                  clear hFH
                  rw [if_pos hc0.symm] at hF
                  clear hc0 q5r
                  obtain ⟨e0, he0⟩ : ∃ e0, (sign.toList == []) = e0 := ⟨_, rfl⟩
                  unfold signB at hF
                  rw [he0] at hF
                  cases e0
                  · obtain ⟨b5, hb5⟩ : ∃ b, digB sign = b := ⟨_, rfl⟩
                    rw [hb5, Bool.false_or] at hF
                    have hFH := Lib.hid hF
                    clear hF
                    have hbH := Lib.hid hb
                    clear hb
                    have hbwH := Lib.hid hbw
                    clear hbw
                    have hb5H := Lib.hid hb5
                    clear hb5
                    go_wp2_with fail
                    refine (rdig_any sign _ b5 hb5H.out).mono ?_
                    rintro e w6 ⟨rfl, hw6⟩
                    have hbw6 := hbwH.out.trans (hw6.mono hbwH.out.size)
                    clear hw6 q6r
                    have hF := hFH.out
                    clear hFH
                    have hbw6H := Lib.hid hbw6
                    clear hbw6
                    cases b5
                    · rw [if_neg (by decide)] at hF
                      have hFH := Lib.hid hF
                      clear hF
                      go_wp2
                      go_ret
                      exact ⟨ret1_int hFH.out, hbw6H.out⟩
                    · rw [if_pos rfl] at hF
                      have hFH := Lib.hid hF
                      clear hF
                      go_wp2
                      go_ret
                      exact ⟨ret1_int hFH.out, hbw6H.out⟩
                  · rw [Bool.true_or, if_pos rfl] at hF
                    have hFH := Lib.hid hF
                    clear hF
                    have hbH := Lib.hid hb
                    clear hb
                    have hbwH := Lib.hid hbw
                    clear hbw
                    go_wp2_with fail
                    go_ret
                    exact ⟨ret1_int hFH.out, hbwH.out⟩
            · rw [halH.out, if_neg h50] at hF
              have h50d : decide ((n : Int) ≤ 50) = false := decide_eq_false (by omega)
              clear q6
              have hFH := Lib.hid hF
              clear hF
              go_wp2_with (go_at_call 25; refine (within_r _ _ _ _).mono ?_; rintro e wz ⟨rfl, hwz⟩; rw [hwz]; clear hwz; clear wz)
              go_ret
              exact ⟨ret1_int hFH.out, hbw4H.out⟩
          · rw [if_neg i4] at hF
            have i4 : inR 0 1000000000 at_ = false := by simpa using i4
            clear q5 q6
            have hFH := Lib.hid hF
            clear hF
            go_wp2_with (go_at_call 25; refine (within_r _ _ _ _).mono ?_; rintro e wz ⟨rfl, hwz⟩; rw [hwz]; clear hwz; clear wz)
            go_ret
            exact ⟨ret1_int hFH.out, hbw4H.out⟩

theorem rclaimed_any (x : Claimed) (w : World) (hm : MaxLenAt w) (hlz : x.label.size ≤ 1048576) (hok : RClaimed.ok w x) (c : Int) (hF : claimedF x = c) :
    Calls Tryz.prog 62 #[.agg #[.string x.key, .string x.label, .string x.result, .string x.writer, .int .i64 x.at_, .slice x.uses.A x.uses.n x.uses.cap, .string x.sign]] w fun e w' =>
      e = .returned (.int .i64 c) ∧ Below w.heap.size w w' := rclaimed_big x w hm (by omega) hok c hF
end Go.Proofs.YtgegdfmdcmgliaaGreatDoor.C11
