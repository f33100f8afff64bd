/-
  Several texts of mine as one: XCClaimed, XCLog, XCAudits, XFacts, XFactsP, XTaintP, XCWriter, XCWriters, XFindW, XFunc11, XTaint, XRightP, XTainted, XDue, XStateP.
-/
import Derived.Test.YtgegdfmdcmgliaaGreatDoorDsAC11
import Derived.Test.YtgegdfmdcmgliaaGreatDoorShelf
import Derived.Test.YtgegdfmdcmgliaaGreatDoorDsG
namespace Go.Proofs.YtgegdfmdcmgliaaGreatDoor.C11
open Go.RowKit
set_option linter.unusedVariables false

theorem rword_bb (s : ByteArray) (b : Bool) (w : World) (hs : s.size ≤ maxLen) (hb : wordB s = b) :
    Calls Tryz.prog 98 #[.string s] w fun e w' => e = .returned (.bool b) ∧ Below w.heap.size w w' :=
  (rword_any s b w hs hb).mono fun e w' h => ⟨h.1, h.2 ▸ Below.refl _ _⟩
def UsRel (l : List ByteArray) (c : Int) (w0 : World) (i : Value) (wr : World) : Prop :=
  ∃ k : Nat, k ≤ l.length ∧ i = .int .i64 k ∧ usesErr (prevU l k) (l.drop k) = c ∧ Below w0.heap.size w0 wr

set_option maxHeartbeats 4000000 in
theorem claimed_any (x : Claimed) (w : World) (hm : MaxLenAt w) (hok : RClaimed.ok w x) (c : Int) (hF : claimedF x = c) :
    Calls Tryz.prog 60 #[.agg #[.string x.key, .string x.label, .string x.result, .string x.writer, .int .i64 x.at_, .slice x.uses.A x.uses.n x.uses.cap, .string x.sign]] w fun e w' =>
      e = .returned (.int .i64 c) ∧ Below w.heap.size w w' := by
  obtain ⟨key, label, result, writer, at_, ⟨A, n, cap, l⟩, sign⟩ := x
  obtain ⟨o0, o1, o2, o3, o4, o5, o6⟩ := hok
  simp only at o0 o1 o2 o3 o4 o5 o6 hF ⊢
  unfold claimedF at hF
  simp only at hF
  obtain ⟨b1, hb1⟩ : ∃ b, digB key = b := ⟨_, rfl⟩
  obtain ⟨b2, hb2⟩ : ∃ b, labelL label.data.toList = b := ⟨_, rfl⟩
  obtain ⟨b3, hb3⟩ : ∃ b, digB result = b := ⟨_, rfl⟩
  obtain ⟨b4, hb4⟩ : ∃ b, wordB writer = b := ⟨_, rfl⟩
  rw [hb1, hb2, hb3, hb4] at hF
  have hba := (Below.refl w.heap.size w).alloc (Nat.le_refl _) (.cells #[.string key, .string label, .string result, .string writer, .int .i64 at_, .slice A n cap, .string sign] 51)
  have hbas := hba.size
  have hl : SlAt RStr w A n l := o5.1
  have hal := hl.1
  have han9 : n ≤ 9223372036854775807 := Nat.le_trans o5.2.1 o5.2.2.1
  have o1 : label.size ≤ maxLen := o1
  have o3 : writer.size ≤ maxLen := o3
  have o0H := Lib.hid o0
  clear o0
  have o1H := Lib.hid o1
  clear o1
  have o2H := Lib.hid o2
  clear o2
  have o3H := Lib.hid o3
  clear o3
  have o4H := Lib.hid o4
  clear o4
  have o5H := Lib.hid o5
  clear o5
  have o6H := Lib.hid o6
  clear o6
  have hFH := Lib.hid hF
  clear hF
  have hb1H := Lib.hid hb1
  clear hb1
  have hb2H := Lib.hid hb2
  clear hb2
  have hb3H := Lib.hid hb3
  clear hb3
  have hb4H := Lib.hid hb4
  clear hb4
  have hbaH := Lib.hid hba
  clear hba
  have hbasH := Lib.hid hbas
  clear hbas
  have hlH := Lib.hid hl
  clear hl
  have halH := Lib.hid hal
  clear hal
  have hmH := Lib.hid hm
  clear hm
  go_enter Tryz.func60, Tryz.ntmps60
  go_wp2_with fail
  refine (dig_any key _ b1 hb1H.out).mono ?_
  rintro e w1 ⟨rfl, hw1⟩
  have q1 := (hw1.cell (by simp)).trans (cell_new w _ _ 1)
  have q2 := (hw1.cell (by simp)).trans (cell_new w _ _ 2)
  have q3 := (hw1.cell (by simp)).trans (cell_new w _ _ 3)
  have q4 := (hw1.cell (by simp)).trans (cell_new w _ _ 4)
  have q5 := (hw1.cell (by simp)).trans (cell_new w _ _ 5)
  have q6 := (hw1.cell (by simp)).trans (cell_new w _ _ 6)
  have hbw1 := hbaH.out.trans (hw1.mono hbasH.out)
  have hz1 : w.heap.size < w1.heap.size := by have := hw1.size; simp at this; omega
  simp only [List.getElem?_toArray, List.getElem?_cons_succ, List.getElem?_cons_zero] at q1 q2 q3 q4 q5 q6
  have hw1H := Lib.hid hw1
  clear hw1
  have hbw1H := Lib.hid hbw1
  clear hbw1
  have hF := hFH.out
  clear hFH
  cases b1
  · rw [if_neg (by decide)] at hF
    have hFH := Lib.hid hF
    clear hF
    clear q1 q2 q3 q4 q5 q6
    go_wp2
    go_ret
    exact ⟨ret1_int hFH.out, hbw1H.out⟩
  · rw [if_pos rfl] at hF
    have hFH := Lib.hid hF
    clear hF
    go_wp2_with fail
    refine (isWhole_big label _ (hmH.out.below hbw1H.out) o1H.out b2 hb2H.out).mono ?_
    rintro e w2 ⟨rfl, hw2⟩
    replace q1 := (hw2.cell (by omega)).trans q1
    replace q2 := (hw2.cell (by omega)).trans q2
    replace q3 := (hw2.cell (by omega)).trans q3
    replace q4 := (hw2.cell (by omega)).trans q4
    replace q5 := (hw2.cell (by omega)).trans q5
    replace q6 := (hw2.cell (by omega)).trans q6
    have hbw2 := hbw1H.out.trans (hw2.mono hbw1H.out.size)
    have hz2 : w.heap.size < w2.heap.size := by have := hw2.size; omega
    have hw2H := Lib.hid hw2
    clear hw2
    have hbw2H := Lib.hid hbw2
    clear hbw2
    have hF := hFH.out
    clear hFH
    cases b2
    · rw [if_neg (by decide)] at hF
      have hFH := Lib.hid hF
      clear hF
      clear q1 q2 q3 q4 q5 q6
      go_wp2
      go_ret
      exact ⟨ret1_int hFH.out, hbw2H.out⟩
    · rw [if_pos rfl] at hF
      have hFH := Lib.hid hF
      clear hF
      go_wp2_with fail
      refine (dig_any result _ b3 hb3H.out).mono ?_
      rintro e w3 ⟨rfl, hw3⟩
      replace q2 := (hw3.cell (by omega)).trans q2
      replace q3 := (hw3.cell (by omega)).trans q3
      replace q4 := (hw3.cell (by omega)).trans q4
      replace q5 := (hw3.cell (by omega)).trans q5
      replace q6 := (hw3.cell (by omega)).trans q6
      have hbw3 := hbw2H.out.trans (hw3.mono hbw2H.out.size)
      have hz3 : w.heap.size < w3.heap.size := by have := hw3.size; omega
      have hw3H := Lib.hid hw3
      clear hw3
      have hbw3H := Lib.hid hbw3
      clear hbw3
      have hF := hFH.out
      clear hFH
      cases b3
      · rw [if_neg (by decide)] at hF
        have hFH := Lib.hid hF
        clear hF
        clear q2 q3 q4 q5 q6
        go_wp2
        go_ret
        exact ⟨ret1_int hFH.out, hbw3H.out⟩
      · rw [if_pos rfl] at hF
        have hFH := Lib.hid hF
        clear hF
        go_wp2_with fail
        refine (word_any writer b4 _ o3H.out hb4H.out).mono ?_
        rintro e w4 ⟨rfl, hw4⟩
        replace q3 := (hw4.cell (by omega)).trans q3
        replace q4 := (hw4.cell (by omega)).trans q4
        replace q5 := (hw4.cell (by omega)).trans q5
        replace q6 := (hw4.cell (by omega)).trans q6
        have hbw4 := hbw3H.out.trans (hw4.mono hbw3H.out.size)
        have hz4 : w.heap.size < w4.heap.size := by have := hw4.size; omega
        have hw4H := Lib.hid hw4
        clear hw4
        have hbw4H := Lib.hid hbw4
        clear hbw4
        have hF := hFH.out
        clear hFH
        cases b4
        · rw [if_neg (by decide)] at hF
          have hFH := Lib.hid hF
          clear hF
          clear q3 q4 q5 q6
          go_wp2
          go_ret
          exact ⟨ret1_int hFH.out, hbw4H.out⟩
        · rw [if_pos rfl] at hF
          clear q3
          by_cases i4 : inR 0 1000000000 at_ = true
          · rw [if_pos i4] at hF
            by_cases h50 : n ≤ 50
            · rw [halH.out, if_pos h50] at hF
              obtain ⟨c3, hc3⟩ : ∃ c3, usesErr none l = c3 := ⟨_, rfl⟩
              rw [hc3] at hF
              have hX : ∀ z : Int, z = c3 → z ≠ 0 → z = c := fun z h2 h1 => by
                rw [if_neg (by omega)] at hF
                omega
              have hFH := Lib.hid hF
              clear hF
              have hXH := Lib.hid hX
              clear hX
              have hc3H := Lib.hid hc3
              clear hc3
              go_wp2_with (go_at_call 20; refine (within_p _ _ _ _).mono ?_; rintro e wz ⟨rfl, hwz⟩; rw [hwz]; clear hwz; clear wz)
              go_loopw [38] (fun i wr => UsRel l c3 w4 i wr) (fun i _ => n - (intOf i).toNat)
              case atStart => exact ⟨0, Nat.zero_le _, rfl, hc3H.out, Below.refl _ _⟩
              case round =>
                obtain ⟨k, hk, rfl, hck, hb⟩ := hrel
                have hkl : k ≤ n := by have := halH.out; omega
                have hbs := hb.size
                have q5r := (hb.cell hz4).trans q5
                have q6r := (hb.cell hz4).trans q6
                clear q4 q5 q6 i4
                have hbw := hbw4H.out.trans (hb.mono hbw4H.out.size)
                by_cases hlt : k < n
                · obtain ⟨b, off, hA, _⟩ := hlH.out.2.1 (by omega)
                  obtain ⟨s, hx⟩ : ∃ x, l[k]? = some x := ⟨l[k]'(by have := halH.out; omega), List.getElem?_eq_getElem _⟩
                  have hsl := hlH.out
                  rw [hA] at hsl
                  have c0 := cell_Str (hsl.below hbw) hx
                  rw [drop_cons hx, usesErr] at hck
                  have hkl2 : k + 1 ≤ l.length := by have := halH.out; omega
                  have hpn : prevU l (k + 1) = some s := by rw [prevU, if_neg (by omega), show k + 1 - 1 = k from rfl, hx]
                  subst hA
                  obtain ⟨q, hq⟩ : ∃ q, digB s = q := ⟨_, rfl⟩
                  rw [hq] at hck
                  have hckH := Lib.hid hck
                  clear hck
                  have hbH := Lib.hid hb
                  clear hb
                  have hbwH := Lib.hid hbw
                  clear hbw
                  have hpnH := Lib.hid hpn
                  clear hpn
                  have hkl2H := Lib.hid hkl2
                  clear hkl2
                  have hxH := Lib.hid hx
                  clear hx
                  have hslH := Lib.hid hsl
                  clear hsl
                  have hqH := Lib.hid hq
                  clear hq
                  go_wp2_with fail
                  refine (dig_any s _ q hqH.out).mono ?_
                  rintro e w5 ⟨rfl, hw5⟩
                  have hb5 := hbH.out.trans (hw5.mono hbH.out.size)
                  have hbw5 := hbwH.out.trans (hw5.mono hbwH.out.size)
                  replace q5r := (hw5.cell (show w.heap.size < wr.heap.size by omega)).trans q5r
                  clear hw5 c0 q6r
                  have hck := hckH.out
                  clear hckH
                  cases q
                  · rw [if_neg (by decide)] at hck
                    have hckH := Lib.hid hck
                    clear hck
                    have hb5H := Lib.hid hb5
                    clear hb5
                    have hbw5H := Lib.hid hbw5
                    clear hbw5
                    go_wp2
                    go_ret
                    exact ⟨ret1_int (hXH.out _ hckH.out (by decide)), hbw5H.out⟩
                  · rw [if_pos rfl] at hck
                    by_cases hk0 : k = 0
                    · subst hk0
                      have R : ∀ nq, UsRel l c3 w4 (.int .i64 1) (w5.drewN nq) := by
                        refine fun nq => ⟨1, hkl2H.out, by go_num, ?_, bel_drewN hb5 nq⟩
                        rw [prevU, if_pos rfl, Option.map_none, if_neg (by decide)] at hck
                        rw [hpnH.out]
                        exact hck
                      clear hck
                      have RH := Lib.hid R
                      clear R
                      have hb5H := Lib.hid hb5
                      clear hb5
                      have hbw5H := Lib.hid hbw5
                      clear hbw5
                      go_wp2
                      refine ⟨?rel, ?measure⟩
                      case measure => (simp [intOf]; omega)
                      case rel => first | exact (RH.out 0) | exact ⟨rfl, (RH.out 0)⟩ | ((try refine ⟨rfl, ?_⟩); (repeat apply Exists.intro); refine ⟨(RH.out 0), ?_⟩; ((repeat' apply And.intro) <;> rfl))
                    · obtain ⟨j, rfl⟩ : ∃ j, k = j + 1 := ⟨k - 1, by omega⟩
                      obtain ⟨y, hy⟩ : ∃ y, l[j]? = some y := ⟨l[j]'(by have := halH.out; omega), List.getElem?_eq_getElem _⟩
                      have d0 := cell_Str (hslH.out.below hbw5) hy
                      have hpr : prevU l (j + 1) = some y := by rw [prevU, if_neg (by omega), show j + 1 - 1 = j from rfl, hy]
                      rw [hpr, Option.map_some] at hck
                      clear hpr
                      cases hle : sle s y
                      · have hle' : (Op.bytesLess s.toList y.toList || s.toList == y.toList) = false := hle
                        rw [hle, if_neg (by decide)] at hck
                        have R : ∀ nq, UsRel l c3 w4 (.int .i64 (j + 1 + 1)) (w5.drewN nq) := by
                          refine fun nq => ⟨j + 1 + 1, hkl2H.out, by go_num, ?_, bel_drewN hb5 nq⟩
                          rw [hpnH.out]
                          exact hck
                        clear hck
                        have hleH := Lib.hid hle
                        clear hle
                        have hyH := Lib.hid hy
                        clear hy
                        have RH := Lib.hid R
                        clear R
                        have hb5H := Lib.hid hb5
                        clear hb5
                        have hbw5H := Lib.hid hbw5
                        clear hbw5
                        go_wp2
                        refine ⟨?rel, ?measure⟩
                        case measure => (simp [intOf]; omega)
                        case rel => first | exact (RH.out 0) | exact ⟨rfl, (RH.out 0)⟩ | ((try refine ⟨rfl, ?_⟩); (repeat apply Exists.intro); refine ⟨(RH.out 0), ?_⟩; ((repeat' apply And.intro) <;> rfl))
                      · have hle' : (Op.bytesLess s.toList y.toList || s.toList == y.toList) = true := hle
                        rw [hle, if_pos rfl] at hck
                        have hleH := Lib.hid hle
                        clear hle
                        have hckH := Lib.hid hck
                        clear hck
                        have hyH := Lib.hid hy
                        clear hy
                        have hb5H := Lib.hid hb5
                        clear hb5
                        have hbw5H := Lib.hid hbw5
                        clear hbw5
                        go_wp2
                        go_ret
                        exact ⟨ret1_int (hXH.out _ hckH.out (by decide)), hbw5H.out⟩
                · have e : l.drop k = [] := List.drop_eq_nil_of_le (by have := halH.out; omega)
                  rw [e] at hck
                  have hc0 : 0 = c3 := by rw [← hck]; unfold usesErr; rfl
                  clear e hck
                  have hF := hFH.out
                  clear hFH
                  rw [if_pos hc0.symm] at hF
                  clear hc0 q5r
                  obtain ⟨e0, he0⟩ : ∃ e0, (sign.toList == []) = e0 := ⟨_, rfl⟩
                  unfold signB at hF
                  rw [he0] at hF
                  cases e0
                  · obtain ⟨b5, hb5⟩ : ∃ b, digB sign = b := ⟨_, rfl⟩
                    rw [hb5, Bool.false_or] at hF
                    have hFH := Lib.hid hF
                    clear hF
                    have hbH := Lib.hid hb
                    clear hb
                    have hbwH := Lib.hid hbw
                    clear hbw
                    have hb5H := Lib.hid hb5
                    clear hb5
                    go_wp2_with fail
                    refine (dig_any sign _ b5 hb5H.out).mono ?_
                    rintro e w6 ⟨rfl, hw6⟩
                    have hbw6 := hbwH.out.trans (hw6.mono hbwH.out.size)
                    clear hw6 q6r
                    have hF := hFH.out
                    clear hFH
                    have hbw6H := Lib.hid hbw6
                    clear hbw6
                    cases b5
                    · rw [if_neg (by decide)] at hF
                      have hFH := Lib.hid hF
                      clear hF
                      go_wp2
                      go_ret
                      exact ⟨ret1_int hFH.out, hbw6H.out⟩
                    · rw [if_pos rfl] at hF
                      have hFH := Lib.hid hF
                      clear hF
                      go_wp2
                      go_ret
                      exact ⟨ret1_int hFH.out, hbw6H.out⟩
                  · rw [Bool.true_or, if_pos rfl] at hF
                    have hFH := Lib.hid hF
                    clear hF
                    have hbH := Lib.hid hb
                    clear hb
                    have hbwH := Lib.hid hbw
                    clear hbw
                    go_wp2_with fail
                    go_ret
                    exact ⟨ret1_int hFH.out, hbwH.out⟩
            · rw [halH.out, if_neg h50] at hF
              have h50d : decide ((n : Int) ≤ 50) = false := decide_eq_false (by omega)
              clear q6
              have hFH := Lib.hid hF
              clear hF
              go_wp2_with (go_at_call 20; refine (within_p _ _ _ _).mono ?_; rintro e wz ⟨rfl, hwz⟩; rw [hwz]; clear hwz; clear wz)
              go_ret
              exact ⟨ret1_int hFH.out, hbw4H.out⟩
          · rw [if_neg i4] at hF
            have i4 : inR 0 1000000000 at_ = false := by simpa using i4
            clear q5 q6
            have hFH := Lib.hid hF
            clear hF
            go_wp2_with (go_at_call 20; refine (within_p _ _ _ _).mono ?_; rintro e wz ⟨rfl, hwz⟩; rw [hwz]; clear hwz; clear wz)
            go_ret
            exact ⟨ret1_int hFH.out, hbw4H.out⟩

set_option maxHeartbeats 4000000 in
theorem rclaimed_any (x : Claimed) (w : World) (hm : MaxLenAt w) (hlz : x.label.size ≤ 1048576) (hok : RClaimed.ok w x) (c : Int) (hF : claimedF x = c) :
    Calls Tryz.prog 62 #[.agg #[.string x.key, .string x.label, .string x.result, .string x.writer, .int .i64 x.at_, .slice x.uses.A x.uses.n x.uses.cap, .string x.sign]] w fun e w' =>
      e = .returned (.int .i64 c) ∧ Below w.heap.size w w' := by
  obtain ⟨key, label, result, writer, at_, ⟨A, n, cap, l⟩, sign⟩ := x
  obtain ⟨o0, o1, o2, o3, o4, o5, o6⟩ := hok
  simp only at o0 o1 o2 o3 o4 o5 o6 hF ⊢ hlz
  unfold claimedF at hF
  simp only at hF
  obtain ⟨b1, hb1⟩ : ∃ b, digB key = b := ⟨_, rfl⟩
  obtain ⟨b2, hb2⟩ : ∃ b, labelL label.data.toList = b := ⟨_, rfl⟩
  obtain ⟨b3, hb3⟩ : ∃ b, digB result = b := ⟨_, rfl⟩
  obtain ⟨b4, hb4⟩ : ∃ b, wordB writer = b := ⟨_, rfl⟩
  rw [hb1, hb2, hb3, hb4] at hF
  have hba := (Below.refl w.heap.size w).alloc (Nat.le_refl _) (.cells #[.string key, .string label, .string result, .string writer, .int .i64 at_, .slice A n cap, .string sign] 51)
  have hbas := hba.size
  have hl : SlAt RStr w A n l := o5.1
  have hal := hl.1
  have han9 : n ≤ 9223372036854775807 := Nat.le_trans o5.2.1 o5.2.2.1
  have o1 : label.size ≤ maxLen := o1
  have o3 : writer.size ≤ maxLen := o3
  have o0H := Lib.hid o0
  clear o0
  have o1H := Lib.hid o1
  clear o1
  have o2H := Lib.hid o2
  clear o2
  have o3H := Lib.hid o3
  clear o3
  have o4H := Lib.hid o4
  clear o4
  have o5H := Lib.hid o5
  clear o5
  have o6H := Lib.hid o6
  clear o6
  have hFH := Lib.hid hF
  clear hF
  have hb1H := Lib.hid hb1
  clear hb1
  have hb2H := Lib.hid hb2
  clear hb2
  have hb3H := Lib.hid hb3
  clear hb3
  have hb4H := Lib.hid hb4
  clear hb4
  have hbaH := Lib.hid hba
  clear hba
  have hbasH := Lib.hid hbas
  clear hbas
  have hlH := Lib.hid hl
  clear hl
  have halH := Lib.hid hal
  clear hal
  have hmH := Lib.hid hm
  clear hm
  have hlzH := Lib.hid hlz
  clear hlz
  go_enter Tryz.func62, Tryz.ntmps62
  go_wp2_with fail
  refine (rdig_any key _ b1 hb1H.out).mono ?_
  rintro e w1 ⟨rfl, hw1⟩
  have q1 := (hw1.cell (by simp)).trans (cell_new w _ _ 1)
  have q2 := (hw1.cell (by simp)).trans (cell_new w _ _ 2)
  have q3 := (hw1.cell (by simp)).trans (cell_new w _ _ 3)
  have q4 := (hw1.cell (by simp)).trans (cell_new w _ _ 4)
  have q5 := (hw1.cell (by simp)).trans (cell_new w _ _ 5)
  have q6 := (hw1.cell (by simp)).trans (cell_new w _ _ 6)
  have hbw1 := hbaH.out.trans (hw1.mono hbasH.out)
  have hz1 : w.heap.size < w1.heap.size := by have := hw1.size; simp at this; omega
  simp only [List.getElem?_toArray, List.getElem?_cons_succ, List.getElem?_cons_zero] at q1 q2 q3 q4 q5 q6
  have hw1H := Lib.hid hw1
  clear hw1
  have hbw1H := Lib.hid hbw1
  clear hbw1
  have hF := hFH.out
  clear hFH
  cases b1
  · rw [if_neg (by decide)] at hF
    have hFH := Lib.hid hF
    clear hF
    clear q1 q2 q3 q4 q5 q6
    go_wp2
    go_ret
    exact ⟨ret1_int hFH.out, hbw1H.out⟩
  · rw [if_pos rfl] at hF
    have hFH := Lib.hid hF
    clear hF
    go_wp2_with fail
    refine (isLabel_any label _ (hmH.out.below hbw1H.out) hlzH.out b2 hb2H.out).mono ?_
    rintro e w2 ⟨rfl, hw2⟩
    replace q1 := (hw2.cell (by omega)).trans q1
    replace q2 := (hw2.cell (by omega)).trans q2
    replace q3 := (hw2.cell (by omega)).trans q3
    replace q4 := (hw2.cell (by omega)).trans q4
    replace q5 := (hw2.cell (by omega)).trans q5
    replace q6 := (hw2.cell (by omega)).trans q6
    have hbw2 := hbw1H.out.trans (hw2.mono hbw1H.out.size)
    have hz2 : w.heap.size < w2.heap.size := by have := hw2.size; omega
    have hw2H := Lib.hid hw2
    clear hw2
    have hbw2H := Lib.hid hbw2
    clear hbw2
    have hF := hFH.out
    clear hFH
    cases b2
    · rw [if_neg (by decide)] at hF
      have hFH := Lib.hid hF
      clear hF
      clear q1 q2 q3 q4 q5 q6
      go_wp2
      go_ret
      exact ⟨ret1_int hFH.out, hbw2H.out⟩
    · rw [if_pos rfl] at hF
      have hFH := Lib.hid hF
      clear hF
      go_wp2_with fail
      refine (rdig_any result _ b3 hb3H.out).mono ?_
      rintro e w3 ⟨rfl, hw3⟩
      replace q2 := (hw3.cell (by omega)).trans q2
      replace q3 := (hw3.cell (by omega)).trans q3
      replace q4 := (hw3.cell (by omega)).trans q4
      replace q5 := (hw3.cell (by omega)).trans q5
      replace q6 := (hw3.cell (by omega)).trans q6
      have hbw3 := hbw2H.out.trans (hw3.mono hbw2H.out.size)
      have hz3 : w.heap.size < w3.heap.size := by have := hw3.size; omega
      have hw3H := Lib.hid hw3
      clear hw3
      have hbw3H := Lib.hid hbw3
      clear hbw3
      have hF := hFH.out
      clear hFH
      cases b3
      · rw [if_neg (by decide)] at hF
        have hFH := Lib.hid hF
        clear hF
        clear q2 q3 q4 q5 q6
        go_wp2
        go_ret
        exact ⟨ret1_int hFH.out, hbw3H.out⟩
      · rw [if_pos rfl] at hF
        have hFH := Lib.hid hF
        clear hF
        go_wp2_with fail
        refine (rword_bb writer b4 _ o3H.out hb4H.out).mono ?_
        rintro e w4 ⟨rfl, hw4⟩
        replace q3 := (hw4.cell (by omega)).trans q3
        replace q4 := (hw4.cell (by omega)).trans q4
        replace q5 := (hw4.cell (by omega)).trans q5
        replace q6 := (hw4.cell (by omega)).trans q6
        have hbw4 := hbw3H.out.trans (hw4.mono hbw3H.out.size)
        have hz4 : w.heap.size < w4.heap.size := by have := hw4.size; omega
        have hw4H := Lib.hid hw4
        clear hw4
        have hbw4H := Lib.hid hbw4
        clear hbw4
        have hF := hFH.out
        clear hFH
        cases b4
        · rw [if_neg (by decide)] at hF
          have hFH := Lib.hid hF
          clear hF
          clear q3 q4 q5 q6
          go_wp2
          go_ret
          exact ⟨ret1_int hFH.out, hbw4H.out⟩
        · rw [if_pos rfl] at hF
          clear q3
          by_cases i4 : inR 0 1000000000 at_ = true
          · rw [if_pos i4] at hF
            by_cases h50 : n ≤ 50
            · rw [halH.out, if_pos h50] at hF
              obtain ⟨c3, hc3⟩ : ∃ c3, usesErr none l = c3 := ⟨_, rfl⟩
              rw [hc3] at hF
              have hX : ∀ z : Int, z = c3 → z ≠ 0 → z = c := fun z h2 h1 => by
                rw [if_neg (by omega)] at hF
                omega
              have hFH := Lib.hid hF
              clear hF
              have hXH := Lib.hid hX
              clear hX
              have hc3H := Lib.hid hc3
              clear hc3
              go_wp2_with (go_at_call 25; refine (within_r _ _ _ _).mono ?_; rintro e wz ⟨rfl, hwz⟩; rw [hwz]; clear hwz; clear wz)
              go_loopw [38] (fun i wr => UsRel l c3 w4 i wr) (fun i _ => n - (intOf i).toNat)
              case atStart => exact ⟨0, Nat.zero_le _, rfl, hc3H.out, Below.refl _ _⟩
              case round =>
                obtain ⟨k, hk, rfl, hck, hb⟩ := hrel
                have hkl : k ≤ n := by have := halH.out; omega
                have hbs := hb.size
                have q5r := (hb.cell hz4).trans q5
                have q6r := (hb.cell hz4).trans q6
                clear q4 q5 q6 i4
                have hbw := hbw4H.out.trans (hb.mono hbw4H.out.size)
                by_cases hlt : k < n
                · obtain ⟨b, off, hA, _⟩ := hlH.out.2.1 (by omega)
                  obtain ⟨s, hx⟩ : ∃ x, l[k]? = some x := ⟨l[k]'(by have := halH.out; omega), List.getElem?_eq_getElem _⟩
                  have hsl := hlH.out
                  rw [hA] at hsl
                  have c0 := cell_Str (hsl.below hbw) hx
                  rw [drop_cons hx, usesErr] at hck
                  have hkl2 : k + 1 ≤ l.length := by have := halH.out; omega
                  have hpn : prevU l (k + 1) = some s := by rw [prevU, if_neg (by omega), show k + 1 - 1 = k from rfl, hx]
                  subst hA
                  obtain ⟨q, hq⟩ : ∃ q, digB s = q := ⟨_, rfl⟩
                  rw [hq] at hck
                  have hckH := Lib.hid hck
                  clear hck
                  have hbH := Lib.hid hb
                  clear hb
                  have hbwH := Lib.hid hbw
                  clear hbw
                  have hpnH := Lib.hid hpn
                  clear hpn
                  have hkl2H := Lib.hid hkl2
                  clear hkl2
                  have hxH := Lib.hid hx
                  clear hx
                  have hslH := Lib.hid hsl
                  clear hsl
                  have hqH := Lib.hid hq
                  clear hq
                  go_wp2_with fail
                  refine (rdig_any s _ q hqH.out).mono ?_
                  rintro e w5 ⟨rfl, hw5⟩
                  have hb5 := hbH.out.trans (hw5.mono hbH.out.size)
                  have hbw5 := hbwH.out.trans (hw5.mono hbwH.out.size)
                  replace q5r := (hw5.cell (show w.heap.size < wr.heap.size by omega)).trans q5r
                  clear hw5 c0 q6r
                  have hck := hckH.out
                  clear hckH
                  cases q
                  · rw [if_neg (by decide)] at hck
                    have hckH := Lib.hid hck
                    clear hck
                    have hb5H := Lib.hid hb5
                    clear hb5
                    have hbw5H := Lib.hid hbw5
                    clear hbw5
                    go_wp2
                    go_ret
                    exact ⟨ret1_int (hXH.out _ hckH.out (by decide)), hbw5H.out⟩
                  · rw [if_pos rfl] at hck
                    by_cases hk0 : k = 0
                    · subst hk0
                      have R : ∀ nq, UsRel l c3 w4 (.int .i64 1) (w5.drewN nq) := by
                        refine fun nq => ⟨1, hkl2H.out, by go_num, ?_, bel_drewN hb5 nq⟩
                        rw [prevU, if_pos rfl, Option.map_none, if_neg (by decide)] at hck
                        rw [hpnH.out]
                        exact hck
                      clear hck
                      have RH := Lib.hid R
                      clear R
                      have hb5H := Lib.hid hb5
                      clear hb5
                      have hbw5H := Lib.hid hbw5
                      clear hbw5
                      go_wp2
                      refine ⟨?rel, ?measure⟩
                      case measure => (simp [intOf]; omega)
                      case rel => first | exact (RH.out 0) | exact ⟨rfl, (RH.out 0)⟩ | ((try refine ⟨rfl, ?_⟩); (repeat apply Exists.intro); refine ⟨(RH.out 0), ?_⟩; ((repeat' apply And.intro) <;> rfl))
                    · obtain ⟨j, rfl⟩ : ∃ j, k = j + 1 := ⟨k - 1, by omega⟩
                      obtain ⟨y, hy⟩ : ∃ y, l[j]? = some y := ⟨l[j]'(by have := halH.out; omega), List.getElem?_eq_getElem _⟩
                      have d0 := cell_Str (hslH.out.below hbw5) hy
                      have hpr : prevU l (j + 1) = some y := by rw [prevU, if_neg (by omega), show j + 1 - 1 = j from rfl, hy]
                      rw [hpr, Option.map_some] at hck
                      clear hpr
                      cases hle : sle s y
                      · have hle' : (Op.bytesLess s.toList y.toList || s.toList == y.toList) = false := hle
                        rw [hle, if_neg (by decide)] at hck
                        have R : ∀ nq, UsRel l c3 w4 (.int .i64 (j + 1 + 1)) (w5.drewN nq) := by
                          refine fun nq => ⟨j + 1 + 1, hkl2H.out, by go_num, ?_, bel_drewN hb5 nq⟩
                          rw [hpnH.out]
                          exact hck
                        clear hck
                        have hleH := Lib.hid hle
                        clear hle
                        have hyH := Lib.hid hy
                        clear hy
                        have RH := Lib.hid R
                        clear R
                        have hb5H := Lib.hid hb5
                        clear hb5
                        have hbw5H := Lib.hid hbw5
                        clear hbw5
                        go_wp2
                        refine ⟨?rel, ?measure⟩
                        case measure => (simp [intOf]; omega)
                        case rel => first | exact (RH.out 0) | exact ⟨rfl, (RH.out 0)⟩ | ((try refine ⟨rfl, ?_⟩); (repeat apply Exists.intro); refine ⟨(RH.out 0), ?_⟩; ((repeat' apply And.intro) <;> rfl))
                      · have hle' : (Op.bytesLess s.toList y.toList || s.toList == y.toList) = true := hle
                        rw [hle, if_pos rfl] at hck
                        have hleH := Lib.hid hle
                        clear hle
                        have hckH := Lib.hid hck
                        clear hck
                        have hyH := Lib.hid hy
                        clear hy
                        have hb5H := Lib.hid hb5
                        clear hb5
                        have hbw5H := Lib.hid hbw5
                        clear hbw5
                        go_wp2
                        go_ret
                        exact ⟨ret1_int (hXH.out _ hckH.out (by decide)), hbw5H.out⟩
                · have e : l.drop k = [] := List.drop_eq_nil_of_le (by have := halH.out; omega)
                  rw [e] at hck
                  have hc0 : 0 = c3 := by rw [← hck]; unfold usesErr; rfl
                  clear e hck
                  have hF := hFH.out
                  clear hFH
                  rw [if_pos hc0.symm] at hF
                  clear hc0 q5r
                  obtain ⟨e0, he0⟩ : ∃ e0, (sign.toList == []) = e0 := ⟨_, rfl⟩
                  unfold signB at hF
                  rw [he0] at hF
                  cases e0
                  · obtain ⟨b5, hb5⟩ : ∃ b, digB sign = b := ⟨_, rfl⟩
                    rw [hb5, Bool.false_or] at hF
                    have hFH := Lib.hid hF
                    clear hF
                    have hbH := Lib.hid hb
                    clear hb
                    have hbwH := Lib.hid hbw
                    clear hbw
                    have hb5H := Lib.hid hb5
                    clear hb5
                    go_wp2_with fail
                    refine (rdig_any sign _ b5 hb5H.out).mono ?_
                    rintro e w6 ⟨rfl, hw6⟩
                    have hbw6 := hbwH.out.trans (hw6.mono hbwH.out.size)
                    clear hw6 q6r
                    have hF := hFH.out
                    clear hFH
                    have hbw6H := Lib.hid hbw6
                    clear hbw6
                    cases b5
                    · rw [if_neg (by decide)] at hF
                      have hFH := Lib.hid hF
                      clear hF
                      go_wp2
                      go_ret
                      exact ⟨ret1_int hFH.out, hbw6H.out⟩
                    · rw [if_pos rfl] at hF
                      have hFH := Lib.hid hF
                      clear hF
                      go_wp2
                      go_ret
                      exact ⟨ret1_int hFH.out, hbw6H.out⟩
                  · rw [Bool.true_or, if_pos rfl] at hF
                    have hFH := Lib.hid hF
                    clear hF
                    have hbH := Lib.hid hb
                    clear hb
                    have hbwH := Lib.hid hbw
                    clear hbw
                    go_wp2_with fail
                    go_ret
                    exact ⟨ret1_int hFH.out, hbwH.out⟩
            · rw [halH.out, if_neg h50] at hF
              have h50d : decide ((n : Int) ≤ 50) = false := decide_eq_false (by omega)
              clear q6
              have hFH := Lib.hid hF
              clear hF
              go_wp2_with (go_at_call 25; refine (within_r _ _ _ _).mono ?_; rintro e wz ⟨rfl, hwz⟩; rw [hwz]; clear hwz; clear wz)
              go_ret
              exact ⟨ret1_int hFH.out, hbw4H.out⟩
          · rw [if_neg i4] at hF
            have i4 : inR 0 1000000000 at_ = false := by simpa using i4
            clear q5 q6
            have hFH := Lib.hid hF
            clear hF
            go_wp2_with (go_at_call 25; refine (within_r _ _ _ _).mono ?_; rintro e wz ⟨rfl, hwz⟩; rw [hwz]; clear hwz; clear wz)
            go_ret
            exact ⟨ret1_int hFH.out, hbw4H.out⟩

end Go.Proofs.YtgegdfmdcmgliaaGreatDoor.C11

namespace Go.Proofs.YtgegdfmdcmgliaaGreatDoor.C11
open Go.RowKit
set_option linter.unusedVariables false

/-- the labels of a log are of the length the reference needs -/
def LblOk (l : List Claimed) : Prop := ∀ x ∈ l, x.label.size ≤ 1048576
def LgRel (l : List Claimed) (c : Int) (w0 : World) (i : Value) (wr : World) : Prop :=
  ∃ k : Nat, k ≤ l.length ∧ i = .int .i64 k ∧ logErr (prevL l k) (l.drop k) = c ∧ Below w0.heap.size w0 wr


set_option maxHeartbeats 2000000 in
theorem log_ok (A : Option Addr) (len cap : Nat) (l : List Claimed) (w : World) (hlen : len ≤ 1000) (hm : MaxLenAt w) (hl : SlAt RClaimed w A len l) (c : Int) (hF : logErr none l = c) :
    Calls Tryz.prog 29 #[.slice A len cap] w fun e w' => e = .returned (.int .i64 c) ∧ Below w.heap.size w w' := by
  have hlb : True := trivial
  have hll := hl.1
  have hllH := Lib.hid hll
  clear hll
  have hFH := Lib.hid hF
  clear hF
  have hlH := Lib.hid hl
  clear hl
  have hmH := Lib.hid hm
  clear hm
  have hlbH := Lib.hid hlb
  clear hlb
  go_enter Tryz.func29, Tryz.ntmps29
  go_wp2
  go_loopw [11] (fun i wr => LgRel l c w i wr) (fun i _ => len - (intOf i).toNat)
  case atStart => exact ⟨0, Nat.zero_le _, rfl, hFH.out, Below.refl _ _⟩
  case round =>
    obtain ⟨k, hk, rfl, hck, hb⟩ := hrel
    have hkl : k ≤ len := by have := hllH.out; omega
    have hbs := hb.size
    by_cases hlt : k < len
    · obtain ⟨b, off, hA, _⟩ := hlH.out.2.1 (by omega)
      subst hA
      obtain ⟨x, hx⟩ : ∃ x, l[k]? = some x := ⟨l[k]'(by have := hllH.out; omega), List.getElem?_eq_getElem _⟩
      obtain ⟨c0, c1, c2, c3, c4, c5, c6⟩ := cells_Claimed (hlH.out.below hb) hx
      have hok := hlH.out.2.2 x (List.mem_of_getElem? hx)
      have hlbx := True.intro
      rw [drop_cons hx, logErr] at hck
      have hkl2 : k + 1 ≤ l.length := by have := hllH.out; omega
      have hpn : prevL l (k + 1) = some x.at_ := by rw [prevL, if_neg (by omega), show k + 1 - 1 = k from rfl, hx]; rfl
      obtain ⟨f, hf⟩ : ∃ f, claimedF x = f := ⟨_, rfl⟩
      rw [hf] at hck
      obtain ⟨key, label, result, writer, at_, ⟨A, n, cp, us⟩, sign⟩ := x
      simp only at c0 c1 c2 c3 c4 c5 c6 hck hpn
      have hba := hb.alloc hbs (.cells #[.string key, .string label, .string result, .string writer, .int .i64 at_, .slice A n cp, .string sign] 51)
      have hbas := hba.size
      have hxH := Lib.hid hx
      clear hx
      have hckH := Lib.hid hck
      clear hck
      have hbH := Lib.hid hb
      clear hb
      have hbaH := Lib.hid hba
      clear hba
      have hbasH := Lib.hid hbas
      clear hbas
      have hokH := Lib.hid hok
      clear hok
      have hfH := Lib.hid hf
      clear hf
      have hpnH := Lib.hid hpn
      clear hpn
      have hkl2H := Lib.hid hkl2
      clear hkl2
      have hlbxH := Lib.hid hlbx
      clear hlbx
      go_wp2_with fail
      refine (claimed_any ⟨key, label, result, writer, at_, ⟨A, n, cp, us⟩, sign⟩ _ (hmH.out.below hbaH.out) (RClaimed.mono _ _ _ hbaH.out hokH.out) f hfH.out).mono ?_
      rintro e w1 ⟨rfl, hw1⟩
      have q4 : w1.cell? ⟨wr.heap.size, 4, none⟩ = some (.int .i64 at_) := (hw1.cell (by simp)).trans (cell_new _ _ _ 4)
      have q6 : w1.cell? ⟨wr.heap.size, 6, none⟩ = some (.string sign) := (hw1.cell (by simp)).trans (cell_new _ _ _ 6)
      have hbw := hbaH.out.trans (hw1.mono hbasH.out)
      clear c0 c1 c2 c3 c4 c5 c6
      have hw1H := Lib.hid hw1
      clear hw1
      have hbwH := Lib.hid hbw
      clear hbw
      have hck := hckH.out
      clear hckH
      by_cases hf0 : f = 0
      · subst hf0
        rw [if_pos rfl] at hck
        obtain ⟨e0, he0⟩ : ∃ e0, (sign.toList == []) = e0 := ⟨_, rfl⟩
        rw [he0] at hck
        cases e0
        · rw [if_neg (by decide)] at hck
          by_cases hk0 : k = 0
          · subst hk0
            have R : ∀ nq, LgRel l c w (.int .i64 1) (w1.drewN nq) := by
              refine fun nq => ⟨1, hkl2H.out, by go_num, ?_, bel_drewN hbwH.out nq⟩
              rw [prevL, if_pos rfl, Option.map_none, if_neg (by decide)] at hck
              rw [hpnH.out]
              exact hck
            clear hck
            have RH := Lib.hid R
            clear R
            go_wp2_with fail
            go_quiet (fail)
            go_wp2
            refine ⟨?rel, ?measure⟩
            case measure => (simp [intOf]; omega)
            case rel => first | exact (RH.out _) | exact ⟨rfl, (RH.out _)⟩ | ((try refine ⟨rfl, ?_⟩); (repeat apply Exists.intro); refine ⟨(RH.out _), ?_⟩; ((repeat' apply And.intro) <;> rfl))
          · obtain ⟨j, rfl⟩ : ∃ j, k = j + 1 := ⟨k - 1, by omega⟩
            obtain ⟨y, hy⟩ : ∃ y, l[j]? = some y := ⟨l[j]'(by have := hllH.out; omega), List.getElem?_eq_getElem _⟩
            obtain ⟨_, _, _, _, d4, _, _⟩ := cells_Claimed (hlH.out.below hbwH.out) hy
            have hpr : prevL l (j + 1) = some y.at_ := by rw [prevL, if_neg (by omega), show j + 1 - 1 = j from rfl, hy]; rfl
            rw [hpr, Option.map_some] at hck
            clear hpr
            obtain ⟨ya, yr⟩ : ∃ ya, y.at_ = ya := ⟨_, rfl⟩
            rw [yr] at d4 hck
            by_cases hle : at_ < ya
            · rw [decide_eq_true hle, if_pos rfl] at hck
              have hckH := Lib.hid hck
              clear hck
              have hyH := Lib.hid hy
              clear hy
              have yrH := Lib.hid yr
              clear yr
              go_wp2_with fail
              go_quiet (fail)
              go_wp2
              go_ret
              exact ⟨ret1_int hckH.out, bel_drewN hbwH.out _⟩
            · rw [decide_eq_false hle, if_neg (by decide)] at hck
              have hle2 : decide (at_ < ya) = false := decide_eq_false hle
              have R : ∀ nq, LgRel l c w (.int .i64 (j + 1 + 1)) (w1.drewN nq) := by
                refine fun nq => ⟨j + 1 + 1, hkl2H.out, by go_num, ?_, bel_drewN hbwH.out nq⟩
                rw [hpnH.out]
                exact hck
              clear hck
              have hyH := Lib.hid hy
              clear hy
              have yrH := Lib.hid yr
              clear yr
              have RH := Lib.hid R
              clear R
              go_wp2_with fail
              go_quiet (fail)
              go_wp2
              refine ⟨?rel, ?measure⟩
              case measure => (simp [intOf]; omega)
              case rel => first | exact (RH.out _) | exact ⟨rfl, (RH.out _)⟩ | ((try refine ⟨rfl, ?_⟩); (repeat apply Exists.intro); refine ⟨(RH.out _), ?_⟩; ((repeat' apply And.intro) <;> rfl))
        · rw [if_pos rfl] at hck
          clear q4
          have hckH := Lib.hid hck
          clear hck
          go_wp2_with fail
          go_ret
          exact ⟨ret1_int hckH.out, hbwH.out⟩
      · rw [if_neg hf0] at hck
        have hf1 : (f != 0) = true := by simpa using hf0
        clear q4 q6
        have hckH := Lib.hid hck
        clear hck
        have hf0H := Lib.hid hf0
        clear hf0
        go_wp2
        go_ret
        exact ⟨ret1_int hckH.out, hbwH.out⟩
    · have e : l.drop k = [] := List.drop_eq_nil_of_le (by have := hllH.out; omega)
      rw [e] at hck
      have hc0 : 0 = c := by rw [← hck]; unfold logErr; rfl
      have hckH := Lib.hid hck
      clear hck
      have hbH := Lib.hid hb
      clear hb
      have eH := Lib.hid e
      clear e
      have hc0H := Lib.hid hc0
      clear hc0
      go_wp2
      go_ret
      exact ⟨ret1_int hc0H.out, hbH.out⟩
theorem log_any (A : Option Addr) (len cap : Nat) (l : List Claimed) (w : World) (hm : MaxLenAt w) (hl : SlAt RClaimed w A len l) (c : Int) (hF : logF l = c) :
    Calls Tryz.prog 29 #[.slice A len cap] w fun e w' => e = .returned (.int .i64 c) ∧ Below w.heap.size w w' := by
  unfold logF at hF
  rw [hl.1] at hF
  by_cases h : len ≤ 1000
  · rw [if_pos h] at hF
    exact log_ok A len cap l w h hm hl c hF
  · rw [if_neg h] at hF
    subst hF
    clear hl
    go_enter Tryz.func29, Tryz.ntmps29
    go_wp2
    go_ret
    exact ⟨rfl, Below.refl _ _⟩
set_option maxHeartbeats 2000000 in
theorem rlog_ok (A : Option Addr) (len cap : Nat) (l : List Claimed) (w : World) (hlen : len ≤ 1000) (hm : MaxLenAt w) (hlb : LblOk l) (hl : SlAt RClaimed w A len l) (c : Int) (hF : logErr none l = c) :
    Calls Tryz.prog 31 #[.slice A len cap] w fun e w' => e = .returned (.int .i64 c) ∧ Below w.heap.size w w' := by
  have hll := hl.1
  have hllH := Lib.hid hll
  clear hll
  have hFH := Lib.hid hF
  clear hF
  have hlH := Lib.hid hl
  clear hl
  have hmH := Lib.hid hm
  clear hm
  have hlbH := Lib.hid hlb
  clear hlb
  go_enter Tryz.func31, Tryz.ntmps31
  go_wp2
  go_loopw [11] (fun i wr => LgRel l c w i wr) (fun i _ => len - (intOf i).toNat)
  case atStart => exact ⟨0, Nat.zero_le _, rfl, hFH.out, Below.refl _ _⟩
  case round =>
    obtain ⟨k, hk, rfl, hck, hb⟩ := hrel
    have hkl : k ≤ len := by have := hllH.out; omega
    have hbs := hb.size
    by_cases hlt : k < len
    · obtain ⟨b, off, hA, _⟩ := hlH.out.2.1 (by omega)
      subst hA
      obtain ⟨x, hx⟩ : ∃ x, l[k]? = some x := ⟨l[k]'(by have := hllH.out; omega), List.getElem?_eq_getElem _⟩
      obtain ⟨c0, c1, c2, c3, c4, c5, c6⟩ := cells_Claimed (hlH.out.below hb) hx
      have hok := hlH.out.2.2 x (List.mem_of_getElem? hx)
      have hlbx := hlbH.out _ (List.mem_of_getElem? hx)
      rw [drop_cons hx, logErr] at hck
      have hkl2 : k + 1 ≤ l.length := by have := hllH.out; omega
      have hpn : prevL l (k + 1) = some x.at_ := by rw [prevL, if_neg (by omega), show k + 1 - 1 = k from rfl, hx]; rfl
      obtain ⟨f, hf⟩ : ∃ f, claimedF x = f := ⟨_, rfl⟩
      rw [hf] at hck
      obtain ⟨key, label, result, writer, at_, ⟨A, n, cp, us⟩, sign⟩ := x
      simp only at c0 c1 c2 c3 c4 c5 c6 hck hpn
      have hba := hb.alloc hbs (.cells #[.string key, .string label, .string result, .string writer, .int .i64 at_, .slice A n cp, .string sign] 51)
      have hbas := hba.size
      have hxH := Lib.hid hx
      clear hx
      have hckH := Lib.hid hck
      clear hck
      have hbH := Lib.hid hb
      clear hb
      have hbaH := Lib.hid hba
      clear hba
      have hbasH := Lib.hid hbas
      clear hbas
      have hokH := Lib.hid hok
      clear hok
      have hfH := Lib.hid hf
      clear hf
      have hpnH := Lib.hid hpn
      clear hpn
      have hkl2H := Lib.hid hkl2
      clear hkl2
      have hlbxH := Lib.hid hlbx
      clear hlbx
      go_wp2_with fail
      refine (rclaimed_any ⟨key, label, result, writer, at_, ⟨A, n, cp, us⟩, sign⟩ _ (hmH.out.below hbaH.out) hlbxH.out (RClaimed.mono _ _ _ hbaH.out hokH.out) f hfH.out).mono ?_
      rintro e w1 ⟨rfl, hw1⟩
      have q4 : w1.cell? ⟨wr.heap.size, 4, none⟩ = some (.int .i64 at_) := (hw1.cell (by simp)).trans (cell_new _ _ _ 4)
      have q6 : w1.cell? ⟨wr.heap.size, 6, none⟩ = some (.string sign) := (hw1.cell (by simp)).trans (cell_new _ _ _ 6)
      have hbw := hbaH.out.trans (hw1.mono hbasH.out)
      clear c0 c1 c2 c3 c4 c5 c6
      have hw1H := Lib.hid hw1
      clear hw1
      have hbwH := Lib.hid hbw
      clear hbw
      have hck := hckH.out
      clear hckH
      by_cases hf0 : f = 0
      · subst hf0
        rw [if_pos rfl] at hck
        obtain ⟨e0, he0⟩ : ∃ e0, (sign.toList == []) = e0 := ⟨_, rfl⟩
        rw [he0] at hck
        cases e0
        · rw [if_neg (by decide)] at hck
          by_cases hk0 : k = 0
          · subst hk0
            have R : ∀ nq, LgRel l c w (.int .i64 1) (w1.drewN nq) := by
              refine fun nq => ⟨1, hkl2H.out, by go_num, ?_, bel_drewN hbwH.out nq⟩
              rw [prevL, if_pos rfl, Option.map_none, if_neg (by decide)] at hck
              rw [hpnH.out]
              exact hck
            clear hck
            have RH := Lib.hid R
            clear R
            go_wp2_with fail
            go_quiet (fail)
            go_wp2
            refine ⟨?rel, ?measure⟩
            case measure => (simp [intOf]; omega)
            case rel => first | exact (RH.out _) | exact ⟨rfl, (RH.out _)⟩ | ((try refine ⟨rfl, ?_⟩); (repeat apply Exists.intro); refine ⟨(RH.out _), ?_⟩; ((repeat' apply And.intro) <;> rfl))
          · obtain ⟨j, rfl⟩ : ∃ j, k = j + 1 := ⟨k - 1, by omega⟩
            obtain ⟨y, hy⟩ : ∃ y, l[j]? = some y := ⟨l[j]'(by have := hllH.out; omega), List.getElem?_eq_getElem _⟩
            obtain ⟨_, _, _, _, d4, _, _⟩ := cells_Claimed (hlH.out.below hbwH.out) hy
            have hpr : prevL l (j + 1) = some y.at_ := by rw [prevL, if_neg (by omega), show j + 1 - 1 = j from rfl, hy]; rfl
            rw [hpr, Option.map_some] at hck
            clear hpr
            obtain ⟨ya, yr⟩ : ∃ ya, y.at_ = ya := ⟨_, rfl⟩
            rw [yr] at d4 hck
            by_cases hle : at_ < ya
            · rw [decide_eq_true hle, if_pos rfl] at hck
              have hckH := Lib.hid hck
              clear hck
              have hyH := Lib.hid hy
              clear hy
              have yrH := Lib.hid yr
              clear yr
              go_wp2_with fail
              go_quiet (fail)
              go_wp2
              go_ret
              exact ⟨ret1_int hckH.out, bel_drewN hbwH.out _⟩
            · rw [decide_eq_false hle, if_neg (by decide)] at hck
              have hle2 : decide (at_ < ya) = false := decide_eq_false hle
              have R : ∀ nq, LgRel l c w (.int .i64 (j + 1 + 1)) (w1.drewN nq) := by
                refine fun nq => ⟨j + 1 + 1, hkl2H.out, by go_num, ?_, bel_drewN hbwH.out nq⟩
                rw [hpnH.out]
                exact hck
              clear hck
              have hyH := Lib.hid hy
              clear hy
              have yrH := Lib.hid yr
              clear yr
              have RH := Lib.hid R
              clear R
              go_wp2_with fail
              go_quiet (fail)
              go_wp2
              refine ⟨?rel, ?measure⟩
              case measure => (simp [intOf]; omega)
              case rel => first | exact (RH.out _) | exact ⟨rfl, (RH.out _)⟩ | ((try refine ⟨rfl, ?_⟩); (repeat apply Exists.intro); refine ⟨(RH.out _), ?_⟩; ((repeat' apply And.intro) <;> rfl))
        · rw [if_pos rfl] at hck
          clear q4
          have hckH := Lib.hid hck
          clear hck
          go_wp2_with fail
          go_ret
          exact ⟨ret1_int hckH.out, hbwH.out⟩
      · rw [if_neg hf0] at hck
        have hf1 : (f != 0) = true := by simpa using hf0
        clear q4 q6
        have hckH := Lib.hid hck
        clear hck
        have hf0H := Lib.hid hf0
        clear hf0
        go_wp2
        go_ret
        exact ⟨ret1_int hckH.out, hbwH.out⟩
    · have e : l.drop k = [] := List.drop_eq_nil_of_le (by have := hllH.out; omega)
      rw [e] at hck
      have hc0 : 0 = c := by rw [← hck]; unfold logErr; rfl
      have hckH := Lib.hid hck
      clear hck
      have hbH := Lib.hid hb
      clear hb
      have eH := Lib.hid e
      clear e
      have hc0H := Lib.hid hc0
      clear hc0
      go_wp2
      go_ret
      exact ⟨ret1_int hc0H.out, hbH.out⟩
theorem rlog_any (A : Option Addr) (len cap : Nat) (l : List Claimed) (w : World) (hm : MaxLenAt w) (hlb : LblOk l) (hl : SlAt RClaimed w A len l) (c : Int) (hF : logF l = c) :
    Calls Tryz.prog 31 #[.slice A len cap] w fun e w' => e = .returned (.int .i64 c) ∧ Below w.heap.size w w' := by
  unfold logF at hF
  rw [hl.1] at hF
  by_cases h : len ≤ 1000
  · rw [if_pos h] at hF
    exact rlog_ok A len cap l w h hm hlb hl c hF
  · rw [if_neg h] at hF
    subst hF
    clear hl
    go_enter Tryz.func31, Tryz.ntmps31
    go_wp2
    go_ret
    exact ⟨rfl, Below.refl _ _⟩
end Go.Proofs.YtgegdfmdcmgliaaGreatDoor.C11

namespace Go.Proofs.YtgegdfmdcmgliaaGreatDoor.C11
open Go.RowKit
set_option linter.unusedVariables false

def AuRel (l : List Claimed) (m : List Audit) (c : Int) (w0 : World) (i : Value) (wr : World) : Prop :=
  ∃ k : Nat, k ≤ m.length ∧ i = .int .i64 k ∧ auditsErr l (prevA m k) (m.drop k) = c ∧ Below w0.heap.size w0 wr

-- {0} CheckAudits, {1} loop slot, {2} CheckLog's contract, {3} IsDigest's contract, {4} within's name, {5} within's contract, {6} more of CheckLog's arguments

set_option maxHeartbeats 4000000 in
theorem audits_any (A : Option Addr) (len cap : Nat) (l : List Claimed) (B : Option Addr) (mlen mcap : Nat) (m : List Audit) (w : World) (hm : MaxLenAt w) (hl : SlAt RClaimed w A len l) (hma : SlAt RAudit w B mlen m) (c : Int) (hF : auditsF l m = c) :
    Calls Tryz.prog 10 #[.slice A len cap, .slice B mlen mcap] w fun e w' => e = .returned (.int .i64 c) ∧ Below w.heap.size w w' := by
  have hll := hl.1
  have hml := hma.1
  unfold auditsF at hF
  have hcl := log_any A len cap l w hm hl _ rfl
  have hllH := Lib.hid hll
  clear hll
  have hlH := Lib.hid hl
  clear hl
  have hmH := Lib.hid hm
  clear hm
  have hmlH := Lib.hid hml
  clear hml
  have hmaH := Lib.hid hma
  clear hma
  by_cases h0 : logF l = 0
  · rw [if_pos h0] at hF
    rw [h0] at hcl
    have hl1000 : len ≤ 1000 := by have := (logF_zero h0).1; have := hllH.out; omega
    by_cases hm1000 : mlen ≤ 1000
    · rw [hmlH.out, if_pos hm1000] at hF
      have hFH := Lib.hid hF
      clear hF
      have hclH := Lib.hid hcl
      clear hcl
      have h0H := Lib.hid h0
      clear h0
      go_enter Tryz.func10, Tryz.ntmps10
      go_wp2_with fail
      refine hclH.out.mono ?_
      rintro e w1 ⟨rfl, hw1⟩
      have hw1H := Lib.hid hw1
      clear hw1
      go_wp2_with fail
      go_loopw [18] (fun i wr => AuRel l m c w1 i wr) (fun i _ => mlen - (intOf i).toNat)
      case atStart => exact ⟨0, Nat.zero_le _, rfl, hFH.out, Below.refl _ _⟩
      case round =>
        obtain ⟨k, hk, rfl, hck, hb1⟩ := hrel
        have hb := hw1H.out.trans (hb1.mono hw1H.out.size)
        have hkl : k ≤ mlen := by have := hmlH.out; omega
        have hbs := hb.size
        have hbs1 := hb1.size
        by_cases hlt : k < mlen
        · obtain ⟨b, off, hA, _⟩ := hmaH.out.2.1 (by omega)
          subst hA
          obtain ⟨x, hx⟩ : ∃ x, m[k]? = some x := ⟨m[k]'(by have := hmlH.out; omega), List.getElem?_eq_getElem _⟩
          obtain ⟨c0, c1, c2⟩ := cells_Audit (hmaH.out.below hb) hx
          obtain ⟨o0, o1, o2⟩ := hmaH.out.2.2 x (List.mem_of_getElem? hx)
          rw [drop_cons hx, auditsErr] at hck
          have hkl2 : k + 1 ≤ m.length := by have := hmlH.out; omega
          have hpn : prevA m (k + 1) = some x.at_ := by rw [prevA, if_neg (by omega), show k + 1 - 1 = k from rfl, hx]; rfl
          obtain ⟨number, result, aat⟩ := x
          simp only at c0 c1 c2 hck hpn o0 o1 o2
          have hba := hb.alloc hbs (.cells #[.int .i64 number, .string result, .int .i64 aat] 30)
          have hba1 := hb1.alloc hbs1 (.cells #[.int .i64 number, .string result, .int .i64 aat] 30)
          have hbas := hba.size
          obtain ⟨b2, hb2⟩ : ∃ b, digB result = b := ⟨_, rfl⟩
          have hlenI : IntKind.i64.wrap ((len : Int) - 1) = (len : Int) - 1 := IntWalk.i64_in _ (by omega)
          have o0 : I64 number := o0
          have o2 : I64 aat := o2
          have hxH := Lib.hid hx
          clear hx
          have hbH := Lib.hid hb
          clear hb
          have hb1H := Lib.hid hb1
          clear hb1
          have hbaH := Lib.hid hba
          clear hba
          have hba1H := Lib.hid hba1
          clear hba1
          have hbasH := Lib.hid hbas
          clear hbas
          have o0H := Lib.hid o0
          clear o0
          have o1H := Lib.hid o1
          clear o1
          have o2H := Lib.hid o2
          clear o2
          have hpnH := Lib.hid hpn
          clear hpn
          have hkl2H := Lib.hid hkl2
          clear hkl2
          have hb2H := Lib.hid hb2
          clear hb2
          by_cases i1 : inR 0 ((len : Int) - 1) number = true
          · have i1l : inR 0 ((l.length : Int) - 1) number = true := by rw [hllH.out]; exact i1
            obtain ⟨nn, rfl⟩ : ∃ nn : Nat, number = nn := ⟨number.toNat, by have := inR_true i1; omega⟩
            have hnn : nn < len := by have := inR_true i1; omega
            have hckH := Lib.hid hck
            clear hck
            go_wp2_with (go_at_call 20; refine (within_p _ _ _ _).mono ?_; rintro e wz ⟨rfl, hwz⟩; rw [hwz]; clear hwz; clear wz)
            refine (dig_any result _ b2 hb2H.out).mono ?_
            rintro e w2 ⟨rfl, hw2⟩
            have q0 : w2.cell? ⟨wr.heap.size, 0, none⟩ = some (.int .i64 nn) := (hw2.cell (by simp)).trans (cell_new _ _ _ 0)
            have q2 : w2.cell? ⟨wr.heap.size, 2, none⟩ = some (.int .i64 aat) := (hw2.cell (by simp)).trans (cell_new _ _ _ 2)
            have hbw := hbaH.out.trans (hw2.mono hbasH.out)
            have hbw1 := hba1H.out.trans (hw2.mono hba1H.out.size)
            clear c0 c1 c2 hw2
            have hck := hckH.out
            clear hckH
            cases b2
            · have hk2 : auditF l (prevA m k) ⟨(nn : Int), result, aat⟩ = 3 := by unfold auditF; simp only; rw [if_pos i1l, hb2H.out]; rfl
              rw [hk2, if_neg (by decide)] at hck
              clear hk2 q0 q2
              have hckH := Lib.hid hck
              clear hck
              have hbwH := Lib.hid hbw
              clear hbw
              have hbw1H := Lib.hid hbw1
              clear hbw1
              go_wp2
              go_ret
              exact ⟨ret1_int hckH.out, hbwH.out⟩
            · obtain ⟨bl, offl, hAl, _⟩ := hlH.out.2.1 (by omega)
              subst hAl
              obtain ⟨z, hz⟩ : ∃ z, l[nn]? = some z := ⟨l[nn]'(by have := hllH.out; omega), List.getElem?_eq_getElem _⟩
              obtain ⟨_, _, _, _, d4, _, _⟩ := cells_Claimed (hlH.out.below hbw) hz
              have haz : atOf l (nn : Int) = z.at_ := by rw [atOf, show (nn : Int).toNat = nn from rfl, hz]
              obtain ⟨za, hza⟩ : ∃ za, z.at_ = za := ⟨_, rfl⟩
              rw [hza] at d4 haz
              have hau : auditF l (prevA m k) ⟨(nn : Int), result, aat⟩ = (if inR za 1000000000 aat = true then (if (prevA m k).map (fun q => decide (aat < q)) = some true then 8 else 0) else 1) := by
                unfold auditF; simp only; rw [if_pos i1l, hb2H.out, if_pos rfl, haz]
              rw [hau] at hck
              have hnI : (nn : Int) < (len : Int) := by omega
              clear hau haz
              have hzH := Lib.hid hz
              clear hz
              have hzaH := Lib.hid hza
              clear hza
              have i1lH := Lib.hid i1l
              clear i1l
              by_cases i3 : inR za 1000000000 aat = true
              · rw [if_pos i3] at hck
                by_cases hk0 : k = 0
                · subst hk0
                  rw [show prevA m 0 = none from rfl, Option.map_none, (show (if (none : Option Bool) = some true then (8 : Int) else 0) = 0 by decide), if_pos rfl] at hck
                  have R : ∀ nq, AuRel l m c w1 (.int .i64 1) (w2.drewN nq) := by
                    refine fun nq => ⟨1, hkl2H.out, by go_num, ?_, bel_drewN hbw1 nq⟩
                    rw [hpnH.out]
                    exact hck
                  clear hck
                  have RH := Lib.hid R
                  clear R
                  have hbwH := Lib.hid hbw
                  clear hbw
                  have hbw1H := Lib.hid hbw1
                  clear hbw1
                  go_wp2_with fail
                  go_quiet ((go_at_call 20; exact Calls.quiet_of_same (within_p _ _ _ _)))
                  go_wp2_with fail
                  go_quiet (fail)
                  go_wp2
                  refine ⟨?rel, ?measure⟩
                  case measure => (simp [intOf]; omega)
                  case rel => first | exact (RH.out _) | exact ⟨rfl, (RH.out _)⟩ | ((try refine ⟨rfl, ?_⟩); (repeat apply Exists.intro); refine ⟨(RH.out _), ?_⟩; ((repeat' apply And.intro) <;> rfl))
                · obtain ⟨j, rfl⟩ : ∃ j, k = j + 1 := ⟨k - 1, by omega⟩
                  obtain ⟨y, hy⟩ : ∃ y, m[j]? = some y := ⟨m[j]'(by have := hmlH.out; omega), List.getElem?_eq_getElem _⟩
                  obtain ⟨_, _, e2⟩ := cells_Audit (hmaH.out.below hbw) hy
                  have hpr : prevA m (j + 1) = some y.at_ := by rw [prevA, if_neg (by omega), show j + 1 - 1 = j from rfl, hy]; rfl
                  rw [hpr, Option.map_some] at hck
                  clear hpr
                  obtain ⟨ya, yr⟩ : ∃ ya, y.at_ = ya := ⟨_, rfl⟩
                  rw [yr] at e2 hck
                  by_cases hle : aat < ya
                  · rw [decide_eq_true hle, (show (if (some true : Option Bool) = some true then (8 : Int) else 0) = 8 by decide), if_neg (by decide)] at hck
                    have hckH := Lib.hid hck
                    clear hck
                    have hyH := Lib.hid hy
                    clear hy
                    have yrH := Lib.hid yr
                    clear yr
                    have hbwH := Lib.hid hbw
                    clear hbw
                    have hbw1H := Lib.hid hbw1
                    clear hbw1
                    go_wp2_with fail
                    go_quiet ((go_at_call 20; exact Calls.quiet_of_same (within_p _ _ _ _)))
                    go_wp2_with fail
                    go_quiet (fail)
                    go_wp2
                    go_ret
                    exact ⟨ret1_int hckH.out, by first | exact bel_drewN hbwH.out _ | exact bel_drewN (bel_drewN hbwH.out _) _⟩
                  · rw [decide_eq_false hle, (show (if (some false : Option Bool) = some true then (8 : Int) else 0) = 0 by decide), if_pos rfl] at hck
                    have hle2 : decide (aat < ya) = false := decide_eq_false hle
                    have R : ∀ nq, AuRel l m c w1 (.int .i64 (j + 1 + 1)) (w2.drewN nq) := by
                      refine fun nq => ⟨j + 1 + 1, hkl2H.out, by go_num, ?_, bel_drewN hbw1 nq⟩
                      rw [hpnH.out]
                      exact hck
                    clear hck
                    have hyH := Lib.hid hy
                    clear hy
                    have yrH := Lib.hid yr
                    clear yr
                    have RH := Lib.hid R
                    clear R
                    have hbwH := Lib.hid hbw
                    clear hbw
                    have hbw1H := Lib.hid hbw1
                    clear hbw1
                    go_wp2_with fail
                    go_quiet ((go_at_call 20; exact Calls.quiet_of_same (within_p _ _ _ _)))
                    go_wp2_with fail
                    go_quiet (fail)
                    go_wp2
                    refine ⟨?rel, ?measure⟩
                    case measure => (simp [intOf]; omega)
                    case rel => first | exact (RH.out _) | exact ⟨rfl, (RH.out _)⟩ | ((try refine ⟨rfl, ?_⟩); (repeat apply Exists.intro); refine ⟨(RH.out _), ?_⟩; ((repeat' apply And.intro) <;> rfl))
              · rw [if_neg i3, if_neg (by decide)] at hck
                have i3 : inR za 1000000000 aat = false := by simpa using i3
                have hckH := Lib.hid hck
                clear hck
                have hbwH := Lib.hid hbw
                clear hbw
                have hbw1H := Lib.hid hbw1
                clear hbw1
                go_wp2_with fail
                go_quiet ((go_at_call 20; exact Calls.quiet_of_same (within_p _ _ _ _)))
                go_wp2
                go_ret
                exact ⟨ret1_int hckH.out, bel_drewN hbwH.out _⟩
          · have hk2 : auditF l (prevA m k) ⟨number, result, aat⟩ = 9 := by unfold auditF; simp only; rw [hllH.out, if_neg i1]
            rw [hk2, if_neg (by decide)] at hck
            have i1 : inR 0 ((len : Int) - 1) number = false := by simpa using i1
            clear hk2
            have hckH := Lib.hid hck
            clear hck
            go_wp2_with (go_at_call 20; refine (within_p _ _ _ _).mono ?_; rintro e wz ⟨rfl, hwz⟩; rw [hwz]; clear hwz; clear wz)
            go_ret
            exact ⟨ret1_int hckH.out, hbaH.out⟩
        · have e : m.drop k = [] := List.drop_eq_nil_of_le (by have := hmlH.out; omega)
          rw [e] at hck
          have hc0 : 0 = c := by rw [← hck]; unfold auditsErr; rfl
          have hckH := Lib.hid hck
          clear hck
          have hbH := Lib.hid hb
          clear hb
          have hb1H := Lib.hid hb1
          clear hb1
          have eH := Lib.hid e
          clear e
          have hc0H := Lib.hid hc0
          clear hc0
          go_wp2
          go_ret
          exact ⟨ret1_int hc0H.out, hbH.out⟩
    · rw [hmlH.out, if_neg hm1000] at hF
      subst hF
      have hmd : decide ((mlen : Int) ≤ 1000) = false := decide_eq_false (by omega)
      have hclH := Lib.hid hcl
      clear hcl
      have h0H := Lib.hid h0
      clear h0
      go_enter Tryz.func10, Tryz.ntmps10
      go_wp2_with fail
      refine hclH.out.mono ?_
      rintro e w1 ⟨rfl, hw1⟩
      have hw1H := Lib.hid hw1
      clear hw1
      go_wp2_with fail
      go_ret
      exact ⟨rfl, hw1H.out⟩
  · rw [if_neg h0] at hF
    rw [hF] at hcl h0
    have hc1 : (c != 0) = true := by simpa using h0
    clear hF
    have hclH := Lib.hid hcl
    clear hcl
    have h0H := Lib.hid h0
    clear h0
    go_enter Tryz.func10, Tryz.ntmps10
    go_wp2_with fail
    refine hclH.out.mono ?_
    rintro e w1 ⟨rfl, hw1⟩
    have hw1H := Lib.hid hw1
    clear hw1
    go_wp2_with fail
    go_ret
    exact ⟨rfl, hw1H.out⟩
set_option maxHeartbeats 4000000 in
theorem raudits_any (A : Option Addr) (len cap : Nat) (l : List Claimed) (B : Option Addr) (mlen mcap : Nat) (m : List Audit) (w : World) (hm : MaxLenAt w) (hlb : LblOk l) (hl : SlAt RClaimed w A len l) (hma : SlAt RAudit w B mlen m) (c : Int) (hF : auditsF l m = c) :
    Calls Tryz.prog 11 #[.slice A len cap, .slice B mlen mcap] w fun e w' => e = .returned (.int .i64 c) ∧ Below w.heap.size w w' := by
  have hll := hl.1
  have hml := hma.1
  unfold auditsF at hF
  have hcl := rlog_any A len cap l w hm hlb hl _ rfl
  have hllH := Lib.hid hll
  clear hll
  have hlH := Lib.hid hl
  clear hl
  have hmH := Lib.hid hm
  clear hm
  have hmlH := Lib.hid hml
  clear hml
  have hmaH := Lib.hid hma
  clear hma
  by_cases h0 : logF l = 0
  · rw [if_pos h0] at hF
    rw [h0] at hcl
    have hl1000 : len ≤ 1000 := by have := (logF_zero h0).1; have := hllH.out; omega
    by_cases hm1000 : mlen ≤ 1000
    · rw [hmlH.out, if_pos hm1000] at hF
      have hFH := Lib.hid hF
      clear hF
      have hclH := Lib.hid hcl
      clear hcl
      have h0H := Lib.hid h0
      clear h0
      go_enter Tryz.func11, Tryz.ntmps11
      go_wp2_with fail
      refine hclH.out.mono ?_
      rintro e w1 ⟨rfl, hw1⟩
      have hw1H := Lib.hid hw1
      clear hw1
      go_wp2_with fail
      go_loopw [18] (fun i wr => AuRel l m c w1 i wr) (fun i _ => mlen - (intOf i).toNat)
      case atStart => exact ⟨0, Nat.zero_le _, rfl, hFH.out, Below.refl _ _⟩
      case round =>
        obtain ⟨k, hk, rfl, hck, hb1⟩ := hrel
        have hb := hw1H.out.trans (hb1.mono hw1H.out.size)
        have hkl : k ≤ mlen := by have := hmlH.out; omega
        have hbs := hb.size
        have hbs1 := hb1.size
        by_cases hlt : k < mlen
        · obtain ⟨b, off, hA, _⟩ := hmaH.out.2.1 (by omega)
          subst hA
          obtain ⟨x, hx⟩ : ∃ x, m[k]? = some x := ⟨m[k]'(by have := hmlH.out; omega), List.getElem?_eq_getElem _⟩
          obtain ⟨c0, c1, c2⟩ := cells_Audit (hmaH.out.below hb) hx
          obtain ⟨o0, o1, o2⟩ := hmaH.out.2.2 x (List.mem_of_getElem? hx)
          rw [drop_cons hx, auditsErr] at hck
          have hkl2 : k + 1 ≤ m.length := by have := hmlH.out; omega
          have hpn : prevA m (k + 1) = some x.at_ := by rw [prevA, if_neg (by omega), show k + 1 - 1 = k from rfl, hx]; rfl
          obtain ⟨number, result, aat⟩ := x
          simp only at c0 c1 c2 hck hpn o0 o1 o2
          have hba := hb.alloc hbs (.cells #[.int .i64 number, .string result, .int .i64 aat] 30)
          have hba1 := hb1.alloc hbs1 (.cells #[.int .i64 number, .string result, .int .i64 aat] 30)
          have hbas := hba.size
          obtain ⟨b2, hb2⟩ : ∃ b, digB result = b := ⟨_, rfl⟩
          have hlenI : IntKind.i64.wrap ((len : Int) - 1) = (len : Int) - 1 := IntWalk.i64_in _ (by omega)
          have o0 : I64 number := o0
          have o2 : I64 aat := o2
          have hxH := Lib.hid hx
          clear hx
          have hbH := Lib.hid hb
          clear hb
          have hb1H := Lib.hid hb1
          clear hb1
          have hbaH := Lib.hid hba
          clear hba
          have hba1H := Lib.hid hba1
          clear hba1
          have hbasH := Lib.hid hbas
          clear hbas
          have o0H := Lib.hid o0
          clear o0
          have o1H := Lib.hid o1
          clear o1
          have o2H := Lib.hid o2
          clear o2
          have hpnH := Lib.hid hpn
          clear hpn
          have hkl2H := Lib.hid hkl2
          clear hkl2
          have hb2H := Lib.hid hb2
          clear hb2
          by_cases i1 : inR 0 ((len : Int) - 1) number = true
          · have i1l : inR 0 ((l.length : Int) - 1) number = true := by rw [hllH.out]; exact i1
            obtain ⟨nn, rfl⟩ : ∃ nn : Nat, number = nn := ⟨number.toNat, by have := inR_true i1; omega⟩
            have hnn : nn < len := by have := inR_true i1; omega
            have hckH := Lib.hid hck
            clear hck
            go_wp2_with (go_at_call 25; refine (within_r _ _ _ _).mono ?_; rintro e wz ⟨rfl, hwz⟩; rw [hwz]; clear hwz; clear wz)
            refine (rdig_any result _ b2 hb2H.out).mono ?_
            rintro e w2 ⟨rfl, hw2⟩
            have q0 : w2.cell? ⟨wr.heap.size, 0, none⟩ = some (.int .i64 nn) := (hw2.cell (by simp)).trans (cell_new _ _ _ 0)
            have q2 : w2.cell? ⟨wr.heap.size, 2, none⟩ = some (.int .i64 aat) := (hw2.cell (by simp)).trans (cell_new _ _ _ 2)
            have hbw := hbaH.out.trans (hw2.mono hbasH.out)
            have hbw1 := hba1H.out.trans (hw2.mono hba1H.out.size)
            clear c0 c1 c2 hw2
            have hck := hckH.out
            clear hckH
            cases b2
            · have hk2 : auditF l (prevA m k) ⟨(nn : Int), result, aat⟩ = 3 := by unfold auditF; simp only; rw [if_pos i1l, hb2H.out]; rfl
              rw [hk2, if_neg (by decide)] at hck
              clear hk2 q0 q2
              have hckH := Lib.hid hck
              clear hck
              have hbwH := Lib.hid hbw
              clear hbw
              have hbw1H := Lib.hid hbw1
              clear hbw1
              go_wp2
              go_ret
              exact ⟨ret1_int hckH.out, hbwH.out⟩
            · obtain ⟨bl, offl, hAl, _⟩ := hlH.out.2.1 (by omega)
              subst hAl
              obtain ⟨z, hz⟩ : ∃ z, l[nn]? = some z := ⟨l[nn]'(by have := hllH.out; omega), List.getElem?_eq_getElem _⟩
              obtain ⟨_, _, _, _, d4, _, _⟩ := cells_Claimed (hlH.out.below hbw) hz
              have haz : atOf l (nn : Int) = z.at_ := by rw [atOf, show (nn : Int).toNat = nn from rfl, hz]
              obtain ⟨za, hza⟩ : ∃ za, z.at_ = za := ⟨_, rfl⟩
              rw [hza] at d4 haz
              have hau : auditF l (prevA m k) ⟨(nn : Int), result, aat⟩ = (if inR za 1000000000 aat = true then (if (prevA m k).map (fun q => decide (aat < q)) = some true then 8 else 0) else 1) := by
                unfold auditF; simp only; rw [if_pos i1l, hb2H.out, if_pos rfl, haz]
              rw [hau] at hck
              have hnI : (nn : Int) < (len : Int) := by omega
              clear hau haz
              have hzH := Lib.hid hz
              clear hz
              have hzaH := Lib.hid hza
              clear hza
              have i1lH := Lib.hid i1l
              clear i1l
              by_cases i3 : inR za 1000000000 aat = true
              · rw [if_pos i3] at hck
                by_cases hk0 : k = 0
                · subst hk0
                  rw [show prevA m 0 = none from rfl, Option.map_none, (show (if (none : Option Bool) = some true then (8 : Int) else 0) = 0 by decide), if_pos rfl] at hck
                  have R : ∀ nq, AuRel l m c w1 (.int .i64 1) (w2.drewN nq) := by
                    refine fun nq => ⟨1, hkl2H.out, by go_num, ?_, bel_drewN hbw1 nq⟩
                    rw [hpnH.out]
                    exact hck
                  clear hck
                  have RH := Lib.hid R
                  clear R
                  have hbwH := Lib.hid hbw
                  clear hbw
                  have hbw1H := Lib.hid hbw1
                  clear hbw1
                  go_wp2_with fail
                  go_quiet ((go_at_call 25; exact Calls.quiet_of_same (within_r _ _ _ _)))
                  go_wp2_with fail
                  go_quiet (fail)
                  go_wp2
                  refine ⟨?rel, ?measure⟩
                  case measure => (simp [intOf]; omega)
                  case rel => first | exact (RH.out _) | exact ⟨rfl, (RH.out _)⟩ | ((try refine ⟨rfl, ?_⟩); (repeat apply Exists.intro); refine ⟨(RH.out _), ?_⟩; ((repeat' apply And.intro) <;> rfl))
                · obtain ⟨j, rfl⟩ : ∃ j, k = j + 1 := ⟨k - 1, by omega⟩
                  obtain ⟨y, hy⟩ : ∃ y, m[j]? = some y := ⟨m[j]'(by have := hmlH.out; omega), List.getElem?_eq_getElem _⟩
                  obtain ⟨_, _, e2⟩ := cells_Audit (hmaH.out.below hbw) hy
                  have hpr : prevA m (j + 1) = some y.at_ := by rw [prevA, if_neg (by omega), show j + 1 - 1 = j from rfl, hy]; rfl
                  rw [hpr, Option.map_some] at hck
                  clear hpr
                  obtain ⟨ya, yr⟩ : ∃ ya, y.at_ = ya := ⟨_, rfl⟩
                  rw [yr] at e2 hck
                  by_cases hle : aat < ya
                  · rw [decide_eq_true hle, (show (if (some true : Option Bool) = some true then (8 : Int) else 0) = 8 by decide), if_neg (by decide)] at hck
                    have hckH := Lib.hid hck
                    clear hck
                    have hyH := Lib.hid hy
                    clear hy
                    have yrH := Lib.hid yr
                    clear yr
                    have hbwH := Lib.hid hbw
                    clear hbw
                    have hbw1H := Lib.hid hbw1
                    clear hbw1
                    go_wp2_with fail
                    go_quiet ((go_at_call 25; exact Calls.quiet_of_same (within_r _ _ _ _)))
                    go_wp2_with fail
                    go_quiet (fail)
                    go_wp2
                    go_ret
                    exact ⟨ret1_int hckH.out, by first | exact bel_drewN hbwH.out _ | exact bel_drewN (bel_drewN hbwH.out _) _⟩
                  · rw [decide_eq_false hle, (show (if (some false : Option Bool) = some true then (8 : Int) else 0) = 0 by decide), if_pos rfl] at hck
                    have hle2 : decide (aat < ya) = false := decide_eq_false hle
                    have R : ∀ nq, AuRel l m c w1 (.int .i64 (j + 1 + 1)) (w2.drewN nq) := by
                      refine fun nq => ⟨j + 1 + 1, hkl2H.out, by go_num, ?_, bel_drewN hbw1 nq⟩
                      rw [hpnH.out]
                      exact hck
                    clear hck
                    have hyH := Lib.hid hy
                    clear hy
                    have yrH := Lib.hid yr
                    clear yr
                    have RH := Lib.hid R
                    clear R
                    have hbwH := Lib.hid hbw
                    clear hbw
                    have hbw1H := Lib.hid hbw1
                    clear hbw1
                    go_wp2_with fail
                    go_quiet ((go_at_call 25; exact Calls.quiet_of_same (within_r _ _ _ _)))
                    go_wp2_with fail
                    go_quiet (fail)
                    go_wp2
                    refine ⟨?rel, ?measure⟩
                    case measure => (simp [intOf]; omega)
                    case rel => first | exact (RH.out _) | exact ⟨rfl, (RH.out _)⟩ | ((try refine ⟨rfl, ?_⟩); (repeat apply Exists.intro); refine ⟨(RH.out _), ?_⟩; ((repeat' apply And.intro) <;> rfl))
              · rw [if_neg i3, if_neg (by decide)] at hck
                have i3 : inR za 1000000000 aat = false := by simpa using i3
                have hckH := Lib.hid hck
                clear hck
                have hbwH := Lib.hid hbw
                clear hbw
                have hbw1H := Lib.hid hbw1
                clear hbw1
                go_wp2_with fail
                go_quiet ((go_at_call 25; exact Calls.quiet_of_same (within_r _ _ _ _)))
                go_wp2
                go_ret
                exact ⟨ret1_int hckH.out, bel_drewN hbwH.out _⟩
          · have hk2 : auditF l (prevA m k) ⟨number, result, aat⟩ = 9 := by unfold auditF; simp only; rw [hllH.out, if_neg i1]
            rw [hk2, if_neg (by decide)] at hck
            have i1 : inR 0 ((len : Int) - 1) number = false := by simpa using i1
            clear hk2
            have hckH := Lib.hid hck
            clear hck
            go_wp2_with (go_at_call 25; refine (within_r _ _ _ _).mono ?_; rintro e wz ⟨rfl, hwz⟩; rw [hwz]; clear hwz; clear wz)
            go_ret
            exact ⟨ret1_int hckH.out, hbaH.out⟩
        · have e : m.drop k = [] := List.drop_eq_nil_of_le (by have := hmlH.out; omega)
          rw [e] at hck
          have hc0 : 0 = c := by rw [← hck]; unfold auditsErr; rfl
          have hckH := Lib.hid hck
          clear hck
          have hbH := Lib.hid hb
          clear hb
          have hb1H := Lib.hid hb1
          clear hb1
          have eH := Lib.hid e
          clear e
          have hc0H := Lib.hid hc0
          clear hc0
          go_wp2
          go_ret
          exact ⟨ret1_int hc0H.out, hbH.out⟩
    · rw [hmlH.out, if_neg hm1000] at hF
      subst hF
      have hmd : decide ((mlen : Int) ≤ 1000) = false := decide_eq_false (by omega)
      have hclH := Lib.hid hcl
      clear hcl
      have h0H := Lib.hid h0
      clear h0
      go_enter Tryz.func11, Tryz.ntmps11
      go_wp2_with fail
      refine hclH.out.mono ?_
      rintro e w1 ⟨rfl, hw1⟩
      have hw1H := Lib.hid hw1
      clear hw1
      go_wp2_with fail
      go_ret
      exact ⟨rfl, hw1H.out⟩
  · rw [if_neg h0] at hF
    rw [hF] at hcl h0
    have hc1 : (c != 0) = true := by simpa using h0
    clear hF
    have hclH := Lib.hid hcl
    clear hcl
    have h0H := Lib.hid h0
    clear h0
    go_enter Tryz.func11, Tryz.ntmps11
    go_wp2_with fail
    refine hclH.out.mono ?_
    rintro e w1 ⟨rfl, hw1⟩
    have hw1H := Lib.hid hw1
    clear hw1
    go_wp2_with fail
    go_ret
    exact ⟨rfl, hw1H.out⟩
end Go.Proofs.YtgegdfmdcmgliaaGreatDoor.C11

namespace Go.Proofs.YtgegdfmdcmgliaaGreatDoor.C11
open Go.RowKit
set_option linter.unusedVariables false

structure FactsOk (l : List Claimed) (m : List Audit) (n b1 b2 b3 c3 : Nat) (W : World) : Prop where
  ra : BRow W b1 n (audB m)
  rw_ : BRow W b2 n (wrB l m)
  mp : TMap KS valS W b3 (setF (suB l m)) c3
  l1 : b1 < W.heap.size
  l2 : b2 < W.heap.size
  c3le : c3 ≤ 1000


theorem FactsOk.below {l : List Claimed} {m : List Audit} {n b1 b2 b3 c3 : Nat} {W W' : World} (h : FactsOk l m n b1 b2 b3 c3 W) {K : Nat} (hb : Below K W W') (hK : W.heap.size ≤ K) : FactsOk l m n b1 b2 b3 c3 W' := by
  have h3 := h.mp.lt
  have h1 := h.l1
  have h2 := h.l2
  have hs := hb.size
  exact ⟨h.ra.below hb (by omega), h.rw_.below hb (by omega), h.mp.below hb (by omega), by omega, by omega, h.c3le⟩
theorem cell_of_heap {W : World} {b j : Nat} {cs : Array Value} {T : TypeId} (h : W.heap[b]? = some (.cells cs T)) : W.cell? ⟨b, j, none⟩ = cs[j]? := by simp [World.cell?, h]
theorem frozen_of_heap {W : World} {b j : Nat} {cs : Array Value} {T : TypeId} (h : W.heap[b]? = some (.cells cs T)) : W.frozen? ⟨b, j, none⟩ = false := by simp [World.frozen?, h]
theorem brow_of_heap {W : World} {b n : Nat} (h : W.heap[b]? = some (.cells (madeB n) 4)) : BRow W b n (fun _ => false) := fun j hj => ⟨(cell_of_heap h).trans (madeB_get n j hj), frozen_of_heap h⟩
theorem tmap_of_heap {k : TypeId} {κ α : Type} (K : KD Tryz.prog k κ) (val : α → Value) {W : World} {b : Nat} (h : W.heap[b]? = some (.map #[] 0)) : TMap K val W b (fun _ => none) 0 := by
  obtain ⟨D, ⟨es, clock, he, r⟩, r2⟩ := TMap.made W K val
  have e : (W.alloc (.map #[] 0)).heap[W.heap.size]? = some (.map #[] 0) := (MapKept.heap_alloc W _).1
  rw [e] at he
  injection he with he
  injection he with h1 h2
  subst h1 h2
  exact ⟨D, ⟨_, _, h, r⟩, r2⟩
theorem chain4 (w1 : World) (o1 o2 o3 o4 : Obj) (K : Nat) (hK : w1.heap.size = K) :
    ((((w1.alloc o1).alloc o2).alloc o3).alloc o4).drew.heap[K]? = some o1 ∧ ((((w1.alloc o1).alloc o2).alloc o3).alloc o4).drew.heap[K + 1]? = some o2 ∧
    ((((w1.alloc o1).alloc o2).alloc o3).alloc o4).drew.heap[K + 1 + 1]? = some o3 ∧ ((((w1.alloc o1).alloc o2).alloc o3).alloc o4).drew.heap[K + 1 + 1 + 1]? = some o4 ∧
    ((((w1.alloc o1).alloc o2).alloc o3).alloc o4).drew.heap.size = K + 4 ∧ Below K w1 ((((w1.alloc o1).alloc o2).alloc o3).alloc o4).drew := by
  subst hK
  have hb : Below w1.heap.size w1 ((((w1.alloc o1).alloc o2).alloc o3).alloc o4) := by
    refine ((((Below.refl _ _).alloc ?_ _).alloc ?_ _).alloc ?_ _).alloc ?_ _ <;> simp <;> omega
  obtain ⟨a1, p1⟩ := MapKept.heap_alloc w1 o1
  obtain ⟨a2, p2⟩ := MapKept.heap_alloc (w1.alloc o1) o2
  obtain ⟨a3, p3⟩ := MapKept.heap_alloc ((w1.alloc o1).alloc o2) o3
  obtain ⟨a4, p4⟩ := MapKept.heap_alloc (((w1.alloc o1).alloc o2).alloc o3) o4
  simp only [World.size_alloc] at a2 p2 a3 p3 a4 p4
  refine ⟨?_, ?_, ?_, a4, ?_, hb.drew⟩
  · exact (p4 _ (by omega)).trans ((p3 _ (by omega)).trans ((p2 _ (by omega)).trans a1))
  · exact (p4 _ (by omega)).trans ((p3 _ (by omega)).trans a2)
  · exact (p4 _ (by omega)).trans a3
  · show ((((w1.alloc o1).alloc o2).alloc o3).alloc o4).heap.size = _
    simp only [World.size_alloc]

structure FSt (w0 : World) (n b1 b2 b3 b5 : Nat) (fa fw : Nat → Bool) (fs : ByteArray → Option Bool) (cnt : Nat) (wr : World) : Prop where
  ra : BRow wr b1 n fa
  rw_ : BRow wr b2 n fw
  mp : TMap KS valS wr b3 fs cnt
  d0 : wr.cell? ⟨b5, 0, none⟩ = some (.slice (some ⟨b1, 0, none⟩) n n)
  d1 : wr.cell? ⟨b5, 1, none⟩ = some (.slice (some ⟨b2, 0, none⟩) n n)
  d2 : wr.cell? ⟨b5, 2, none⟩ = some (.map (some b3))
  bel : Below (w0.heap.size + 1) (w0.alloc (.cells #[.slice none 0 0, .slice none 0 0, .map none] 47)) wr
  l1 : b1 < wr.heap.size
  l2 : b2 < wr.heap.size
  l5 : b5 < wr.heap.size
  sz : w0.heap.size + 1 ≤ wr.heap.size
structure FNe (k0 b1 b2 b3 b5 : Nat) : Prop where
  n12 : b1 ≠ b2
  n13 : b1 ≠ b3
  n15 : b1 ≠ b5
  n23 : b2 ≠ b3
  n25 : b2 ≠ b5
  n35 : b3 ≠ b5
  g1 : k0 < b1
  g2 : k0 < b2
  g3 : k0 < b3
  g5 : k0 < b5
theorem FSt.below {w0 : World} {n b1 b2 b3 b5 : Nat} {fa fw : Nat → Bool} {fs : ByteArray → Option Bool} {cnt : Nat} {wr w' : World} (h : FSt w0 n b1 b2 b3 b5 fa fw fs cnt wr) (hb : Below wr.heap.size wr w') : FSt w0 n b1 b2 b3 b5 fa fw fs cnt w' := by
  have h1 := h.l1
  have h2 := h.l2
  have h5 := h.l5
  have hs := hb.size
  have hz := h.sz
  exact ⟨h.ra.below hb h1, h.rw_.below hb h2, h.mp.below hb h.mp.lt, (hb.cell (p := ⟨b5, 0, none⟩) h5).trans h.d0, (hb.cell (p := ⟨b5, 1, none⟩) h5).trans h.d1, (hb.cell (p := ⟨b5, 2, none⟩) h5).trans h.d2, h.bel.trans (hb.mono (by omega)), by omega, by omega, by omega, by omega⟩
theorem FSt.putA {w0 : World} {n b1 b2 b3 b5 : Nat} {fa fw fa' : Nat → Bool} {fs : ByteArray → Option Bool} {cnt : Nat} {wr w' : World} (h : FSt w0 n b1 b2 b3 b5 fa fw fs cnt wr) (e : FNe w0.heap.size b1 b2 b3 b5) (hr : BRow w' b1 n fa') (hg : wr.grownBy w' (some b1)) : FSt w0 n b1 b2 b3 b5 fa' fw fs cnt w' := by
  obtain ⟨n12, n13, n15, n23, n25, n35, g1, g2, g3, g5⟩ := e
  have h1 := h.l1
  have h2 := h.l2
  have h5 := h.l5
  have hs := hg.size
  have hz := h.sz
  exact ⟨hr, h.rw_.kept hg (by simp; omega), h.mp.kept hg (by simp; omega), hg.cell h.d0 (by simp; omega), hg.cell h.d1 (by simp; omega), hg.cell h.d2 (by simp; omega), h.bel.trans (grown_below hg (by omega) (by omega)), by omega, by omega, by omega, by omega⟩
theorem FSt.putW {w0 : World} {n b1 b2 b3 b5 : Nat} {fa fw fw' : Nat → Bool} {fs : ByteArray → Option Bool} {cnt : Nat} {wr w' : World} (h : FSt w0 n b1 b2 b3 b5 fa fw fs cnt wr) (e : FNe w0.heap.size b1 b2 b3 b5) (hr : BRow w' b2 n fw') (hg : wr.grownBy w' (some b2)) : FSt w0 n b1 b2 b3 b5 fa fw' fs cnt w' := by
  obtain ⟨n12, n13, n15, n23, n25, n35, g1, g2, g3, g5⟩ := e
  have h1 := h.l1
  have h2 := h.l2
  have h5 := h.l5
  have hs := hg.size
  have hz := h.sz
  exact ⟨h.ra.kept hg (by simp; omega), hr, h.mp.kept hg (by simp; omega), hg.cell h.d0 (by simp; omega), hg.cell h.d1 (by simp; omega), hg.cell h.d2 (by simp; omega), h.bel.trans (grown_below hg (by omega) (by omega)), by omega, by omega, by omega, by omega⟩
theorem FSt.putM {w0 : World} {n b1 b2 b3 b5 : Nat} {fa fw : Nat → Bool} {fs fs' : ByteArray → Option Bool} {cnt cnt' : Nat} {wr w' : World} (h : FSt w0 n b1 b2 b3 b5 fa fw fs cnt wr) (e : FNe w0.heap.size b1 b2 b3 b5) (hr : TMap KS valS w' b3 fs' cnt') (hg : wr.grownBy w' (some b3)) : FSt w0 n b1 b2 b3 b5 fa fw fs' cnt' w' := by
  obtain ⟨n12, n13, n15, n23, n25, n35, g1, g2, g3, g5⟩ := e
  have h1 := h.l1
  have h2 := h.l2
  have h5 := h.l5
  have hs := hg.size
  have hz := h.sz
  exact ⟨h.ra.kept hg (by simp; omega), h.rw_.kept hg (by simp; omega), hr, hg.cell h.d0 (by simp; omega), hg.cell h.d1 (by simp; omega), hg.cell h.d2 (by simp; omega), h.bel.trans (grown_below hg (by omega) (by omega)), by omega, by omega, by omega, by omega⟩

def FRel (l : List Claimed) (m : List Audit) (n b1 b2 b3 b5 : Nat) (w0 : World) (i : Value) (wr : World) : Prop :=
  ∃ k cnt : Nat, k ≤ m.length ∧ i = .int .i64 k ∧ FSt w0 n b1 b2 b3 b5 (audB (m.take k)) (wrB l (m.take k)) (setF (suB l (m.take k))) cnt wr ∧ cnt ≤ k

theorem three_setF {w : World} {b : Nat} {u0 u1 u2 : Value} (v0 v1 v2 : Value) (h0 : w.cell? ⟨b, 0, none⟩ = some u0) (h1 : w.cell? ⟨b, 1, none⟩ = some u1) (h2 : w.cell? ⟨b, 2, none⟩ = some u2) :
    (((w.setCell ⟨b, 0, none⟩ v0).setCell ⟨b, 1, none⟩ v1).setCell ⟨b, 2, none⟩ v2).cell? ⟨b, 0, none⟩ = some v0 ∧
    (((w.setCell ⟨b, 0, none⟩ v0).setCell ⟨b, 1, none⟩ v1).setCell ⟨b, 2, none⟩ v2).cell? ⟨b, 1, none⟩ = some v1 ∧
    (((w.setCell ⟨b, 0, none⟩ v0).setCell ⟨b, 1, none⟩ v1).setCell ⟨b, 2, none⟩ v2).cell? ⟨b, 2, none⟩ = some v2 := by
  have o : ∀ (W : World) (i j : Nat) (v : Value), i ≠ j → (W.setCell ⟨b, i, none⟩ v).cell? ⟨b, j, none⟩ = W.cell? ⟨b, j, none⟩ := fun W i j v hij => World.cell?_setCell_other _ _ _ _ (by simp)
  have s : ∀ (W : World) (i : Nat) (v u : Value), W.cell? ⟨b, i, none⟩ = some u → (W.setCell ⟨b, i, none⟩ v).cell? ⟨b, i, none⟩ = some v := fun W i v u hu => World.cell?_setCell_same' _ _ _ (by rw [hu]; rfl)
  refine ⟨?_, ?_, ?_⟩
  · rw [o _ 2 0 _ (by omega), o _ 1 0 _ (by omega)]; exact s _ 0 _ u0 h0
  · rw [o _ 2 1 _ (by omega)]; exact s _ 1 _ u1 (by rw [o _ 0 1 _ (by omega)]; exact h1)
  · exact s _ 2 _ u2 (by rw [o _ 1 2 _ (by omega), o _ 0 2 _ (by omega)]; exact h2)
theorem res3F {w wr : World} {v0 v1 v2 : Value} {T : TypeId} (hb : Below (w.alloc (.cells #[v0, v1, v2] T)).heap.size (w.alloc (.cells #[v0, v1, v2] T)) wr) :
    wr.cell? ⟨w.heap.size, 0, none⟩ = some v0 ∧ wr.cell? ⟨w.heap.size, 1, none⟩ = some v1 ∧ wr.cell? ⟨w.heap.size, 2, none⟩ = some v2 ∧
    wr.frozen? ⟨w.heap.size, 0, none⟩ = false ∧ wr.frozen? ⟨w.heap.size, 1, none⟩ = false ∧ wr.frozen? ⟨w.heap.size, 2, none⟩ = false := by
  have hf : ∀ j, wr.frozen? ⟨w.heap.size, j, none⟩ = false := fun j => (hb.frozen (by simp)).trans (by simp only [World.frozen?, (MapKept.heap_alloc w (.cells #[v0, v1, v2] T)).1]; simp)
  exact ⟨(hb.cell (by simp)).trans (by simp [go_sem]), (hb.cell (by simp)).trans (by simp [go_sem]), (hb.cell (by simp)).trans (by simp [go_sem]), hf 0, hf 1, hf 2⟩

set_option maxRecDepth 100000 in
set_option maxHeartbeats 8000000 in
theorem facts_any (A : Option Addr) (n c : Nat) (l : List Claimed) (B : Option Addr) (mn mc : Nat) (m : List Audit) (w : World) (hn : n ≤ 1000) (hmn : mn ≤ 1000) (hl : SlAt RClaimed w A n l) (hma : SlAt RAudit w B mn m) (hr : ∀ a ∈ m, 0 ≤ a.number ∧ a.number < n) :
    Calls Tryz.prog 21 #[.slice A n c, .slice B mn mc] w fun e w' =>
      ∃ b1 b2 b3 c3, e = .returned (.agg #[.slice (some ⟨b1, 0, none⟩) n n, .slice (some ⟨b2, 0, none⟩) n n, .map (some b3)]) ∧ FactsOk l m n b1 b2 b3 c3 w' ∧ Below w.heap.size w w' := by
  have hll := hl.1
  have hml := hma.1
  have hmk := @run_makeMap Tryz.prog
  have hmkB := run_makeB n (by omega)
  have hlH := Lib.hid hl
  clear hl
  have hllH := Lib.hid hll
  clear hll
  have hmaH := Lib.hid hma
  clear hma
  have hmlH := Lib.hid hml
  clear hml
  have hrH := Lib.hid hr
  clear hr
  go_enter Tryz.func21, Tryz.ntmps21
  go_wp2_with fail
  rename_i Q' KK hKK
  have key : ∀ (b1 b2 b3 b5 : Nat) (W : World), FSt w n b1 b2 b3 b5 (fun _ => false) (fun _ => false) (fun _ => none) 0 W → FNe w.heap.size b1 b2 b3 b5 →
      Exit.then KK Q' Exit.normal { tmps := #[Value.slice A n c, Value.slice B mn mc, undef, undef, Value.pointer (some { block := w.heap.size, off := 0 }), Value.pointer (some { block := b5, off := 0 }), undef, undef, Value.slice A n c, Value.int IntKind.i64 ↑n, Value.slice (some { block := b1, off := 0 }) n n, Value.slice A n c,
          Value.int IntKind.i64 ↑n, Value.slice (some { block := b2, off := 0 }) n n, Value.map (some b3), Value.agg #[Value.slice (some { block := b1, off := 0 }) n n, Value.slice (some { block := b2, off := 0 }) n n, Value.map (some b3)],
          undef, undef, undef, undef, undef, undef, undef, undef, undef, undef, undef, undef, undef, undef, undef, undef, undef, undef, undef, undef, undef, undef, undef, undef, undef, undef, undef, undef, undef, undef, undef, undef, undef, undef, undef], defers := [] } W := by
    intro b1 b2 b3 b5 W hst hne
    have hstH := Lib.hid hst
    clear hst
    have hneH := Lib.hid hne
    clear hne
    clear hmk hmkB
    go_wp2_with fail
    go_loopw [18] (fun i wr => FRel l m n b1 b2 b3 b5 w i wr) (fun i _ => mn - (intOf i).toNat)
    case atStart => exact ⟨0, 0, Nat.zero_le _, rfl, hstH.out, Nat.le_refl _⟩
    case round =>
      obtain ⟨k, cnt, hk, rfl, hst, hcnt⟩ := hrel
      have hkl : k ≤ mn := by have := hmlH.out; omega
      by_cases hlt : k < mn
      · obtain ⟨b, off, hB, _⟩ := hmaH.out.2.1 (by omega)
        subst hB
        obtain ⟨x, hx⟩ : ∃ x, m[k]? = some x := ⟨m[k]'(by have := hmlH.out; omega), List.getElem?_eq_getElem _⟩
        obtain ⟨hn0, hn1⟩ := hrH.out x (List.mem_of_getElem? hx)
        obtain ⟨number, result, aat⟩ := x
        simp only at hn0 hn1
        obtain ⟨nn, rfl⟩ : ∃ nn : Nat, number = nn := ⟨number.toNat, by omega⟩
        have hnn : nn < n := by omega
        have hkl2 : k + 1 ≤ m.length := by have := hmlH.out; omega
        have htk : m.take (k + 1) = m.take k ++ [⟨nn, result, aat⟩] := by rw [List.take_add_one, hx]; rfl
        have hb0 : Below w.heap.size w wr := ((Below.refl w.heap.size w).alloc (Nat.le_refl _) _).trans (hst.bel.mono (by omega))
        obtain ⟨c0, c1, c2⟩ := cells_Audit (hmaH.out.below hb0) hx
        have hstA := hst.below ((Below.refl wr.heap.size wr).alloc (Nat.le_refl _) (.cells #[.int .i64 nn, .string result, .int .i64 aat] 30))
        obtain ⟨g1, z1⟩ := hstA.ra nn hnn
        have d0 := hstA.d0
        have hgA := grown_setc wr ⟨b1, nn, none⟩ (.bool true)
        have hst2 := (hst.putA hneH.out (hst.ra.set (k := nn) true) hgA).below ((Below.refl _ _).alloc (Nat.le_refl _) (.cells #[.int .i64 nn, .string result, .int .i64 aat] 30))
        have hl1 := hst.l1
        have hl2 := hst.l2
        obtain ⟨W2, hW2⟩ : ∃ W, W = (wr.setCell ⟨b1, nn, none⟩ (.bool true)).alloc (.cells #[.int .i64 nn, .string result, .int .i64 aat] 30) := ⟨_, rfl⟩
        have q0 : W2.cell? ⟨wr.heap.size, 0, none⟩ = some (.int .i64 nn) := by
          have := cell_new (wr.setCell ⟨b1, nn, none⟩ (.bool true)) #[.int .i64 nn, .string result, .int .i64 aat] 30 0
          rw [hW2]; simpa using this
        have q1 : W2.cell? ⟨wr.heap.size, 1, none⟩ = some (.string result) := by
          have := cell_new (wr.setCell ⟨b1, nn, none⟩ (.bool true)) #[.int .i64 nn, .string result, .int .i64 aat] 30 1
          rw [hW2]; simpa using this
        rw [← hW2] at hst2
        clear hgA
        have hb2 : Below w.heap.size w W2 := ((Below.refl w.heap.size w).alloc (Nat.le_refl _) _).trans (hst2.bel.mono (by omega))
        obtain ⟨bl, offl, hAl, _⟩ := hlH.out.2.1 (by omega)
        subst hAl
        obtain ⟨z, hz⟩ : ∃ z, l[nn]? = some z := ⟨l[nn]'(by have := hllH.out; omega), List.getElem?_eq_getElem _⟩
        obtain ⟨_, _, e2, e3, _, _, _⟩ := cells_Claimed (hlH.out.below hb2) hz
        have hwz : z.writer.size ≤ maxLen := (hlH.out.2.2 z (List.mem_of_getElem? hz)).2.2.2.1
        have hbadE : badA l ⟨nn, result, aat⟩ = !decide (result = z.result) := by unfold badA; simp only; rw [resOf_get hz]
        have hwrE := wriOf_get hz
        have hnI : (nn : Int) < (n : Int) := by omega
        have had := audB_snoc (m.take k) nn result aat
        have hwd := wrB_snoc l (m.take k) nn result aat
        have hsd := suB_snoc l (m.take k) ⟨nn, result, aat⟩
        rw [← htk] at had hwd hsd
        simp only at hsd
        rw [hwrE] at hsd
        clear hn0 hn1 htk
        have hxH := Lib.hid hx
        clear hx
        have hstH := Lib.hid hst
        clear hst
        have hstAH := Lib.hid hstA
        clear hstA
        have hst2H := Lib.hid hst2
        clear hst2
        have hb0H := Lib.hid hb0
        clear hb0
        have hb2H := Lib.hid hb2
        clear hb2
        have hzH := Lib.hid hz
        clear hz
        have hwzH := Lib.hid hwz
        clear hwz
        have hkl2H := Lib.hid hkl2
        clear hkl2
        have hadH := Lib.hid had
        clear had
        have hwdH := Lib.hid hwd
        clear hwd
        have hsdH := Lib.hid hsd
        clear hsd
        go_wp2_with fail
        rw [← hW2]
        clear c0 c1 c2 g1 z1 d0 hW2
        by_cases hbad : result = z.result
        · have hres : (result.toList == z.result.toList) = true := by rw [beq_data, decide_eq_true hbad]
          rw [decide_eq_true hbad] at hbadE
          have hbadE : badA l ⟨nn, result, aat⟩ = false := hbadE
          have hbadH := Lib.hid hbad
          clear hbad
          have hbadEH := Lib.hid hbadE
          clear hbadE
          go_quiet (fail)
          have R : FRel l m n b1 b2 b3 b5 w (.int .i64 (k + 1)) (W2.drewN nq) := by
            refine ⟨k + 1, cnt, hkl2H.out, by go_num, ?_, by omega⟩
            rw [hadH.out, hwdH.out, hsdH.out, if_neg (by rw [hbadEH.out]; decide), if_neg (by rw [hbadEH.out]; decide)]
            exact hst2H.out.below (bel_drewN (Below.refl _ _) _)
          have RH := Lib.hid R
          clear R
          go_wp2
          refine ⟨?rel, ?measure⟩
          case measure => (simp [intOf]; omega)
          case rel => first | exact RH.out | exact ⟨rfl, RH.out⟩ | ((try refine ⟨rfl, ?_⟩); (repeat apply Exists.intro); refine ⟨RH.out, ?_⟩; ((repeat' apply And.intro) <;> rfl))
        · have hres : (result.toList == z.result.toList) = false := by rw [beq_data, decide_eq_false hbad]
          rw [decide_eq_false hbad] at hbadE
          have hbadE : badA l ⟨nn, result, aat⟩ = true := hbadE
          have hbadH := Lib.hid hbad
          clear hbad
          have hbadEH := Lib.hid hbadE
          clear hbadE
          go_quiet (fail)
          have hst3 := hst2H.out.below (bel_drewN (Below.refl W2.heap.size W2) nq)
          have q0 : (W2.drewN nq).cell? ⟨wr.heap.size, 0, none⟩ = some (.int .i64 nn) := q0
          have e3 : (W2.drewN nq).cell? ⟨bl, offl + nn * 7 + 3, none⟩ = some (.string z.writer) := e3
          obtain ⟨W3, hW3⟩ : ∃ W, W = W2.drewN nq := ⟨_, rfl⟩
          rw [← hW3] at hst3 q0 e3 ⊢
          obtain ⟨g2, z2⟩ := hst3.rw_ nn hnn
          have d1 := hst3.d1
          have d2 := hst3.d2
          have hgW := grown_setc W3 ⟨b2, nn, none⟩ (.bool true)
          have hst4 := hst3.putW hneH.out (hst3.rw_.set (k := nn) true) hgW
          have hbl : bl < w.heap.size := by
            obtain ⟨a0, _⟩ := cells_Claimed hlH.out hzH.out
            exact cell?_lt a0
          have hg2 := hneH.out.g2
          have q0' : (W3.setCell ⟨b2, nn, none⟩ (.bool true)).cell? ⟨wr.heap.size, 0, none⟩ = some (.int .i64 nn) := hgW.cell q0 (by simp; omega)
          have e3' : (W3.setCell ⟨b2, nn, none⟩ (.bool true)).cell? ⟨bl, offl + nn * 7 + 3, none⟩ = some (.string z.writer) := hgW.cell e3 (by simp; omega)
          have d2' := hst4.d2
          obtain ⟨W5, hupd, hm5, hg5⟩ := (hst4.mp.below (Below.refl _ _).drew hst4.mp.lt).store Tryz.underlying45 injS (by simp only [maxLen]; omega) (x := z.writer) hwzH.out true
          replace hupd : (Instr.mapUpdate 45 (.map (some b3)) (.string z.writer) (.bool true)).run Tryz.prog (W3.setCell ⟨b2, nn, none⟩ (.bool true)).drew = .ok () W5 := hupd
          have hst5 := (hst4.below (Below.refl _ _).drew).putM hneH.out hm5 hg5.grown
          have R : FRel l m n b1 b2 b3 b5 w (.int .i64 (k + 1)) W5 := by
            refine ⟨k + 1, _, hkl2H.out, by go_num, ?_, Nat.le_trans (ite_le_succ ((setF (suB l (List.take k m)) z.writer).isSome = true) cnt) (by omega)⟩
            rw [hadH.out, hwdH.out, hsdH.out, if_pos hbadEH.out, if_pos hbadEH.out, ← setF_upd]
            exact hst5
          clear hst5 hm5 hg5 hgW hst4 hst3 hW3
          have RH := Lib.hid R
          clear R
          go_wp2_with fail
          go_region
          go_wp2
          refine ⟨?rel, ?measure⟩
          case measure => (simp [intOf]; omega)
          case rel => first | exact RH.out | exact ⟨rfl, RH.out⟩ | ((try refine ⟨rfl, ?_⟩); (repeat apply Exists.intro); refine ⟨RH.out, ?_⟩; ((repeat' apply And.intro) <;> rfl))
      · have e : m.take k = m := List.take_of_length_le (by have := hmlH.out; omega)
        rw [e] at hst
        obtain ⟨r0, r1, r2, f0, f1, f2⟩ := res3F (wr := wr) (by rw [World.size_alloc]; exact hst.bel)
        obtain ⟨t0, t1, t2⟩ := three_setF (.slice (some ⟨b1, 0, none⟩) n n) (.slice (some ⟨b2, 0, none⟩) n n) (.map (some b3)) r0 r1 r2
        have d0 := hst.d0
        have d1 := hst.d1
        have d2 := hst.d2
        have hb0 : Below w.heap.size w wr := ((Below.refl w.heap.size w).alloc (Nat.le_refl _) _).trans (hst.bel.mono (by omega))
        have hstH := Lib.hid hst
        clear hst
        have hb0H := Lib.hid hb0
        clear hb0
        have eH := Lib.hid e
        clear e
        go_wp2
        refine bodyPost_ret (v := .agg #[.slice (some ⟨b1, 0, none⟩) n n, .slice (some ⟨b2, 0, none⟩) n n, .map (some b3)]) (by simp [results, Tryz.results21, go_sem, t0, t1, t2]) rfl ⟨b1, b2, b3, cnt, rfl, ?_, ((hb0H.out.setCell (Nat.le_refl _) _).setCell (Nat.le_refl _) _).setCell (Nat.le_refl _) _⟩
        have hs := hstH.out
        obtain ⟨n12, n13, n15, n23, n25, n35, g1, g2, g3, g5⟩ := hneH.out
        have hg : ∀ (W : World) (j : Nat) (v : Value), W.grownBy (W.setCell ⟨w.heap.size, j, none⟩ v) (some w.heap.size) := fun W j v => grown_setc W ⟨w.heap.size, j, none⟩ v
        have k1 := hs.l1
        have k2 := hs.l2
        refine ⟨((hs.ra.kept (hg _ _ _) (by simp; omega)).kept (hg _ _ _) (by simp; omega)).kept (hg _ _ _) (by simp; omega), ((hs.rw_.kept (hg _ _ _) (by simp; omega)).kept (hg _ _ _) (by simp; omega)).kept (hg _ _ _) (by simp; omega), ((hs.mp.kept (hg _ _ _) (by simp; omega)).kept (hg _ _ _) (by simp; omega)).kept (hg _ _ _) (by simp; omega), by simp; omega, by simp; omega, by omega⟩
  go_region
  all_goals
    refine key _ _ _ _ _ ?_ ?_
    · obtain ⟨k1, k2, k3, k4, k5, k6⟩ := chain4 (w.alloc (.cells #[.slice none 0 0, .slice none 0 0, .map none] 47)) _ _ _ _ (w.heap.size + 1) (by simp)
      refine ⟨brow_of_heap (by assumption), brow_of_heap (by assumption), tmap_of_heap KS valS (by assumption), ?_, ?_, ?_, k6, ?_, ?_, ?_, ?_⟩
      · first | exact (cell_of_heap k1) | exact (cell_of_heap k2) | exact (cell_of_heap k3) | exact (cell_of_heap k4)
      · first | exact (cell_of_heap k1) | exact (cell_of_heap k2) | exact (cell_of_heap k3) | exact (cell_of_heap k4)
      · first | exact (cell_of_heap k1) | exact (cell_of_heap k2) | exact (cell_of_heap k3) | exact (cell_of_heap k4)
      all_goals omega
    · constructor <;> omega
end Go.Proofs.YtgegdfmdcmgliaaGreatDoor.C11

namespace Go.Proofs.YtgegdfmdcmgliaaGreatDoor.C11
open Go.RowKit
set_option linter.unusedVariables false

theorem elem_IntT : Elem Tryz.prog 3 RInt.size 8 := elem_of (z := .int .i64 0) (by kernel_rfl) (by decide)
def NumRel (f : Nat → Bool) (n : Nat) (w0 : World) (v i : Value) (wr : World) : Prop :=
  ∃ (k n' cap : Nat) (A : Option Addr), k ≤ n ∧ i = .int .i64 k ∧ v = .slice A n' cap ∧ Own RInt 3 wr w0.heap.size v (numsN f k) ∧ Below w0.heap.size w0 wr

set_option maxHeartbeats 1000000 in
theorem numbers_any (b n c : Nat) (f : Nat → Bool) (w : World) (hn : n ≤ 1000) (hr : BRow w b n f) :
    Calls Tryz.prog 23 #[.slice (some ⟨b, 0, none⟩) n c] w fun e w' => ∃ A k cap, e = .returned (.slice A k cap) ∧ Own RInt 3 w' w.heap.size (.slice A k cap) (numsN f n) ∧ k ≤ n ∧ Below w.heap.size w w' := by
  have hI : ∀ (W : World) (k : Nat), k ≤ 1000 → RInt.ok W (k : Int) := fun W k hk => ⟨by omega, by omega⟩
  have hrH := Lib.hid hr
  clear hr
  have hIH := Lib.hid hI
  clear hI
  go_enter Tryz.func23, Tryz.ntmps23
  go_wp2_with fail
  go_loopw [3, 8] (fun v i wr => NumRel f n w v i wr) (fun _ i _ => n - (intOf i).toNat)
  case atStart => exact ⟨0, 0, 0, none, Nat.zero_le _, rfl, rfl, Own.nil _ _, Below.refl _ _⟩
  case round =>
    obtain ⟨k, n', cap, A, hk, rfl, rfl, hown, hb⟩ := hrel
    have hbs := hb.size
    have hn' := hown.len
    have hnk := numsN_len f k
    rw [hn'] at hnk
    by_cases hlt : k < n
    · obtain ⟨d0, _⟩ := (hrH.out.keep (w' := wr) fun h => hb.block b h) k hlt
      have hat : numsN f (k + 1) = numsN f k ++ (if f k = true then [(k : Int)] else []) := rfl
      have hok := hIH.out wr k (by omega)
      have hownH := Lib.hid hown
      clear hown
      have hbH := Lib.hid hb
      clear hb
      have hn'H := Lib.hid hn'
      clear hn'
      have hokH := Lib.hid hok
      clear hok
      cases hf : f k
      · rw [hf] at d0 hat
        rw [if_neg (by decide), List.append_nil] at hat
        have R : NumRel f n w (.slice A n' cap) (.int .i64 (k + 1)) wr := ⟨k + 1, n', cap, A, hlt, by go_num, rfl, by rw [hat]; exact hownH.out, hbH.out⟩
        clear hat
        have RH := Lib.hid R
        clear R
        have hfH := Lib.hid hf
        clear hf
        go_wp2
        refine ⟨?rel, ?measure⟩
        case measure => (simp [intOf]; omega)
        case rel => first | exact RH.out | exact ⟨rfl, RH.out⟩ | ((try refine ⟨rfl, ?_⟩); (repeat apply Exists.intro); refine ⟨RH.out, ?_⟩; ((repeat' apply And.intro) <;> rfl))
      · rw [hf] at d0 hat
        rw [if_pos rfl] at hat
        have hatH := Lib.hid hat
        clear hat
        have hfH := Lib.hid hf
        clear hf
        go_wp2_with (at_builtin; go_loud (refine wpList_app rfl (.tmp 14) (.tmp 16) 24 rfl Tryz.underlying24 elem_IntT (by decide) rfl (hownH.out.alloc _) (some ⟨wr.heap.size, 0, none⟩) 1 1 [(k : Int)] rfl (slAt_new _ _ _ hokH.out) ?nn ?ok ?c1 ?c2 ?c3 (n' + 1) ?c4 ?_))
        case nn => intro h; cases h
        case ok => exact fun _ _ _ _ h => h
        case c1 => have := hn'H.out; simp [maxLen] <;> omega
        case c2 => have := hn'H.out; omega
        case c3 => simp <;> omega
        case c4 => have := hn'H.out; omega
        intro A' c' w7 hown7 hg7 hat7 hb7
        have R : NumRel f n w (.slice A' (n' + 1) c') (.int .i64 (k + 1)) w7 := by
          refine ⟨k + 1, n' + 1, c', A', hlt, by go_num, rfl, ?_, (hbH.out.alloc hbs _).trans hb7⟩
          rw [hatH.out]
          exact hown7
        clear hg7 hat7 hb7 hown7
        have RH := Lib.hid R
        clear R
        go_wp2
        refine ⟨?rel, ?measure⟩
        case measure => (simp [intOf]; omega)
        case rel => first | exact RH.out | exact ⟨rfl, RH.out⟩ | ((try refine ⟨rfl, ?_⟩); (repeat apply Exists.intro); refine ⟨RH.out, ?_⟩; ((repeat' apply And.intro) <;> rfl))
    · obtain rfl : k = n := by omega
      have hownH := Lib.hid hown
      clear hown
      have hbH := Lib.hid hb
      clear hb
      have hn'H := Lib.hid hn'
      clear hn'
      go_wp2
      go_ret
      exact ⟨A, n', cap, rfl, hownH.out, hnk, hbH.out⟩

theorem zeroI (w : World) : (zeroValue 3).run Tryz.prog w = .ok (Value.int .i64 0) w := by kernel_rfl
def valI (x : Int) : Value := .int .i64 x
theorem injI : InjV valI := fun _ _ h => by injection h
theorem lookS {w : World} {b c : Nat} {p : ByteArray → Bool} (h : TMap KS valS w b (setF p) c) (s : ByteArray) (hs : s.size ≤ maxLen) (v : Bool) (hv : p s = v) :
    (Instr.lookup 45 (.map (some b)) (.string s) false).run Tryz.prog w = .ok (.bool v) w := by
  have := (h.look Tryz.underlying45 (zeroS w) injS (x := s) hs).1
  rw [setF_getD, hv] at this
  exact this
theorem lookI {w : World} {b c : Nat} {f : ByteArray → Option Int} (h : TMap KS valI w b f c) (s : ByteArray) (hs : s.size ≤ maxLen) (v : Int) (hv : (f s).getD 0 = v) (y : Bool) (hy : (f s).isSome = y) :
    (Instr.lookup 209 (.map (some b)) (.string s) true).run Tryz.prog w = .ok (.tuple #[.int .i64 v, .bool y]) w := by
  have := (h.look (z0 := (0 : Int)) Tryz.underlying209 (zeroI w) injI (x := s) hs).2
  rw [hv, hy] at this
  exact this

/-! ### right -/
theorem rgtF_keep {l : List Claimed} {m : List Audit} {k : Nat} (h : wrB l m k = true ∨ (audB m k && (suB l m (wriOf l k) && !endB l m k (wriOf l k))) = false) : rgtF l m (k + 1) = rgtF l m k := by
  funext s
  unfold rgtF
  by_cases hs : suB l m s = true
  · rw [if_pos hs, if_pos hs]
    congr 1
    show (if (!wrB l m k && (audB m k && !endB l m k (wriOf l k)) && decide (wriOf l k = s)) = true then (k : Int) else rgt l m k s) = rgt l m k s
    rw [if_neg]
    intro hc
    simp only [Bool.and_eq_true, Bool.not_eq_true', decide_eq_true_iff] at hc
    obtain ⟨⟨h1, h2, h3⟩, h4⟩ := hc
    rcases h with h | h
    · rw [h] at h1; cases h1
    · rw [h2, h3, h4, hs] at h; cases h
  · rw [if_neg hs, if_neg hs]
theorem rgtF_upd {l : List Claimed} {m : List Audit} {k : Nat} (h1 : wrB l m k = false) (h2 : audB m k = true) (h3 : suB l m (wriOf l k) = true) (h4 : endB l m k (wriOf l k) = false) : upd (rgtF l m k) (wriOf l k) (k : Int) = rgtF l m (k + 1) := by
  funext s
  unfold upd rgtF
  show _ = if suB l m s = true then some (if (!wrB l m k && (audB m k && !endB l m k (wriOf l k)) && decide (wriOf l k = s)) = true then (k : Int) else rgt l m k s) else none
  rw [h1, h2, h4]
  by_cases hs : s = wriOf l k
  · subst hs
    rw [if_pos rfl, if_pos h3, if_pos (by simp)]
  · rw [if_neg hs]
    by_cases hss : suB l m s = true
    · rw [if_pos hss, if_pos hss, if_neg (by simpa using fun e => hs e.symm)]
    · rw [if_neg hss, if_neg hss]
theorem endF_upd {l : List Claimed} {m : List Audit} {k : Nat} (h1 : wrB l m k = true) : upd (setF (endB l m k)) (wriOf l k) true = setF (endB l m (k + 1)) := by
  rw [setF_upd]
  congr 1
  funext s
  show _ = (endB l m k s || (wrB l m k && decide (wriOf l k = s)))
  rw [h1, Bool.true_and]
theorem endF_keep {l : List Claimed} {m : List Audit} {k : Nat} (h1 : wrB l m k = false) : endB l m (k + 1) = endB l m k := by
  funext s
  show (endB l m k s || (wrB l m k && decide (wriOf l k = s))) = _
  rw [h1, Bool.false_and, Bool.or_false]

def Rg1 (l : List Claimed) (m : List Audit) (K b1 b2 b3 c3 r n : Nat) (w0 wr : World) : Prop :=
  ∃ (left : ByteArray → Bool) (cnt : Nat) (g : ByteArray → Option Int) (ci : Nat), TRange KS valS wr b3 r c3 (setF (suB l m)) left cnt ∧ TMap KS valI wr (K + 1) g ci ∧ ci + cnt ≤ c3 ∧
    (∀ s, s.size ≤ maxLen → g s = if (suB l m s && !left s) = true then some (-1) else none) ∧ TMap KS valS wr (K + 2) (setF (endB l m 0)) 0 ∧
    wr.cell? ⟨K, 0, none⟩ = some (.slice (some ⟨b1, 0, none⟩) n n) ∧ wr.cell? ⟨K, 1, none⟩ = some (.slice (some ⟨b2, 0, none⟩) n n) ∧ wr.cell? ⟨K, 2, none⟩ = some (.map (some b3)) ∧ Below K w0 wr ∧ K + 4 ≤ wr.heap.size
def Rg2 (l : List Claimed) (m : List Audit) (K b1 b2 b3 c3 n : Nat) (w0 : World) (i : Value) (wr : World) : Prop :=
  ∃ k c1 c2 : Nat, k ≤ n ∧ i = .int .i64 k ∧ TMap KS valI wr (K + 1) (rgtF l m k) c1 ∧ c1 ≤ c3 + k ∧ TMap KS valS wr (K + 2) (setF (endB l m k)) c2 ∧ c2 ≤ k ∧
    wr.cell? ⟨K, 0, none⟩ = some (.slice (some ⟨b1, 0, none⟩) n n) ∧ wr.cell? ⟨K, 1, none⟩ = some (.slice (some ⟨b2, 0, none⟩) n n) ∧ wr.cell? ⟨K, 2, none⟩ = some (.map (some b3)) ∧ Below K w0 wr ∧ K + 4 ≤ wr.heap.size

end Go.Proofs.YtgegdfmdcmgliaaGreatDoor.C11

namespace Go.Proofs.YtgegdfmdcmgliaaGreatDoor.C11
open Go.RowKit
set_option linter.unusedVariables false

theorem pre_old {l : List Claimed} {m : List Audit} {k j : Nat} (h : j < k) : pre l m (k + 1) j = pre l m k j := by
  show (if j = k then tStep l m (pre l m k) k else pre l m k j) = _
  rw [if_neg (by omega)]
theorem pre_new (l : List Claimed) (m : List Audit) (k : Nat) : pre l m (k + 1) k = tStep l m (pre l m k) k := by
  show (if k = k then tStep l m (pre l m k) k else pre l m k k) = _
  rw [if_pos rfl]
/-- the results of tainted ones so far -/
def badF (l : List Claimed) (m : List Audit) (k : Nat) : ByteArray → Bool := anyB l (pre l m k) k
/-- the results of others so far -/
def goodF (l : List Claimed) (m : List Audit) (k : Nat) : ByteArray → Bool := anyB l (fun j => !pre l m k j) k
theorem bad_step {l : List Claimed} {m : List Audit} {k : Nat} (h : tStep l m (pre l m k) k = true) : badF l m (k + 1) = fun s => badF l m k s || decide (resOf l k = s) := by
  funext s
  show (anyB l (pre l m (k + 1)) k s || (pre l m (k + 1) k && decide (resOf l k = s))) = _
  rw [anyB_congr l k (fun j hj => pre_old hj), pre_new, h, Bool.true_and]
  rfl
theorem bad_keep {l : List Claimed} {m : List Audit} {k : Nat} (h : tStep l m (pre l m k) k = false) : badF l m (k + 1) = badF l m k := by
  funext s
  show (anyB l (pre l m (k + 1)) k s || (pre l m (k + 1) k && decide (resOf l k = s))) = _
  rw [anyB_congr l k (fun j hj => pre_old hj), pre_new, h, Bool.false_and, Bool.or_false]
  rfl
theorem good_step {l : List Claimed} {m : List Audit} {k : Nat} (h : tStep l m (pre l m k) k = false) : goodF l m (k + 1) = fun s => goodF l m k s || decide (resOf l k = s) := by
  funext s
  show (anyB l (fun j => !pre l m (k + 1) j) k s || (!pre l m (k + 1) k && decide (resOf l k = s))) = _
  rw [anyB_congr l (f := fun j => !pre l m (k + 1) j) (g := fun j => !pre l m k j) k (fun j hj => by show (!pre l m (k + 1) j) = (!pre l m k j); rw [pre_old hj]), pre_new, h]
  rfl
theorem good_keep {l : List Claimed} {m : List Audit} {k : Nat} (h : tStep l m (pre l m k) k = true) : goodF l m (k + 1) = goodF l m k := by
  funext s
  show (anyB l (fun j => !pre l m (k + 1) j) k s || (!pre l m (k + 1) k && decide (resOf l k = s))) = _
  rw [anyB_congr l (f := fun j => !pre l m (k + 1) j) (g := fun j => !pre l m k j) k (fun j hj => by show (!pre l m (k + 1) j) = (!pre l m k j); rw [pre_old hj]), pre_new, h]
  simp only [Bool.not_true, Bool.false_and, Bool.or_false]
  rfl
def useP (l : List Claimed) (m : List Audit) (k : Nat) (u : ByteArray) : Bool := badF l m k u && !goodF l m k u
theorem tStep_parts {l : List Claimed} {m : List Audit} {k : Nat} : tStep l m (pre l m k) k = (wrB l m k || ((suB l m (wriOf l k) && !audB m k) && decide (rgt l m l.length (wriOf l k) < (k : Int))) || (useOf l k).any (useP l m k)) := rfl
theorem pre_upd (l : List Claimed) (m : List Audit) (k : Nat) : pre l m (k + 1) = fun j => if j = k then tStep l m (pre l m k) k else pre l m k j := rfl
/-- what 'right' tells of a writer -/
theorem rgtF_some {l : List Claimed} {m : List Audit} {n : Nat} {s : ByteArray} : (rgtF l m n s).isSome = suB l m s := by
  unfold rgtF
  cases suB l m s <;> rfl
theorem rgtF_get {l : List Claimed} {m : List Audit} {n : Nat} {s : ByteArray} (h : suB l m s = true) : (rgtF l m n s).getD 0 = rgt l m n s := by
  unfold rgtF
  rw [if_pos h]; rfl
theorem rgtF_none {l : List Claimed} {m : List Audit} {n : Nat} {s : ByteArray} (h : suB l m s = false) : (rgtF l m n s).getD 0 = 0 := by
  unfold rgtF
  rw [h]; rfl
end Go.Proofs.YtgegdfmdcmgliaaGreatDoor.C11

namespace Go.Proofs.YtgegdfmdcmgliaaGreatDoor.C11
open Go.RowKit
set_option linter.unusedVariables false

theorem rword_b (s : ByteArray) (b : Bool) (w : World) (hs : s.size ≤ maxLen) (hb : wordB s = b) :
    Calls Tryz.prog 98 #[.string s] w fun e w' => e = .returned (.bool b) ∧ Below w.heap.size w w' :=
  (rword_any s b w hs hb).mono fun e w' h => ⟨h.1, h.2 ▸ Below.refl _ _⟩
theorem row_b (s : ByteArray) (w : World) (hs : s.size ≤ maxLen) (b : Bool) (hb : rowB s = b) :
    Calls Tryz.prog 70 #[.string s] w fun e w' => e = .returned (.bool b) ∧ Below w.heap.size w w' :=
  (row_any s w hs b hb).mono fun e w' h => ⟨h.1, h.2 ▸ Below.refl _ _⟩
theorem plain_b (s : ByteArray) (w : World) (hs : s.size ≤ maxLen) (b : Bool) (hb : plainB s = b) :
    Calls Tryz.prog 67 #[.string s] w fun e w' => e = .returned (.bool b) ∧ Below w.heap.size w w' := plain_any s w b hb
/-- behind the two slashes there is a byte, so that the one more thing the reference asks of a prefix holds -/
theorem pref_row {s : ByteArray} (h : Lib.hasPrefix s.data.toList slsl.data.toList = true) : rowB s = plainB s := by
  unfold rowB
  have : (s.toList == []) = false := by
    rw [beq_eq_false_iff_ne, Lib.toList_data]
    intro e
    rw [e] at h
    cases h
  rw [this]
  cases plainB s <;> rfl

def PrRel (l : List ByteArray) (c : Int) (w0 : World) (i : Value) (wr : World) : Prop :=
  ∃ k : Nat, k ≤ l.length ∧ i = .int .i64 k ∧ prefsErr (prevP l k) (l.drop k) = c ∧ Below w0.heap.size w0 wr

-- {0} the way from the prefixes' fault to the fault asked; {1} isPlain's contract; {2} more rows for what lies behind the call; {3} the cell of the row in the box, or nothing

set_option maxHeartbeats 4000000 in
theorem writer_any (x : Writer) (w : World) (hok : RWriter.ok w x) (c : Int) (hF : writerF x = c) :
    Calls Tryz.prog 78 #[.agg #[.string x.name, .string x.secret, .slice x.prefixes.A x.prefixes.n x.prefixes.cap, .int .i64 x.from_, .int .i64 x.to_]] w fun e w' =>
      e = .returned (.int .i64 c) ∧ Below w.heap.size w w' := by
  obtain ⟨nm, se, ⟨A, n, cap, l⟩, fr, tt⟩ := x
  obtain ⟨o0, o1, o2, o3, o4⟩ := hok
  simp only at o0 o1 o2 o3 o4 hF ⊢
  unfold writerF at hF
  simp only at hF
  obtain ⟨b1, hb1⟩ : ∃ b, wordB nm = b := ⟨_, rfl⟩
  obtain ⟨b2, hb2⟩ : ∃ b, secretB se = b := ⟨_, rfl⟩
  rw [hb1, hb2] at hF
  have hba := (Below.refl w.heap.size w).alloc (Nat.le_refl _) (.cells #[.string nm, .string se, .slice A n cap, .int .i64 fr, .int .i64 tt] 55)
  have hbas := hba.size
  have hl : SlAt RStr w A n l := o2.1
  have hal := hl.1
  have han9 : n ≤ 9223372036854775807 := Nat.le_trans o2.2.1 o2.2.2.1
  have o0 : nm.size ≤ maxLen := o0
  have o1 : se.size ≤ maxLen := o1
  have o0H := Lib.hid o0
  clear o0
  have o1H := Lib.hid o1
  clear o1
  have o2H := Lib.hid o2
  clear o2
  have o3H := Lib.hid o3
  clear o3
  have o4H := Lib.hid o4
  clear o4
  have hFH := Lib.hid hF
  clear hF
  have hb1H := Lib.hid hb1
  clear hb1
  have hb2H := Lib.hid hb2
  clear hb2
  have hbaH := Lib.hid hba
  clear hba
  have hbasH := Lib.hid hbas
  clear hbas
  have hlH := Lib.hid hl
  clear hl
  have halH := Lib.hid hal
  clear hal
  go_enter Tryz.func78, Tryz.ntmps78
  go_wp2_with fail
  refine (word_any nm b1 _ o0H.out hb1H.out).mono ?_
  rintro e w1 ⟨rfl, hw1⟩
  have q1 := (hw1.cell (by simp)).trans (cell_new w _ _ 1)
  have q2 := (hw1.cell (by simp)).trans (cell_new w _ _ 2)
  have q3 := (hw1.cell (by simp)).trans (cell_new w _ _ 3)
  have q4 := (hw1.cell (by simp)).trans (cell_new w _ _ 4)
  have hbw1 := hbaH.out.trans (hw1.mono hbasH.out)
  have hz1 : w.heap.size < w1.heap.size := by have := hw1.size; simp at this; omega
  simp only [List.getElem?_toArray, List.getElem?_cons_succ, List.getElem?_cons_zero] at q1 q2 q3 q4
  have hw1H := Lib.hid hw1
  clear hw1
  have hbw1H := Lib.hid hbw1
  clear hbw1
  have hF := hFH.out
  clear hFH
  cases b1
  · rw [if_neg (by decide)] at hF
    have hFH := Lib.hid hF
    clear hF
    clear q1 q2 q3 q4
    go_wp2
    go_ret
    exact ⟨ret1_int hFH.out, hbw1H.out⟩
  · rw [if_pos rfl] at hF
    have hFH := Lib.hid hF
    clear hF
    go_wp2_with fail
    refine (secret_any se _ o1H.out b2 hb2H.out).mono ?_
    rintro e w2 ⟨rfl, hw2⟩
    replace q2 := (hw2.cell (by omega)).trans q2
    replace q3 := (hw2.cell (by omega)).trans q3
    replace q4 := (hw2.cell (by omega)).trans q4
    have hbw2 := hbw1H.out.trans (hw2.mono hbw1H.out.size)
    have hz2 : w.heap.size < w2.heap.size := by have := hw2.size; omega
    clear q1
    have hw2H := Lib.hid hw2
    clear hw2
    have hbw2H := Lib.hid hbw2
    clear hbw2
    have hF := hFH.out
    clear hFH
    cases b2
    · rw [if_neg (by decide)] at hF
      have hFH := Lib.hid hF
      clear hF
      clear q2 q3 q4
      go_wp2
      go_ret
      exact ⟨ret1_int hFH.out, hbw2H.out⟩
    · rw [if_pos rfl] at hF
      by_cases h30 : n ≤ 30
      · have hpf : prefsF l = prefsErr none l := by unfold prefsF; rw [halH.out, if_pos h30]
        rw [hpf] at hF
        obtain ⟨c3, hc3⟩ : ∃ c3, prefsErr none l = c3 := ⟨_, rfl⟩
        rw [hc3] at hF
        have hX : ∀ z : Int, z = c3 → z ≠ 0 → z = c := fun z h2 h1 => by
          rw [if_neg (by omega)] at hF
          omega
        have hFH := Lib.hid hF
        clear hF
        have hXH := Lib.hid hX
        clear hX
        have hc3H := Lib.hid hc3
        clear hc3
        clear hpf
        go_wp2_with fail
        go_loopw [23] (fun i wr => PrRel l c3 w2 i wr) (fun i _ => n - (intOf i).toNat)
        case atStart => exact ⟨0, Nat.zero_le _, rfl, hc3H.out, Below.refl _ _⟩
        case round =>
          obtain ⟨k, hk, rfl, hck, hb⟩ := hrel
          have hkl : k ≤ n := by have := halH.out; omega
          have hbs := hb.size
          have q2r := (hb.cell hz2).trans q2;have q3r := (hb.cell hz2).trans q3;have q4r := (hb.cell hz2).trans q4;clear q2 q3 q4
          have hbw := hbw2H.out.trans (hb.mono hbw2H.out.size)
          by_cases hlt : k < n
          · obtain ⟨b, off, hA, _⟩ := hlH.out.2.1 (by omega)
            obtain ⟨s, hx⟩ : ∃ x, l[k]? = some x := ⟨l[k]'(by have := halH.out; omega), List.getElem?_eq_getElem _⟩
            have hsl := hlH.out
            rw [hA] at hsl
            have c0 := cell_Str (hsl.below hbw) hx
            have hos : s.size ≤ maxLen := hsl.2.2 s (List.mem_of_getElem? hx)
            have hos9 : s.size ≤ 9223372036854775807 := hos
            rw [drop_cons hx, prefsErr] at hck
            have hkl2 : k + 1 ≤ l.length := by have := halH.out; omega
            have hpn : prevP l (k + 1) = some s := by rw [prevP, if_neg (by omega), show k + 1 - 1 = k from rfl, hx]
            subst hA
            cases hp : Lib.hasPrefix s.data.toList slsl.data.toList
            · have hbs : prefB s = false := by unfold prefB; rw [hp]; rfl
              have hp1 : Lib.hasPrefix s.data.toList (⟨#[47, 47]⟩ : ByteArray).data.toList = false := hp
              rw [hbs, if_neg (by decide)] at hck
              have hckH := Lib.hid hck
              clear hck
              have hbH := Lib.hid hb
              clear hb
              have hbwH := Lib.hid hbw
              clear hbw
              have hpnH := Lib.hid hpn
              clear hpn
              have hkl2H := Lib.hid hkl2
              clear hkl2
              have hxH := Lib.hid hx
              clear hx
              have hosH := Lib.hid hos
              clear hos
              have hslH := Lib.hid hsl
              clear hsl
              go_wp2_with (go_at_call 85; refine (Tryz.strings_HasPrefix _ _ _).mono ?_; rintro e wz ⟨rfl, hwz⟩; rw [hp1, hwz]; clear hwz; clear wz)
              go_ret
              exact ⟨ret1_int (hXH.out _ hckH.out (by decide)), hbwH.out⟩
            · have hp1 : Lib.hasPrefix s.data.toList (⟨#[47, 47]⟩ : ByteArray).data.toList = true := hp
              by_cases hz : s.size ≤ 1000
              · obtain ⟨q, hq⟩ : ∃ q, plainB s = q := ⟨_, rfl⟩
                have hqr : rowB s = q := by rw [pref_row hp]; exact hq
                have hbs : prefB s = q := by unfold prefB; rw [hp, decide_eq_true hz, hq]; rfl
                rw [hbs] at hck
                clear hbs hp
                have hckH := Lib.hid hck
                clear hck
                have hbH := Lib.hid hb
                clear hb
                have hbwH := Lib.hid hbw
                clear hbw
                have hpnH := Lib.hid hpn
                clear hpn
                have hkl2H := Lib.hid hkl2
                clear hkl2
                have hxH := Lib.hid hx
                clear hx
                have hosH := Lib.hid hos
                clear hos
                have hslH := Lib.hid hsl
                clear hsl
                have hqH := Lib.hid hq
                clear hq
                have hqrH := Lib.hid hqr
                clear hqr
                go_wp2_with (go_at_call 85; refine (Tryz.strings_HasPrefix _ _ _).mono ?_; rintro e wz ⟨rfl, hwz⟩; rw [hp1, hwz]; clear hwz; clear wz)
                refine (plain_b s _ hosH.out q hqH.out).mono ?_
                rintro e w3 ⟨rfl, hw3⟩
                have hb3 := hbH.out.trans (hw3.mono hbH.out.size)
                have hbw3 := hbwH.out.trans (hw3.mono hbwH.out.size)
                replace q2r := (hw3.cell (show w.heap.size < wr.heap.size by omega)).trans q2r
                clear hw3 c0
                have hck := hckH.out
                clear hckH
                cases q
                · rw [if_neg (by decide)] at hck
                  have hckH := Lib.hid hck
                  clear hck
                  have hb3H := Lib.hid hb3
                  clear hb3
                  have hbw3H := Lib.hid hbw3
                  clear hbw3
                  go_wp2
                  go_ret
                  exact ⟨ret1_int (hXH.out _ hckH.out (by decide)), hbw3H.out⟩
                · rw [if_pos rfl] at hck
                  by_cases hk0 : k = 0
                  · subst hk0
                    have R : ∀ nq, PrRel l c3 w2 (.int .i64 1) (w3.drewN nq) := by
                      refine fun nq => ⟨1, hkl2H.out, by go_num, ?_, bel_drewN hb3 nq⟩
                      rw [prevP, if_pos rfl, Option.map_none, if_neg (by decide)] at hck
                      rw [hpnH.out]
                      exact hck
                    clear hck
                    have RH := Lib.hid R
                    clear R
                    have hb3H := Lib.hid hb3
                    clear hb3
                    have hbw3H := Lib.hid hbw3
                    clear hbw3
                    go_wp2
                    refine ⟨?rel, ?measure⟩
                    case measure => (simp [intOf]; omega)
                    case rel => first | exact (RH.out 0) | exact ⟨rfl, (RH.out 0)⟩ | ((try refine ⟨rfl, ?_⟩); (repeat apply Exists.intro); refine ⟨(RH.out 0), ?_⟩; ((repeat' apply And.intro) <;> rfl))
                  · obtain ⟨j, rfl⟩ : ∃ j, k = j + 1 := ⟨k - 1, by omega⟩
                    obtain ⟨y, hy⟩ : ∃ y, l[j]? = some y := ⟨l[j]'(by have := halH.out; omega), List.getElem?_eq_getElem _⟩
                    have d0 := cell_Str (hslH.out.below hbw3) hy
                    have hpr : prevP l (j + 1) = some y := by rw [prevP, if_neg (by omega), show j + 1 - 1 = j from rfl, hy]
                    rw [hpr, Option.map_some] at hck
                    clear hpr
                    cases hle : sle s y
                    · have hle' : (Op.bytesLess s.toList y.toList || s.toList == y.toList) = false := hle
                      rw [hle, if_neg (by decide)] at hck
                      have R : ∀ nq, PrRel l c3 w2 (.int .i64 (j + 1 + 1)) (w3.drewN nq) := by
                        refine fun nq => ⟨j + 1 + 1, hkl2H.out, by go_num, ?_, bel_drewN hb3 nq⟩
                        rw [hpnH.out]
                        exact hck
                      clear hck
                      have hleH := Lib.hid hle
                      clear hle
                      have hyH := Lib.hid hy
                      clear hy
                      have RH := Lib.hid R
                      clear R
                      have hb3H := Lib.hid hb3
                      clear hb3
                      have hbw3H := Lib.hid hbw3
                      clear hbw3
                      go_wp2
                      refine ⟨?rel, ?measure⟩
                      case measure => (simp [intOf]; omega)
                      case rel => first | exact (RH.out 0) | exact ⟨rfl, (RH.out 0)⟩ | ((try refine ⟨rfl, ?_⟩); (repeat apply Exists.intro); refine ⟨(RH.out 0), ?_⟩; ((repeat' apply And.intro) <;> rfl))
                    · have hle' : (Op.bytesLess s.toList y.toList || s.toList == y.toList) = true := hle
                      rw [hle, if_pos rfl] at hck
                      have hleH := Lib.hid hle
                      clear hle
                      have hckH := Lib.hid hck
                      clear hck
                      have hyH := Lib.hid hy
                      clear hy
                      have hb3H := Lib.hid hb3
                      clear hb3
                      have hbw3H := Lib.hid hbw3
                      clear hbw3
                      go_wp2
                      go_ret
                      exact ⟨ret1_int (hXH.out _ hckH.out (by decide)), hbw3H.out⟩
              · have hbs : prefB s = false := by unfold prefB; rw [hp, decide_eq_false hz]; rfl
                have hzd : decide ((s.size : Int) ≤ 1000) = false := decide_eq_false (by omega)
                rw [hbs, if_neg (by decide)] at hck
                have hckH := Lib.hid hck
                clear hck
                have hbH := Lib.hid hb
                clear hb
                have hbwH := Lib.hid hbw
                clear hbw
                have hpnH := Lib.hid hpn
                clear hpn
                have hkl2H := Lib.hid hkl2
                clear hkl2
                have hxH := Lib.hid hx
                clear hx
                have hosH := Lib.hid hos
                clear hos
                have hslH := Lib.hid hsl
                clear hsl
                go_wp2_with (go_at_call 85; refine (Tryz.strings_HasPrefix _ _ _).mono ?_; rintro e wz ⟨rfl, hwz⟩; rw [hp1, hwz]; clear hwz; clear wz)
                go_ret
                exact ⟨ret1_int (hXH.out _ hckH.out (by decide)), hbwH.out⟩
          · have e : l.drop k = [] := List.drop_eq_nil_of_le (by have := halH.out; omega)
            rw [e] at hck
            have hc0 : 0 = c3 := by rw [← hck]; unfold prefsErr; rfl
            clear e hck
            have hF := hFH.out
            clear hFH
            rw [if_pos hc0.symm] at hF
            clear hc0
            by_cases i4 : inR 0 1000000000 fr = true
            · by_cases i5 : inR 0 1000000001 tt = true
              · rw [if_pos ⟨i4, i5⟩] at hF
                by_cases hle : tt ≤ fr
                · rw [if_pos hle] at hF
                  have hFH := Lib.hid hF
                  clear hF
                  have hbH := Lib.hid hb
                  clear hb
                  have hbwH := Lib.hid hbw
                  clear hbw
                  go_wp2_with (go_at_call 20; refine (within_p _ _ _ _).mono ?_; rintro e wz ⟨rfl, rfl⟩)
                  go_ret
                  exact ⟨ret1_int hFH.out, hbwH.out⟩
                · rw [if_neg hle] at hF
                  have hle2 : decide (tt ≤ fr) = false := decide_eq_false hle
                  have hFH := Lib.hid hF
                  clear hF
                  have hbH := Lib.hid hb
                  clear hb
                  have hbwH := Lib.hid hbw
                  clear hbw
                  go_wp2_with (go_at_call 20; refine (within_p _ _ _ _).mono ?_; rintro e wz ⟨rfl, rfl⟩)
                  go_ret
                  exact ⟨ret1_int hFH.out, hbwH.out⟩
              · rw [if_neg (fun h => i5 h.2)] at hF
                have i5 : inR 0 1000000001 tt = false := by simpa using i5
                have hFH := Lib.hid hF
                clear hF
                have hbH := Lib.hid hb
                clear hb
                have hbwH := Lib.hid hbw
                clear hbw
                go_wp2_with (go_at_call 20; refine (within_p _ _ _ _).mono ?_; rintro e wz ⟨rfl, rfl⟩)
                go_ret
                exact ⟨ret1_int hFH.out, hbwH.out⟩
            · rw [if_neg (fun h => i4 h.1)] at hF
              have i4 : inR 0 1000000000 fr = false := by simpa using i4
              have hFH := Lib.hid hF
              clear hF
              have hbH := Lib.hid hb
              clear hb
              have hbwH := Lib.hid hbw
              clear hbw
              go_wp2_with (go_at_call 20; refine (within_p _ _ _ _).mono ?_; rintro e wz ⟨rfl, rfl⟩)
              go_ret
              exact ⟨ret1_int hFH.out, hbwH.out⟩
      · have hpf : prefsF l = 2 := by unfold prefsF; rw [halH.out, if_neg h30]
        rw [hpf, if_neg (by decide)] at hF
        have h30d : decide ((n : Int) ≤ 30) = false := decide_eq_false (by omega)
        clear hpf q3 q4
        have hFH := Lib.hid hF
        clear hF
        go_wp2_with fail
        go_ret
        exact ⟨ret1_int hFH.out, hbw2H.out⟩
end Go.Proofs.YtgegdfmdcmgliaaGreatDoor.C11

namespace Go.Proofs.YtgegdfmdcmgliaaGreatDoor.C11
open Go.RowKit
set_option linter.unusedVariables false

def WrsRel (l : List Writer) (c : Int) (w0 : World) (i : Value) (wr : World) : Prop :=
  ∃ k : Nat, k ≤ l.length ∧ i = .int .i64 k ∧ writersErr (prevWr l k) (l.drop k) = c ∧ Below w0.heap.size w0 wr

-- what lies behind the checks of the writer itself: {0} the world, hbw: Below w.heap.size w {0}

set_option maxHeartbeats 2000000 in
theorem writers_ok (A : Option Addr) (len cap : Nat) (l : List Writer) (w : World) (hlen : len ≤ 50) (hl : SlAt RWriter w A len l) (c : Int) (hF : writersErr none l = c) :
    Calls Tryz.prog 48 #[.slice A len cap] w fun e w' => e = .returned (.int .i64 c) ∧ Below w.heap.size w w' := by
  have hll := hl.1
  have hllH := Lib.hid hll
  clear hll
  have hFH := Lib.hid hF
  clear hF
  have hlH := Lib.hid hl
  clear hl
  go_enter Tryz.func48, Tryz.ntmps48
  go_wp2
  go_loopw [11] (fun i wr => WrsRel l c w i wr) (fun i _ => len - (intOf i).toNat)
  case atStart => exact ⟨0, Nat.zero_le _, rfl, hFH.out, Below.refl _ _⟩
  case round =>
    obtain ⟨k, hk, rfl, hck, hb⟩ := hrel
    have hkl : k ≤ len := by have := hllH.out; omega
    have hbs := hb.size
    by_cases hlt : k < len
    · obtain ⟨b, off, hA, _⟩ := hlH.out.2.1 (by omega)
      subst hA
      obtain ⟨x, hx⟩ : ∃ x, l[k]? = some x := ⟨l[k]'(by have := hllH.out; omega), List.getElem?_eq_getElem _⟩
      obtain ⟨c0, c1, c2, c3, c4⟩ := cells_Writer (hlH.out.below hb) hx
      have hok := hlH.out.2.2 x (List.mem_of_getElem? hx)
      rw [drop_cons hx, writersErr] at hck
      have hkl2 : k + 1 ≤ l.length := by have := hllH.out; omega
      have hpn : prevWr l (k + 1) = some x.name := by rw [prevWr, if_neg (by omega), show k + 1 - 1 = k from rfl, hx]; rfl
      obtain ⟨f, hf⟩ : ∃ f, writerF x = f := ⟨_, rfl⟩
      rw [hf] at hck
      obtain ⟨nm, se, pf, fr, tt⟩ := x
      simp only at c0 c1 c2 c3 c4 hck hpn
      have hba := hb.alloc hbs (.cells #[.string nm, .string se, .slice pf.A pf.n pf.cap, .int .i64 fr, .int .i64 tt] 55)
      have hbas := hba.size
      have hxH := Lib.hid hx
      clear hx
      have hckH := Lib.hid hck
      clear hck
      have hbH := Lib.hid hb
      clear hb
      have hbaH := Lib.hid hba
      clear hba
      have hbasH := Lib.hid hbas
      clear hbas
      have hokH := Lib.hid hok
      clear hok
      have hfH := Lib.hid hf
      clear hf
      have hpnH := Lib.hid hpn
      clear hpn
      have hkl2H := Lib.hid hkl2
      clear hkl2
      go_wp2_with fail
      refine (writer_any ⟨nm, se, pf, fr, tt⟩ _ (RWriter.mono _ _ _ hbaH.out hokH.out) f hfH.out).mono ?_
      rintro e w1 ⟨rfl, hw1⟩
      have q0 : w1.cell? ⟨wr.heap.size, 0, none⟩ = some (.string nm) := (hw1.cell (by simp)).trans (cell_new _ _ _ 0)
      have hbw := hbaH.out.trans (hw1.mono hbasH.out)
      clear c0 c1 c2 c3 c4
      have hw1H := Lib.hid hw1
      clear hw1
      have hbwH := Lib.hid hbw
      clear hbw
      have hck := hckH.out
      clear hckH
      by_cases hf0 : f = 0
      · subst hf0
        rw [if_pos rfl] at hck
        by_cases hk0 : k = 0
        · subst hk0
          have R : ∀ nq, WrsRel l c w (.int .i64 1) (w1.drewN nq) := by
            refine fun nq => ⟨1, hkl2H.out, by go_num, ?_, bel_drewN hbwH.out nq⟩
            rw [prevWr, if_pos rfl, Option.map_none, if_neg (by decide)] at hck
            rw [hpnH.out]
            exact hck
          clear hck
          have RH := Lib.hid R
          clear R
          go_wp2_with fail
          go_quiet (fail)
          go_wp2
          refine ⟨?rel, ?measure⟩
          case measure => (simp [intOf]; omega)
          case rel => first | exact (RH.out _) | exact ⟨rfl, (RH.out _)⟩ | ((try refine ⟨rfl, ?_⟩); (repeat apply Exists.intro); refine ⟨(RH.out _), ?_⟩; ((repeat' apply And.intro) <;> rfl))
        · obtain ⟨j, rfl⟩ : ∃ j, k = j + 1 := ⟨k - 1, by omega⟩
          obtain ⟨y, hy⟩ : ∃ y, l[j]? = some y := ⟨l[j]'(by have := hllH.out; omega), List.getElem?_eq_getElem _⟩
          obtain ⟨d0, _⟩ := cells_Writer (hlH.out.below hbwH.out) hy
          have hpr : prevWr l (j + 1) = some y.name := by rw [prevWr, if_neg (by omega), show j + 1 - 1 = j from rfl, hy]; rfl
          rw [hpr, Option.map_some] at hck
          clear hpr
          obtain ⟨yn, yr⟩ : ∃ yn, y.name = yn := ⟨_, rfl⟩
          rw [yr] at d0 hck
          cases hle : sle nm yn
          · have hle' : (Op.bytesLess nm.toList yn.toList || nm.toList == yn.toList) = false := hle
            rw [hle, if_neg (by decide)] at hck
            have R : ∀ nq, WrsRel l c w (.int .i64 (j + 1 + 1)) (w1.drewN nq) := by
              refine fun nq => ⟨j + 1 + 1, hkl2H.out, by go_num, ?_, bel_drewN hbwH.out nq⟩
              rw [hpnH.out]
              exact hck
            clear hck
            have hleH := Lib.hid hle
            clear hle
            have hyH := Lib.hid hy
            clear hy
            have yrH := Lib.hid yr
            clear yr
            have RH := Lib.hid R
            clear R
            go_wp2_with fail
            go_quiet (fail)
            go_wp2
            refine ⟨?rel, ?measure⟩
            case measure => (simp [intOf]; omega)
            case rel => first | exact (RH.out _) | exact ⟨rfl, (RH.out _)⟩ | ((try refine ⟨rfl, ?_⟩); (repeat apply Exists.intro); refine ⟨(RH.out _), ?_⟩; ((repeat' apply And.intro) <;> rfl))
          · have hle' : (Op.bytesLess nm.toList yn.toList || nm.toList == yn.toList) = true := hle
            rw [hle, if_pos rfl] at hck
            have hleH := Lib.hid hle
            clear hle
            have hckH := Lib.hid hck
            clear hck
            have hyH := Lib.hid hy
            clear hy
            have yrH := Lib.hid yr
            clear yr
            go_wp2_with fail
            go_quiet (fail)
            go_wp2
            go_ret
            exact ⟨ret1_int hckH.out, bel_drewN hbwH.out _⟩
      · rw [if_neg hf0] at hck
        have hf1 : (f != 0) = true := by simpa using hf0
        clear q0
        have hckH := Lib.hid hck
        clear hck
        have hf0H := Lib.hid hf0
        clear hf0
        go_wp2
        go_ret
        exact ⟨ret1_int hckH.out, hbwH.out⟩
    · have e : l.drop k = [] := List.drop_eq_nil_of_le (by have := hllH.out; omega)
      rw [e] at hck
      have hc0 : 0 = c := by rw [← hck]; unfold writersErr; rfl
      have hckH := Lib.hid hck
      clear hck
      have hbH := Lib.hid hb
      clear hb
      have eH := Lib.hid e
      clear e
      have hc0H := Lib.hid hc0
      clear hc0
      go_wp2
      go_ret
      exact ⟨ret1_int hc0H.out, hbH.out⟩
theorem writers_any (A : Option Addr) (len cap : Nat) (l : List Writer) (w : World) (hl : SlAt RWriter w A len l) (c : Int) (hF : writersF l = c) :
    Calls Tryz.prog 48 #[.slice A len cap] w fun e w' => e = .returned (.int .i64 c) ∧ Below w.heap.size w w' := by
  unfold writersF at hF
  rw [hl.1] at hF
  by_cases h : len ≤ 50
  · rw [if_pos h] at hF
    exact writers_ok A len cap l w h hl c hF
  · rw [if_neg h] at hF
    subst hF
    clear hl
    go_enter Tryz.func48, Tryz.ntmps48
    go_wp2
    go_ret
    exact ⟨rfl, Below.refl _ _⟩

end Go.Proofs.YtgegdfmdcmgliaaGreatDoor.C11

namespace Go.Proofs.YtgegdfmdcmgliaaGreatDoor.C11
open Go.RowKit
set_option linter.unusedVariables false

set_option maxHeartbeats 1000000 in
theorem find1_any (x : Writer) (s : ByteArray) (w : World) :
    Calls Tryz.prog 82 #[.agg #[.string x.name, .string x.secret, .slice x.prefixes.A x.prefixes.n x.prefixes.cap, .int .i64 x.from_, .int .i64 x.to_], .string s] w fun e w' => e = .returned (.int .i64 (cmpS x.name s)) ∧ Below w.heap.size w w' := by
  have hba := (Below.refl w.heap.size w).alloc (Nat.le_refl _) (.cells #[.string x.name, .string x.secret, .slice x.prefixes.A x.prefixes.n x.prefixes.cap, .int .i64 x.from_, .int .i64 x.to_] 55)
  have hbaH := Lib.hid hba
  clear hba
  go_enter Tryz.func82, Tryz.ntmps82
  go_wp2_with (go_at_call 83; refine (Tryz.strings_Compare _ _ _).mono ?_; rintro e w1 ⟨rfl, rfl⟩)
  go_ret
  exact ⟨rfl, hbaH.out⟩

theorem split_lt (s : ByteArray) : ∀ (l : List Writer), (l.Pairwise fun a b => cmpS a.name b.name = -1) → ∃ k0, k0 ≤ l.length ∧ (∀ t x, l[t]? = some x → t < k0 → cmpS x.name s = -1) ∧ (∀ t x, l[t]? = some x → k0 ≤ t → cmpS x.name s ≠ -1)
  | [], _ => ⟨0, Nat.le_refl _, fun t x h => by simp at h, fun t x h => by simp at h⟩
  | y :: r, h => by
    rw [List.pairwise_cons] at h
    by_cases hy : cmpS y.name s = -1
    · obtain ⟨k, hk, h1, h2⟩ := split_lt s r h.2
      refine ⟨k + 1, by rw [List.length_cons]; omega, fun t x hx ht => ?_, fun t x hx ht => ?_⟩
      · cases t with
        | zero => simp at hx; subst hx; exact hy
        | succ t => exact h1 t x (by simpa using hx) (by omega)
      · cases t with
        | zero => omega
        | succ t => exact h2 t x (by simpa using hx) (by omega)
    · refine ⟨0, Nat.zero_le _, fun t x _ ht => by omega, fun t x hx _ => ?_⟩
      cases t with
      | zero => simp at hx; subst hx; exact hy
      | succ t =>
        intro hc
        exact hy (cmpS_trans (h.1 x (List.mem_of_getElem? (by simpa using hx))) hc)

def BsRel (k0 n : Nat) (w0 : World) (vi vj : Value) (wr : World) : Prop := ∃ i j : Nat, vi = .int .i64 i ∧ vj = .int .i64 j ∧ i ≤ k0 ∧ k0 ≤ j ∧ j ≤ n ∧ Below w0.heap.size w0 wr

set_option maxHeartbeats 4000000 in
theorem bsf_writer (A : Option Addr) (n c : Nat) (l : List Writer) (s : ByteArray) (w : World) (hn : n ≤ 50) (hl : SlAt RWriter w A n l) (hr : l.Pairwise fun a b => cmpS a.name b.name = -1) :
    Calls Tryz.prog 81 #[.slice A n c, .string s, .func (.func 82) #[] #[]] w fun e w' =>
      ∃ i : Nat, e = .returned (.tuple #[.int .i64 i, .bool (hasName l s)]) ∧ (hasName l s = true → i = ixName l s) ∧ Below w.heap.size w w' := by
  have hll := hl.1
  have eg : ∀ args w, (callFunc 82 args).run Tryz.prog w = .ok (.enter 82 args) w := enters_of Tryz.func82 (by kernel_rfl) rfl
  obtain ⟨k0, hk0, hlo, hhi⟩ := split_lt s l hr
  have hno : (∀ (t : Nat) (x : Writer), l[t]? = some x → x.name ≠ s) → hasName l s = false := fun h => by
    rw [hasName, List.any_eq_false]
    intro x hx
    obtain ⟨t, ht, rfl⟩ := List.getElem_of_mem hx
    simpa using h t _ (List.getElem?_eq_getElem ht)
  obtain ⟨f, hf⟩ : ∃ f, hasName l s = f := ⟨_, rfl⟩
  rw [hf]
  have hlH := Lib.hid hl
  clear hl
  have hllH := Lib.hid hll
  clear hll
  have hrH := Lib.hid hr
  clear hr
  have hloH := Lib.hid hlo
  clear hlo
  have hhiH := Lib.hid hhi
  clear hhi
  have hnoH := Lib.hid hno
  clear hno
  have hfH := Lib.hid hf
  clear hf
  go_enter Tryz.func81, Tryz.ntmps81
  go_wp2
  go_loopw [9, 10] (fun vi vj wr => BsRel k0 n w vi vj wr) (fun vi vj _ => (intOf vj).toNat - (intOf vi).toNat)
  case atStart => exact ⟨0, n, rfl, rfl, Nat.zero_le _, by have := hllH.out; omega, Nat.le_refl _, Below.refl _ _⟩
  case round =>
    obtain ⟨i, j, rfl, rfl, hi, hj, hjn, hb⟩ := hrel
    have hbs := hb.size
    by_cases hlt : i < j
    · obtain ⟨b, off, hA, _⟩ := hlH.out.2.1 (by omega)
      subst hA
      obtain ⟨x, hx⟩ : ∃ x, l[(i + j) / 2]? = some x := ⟨l[(i + j) / 2]'(by have := hllH.out; omega), List.getElem?_eq_getElem _⟩
      obtain ⟨c0, c1, c2, c3, c4⟩ := cells_Writer (hlH.out.below hb) hx
      have e1 : ((i : Int) + (j : Int)) / 2 = (((i + j) / 2 : Nat) : Int) := by omega
      by_cases hc : cmpS x.name s = -1
      · have hneg : (cmpS x.name s < 0) = True := by rw [hc]; decide
        have hik : (i + j) / 2 < k0 := by
          rcases Nat.lt_or_ge ((i + j) / 2) k0 with h | h
          · exact h
          · exact absurd hc (hhiH.out _ x hx h)
        have R : ∀ w', Below wr.heap.size wr w' → BsRel k0 n w (.int .i64 (((i : Int) + (j : Int)) / 2 + 1)) (.int .i64 j) w' := fun w' h => ⟨(i + j) / 2 + 1, j, by rw [e1]; rfl, rfl, by omega, hj, hjn, hb.trans (h.mono hbs)⟩
        obtain ⟨cx, hcx⟩ : ∃ c, cmpS x.name s = c := ⟨_, rfl⟩
        rw [hcx] at hc
        subst hc
        clear hneg
        have hxH := Lib.hid hx
        clear hx
        have hbH := Lib.hid hb
        clear hb
        have e1H := Lib.hid e1
        clear e1
        have RH := Lib.hid R
        clear R
        have hikH := Lib.hid hik
        clear hik
        have hcxH := Lib.hid hcx
        clear hcx
        go_wp2_with (go_at_fn 82; refine (find1_any x s _).mono ?_; rintro e w' ⟨rfl, hb'⟩; rw [hcxH.out]; have hb'H := Lib.hid hb'; clear hb')
        refine ⟨?rel, ?measure⟩
        case measure => simp [intOf]; omega
        case rel => exact RH.out _ hb'H.out
      · have hik : k0 ≤ (i + j) / 2 := by
          rcases Nat.lt_or_ge ((i + j) / 2) k0 with h | h
          · exact absurd (hloH.out _ x hx h) hc
          · exact h
        obtain ⟨cx, hcx⟩ : ∃ c, cmpS x.name s = c := ⟨_, rfl⟩
        have hcr := cmpS_range x.name s
        rw [hcx] at hc hcr
        have hnn : decide (cx < 0) = false := decide_eq_false (by omega)
        have R : ∀ w', Below wr.heap.size wr w' → BsRel k0 n w (.int .i64 i) (.int .i64 (((i : Int) + (j : Int)) / 2)) w' := fun w' h => ⟨i, (i + j) / 2, rfl, by rw [e1], hi, hik, by omega, hb.trans (h.mono hbs)⟩
        clear hcr hc
        have hxH := Lib.hid hx
        clear hx
        have hbH := Lib.hid hb
        clear hb
        have e1H := Lib.hid e1
        clear e1
        have RH := Lib.hid R
        clear R
        have hikH := Lib.hid hik
        clear hik
        have hcxH := Lib.hid hcx
        clear hcx
        go_wp2_with (go_at_fn 82; refine (find1_any x s _).mono ?_; rintro e w' ⟨rfl, hb'⟩; rw [hcxH.out]; have hb'H := Lib.hid hb'; clear hb')
        refine ⟨?rel, ?measure⟩
        case measure => simp [intOf]; omega
        case rel => exact RH.out _ hb'H.out
    · have hij : i = k0 := by omega
      have hjk : j = k0 := by omega
      subst hij
      subst hjk
      by_cases hkn : j < n
      · obtain ⟨b, off, hA, _⟩ := hlH.out.2.1 (by omega)
        subst hA
        obtain ⟨x, hx⟩ : ∃ x, l[j]? = some x := ⟨l[j]'(by have := hllH.out; omega), List.getElem?_eq_getElem _⟩
        obtain ⟨c0, c1, c2, c3, c4⟩ := cells_Writer (hlH.out.below hb) hx
        have hf := hfH.out
        clear hfH
        have hfx : f = decide (x.name = s) ∧ (f = true → j = ixName l s) := by
          by_cases hxs : x.name = s
          · have := ixName_eq hrH.out hx
            rw [hxs] at this
            rw [← hf]
            exact ⟨by rw [this.2, decide_eq_true hxs], fun _ => this.1.symm⟩
          · have h0 : hasName l s = false := hnoH.out fun t y hy hys => by
              rcases Nat.lt_or_ge t j with h | h
              · have := hloH.out t y hy h
                rw [hys, (cmpS_zero _ _).2 rfl] at this; cases this
              · rcases Nat.eq_or_lt_of_le h with h | h
                · subst h; rw [hx] at hy; injection hy with hy; exact hxs (by rw [hy]; exact hys)
                · obtain ⟨h1, e1⟩ := List.getElem?_eq_some_iff.1 hx
                  obtain ⟨h2, e2⟩ := List.getElem?_eq_some_iff.1 hy
                  have := List.pairwise_iff_getElem.1 hrH.out j t h1 h2 h
                  rw [e1, e2, hys] at this
                  exact hhiH.out j x hx (Nat.le_refl _) this
            rw [h0] at hf
            subst hf
            exact ⟨by rw [decide_eq_false hxs], fun h => by cases h⟩
        obtain ⟨cx, hcx⟩ : ∃ c, cmpS x.name s = c := ⟨_, rfl⟩
        have hcf : (cx == 0) = f := by
          rw [hfx.1, ← hcx, Bool.eq_iff_iff, beq_iff_eq, decide_eq_true_iff]
          exact cmpS_zero _ _
        have hfx2 := hfx.2
        clear hfx
        have hxH := Lib.hid hx
        clear hx
        have hbH := Lib.hid hb
        clear hb
        have hfH := Lib.hid hf
        clear hf
        have hcxH := Lib.hid hcx
        clear hcx
        have hfx2H := Lib.hid hfx2
        clear hfx2
        cases f
        all_goals
          go_wp2_with (go_at_fn 82; refine (find1_any x s _).mono ?_; rintro e w' ⟨rfl, hb'⟩; rw [hcxH.out]; have hb'H := Lib.hid hb'; clear hb')
          go_ret2
          first
            | exact ⟨j, rfl, (fun h => hfx2H.out h), hbH.out.trans (hb'H.out.mono hbH.out.size)⟩
            | exact ⟨j, rfl, hfx2H.out trivial, hbH.out.trans (hb'H.out.mono hbH.out.size)⟩
      · have h0 : hasName l s = false := hnoH.out fun t y hy hys => by
          have h1 := (List.getElem?_eq_some_iff.1 hy).1
          have := hloH.out t y hy (by have := hllH.out; omega)
          rw [hys, (cmpS_zero _ _).2 rfl] at this; cases this
        obtain rfl : false = f := by rw [← h0, hfH.out]
        have hbH := Lib.hid hb
        clear hb
        have h0H := Lib.hid h0
        clear h0
        go_wp2_with fail
        go_ret2
        exact ⟨j, rfl, (fun h => nomatch h), hbH.out⟩

def WoRel (l : List Writer) (s : ByteArray) (w0 : World) (i : Value) (wr : World) : Prop := ∃ k : Nat, k ≤ l.length ∧ i = .int .i64 k ∧ (∀ t x, l[t]? = some x → t < k → x.name ≠ s) ∧ Below w0.heap.size w0 wr
/-- the number as the reference gives it -/
def woF (l : List Writer) (s : ByteArray) : Int := if hasName l s = true then ixName l s else -1

end Go.Proofs.YtgegdfmdcmgliaaGreatDoor.C11

namespace Go.Proofs.YtgegdfmdcmgliaaGreatDoor.C11
open Go.RowKit
set_option linter.unusedVariables false

/-- what is asked of the predicate -/
def PredL (g : Nat) (lb : Array Value) (p : ByteArray → Bool) (l : List ByteArray) (w : World) : Prop :=
  ∀ (W : World) (x : ByteArray), x ∈ l → Below w.heap.size w W → Calls Tryz.prog g (#[.string x] ++ lb) W fun e w' => e = .returned (.bool (p x)) ∧ Below W.heap.size W w'
def AnyRel (p : ByteArray → Bool) (l : List ByteArray) (b : Bool) (w0 : World) (i : Value) (wr : World) : Prop := ∃ k : Nat, k ≤ l.length ∧ i = .int .i64 k ∧ (l.drop k).any p = b ∧ Below w0.heap.size w0 wr

set_option maxHeartbeats 2000000 in
theorem indexFunc_any (g : Nat) (lb : Array Value) (eg : ∀ args w, (callFunc g args).run Tryz.prog w = .ok (.enter g args) w) (p : ByteArray → Bool) (A : Option Addr) (n c : Nat) (l : List ByteArray) (w : World)
    (hl : SlAt RStr w A n l) (hn : n ≤ 9223372036854775807) (hp : PredL g lb p l w) (b : Bool) (hb : l.any p = b) :
    Calls Tryz.prog 101 #[.slice A n c, .func (.func g) #[] lb] w fun e w' => ∃ i : Int, e = .returned (.int .i64 i) ∧ (if b = true then 0 ≤ i else i = -1) ∧ Below w.heap.size w w' := by
  have hll := hl.1
  have hlH := Lib.hid hl
  clear hl
  have hbH := Lib.hid hb
  clear hb
  have hpH := Lib.hid hp
  clear hp
  have hllH := Lib.hid hll
  clear hll
  go_enter Tryz.func101, Tryz.ntmps101
  go_wp2
  go_loopw [5, 8] (fun s5 i wr => AnyRel p l b w i wr) (fun _ i _ => n - (intOf i).toNat)
  case atStart => exact ⟨0, Nat.zero_le _, rfl, hbH.out, Below.refl _ _⟩
  case round =>
    obtain ⟨k, hk, rfl, hr, hbw⟩ := hrel
    have hkl : k ≤ n := by have := hllH.out; omega
    by_cases hlt : k < n
    · obtain ⟨b0, off, hA, _⟩ := hlH.out.2.1 (by omega)
      subst hA
      obtain ⟨x, hx⟩ : ∃ x, l[k]? = some x := ⟨l[k]'(by have := hllH.out; omega), List.getElem?_eq_getElem _⟩
      have c0 := cell_Str (hlH.out.below hbw) hx
      have hcall := hpH.out wr x (List.mem_of_getElem? hx) hbw
      rw [drop_cons hx, List.any_cons] at hr
      have hkl2 : k + 1 ≤ l.length := by have := hllH.out; omega
      cases hq : p x
      · rw [hq] at hcall hr
        rw [Bool.false_or] at hr
        have R : ∀ w', Below wr.heap.size wr w' → AnyRel p l b w (.int .i64 (k + 1)) w' := fun w' h => ⟨k + 1, hkl2, by go_num, hr, hbw.trans (h.mono hbw.size)⟩
        clear hr
        have RH := Lib.hid R
        clear R
        have hxH := Lib.hid hx
        clear hx
        have hbwH := Lib.hid hbw
        clear hbw
        have hqH := Lib.hid hq
        clear hq
        have hcallH := Lib.hid hcall
        clear hcall
        go_wp2_with (go_at_fn g; refine hcallH.out.mono ?_; rintro e w' ⟨rfl, hb'⟩; have hb'H := Lib.hid hb'; clear hb')
        refine ⟨?rel, ?measure⟩
        case measure => (simp [intOf]; omega)
        case rel => first | exact (RH.out _ hb'H.out) | exact ⟨rfl, (RH.out _ hb'H.out)⟩ | ((try refine ⟨rfl, ?_⟩); (repeat apply Exists.intro); refine ⟨(RH.out _ hb'H.out), ?_⟩; ((repeat' apply And.intro) <;> rfl))
      · rw [hq] at hcall hr
        rw [Bool.true_or] at hr
        subst hr
        have hxH := Lib.hid hx
        clear hx
        have hbwH := Lib.hid hbw
        clear hbw
        have hqH := Lib.hid hq
        clear hq
        have hcallH := Lib.hid hcall
        clear hcall
        go_wp2_with (go_at_fn g; refine hcallH.out.mono ?_; rintro e w' ⟨rfl, hb'⟩; have hb'H := Lib.hid hb'; clear hb')
        go_ret
        exact ⟨k, rfl, by first | omega | (rw [if_pos rfl]; omega), hbwH.out.trans (hb'H.out.mono hbwH.out.size)⟩
    · have e : l.drop k = [] := List.drop_eq_nil_of_le (by have := hllH.out; omega)
      rw [e] at hr
      subst hr
      have hbwH := Lib.hid hbw
      clear hbw
      have eH := Lib.hid e
      clear e
      go_wp2
      go_ret
      exact ⟨-1, rfl, by simp, hbwH.out⟩

set_option maxHeartbeats 1000000 in
theorem containsFunc_any (g : Nat) (lb : Array Value) (eg : ∀ args w, (callFunc g args).run Tryz.prog w = .ok (.enter g args) w) (p : ByteArray → Bool) (A : Option Addr) (n c : Nat) (l : List ByteArray) (w : World)
    (hl : SlAt RStr w A n l) (hn : n ≤ 9223372036854775807) (hp : PredL g lb p l w) (b : Bool) (hb : l.any p = b) :
    Calls Tryz.prog 65 #[.slice A n c, .func (.func g) #[] lb] w fun e w' => e = .returned (.bool b) ∧ Below w.heap.size w w' := by
  have hlH := Lib.hid hl
  clear hl
  have hbH := Lib.hid hb
  clear hb
  have hpH := Lib.hid hp
  clear hp
  go_enter Tryz.func65, Tryz.ntmps65
  go_wp2_with fail
  refine (indexFunc_any g lb eg p A n c l _ hlH.out hn hpH.out b hbH.out).mono ?_
  rintro e w1 ⟨i, rfl, hi, hw1⟩
  have hw1H := Lib.hid hw1
  clear hw1
  cases b
  · rw [if_neg (by simp)] at hi
    subst hi
    go_wp2
    go_ret
    exact ⟨rfl, hw1H.out⟩
  · rw [if_pos rfl] at hi
    go_wp2
    go_ret
    exact ⟨rfl, hw1H.out⟩
end Go.Proofs.YtgegdfmdcmgliaaGreatDoor.C11

namespace Go.Proofs.YtgegdfmdcmgliaaGreatDoor.C11
open Go.RowKit
set_option linter.unusedVariables false

structure TSt (n bo bm bg pm pg : Nat) (fo : Nat → Bool) (fb fg : ByteArray → Option Bool) (c5 c6 : Nat) (w2 wr : World) : Prop where
  ro : BRow wr bo n fo
  mb : TMap KS valS wr bm fb c5
  mg : TMap KS valS wr bg fg c6
  p1 : wr.cell? ⟨pm, 0, none⟩ = some (.map (some bm))
  p2 : wr.cell? ⟨pg, 0, none⟩ = some (.map (some bg))
  bel : Below w2.heap.size w2 wr
  lo : bo < wr.heap.size
  l1 : pm < wr.heap.size
  l2 : pg < wr.heap.size
structure TNe (K bo bm bg pm pg : Nat) : Prop where
  n1 : bo ≠ bm
  n2 : bo ≠ bg
  n3 : bo ≠ pm
  n4 : bo ≠ pg
  n5 : bm ≠ bg
  n6 : bm ≠ pm
  n7 : bm ≠ pg
  n8 : bg ≠ pm
  n9 : bg ≠ pg
  g1 : K ≤ bo
  g2 : K ≤ bm
  g3 : K ≤ bg
theorem TSt.below {n bo bm bg pm pg : Nat} {fo : Nat → Bool} {fb fg : ByteArray → Option Bool} {c5 c6 : Nat} {w2 wr w' : World} (h : TSt n bo bm bg pm pg fo fb fg c5 c6 w2 wr) (hb : Below wr.heap.size wr w') : TSt n bo bm bg pm pg fo fb fg c5 c6 w2 w' := by
  have h1 := h.lo
  have h2 := h.l1
  have h3 := h.l2
  have hs := hb.size
  exact ⟨h.ro.below hb h1, h.mb.below hb h.mb.lt, h.mg.below hb h.mg.lt, (hb.cell (p := ⟨pm, 0, none⟩) h2).trans h.p1, (hb.cell (p := ⟨pg, 0, none⟩) h3).trans h.p2, h.bel.trans (hb.mono h.bel.size), by omega, by omega, by omega⟩
theorem TSt.putO {n bo bm bg pm pg : Nat} {fo fo' : Nat → Bool} {fb fg : ByteArray → Option Bool} {c5 c6 : Nat} {w2 wr w' : World} (h : TSt n bo bm bg pm pg fo fb fg c5 c6 w2 wr) (e : TNe w2.heap.size bo bm bg pm pg) (hr : BRow w' bo n fo') (hg : wr.grownBy w' (some bo)) : TSt n bo bm bg pm pg fo' fb fg c5 c6 w2 w' := by
  obtain ⟨n1, n2, n3, n4, n5, n6, n7, n8, n9, g1, g2, g3⟩ := e
  have h1 := h.lo
  have h2 := h.l1
  have h3 := h.l2
  have hs := hg.size
  exact ⟨hr, h.mb.kept hg (by simp; omega), h.mg.kept hg (by simp; omega), hg.cell h.p1 (by simp; omega), hg.cell h.p2 (by simp; omega), h.bel.trans (grown_below hg (by omega) h.bel.size), by omega, by omega, by omega⟩
theorem TSt.putB {n bo bm bg pm pg : Nat} {fo : Nat → Bool} {fb fb' fg : ByteArray → Option Bool} {c5 c6 c5' : Nat} {w2 wr w' : World} (h : TSt n bo bm bg pm pg fo fb fg c5 c6 w2 wr) (e : TNe w2.heap.size bo bm bg pm pg) (hr : TMap KS valS w' bm fb' c5') (hg : wr.grownBy w' (some bm)) : TSt n bo bm bg pm pg fo fb' fg c5' c6 w2 w' := by
  obtain ⟨n1, n2, n3, n4, n5, n6, n7, n8, n9, g1, g2, g3⟩ := e
  have h1 := h.lo
  have h2 := h.l1
  have h3 := h.l2
  have hs := hg.size
  exact ⟨h.ro.kept hg (by simp; omega), hr, h.mg.kept hg (by simp; omega), hg.cell h.p1 (by simp; omega), hg.cell h.p2 (by simp; omega), h.bel.trans (grown_below hg (by omega) h.bel.size), by omega, by omega, by omega⟩
theorem TSt.putG {n bo bm bg pm pg : Nat} {fo : Nat → Bool} {fb fg fg' : ByteArray → Option Bool} {c5 c6 c6' : Nat} {w2 wr w' : World} (h : TSt n bo bm bg pm pg fo fb fg c5 c6 w2 wr) (e : TNe w2.heap.size bo bm bg pm pg) (hr : TMap KS valS w' bg fg' c6') (hg : wr.grownBy w' (some bg)) : TSt n bo bm bg pm pg fo fb fg' c5 c6' w2 w' := by
  obtain ⟨n1, n2, n3, n4, n5, n6, n7, n8, n9, g1, g2, g3⟩ := e
  have h1 := h.lo
  have h2 := h.l1
  have h3 := h.l2
  have hs := hg.size
  exact ⟨h.ro.kept hg (by simp; omega), h.mb.kept hg (by simp; omega), hr, hg.cell h.p1 (by simp; omega), hg.cell h.p2 (by simp; omega), h.bel.trans (grown_below hg (by omega) h.bel.size), by omega, by omega, by omega⟩
def TnRel (l : List Claimed) (m : List Audit) (n bo bm bg pm pg : Nat) (w2 : World) (i : Value) (wr : World) : Prop :=
  ∃ k c5 c6 : Nat, k ≤ n ∧ i = .int .i64 k ∧ TSt n bo bm bg pm pg (pre l m k) (setF (badF l m k)) (setF (goodF l m k)) c5 c6 w2 wr ∧ c5 ≤ k ∧ c6 ≤ k

theorem chain5 (w1 : World) (o1 o2 o3 o4 o5 : Obj) :
    (((((w1.alloc o1).alloc o2).alloc o3).alloc o4).alloc o5).heap[w1.heap.size]? = some o1 ∧ (((((w1.alloc o1).alloc o2).alloc o3).alloc o4).alloc o5).heap[w1.heap.size + 1]? = some o2 ∧
    (((((w1.alloc o1).alloc o2).alloc o3).alloc o4).alloc o5).heap[w1.heap.size + 1 + 1]? = some o3 ∧ (((((w1.alloc o1).alloc o2).alloc o3).alloc o4).alloc o5).heap[w1.heap.size + 1 + 1 + 1]? = some o4 ∧
    (((((w1.alloc o1).alloc o2).alloc o3).alloc o4).alloc o5).heap[w1.heap.size + 1 + 1 + 1 + 1]? = some o5 ∧
    (((((w1.alloc o1).alloc o2).alloc o3).alloc o4).alloc o5).heap.size = w1.heap.size + 5 ∧ Below w1.heap.size w1 (((((w1.alloc o1).alloc o2).alloc o3).alloc o4).alloc o5) := by
  have hb : Below w1.heap.size w1 (((((w1.alloc o1).alloc o2).alloc o3).alloc o4).alloc o5) := by
    refine (((((Below.refl _ _).alloc ?_ _).alloc ?_ _).alloc ?_ _).alloc ?_ _).alloc ?_ _ <;> simp <;> omega
  obtain ⟨a1, p1⟩ := MapKept.heap_alloc w1 o1
  obtain ⟨a2, p2⟩ := MapKept.heap_alloc (w1.alloc o1) o2
  obtain ⟨a3, p3⟩ := MapKept.heap_alloc ((w1.alloc o1).alloc o2) o3
  obtain ⟨a4, p4⟩ := MapKept.heap_alloc (((w1.alloc o1).alloc o2).alloc o3) o4
  obtain ⟨a5, p5⟩ := MapKept.heap_alloc ((((w1.alloc o1).alloc o2).alloc o3).alloc o4) o5
  simp only [World.size_alloc] at a2 p2 a3 p3 a4 p4 a5 p5
  refine ⟨?_, ?_, ?_, ?_, a5, ?_, hb⟩
  · exact (p5 _ (by omega)).trans ((p4 _ (by omega)).trans ((p3 _ (by omega)).trans ((p2 _ (by omega)).trans a1)))
  · exact (p5 _ (by omega)).trans ((p4 _ (by omega)).trans ((p3 _ (by omega)).trans a2))
  · exact (p5 _ (by omega)).trans ((p4 _ (by omega)).trans a3)
  · exact (p5 _ (by omega)).trans a4
  · simp only [World.size_alloc]
theorem rel_tru {l : List Claimed} {m : List Audit} {n bo bm bg pm pg k c5 c6 : Nat} {w2 W w7 : World} {x : Claimed} (hne : TNe w2.heap.size bo bm bg pm pg) (hst : TSt n bo bm bg pm pg (pre l m (k + 1)) (setF (badF l m k)) (setF (goodF l m (k + 1))) c5 c6 w2 W) (hv : tStep l m (pre l m k) k = true) (hri : resOf l k = x.result)
    (hlt : k < n) (h5 : c5 ≤ k) (h6 : c6 ≤ k) (hm : TMap KS valS w7 bm (upd (setF (badF l m k)) x.result true) (if (setF (badF l m k) x.result).isSome = true then c5 else c5 + 1)) (hg : W.grownBy w7 (some bm)) : TnRel l m n bo bm bg pm pg w2 (.int .i64 (k + 1)) w7 := by
  refine ⟨k + 1, _, c6, hlt, by go_num, ?_, Nat.le_trans (ite_le_succ ((setF (badF l m k) x.result).isSome = true) c5) (by omega), by omega⟩
  rw [setF_upd] at hm
  have hbs := bad_step hv
  rw [hri] at hbs
  rw [hbs]
  exact hst.putB hne hm hg
theorem rel_fls {l : List Claimed} {m : List Audit} {n bo bm bg pm pg k c5 c6 : Nat} {w2 W w7 : World} {x : Claimed} (hne : TNe w2.heap.size bo bm bg pm pg) (hst : TSt n bo bm bg pm pg (pre l m (k + 1)) (setF (badF l m (k + 1))) (setF (goodF l m k)) c5 c6 w2 W) (hv : tStep l m (pre l m k) k = false) (hri : resOf l k = x.result)
    (hlt : k < n) (h5 : c5 ≤ k) (h6 : c6 ≤ k) (hm : TMap KS valS w7 bg (upd (setF (goodF l m k)) x.result true) (if (setF (goodF l m k) x.result).isSome = true then c6 else c6 + 1)) (hg : W.grownBy w7 (some bg)) : TnRel l m n bo bm bg pm pg w2 (.int .i64 (k + 1)) w7 := by
  refine ⟨k + 1, c5, _, hlt, by go_num, ?_, by omega, Nat.le_trans (ite_le_succ ((setF (goodF l m k) x.result).isSome = true) c6) (by omega)⟩
  rw [setF_upd] at hm
  have hbs := good_step hv
  rw [hri] at hbs
  rw [hbs]
  exact hst.putG hne hm hg
/-- behind the store of what is so of the k-th -/
theorem TSt.sto {l : List Claimed} {m : List Audit} {n bo bm bg pm pg k c5 c6 : Nat} {w2 W : World} {v : Bool} (hst : TSt n bo bm bg pm pg (pre l m k) (setF (badF l m k)) (setF (goodF l m k)) c5 c6 w2 W) (hne : TNe w2.heap.size bo bm bg pm pg) (hv : tStep l m (pre l m k) k = v) :
    TSt n bo bm bg pm pg (pre l m (k + 1)) (setF (badF l m (if v = true then k else k + 1))) (setF (goodF l m (if v = true then k + 1 else k))) c5 c6 w2 (W.setCell ⟨bo, k, none⟩ (.bool v)) := by
  have h := hst.putO hne (hst.ro.set (k := k) v) (grown_setc W ⟨bo, k, none⟩ (.bool v))
  rw [pre_upd, hv]
  cases v
  · rw [if_neg (by decide), if_neg (by decide), bad_keep hv]; exact h
  · rw [if_pos rfl, if_pos rfl, good_keep hv]; exact h

end Go.Proofs.YtgegdfmdcmgliaaGreatDoor.C11

namespace Go.Proofs.YtgegdfmdcmgliaaGreatDoor.C11
open Go.RowKit
set_option linter.unusedVariables false

theorem wrB_app {l : List Claimed} {m : List Audit} {a : Audit} (h : badA l a = false) : wrB l (m ++ [a]) = wrB l m := by
  funext j
  unfold wrB
  rw [List.any_append, List.any_cons, List.any_nil, Bool.or_false, h, Bool.and_false, Bool.or_false]
theorem suB_app {l : List Claimed} {m : List Audit} {a : Audit} (h : badA l a = false) : suB l (m ++ [a]) = suB l m := by
  rw [suB_snoc, if_neg (by rw [h]; decide)]
theorem audB_app {m : List Audit} {a : Audit} {j : Nat} (h : audB m j = true) : audB (m ++ [a]) j = true := by
  unfold audB at h ⊢
  rw [List.any_append, h, Bool.true_or]
theorem endB_congr {l : List Claimed} {m m' : List Audit} (h : wrB l m' = wrB l m) : ∀ k s, endB l m' k s = endB l m k s
  | 0, s => rfl
  | k + 1, s => by
    show (endB l m' k s || (wrB l m' k && decide (wriOf l k = s))) = (endB l m k s || (wrB l m k && decide (wriOf l k = s)))
    rw [endB_congr h k s, h]
theorem rgt_mono {l : List Claimed} {m m' : List Audit} (hw : wrB l m' = wrB l m) (ha : ∀ j, audB m j = true → audB m' j = true) : ∀ k s, rgt l m k s ≤ rgt l m' k s
  | 0, s => Int.le_refl _
  | k + 1, s => by
    show (if (!wrB l m k && (audB m k && !endB l m k (wriOf l k)) && decide (wriOf l k = s)) = true then (k : Int) else rgt l m k s) ≤ (if (!wrB l m' k && (audB m' k && !endB l m' k (wriOf l k)) && decide (wriOf l k = s)) = true then (k : Int) else rgt l m' k s)
    rw [hw, endB_congr hw]
    have r1 := rgt_range l m k s
    have r2 := rgt_mono hw ha k s
    have h := ha k
    by_cases hc : (!wrB l m k && (audB m k && !endB l m k (wriOf l k)) && decide (wriOf l k = s)) = true
    · have hc' : (!wrB l m k && (audB m' k && !endB l m k (wriOf l k)) && decide (wriOf l k = s)) = true := by
        simp only [Bool.and_eq_true] at hc ⊢
        exact ⟨⟨hc.1.1, h hc.1.2.1, hc.1.2.2⟩, hc.2⟩
      rw [if_pos hc, if_pos hc']
      exact Int.le_refl _
    · rw [if_neg hc]
      split <;> omega
theorem anyB_mono {l : List Claimed} {f g : Nat → Bool} : ∀ (k : Nat) (u : ByteArray), (∀ j, j < k → f j = true → g j = true) → anyB l f k u = true → anyB l g k u = true
  | 0, u, _, h => h
  | k + 1, u, hf, h => by
    have h : (anyB l f k u || (f k && decide (resOf l k = u))) = true := h
    show (anyB l g k u || (g k && decide (resOf l k = u))) = true
    rw [Bool.or_eq_true, Bool.and_eq_true] at h ⊢
    rcases h with h | h
    · exact .inl (anyB_mono k u (fun j hj => hf j (by omega)) h)
    · exact .inr ⟨hf k (by omega) h.1, h.2⟩
theorem tStep_mono {l : List Claimed} {m m' : List Audit} (hw : wrB l m' = wrB l m) (hs : suB l m' = suB l m) (ha : ∀ j, audB m j = true → audB m' j = true) {f f' : Nat → Bool} {k : Nat} (hf : ∀ j, j < k → f' j = true → f j = true)
    (h : tStep l m' f' k = true) : tStep l m f k = true := by
  unfold tStep at h ⊢
  rw [Bool.or_eq_true, Bool.or_eq_true] at h ⊢
  rw [hw, hs] at h
  rcases h with (h | h) | h
  · exact .inl (.inl h)
  · refine .inl (.inr ?_)
    simp only [Bool.and_eq_true, Bool.not_eq_true', decide_eq_true_iff] at h ⊢
    have hr := rgt_mono hw ha l.length (wriOf l k)
    refine ⟨⟨h.1.1, ?_⟩, by omega⟩
    cases e : audB m k
    · rfl
    · have := ha k e
      rw [h.1.2] at this
      cases this
  · refine .inr ?_
    rw [List.any_eq_true] at h ⊢
    obtain ⟨u, hu, h⟩ := h
    refine ⟨u, hu, ?_⟩
    simp only [Bool.and_eq_true, Bool.not_eq_true'] at h ⊢
    refine ⟨anyB_mono k u hf h.1, ?_⟩
    cases e : anyB l (fun j => !f j) k u
    · rfl
    · have := anyB_mono (g := fun j => !f' j) k u (fun j hj hj2 => by
        cases e2 : f' j
        · rfl
        · have := hf j hj e2
          simp [this] at hj2) e
      rw [h.2] at this
      cases this
theorem tntB_mono {l : List Claimed} {m m' : List Audit} (hw : wrB l m' = wrB l m) (hs : suB l m' = suB l m) (ha : ∀ j, audB m j = true → audB m' j = true) : ∀ k, k < l.length → tntB l m' k = true → tntB l m k = true := by
  intro k
  induction k using Nat.strongRecOn with
  | _ k ih =>
    intro hk h
    rw [tntB_eq l m' k hk] at h
    rw [tntB_eq l m k hk]
    exact tStep_mono hw hs ha (fun j hj => ih j hj (by omega)) h
/-- the further audit taints nothing more -/
theorem tntB_right {l : List Claimed} {m : List Audit} {a : Audit} (h : badA l a = false) {k : Nat} (hk : k < l.length) (ht : tntB l (m ++ [a]) k = true) : tntB l m k = true :=
  tntB_mono (wrB_app h) (suB_app h) (fun j hj => audB_app hj) k hk ht
theorem nums_right {l : List Claimed} {m : List Audit} {a : Audit} (h : badA l a = false) {z : Int} (hz : z ∈ numsN (tntB l (m ++ [a])) l.length) : z ∈ numsN (tntB l m) l.length := by
  obtain ⟨i, h1, h2, h3⟩ := numsN_mem.1 hz
  exact numsN_mem.2 ⟨i, h1, tntB_right h h1 h2, h3⟩
/-- its own faults: only too many audits -/
theorem auditsErr_snoc {l : List Claimed} {a : Audit} : ∀ (m : List Audit) (p : Option Int), auditsErr l p m = 0 → auditF l (if m = [] then p else (m.getLast?).map (·.at_)) a = 0 → auditsErr l p (m ++ [a]) = 0
  | [], p, _, h => by
    show (if auditF l p a = 0 then auditsErr l (some a.at_) [] else auditF l p a) = 0
    rw [if_pos rfl] at h
    rw [if_pos h]; rfl
  | b :: r, p, h1, h => by
    rw [auditsErr] at h1
    show (if auditF l p b = 0 then auditsErr l (some b.at_) (r ++ [a]) else auditF l p b) = 0
    by_cases hb : auditF l p b = 0
    · rw [if_pos hb] at h1 ⊢
      refine auditsErr_snoc r _ h1 ?_
      rw [if_neg (by simp)] at h
      by_cases hr : r = []
      · subst hr; exact h
      · rw [if_neg hr]
        rw [List.getLast?_cons] at h
        rw [List.getLast?_eq_some_getLast hr] at h ⊢
        exact h
    · rw [if_neg hb] at h1; exact absurd h1 hb
/-- the greatest moment -/
def maxAt (b : Int) : List Audit → Int
  | [] => b
  | a :: r => maxAt (max b a.at_) r
theorem maxAt_snoc : ∀ (m : List Audit) (b : Int) (a : Audit), maxAt b (m ++ [a]) = max (maxAt b m) a.at_
  | [], b, a => rfl
  | c :: r, b, a => maxAt_snoc r _ a
theorem maxAt_ge : ∀ (m : List Audit) (b : Int), b ≤ maxAt b m
  | [], b => Int.le_refl _
  | c :: r, b => by
    have := maxAt_ge r (max b c.at_)
    show b ≤ maxAt (max b c.at_) r
    omega
theorem maxAt_mem : ∀ (m : List Audit) (b : Int), ∀ a ∈ m, a.at_ ≤ maxAt b m
  | c :: r, b, a, h => by
    rcases List.mem_cons.1 h with rfl | h
    · have := maxAt_ge r (max b a.at_)
      show a.at_ ≤ maxAt (max b a.at_) r
      omega
    · exact maxAt_mem r _ a h
theorem maxAt_le : ∀ (m : List Audit) (b C : Int), b ≤ C → (∀ a ∈ m, a.at_ ≤ C) → maxAt b m ≤ C
  | [], b, C, h, _ => h
  | c :: r, b, C, h, hm => by
    have := hm c List.mem_cons_self
    exact maxAt_le r _ C (by omega) (fun a ha => hm a (List.mem_cons_of_mem _ ha))
theorem audits_right {l : List Claimed} {m : List Audit} {k : Nat} {x : Claimed} (h : auditsF l m = 0) (hx : l[k]? = some x) :
    auditsF l (m ++ [⟨(k : Int), x.result, maxAt x.at_ m⟩]) = if m.length + 1 ≤ 1000 then 0 else 2 := by
  obtain ⟨h1, h2, h3⟩ := auditsF_zero h
  obtain ⟨_, h5⟩ := logF_zero h1
  obtain ⟨hc, _⟩ := logErr_each l none h5 x (List.mem_of_getElem? hx)
  have hk := (List.getElem?_eq_some_iff.1 hx).1
  have hdig : digB x.result = true := by
    unfold claimedF at hc
    by_cases g1 : digB x.key = true
    · rw [if_pos g1] at hc
      by_cases g2 : labelL x.label.data.toList = true
      · rw [if_pos g2] at hc
        by_cases g3 : digB x.result = true
        · exact g3
        · rw [if_neg g3] at hc; cases hc
      · rw [if_neg g2] at hc; cases hc
    · rw [if_neg g1] at hc; cases hc
  have hok := claimed_ok hc
  have heach := auditsErr_each l m none h3
  have hmx : maxAt x.at_ m ≤ 1000000000 := maxAt_le m _ _ hok.at1 (fun a ha => (heach a ha).2.2.2)
  have hge := maxAt_ge m x.at_
  have hat : atOf l (k : Int) = x.at_ := by rw [atOf, show (k : Int).toNat = k from rfl, hx]
  unfold auditsF
  rw [if_pos h1, List.length_append, List.length_singleton]
  by_cases hl : m.length + 1 ≤ 1000
  · rw [if_pos hl, if_pos hl]
    refine auditsErr_snoc m none h3 ?_
    unfold auditF
    simp only
    rw [if_pos (inR_of ⟨by omega, by omega⟩), if_pos hdig, hat, if_pos (inR_of ⟨hge, hmx⟩), if_neg]
    by_cases hm : m = []
    · rw [if_pos hm]; simp
    · rw [if_neg hm, List.getLast?_eq_some_getLast hm]
      simp only [Option.map_some, Option.some.injEq, decide_eq_true_iff]
      have := maxAt_mem m x.at_ _ (List.getLast_mem hm)
      omega
  · rw [if_neg hl, if_neg hl]
theorem badA_right {l : List Claimed} {k : Nat} {x : Claimed} (hx : l[k]? = some x) (t : Int) : badA l ⟨(k : Int), x.result, t⟩ = false := by
  unfold badA
  simp only
  rw [resOf_get hx]
  simp
/-- what Tainted hands back -/
def taintR (l : List Claimed) (m : List Audit) : List Int × Int := if auditsF l m = 0 then (numsN (tntB l m) l.length, 0) else ([], auditsF l m)
end Go.Proofs.YtgegdfmdcmgliaaGreatDoor.C11

namespace Go.Proofs.YtgegdfmdcmgliaaGreatDoor.C11
open Go.RowKit
set_option linter.unusedVariables false

theorem audits_range {l : List Claimed} {m : List Audit} (h : auditsF l m = 0) : l.length ≤ 1000 ∧ m.length ≤ 1000 ∧ ∀ a ∈ m, 0 ≤ a.number ∧ a.number < l.length := by
  obtain ⟨h1, h2, h3⟩ := auditsF_zero h
  exact ⟨(logF_zero h1).1, h2, fun a ha => (auditsErr_each l m none h3 a ha).1⟩
/-- what a function of a log and audits hands back that gives numbers -/
def NumsAns (L : List Int) (c : Int) (w0 : World) (e : Ending) (w' : World) : Prop :=
  ∃ (A : Option Addr) (n cap : Nat), e = .returned (.tuple #[.slice A n cap, .int .i64 c]) ∧ SlAt RInt w' A n L ∧ n ≤ 1000 ∧ Below w0.heap.size w0 w'
theorem slAt_nilI (w : World) : SlAt RInt w none 0 [] := ⟨rfl, fun h => by omega, fun x hx => by cases hx⟩

end Go.Proofs.YtgegdfmdcmgliaaGreatDoor.C11

namespace Go.Proofs.YtgegdfmdcmgliaaGreatDoor.C11
open Go.RowKit
set_option linter.unusedVariables false

def duN (l : List Claimed) (m : List Audit) (every round : Int) (k : Nat) : Nat → Bool := fun j => if j < k then dueB l m every round j else false
theorem duN_step (l : List Claimed) (m : List Audit) (every round : Int) (k : Nat) : duN l m every round (k + 1) = fun j => if j = k then dueB l m every round k else duN l m every round k j := by
  funext j
  unfold duN
  by_cases h : j = k
  · subst h; rw [if_pos (by omega), if_pos rfl]
  · rw [if_neg h]
    by_cases h2 : j < k
    · rw [if_pos h2, if_pos (by omega)]
    · rw [if_neg h2, if_neg (by omega)]
theorem duN_all (l : List Claimed) (m : List Audit) (every round : Int) (n : Nat) : numsN (duN l m every round n) n = numsN (dueB l m every round) n :=
  numsN_congr n fun j hj => by unfold duN; rw [if_pos hj]
def DuRel (l : List Claimed) (m : List Audit) (every round : Int) (n b : Nat) (w3 : World) (i : Value) (wr : World) : Prop :=
  ∃ k : Nat, k ≤ n ∧ i = .int .i64 k ∧ BRow wr b n (duN l m every round k) ∧ Below w3.heap.size w3 wr ∧ b < wr.heap.size
theorem DuRel.put {l : List Claimed} {m : List Audit} {every round : Int} {n k b : Nat} {w3 W W' : World} {v : Bool} (hlt : k < n) (hw : w3.heap.size ≤ b) (hro : BRow W b n (duN l m every round k)) (hb : Below w3.heap.size w3 W) (hlo : b < W.heap.size) (hv : dueB l m every round k = v) (hW : W' = W.setCell ⟨b, k, none⟩ (.bool v)) :
    DuRel l m every round n b w3 (.int .i64 (k + 1)) W' := by
  subst hW
  refine ⟨k + 1, hlt, by go_num, ?_, hb.trans (grown_below (grown_setc W ⟨b, k, none⟩ (.bool v)) hw (by omega)), by simpa using hlo⟩
  rw [duN_step, hv]
  exact hro.set (k := k) v

set_option maxRecDepth 100000 in
set_option maxHeartbeats 8000000 in
theorem Due_any (A : Option Addr) (n c : Nat) (l : List Claimed) (B : Option Addr) (mn mc : Nat) (m : List Audit) (every round : Int) (w : World) (hm : MaxLenAt w) (ht : PowTab w) (hl : SlAt RClaimed w A n l) (hma : SlAt RAudit w B mn m) (he : I64 every) (hr : I64 round) (L : List Int) (cc : Int) (hF : dueR l m every round = (L, cc)) :
    Calls Tryz.prog 7 #[.slice A n c, .slice B mn mc, .int .i64 every, .int .i64 round] w (NumsAns L cc w) := by
  unfold dueR dueF at hF
  obtain ⟨d, hd⟩ : ∃ d, auditsF l m = d := ⟨_, rfl⟩
  rw [hd] at hF
  have hmH := Lib.hid hm
  clear hm
  have hlH := Lib.hid hl
  clear hl
  have hmaH := Lib.hid hma
  clear hma
  have hdH := Lib.hid hd
  clear hd
  have htH := Lib.hid ht
  clear ht
  have hrH := Lib.hid hr
  clear hr
  go_enter Tryz.func7, Tryz.ntmps7
  go_wp2_with fail
  refine (audits_any A n c l B mn mc m _ hmH.out hlH.out hmaH.out d hdH.out).mono ?_
  rintro e w1 ⟨rfl, hb1⟩
  have hb1H := Lib.hid hb1
  clear hb1
  by_cases e0 : d = 0
  · subst e0
    rw [if_pos rfl] at hF
    cases hev : inR 1 1000000 every
    · obtain ⟨rfl, rfl⟩ : [] = L ∧ 1 = cc := by simpa [hev] using hF
      clear hF
      go_wp2_with (go_at_call 20; refine (within_p _ _ _ _).mono ?_; rintro e wz ⟨rfl, rfl⟩)
      go_ret2
      exact ⟨none, 0, 0, rfl, slAt_nilI _, by omega, hb1H.out⟩
    · cases hro : inR 0 1000000000 round
      · obtain ⟨rfl, rfl⟩ : [] = L ∧ 1 = cc := by simpa [hev, hro] using hF
        clear hF
        go_wp2_with (go_at_call 20; refine (within_p _ _ _ _).mono ?_; rintro e wz ⟨rfl, rfl⟩)
        go_ret2
        exact ⟨none, 0, 0, rfl, slAt_nilI _, by omega, hb1H.out⟩
      · obtain ⟨hL, rfl⟩ : numsN (dueB l m every round) l.length = L ∧ 0 = cc := by simpa [hev, hro] using hF
        have hevr := inR_true hev
        obtain ⟨h1, h2, h3⟩ := audits_range hdH.out
        have hkz : ∀ x ∈ l, x.key.size ≤ 16 := fun x hx => by
          have := (claimed_ok (logErr_each l none (logF_zero (auditsF_zero hdH.out).1).2 x hx).1).key
          omega
        have hll := hlH.out.1
        have hml := hmaH.out.1
        have hn : n ≤ 1000 := by omega
        have hmn : mn ≤ 1000 := by omega
        have h4 : ∀ a ∈ m, 0 ≤ a.number ∧ a.number < n := fun a ha => by have := h3 a ha; omega
        have hmkB := run_makeB n (by omega)
        clear h1 h2 h3 hml hF
        have hLH := Lib.hid hL
        clear hL
        have hllH := Lib.hid hll
        clear hll
        have h4H := Lib.hid h4
        clear h4
        have hevrH := Lib.hid hevr
        clear hevr
        have hkzH := Lib.hid hkz
        clear hkz
        go_wp2_with (first | (go_at_call 20; refine (within_p _ _ _ _).mono ?_; rintro e wz ⟨rfl, rfl⟩) | fail)
        refine (facts_any A n c l B mn mc m _ hn hmn (hlH.out.below hb1H.out) (hmaH.out.below hb1H.out) h4H.out).mono ?_
        rintro e w2 ⟨b1, b2, b3, c3, rfl, hf, hb2⟩
        have hbb := hb1H.out.trans (hb2.mono hb1H.out.size)
        clear hb2
        obtain ⟨w3, hw3⟩ : ∃ W, W = w2.alloc (.cells #[.slice (some ⟨b1, 0, none⟩) n n, .slice (some ⟨b2, 0, none⟩) n n, .map (some b3)] 47) := ⟨_, rfl⟩
        have hw3s : w3.heap.size = w2.heap.size + 1 := by rw [hw3]; simp
        have hf3 : FactsOk l m n b1 b2 b3 c3 w3 := by rw [hw3]; exact hf.below ((Below.refl w2.heap.size w2).alloc (Nat.le_refl _) _) (Nat.le_refl _)
        have hb3 : Below w.heap.size w w3 := by rw [hw3]; exact hbb.alloc hbb.size _
        have e0 : w3.cell? ⟨w2.heap.size, 0, none⟩ = some (.slice (some ⟨b1, 0, none⟩) n n) := by rw [hw3]; exact cell_new w2 _ _ 0
        have e2 : w3.cell? ⟨w2.heap.size, 2, none⟩ = some (.map (some b3)) := by rw [hw3]; exact cell_new w2 _ _ 2
        clear hf hbb
        have hf3H := Lib.hid hf3
        clear hf3
        have hb3H := Lib.hid hb3
        clear hb3
        have hw3H := Lib.hid hw3
        clear hw3
        go_wp2_with fail
        rw [← hw3H.out]
        clear hw3H
        have hw3sH := Lib.hid hw3s
        clear hw3s
        have e0H := Lib.hid e0
        clear e0
        have e2H := Lib.hid e2
        clear e2
        go_loopw [37] (fun i wr => DuRel l m every round n (w2.heap.size + 1) w3 i wr) (fun i _ => n - (intOf i).toNat)
        case atStart =>
          refine ⟨0, Nat.zero_le _, rfl, ?_, (Below.refl _ _).alloc (Nat.le_refl _) _, by have := hw3sH.out; simp; omega⟩
          have := BRow.made w3 n
          rw [hw3sH.out] at this
          have e : duN l m every round 0 = fun _ => false := by funext j; unfold duN; rw [if_neg (by omega)]
          rw [e]; exact this
        case round =>
          obtain ⟨k, hk, rfl, hrow, hb, hlo⟩ := hrel
          by_cases hlt : k < n
          · obtain ⟨b, off, hA, _⟩ := hlH.out.2.1 (by omega)
            subst hA
            obtain ⟨x, hx⟩ : ∃ x, l[k]? = some x := ⟨l[k]'(by have := hllH.out; omega), List.getElem?_eq_getElem _⟩
            have hbr : Below w.heap.size w wr := hb3H.out.trans (hb.mono hb3H.out.size)
            obtain ⟨d0, d1, d2, d3, d4, d5, d6⟩ := cells_Claimed (hlH.out.below hbr) hx
            have hxok := hlH.out.2.2 x (List.mem_of_getElem? hx)
            have hwz : x.writer.size ≤ maxLen := hxok.2.2.2.1
            have hkz := hkzH.out x (List.mem_of_getElem? hx)
            have hwi := wriOf_get hx
            have hky := keyOf_get hx
            have hal := (Below.refl wr.heap.size wr).alloc (Nat.le_refl _) (.cells #[.string x.key, .string x.label, .string x.result, .string x.writer, .int .i64 x.at_, .slice x.uses.A x.uses.n x.uses.cap, .string x.sign] 51)
            have hrowa := hrow.below hal hlo
            have hf := (hf3H.out.below hb (Nat.le_refl _)).below hal (Nat.le_refl _)
            obtain ⟨ga, _⟩ := hf.ra k hlt
            have g0 := (hb.cell (p := ⟨w2.heap.size, 0, none⟩) (by show w2.heap.size < w3.heap.size; have := hw3sH.out; omega)).trans e0H.out
            have g2 := (hb.cell (p := ⟨w2.heap.size, 2, none⟩) (by show w2.heap.size < w3.heap.size; have := hw3sH.out; omega)).trans e2H.out
            replace g0 := (hal.cell (p := ⟨w2.heap.size, 0, none⟩) (by show w2.heap.size < wr.heap.size; have := hw3sH.out; omega)).trans g0
            replace g2 := (hal.cell (p := ⟨w2.heap.size, 2, none⟩) (by show w2.heap.size < wr.heap.size; have := hw3sH.out; omega)).trans g2
            have hba := hb.trans (hal.mono hb.size)
            have hloa : w2.heap.size + 1 < (wr.alloc (.cells #[.string x.key, .string x.label, .string x.result, .string x.writer, .int .i64 x.at_, .slice x.uses.A x.uses.n x.uses.cap, .string x.sign] 51)).heap.size := by simp; omega
            obtain ⟨p2, z2⟩ := hrowa k hlt
            have hpt := fun (v : Bool) (hv : dueB l m every round k = v) => DuRel.put (v := v) hlt (by have := hw3sH.out; omega) hrowa hba hloa hv rfl
            have hI : I64 (k : Int) := ⟨by omega, by omega⟩
            obtain ⟨vk, hvk⟩ : ∃ v, dueB l m every round k = v := ⟨_, rfl⟩
            have hvk2 := hvk
            unfold dueB at hvk2
            rw [hwi, hky] at hvk2
            have hhe := hevrH.out
            have hm3 := htH.out.below (hbr.trans (hal.mono hbr.size))
            cases haB : audB m k
            · rw [haB] at ga hvk2
              cases hsB : suB l m x.writer
              · rw [hsB, Bool.not_false, Bool.true_and, Bool.false_or] at hvk2
                have lk := lookS hf.mp x.writer hwz false hsB
                obtain ⟨g, hg⟩ : ∃ g, lotF round k x.key every = g := ⟨_, rfl⟩
                rw [hg] at hvk2
                have hgi : I64 g := by
                  rw [← hg]; unfold lotF
                  have h1 := Int.emod_nonneg (lotN round k x.key : Int) (by omega : every ≠ 0)
                  have h2 := Int.emod_lt_of_pos (lotN round k x.key : Int) (by omega : 0 < every)
                  exact ⟨by omega, by omega⟩
                clear hpt hf hxok p2 z2
                have hxH := Lib.hid hx
                clear hx
                have hbrH := Lib.hid hbr
                clear hbr
                have halH := Lib.hid hal
                clear hal
                have hrowH := Lib.hid hrow
                clear hrow
                have hrowaH := Lib.hid hrowa
                clear hrowa
                have hbH := Lib.hid hb
                clear hb
                have hbaH := Lib.hid hba
                clear hba
                have hwzH := Lib.hid hwz
                clear hwz
                have hkzH := Lib.hid hkz
                clear hkz
                have hwiH := Lib.hid hwi
                clear hwi
                have hkyH := Lib.hid hky
                clear hky
                have hgH := Lib.hid hg
                clear hg
                have hm3H := Lib.hid hm3
                clear hm3
                have hIH := Lib.hid hI
                clear hI
                have hheH := Lib.hid hhe
                clear hhe
                have hloaH := Lib.hid hloa
                clear hloa
                have hvkH := Lib.hid hvk
                clear hvk
                have hloH := Lib.hid hlo
                clear hlo
                go_wp2_with fail
                refine (lot_any round k every x.key _ hm3H.out hrH.out hIH.out hkzH.out hheH.out.1 hheH.out.2 g hgH.out).mono ?_
                rintro e w5 ⟨rfl, hb5⟩
                have hrow5 := hrowaH.out.below hb5 hloaH.out
                have hb35 := hbaH.out.trans (hb5.mono hbaH.out.size)
                have hs5 := hb5.size
                have hlo5 : w2.heap.size + 1 < w5.heap.size := Nat.lt_of_lt_of_le hloaH.out hs5
                obtain ⟨p2, z2⟩ := hrow5 k hlt
                have R := DuRel.put (v := vk) hlt (by have := hw3sH.out; omega) hrow5 hb35 hlo5 hvkH.out rfl
                clear hb5 hs5 hb35 hlo5 hrow5
                by_cases h0 : g = 0
                · obtain rfl : true = vk := by rw [← hvk2, decide_eq_true h0]
                  subst h0
                  have RH := Lib.hid R
                  clear R
                  go_wp2
                  refine ⟨?rel, ?measure⟩
                  case measure => (simp [intOf]; omega)
                  case rel => first | exact RH.out | exact ⟨rfl, RH.out⟩ | ((try refine ⟨rfl, ?_⟩); (repeat apply Exists.intro); refine ⟨RH.out, ?_⟩; ((repeat' apply And.intro) <;> rfl))
                · obtain rfl : false = vk := by rw [← hvk2, decide_eq_false h0]
                  have h0b : (g == 0) = false := by simpa using h0
                  have RH := Lib.hid R
                  clear R
                  go_wp2
                  refine ⟨?rel, ?measure⟩
                  case measure => (simp [intOf]; omega)
                  case rel => first | exact RH.out | exact ⟨rfl, RH.out⟩ | ((try refine ⟨rfl, ?_⟩); (repeat apply Exists.intro); refine ⟨RH.out, ?_⟩; ((repeat' apply And.intro) <;> rfl))
              · have lk := lookS hf.mp x.writer hwz true hsB
                obtain rfl : true = vk := by rw [← hvk2, hsB]; rfl
                have R := hpt true hvk
                clear hpt hf hxok hvk hvk2 hm3
                have hxH := Lib.hid hx
                clear hx
                have hbrH := Lib.hid hbr
                clear hbr
                have halH := Lib.hid hal
                clear hal
                have hrowH := Lib.hid hrow
                clear hrow
                have hrowaH := Lib.hid hrowa
                clear hrowa
                have hbH := Lib.hid hb
                clear hb
                have hbaH := Lib.hid hba
                clear hba
                have hwzH := Lib.hid hwz
                clear hwz
                have hkzH := Lib.hid hkz
                clear hkz
                have hwiH := Lib.hid hwi
                clear hwi
                have hkyH := Lib.hid hky
                clear hky
                have RH := Lib.hid R
                clear R
                have hheH := Lib.hid hhe
                clear hhe
                have hloaH := Lib.hid hloa
                clear hloa
                have hloH := Lib.hid hlo
                clear hlo
                go_wp2
                refine ⟨?rel, ?measure⟩
                case measure => (simp [intOf]; omega)
                case rel => first | exact RH.out | exact ⟨rfl, RH.out⟩ | ((try refine ⟨rfl, ?_⟩); (repeat apply Exists.intro); refine ⟨RH.out, ?_⟩; ((repeat' apply And.intro) <;> rfl))
            · rw [haB] at ga hvk2
              obtain rfl : false = vk := hvk2
              have R := hpt false hvk
              clear hpt hf hxok hvk hm3
              have hxH := Lib.hid hx
              clear hx
              have hbrH := Lib.hid hbr
              clear hbr
              have halH := Lib.hid hal
              clear hal
              have hrowH := Lib.hid hrow
              clear hrow
              have hrowaH := Lib.hid hrowa
              clear hrowa
              have hbH := Lib.hid hb
              clear hb
              have hbaH := Lib.hid hba
              clear hba
              have hwzH := Lib.hid hwz
              clear hwz
              have hkzH := Lib.hid hkz
              clear hkz
              have hwiH := Lib.hid hwi
              clear hwi
              have hkyH := Lib.hid hky
              clear hky
              have RH := Lib.hid R
              clear R
              have hheH := Lib.hid hhe
              clear hhe
              have hloaH := Lib.hid hloa
              clear hloa
              have hloH := Lib.hid hlo
              clear hlo
              go_wp2
              refine ⟨?rel, ?measure⟩
              case measure => (simp [intOf]; omega)
              case rel => first | exact RH.out | exact ⟨rfl, RH.out⟩ | ((try refine ⟨rfl, ?_⟩); (repeat apply Exists.intro); refine ⟨RH.out, ?_⟩; ((repeat' apply And.intro) <;> rfl))
          · obtain rfl : k = n := by omega
            have hbr : Below w.heap.size w wr := hb3H.out.trans (hb.mono hb3H.out.size)
            have hbH := Lib.hid hb
            clear hb
            have hbrH := Lib.hid hbr
            clear hbr
            have hrowH := Lib.hid hrow
            clear hrow
            go_wp2_with fail
            refine (numbers_any (w2.heap.size + 1) k k (duN l m every round k) _ hn hrowH.out).mono ?_
            rintro e w5 ⟨A5, k5, c5, rfl, hown, hk5, hb5⟩
            have hb6 := hbrH.out.trans (hb5.mono hbrH.out.size)
            have hsl := hown.slAt
            rw [duN_all, ← hllH.out, hLH.out] at hsl
            clear hown hb5
            have hslH := Lib.hid hsl
            clear hsl
            have hb6H := Lib.hid hb6
            clear hb6
            go_wp2
            go_ret2
            exact ⟨A5, k5, c5, rfl, hslH.out, by omega, hb6H.out⟩
  · obtain ⟨rfl, rfl⟩ : [] = L ∧ d = cc := by simpa [e0] using hF
    have e1 : (d != 0) = true := by simpa using e0
    clear e0 hF
    go_wp2
    go_ret2
    exact ⟨none, 0, 0, rfl, slAt_nilI _, by omega, hb1H.out⟩
end Go.Proofs.YtgegdfmdcmgliaaGreatDoor.C11

namespace Go.Proofs.YtgegdfmdcmgliaaGreatDoor.C11
open Go.RowKit
set_option linter.unusedVariables false

theorem wrB_iff {l : List Claimed} {m : List Audit} {k : Nat} : wrB l m k = true ↔ ∃ a ∈ m, a.number = k ∧ badA l a = true := by
  unfold wrB
  rw [List.any_eq_true]
  constructor
  · rintro ⟨a, h1, h2⟩
    rw [Bool.and_eq_true, decide_eq_true_iff] at h2
    exact ⟨a, h1, h2.1, h2.2⟩
  · rintro ⟨a, h1, h2, h3⟩
    exact ⟨a, h1, by rw [Bool.and_eq_true, decide_eq_true_iff]; exact ⟨h2, h3⟩⟩
theorem endB_iff {l : List Claimed} {m : List Audit} : ∀ {n : Nat} {s : ByteArray}, endB l m n s = true ↔ ∃ k, k < n ∧ wrB l m k = true ∧ wriOf l k = s
  | 0, s => by
    constructor
    · intro h; cases h
    · rintro ⟨k, h, _⟩; omega
  | n + 1, s => by
    show (endB l m n s || (wrB l m n && decide (wriOf l n = s))) = true ↔ _
    rw [Bool.or_eq_true, Bool.and_eq_true, decide_eq_true_iff, endB_iff]
    constructor
    · rintro (⟨k, h1, h2, h3⟩ | ⟨h1, h2⟩)
      · exact ⟨k, by omega, h2, h3⟩
      · exact ⟨n, by omega, h1, h2⟩
    · rintro ⟨k, h1, h2, h3⟩
      rcases Nat.lt_or_ge k n with h | h
      · exact .inl ⟨k, h, h2, h3⟩
      · obtain rfl : k = n := by omega
        exact .inr ⟨h2, h3⟩
theorem suB_iff {l : List Claimed} {m : List Audit} {s : ByteArray} : suB l m s = true ↔ ∃ a ∈ m, badA l a = true ∧ wriOf l a.number = s := by
  unfold suB
  rw [List.any_eq_true]
  constructor
  · rintro ⟨a, h1, h2⟩
    rw [Bool.and_eq_true, decide_eq_true_iff] at h2
    exact ⟨a, h1, h2.1, h2.2⟩
  · rintro ⟨a, h1, h2, h3⟩
    exact ⟨a, h1, by rw [Bool.and_eq_true, decide_eq_true_iff]; exact ⟨h2, h3⟩⟩
theorem suB_end {l : List Claimed} {m : List Audit} {n : Nat} (hr : ∀ a ∈ m, 0 ≤ a.number ∧ a.number < n) (s : ByteArray) : suB l m s = endB l m n s := by
  rw [Bool.eq_iff_iff, suB_iff, endB_iff]
  constructor
  · rintro ⟨a, h1, h2, h3⟩
    have h4 := hr a h1
    refine ⟨a.number.toNat, by omega, wrB_iff.2 ⟨a, h1, by omega, h2⟩, ?_⟩
    rw [show ((a.number.toNat : Nat) : Int) = a.number by omega]
    exact h3
  · rintro ⟨k, h1, h2, h3⟩
    obtain ⟨a, g1, g2, g3⟩ := wrB_iff.1 h2
    exact ⟨a, g1, g3, by rw [g2]; exact h3⟩

/-- the writer's last right one among the first k -/
def gF (l : List Claimed) (m : List Audit) (s : ByteArray) : Nat → Int
  | 0 => -1
  | k + 1 => if (decide (wriOf l k = s) && (audB m k && !wrB l m k)) = true then k else gF l m s k
/-- w is the writer's first wrong one -/
def IsFst (l : List Claimed) (m : List Audit) (s : ByteArray) (w : Nat) : Prop := wrB l m w = true ∧ wriOf l w = s ∧ ∀ j, j < w → ¬ (wrB l m j = true ∧ wriOf l j = s)
theorem rgt_gF {l : List Claimed} {m : List Audit} {s : ByteArray} {w : Nat} (h : IsFst l m s w) : ∀ k, k ≤ w → rgt l m k s = gF l m s k
  | 0, _ => rfl
  | k + 1, hk => by
    show (if (!wrB l m k && (audB m k && !endB l m k (wriOf l k)) && decide (wriOf l k = s)) = true then (k : Int) else rgt l m k s) = (if (decide (wriOf l k = s) && (audB m k && !wrB l m k)) = true then (k : Int) else gF l m s k)
    rw [rgt_gF h k (by omega)]
    have e : (!wrB l m k && (audB m k && !endB l m k (wriOf l k)) && decide (wriOf l k = s)) = (decide (wriOf l k = s) && (audB m k && !wrB l m k)) := by
      by_cases hs : wriOf l k = s
      · have he : endB l m k (wriOf l k) = false := by
          rw [hs]
          cases hc : endB l m k s
          · rfl
          · obtain ⟨j, h1, h2, h3⟩ := endB_iff.1 hc
            exact absurd ⟨h2, h3⟩ (h.2.2 j (by omega))
        rw [he, decide_eq_true hs]
        cases wrB l m k <;> cases audB m k <;> rfl
      · rw [decide_eq_false hs, Bool.and_false, Bool.false_and]
    rw [e]
theorem rgt_past {l : List Claimed} {m : List Audit} {s : ByteArray} {w : Nat} (h : IsFst l m s w) : ∀ k, w ≤ k → rgt l m k s = gF l m s w
  | 0, hk => by
    obtain rfl : w = 0 := by omega
    rfl
  | k + 1, hk => by
    rcases Nat.lt_or_ge k w with h1 | h1
    · obtain rfl : w = k + 1 := by omega
      exact rgt_gF h (k + 1) (Nat.le_refl _)
    · show (if (!wrB l m k && (audB m k && !endB l m k (wriOf l k)) && decide (wriOf l k = s)) = true then (k : Int) else rgt l m k s) = _
      rw [rgt_past h k h1, if_neg]
      intro hc
      simp only [Bool.and_eq_true, Bool.not_eq_true', decide_eq_true_iff] at hc
      obtain ⟨⟨h2, _, h3⟩, h4⟩ := hc
      rcases Nat.eq_or_lt_of_le h1 with h5 | h5
      · subst h5
        rw [h.1] at h2; cases h2
      · have : endB l m k (wriOf l k) = true := endB_iff.2 ⟨w, h5, h.1, by rw [h4]; exact h.2.1⟩
        rw [h3] at this; cases this
/-- the reference's word for it: not audited, the writer has a wrong one, and this one lies behind the last right one before that -/
def dbtB (l : List Claimed) (m : List Audit) (i : Nat) : Bool := (suB l m (wriOf l i) && !audB m i) && decide (rgt l m l.length (wriOf l i) < (i : Int))
def useB (l : List Claimed) (f : Nat → Bool) (i : Nat) : Bool := (useOf l i).any (fun u => anyB l f i u && !anyB l (fun j => !f j) i u)
theorem tStep_split (l : List Claimed) (m : List Audit) (f : Nat → Bool) (k : Nat) : tStep l m f k = (wrB l m k || dbtB l m k || useB l f k) := rfl
theorem dbt_none {l : List Claimed} {m : List Audit} {i : Nat} (h : suB l m (wriOf l i) = false) : dbtB l m i = false := by unfold dbtB; rw [h]; rfl
theorem dbt_aud {l : List Claimed} {m : List Audit} {i : Nat} (h : audB m i = true) : dbtB l m i = false := by unfold dbtB; rw [h]; simp
theorem dbt_fst {l : List Claimed} {m : List Audit} {i w : Nat} (hr : ∀ a ∈ m, 0 ≤ a.number ∧ a.number < l.length) (ha : audB m i = false) (hw : IsFst l m (wriOf l i) w) (hwl : w < l.length) : dbtB l m i = decide (gF l m (wriOf l i) w < (i : Int)) := by
  unfold dbtB
  rw [rgt_past hw l.length (by omega), ha, suB_end hr, endB_iff.2 ⟨w, hwl, hw.1, hw.2.1⟩]
  rfl
theorem gF_range (l : List Claimed) (m : List Audit) (s : ByteArray) : ∀ k, -1 ≤ gF l m s k ∧ gF l m s k < k
  | 0 => by show -1 ≤ (-1 : Int) ∧ (-1 : Int) < ((0 : Nat) : Int); omega
  | k + 1 => by
    have := gF_range l m s k
    show -1 ≤ (if _ then _ else _ : Int) ∧ (if _ then _ else _ : Int) < _
    split <;> omega

/-! ### laws -/
theorem wrong_tainted {l : List Claimed} {m : List Audit} {z : Int} (h : z ∈ numsN (wrB l m) l.length) : z ∈ numsN (tntB l m) l.length := by
  obtain ⟨i, h1, h2, h3⟩ := numsN_mem.1 h
  exact numsN_mem.2 ⟨i, h1, by rw [tntB_eq l m i h1, tStep_split, h2, Bool.true_or, Bool.true_or], h3⟩
theorem anyB_false (l : List Claimed) : ∀ (f : Nat → Bool) (k : Nat) (u : ByteArray), (∀ j, j < k → f j = false) → anyB l f k u = false
  | f, 0, u, _ => rfl
  | f, k + 1, u, h => by
    show (anyB l f k u || (f k && decide (resOf l k = u))) = false
    rw [anyB_false l f k u (fun j hj => h j (by omega)), h k (by omega)]
    rfl
theorem none_tainted {l : List Claimed} {m : List Audit} (hr : ∀ a ∈ m, 0 ≤ a.number ∧ a.number < l.length) (h : numsN (wrB l m) l.length = []) : numsN (tntB l m) l.length = [] := by
  have hw : ∀ k, k < l.length → wrB l m k = false := fun k hk => by
    cases hc : wrB l m k
    · rfl
    · have : (k : Int) ∈ numsN (wrB l m) l.length := numsN_mem.2 ⟨k, hk, hc, rfl⟩
      rw [h] at this; cases this
  have hs : ∀ s, suB l m s = false := fun s => by
    rw [suB_end hr]
    cases hc : endB l m l.length s
    · rfl
    · obtain ⟨k, h1, h2, _⟩ := endB_iff.1 hc
      rw [hw k h1] at h2; cases h2
  have ht : ∀ k, k < l.length → tntB l m k = false := by
    intro k
    induction k using Nat.strongRecOn with
    | _ k ih =>
      intro hk
      rw [tntB_eq l m k hk, tStep_split, hw k hk, dbt_none (hs _)]
      unfold useB
      rw [Bool.or_false, Bool.false_or, List.any_eq_false]
      intro u _
      rw [anyB_false l (tntB l m) k u (fun j hj => ih j hj (by omega))]
      simp
  cases hn : numsN (tntB l m) l.length with
  | nil => rfl
  | cons z r =>
    obtain ⟨i, h1, h2, _⟩ := numsN_mem.1 (show z ∈ numsN (tntB l m) l.length by rw [hn]; exact List.mem_cons_self)
    rw [ht i h1] at h2; cases h2
end Go.Proofs.YtgegdfmdcmgliaaGreatDoor.C11
