/-
  The walk of WorkersTextsMatchSpec.
-/
import Derived.Test.YtpmnkhklfoknhaaGreatDoorLawReadsWC9
import Derived.Test.YtpmnkhklfoknhaaGreatDoorRTxtCC9
import Derived.Test.YtpmnkhklfoknhaaGreatDoorAwake9C9
namespace Go.Proofs.YtpmnkhklfoknhaaGreatDoor.C9
open Go.RowKit
set_option linter.unusedVariables false

theorem textR_ok {l : List Run} {t : ByteArray} (h : textR l = (t, 0)) : t = bsL (textT l) ∧ t.size ≤ 600000 ∧ readR t = (l, 0, 0) := by
  unfold textR at h
  by_cases h0 : runsF l = 0
  · rw [if_pos h0] at h
    by_cases h1 : (textT l).length ≤ 600000
    · rw [if_pos h1, Prod.mk.injEq] at h
      obtain ⟨rfl, _⟩ := h
      exact ⟨rfl, by rw [bsL_size]; exact h1, readR_text h0 h1⟩
    · rw [if_neg h1, Prod.mk.injEq] at h
      exact absurd h.2 (by decide)
  · rw [if_neg h0, Prod.mk.injEq] at h
    exact absurd h.2 h0

set_option maxRecDepth 100000 in
set_option maxHeartbeats 4000000 in
theorem law_texts (l : SlD Run) (w : World) (hl : (RSl RRun).ok w l) (hm : MaxLenAt w) (ht : PowJ w) :
    Calls Tryz.prog 4 #[.slice l.A l.n l.cap] w fun e w' => e = .returned (.bool true) ∧ Below w.heap.size w w' := by
  obtain ⟨A, n, cap, l⟩ := l
  obtain ⟨hl, hd1, hd2, hd3⟩ := hl
  simp only at hl hd1 hd2 ⊢
  have hn9 : n ≤ 9223372036854775807 := by unfold maxLen at hd2; omega
  clear hd1 hd2 hd3
  obtain ⟨⟨t, cc⟩, hF⟩ : ∃ R, textR l = R := ⟨_, rfl⟩
  have htt : (t.toList == t.toList) = true := by simp
  have htt2 : (t.toList != t.toList) = false := by simp
  have hlH := Lib.hid hl
  clear hl
  have hmH := Lib.hid hm
  clear hm
  have htH := Lib.hid ht
  clear ht
  have hFH := Lib.hid hF
  clear hF
  go_enter Tryz.func4, Tryz.ntmps4
  go_wp2_with fail
  refine (text_any A n cap l _ hmH.out htH.out hlH.out t cc hFH.out).mono ?_
  rintro e w1 ⟨rfl, hb1⟩
  have hb1H := Lib.hid hb1
  clear hb1
  go_wp2_with fail
  refine (rtext_any A n cap l _ (hmH.out.below hb1H.out) (htH.out.below hb1H.out) (hlH.out.below hb1H.out) t cc hFH.out).mono ?_
  rintro e w2 ⟨rfl, hb2⟩
  have hb12 := hb1H.out.trans (hb2.mono hb1H.out.size)
  clear hb2
  have hb12H := Lib.hid hb12
  clear hb12
  go_wp2_with fail
  refine (awake_any _).mono ?_
  rintro e w3 ⟨rfl, hb3⟩
  have hb13 := hb12H.out.trans (hb3.mono hb12H.out.size)
  clear hb3
  have hb13H := Lib.hid hb13
  clear hb13
  by_cases e0 : cc = 0
  · subst e0
    obtain ⟨-, hz, hR⟩ := textR_ok hFH.out
    have hRH := Lib.hid hR
    clear hR
    have hzH := Lib.hid hz
    clear hz
    go_wp2_with fail
    have hz9 : t.size ≤ maxLen := by
      have := hzH.out
      unfold maxLen; omega
    obtain ⟨a, ha⟩ : ∃ a, readR t = a := ⟨_, rfl⟩
    have ea : a = (l, 0, 0) := by rw [← ha, hRH.out]
    refine (read_any t w3 (hmH.out.below hb13H.out) hz9 a ha).mono ?_
    rintro e w4 ⟨A4, n4, c4, rfl, hs4, hb4⟩
    have ea1 : ((a.2.1 : Nat) : Int) = 0 := by rw [ea]; rfl
    have ea2 : a.2.2 = 0 := by rw [ea]
    have ea3 : a.1 = l := by rw [ea]
    rw [ea3] at hs4
    rw [ea1, ea2]
    clear ea ha ea1 ea2 ea3
    have hb14 := hb13H.out.trans (hb4.mono hb13H.out.size)
    clear hb4
    have hb14H := Lib.hid hb14
    clear hb14
    have hs4H := Lib.hid hs4
    clear hs4
    go_wp2_with fail
    refine (equal_runs A A4 n cap n4 c4 l _ (hlH.out.below hb14H.out) hs4H.out hn9).mono ?_
    rintro e w5 ⟨rfl, hb5⟩
    have hb15 := hb14H.out.trans (hb5.mono hb14H.out.size)
    clear hb5
    have hb15H := Lib.hid hb15
    clear hb15
    go_wp2
    go_ret
    exact ⟨rfl, hb15H.out⟩
  · have e1 : (cc != 0) = true := by simpa using e0
    clear e0
    go_wp2
    go_ret
    exact ⟨rfl, hb13H.out⟩
end Go.Proofs.YtpmnkhklfoknhaaGreatDoor.C9
