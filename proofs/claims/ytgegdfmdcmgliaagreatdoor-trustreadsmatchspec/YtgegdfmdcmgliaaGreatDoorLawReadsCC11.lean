/-
  The walk of TrustReadsMatchSpec.
-/
import Derived.Test.YtgegdfmdcmgliaaGreatDoorRHReadCC11
import Derived.Test.YtgegdfmdcmgliaaGreatDoorSameCC11
namespace Go.Proofs.YtgegdfmdcmgliaaGreatDoor.C11
open Go.RowKit
set_option linter.unusedVariables false

theorem rdF_len : ∀ (f : Nat) (t : List UInt8) (n : Nat) (acc : List Claimed), (rdF f t n acc).1.length ≤ acc.length + f
  | 0, t, n, acc => by simp [rdF]
  | f + 1, t, n, acc => by
    rw [rdF]
    split
    · simp only; omega
    · split
      · have := rdF_len f (Lib.cut t [10]).2.1 (n + 1) (acc ++ [lineV (wordsOf (bsL (Lib.cut t [10]).1))])
        rw [List.length_append, List.length_singleton] at this
        omega
      · simp
theorem readR_len (s : ByteArray) : (readR s).1.length ≤ 2000000 := by
  unfold readR
  split
  · rename_i h
    have := rdF_len s.size s.data.toList 1 []
    simp only [List.length_nil] at this
    split
    · split
      · simp only; omega
      · simp
    · simp
  · simp

set_option maxRecDepth 100000 in
set_option maxHeartbeats 2000000 in
theorem law_reads (s : ByteArray) (w : World) (hs : RStr.ok w s) (hm : MaxLenAt w) :
    Calls Tryz.prog 5 #[.string s] w fun e w' => e = .returned (.bool true) ∧ Below w.heap.size w w' := by
  have hs : s.size ≤ maxLen := hs
  obtain ⟨a, ha⟩ : ∃ a, readR s = a := ⟨_, rfl⟩
  have hsH := Lib.hid hs
  clear hs
  have hmH := Lib.hid hm
  clear hm
  have haH := Lib.hid ha
  clear ha
  go_enter Tryz.func5, Tryz.ntmps5
  go_wp2_with fail
  refine (read_any s _ hmH.out hsH.out a haH.out).mono ?_
  rintro e w1 ⟨A1, n1, c1, L1, rfl, hs1, hc1, hb1⟩
  have hs1H := Lib.hid hs1
  clear hs1
  have hb1H := Lib.hid hb1
  clear hb1
  have hc1H := Lib.hid hc1
  clear hc1
  go_wp2_with fail
  refine (rread_any s _ (hmH.out.below hb1H.out) hsH.out a haH.out).mono ?_
  rintro e w2 ⟨A2, n2, c2, L2, rfl, hs2, hc2, hw2⟩
  have hs12 := hs1H.out.below hw2
  have hb2 := hb1H.out.trans (hw2.mono hb1H.out.size)
  clear hw2
  have hle : n1 ≤ 9223372036854775807 := by
    have h1 := hs12.1
    have : a.1.length ≤ 2000000 := by rw [← haH.out]; exact readR_len s
    rw [← hc1H.out, List.length_map] at this
    omega
  have hcc := hc1H.out.trans hc2.symm
  clear hc2
  have hs2H := Lib.hid hs2
  clear hs2
  have hs12H := Lib.hid hs12
  clear hs12
  have hb2H := Lib.hid hb2
  clear hb2
  have hccH := Lib.hid hcc
  clear hcc
  go_wp2_with fail
  refine (same_any A1 A2 n1 c1 n2 c2 L1 L2 _ hs12H.out hs2H.out hccH.out hle).mono ?_
  rintro e w3 ⟨rfl, hw3⟩
  have hb3 := hb2H.out.trans (hw3.mono hb2H.out.size)
  clear hw3
  have hb3H := Lib.hid hb3
  clear hb3
  go_wp2_with fail
  refine (awake_any _ (hmH.out.below hb3H.out)).mono ?_
  rintro e w4 ⟨rfl, hw4⟩
  have hb4 := hb3H.out.trans (hw4.mono hb3H.out.size)
  clear hw4
  have hb4H := Lib.hid hb4
  clear hb4
  go_wp2
  go_ret
  exact ⟨rfl, hb4H.out⟩
end Go.Proofs.YtgegdfmdcmgliaaGreatDoor.C11
