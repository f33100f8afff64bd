/-
  slices.Equal at []api.Run; the walk of WorkersReadsMatchSpec.
-/
import Derived.Test.YtpmnkhklfoknhaaGreatDoorRHReadWC9
namespace Go.Proofs.YtpmnkhklfoknhaaGreatDoor.C9
open Go.RowKit
set_option linter.unusedVariables false

theorem rdF_len : ∀ (f : Nat) (t : List UInt8) (n : Nat) (acc : List Run), (rdF f t n acc).1.length ≤ acc.length + f
  | 0, t, n, acc => by simp [rdF]
  | f + 1, t, n, acc => by
    rw [rdF]
    split
    · simp only; omega
    · split
      · have := rdF_len f (Lib.cut t [10]).2.1 (n + 1) (acc ++ [lineV (wordsOf (bsL (Lib.cut t [10]).1))])
        rw [List.length_append, List.length_singleton] at this
        omega
      · simp
theorem readR_len (s : ByteArray) : (readR s).1.length ≤ 600000 := by
  unfold readR
  split
  · rename_i h
    have := rdF_len s.size s.data.toList 1 []
    simp only [List.length_nil] at this
    split
    · split
      · simp only; omega
      · simp
    · simp
  · simp
def EqRel (n : Nat) (w0 : World) (i : Value) (wr : World) : Prop := ∃ k : Nat, k ≤ n ∧ i = .int .i64 k ∧ Below w0.heap.size w0 wr

set_option maxRecDepth 100000 in
set_option maxHeartbeats 2000000 in
theorem equal_runs (A1 A2 : Option Addr) (n1 c1 n2 c2 : Nat) (L : List Run) (w : World) (h1 : SlAt RRun w A1 n1 L) (h2 : SlAt RRun w A2 n2 L) (hn : n1 ≤ 9223372036854775807) :
    Calls Tryz.prog 8 #[.slice A1 n1 c1, .slice A2 n2 c2] w fun e w' => e = .returned (.bool true) ∧ Below w.heap.size w w' := by
  obtain rfl : n1 = n2 := h1.1.symm.trans h2.1
  have h1H := Lib.hid h1
  clear h1
  have h2H := Lib.hid h2
  clear h2
  go_enter Tryz.func8, Tryz.ntmps8
  go_wp2_with fail
  go_loopw [13] (fun i wr => EqRel n1 w i wr) (fun i _ => n1 - (intOf i).toNat)
  case atStart => exact ⟨0, Nat.zero_le _, rfl, Below.refl _ _⟩
  case round =>
    obtain ⟨k, hk, rfl, hb⟩ := hrel
    by_cases hlt : k < n1
    · obtain ⟨b1, o1, hA1, _⟩ := h1H.out.2.1 (by omega)
      obtain ⟨b2, o2, hA2, _⟩ := h2H.out.2.1 (by omega)
      subst hA1
      subst hA2
      obtain ⟨x, hx⟩ : ∃ x, L[k]? = some x := ⟨L[k]'(by have := h1H.out.1; omega), List.getElem?_eq_getElem _⟩
      obtain ⟨c0, c1, c2, c3, c4⟩ := cells_Run (h1H.out.below hb) hx
      obtain ⟨d0, d1, d2, d3, d4⟩ := cells_Run (h2H.out.below hb) hx
      have R : ∀ nq, EqRel n1 w (.int .i64 (k + 1)) (wr.drewN nq) := fun nq => ⟨k + 1, by omega, by go_num, bel_drewN hb nq⟩
      obtain ⟨te, ke, at_, ps, se⟩ := x
      simp only at c0 c1 c2 c3 c4 d0 d1 d2 d3 d4
      have hxH := Lib.hid hx
      clear hx
      have hbH := Lib.hid hb
      clear hb
      have RH := Lib.hid R
      clear R
      go_wp2_with fail
      go_quiet (fail)
      go_wp2
      refine ⟨?rel, ?measure⟩
      case measure => (simp [intOf]; omega)
      case rel => first | exact (RH.out _) | exact ⟨rfl, (RH.out _)⟩ | ((try refine ⟨rfl, ?_⟩); (repeat apply Exists.intro); refine ⟨(RH.out _), ?_⟩; ((repeat' apply And.intro) <;> rfl))
    · have hbH := Lib.hid hb
      clear hb
      go_wp2
      go_ret
      exact ⟨rfl, hbH.out⟩

set_option maxRecDepth 100000 in
set_option maxHeartbeats 2000000 in
theorem law_reads (s : ByteArray) (w : World) (hs : RStr.ok w s) (hm : MaxLenAt w) :
    Calls Tryz.prog 3 #[.string s] w fun e w' => e = .returned (.bool true) ∧ Below w.heap.size w w' := by
  have hs : s.size ≤ maxLen := hs
  obtain ⟨a, ha⟩ : ∃ a, readR s = a := ⟨_, rfl⟩
  have hsH := Lib.hid hs
  clear hs
  have hmH := Lib.hid hm
  clear hm
  have haH := Lib.hid ha
  clear ha
  go_enter Tryz.func3, Tryz.ntmps3
  go_wp2_with fail
  refine (read_any s _ hmH.out hsH.out a haH.out).mono ?_
  rintro e w1 ⟨A1, n1, c1, rfl, hs1, hb1⟩
  have hs1H := Lib.hid hs1
  clear hs1
  have hb1H := Lib.hid hb1
  clear hb1
  go_wp2_with fail
  refine (rread_any s _ (hmH.out.below hb1H.out) hsH.out a haH.out).mono ?_
  rintro e w2 ⟨A2, n2, c2, rfl, hs2, hw2⟩
  have hs12 := hs1H.out.below hw2
  have hb2 := hb1H.out.trans (hw2.mono hb1H.out.size)
  clear hw2
  have hle : n1 ≤ 9223372036854775807 := by
    have h1 := hs12.1
    have : a.1.length ≤ 600000 := by rw [← haH.out]; exact readR_len s
    omega
  have hs2H := Lib.hid hs2
  clear hs2
  have hs12H := Lib.hid hs12
  clear hs12
  have hb2H := Lib.hid hb2
  clear hb2
  go_wp2_with fail
  refine (equal_runs A1 A2 n1 c1 n2 c2 a.1 _ hs12H.out hs2H.out hle).mono ?_
  rintro e w3 ⟨rfl, hw3⟩
  have hb3 := hb2H.out.trans (hw3.mono hb2H.out.size)
  clear hw3
  have hb3H := Lib.hid hb3
  clear hb3
  go_wp2_with fail
  refine (awake_any _).mono ?_
  rintro e w4 ⟨rfl, hw4⟩
  have hb4 := hb3H.out.trans (hw4.mono hb3H.out.size)
  clear hw4
  have hb4H := Lib.hid hb4
  clear hb4
  go_wp2
  go_ret
  exact ⟨rfl, hb4H.out⟩
end Go.Proofs.YtpmnkhklfoknhaaGreatDoor.C9
