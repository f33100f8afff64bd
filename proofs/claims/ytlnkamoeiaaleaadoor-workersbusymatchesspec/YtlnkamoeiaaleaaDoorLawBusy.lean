/-
  The walk of WorkersBusyMatchesSpec.
-/
import Derived.Test.YtlnkamoeiaaleaaDoorWasted
namespace Go.Proofs.YtlnkamoeiaaleaaDoor
open Go.RowKit
set_option linter.unusedVariables false

theorem busySum_add (wk : ByteArray) (fm md to : Int) (h1 : fm ≤ md) (h2 : md ≤ to) : ∀ l : List Run, RunsIn l → busySum wk fm md l + busySum wk md to l = busySum wk fm to l
  | [], _ => by simp [busySum]
  | r :: s, h => by
    have ih := busySum_add wk fm md to h1 h2 s (fun y hy => h y (List.mem_cons_of_mem _ hy))
    obtain ⟨_, _, h3, _⟩ := h r (List.mem_cons_self ..)
    simp only [busySum, busy1]
    split <;> omega

theorem busyR_split {l : List Run} {wk : ByteArray} {fm md to c : Int} (h : busyR l wk fm to = (c, 0)) (h1 : fm ≤ md) (h2 : md ≤ to) :
    ∃ a b, busyR l wk fm md = (a, 0) ∧ busyR l wk md to = (b, 0) ∧ a + b = c ∧ I64 c ∧ I64 (a + b) := by
  unfold busyR at h
  by_cases hr : runsF l = 0
  · by_cases hw : wordB wk = true
    · by_cases hi : inR 0 1000000000 fm = true ∧ inR 0 1000000000 to = true
      · rw [if_pos hr, if_pos hw, if_pos hi, Prod.mk.injEq] at h
        obtain ⟨hc, _⟩ := h
        have i0 := inR_true hi.1
        have i1 := inR_true hi.2
        have im : inR 0 1000000000 md = true := inR_of ⟨by omega, by omega⟩
        obtain ⟨g0, g1⟩ := runs_good hr
        have hadd := busySum_add wk fm md to h1 h2 l g0
        have hb : ∀ s : List Run, RunsIn s → 0 ≤ busySum wk fm to s ∧ busySum wk fm to s ≤ s.length * 1000000000 := by
          intro s
          induction s with
          | nil => intro _; simp [busySum]
          | cons r s ih =>
            intro hs
            have := ih (fun y hy => hs y (List.mem_cons_of_mem _ hy))
            obtain ⟨h3, h4, h5, _⟩ := hs r (List.mem_cons_self ..)
            simp only [busySum, busy1, List.length_cons]
            split <;> omega
        have hbl := hb l g0
        refine ⟨busySum wk fm md l, busySum wk md to l, ?_, ?_, by omega, ?_, ?_⟩
        · rw [busyR, if_pos hr, if_pos hw, if_pos ⟨hi.1, im⟩]
        · rw [busyR, if_pos hr, if_pos hw, if_pos ⟨im, hi.2⟩]
        · unfold I64; omega
        · unfold I64; omega
      · rw [if_pos hr, if_pos hw, if_neg hi, Prod.mk.injEq] at h; cases h.2
    · rw [if_pos hr, if_neg hw, Prod.mk.injEq] at h; cases h.2
  · rw [if_neg hr, Prod.mk.injEq] at h
    exact absurd h.2 hr

set_option maxRecDepth 100000 in
set_option maxHeartbeats 2000000 in
theorem law_busy (l : SlD Run) (wk : ByteArray) (fm md to : Int) (w : World) (hl : (RSl RRun).ok w l) (hwk : RStr.ok w wk) (_ : RInt.ok w fm) (_ : RInt.ok w md) (_ : RInt.ok w to) :
    Calls Tryd.prog 5 #[.slice l.A l.n l.cap, .string wk, .int .i64 fm, .int .i64 md, .int .i64 to] w fun e w' => e = .returned (.bool true) ∧ Below w.heap.size w w' := by
  obtain ⟨A, len, cap, l⟩ := l
  obtain ⟨hl, _⟩ := hl
  simp only at hl ⊢
  have hwk : wk.size ≤ maxLen := hwk
  obtain ⟨c, d, hcd⟩ : ∃ c d, busyR l wk fm to = (c, d) := ⟨_, _, rfl⟩
  obtain ⟨rf, hrf⟩ : ∃ rf, runsF l = rf := ⟨_, rfl⟩
  obtain ⟨p, q, hpq⟩ : ∃ p q, wasteR l = (p, q) := ⟨_, _, rfl⟩
  have hlH := Lib.hid hl
  clear hl
  have hwkH := Lib.hid hwk
  clear hwk
  have hcdH := Lib.hid hcd
  clear hcd
  have hrfH := Lib.hid hrf
  clear hrf
  have hpqH := Lib.hid hpq
  clear hpq
  go_enter Tryd.func5, Tryd.ntmps5
  go_wp2_with fail
  refine (busy_any A len cap l wk fm to _ hlH.out hwkH.out c d hcdH.out).mono ?_
  rintro e w1 ⟨rfl, hb1⟩
  have hl1 := hlH.out.below hb1
  have hb1H := Lib.hid hb1
  clear hb1
  have hl1H := Lib.hid hl1
  clear hl1
  go_wp2_with fail
  refine (rbusy_any A len cap l wk fm to _ hl1H.out hwkH.out c d hcdH.out).mono ?_
  rintro e w2 ⟨rfl, hw2⟩
  have hb2 := hb1H.out.trans (hw2.mono hb1H.out.size)
  have hl2 := hlH.out.below hb2
  have hw2H := Lib.hid hw2
  clear hw2
  have hb2H := Lib.hid hb2
  clear hb2
  have hl2H := Lib.hid hl2
  clear hl2
  go_wp2_with fail
  refine (runs_any A len cap l _ hl2H.out rf hrfH.out).mono ?_
  rintro e w3 ⟨rfl, hw3⟩
  have hb3 := hb2H.out.trans (hw3.mono hb2H.out.size)
  have hl3 := hlH.out.below hb3
  have hw3H := Lib.hid hw3
  clear hw3
  have hb3H := Lib.hid hb3
  clear hb3
  have hl3H := Lib.hid hl3
  clear hl3
  go_wp2_with fail
  refine (rruns_any A len cap l _ hl3H.out rf hrfH.out).mono ?_
  rintro e w4 ⟨rfl, hw4⟩
  have hb4 := hb3H.out.trans (hw4.mono hb3H.out.size)
  have hl4 := hlH.out.below hb4
  have hw4H := Lib.hid hw4
  clear hw4
  have hb4H := Lib.hid hb4
  clear hb4
  have hl4H := Lib.hid hl4
  clear hl4
  go_wp2_with fail
  refine (wasted_any A len cap l _ hl4H.out p q hpqH.out).mono ?_
  rintro e w5 ⟨rfl, hw5⟩
  have hb5 := hb4H.out.trans (hw5.mono hb4H.out.size)
  have hl5 := hlH.out.below hb5
  have hw5H := Lib.hid hw5
  clear hw5
  have hb5H := Lib.hid hb5
  clear hb5
  have hl5H := Lib.hid hl5
  clear hl5
  go_wp2_with fail
  refine (rwasted_any A len cap l _ hl5H.out p q hpqH.out).mono ?_
  rintro e w6 ⟨rfl, hw6⟩
  have hb6 := hb5H.out.trans (hw6.mono hb5H.out.size)
  have hl6 := hlH.out.below hb6
  have hw6H := Lib.hid hw6
  clear hw6
  have hb6H := Lib.hid hb6
  clear hb6
  have hl6H := Lib.hid hl6
  clear hl6
  go_wp2_with fail
  refine (awake_any _).mono ?_
  rintro e w7 ⟨rfl, hw7⟩
  have hb7 := hb6H.out.trans (hw7.mono hb6H.out.size)
  have hl7 := hlH.out.below hb7
  have hw7H := Lib.hid hw7
  clear hw7
  have hb7H := Lib.hid hb7
  clear hb7
  have hl7H := Lib.hid hl7
  clear hl7
  by_cases e0 : d = 0
  · subst e0
    by_cases h1 : md < fm
    · go_wp2
      go_ret
      exact ⟨rfl, hb7H.out⟩
    · have h1' : decide (md < fm) = false := decide_eq_false h1
      by_cases h2 : md > to
      · go_wp2
        go_ret
        exact ⟨rfl, hb7H.out⟩
      · have h2' : decide (md > to) = false := decide_eq_false h2
        obtain ⟨a, b, ha, hb, hab, ⟨hc0, hc1⟩, ⟨hc2, hc3⟩⟩ := busyR_split (md := md) hcdH.out (by omega) (by omega)
        have haH := Lib.hid ha
        clear ha
        have hbH := Lib.hid hb
        clear hb
        go_wp2_with fail
        refine (busy_any A len cap l wk fm md _ hl7H.out hwkH.out a 0 haH.out).mono ?_
        rintro e w8 ⟨rfl, hw8⟩
        have hb8 := hb7H.out.trans (hw8.mono hb7H.out.size)
        have hl8 := hlH.out.below hb8
        have hw8H := Lib.hid hw8
        clear hw8
        have hb8H := Lib.hid hb8
        clear hb8
        have hl8H := Lib.hid hl8
        clear hl8
        go_wp2_with fail
        refine (busy_any A len cap l wk md to _ hl8H.out hwkH.out b 0 hbH.out).mono ?_
        rintro e w9 ⟨rfl, hw9⟩
        have hb9 := hb8H.out.trans (hw9.mono hb8H.out.size)
        have hw9H := Lib.hid hw9
        clear hw9
        have hb9H := Lib.hid hb9
        clear hb9
        have hab2 : (a + b == c) = true := by simpa using hab
        go_wp2
        go_ret
        exact ⟨rfl, hb9H.out⟩
  · have e1 : (d != 0) = true := by simpa using e0
    go_wp2
    go_ret
    exact ⟨rfl, hb7H.out⟩
end Go.Proofs.YtlnkamoeiaaleaaDoor
