/-
  checkWorker, of the program and of the reference.
-/
import Derived.Test.YtbapkhkklglbaaaDoorStandsC9
import Derived.Test.YtbapkhkklglbaaaDoorRPairsC9
namespace Go.Proofs.YtbapkhkklglbaaaDoor.C9
open Go.RowKit
set_option linter.unusedVariables false

theorem rword_b (s : ByteArray) (b : Bool) (w : World) (hs : s.size ≤ maxLen) (hb : wordB s = b) :
    Calls Tryd.prog 45 #[.string s] w fun e w' => e = .returned (.bool b) ∧ Below w.heap.size w w' :=
  (rword_any s b w hs hb).mono fun e w' h => ⟨h.1, h.2 ▸ Below.refl _ _⟩

/-- the fault of a worker by itself -/
def workerF (x : Worker) : Int :=
  if wordB x.name = true then
    if pairsF x.has.l = 0 then
      if inR 1 20 x.slots = true ∧ inR 1 1000 x.speed = true ∧ inR 0 1000000000 x.from_ = true ∧ inR 0 1000000000 x.to_ = true then
        if x.to_ ≤ x.from_ then 8 else standsF x.stands.l
      else 1
    else pairsF x.has.l
  else 5

set_option maxHeartbeats 1000000 in
theorem worker_any (x : Worker) (w : World) (hok : RWorker.ok w x) (c : Int) (hF : workerF x = c) :
    Calls Tryd.prog 54 #[.agg #[.string x.name, .slice x.has.A x.has.n x.has.cap, .int .i64 x.slots, .int .i64 x.speed, .int .i64 x.from_, .int .i64 x.to_, .slice x.stands.A x.stands.n x.stands.cap]] w fun e w' =>
      e = .returned (.int .i64 c) ∧ Below w.heap.size w w' := by
  obtain ⟨nm, has, sl, sp, fr, tz, st⟩ := x
  obtain ⟨o0, o1, o2, o3, o4, o5, o6⟩ := hok
  simp only at o0 o1 o2 o3 o4 o5 o6 hF ⊢
  unfold workerF at hF
  simp only at hF
  obtain ⟨b1, hb1⟩ : ∃ b, wordB nm = b := ⟨_, rfl⟩
  obtain ⟨c2, hc2⟩ : ∃ c, pairsF has.l = c := ⟨_, rfl⟩
  obtain ⟨c3, hc3⟩ : ∃ c, standsF st.l = c := ⟨_, rfl⟩
  rw [hb1, hc2, hc3] at hF
  have hba := (Below.refl w.heap.size w).alloc (Nat.le_refl _) (.cells #[.string nm, .slice has.A has.n has.cap, .int .i64 sl, .int .i64 sp, .int .i64 fr, .int .i64 tz, .slice st.A st.n st.cap] 51)
  have hbas := hba.size
  have o0H := Lib.hid o0
  clear o0
  have o1H := Lib.hid o1
  clear o1
  have o2H := Lib.hid o2
  clear o2
  have o3H := Lib.hid o3
  clear o3
  have o4H := Lib.hid o4
  clear o4
  have o5H := Lib.hid o5
  clear o5
  have o6H := Lib.hid o6
  clear o6
  have hFH := Lib.hid hF
  clear hF
  have hb1H := Lib.hid hb1
  clear hb1
  have hc2H := Lib.hid hc2
  clear hc2
  have hc3H := Lib.hid hc3
  clear hc3
  have hbaH := Lib.hid hba
  clear hba
  have hbasH := Lib.hid hbas
  clear hbas
  go_enter Tryd.func54, Tryd.ntmps54
  go_wp2_with fail
  refine (word_any nm b1 _ o0H.out hb1H.out).mono ?_
  rintro e w1 ⟨rfl, hw1⟩
  have q1 := (hw1.cell (by simp)).trans (cell_new w _ _ 1)
  have q2 := (hw1.cell (by simp)).trans (cell_new w _ _ 2)
  have q3 := (hw1.cell (by simp)).trans (cell_new w _ _ 3)
  have q4 := (hw1.cell (by simp)).trans (cell_new w _ _ 4)
  have q5 := (hw1.cell (by simp)).trans (cell_new w _ _ 5)
  have q6 := (hw1.cell (by simp)).trans (cell_new w _ _ 6)
  have hbw1 := hbaH.out.trans (hw1.mono hbasH.out)
  have hz1 : w.heap.size < w1.heap.size := by have := hw1.size; simp at this; omega
  simp only [List.getElem?_toArray, List.getElem?_cons_succ, List.getElem?_cons_zero] at q1 q2 q3 q4 q5 q6
  have hw1H := Lib.hid hw1
  clear hw1
  have hbw1H := Lib.hid hbw1
  clear hbw1
  cases b1
  · clear q2 q3 q4 q5 q6
    go_wp2
    go_ret
    exact ⟨ret1_int hFH.out, hbw1H.out⟩
  · have hF := hFH.out
    clear hFH
    simp only [if_true] at hF
    have hFH := Lib.hid hF
    clear hF
    go_wp2_with fail
    refine (pairs_any has.A has.n has.cap has.l _ (o1H.out.1.below hbw1H.out) c2 hc2H.out).mono ?_
    rintro e w2 ⟨rfl, hw2⟩
    replace q2 := (hw2.cell (by omega)).trans q2
    replace q3 := (hw2.cell (by omega)).trans q3
    replace q4 := (hw2.cell (by omega)).trans q4
    replace q5 := (hw2.cell (by omega)).trans q5
    replace q6 := (hw2.cell (by omega)).trans q6
    have hbw2 := hbw1H.out.trans (hw2.mono hbw1H.out.size)
    have hz2 : w.heap.size < w2.heap.size := by have := hw2.size; omega
    clear q1
    have hw2H := Lib.hid hw2
    clear hw2
    have hbw2H := Lib.hid hbw2
    clear hbw2
    by_cases e2 : c2 = 0
    · subst e2
      have hF := hFH.out
      clear hFH
      simp only [if_true] at hF
      by_cases i2 : inR 1 20 sl = true
      · by_cases i3 : inR 1 1000 sp = true
        · by_cases i4 : inR 0 1000000000 fr = true
          · by_cases i5 : inR 0 1000000000 tz = true
            · rw [if_pos ⟨i2, i3, i4, i5⟩] at hF
              by_cases hle : tz ≤ fr
              · rw [if_pos hle] at hF
                have hFH := Lib.hid hF
                clear hF
                go_wp2_with (first | (go_at_call 42; refine (within_p _ _ _ _).mono ?_; rintro e wz ⟨rfl, rfl⟩) | (go_at_call 60; refine (moment_p _ _).mono ?_; rintro e wz ⟨rfl, rfl⟩))
                go_ret
                exact ⟨ret1_int hFH.out, hbw2H.out⟩
              · rw [if_neg hle] at hF
                have hle2 : decide (tz ≤ fr) = false := decide_eq_false hle
                have hFH := Lib.hid hF
                clear hF
                go_wp2_with (first | (go_at_call 42; refine (within_p _ _ _ _).mono ?_; rintro e wz ⟨rfl, rfl⟩) | (go_at_call 60; refine (moment_p _ _).mono ?_; rintro e wz ⟨rfl, rfl⟩))
                refine (stands_any st.A st.n st.cap st.l _ (o6H.out.1.below hbw2H.out) c3 hc3H.out).mono ?_
                rintro e w3 ⟨rfl, hw3⟩
                have hbw3 := hbw2H.out.trans (hw3.mono hbw2H.out.size)
                have hw3H := Lib.hid hw3
                clear hw3
                have hbw3H := Lib.hid hbw3
                clear hbw3
                clear q2 q3 q4 q5 q6
                go_wp2
                go_ret
                exact ⟨ret1_int hFH.out, hbw3H.out⟩
            · rw [if_neg (fun h => i5 h.2.2.2)] at hF
              have i5 : inR 0 1000000000 tz = false := by simpa using i5
              have hFH := Lib.hid hF
              clear hF
              go_wp2_with (first | (go_at_call 42; refine (within_p _ _ _ _).mono ?_; rintro e wz ⟨rfl, rfl⟩) | (go_at_call 60; refine (moment_p _ _).mono ?_; rintro e wz ⟨rfl, rfl⟩))
              go_ret
              exact ⟨ret1_int hFH.out, hbw2H.out⟩
          · rw [if_neg (fun h => i4 h.2.2.1)] at hF
            have i4 : inR 0 1000000000 fr = false := by simpa using i4
            have hFH := Lib.hid hF
            clear hF
            go_wp2_with (first | (go_at_call 42; refine (within_p _ _ _ _).mono ?_; rintro e wz ⟨rfl, rfl⟩) | (go_at_call 60; refine (moment_p _ _).mono ?_; rintro e wz ⟨rfl, rfl⟩))
            go_ret
            exact ⟨ret1_int hFH.out, hbw2H.out⟩
        · rw [if_neg (fun h => i3 h.2.1)] at hF
          have i3 : inR 1 1000 sp = false := by simpa using i3
          have hFH := Lib.hid hF
          clear hF
          go_wp2_with (first | (go_at_call 42; refine (within_p _ _ _ _).mono ?_; rintro e wz ⟨rfl, rfl⟩) | (go_at_call 60; refine (moment_p _ _).mono ?_; rintro e wz ⟨rfl, rfl⟩))
          go_ret
          exact ⟨ret1_int hFH.out, hbw2H.out⟩
      · rw [if_neg (fun h => i2 h.1)] at hF
        have i2 : inR 1 20 sl = false := by simpa using i2
        have hFH := Lib.hid hF
        clear hF
        go_wp2_with (first | (go_at_call 42; refine (within_p _ _ _ _).mono ?_; rintro e wz ⟨rfl, rfl⟩) | (go_at_call 60; refine (moment_p _ _).mono ?_; rintro e wz ⟨rfl, rfl⟩))
        go_ret
        exact ⟨ret1_int hFH.out, hbw2H.out⟩
    · have hF := hFH.out
      clear hFH
      rw [if_neg e2] at hF
      have e3 : (c2 != 0) = true := by simpa using e2
      clear q2 q3 q4 q5 q6
      have hFH := Lib.hid hF
      clear hF
      go_wp2
      go_ret
      exact ⟨ret1_int hFH.out, hbw2H.out⟩

end Go.Proofs.YtbapkhkklglbaaaDoor.C9
