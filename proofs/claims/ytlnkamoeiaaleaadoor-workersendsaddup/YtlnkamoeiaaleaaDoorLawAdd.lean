/-
  WorkersEndsAddUp: the law in plain Lean, and the walk.
-/
import Derived.Test.YtlnkamoeiaaleaaDoorLawEnds
namespace Go.Proofs.YtlnkamoeiaaleaaDoor
open Go.RowKit
set_option linter.unusedVariables false

def SpansUp (l : List Span) : Prop := ∀ s ∈ l, s.from_ < s.to_

theorem endsGo_gt : ∀ (l : List Span) (L T : Int), 1 ≤ L → SpansUp l → T + L ≤ endsGo L T l
  | [], L, T, _, _ => by rw [endsGo]; omega
  | s :: r, L, T, h, hs => by
    have h0 := hs s (List.mem_cons_self ..)
    have hr : SpansUp r := fun y hy => hs y (List.mem_cons_of_mem _ hy)
    rw [endsGo]
    split
    · exact endsGo_gt r L T h hr
    · split
      · split
        · omega
        · have := endsGo_gt r (L - (s.from_ - T)) s.to_ (by omega) hr
          omega
      · have := endsGo_gt r L s.to_ h hr
        omega

theorem endsGo_add : ∀ (l : List Span) (a b T : Int), 1 ≤ a → 1 ≤ b → SpansUp l → endsGo (a + b) T l = endsGo b (endsGo a T l) l
  | [], a, b, T, _, _, _ => by simp only [endsGo]; omega
  | s :: r, a, b, T, ha, hb, hs => by
    have h0 := hs s (List.mem_cons_self ..)
    have hr : SpansUp r := fun y hy => hs y (List.mem_cons_of_mem _ hy)
    by_cases h1 : s.to_ ≤ T
    · have hg := endsGo_gt r a T ha hr
      have e1 : endsGo (a + b) T (s :: r) = endsGo (a + b) T r := by rw [endsGo, if_pos h1]
      have e2 : endsGo a T (s :: r) = endsGo a T r := by rw [endsGo, if_pos h1]
      rw [e1, e2, endsGo, if_pos (by omega)]
      exact endsGo_add r a b T ha hb hr
    · by_cases h2 : T < s.from_
      · by_cases h3 : a ≤ s.from_ - T
        · have e2 : endsGo a T (s :: r) = T + a := by rw [endsGo, if_neg h1, if_pos h2, if_pos h3]
          rw [e2]
          by_cases h4 : a + b ≤ s.from_ - T
          · rw [endsGo, if_neg h1, if_pos h2, if_pos h4, endsGo, if_neg (by omega), if_pos (by omega), if_pos (by omega)]
            omega
          · rw [endsGo, if_neg h1, if_pos h2, if_neg h4, endsGo, if_neg (by omega)]
            by_cases h5 : T + a < s.from_
            · rw [if_pos h5, if_neg (by omega)]
              congr 1
              omega
            · rw [if_neg h5]
              congr 1
              omega
        · have hg := endsGo_gt r (a - (s.from_ - T)) s.to_ (by omega) hr
          have e1 : endsGo (a + b) T (s :: r) = endsGo (a - (s.from_ - T) + b) s.to_ r := by
            rw [endsGo, if_neg h1, if_pos h2, if_neg (by omega)]
            congr 1
            omega
          have e2 : endsGo a T (s :: r) = endsGo (a - (s.from_ - T)) s.to_ r := by rw [endsGo, if_neg h1, if_pos h2, if_neg h3]
          rw [e1, e2, endsGo, if_pos (by omega)]
          exact endsGo_add r _ b _ (by omega) hb hr
      · have hg := endsGo_gt r a s.to_ ha hr
        have e1 : endsGo (a + b) T (s :: r) = endsGo (a + b) s.to_ r := by rw [endsGo, if_neg h1, if_neg h2]
        have e2 : endsGo a T (s :: r) = endsGo a s.to_ r := by rw [endsGo, if_neg h1, if_neg h2]
        rw [e1, e2, endsGo, if_pos (by omega)]
        exact endsGo_add r a b _ ha hb hr

theorem standsErr_up : ∀ (l : List Span) (p : Option Int), standsErr p l = 0 → SpansUp l
  | [], _, _ => fun s h => by cases h
  | s :: r, p, h => by
    rw [standsErr] at h
    by_cases h0 : inR 0 1000000000 s.from_ = true
    · by_cases h1 : inR 0 1000000000 s.to_ = true
      · rw [if_pos h0, if_pos h1] at h
        split at h
        · cases h
        · split at h
          · cases h
          · intro y hy
            rcases List.mem_cons.1 hy with rfl | hy
            · omega
            · exact standsErr_up r _ h y hy
      · rw [if_pos h0, if_neg h1] at h; cases h
    · rw [if_neg h0] at h; cases h
theorem worker_up {x : Worker} (h : workerF x = 0) : SpansUp x.stands.l := by
  unfold workerF at h
  split at h
  · split at h
    · split at h
      · split at h
        · cases h
        · unfold standsF at h
          split at h
          · exact standsErr_up _ _ h
          · cases h
      · cases h
    · rename_i h2
      exact absurd h h2
  · cases h

theorem secs_mul (x : Worker) (p r : Int) (h : 1 ≤ x.speed) : secsF x (p * x.speed + r) = p + secsF x r := by
  unfold secsF
  rw [show p * x.speed + r + x.speed - 1 = (r + x.speed - 1) + p * x.speed by omega, Int.add_mul_ediv_right _ _ (by omega)]
  omega
theorem secs_mul0 (x : Worker) (p : Int) (h : 1 ≤ x.speed) : secsF x (p * x.speed) = p := by
  have := secs_mul x p 0 h
  rw [Int.add_zero] at this
  rw [this]
  unfold secsF
  rw [Int.ediv_eq_zero_of_lt (by omega) (by omega)]
  omega

/-- THE LAW -/
theorem add_up {x : Worker} {p r fm en : Int} (hp : 1 ≤ p) (hr : 1 ≤ r) (hp2 : p * x.speed ≤ 1000000) (hr2 : r ≤ 1000000) (h : endsR x (p * x.speed + r) fm = (en, true, 0)) :
    ∃ mid, endsR x (p * x.speed) fm = (mid, true, 0) ∧ endsR x r mid = (en, true, 0) := by
  unfold endsR at h
  by_cases hs : sizeF x (p * x.speed + r) = 0
  · obtain ⟨hw, hsz⟩ := size_good hs
    obtain ⟨⟨hsp, _⟩, hfr, hto, _⟩ := worker_good hw
    have hup := worker_up hw
    have hmul : 1 ≤ p * x.speed := Int.le_trans (by omega : (1:Int) ≤ 1 * 1) (Int.mul_le_mul hp hsp (by omega) (by omega))
    rw [if_pos hs] at h
    have hs1 : sizeF x (p * x.speed) = 0 := by rw [sizeF, if_pos hw, if_pos (inR_of ⟨hmul, hp2⟩)]
    have hs2 : sizeF x r = 0 := by rw [sizeF, if_pos hw, if_pos (inR_of ⟨hr, hr2⟩)]
    by_cases hf : inR 0 1000000000 fm = true
    · obtain ⟨hf1, hf2⟩ := inR_true hf
      rw [if_pos hf, Prod.mk.injEq, Prod.mk.injEq] at h
      obtain ⟨h1, h2, _⟩ := h
      unfold endsF at h1 h2
      by_cases hfx : fm < x.from_
      · rw [if_pos hfx] at h2; cases h2
      · rw [if_neg hfx] at h1 h2
        by_cases hge : x.to_ < endsGo (secsF x (p * x.speed + r)) fm x.stands.l
        · rw [if_pos hge] at h2; cases h2
        · rw [if_neg hge] at h1
          simp only at h1
          have hb1 : 1 ≤ secsF x r := by
            have := (Int.le_ediv_iff_mul_le (a := 1) (b := r + x.speed - 1) (c := x.speed) (by omega)).2 (by omega)
            exact this
          rw [secs_mul x p r hsp, endsGo_add _ _ _ _ hp hb1 hup] at h1 hge
          have g1 := endsGo_gt x.stands.l p fm hp hup
          have g2 := endsGo_gt x.stands.l (secsF x r) (endsGo p fm x.stands.l) hb1 hup
          refine ⟨endsGo p fm x.stands.l, ?_, ?_⟩
          · rw [endsR, if_pos hs1, if_pos hf, endsF, if_neg hfx, secs_mul0 x p hsp, if_neg (by omega)]
          · rw [endsR, if_pos hs2, if_pos (inR_of ⟨by omega, by omega⟩), endsF, if_neg (by omega), if_neg hge, h1]
    · rw [if_neg hf, Prod.mk.injEq, Prod.mk.injEq] at h
      cases h.2.1
  · rw [if_neg hs, Prod.mk.injEq, Prod.mk.injEq] at h
    cases h.2.1
theorem ends_zero {x : Worker} {sz fm a c : Int} {b : Bool} (h : endsR x sz fm = (a, b, c)) (hc : ¬ c = 0 ∨ b = false) : a = 0 := by
  unfold endsR at h
  split at h
  · split at h
    · simp only [Prod.mk.injEq] at h
      obtain ⟨h1, h2, rfl⟩ := h
      rcases hc with hc | rfl
      · exact absurd rfl hc
      · unfold endsF at h1 h2
        split at h1
        · exact h1.symm
        · split at h1
          · exact h1.symm
          · rename_i a1 a2
            rw [if_neg a1, if_neg a2] at h2
            cases h2
    · simp only [Prod.mk.injEq] at h
      exact h.1.symm
  · simp only [Prod.mk.injEq] at h
    exact h.1.symm

theorem awake_tail (w : World) : Calls Tryd.prog 12 #[] w fun e w' => e = .returned (.bool true) ∧ Below w.heap.size w w' := awake_any w

set_option maxRecDepth 100000 in
set_option maxHeartbeats 2000000 in
theorem law_add (x : Worker) (p r fm : Int) (w : World) (hok : RWorker.ok w x) (hp : RInt.ok w p) (hr : RInt.ok w r) (_ : RInt.ok w fm) :
    Calls Tryd.prog 4 #[.agg #[.string x.name, .slice x.has.A x.has.n x.has.cap, .int .i64 x.slots, .int .i64 x.speed, .int .i64 x.from_, .int .i64 x.to_, .slice x.stands.A x.stands.n x.stands.cap], .int .i64 p, .int .i64 r, .int .i64 fm] w fun e w' => e = .returned (.bool true) ∧ Below w.heap.size w w' := by
  have hb0 := (Below.refl w.heap.size w).alloc (Nat.le_refl _) (.cells #[.string x.name, .slice x.has.A x.has.n x.has.cap, .int .i64 x.slots, .int .i64 x.speed, .int .i64 x.from_, .int .i64 x.to_, .slice x.stands.A x.stands.n x.stands.cap] 25)
  have hz0 : w.heap.size < (w.alloc (.cells #[.string x.name, .slice x.has.A x.has.n x.has.cap, .int .i64 x.slots, .int .i64 x.speed, .int .i64 x.from_, .int .i64 x.to_, .slice x.stands.A x.stands.n x.stands.cap] 25)).heap.size := by simp
  obtain ⟨q0, q1, q2, q3, q4, q5, q6⟩ := wcells x (Below.refl (w.alloc (.cells #[.string x.name, .slice x.has.A x.has.n x.has.cap, .int .i64 x.slots, .int .i64 x.speed, .int .i64 x.from_, .int .i64 x.to_, .slice x.stands.A x.stands.n x.stands.cap] 25)).heap.size (w.alloc (.cells #[.string x.name, .slice x.has.A x.has.n x.has.cap, .int .i64 x.slots, .int .i64 x.speed, .int .i64 x.from_, .int .i64 x.to_, .slice x.stands.A x.stands.n x.stands.cap] 25)))
  obtain ⟨w0, hw0⟩ : ∃ w0, w0 = w.alloc (.cells #[.string x.name, .slice x.has.A x.has.n x.has.cap, .int .i64 x.slots, .int .i64 x.speed, .int .i64 x.from_, .int .i64 x.to_, .slice x.stands.A x.stands.n x.stands.cap] 25) := ⟨_, rfl⟩
  rw [← hw0] at hb0 hz0 q0 q1 q2 q3 q4 q5 q6
  have hokH := Lib.hid hok
  clear hok
  have hb0H := Lib.hid hb0
  clear hb0
  have hw0H := Lib.hid hw0
  clear hw0
  have hpH := Lib.hid hp
  clear hp
  have hrH := Lib.hid hr
  clear hr
  by_cases c0 : p < 1
  · skip
    clear q0 q1 q2 q3 q4 q5 q6
    go_enter Tryd.func4, Tryd.ntmps4
    go_wp2_with fail
    (try rw [← hw0H.out])
    refine (awake_any _).mono ?_
    rintro e w5 ⟨rfl, hw5⟩
    have hb5 := hb0H.out.trans (hw5.mono hb0H.out.size)
    have hw5H := Lib.hid hw5
    clear hw5
    have hb5H := Lib.hid hb5
    clear hb5
    go_wp2
    go_ret
    exact ⟨rfl, hb5H.out⟩
  · skip
    by_cases c1 : r < 1
    · skip
      clear q0 q1 q2 q3 q4 q5 q6
      go_enter Tryd.func4, Tryd.ntmps4
      go_wp2_with fail
      (try rw [← hw0H.out])
      refine (awake_any _).mono ?_
      rintro e w5 ⟨rfl, hw5⟩
      have hb5 := hb0H.out.trans (hw5.mono hb0H.out.size)
      have hw5H := Lib.hid hw5
      clear hw5
      have hb5H := Lib.hid hb5
      clear hb5
      go_wp2
      go_ret
      exact ⟨rfl, hb5H.out⟩
    · skip
      by_cases c2 : 1000000 < p
      · skip
        clear q0 q1 q2 q3 q4 q5 q6
        go_enter Tryd.func4, Tryd.ntmps4
        go_wp2_with fail
        (try rw [← hw0H.out])
        refine (awake_any _).mono ?_
        rintro e w5 ⟨rfl, hw5⟩
        have hb5 := hb0H.out.trans (hw5.mono hb0H.out.size)
        have hw5H := Lib.hid hw5
        clear hw5
        have hb5H := Lib.hid hb5
        clear hb5
        go_wp2
        go_ret
        exact ⟨rfl, hb5H.out⟩
      · skip
        by_cases c3 : 1000000 < r
        · skip
          clear q0 q1 q2 q3 q4 q5 q6
          go_enter Tryd.func4, Tryd.ntmps4
          go_wp2_with fail
          (try rw [← hw0H.out])
          refine (awake_any _).mono ?_
          rintro e w5 ⟨rfl, hw5⟩
          have hb5 := hb0H.out.trans (hw5.mono hb0H.out.size)
          have hw5H := Lib.hid hw5
          clear hw5
          have hb5H := Lib.hid hb5
          clear hb5
          go_wp2
          go_ret
          exact ⟨rfl, hb5H.out⟩
        · skip
          by_cases c4 : x.speed < 1
          · skip
            clear q0 q1 q2 q3 q4 q5 q6
            go_enter Tryd.func4, Tryd.ntmps4
            go_wp2_with fail
            (try rw [← hw0H.out])
            refine (awake_any _).mono ?_
            rintro e w5 ⟨rfl, hw5⟩
            have hb5 := hb0H.out.trans (hw5.mono hb0H.out.size)
            have hw5H := Lib.hid hw5
            clear hw5
            have hb5H := Lib.hid hb5
            clear hb5
            go_wp2
            go_ret
            exact ⟨rfl, hb5H.out⟩
          · skip
            by_cases c5 : 1000 < x.speed
            · skip
              clear q0 q1 q2 q3 q4 q5 q6
              go_enter Tryd.func4, Tryd.ntmps4
              go_wp2_with fail
              (try rw [← hw0H.out])
              refine (awake_any _).mono ?_
              rintro e w5 ⟨rfl, hw5⟩
              have hb5 := hb0H.out.trans (hw5.mono hb0H.out.size)
              have hw5H := Lib.hid hw5
              clear hw5
              have hb5H := Lib.hid hb5
              clear hb5
              go_wp2
              go_ret
              exact ⟨rfl, hb5H.out⟩
            · skip
              have m0 : 1 ≤ p * x.speed := Int.le_trans (by omega : (1:Int) ≤ 1 * 1) (Int.mul_le_mul (by omega) (by omega) (by omega) (by omega))
              have m1 : p * x.speed ≤ 1000000 * 1000 := Int.mul_le_mul (by omega) (by omega) (by omega) (by omega)
              by_cases c6 : 1000000 < p * x.speed
              · skip
                clear q0 q1 q2 q3 q4 q5 q6
                go_enter Tryd.func4, Tryd.ntmps4
                go_wp2_with fail
                (try rw [← hw0H.out])
                refine (awake_any _).mono ?_
                rintro e w5 ⟨rfl, hw5⟩
                have hb5 := hb0H.out.trans (hw5.mono hb0H.out.size)
                have hw5H := Lib.hid hw5
                clear hw5
                have hb5H := Lib.hid hb5
                clear hb5
                go_wp2
                go_ret
                exact ⟨rfl, hb5H.out⟩
              · skip
                by_cases c7 : 1000000 < p * x.speed + r
                · skip
                  clear q0 q1 q2 q3 q4 q5 q6
                  go_enter Tryd.func4, Tryd.ntmps4
                  go_wp2_with fail
                  (try rw [← hw0H.out])
                  refine (awake_any _).mono ?_
                  rintro e w5 ⟨rfl, hw5⟩
                  have hb5 := hb0H.out.trans (hw5.mono hb0H.out.size)
                  have hw5H := Lib.hid hw5
                  clear hw5
                  have hb5H := Lib.hid hb5
                  clear hb5
                  go_wp2
                  go_ret
                  exact ⟨rfl, hb5H.out⟩
                · skip
                  have hlaw := fun en => add_up (x := x) (p := p) (r := r) (fm := fm) (en := en) (by omega) (by omega) (by omega) (by omega)
                  obtain ⟨a, b, c, hab⟩ : ∃ a b c, endsR x (p * x.speed + r) fm = (a, b, c) := ⟨_, _, _, rfl⟩
                  have hz := ends_zero hab
                  obtain ⟨pm, hpm⟩ : ∃ pm, p * x.speed = pm := ⟨_, rfl⟩
                  obtain ⟨ps, hps⟩ : ∃ ps, p * x.speed + r = ps := ⟨_, rfl⟩
                  have hps2 : pm + r = ps := by rw [← hpm]; exact hps
                  rw [hps] at hab hlaw
                  rw [hpm] at hlaw m0 m1 c6 c7
                  have hlawH := Lib.hid hlaw
                  clear hlaw
                  have habH := Lib.hid hab
                  clear hab
                  have hzH := Lib.hid hz
                  clear hz
                  have hpsH := Lib.hid hps
                  clear hps
                  go_enter Tryd.func4, Tryd.ntmps4
                  go_wp2_with fail
                  (try rw [← hw0H.out])
                  (try rw [hpm])
                  (try rw [hps2])
                  refine (Ends_any x ps fm _ (ok_below hb0H.out hokH.out) a b c habH.out).mono ?_
                  rintro e w1 ⟨rfl, hw1⟩
                  have hz1 : w.heap.size < w1.heap.size := by have := hw1.size; omega
                  obtain ⟨q0, q1, q2, q3, q4, q5, q6⟩ := WC.below hz0 hw1 ⟨q0, q1, q2, q3, q4, q5, q6⟩
                  have hb1 := hb0H.out.trans (hw1.mono hb0H.out.size)
                  have hw1H := Lib.hid hw1
                  clear hw1
                  have hb1H := Lib.hid hb1
                  clear hb1
                  by_cases e0 : c = 0
                  · subst e0
                    cases b
                    · have hz := hzH.out (Or.inr rfl)
                      subst hz
                      clear q0 q1 q2 q3 q4 q5 q6
                      go_wp2_with fail
                      refine (awake_any _).mono ?_
                      rintro e w5 ⟨rfl, hw5⟩
                      have hb5 := hb1H.out.trans (hw5.mono hb1H.out.size)
                      have hw5H := Lib.hid hw5
                      clear hw5
                      have hb5H := Lib.hid hb5
                      clear hb5
                      go_wp2
                      go_ret
                      exact ⟨rfl, hb5H.out⟩
                    · obtain ⟨mid, hm1, hm2⟩ := hlawH.out a habH.out
                      have hm1H := Lib.hid hm1
                      clear hm1
                      have hm2H := Lib.hid hm2
                      clear hm2
                      go_wp2_with fail
                      (try rw [hpm])
                      refine (Ends_any x pm fm _ (ok_below hb1H.out hokH.out) mid true 0 hm1H.out).mono ?_
                      rintro e w2 ⟨rfl, hw2⟩
                      have hz2 : w.heap.size < w2.heap.size := by have := hw2.size; omega
                      obtain ⟨q0, q1, q2, q3, q4, q5, q6⟩ := WC.below hz1 hw2 ⟨q0, q1, q2, q3, q4, q5, q6⟩
                      have hb2 := hb1H.out.trans (hw2.mono hb1H.out.size)
                      have hw2H := Lib.hid hw2
                      clear hw2
                      have hb2H := Lib.hid hb2
                      clear hb2
                      go_wp2_with fail
                      refine (awake_any _).mono ?_
                      rintro e w3 ⟨rfl, hw3⟩
                      have hz3 : w.heap.size < w3.heap.size := by have := hw3.size; omega
                      obtain ⟨q0, q1, q2, q3, q4, q5, q6⟩ := WC.below hz2 hw3 ⟨q0, q1, q2, q3, q4, q5, q6⟩
                      have hb3 := hb2H.out.trans (hw3.mono hb2H.out.size)
                      have hw3H := Lib.hid hw3
                      clear hw3
                      have hb3H := Lib.hid hb3
                      clear hb3
                      go_wp2_with fail
                      refine (Ends_any x r mid _ (ok_below hb3H.out hokH.out) a true 0 hm2H.out).mono ?_
                      rintro e w4 ⟨rfl, hw4⟩
                      have hz4 : w.heap.size < w4.heap.size := by have := hw4.size; omega
                      obtain ⟨q0, q1, q2, q3, q4, q5, q6⟩ := WC.below hz3 hw4 ⟨q0, q1, q2, q3, q4, q5, q6⟩
                      have hb4 := hb3H.out.trans (hw4.mono hb3H.out.size)
                      have hw4H := Lib.hid hw4
                      clear hw4
                      have hb4H := Lib.hid hb4
                      clear hb4
                      clear q0 q1 q2 q3 q4 q5 q6
                      go_wp2
                      go_ret
                      exact ⟨rfl, hb4H.out⟩
                  · have hz := hzH.out (Or.inl e0)
                    subst hz
                    have e1 : (c != 0) = true := by simpa using e0
                    clear q0 q1 q2 q3 q4 q5 q6
                    go_wp2_with fail
                    refine (awake_any _).mono ?_
                    rintro e w5 ⟨rfl, hw5⟩
                    have hb5 := hb1H.out.trans (hw5.mono hb1H.out.size)
                    have hw5H := Lib.hid hw5
                    clear hw5
                    have hb5H := Lib.hid hb5
                    clear hb5
                    go_wp2
                    go_ret
                    exact ⟨rfl, hb5H.out⟩
end Go.Proofs.YtlnkamoeiaaleaaDoor
