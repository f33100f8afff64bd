/-
  checkSize, Seconds, Ends of the program and of the reference; awake.
-/
import Derived.Test.YtlnkamoeiaaleaaDoorREnds
namespace Go.Proofs.YtlnkamoeiaaleaaDoor
open Go.RowKit
set_option linter.unusedVariables false

def sizeF (x : Worker) (sz : Int) : Int := if workerF x = 0 then (if inR 1 1000000 sz = true then 0 else 1) else workerF x
def secondsR (x : Worker) (sz : Int) : Int × Int := if sizeF x sz = 0 then (secsF x sz, 0) else (0, sizeF x sz)
def endsR (x : Worker) (sz fm : Int) : Int × Bool × Int :=
  if sizeF x sz = 0 then (if inR 0 1000000000 fm = true then ((endsF x sz fm).1, (endsF x sz fm).2, 0) else (0, false, 1)) else (0, false, sizeF x sz)

theorem standsErr_in : ∀ (l : List Span) (p : Option Int), standsErr p l = 0 → SpansIn l
  | [], _, _ => fun s h => by cases h
  | s :: r, p, h => by
    rw [standsErr] at h
    by_cases h0 : inR 0 1000000000 s.from_ = true
    · by_cases h1 : inR 0 1000000000 s.to_ = true
      · rw [if_pos h0, if_pos h1] at h
        split at h
        · cases h
        · split at h
          · cases h
          · intro y hy
            rcases List.mem_cons.1 hy with rfl | hy
            · exact ⟨inR_true h0, inR_true h1⟩
            · exact standsErr_in r _ h y hy
      · rw [if_pos h0, if_neg h1] at h; cases h
    · rw [if_neg h0] at h; cases h
theorem worker_good {x : Worker} (h : workerF x = 0) : (1 ≤ x.speed ∧ x.speed ≤ 1000) ∧ (0 ≤ x.from_ ∧ x.from_ ≤ 1000000000) ∧ (0 ≤ x.to_ ∧ x.to_ ≤ 1000000000) ∧ SpansIn x.stands.l := by
  unfold workerF at h
  split at h
  · split at h
    · split at h
      · rename_i h3
        split at h
        · cases h
        · unfold standsF at h
          split at h
          · exact ⟨inR_true h3.2.1, inR_true h3.2.2.1, inR_true h3.2.2.2, standsErr_in _ _ h⟩
          · cases h
      · cases h
    · rename_i h2
      exact absurd h h2
  · cases h
theorem size_good {x : Worker} {sz : Int} (h : sizeF x sz = 0) : workerF x = 0 ∧ 1 ≤ sz ∧ sz ≤ 1000000 := by
  unfold sizeF at h
  split at h
  · rename_i h0
    split at h
    · rename_i h1
      exact ⟨h0, inR_true h1⟩
    · cases h
  · rename_i h0
    exact absurd h h0

theorem ok_below {w w' : World} {x : Worker} (hb : Below w.heap.size w w') (h : RWorker.ok w x) : RWorker.ok w' x := RWorker.mono _ _ _ hb h

theorem wcells {w w1 : World} (x : Worker) (hb : Below (w.alloc (.cells #[.string x.name, .slice x.has.A x.has.n x.has.cap, .int .i64 x.slots, .int .i64 x.speed, .int .i64 x.from_, .int .i64 x.to_, .slice x.stands.A x.stands.n x.stands.cap] 25)).heap.size (w.alloc (.cells #[.string x.name, .slice x.has.A x.has.n x.has.cap, .int .i64 x.slots, .int .i64 x.speed, .int .i64 x.from_, .int .i64 x.to_, .slice x.stands.A x.stands.n x.stands.cap] 25)) w1) :
    w1.cell? ⟨w.heap.size, 0, none⟩ = some (.string x.name) ∧ w1.cell? ⟨w.heap.size, 1, none⟩ = some (.slice x.has.A x.has.n x.has.cap) ∧ w1.cell? ⟨w.heap.size, 2, none⟩ = some (.int .i64 x.slots) ∧
    w1.cell? ⟨w.heap.size, 3, none⟩ = some (.int .i64 x.speed) ∧ w1.cell? ⟨w.heap.size, 4, none⟩ = some (.int .i64 x.from_) ∧ w1.cell? ⟨w.heap.size, 5, none⟩ = some (.int .i64 x.to_) ∧ w1.cell? ⟨w.heap.size, 6, none⟩ = some (.slice x.stands.A x.stands.n x.stands.cap) :=
  ⟨(hb.cell (by simp)).trans (cell_new w _ _ 0), (hb.cell (by simp)).trans (cell_new w _ _ 1), (hb.cell (by simp)).trans (cell_new w _ _ 2), (hb.cell (by simp)).trans (cell_new w _ _ 3), (hb.cell (by simp)).trans (cell_new w _ _ 4), (hb.cell (by simp)).trans (cell_new w _ _ 5), (hb.cell (by simp)).trans (cell_new w _ _ 6)⟩

set_option maxHeartbeats 1000000 in
theorem size_any (x : Worker) (sz : Int) (w : World) (hok : RWorker.ok w x) (c : Int) (hF : sizeF x sz = c) :
    Calls Tryd.prog 31 #[.agg #[.string x.name, .slice x.has.A x.has.n x.has.cap, .int .i64 x.slots, .int .i64 x.speed, .int .i64 x.from_, .int .i64 x.to_, .slice x.stands.A x.stands.n x.stands.cap], .int .i64 sz] w fun e w' => e = .returned (.int .i64 c) ∧ Below w.heap.size w w' := by
  unfold sizeF at hF
  obtain ⟨d, hd⟩ : ∃ d, workerF x = d := ⟨_, rfl⟩
  rw [hd] at hF
  have hba := (Below.refl w.heap.size w).alloc (Nat.le_refl _) (.cells #[.string x.name, .slice x.has.A x.has.n x.has.cap, .int .i64 x.slots, .int .i64 x.speed, .int .i64 x.from_, .int .i64 x.to_, .slice x.stands.A x.stands.n x.stands.cap] 25)
  have hok0 := ok_below hba hok
  have hokH := Lib.hid hok
  clear hok
  have hdH := Lib.hid hd
  clear hd
  have hFH := Lib.hid hF
  clear hF
  have hbaH := Lib.hid hba
  clear hba
  have hok0H := Lib.hid hok0
  clear hok0
  go_enter Tryd.func31, Tryd.ntmps31
  go_wp2_with fail
  refine (worker_any x _ hok0H.out d hdH.out).mono ?_
  rintro e w1 ⟨rfl, hw1⟩
  obtain ⟨q0, q1, q2, q3, q4, q5, q6⟩ := wcells x hw1
  have hb1 := hbaH.out.trans (hw1.mono hbaH.out.size)
  clear hw1
  have hb1H := Lib.hid hb1
  clear hb1
  by_cases e0 : d = 0
  · subst e0
    have hF := hFH.out
    clear hFH
    by_cases i0 : inR 1 1000000 sz = true
    · rw [if_pos rfl, if_pos i0] at hF
      subst hF
      go_wp2_with (go_at_call 41; refine (within_p _ _ _ _).mono ?_; rintro e wz ⟨rfl, rfl⟩)
      go_ret
      exact ⟨rfl, hb1H.out⟩
    · rw [if_pos rfl, if_neg i0] at hF
      subst hF
      have i0 : inR 1 1000000 sz = false := by simpa using i0
      go_wp2_with (go_at_call 41; refine (within_p _ _ _ _).mono ?_; rintro e wz ⟨rfl, rfl⟩)
      go_ret
      exact ⟨rfl, hb1H.out⟩
  · have hF := hFH.out
    clear hFH
    rw [if_neg e0] at hF
    subst hF
    have e1 : (d != 0) = true := by simpa using e0
    go_wp2
    go_ret
    exact ⟨rfl, hb1H.out⟩

set_option maxHeartbeats 1000000 in
theorem seconds_any (x : Worker) (sz : Int) (w : World) (hok : RWorker.ok w x) (a b : Int) (hF : secondsR x sz = (a, b)) :
    Calls Tryd.prog 8 #[.agg #[.string x.name, .slice x.has.A x.has.n x.has.cap, .int .i64 x.slots, .int .i64 x.speed, .int .i64 x.from_, .int .i64 x.to_, .slice x.stands.A x.stands.n x.stands.cap], .int .i64 sz] w fun e w' => e = .returned (.tuple #[.int .i64 a, .int .i64 b]) ∧ Below w.heap.size w w' := by
  unfold secondsR at hF
  obtain ⟨d, hd⟩ : ∃ d, sizeF x sz = d := ⟨_, rfl⟩
  rw [hd] at hF
  have hba := (Below.refl w.heap.size w).alloc (Nat.le_refl _) (.cells #[.string x.name, .slice x.has.A x.has.n x.has.cap, .int .i64 x.slots, .int .i64 x.speed, .int .i64 x.from_, .int .i64 x.to_, .slice x.stands.A x.stands.n x.stands.cap] 25)
  have hok0 := ok_below hba hok
  have hokH := Lib.hid hok
  clear hok
  have hdH := Lib.hid hd
  clear hd
  have hFH := Lib.hid hF
  clear hF
  have hbaH := Lib.hid hba
  clear hba
  have hok0H := Lib.hid hok0
  clear hok0
  go_enter Tryd.func8, Tryd.ntmps8
  go_wp2_with fail
  refine (size_any x sz _ hok0H.out d hdH.out).mono ?_
  rintro e w1 ⟨rfl, hw1⟩
  obtain ⟨q0, q1, q2, q3, q4, q5, q6⟩ := wcells x hw1
  have hb1 := hbaH.out.trans (hw1.mono hbaH.out.size)
  clear hw1
  have hb1H := Lib.hid hb1
  clear hb1
  have hF := hFH.out
  clear hFH
  by_cases e0 : d = 0
  · subst e0
    obtain ⟨g0, g1, g2⟩ := size_good hdH.out
    obtain ⟨⟨g3, g4⟩, _⟩ := worker_good g0
    rw [if_pos rfl, Prod.mk.injEq] at hF
    obtain ⟨hs, rfl⟩ := hF
    clear g0
    have hsH := Lib.hid hs
    clear hs
    go_wp2_with fail
    refine (secs x sz _ g1 g2 g3 g4 a hsH.out).mono ?_
    rintro e w2 ⟨rfl, hb2⟩
    have hbb := hb1H.out.trans (hb2.mono hb1H.out.size)
    have hb2H := Lib.hid hb2
    clear hb2
    have hbbH := Lib.hid hbb
    clear hbb
    go_wp2
    go_ret2
    exact ⟨rfl, hbbH.out⟩
  · rw [if_neg e0, Prod.mk.injEq] at hF
    obtain ⟨rfl, rfl⟩ := hF
    have e1 : (d != 0) = true := by simpa using e0
    go_wp2
    go_ret2
    exact ⟨rfl, hb1H.out⟩

set_option maxHeartbeats 1000000 in
theorem rseconds_any (x : Worker) (sz : Int) (w : World) (hok : RWorker.ok w x) (a b : Int) (hF : secondsR x sz = (a, b)) :
    Calls Tryd.prog 9 #[.agg #[.string x.name, .slice x.has.A x.has.n x.has.cap, .int .i64 x.slots, .int .i64 x.speed, .int .i64 x.from_, .int .i64 x.to_, .slice x.stands.A x.stands.n x.stands.cap], .int .i64 sz] w fun e w' => e = .returned (.tuple #[.int .i64 a, .int .i64 b]) ∧ Below w.heap.size w w' := by
  unfold secondsR sizeF at hF
  obtain ⟨d, hd⟩ : ∃ d, workerF x = d := ⟨_, rfl⟩
  rw [hd] at hF
  have hba := (Below.refl w.heap.size w).alloc (Nat.le_refl _) (.cells #[.string x.name, .slice x.has.A x.has.n x.has.cap, .int .i64 x.slots, .int .i64 x.speed, .int .i64 x.from_, .int .i64 x.to_, .slice x.stands.A x.stands.n x.stands.cap] 25)
  have hok0 := ok_below hba hok
  have hokH := Lib.hid hok
  clear hok
  have hdH := Lib.hid hd
  clear hd
  have hFH := Lib.hid hF
  clear hF
  have hbaH := Lib.hid hba
  clear hba
  have hok0H := Lib.hid hok0
  clear hok0
  go_enter Tryd.func9, Tryd.ntmps9
  go_wp2_with fail
  refine (rworker_any x _ hok0H.out d hdH.out).mono ?_
  rintro e w1 ⟨rfl, hw1⟩
  obtain ⟨q0, q1, q2, q3, q4, q5, q6⟩ := wcells x hw1
  have hb1 := hbaH.out.trans (hw1.mono hbaH.out.size)
  clear hw1
  have hb1H := Lib.hid hb1
  clear hb1
  have hF := hFH.out
  clear hFH
  by_cases e0 : d = 0
  · subst e0
    obtain ⟨⟨g3, g4⟩, _⟩ := worker_good hdH.out
    simp only [if_true] at hF
    by_cases i0 : inR 1 1000000 sz = true
    · obtain ⟨g1, g2⟩ := inR_true i0
      simp only [if_pos i0, if_true, Prod.mk.injEq] at hF
      obtain ⟨hs, rfl⟩ := hF
      have hsH := Lib.hid hs
      clear hs
      go_wp2_with (go_at_call 34; refine (within_r _ _ _ _).mono ?_; rintro e wz ⟨rfl, rfl⟩)
      refine (rsecs x sz _ g1 g2 g3 g4 a hsH.out).mono ?_
      rintro e w2 ⟨rfl, hb2⟩
      have hbb := hb1H.out.trans (hb2.mono hb1H.out.size)
      have hb2H := Lib.hid hb2
      clear hb2
      have hbbH := Lib.hid hbb
      clear hbb
      go_wp2
      go_ret2
      exact ⟨rfl, hbbH.out⟩
    · rw [if_neg i0, if_neg (by decide), Prod.mk.injEq] at hF
      obtain ⟨rfl, rfl⟩ := hF
      have i0 : inR 1 1000000 sz = false := by simpa using i0
      go_wp2_with (go_at_call 34; refine (within_r _ _ _ _).mono ?_; rintro e wz ⟨rfl, rfl⟩)
      go_ret2
      exact ⟨rfl, hb1H.out⟩
  · rw [if_neg e0, if_neg e0, Prod.mk.injEq] at hF
    obtain ⟨rfl, rfl⟩ := hF
    have e1 : (d != 0) = true := by simpa using e0
    go_wp2
    go_ret2
    exact ⟨rfl, hb1H.out⟩

set_option maxHeartbeats 1000000 in
theorem Ends_any (x : Worker) (sz fm : Int) (w : World) (hok : RWorker.ok w x) (a : Int) (b : Bool) (c : Int) (hF : endsR x sz fm = (a, b, c)) :
    Calls Tryd.prog 10 #[.agg #[.string x.name, .slice x.has.A x.has.n x.has.cap, .int .i64 x.slots, .int .i64 x.speed, .int .i64 x.from_, .int .i64 x.to_, .slice x.stands.A x.stands.n x.stands.cap], .int .i64 sz, .int .i64 fm] w fun e w' => e = .returned (.tuple #[.int .i64 a, .bool b, .int .i64 c]) ∧ Below w.heap.size w w' := by
  unfold endsR at hF
  obtain ⟨d, hd⟩ : ∃ d, sizeF x sz = d := ⟨_, rfl⟩
  rw [hd] at hF
  have hba := (Below.refl w.heap.size w).alloc (Nat.le_refl _) (.cells #[.string x.name, .slice x.has.A x.has.n x.has.cap, .int .i64 x.slots, .int .i64 x.speed, .int .i64 x.from_, .int .i64 x.to_, .slice x.stands.A x.stands.n x.stands.cap] 25)
  have hok0 := ok_below hba hok
  have hokH := Lib.hid hok
  clear hok
  have hdH := Lib.hid hd
  clear hd
  have hFH := Lib.hid hF
  clear hF
  have hbaH := Lib.hid hba
  clear hba
  have hok0H := Lib.hid hok0
  clear hok0
  go_enter Tryd.func10, Tryd.ntmps10
  go_wp2_with fail
  refine (size_any x sz _ hok0H.out d hdH.out).mono ?_
  rintro e w1 ⟨rfl, hw1⟩
  obtain ⟨q0, q1, q2, q3, q4, q5, q6⟩ := wcells x hw1
  have hb1 := hbaH.out.trans (hw1.mono hbaH.out.size)
  clear hw1
  have hok1 := ok_below hb1 hokH.out
  have hb1H := Lib.hid hb1
  clear hb1
  have hok1H := Lib.hid hok1
  clear hok1
  have hF := hFH.out
  clear hFH
  by_cases e0 : d = 0
  · subst e0
    obtain ⟨g0, g1, g2⟩ := size_good hdH.out
    obtain ⟨⟨g3, g4⟩, _, _, hsp⟩ := worker_good g0
    rw [if_pos rfl] at hF
    clear g0
    by_cases i0 : inR 0 1000000000 fm = true
    · obtain ⟨g5, g6⟩ := inR_true i0
      rw [if_pos i0, Prod.mk.injEq, Prod.mk.injEq] at hF
      obtain ⟨h1, h2, rfl⟩ := hF
      have hpq : endsF x sz fm = (a, b) := Prod.ext h1 h2
      clear h1 h2
      have hspH := Lib.hid hsp
      clear hsp
      have hpqH := Lib.hid hpq
      clear hpq
      go_wp2_with (go_at_call 36; refine (moment_p _ _).mono ?_; rintro e wz ⟨rfl, rfl⟩)
      refine (ends_any x sz fm _ hok1H.out g1 g2 g3 g4 g5 g6 hspH.out a b hpqH.out).mono ?_
      rintro e w2 ⟨rfl, hb2⟩
      have hbb := hb1H.out.trans (hb2.mono hb1H.out.size)
      have hb2H := Lib.hid hb2
      clear hb2
      have hbbH := Lib.hid hbb
      clear hbb
      go_wp2
      go_ret3
      exact ⟨rfl, hbbH.out⟩
    · rw [if_neg i0, Prod.mk.injEq, Prod.mk.injEq] at hF
      obtain ⟨rfl, rfl, rfl⟩ := hF
      have i0 : inR 0 1000000000 fm = false := by simpa using i0
      clear hsp
      go_wp2_with (go_at_call 36; refine (moment_p _ _).mono ?_; rintro e wz ⟨rfl, rfl⟩)
      go_ret3
      exact ⟨rfl, hb1H.out⟩
  · rw [if_neg e0, Prod.mk.injEq, Prod.mk.injEq] at hF
    obtain ⟨rfl, rfl, rfl⟩ := hF
    have e1 : (d != 0) = true := by simpa using e0
    go_wp2
    go_ret3
    exact ⟨rfl, hb1H.out⟩

theorem rends_ends (x : Worker) (sz fm : Int) : endsF x sz fm = if (rendsF x sz fm).2 = true then rendsF x sz fm else (0, false) := by
  unfold endsF rendsF
  by_cases h : fm < x.from_
  · simp [h]
  · rw [if_neg h, if_neg h]
    by_cases h2 : x.to_ < endsGo (secsF x sz) fm x.stands.l
    · rw [if_pos h2, decide_eq_false (by omega)]; simp
    · rw [if_neg h2, decide_eq_true (by omega)]; simp

set_option maxHeartbeats 1000000 in
theorem rEnds_any (x : Worker) (sz fm : Int) (w : World) (hok : RWorker.ok w x) (a : Int) (b : Bool) (c : Int) (hF : endsR x sz fm = (a, b, c)) :
    Calls Tryd.prog 11 #[.agg #[.string x.name, .slice x.has.A x.has.n x.has.cap, .int .i64 x.slots, .int .i64 x.speed, .int .i64 x.from_, .int .i64 x.to_, .slice x.stands.A x.stands.n x.stands.cap], .int .i64 sz, .int .i64 fm] w fun e w' => e = .returned (.tuple #[.int .i64 a, .bool b, .int .i64 c]) ∧ Below w.heap.size w w' := by
  unfold endsR sizeF at hF
  obtain ⟨d, hd⟩ : ∃ d, workerF x = d := ⟨_, rfl⟩
  rw [hd] at hF
  have hba := (Below.refl w.heap.size w).alloc (Nat.le_refl _) (.cells #[.string x.name, .slice x.has.A x.has.n x.has.cap, .int .i64 x.slots, .int .i64 x.speed, .int .i64 x.from_, .int .i64 x.to_, .slice x.stands.A x.stands.n x.stands.cap] 25)
  have hok0 := ok_below hba hok
  have hokH := Lib.hid hok
  clear hok
  have hdH := Lib.hid hd
  clear hd
  have hFH := Lib.hid hF
  clear hF
  have hbaH := Lib.hid hba
  clear hba
  have hok0H := Lib.hid hok0
  clear hok0
  go_enter Tryd.func11, Tryd.ntmps11
  go_wp2_with fail
  refine (rworker_any x _ hok0H.out d hdH.out).mono ?_
  rintro e w1 ⟨rfl, hw1⟩
  obtain ⟨q0, q1, q2, q3, q4, q5, q6⟩ := wcells x hw1
  have hb1 := hbaH.out.trans (hw1.mono hbaH.out.size)
  clear hw1
  have hok1 := ok_below hb1 hokH.out
  have hb1H := Lib.hid hb1
  clear hb1
  have hok1H := Lib.hid hok1
  clear hok1
  have hF := hFH.out
  clear hFH
  by_cases e0 : d = 0
  · subst e0
    obtain ⟨⟨g3, g4⟩, _, _, hsp⟩ := worker_good hdH.out
    simp only [if_true] at hF
    by_cases i1 : inR 1 1000000 sz = true
    · obtain ⟨g1, g2⟩ := inR_true i1
      simp only [if_pos i1, if_true] at hF
      by_cases i0 : inR 0 1000000000 fm = true
      · obtain ⟨g5, g6⟩ := inR_true i0
        rw [if_pos i0, Prod.mk.injEq, Prod.mk.injEq] at hF
        obtain ⟨h1, h2, rfl⟩ := hF
        rw [rends_ends] at h1 h2
        obtain ⟨p, q, hpq⟩ : ∃ p q, rendsF x sz fm = (p, q) := ⟨_, _, rfl⟩
        rw [hpq] at h1 h2
        have hspH := Lib.hid hsp
        clear hsp
        have hpqH := Lib.hid hpq
        clear hpq
        go_wp2_with (go_at_call 34; refine (within_r _ _ _ _).mono ?_; rintro e wz ⟨rfl, rfl⟩)
        refine (rends_any x sz fm _ hok1H.out g1 g2 g3 g4 g5 g6 hspH.out p q hpqH.out).mono ?_
        rintro e w2 ⟨rfl, hb2⟩
        have hbb := hb1H.out.trans (hb2.mono hb1H.out.size)
        have hb2H := Lib.hid hb2
        clear hb2
        have hbbH := Lib.hid hbb
        clear hbb
        cases q
        · simp only [Bool.false_eq_true, if_false] at h1 h2
          subst h1; subst h2
          go_wp2
          go_ret3
          exact ⟨rfl, hbbH.out⟩
        · simp only [if_true] at h1 h2
          subst h1; subst h2
          go_wp2
          go_ret3
          exact ⟨rfl, hbbH.out⟩
      · rw [if_neg i0, Prod.mk.injEq, Prod.mk.injEq] at hF
        obtain ⟨rfl, rfl, rfl⟩ := hF
        have i0 : inR 0 1000000000 fm = false := by simpa using i0
        clear hsp
        go_wp2_with (go_at_call 34; refine (within_r _ _ _ _).mono ?_; rintro e wz ⟨rfl, rfl⟩)
        go_ret3
        exact ⟨rfl, hb1H.out⟩
    · rw [if_neg i1, if_neg (by decide), Prod.mk.injEq, Prod.mk.injEq] at hF
      obtain ⟨rfl, rfl, rfl⟩ := hF
      have i1 : inR 1 1000000 sz = false := by simpa using i1
      clear hsp
      go_wp2_with (go_at_call 34; refine (within_r _ _ _ _).mono ?_; rintro e wz ⟨rfl, rfl⟩)
      go_ret3
      exact ⟨rfl, hb1H.out⟩
  · rw [if_neg e0, if_neg e0, Prod.mk.injEq, Prod.mk.injEq] at hF
    obtain ⟨rfl, rfl, rfl⟩ := hF
    have e1 : (d != 0) = true := by simpa using e0
    go_wp2
    go_ret3
    exact ⟨rfl, hb1H.out⟩

def wAwake : Worker := ⟨⟨#[97]⟩, ⟨none, 0, 0, []⟩, 1, 2, 0, 1, ⟨none, 0, 0, []⟩⟩
theorem slAt_nil {α : Type} (R : Rd α) (w : World) : (RSl R).ok w ⟨none, 0, 0, []⟩ :=
  ⟨⟨rfl, fun h => absurd h (Nat.lt_irrefl 0), fun x hx => by cases hx⟩, Nat.le_refl _, Nat.zero_le _, fun _ => rfl⟩
theorem wAwake_ok (w : World) : RWorker.ok w wAwake := by
  refine ⟨?_, slAt_nil _ w, ?_, ?_, ?_, ?_, slAt_nil _ w⟩
  · show ByteArray.size ⟨#[97]⟩ ≤ maxLen
    decide +kernel
  all_goals exact ⟨by decide, by decide⟩
theorem wAwake_F : secondsR wAwake 3 = (2, 0) := by decide +kernel

theorem awake_any (w : World) : Calls Tryd.prog 12 #[] w fun e w' => e = .returned (.bool true) ∧ Below w.heap.size w w' := by
  go_enter Tryd.func12, Tryd.ntmps12
  go_wp2_with fail
  refine (seconds_any wAwake 3 _ (wAwake_ok _) 2 0 wAwake_F).mono ?_
  rintro e w' ⟨rfl, hb⟩
  go_wp2
  go_ret
  exact ⟨rfl, by first | exact hb | exact (Below.refl _ _).alloc (Nat.le_refl _) _ |>.trans (hb.mono (by simp))⟩
end Go.Proofs.YtlnkamoeiaaleaaDoor
