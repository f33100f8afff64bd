/-
  checkSize, Seconds of the program; awake of chapter 9 (rows of XEnds and XSeconds).
-/
import Derived.Test.YtpmjlbmegieieaaDoorWorkerC9
namespace Go.Proofs.YtpmjlbmegieieaaDoor.C9
open Go.RowKit
set_option linter.unusedVariables false

def secsF (x : Worker) (sz : Int) : Int := (sz + x.speed - 1) / x.speed
set_option maxHeartbeats 1000000 in
theorem secs (x : Worker) (sz : Int) (w : World) (h0 : 1 ≤ sz) (h1 : sz ≤ 1000000) (h2 : 1 ≤ x.speed) (h3 : x.speed ≤ 1000) (c : Int) (hc : secsF x sz = c) :
    Calls Tryd.prog 18 #[.agg #[.string x.name, .slice x.has.A x.has.n x.has.cap, .int .i64 x.slots, .int .i64 x.speed, .int .i64 x.from_, .int .i64 x.to_, .slice x.stands.A x.stands.n x.stands.cap], .int .i64 sz] w fun e w' =>
      e = .returned (.int .i64 c) ∧ Below w.heap.size w w' := by
  obtain ⟨nm, has, sl, sp, fr, tz, st⟩ := x
  simp only [secsF] at h2 h3 hc ⊢
  have hba := (Below.refl w.heap.size w).alloc (Nat.le_refl _) (.cells #[.string nm, .slice has.A has.n has.cap, .int .i64 sl, .int .i64 sp, .int .i64 fr, .int .i64 tz, .slice st.A st.n st.cap] 44)
  have hbaH := Lib.hid hba
  clear hba
  have hcH := Lib.hid hc
  clear hc
  go_enter Tryd.func18, Tryd.ntmps18
  go_wp2
  go_ret
  exact ⟨ret1_int (by have := hcH.out; omega), hbaH.out⟩

def sizeF (x : Worker) (sz : Int) : Int := if workerF x = 0 then (if inR 1 1000000 sz = true then 0 else 1) else workerF x
def secondsR (x : Worker) (sz : Int) : Int × Int := if sizeF x sz = 0 then (secsF x sz, 0) else (0, sizeF x sz)
theorem worker_good {x : Worker} (h : workerF x = 0) : (1 ≤ x.speed ∧ x.speed ≤ 1000) ∧ True := by
  unfold workerF at h
  split at h
  · split at h
    · split at h
      · rename_i h3
        exact ⟨inR_true h3.2.1, trivial⟩
      · cases h
    · rename_i h2
      exact absurd h h2
  · cases h
theorem size_good {x : Worker} {sz : Int} (h : sizeF x sz = 0) : workerF x = 0 ∧ 1 ≤ sz ∧ sz ≤ 1000000 := by
  unfold sizeF at h
  split at h
  · rename_i h0
    split at h
    · rename_i h1
      exact ⟨h0, inR_true h1⟩
    · cases h
  · rename_i h0
    exact absurd h h0

theorem ok_below {w w' : World} {x : Worker} (hb : Below w.heap.size w w') (h : RWorker.ok w x) : RWorker.ok w' x := RWorker.mono _ _ _ hb h

theorem wcells {w w1 : World} (x : Worker) (hb : Below (w.alloc (.cells #[.string x.name, .slice x.has.A x.has.n x.has.cap, .int .i64 x.slots, .int .i64 x.speed, .int .i64 x.from_, .int .i64 x.to_, .slice x.stands.A x.stands.n x.stands.cap] 44)).heap.size (w.alloc (.cells #[.string x.name, .slice x.has.A x.has.n x.has.cap, .int .i64 x.slots, .int .i64 x.speed, .int .i64 x.from_, .int .i64 x.to_, .slice x.stands.A x.stands.n x.stands.cap] 44)) w1) :
    w1.cell? ⟨w.heap.size, 0, none⟩ = some (.string x.name) ∧ w1.cell? ⟨w.heap.size, 1, none⟩ = some (.slice x.has.A x.has.n x.has.cap) ∧ w1.cell? ⟨w.heap.size, 2, none⟩ = some (.int .i64 x.slots) ∧
    w1.cell? ⟨w.heap.size, 3, none⟩ = some (.int .i64 x.speed) ∧ w1.cell? ⟨w.heap.size, 4, none⟩ = some (.int .i64 x.from_) ∧ w1.cell? ⟨w.heap.size, 5, none⟩ = some (.int .i64 x.to_) ∧ w1.cell? ⟨w.heap.size, 6, none⟩ = some (.slice x.stands.A x.stands.n x.stands.cap) :=
  ⟨(hb.cell (by simp)).trans (cell_new w _ _ 0), (hb.cell (by simp)).trans (cell_new w _ _ 1), (hb.cell (by simp)).trans (cell_new w _ _ 2), (hb.cell (by simp)).trans (cell_new w _ _ 3), (hb.cell (by simp)).trans (cell_new w _ _ 4), (hb.cell (by simp)).trans (cell_new w _ _ 5), (hb.cell (by simp)).trans (cell_new w _ _ 6)⟩

set_option maxHeartbeats 1000000 in
theorem size_any (x : Worker) (sz : Int) (w : World) (hok : RWorker.ok w x) (c : Int) (hF : sizeF x sz = c) :
    Calls Tryd.prog 17 #[.agg #[.string x.name, .slice x.has.A x.has.n x.has.cap, .int .i64 x.slots, .int .i64 x.speed, .int .i64 x.from_, .int .i64 x.to_, .slice x.stands.A x.stands.n x.stands.cap], .int .i64 sz] w fun e w' => e = .returned (.int .i64 c) ∧ Below w.heap.size w w' := by
  unfold sizeF at hF
  obtain ⟨d, hd⟩ : ∃ d, workerF x = d := ⟨_, rfl⟩
  rw [hd] at hF
  have hba := (Below.refl w.heap.size w).alloc (Nat.le_refl _) (.cells #[.string x.name, .slice x.has.A x.has.n x.has.cap, .int .i64 x.slots, .int .i64 x.speed, .int .i64 x.from_, .int .i64 x.to_, .slice x.stands.A x.stands.n x.stands.cap] 44)
  have hok0 := ok_below hba hok
  have hokH := Lib.hid hok
  clear hok
  have hdH := Lib.hid hd
  clear hd
  have hFH := Lib.hid hF
  clear hF
  have hbaH := Lib.hid hba
  clear hba
  have hok0H := Lib.hid hok0
  clear hok0
  go_enter Tryd.func17, Tryd.ntmps17
  go_wp2_with fail
  refine (worker_any x _ hok0H.out d hdH.out).mono ?_
  rintro e w1 ⟨rfl, hw1⟩
  obtain ⟨q0, q1, q2, q3, q4, q5, q6⟩ := wcells x hw1
  have hb1 := hbaH.out.trans (hw1.mono hbaH.out.size)
  clear hw1
  have hb1H := Lib.hid hb1
  clear hb1
  by_cases e0 : d = 0
  · subst e0
    have hF := hFH.out
    clear hFH
    by_cases i0 : inR 1 1000000 sz = true
    · rw [if_pos rfl, if_pos i0] at hF
      subst hF
      go_wp2_with (go_at_call 21; refine (within_p _ _ _ _).mono ?_; rintro e wz ⟨rfl, rfl⟩)
      go_ret
      exact ⟨rfl, hb1H.out⟩
    · rw [if_pos rfl, if_neg i0] at hF
      subst hF
      have i0 : inR 1 1000000 sz = false := by simpa using i0
      go_wp2_with (go_at_call 21; refine (within_p _ _ _ _).mono ?_; rintro e wz ⟨rfl, rfl⟩)
      go_ret
      exact ⟨rfl, hb1H.out⟩
  · have hF := hFH.out
    clear hFH
    rw [if_neg e0] at hF
    subst hF
    have e1 : (d != 0) = true := by simpa using e0
    go_wp2
    go_ret
    exact ⟨rfl, hb1H.out⟩

set_option maxHeartbeats 1000000 in
theorem seconds_any (x : Worker) (sz : Int) (w : World) (hok : RWorker.ok w x) (a b : Int) (hF : secondsR x sz = (a, b)) :
    Calls Tryd.prog 13 #[.agg #[.string x.name, .slice x.has.A x.has.n x.has.cap, .int .i64 x.slots, .int .i64 x.speed, .int .i64 x.from_, .int .i64 x.to_, .slice x.stands.A x.stands.n x.stands.cap], .int .i64 sz] w fun e w' => e = .returned (.tuple #[.int .i64 a, .int .i64 b]) ∧ Below w.heap.size w w' := by
  unfold secondsR at hF
  obtain ⟨d, hd⟩ : ∃ d, sizeF x sz = d := ⟨_, rfl⟩
  rw [hd] at hF
  have hba := (Below.refl w.heap.size w).alloc (Nat.le_refl _) (.cells #[.string x.name, .slice x.has.A x.has.n x.has.cap, .int .i64 x.slots, .int .i64 x.speed, .int .i64 x.from_, .int .i64 x.to_, .slice x.stands.A x.stands.n x.stands.cap] 44)
  have hok0 := ok_below hba hok
  have hokH := Lib.hid hok
  clear hok
  have hdH := Lib.hid hd
  clear hd
  have hFH := Lib.hid hF
  clear hF
  have hbaH := Lib.hid hba
  clear hba
  have hok0H := Lib.hid hok0
  clear hok0
  go_enter Tryd.func13, Tryd.ntmps13
  go_wp2_with fail
  refine (size_any x sz _ hok0H.out d hdH.out).mono ?_
  rintro e w1 ⟨rfl, hw1⟩
  obtain ⟨q0, q1, q2, q3, q4, q5, q6⟩ := wcells x hw1
  have hb1 := hbaH.out.trans (hw1.mono hbaH.out.size)
  clear hw1
  have hb1H := Lib.hid hb1
  clear hb1
  have hF := hFH.out
  clear hFH
  by_cases e0 : d = 0
  · subst e0
    obtain ⟨g0, g1, g2⟩ := size_good hdH.out
    obtain ⟨⟨g3, g4⟩, _⟩ := worker_good g0
    rw [if_pos rfl, Prod.mk.injEq] at hF
    obtain ⟨hs, rfl⟩ := hF
    clear g0
    have hsH := Lib.hid hs
    clear hs
    go_wp2_with fail
    refine (secs x sz _ g1 g2 g3 g4 a hsH.out).mono ?_
    rintro e w2 ⟨rfl, hb2⟩
    have hbb := hb1H.out.trans (hb2.mono hb1H.out.size)
    have hb2H := Lib.hid hb2
    clear hb2
    have hbbH := Lib.hid hbb
    clear hbb
    go_wp2
    go_ret2
    exact ⟨rfl, hbbH.out⟩
  · rw [if_neg e0, Prod.mk.injEq] at hF
    obtain ⟨rfl, rfl⟩ := hF
    have e1 : (d != 0) = true := by simpa using e0
    go_wp2
    go_ret2
    exact ⟨rfl, hb1H.out⟩

def wAwake : Worker := ⟨⟨#[97]⟩, ⟨none, 0, 0, []⟩, 1, 2, 0, 1, ⟨none, 0, 0, []⟩⟩
theorem slAt_nil {α : Type} (R : Rd α) (w : World) : (RSl R).ok w ⟨none, 0, 0, []⟩ :=
  ⟨⟨rfl, fun h => absurd h (Nat.lt_irrefl 0), fun x hx => by cases hx⟩, Nat.le_refl _, Nat.zero_le _, fun _ => rfl⟩
theorem wAwake_ok (w : World) : RWorker.ok w wAwake := by
  refine ⟨?_, slAt_nil _ w, ?_, ?_, ?_, ?_, slAt_nil _ w⟩
  · show ByteArray.size ⟨#[97]⟩ ≤ maxLen
    decide +kernel
  all_goals exact ⟨by decide, by decide⟩
theorem wAwake_F : secondsR wAwake 3 = (2, 0) := by decide +kernel

end Go.Proofs.YtpmjlbmegieieaaDoor.C9
