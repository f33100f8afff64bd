/-
  The walks of WorkersEndsMatchSpec and WorkersEndsAddUp.
-/
import Derived.Test.YtlnkamoeiaaleaaDoorSeconds
namespace Go.Proofs.YtlnkamoeiaaleaaDoor
open Go.RowKit
set_option linter.unusedVariables false

def WC (w : World) (b : Nat) (x : Worker) : Prop :=
    w.cell? ⟨b, 0, none⟩ = some (.string x.name) ∧ w.cell? ⟨b, 1, none⟩ = some (.slice x.has.A x.has.n x.has.cap) ∧ w.cell? ⟨b, 2, none⟩ = some (.int .i64 x.slots) ∧
    w.cell? ⟨b, 3, none⟩ = some (.int .i64 x.speed) ∧ w.cell? ⟨b, 4, none⟩ = some (.int .i64 x.from_) ∧ w.cell? ⟨b, 5, none⟩ = some (.int .i64 x.to_) ∧ w.cell? ⟨b, 6, none⟩ = some (.slice x.stands.A x.stands.n x.stands.cap)
theorem WC.below {w w' : World} {b : Nat} {x : Worker} (hz : b < w.heap.size) (hb : Below w.heap.size w w') (h : WC w b x) : WC w' b x :=
  ⟨(hb.cell hz).trans h.1, (hb.cell hz).trans h.2.1, (hb.cell hz).trans h.2.2.1, (hb.cell hz).trans h.2.2.2.1, (hb.cell hz).trans h.2.2.2.2.1, (hb.cell hz).trans h.2.2.2.2.2.1, (hb.cell hz).trans h.2.2.2.2.2.2⟩

set_option maxRecDepth 100000 in
set_option maxHeartbeats 2000000 in
theorem law_ends (x : Worker) (sz fm : Int) (w : World) (hok : RWorker.ok w x) (_ : RInt.ok w sz) (_ : RInt.ok w fm) :
    Calls Tryd.prog 3 #[.agg #[.string x.name, .slice x.has.A x.has.n x.has.cap, .int .i64 x.slots, .int .i64 x.speed, .int .i64 x.from_, .int .i64 x.to_, .slice x.stands.A x.stands.n x.stands.cap], .int .i64 sz, .int .i64 fm] w fun e w' => e = .returned (.bool true) ∧ Below w.heap.size w w' := by
  obtain ⟨a, b, hab⟩ : ∃ a b, secondsR x sz = (a, b) := ⟨_, _, rfl⟩
  obtain ⟨c, d, f, hcd⟩ : ∃ c d f, endsR x sz fm = (c, d, f) := ⟨_, _, _, rfl⟩
  have hb0 := (Below.refl w.heap.size w).alloc (Nat.le_refl _) (.cells #[.string x.name, .slice x.has.A x.has.n x.has.cap, .int .i64 x.slots, .int .i64 x.speed, .int .i64 x.from_, .int .i64 x.to_, .slice x.stands.A x.stands.n x.stands.cap] 25)
  have hz0 : w.heap.size < (w.alloc (.cells #[.string x.name, .slice x.has.A x.has.n x.has.cap, .int .i64 x.slots, .int .i64 x.speed, .int .i64 x.from_, .int .i64 x.to_, .slice x.stands.A x.stands.n x.stands.cap] 25)).heap.size := by simp
  obtain ⟨q0, q1, q2, q3, q4, q5, q6⟩ := wcells x (Below.refl (w.alloc (.cells #[.string x.name, .slice x.has.A x.has.n x.has.cap, .int .i64 x.slots, .int .i64 x.speed, .int .i64 x.from_, .int .i64 x.to_, .slice x.stands.A x.stands.n x.stands.cap] 25)).heap.size (w.alloc (.cells #[.string x.name, .slice x.has.A x.has.n x.has.cap, .int .i64 x.slots, .int .i64 x.speed, .int .i64 x.from_, .int .i64 x.to_, .slice x.stands.A x.stands.n x.stands.cap] 25)))
  obtain ⟨w0, hw0⟩ : ∃ w0, w0 = w.alloc (.cells #[.string x.name, .slice x.has.A x.has.n x.has.cap, .int .i64 x.slots, .int .i64 x.speed, .int .i64 x.from_, .int .i64 x.to_, .slice x.stands.A x.stands.n x.stands.cap] 25) := ⟨_, rfl⟩
  rw [← hw0] at hb0 hz0 q0 q1 q2 q3 q4 q5 q6
  have hokH := Lib.hid hok
  clear hok
  have habH := Lib.hid hab
  clear hab
  have hcdH := Lib.hid hcd
  clear hcd
  have hb0H := Lib.hid hb0
  clear hb0
  have hw0H := Lib.hid hw0
  clear hw0
  go_enter Tryd.func3, Tryd.ntmps3
  go_wp2_with fail
  (try rw [← hw0H.out])
  refine (seconds_any x sz _ (ok_below hb0H.out hokH.out) a b habH.out).mono ?_
  rintro e w1 ⟨rfl, hw1⟩
  have hz1 : w.heap.size < w1.heap.size := by have := hw1.size; omega
  obtain ⟨q0, q1, q2, q3, q4, q5, q6⟩ := WC.below hz0 hw1 ⟨q0, q1, q2, q3, q4, q5, q6⟩
  have hb1 := hb0H.out.trans (hw1.mono hb0H.out.size)
  have hw1H := Lib.hid hw1
  clear hw1
  have hb1H := Lib.hid hb1
  clear hb1
  go_wp2_with fail
  refine (rseconds_any x sz _ (ok_below hb1H.out hokH.out) a b habH.out).mono ?_
  rintro e w2 ⟨rfl, hw2⟩
  have hz2 : w.heap.size < w2.heap.size := by have := hw2.size; omega
  obtain ⟨q0, q1, q2, q3, q4, q5, q6⟩ := WC.below hz1 hw2 ⟨q0, q1, q2, q3, q4, q5, q6⟩
  have hb2 := hb1H.out.trans (hw2.mono hb1H.out.size)
  have hw2H := Lib.hid hw2
  clear hw2
  have hb2H := Lib.hid hb2
  clear hb2
  go_wp2_with fail
  refine (Ends_any x sz fm _ (ok_below hb2H.out hokH.out) c d f hcdH.out).mono ?_
  rintro e w3 ⟨rfl, hw3⟩
  have hz3 : w.heap.size < w3.heap.size := by have := hw3.size; omega
  obtain ⟨q0, q1, q2, q3, q4, q5, q6⟩ := WC.below hz2 hw3 ⟨q0, q1, q2, q3, q4, q5, q6⟩
  have hb3 := hb2H.out.trans (hw3.mono hb2H.out.size)
  have hw3H := Lib.hid hw3
  clear hw3
  have hb3H := Lib.hid hb3
  clear hb3
  go_wp2_with fail
  refine (rEnds_any x sz fm _ (ok_below hb3H.out hokH.out) c d f hcdH.out).mono ?_
  rintro e w4 ⟨rfl, hw4⟩
  have hz4 : w.heap.size < w4.heap.size := by have := hw4.size; omega
  obtain ⟨q0, q1, q2, q3, q4, q5, q6⟩ := WC.below hz3 hw4 ⟨q0, q1, q2, q3, q4, q5, q6⟩
  have hb4 := hb3H.out.trans (hw4.mono hb3H.out.size)
  have hw4H := Lib.hid hw4
  clear hw4
  have hb4H := Lib.hid hb4
  clear hb4
  clear q0 q1 q2 q3 q4 q5 q6
  go_wp2_with fail
  refine (awake_any _).mono ?_
  rintro e w5 ⟨rfl, hw5⟩
  have hb5 := hb4H.out.trans (hw5.mono hb4H.out.size)
  have hw5H := Lib.hid hw5
  clear hw5
  have hb5H := Lib.hid hb5
  clear hb5
  go_wp2
  go_ret
  exact ⟨rfl, hb5H.out⟩
end Go.Proofs.YtlnkamoeiaaleaaDoor
