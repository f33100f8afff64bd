/-
  The walk of WorkersChecksMatchSpec.
-/
import Derived.Test.YtoakhcajhfponaaDoorCWorkersC9
import Derived.Test.YtoakhcajhfponaaDoorCWorksC9
import Derived.Test.YtoakhcajhfponaaDoorFitC9
import Derived.Test.YtoakhcajhfponaaDoorAwake9C9
namespace Go.Proofs.YtoakhcajhfponaaDoor.C9
open Go.RowKit
set_option linter.unusedVariables false

set_option maxRecDepth 100000 in
set_option maxHeartbeats 2000000 in
theorem law_checks (l : SlD Worker) (m : SlD Work) (x : Worker) (y : Work) (w : World) (hl : (RSl RWorker).ok w l) (hm : (RSl RWork).ok w m) (hx : RWorker.ok w x) (hy : RWork.ok w y) :
    Calls Tryd.prog 3 #[.slice l.A l.n l.cap, .slice m.A m.n m.cap, .agg #[.string x.name, .slice x.has.A x.has.n x.has.cap, .int .i64 x.slots, .int .i64 x.speed, .int .i64 x.from_, .int .i64 x.to_, .slice x.stands.A x.stands.n x.stands.cap], .agg #[.string y.id_, .slice y.needs.A y.needs.n y.needs.cap, .int .i64 y.size, .slice y.after.A y.after.n y.after.cap]] w fun e w' => e = .returned (.bool true) ∧ Below w.heap.size w w' := by
  obtain ⟨A, len, cap, l⟩ := l
  obtain ⟨B, n, mc, m⟩ := m
  obtain ⟨hl, _⟩ := hl
  obtain ⟨hm, _⟩ := hm
  simp only at hl hm ⊢
  obtain ⟨a, b, hab⟩ : ∃ a b, fitsR x y = (a, b) := ⟨_, _, rfl⟩
  obtain ⟨c, hc⟩ : ∃ c, workersF l = c := ⟨_, rfl⟩
  obtain ⟨d, hd⟩ : ∃ d, worksF m = d := ⟨_, rfl⟩
  obtain ⟨W, hW⟩ : ∃ X, (w.alloc (.cells #[.string x.name, .slice x.has.A x.has.n x.has.cap, .int .i64 x.slots, .int .i64 x.speed, .int .i64 x.from_, .int .i64 x.to_, .slice x.stands.A x.stands.n x.stands.cap] 27)).alloc (.cells #[.string y.id_, .slice y.needs.A y.needs.n y.needs.cap, .int .i64 y.size, .slice y.after.A y.after.n y.after.cap] 30) = X := ⟨_, rfl⟩
  have hbW : Below w.heap.size w W := by rw [← hW]; exact ((Below.refl _ _).alloc (Nat.le_refl _) _).alloc (by simp) _
  have hcl := fun w' h => cells11 (w' := w') hW h
  obtain ⟨⟨r0, r1, r2, r3, r4, r5, r6⟩, ⟨s0, s1, s2, s3⟩⟩ := hcl W (Below.refl _ _)
  have hlH := Lib.hid hl
  clear hl
  have hmH := Lib.hid hm
  clear hm
  have hxH := Lib.hid hx
  clear hx
  have hyH := Lib.hid hy
  clear hy
  have habH := Lib.hid hab
  clear hab
  have hcH := Lib.hid hc
  clear hc
  have hdH := Lib.hid hd
  clear hd
  have hWH := Lib.hid hW
  clear hW
  have hbWH := Lib.hid hbW
  clear hbW
  have hclH := Lib.hid hcl
  clear hcl
  go_enter Tryd.func3, Tryd.ntmps3
  go_wp2_with fail
  rw [hWH.out]
  refine (Fits_any x y W (RWorker.mono _ _ _ hbWH.out hxH.out) (RWork.mono _ _ _ hbWH.out hyH.out) a b habH.out).mono ?_
  rintro e w1 ⟨rfl, hw1⟩
  clear r0 r1 r2 r3 r4 r5 r6 s0 s1 s2 s3
  obtain ⟨⟨r0, r1, r2, r3, r4, r5, r6⟩, ⟨s0, s1, s2, s3⟩⟩ := hclH.out w1 hw1
  have hb1 := hbWH.out.trans (hw1.mono hbWH.out.size)
  have hw1H := Lib.hid hw1
  clear hw1
  have hb1H := Lib.hid hb1
  clear hb1
  go_wp2_with fail
  refine (rFits_any x y w1 (RWorker.mono _ _ _ hb1H.out hxH.out) (RWork.mono _ _ _ hb1H.out hyH.out) a b habH.out).mono ?_
  rintro e w2 ⟨rfl, hw2⟩
  have hb := hb1H.out.trans (hw2.mono hb1H.out.size)
  clear r0 r1 r2 r3 r4 r5 r6 s0 s1 s2 s3 hw2 hb1H
  have hbH := Lib.hid hb
  clear hb
  go_wp2_with fail
  refine (workers_any A len cap l _ (hlH.out.below hbH.out) c hcH.out).mono ?_
  rintro e w3 ⟨rfl, hw⟩
  have hb := hbH.out.trans (hw.mono hbH.out.size)
  clear hbH hw
  have hbH := Lib.hid hb
  clear hb
  go_wp2_with fail
  refine (rworkers_any A len cap l _ (hlH.out.below hbH.out) c hcH.out).mono ?_
  rintro e w4 ⟨rfl, hw⟩
  have hb := hbH.out.trans (hw.mono hbH.out.size)
  clear hbH hw
  have hbH := Lib.hid hb
  clear hb
  go_wp2_with fail
  refine (works_any B n mc m _ (hmH.out.below hbH.out) d hdH.out).mono ?_
  rintro e w5 ⟨rfl, hw⟩
  have hb := hbH.out.trans (hw.mono hbH.out.size)
  clear hbH hw
  have hbH := Lib.hid hb
  clear hb
  go_wp2_with fail
  refine (rworks_any B n mc m _ (hmH.out.below hbH.out) d hdH.out).mono ?_
  rintro e w6 ⟨rfl, hw⟩
  have hb := hbH.out.trans (hw.mono hbH.out.size)
  clear hbH hw
  have hbH := Lib.hid hb
  clear hb
  go_wp2_with fail
  refine (awake_any _).mono ?_
  rintro e w7 ⟨rfl, hw⟩
  have hb := hbH.out.trans (hw.mono hbH.out.size)
  clear hbH hw
  have hbH := Lib.hid hb
  clear hb
  go_wp2
  go_ret
  exact ⟨rfl, hbH.out⟩
end Go.Proofs.YtoakhcajhfponaaDoor.C9
