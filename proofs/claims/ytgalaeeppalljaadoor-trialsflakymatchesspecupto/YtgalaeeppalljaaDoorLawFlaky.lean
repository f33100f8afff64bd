/-
  The walk of TrialsFlakyMatchesSpec.
-/
import Derived.Test.YtgalaeeppalljaaDoorRFailing
import Derived.Test.YtgalaeeppalljaaDoorAwakeP
import Derived.Test.YtgalaeeppalljaaDoorLawVerd
namespace Go.Proofs.YtgalaeeppalljaaDoor
open Go.RowKit
set_option linter.unusedVariables false

set_option maxRecDepth 100000 in
set_option maxHeartbeats 2000000 in
theorem law_flaky (l : SlD TestRun) (te : ByteArray) (w : World) (hl : (RSl RTestRun).ok w l) (hte : RStr.ok w te)
    (hbk : (RSl RTestRun).bulk l + RStr.bulk te ≤ 1048576) (hm : MaxLenAt w) :
    Calls Tryd.prog 8 #[.slice l.A l.n l.cap, .string te] w fun e w' => e = .returned (.bool true) ∧ Below w.heap.size w w' := by
  have hsz : ∀ r ∈ l.l, r.test.size < 4294967281 := fun r hr => by have := runs_small (l := l) (B := 1048576) (by omega) r hr; omega
  have htz : te.size < 4294967281 := by have : RStr.bulk te = te.size + 1 := rfl; omega
  obtain ⟨A, len, cap, l⟩ := l
  obtain ⟨hl, _⟩ := hl
  simp only at hl hsz ⊢
  have hte : te.size ≤ maxLen := hte
  obtain ⟨c, hc⟩ : ∃ x, histF l = x := ⟨_, rfl⟩
  obtain ⟨p, q, d, hpq⟩ : ∃ p q d, failR l te = (p, q, d) := ⟨_, _, _, rfl⟩
  have hb := Below.refl w.heap.size w
  clear hbk
  have hlH := Lib.hid hl
  clear hl
  have hteH := Lib.hid hte
  clear hte
  have hcH := Lib.hid hc
  clear hc
  have hpqH := Lib.hid hpq
  clear hpq
  have hbH := Lib.hid hb
  clear hb
  have hszH := Lib.hid hsz
  clear hsz
  have hmH := Lib.hid hm
  clear hm
  go_enter Tryd.func8, Tryd.ntmps8
  go_wp2_with fail
  refine (flaky_any A len cap l _ hmH.out hlH.out c hcH.out).mono ?_
  rintro e w1 ⟨A1, n1, c1, L, rfl, hs1, ha1, hn1, hb1⟩
  have hs1H := Lib.hid hs1
  clear hs1
  have ha1H := Lib.hid ha1
  clear ha1
  have hb1H := Lib.hid hb1
  clear hb1
  go_wp2_with fail
  refine (rflaky_any A len cap l _ (hmH.out.below hb1H.out) (hlH.out.below hb1H.out) hszH.out c hcH.out).mono ?_
  rintro e w2 ⟨A2, n2, c2, L2, rfl, hs2, ha2, hn2, hw2⟩
  obtain rfl := ha1H.out.eq ha2
  have hs12 := hs1H.out.below hw2
  have hb2 := hb1H.out.trans (hw2.mono hb1H.out.size)
  clear hw2 hbH
  have hs2H := Lib.hid hs2
  clear hs2
  have hs12H := Lib.hid hs12
  clear hs12
  have ha2H := Lib.hid ha2
  clear ha2
  have hb2H := Lib.hid hb2
  clear hb2
  go_wp2_with fail
  refine (equal_same A1 A2 n1 c1 n2 c2 L _ hs12H.out hs2H.out (by omega)).mono ?_
  rintro e w3 ⟨rfl, hw3⟩
  have hb := hb2H.out.trans (hw3.mono hb2H.out.size)
  clear hw3
  have hbH := Lib.hid hb
  clear hb
  go_wp2_with fail
  refine (failing_any A len cap l te _ (hmH.out.below hbH.out) (hlH.out.below hbH.out) hteH.out p q d hpqH.out).mono ?_
  rintro e w4 ⟨rfl, hw4⟩
  have hb4 := hbH.out.trans (hw4.mono hbH.out.size)
  have hb5 := hb4.alloc hb4.size (.cells #[.int .i64 p, .int .i64 q] 50)
  clear hw4
  have hb4H := Lib.hid hb4
  clear hb4
  have hb5H := Lib.hid hb5
  clear hb5
  go_wp2_with fail
  refine (rfailing_any A len cap l te _ (hmH.out.below hb5H.out) (hlH.out.below hb5H.out) hszH.out htz p q d hpqH.out).mono ?_
  rintro e w6 ⟨rfl, hw6⟩
  have hs6 := hw6.size
  simp only [World.size_alloc] at hs6
  have q0 : (w6.alloc (.cells #[.int .i64 p, .int .i64 q] 50)).cell? ⟨w4.heap.size, 0, none⟩ = some (.int .i64 p) := (World.cell?_alloc_lt _ _ _ (by show w4.heap.size < w6.heap.size; omega)).trans ((hw6.cell (by simp)).trans (by simp [go_sem]))
  have q1 : (w6.alloc (.cells #[.int .i64 p, .int .i64 q] 50)).cell? ⟨w4.heap.size, 1, none⟩ = some (.int .i64 q) := (World.cell?_alloc_lt _ _ _ (by show w4.heap.size < w6.heap.size; omega)).trans ((hw6.cell (by simp)).trans (by simp [go_sem]))
  have hb6 := hb5H.out.trans (hw6.mono hb5H.out.size)
  have hb7 := hb6.alloc hb6.size (.cells #[.int .i64 p, .int .i64 q] 50)
  clear hw6
  have hb6H := Lib.hid hb6
  clear hb6
  have hb7H := Lib.hid hb7
  clear hb7
  go_wp2_with fail
  refine (awake_any _).mono ?_
  rintro e w8 ⟨rfl, hw8⟩
  have hb8 := hb7H.out.trans (hw8.mono hb7H.out.size)
  clear hw8
  have hb8H := Lib.hid hb8
  clear hb8
  go_wp2
  go_ret
  exact ⟨rfl, hb8H.out⟩
end Go.Proofs.YtgalaeeppalljaaDoor
