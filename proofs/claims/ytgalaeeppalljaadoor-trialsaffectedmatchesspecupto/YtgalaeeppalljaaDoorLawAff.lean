/-
  The walk of TrialsAffectedMatchesSpec.
-/
import Derived.Test.YtgalaeeppalljaaDoorRAffected
import Derived.Test.YtgalaeeppalljaaDoorLawVerd
namespace Go.Proofs.YtgalaeeppalljaaDoor
open Go.RowKit
set_option linter.unusedVariables false

theorem reads_small {l : SlD TestReads} {B : Nat} (hb : (RSl RTestReads).bulk l ≤ B) (hB : B < 4294967281) : ReadsSmall l.l := by
  intro x hx
  have := sumBulk_mem RTestReads.bulk hx
  have h2 : (RSl RTestReads).bulk l = sumBulk RTestReads.bulk l.l + 1 := rfl
  have h3 : RTestReads.bulk x = RStr.bulk x.test + (RSl RStr).bulk x.paths + (RSl RStr).bulk x.looked := rfl
  have h4 : RStr.bulk x.test = x.test.size + 1 := rfl
  have h5 : (RSl RStr).bulk x.paths = sumBulk RStr.bulk x.paths.l + 1 := rfl
  have h6 : (RSl RStr).bulk x.looked = sumBulk RStr.bulk x.looked.l + 1 := rfl
  refine ⟨by omega, fun y hy => ?_, fun y hy => ?_⟩
  · have := sumBulk_mem RStr.bulk hy
    have h7 : RStr.bulk y = y.size + 1 := rfl
    omega
  · have := sumBulk_mem RStr.bulk hy
    have h7 : RStr.bulk y = y.size + 1 := rfl
    omega
theorem changes_small {l : SlD TreeChange} {B : Nat} (hb : (RSl RTreeChange).bulk l ≤ B) (hB : B < 4294967281) : ∀ x ∈ l.l, x.path.size < 4294967281 := by
  intro x hx
  have := sumBulk_mem RTreeChange.bulk hx
  have h2 : (RSl RTreeChange).bulk l = sumBulk RTreeChange.bulk l.l + 1 := rfl
  have h3 : RTreeChange.bulk x = RStr.bulk x.path + RInt.bulk x.kind := rfl
  have h4 : RStr.bulk x.path = x.path.size + 1 := rfl
  omega

set_option maxRecDepth 100000 in
set_option maxHeartbeats 2000000 in
theorem law_aff (l : SlD TestReads) (ch : SlD TreeChange) (w : World) (hl : (RSl RTestReads).ok w l) (hc : (RSl RTreeChange).ok w ch)
    (hbk : (RSl RTestReads).bulk l + (RSl RTreeChange).bulk ch ≤ 1048576) (hm : MaxLenAt w) :
    Calls Tryd.prog 3 #[.slice l.A l.n l.cap, .slice ch.A ch.n ch.cap] w fun e w' => e = .returned (.bool true) ∧ Below w.heap.size w w' := by
  have hlz := reads_small (l := l) (B := 1048576) (by omega) (by omega)
  have hcz := changes_small (l := ch) (B := 1048576) (by omega) (by omega)
  obtain ⟨A, len, cap, l⟩ := l
  obtain ⟨B, m, mc, ch⟩ := ch
  obtain ⟨hl, _⟩ := hl
  obtain ⟨hc, _⟩ := hc
  simp only at hl hc hlz hcz ⊢
  obtain ⟨⟨L, c⟩, ha⟩ : ∃ a, affF l ch = a := ⟨_, rfl⟩
  obtain ⟨d, hd⟩ : ∃ d, readsF l = d := ⟨_, rfl⟩
  clear hbk
  have hlH := Lib.hid hl
  clear hl
  have hcH := Lib.hid hc
  clear hc
  have hlzH := Lib.hid hlz
  clear hlz
  have hczH := Lib.hid hcz
  clear hcz
  have haH := Lib.hid ha
  clear ha
  have hdH := Lib.hid hd
  clear hd
  have hmH := Lib.hid hm
  clear hm
  go_enter Tryd.func3, Tryd.ntmps3
  go_wp2_with fail
  refine (affected_any A len cap l B m mc ch _ hmH.out hlH.out hcH.out _ haH.out).mono ?_
  rintro e w1 ⟨A1, n1, c1, rfl, hs1, hn1, hb⟩
  simp only at hs1 ⊢
  have hs1H := Lib.hid hs1
  clear hs1
  have hbH := Lib.hid hb
  clear hb
  go_wp2_with fail
  refine (raffected_any A len cap l B m mc ch _ (hmH.out.below hbH.out) (hlH.out.below hbH.out) (hcH.out.below hbH.out) hlzH.out hczH.out _ haH.out).mono ?_
  rintro e w2 ⟨A2, n2, c2, rfl, hs2, hn2, hw⟩
  simp only at hs2 ⊢
  have hs1 := hs1H.out.below hw
  have hb := hbH.out.trans (hw.mono hbH.out.size)
  clear hw hs1H hbH
  have hbH := Lib.hid hb
  clear hb
  have hs1H := Lib.hid hs1
  clear hs1
  have hs2H := Lib.hid hs2
  clear hs2
  go_wp2_with fail
  refine (creads_any A len cap l _ (hmH.out.below hbH.out) (hlH.out.below hbH.out) d hdH.out).mono ?_
  rintro e w3 ⟨rfl, hw⟩
  have hs1 := hs1H.out.below hw
  have hs2 := hs2H.out.below hw
  have hb := hbH.out.trans (hw.mono hbH.out.size)
  clear hw hs1H hs2H hbH
  have hbH := Lib.hid hb
  clear hb
  have hs1H := Lib.hid hs1
  clear hs1
  have hs2H := Lib.hid hs2
  clear hs2
  go_wp2_with fail
  refine (rcreads_any A len cap l _ (hmH.out.below hbH.out) (hlH.out.below hbH.out) hlzH.out d hdH.out).mono ?_
  rintro e w4 ⟨rfl, hw⟩
  have hs1 := hs1H.out.below hw
  have hs2 := hs2H.out.below hw
  have hb := hbH.out.trans (hw.mono hbH.out.size)
  clear hw hs1H hs2H hbH
  have hbH := Lib.hid hb
  clear hb
  have hs1H := Lib.hid hs1
  clear hs1
  have hs2H := Lib.hid hs2
  clear hs2
  go_wp2_with fail
  refine (equal_same A1 A2 n1 c1 n2 c2 L _ hs1H.out hs2H.out (by omega)).mono ?_
  rintro e w5 ⟨rfl, hw⟩
  have hb := hbH.out.trans (hw.mono hbH.out.size)
  clear hw hbH
  have hbH := Lib.hid hb
  clear hb
  go_wp2_with fail
  refine (awake_any _).mono ?_
  rintro e w6 ⟨rfl, hw⟩
  have hb := hbH.out.trans (hw.mono hbH.out.size)
  clear hw hbH
  have hbH := Lib.hid hb
  clear hb
  go_wp2
  go_ret
  exact ⟨rfl, hbH.out⟩
end Go.Proofs.YtgalaeeppalljaaDoor
