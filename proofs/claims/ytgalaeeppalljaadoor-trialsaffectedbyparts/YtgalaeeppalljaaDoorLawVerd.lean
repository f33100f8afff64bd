/-
  The walk of TrialsVerdictsMatchSpec.
-/
import Derived.Test.YtgalaeeppalljaaDoorVerdict
import Derived.Test.YtgalaeeppalljaaDoorAwakeP
namespace Go.Proofs.YtgalaeeppalljaaDoor
open Go.RowKit
set_option linter.unusedVariables false

theorem sumBulk_mem {α : Type} (f : α → Nat) : ∀ {l : List α} {x : α}, x ∈ l → f x ≤ sumBulk f l
  | y :: s, x, h => by
    rcases List.mem_cons.1 h with rfl | h
    · simp only [sumBulk]; omega
    · have := sumBulk_mem f h
      simp only [sumBulk]; omega
theorem runs_small {l : SlD TestRun} {B : Nat} (hb : (RSl RTestRun).bulk l ≤ B) : ∀ r ∈ l.l, r.test.size ≤ B := by
  intro r hr
  have := sumBulk_mem RTestRun.bulk hr
  have h2 : (RSl RTestRun).bulk l = sumBulk RTestRun.bulk l.l + 1 := rfl
  have h3 : RTestRun.bulk r = RStr.bulk r.test + RStr.bulk r.key + RInt.bulk r.at_ + RBool.bulk r.pass + RInt.bulk r.seconds := rfl
  have h4 : RStr.bulk r.test = r.test.size + 1 := rfl
  omega

set_option maxRecDepth 100000 in
set_option maxHeartbeats 2000000 in
theorem law_verd (l : SlD TestRun) (te ke : ByteArray) (again : Bool) (w : World) (hl : (RSl RTestRun).ok w l) (hte : RStr.ok w te) (hke : RStr.ok w ke) (_ : RBool.ok w again)
    (hbk : (RSl RTestRun).bulk l + RStr.bulk te + RStr.bulk ke + RBool.bulk again ≤ 1048576) (hm : MaxLenAt w) :
    Calls Tryd.prog 4 #[.slice l.A l.n l.cap, .string te, .string ke, .bool again] w fun e w' => e = .returned (.bool true) ∧ Below w.heap.size w w' := by
  have hsz : ∀ r ∈ l.l, r.test.size < 4294967281 := fun r hr => by have := runs_small (l := l) (B := 1048576) (by omega) r hr; omega
  have htz : te.size < 4294967281 := by have : RStr.bulk te = te.size + 1 := rfl; omega
  obtain ⟨A, len, cap, l⟩ := l
  obtain ⟨hl, _⟩ := hl
  simp only at hl hsz ⊢
  have hte : te.size ≤ maxLen := hte
  have hke : ke.size ≤ maxLen := hke
  obtain ⟨a, c, hac⟩ : ∃ a c, verdR l te ke = (a, c) := ⟨_, _, rfl⟩
  obtain ⟨h, hh⟩ : ∃ x, histF l = x := ⟨_, rfl⟩
  obtain ⟨a2, c2, hac2⟩ : ∃ a c, mustR l te ke again = (a, c) := ⟨_, _, rfl⟩
  have hb := Below.refl w.heap.size w
  clear hbk
  have hlH := Lib.hid hl
  clear hl
  have hteH := Lib.hid hte
  clear hte
  have hkeH := Lib.hid hke
  clear hke
  have hacH := Lib.hid hac
  clear hac
  have hhH := Lib.hid hh
  clear hh
  have hac2H := Lib.hid hac2
  clear hac2
  have hbH := Lib.hid hb
  clear hb
  have hszH := Lib.hid hsz
  clear hsz
  have hmH := Lib.hid hm
  clear hm
  go_enter Tryd.func4, Tryd.ntmps4
  go_wp2_with fail
  refine (Verdict_any A len cap l te ke _ (hmH.out.below hbH.out) (hlH.out.below hbH.out) hteH.out hkeH.out a c hacH.out).mono ?_
  rintro e w1 ⟨rfl, hw⟩
  have hb := hbH.out.trans (hw.mono hbH.out.size)
  clear hbH hw
  have hbH := Lib.hid hb
  clear hb
  go_wp2_with fail
  refine (rVerdict_any A len cap l te ke _ (hmH.out.below hbH.out) (hlH.out.below hbH.out) hszH.out htz hteH.out hkeH.out a c hacH.out).mono ?_
  rintro e w2 ⟨rfl, hw⟩
  have hb := hbH.out.trans (hw.mono hbH.out.size)
  clear hbH hw
  have hbH := Lib.hid hb
  clear hb
  go_wp2_with fail
  refine (hist_any A len cap l _ (hmH.out.below hbH.out) (hlH.out.below hbH.out) h hhH.out).mono ?_
  rintro e w3 ⟨rfl, hw⟩
  have hb := hbH.out.trans (hw.mono hbH.out.size)
  clear hbH hw
  have hbH := Lib.hid hb
  clear hb
  go_wp2_with fail
  refine (rhist_any A len cap l _ (hmH.out.below hbH.out) (hlH.out.below hbH.out) hszH.out h hhH.out).mono ?_
  rintro e w4 ⟨rfl, hw⟩
  have hb := hbH.out.trans (hw.mono hbH.out.size)
  clear hbH hw
  have hbH := Lib.hid hb
  clear hb
  go_wp2_with fail
  refine (MustRun_any A len cap l te ke again _ (hmH.out.below hbH.out) (hlH.out.below hbH.out) hteH.out hkeH.out a2 c2 hac2H.out).mono ?_
  rintro e w5 ⟨rfl, hw⟩
  have hb := hbH.out.trans (hw.mono hbH.out.size)
  clear hbH hw
  have hbH := Lib.hid hb
  clear hb
  go_wp2_with fail
  refine (rMustRun_any A len cap l te ke again _ (hmH.out.below hbH.out) (hlH.out.below hbH.out) hszH.out htz hteH.out hkeH.out a2 c2 hac2H.out).mono ?_
  rintro e w6 ⟨rfl, hw⟩
  have hb := hbH.out.trans (hw.mono hbH.out.size)
  clear hbH hw
  have hbH := Lib.hid hb
  clear hb
  go_wp2_with fail
  refine (awake_any _).mono ?_
  rintro e w7 ⟨rfl, hw⟩
  have hb := hbH.out.trans (hw.mono hbH.out.size)
  clear hbH hw
  have hbH := Lib.hid hb
  clear hb
  go_wp2
  go_ret
  exact ⟨rfl, hbH.out⟩
end Go.Proofs.YtgalaeeppalljaaDoor
