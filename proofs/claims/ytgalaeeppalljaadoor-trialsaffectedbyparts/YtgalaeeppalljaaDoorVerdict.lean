/-
  checkKey and askTest; Verdict, of the program and of the reference.
-/
import Derived.Test.YtgalaeeppalljaaDoorVerd
namespace Go.Proofs.YtgalaeeppalljaaDoor
open Go.RowKit Go.Maps
set_option linter.unusedVariables false

def keyF (l : List TestRun) (te ke : ByteArray) : Int := if histF l = 0 then (if pathB te = true then (if digB ke = true then 0 else 3) else 5) else histF l
def verdR (l : List TestRun) (te ke : ByteArray) : Int × Int := if keyF l te ke = 0 then (verdF (tal l (te, ke)), 0) else (0, keyF l te ke)
theorem key_good {l : List TestRun} {te ke : ByteArray} (h : keyF l te ke = 0) : histF l = 0 ∧ l.length ≤ 3000 ∧ pathB te = true ∧ digB ke = true := by
  unfold keyF at h
  split at h
  · rename_i h0
    split at h
    · rename_i h1
      split at h
      · rename_i h2
        refine ⟨h0, ?_, h1, h2⟩
        unfold histF at h0
        split at h0
        · assumption
        · cases h0
      · cases h
    · cases h
  · rename_i h0
    exact absurd h h0

set_option maxHeartbeats 1000000 in
theorem checkKey_any (A : Option Addr) (len cap : Nat) (l : List TestRun) (te ke : ByteArray) (w : World) (hm : MaxLenAt w) (hl : SlAt RTestRun w A len l) (hte : te.size ≤ maxLen) (hke : ke.size ≤ maxLen) (c : Int) (hF : keyF l te ke = c) :
    Calls Tryd.prog 59 #[.slice A len cap, .string te, .string ke] w fun e w' => e = .returned (.int .i64 c) ∧ Below w.heap.size w w' := by
  unfold keyF at hF
  obtain ⟨h, hh⟩ : ∃ h, histF l = h := ⟨_, rfl⟩
  obtain ⟨b1, hb1⟩ : ∃ b, pathB te = b := ⟨_, rfl⟩
  obtain ⟨b2, hb2⟩ : ∃ b, digB ke = b := ⟨_, rfl⟩
  rw [hh, hb1, hb2] at hF
  have hmH := Lib.hid hm
  clear hm
  have hlH := Lib.hid hl
  clear hl
  have hteH := Lib.hid hte
  clear hte
  have hkeH := Lib.hid hke
  clear hke
  have hhH := Lib.hid hh
  clear hh
  have hb1H := Lib.hid hb1
  clear hb1
  have hb2H := Lib.hid hb2
  clear hb2
  have hFH := Lib.hid hF
  clear hF
  go_enter Tryd.func59, Tryd.ntmps59
  go_wp2_with fail
  refine (hist_any A len cap l _ hmH.out hlH.out h hhH.out).mono ?_
  rintro e w1 ⟨rfl, hw1⟩
  have hw1H := Lib.hid hw1
  clear hw1
  by_cases h0 : h = 0
  · subst h0
    go_wp2_with fail
    refine (isPath_any te _ (hmH.out.below hw1H.out) b1 hb1H.out).mono ?_
    rintro e w2 ⟨rfl, hw2⟩
    have hbw2 := hw1H.out.trans (hw2.mono hw1H.out.size)
    have hw2H := Lib.hid hw2
    clear hw2
    have hbw2H := Lib.hid hbw2
    clear hbw2
    cases b1
    · have hF := hFH.out
      clear hFH
      simp only [if_true, Bool.false_eq_true, if_false] at hF
      subst hF
      go_wp2
      go_ret
      exact ⟨rfl, hbw2H.out⟩
    · go_wp2_with fail
      refine (digest_any ke b2 _ hkeH.out hb2H.out).mono ?_
      rintro e w3 ⟨rfl, hw3⟩
      have hbw3 := hbw2H.out.trans (hw3.mono hbw2H.out.size)
      have hw3H := Lib.hid hw3
      clear hw3
      have hbw3H := Lib.hid hbw3
      clear hbw3
      cases b2
      · have hF := hFH.out
        clear hFH
        simp only [if_true, Bool.false_eq_true, if_false] at hF
        subst hF
        go_wp2
        go_ret
        exact ⟨rfl, hbw3H.out⟩
      · have hF := hFH.out
        clear hFH
        simp only [if_true] at hF
        subst hF
        go_wp2
        go_ret
        exact ⟨rfl, hbw3H.out⟩
  · have hF := hFH.out
    clear hFH
    rw [if_neg h0] at hF
    subst hF
    have h1 : (h != 0) = true := by simpa using h0
    go_wp2
    go_ret
    exact ⟨rfl, hw1H.out⟩

set_option maxHeartbeats 1000000 in
theorem askTest_any (A : Option Addr) (len cap : Nat) (l : List TestRun) (te ke : ByteArray) (w : World) (hm : MaxLenAt w) (hl : SlAt RTestRun w A len l) (hsz : ∀ r ∈ l, r.test.size < 4294967281) (htz : te.size < 4294967281) (hte : te.size ≤ maxLen) (hke : ke.size ≤ maxLen) (c : Int) (hF : keyF l te ke = c) :
    Calls Tryd.prog 62 #[.slice A len cap, .string te, .string ke] w fun e w' => e = .returned (.int .i64 c) ∧ Below w.heap.size w w' := by
  unfold keyF at hF
  obtain ⟨h, hh⟩ : ∃ h, histF l = h := ⟨_, rfl⟩
  obtain ⟨b1, hb1⟩ : ∃ b, pathB te = b := ⟨_, rfl⟩
  obtain ⟨b2, hb2⟩ : ∃ b, digB ke = b := ⟨_, rfl⟩
  rw [hh, hb1, hb2] at hF
  have hmH := Lib.hid hm
  clear hm
  have hlH := Lib.hid hl
  clear hl
  have hteH := Lib.hid hte
  clear hte
  have hkeH := Lib.hid hke
  clear hke
  have hhH := Lib.hid hh
  clear hh
  have hb1H := Lib.hid hb1
  clear hb1
  have hb2H := Lib.hid hb2
  clear hb2
  have hFH := Lib.hid hF
  clear hF
  go_enter Tryd.func62, Tryd.ntmps62
  go_wp2_with fail
  refine (rhist_any A len cap l _ hmH.out hlH.out hsz h hhH.out).mono ?_
  rintro e w1 ⟨rfl, hw1⟩
  have hw1H := Lib.hid hw1
  clear hw1
  by_cases h0 : h = 0
  · subst h0
    go_wp2_with fail
    refine (risPath_any te _ (hmH.out.below hw1H.out) htz b1 hb1H.out).mono ?_
    rintro e w2 ⟨rfl, hw2⟩
    have hbw2 := hw1H.out.trans (hw2.mono hw1H.out.size)
    have hw2H := Lib.hid hw2
    clear hw2
    have hbw2H := Lib.hid hbw2
    clear hbw2
    cases b1
    · have hF := hFH.out
      clear hFH
      simp only [if_true, Bool.false_eq_true, if_false] at hF
      subst hF
      go_wp2
      go_ret
      exact ⟨rfl, hbw2H.out⟩
    · go_wp2_with fail
      refine (rdigest_any ke b2 _ hkeH.out hb2H.out).mono ?_
      rintro e w3 ⟨rfl, hw3⟩
      have hbw3 := hbw2H.out.trans (hw3.mono hbw2H.out.size)
      have hw3H := Lib.hid hw3
      clear hw3
      have hbw3H := Lib.hid hbw3
      clear hbw3
      cases b2
      · have hF := hFH.out
        clear hFH
        simp only [if_true, Bool.false_eq_true, if_false] at hF
        subst hF
        go_wp2
        go_ret
        exact ⟨rfl, hbw3H.out⟩
      · have hF := hFH.out
        clear hFH
        simp only [if_true] at hF
        subst hF
        go_wp2
        go_ret
        exact ⟨rfl, hbw3H.out⟩
  · have hF := hFH.out
    clear hFH
    rw [if_neg h0] at hF
    subst hF
    have h1 : (h != 0) = true := by simpa using h0
    go_wp2
    go_ret
    exact ⟨rfl, hw1H.out⟩

set_option maxHeartbeats 1000000 in
theorem Verdict_any (A : Option Addr) (len cap : Nat) (l : List TestRun) (te ke : ByteArray) (w : World) (hm : MaxLenAt w) (hl : SlAt RTestRun w A len l) (hte : te.size ≤ maxLen) (hke : ke.size ≤ maxLen) (a c : Int) (hF : verdR l te ke = (a, c)) :
    Calls Tryd.prog 19 #[.slice A len cap, .string te, .string ke] w fun e w' => e = .returned (.tuple #[.int .i64 a, .int .i64 c]) ∧ Below w.heap.size w w' := by
  unfold verdR at hF
  obtain ⟨d, hd⟩ : ∃ d, keyF l te ke = d := ⟨_, rfl⟩
  rw [hd] at hF
  have hll := hl.1
  have hgood : te.size ≤ maxLen ∧ ke.size ≤ maxLen := ⟨hte, hke⟩
  have hmH := Lib.hid hm
  clear hm
  have hlH := Lib.hid hl
  clear hl
  have hteH := Lib.hid hte
  clear hte
  have hkeH := Lib.hid hke
  clear hke
  have hdH := Lib.hid hd
  clear hd
  have hFH := Lib.hid hF
  clear hF
  have hllH := Lib.hid hll
  clear hll
  have hgoodH := Lib.hid hgood
  clear hgood
  go_enter Tryd.func19, Tryd.ntmps19
  go_wp2_with fail
  refine (checkKey_any A len cap l te ke _ hmH.out hlH.out hteH.out hkeH.out d hdH.out).mono ?_
  rintro e w1 ⟨rfl, hw1⟩
  have hw1H := Lib.hid hw1
  clear hw1
  by_cases e0 : d = 0
  · subst e0
    obtain ⟨_, hlen, _⟩ := key_good hdH.out
    rw [hllH.out] at hlen
    have hF := hFH.out
    clear hFH
    rw [if_pos rfl, Prod.mk.injEq] at hF
    obtain ⟨hF, rfl⟩ := hF
    obtain ⟨n0, n1, n2⟩ := tal_nonneg l (te, ke)
    rw [hllH.out] at n2
    have hgd := talF_getD l (te, ke)
    obtain ⟨⟨p, f⟩, hpf⟩ : ∃ y, tal l (te, ke) = y := ⟨_, rfl⟩
    rw [hpf] at hF n0 n1 n2 hgd
    simp only at n0 n1 n2
    have hFH := Lib.hid hF
    clear hF
    have hpfH := Lib.hid hpf
    clear hpf
    have hgdH := Lib.hid hgd
    clear hgd
    go_wp2_with fail
    refine (tallies_any A len cap l _ (by omega) (hlH.out.below hw1H.out)).mono ?_
    rintro e w2 ⟨b, cc, rfl, hbb, hcc, hmp, hw2⟩
    have hbw2 := hw1H.out.trans (hw2.mono hw1H.out.size)
    have hw2H := Lib.hid hw2
    clear hw2
    have hbw2H := Lib.hid hbw2
    clear hbw2
    have hmpH := Lib.hid hmp
    clear hmp
    go_wp2_with (at_lookup; go_loud (refine wpList_tlook rfl (.tmp 17) (.tmp 20) 96 rfl Tryd.underlying96 (0, 0) (zeroT _) injT rfl hmpH.out (te, ke) rfl hgoodH.out ?_); rw [hgdH.out]; simp only [valT])
    refine (verdict_any p f _ n0 n1 (by omega) a hFH.out).mono ?_
    rintro e w3 ⟨rfl, hw3⟩
    have hbw3 := hbw2H.out.trans (hw3.mono hbw2H.out.size)
    have hw3H := Lib.hid hw3
    clear hw3
    have hbw3H := Lib.hid hbw3
    clear hbw3
    go_wp2
    go_ret2
    exact ⟨rfl, hbw3H.out⟩
  · have hF := hFH.out
    clear hFH
    rw [if_neg e0, Prod.mk.injEq] at hF
    obtain ⟨rfl, rfl⟩ := hF
    have e1 : (d != 0) = true := by simpa using e0
    go_wp2
    go_ret2
    exact ⟨rfl, hw1H.out⟩

set_option maxHeartbeats 1000000 in
theorem rVerdict_any (A : Option Addr) (len cap : Nat) (l : List TestRun) (te ke : ByteArray) (w : World) (hm : MaxLenAt w) (hl : SlAt RTestRun w A len l) (hsz : ∀ r ∈ l, r.test.size < 4294967281) (htz : te.size < 4294967281) (hte : te.size ≤ maxLen) (hke : ke.size ≤ maxLen) (a c : Int) (hF : verdR l te ke = (a, c)) :
    Calls Tryd.prog 20 #[.slice A len cap, .string te, .string ke] w fun e w' => e = .returned (.tuple #[.int .i64 a, .int .i64 c]) ∧ Below w.heap.size w w' := by
  unfold verdR at hF
  obtain ⟨d, hd⟩ : ∃ d, keyF l te ke = d := ⟨_, rfl⟩
  rw [hd] at hF
  have hll := hl.1
  have hmH := Lib.hid hm
  clear hm
  have hlH := Lib.hid hl
  clear hl
  have hteH := Lib.hid hte
  clear hte
  have hkeH := Lib.hid hke
  clear hke
  have hdH := Lib.hid hd
  clear hd
  have hFH := Lib.hid hF
  clear hF
  have hllH := Lib.hid hll
  clear hll
  have hszH := Lib.hid hsz
  clear hsz
  go_enter Tryd.func20, Tryd.ntmps20
  go_wp2_with fail
  refine (askTest_any A len cap l te ke _ hmH.out hlH.out hszH.out htz hteH.out hkeH.out d hdH.out).mono ?_
  rintro e w1 ⟨rfl, hw1⟩
  have hw1H := Lib.hid hw1
  clear hw1
  by_cases e0 : d = 0
  · subst e0
    obtain ⟨_, hlen, _⟩ := key_good hdH.out
    rw [hllH.out] at hlen
    have hF := hFH.out
    clear hFH
    rw [if_pos rfl, Prod.mk.injEq] at hF
    obtain ⟨hF, rfl⟩ := hF
    have hFH := Lib.hid hF
    clear hF
    go_wp2_with fail
    refine (rverdict_any A len cap l te ke _ (by omega) (hlH.out.below hw1H.out) a hFH.out).mono ?_
    rintro e w2 ⟨rfl, hw2⟩
    have hbw2 := hw1H.out.trans (hw2.mono hw1H.out.size)
    have hw2H := Lib.hid hw2
    clear hw2
    have hbw2H := Lib.hid hbw2
    clear hbw2
    go_wp2
    go_ret2
    exact ⟨rfl, hbw2H.out⟩
  · have hF := hFH.out
    clear hFH
    rw [if_neg e0, Prod.mk.injEq] at hF
    obtain ⟨rfl, rfl⟩ := hF
    have e1 : (d != 0) = true := by simpa using e0
    go_wp2
    go_ret2
    exact ⟨rfl, hw1H.out⟩

/-- MustRun's answer -/
def mustR (l : List TestRun) (te ke : ByteArray) (again : Bool) : Bool × Int := if keyF l te ke = 0 then ((verdF (tal l (te, ke)) == 1) || (again && (verdF (tal l (te, ke)) == 3)), 0) else (false, keyF l te ke)

set_option maxHeartbeats 1000000 in
theorem MustRun_any (A : Option Addr) (len cap : Nat) (l : List TestRun) (te ke : ByteArray) (again : Bool) (w : World) (hm : MaxLenAt w) (hl : SlAt RTestRun w A len l) (hte : te.size ≤ maxLen) (hke : ke.size ≤ maxLen) (a : Bool) (c : Int) (hF : mustR l te ke again = (a, c)) :
    Calls Tryd.prog 23 #[.slice A len cap, .string te, .string ke, .bool again] w fun e w' => e = .returned (.tuple #[.bool a, .int .i64 c]) ∧ Below w.heap.size w w' := by
  unfold mustR at hF
  obtain ⟨d, hd⟩ : ∃ d, keyF l te ke = d := ⟨_, rfl⟩
  rw [hd] at hF
  obtain ⟨v, hv⟩ : ∃ v, verdF (tal l (te, ke)) = v := ⟨_, rfl⟩
  have hvr : verdR l te ke = if d = 0 then (v, 0) else (0, d) := by rw [verdR, hd, hv]
  rw [hv] at hF
  have hmH := Lib.hid hm
  clear hm
  have hlH := Lib.hid hl
  clear hl
  have hteH := Lib.hid hte
  clear hte
  have hkeH := Lib.hid hke
  clear hke
  have hdH := Lib.hid hd
  clear hd
  have hFH := Lib.hid hF
  clear hF
  have hvH := Lib.hid hv
  clear hv
  have hvrH := Lib.hid hvr
  clear hvr
  by_cases e0 : d = 0
  · subst e0
    have hF := hFH.out
    clear hFH
    rw [if_pos rfl, Prod.mk.injEq] at hF
    obtain ⟨hF, rfl⟩ := hF
    cases h1 : (v == 1) <;> cases again <;> cases h3 : (v == 3)
    all_goals
      rw [h1, h3] at hF
      subst hF
      go_enter Tryd.func23, Tryd.ntmps23
      go_wp2_with fail
      refine (Verdict_any A len cap l te ke _ hmH.out hlH.out hteH.out hkeH.out v 0 hvrH.out).mono ?_
      rintro e w1 ⟨rfl, hw1⟩
      have hw1H := Lib.hid hw1
      clear hw1
      go_wp2
      go_ret2
      exact ⟨rfl, hw1H.out⟩
  · have hF := hFH.out
    clear hFH
    rw [if_neg e0, Prod.mk.injEq] at hF
    obtain ⟨rfl, rfl⟩ := hF
    have hvr := hvrH.out
    clear hvrH
    rw [if_neg e0] at hvr
    have e1 : (d != 0) = true := by simpa using e0
    have hvrH := Lib.hid hvr
    clear hvr
    go_enter Tryd.func23, Tryd.ntmps23
    go_wp2_with fail
    refine (Verdict_any A len cap l te ke _ hmH.out hlH.out hteH.out hkeH.out 0 d hvrH.out).mono ?_
    rintro e w1 ⟨rfl, hw1⟩
    have hw1H := Lib.hid hw1
    clear hw1
    go_wp2
    go_ret2
    exact ⟨rfl, hw1H.out⟩

set_option maxHeartbeats 1000000 in
theorem rMustRun_any (A : Option Addr) (len cap : Nat) (l : List TestRun) (te ke : ByteArray) (again : Bool) (w : World) (hm : MaxLenAt w) (hl : SlAt RTestRun w A len l) (hsz : ∀ r ∈ l, r.test.size < 4294967281) (htz : te.size < 4294967281) (hte : te.size ≤ maxLen) (hke : ke.size ≤ maxLen) (a : Bool) (c : Int) (hF : mustR l te ke again = (a, c)) :
    Calls Tryd.prog 24 #[.slice A len cap, .string te, .string ke, .bool again] w fun e w' => e = .returned (.tuple #[.bool a, .int .i64 c]) ∧ Below w.heap.size w w' := by
  unfold mustR at hF
  obtain ⟨d, hd⟩ : ∃ d, keyF l te ke = d := ⟨_, rfl⟩
  rw [hd] at hF
  obtain ⟨v, hv⟩ : ∃ v, verdF (tal l (te, ke)) = v := ⟨_, rfl⟩
  rw [hv] at hF
  have hll := hl.1
  have hmH := Lib.hid hm
  clear hm
  have hlH := Lib.hid hl
  clear hl
  have hteH := Lib.hid hte
  clear hte
  have hkeH := Lib.hid hke
  clear hke
  have hdH := Lib.hid hd
  clear hd
  have hFH := Lib.hid hF
  clear hF
  have hvH := Lib.hid hv
  clear hv
  have hszH := Lib.hid hsz
  clear hsz
  have hllH := Lib.hid hll
  clear hll
  by_cases e0 : d = 0
  · subst e0
    obtain ⟨_, hlen, _⟩ := key_good hdH.out
    rw [hllH.out] at hlen
    have hF := hFH.out
    clear hFH
    rw [if_pos rfl, Prod.mk.injEq] at hF
    obtain ⟨hF, rfl⟩ := hF
    cases h1 : (v == 1) <;> cases again <;> cases h3 : (v == 3)
    all_goals
      rw [h1, h3] at hF
      subst hF
      go_enter Tryd.func24, Tryd.ntmps24
      go_wp2_with fail
      refine (askTest_any A len cap l te ke _ hmH.out hlH.out hszH.out htz hteH.out hkeH.out 0 hdH.out).mono ?_
      rintro e w1 ⟨rfl, hw1⟩
      have hw1H := Lib.hid hw1
      clear hw1
      go_wp2_with fail
      refine (rverdict_any A len cap l te ke _ (by omega) (hlH.out.below hw1H.out) v hvH.out).mono ?_
      rintro e w2 ⟨rfl, hw2⟩
      have hbw2 := hw1H.out.trans (hw2.mono hw1H.out.size)
      have hbw2H := Lib.hid hbw2
      clear hbw2 hw2
      go_wp2
      go_ret2
      exact ⟨rfl, hbw2H.out⟩
  · have hF := hFH.out
    clear hFH
    rw [if_neg e0, Prod.mk.injEq] at hF
    obtain ⟨rfl, rfl⟩ := hF
    have e1 : (d != 0) = true := by simpa using e0
    go_enter Tryd.func24, Tryd.ntmps24
    go_wp2_with fail
    refine (askTest_any A len cap l te ke _ hmH.out hlH.out hszH.out htz hteH.out hkeH.out d hdH.out).mono ?_
    rintro e w1 ⟨rfl, hw1⟩
    have hw1H := Lib.hid hw1
    clear hw1
    go_wp2
    go_ret2
    exact ⟨rfl, hw1H.out⟩
end Go.Proofs.YtgalaeeppalljaaDoor
