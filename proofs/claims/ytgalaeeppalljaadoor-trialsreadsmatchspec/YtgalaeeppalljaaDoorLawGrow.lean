/-
  The walk of TrialsVerdictsGrow.
-/
import Derived.Test.YtgalaeeppalljaaDoorLawVerd
import Derived.Test.YtgalaeeppalljaaDoorOwn
import Derived.Lib.SliceRun
import Derived.WalkSpells
namespace Go.Proofs.YtgalaeeppalljaaDoor
open Go.RowKit
set_option linter.unusedVariables false

theorem elem_TestRun : Elem Tryd.prog 40 RTestRun.size 56 := elem_of (z := .agg #[.string ByteArray.empty, .string ByteArray.empty, .int .i64 0, .bool false, .int .i64 0]) (by kernel_rfl) (by decide)

theorem clone_runs (A : Option Addr) (m c : Nat) (l : List TestRun) (w : World) (h : SlAt RTestRun w A m l) (hn : A = none → c = 0) (hm : m ≤ 3001) :
    Calls Tryd.prog 25 #[.slice A m c] w fun e w' =>
      ∃ A' c', e = .returned (.slice A' m c') ∧ Own RTestRun 40 w' w.heap.size (.slice A' m c') l ∧ Below w.heap.size w w' := by
  have he := fun W : World => Lib.run_eql_slice_nil (P := Tryd.prog) W 32 40 A m c 0 0 Tryd.underlying32
  cases A with
  | none =>
    obtain rfl := hn rfl
    obtain rfl : m = 0 := by
      rcases Nat.eq_zero_or_pos m with h0 | h0
      · exact h0
      · obtain ⟨_, _, h, _⟩ := h.2.1 h0
        cases h
    obtain rfl : l = [] := List.eq_nil_of_length_eq_zero h.1
    clear h hn
    go_enter Tryd.func25, Tryd.ntmps25
    go_wp2
    go_ret
    exact ⟨none, 0, rfl, Own.nil _ _, Below.refl _ _⟩
  | some ad =>
    obtain ⟨b, off, sp⟩ := ad
    clear hn
    have hH := Lib.hid h
    clear h
    go_enter Tryd.func25, Tryd.ntmps25
    go_wp2_with (at_builtin; go_loud (refine wpList_app rfl (.tmp 5) (.tmp 6) 32 rfl Tryd.underlying32 elem_TestRun (by decide) rfl (Own.empty w) (some ⟨b, off, sp⟩) m c l rfl ?rd ?nn ?ok ?c1 ?c2 ?c3 m ?c4 ?_))
    case rd => exact hH.out.below ((Below.refl _ _).alloc (Nat.le_refl _) _)
    case nn => intro _ h; cases h
    case ok => exact fun _ _ _ _ h => h
    case c1 => simp [maxLen]; omega
    case c2 => simp; omega
    case c3 => simp
    case c4 => simp
    intro A' c' w1 hown hg hat hb
    go_wp2
    go_ret
    exact ⟨A', c', rfl, hown, ((Below.refl _ _).alloc (Nat.le_refl _) _).trans hb⟩

/-! ### plain -/
def lastAt : Option Int → List TestRun → Option Int
  | p, [] => p
  | _, r :: s => lastAt (some r.at_) s
theorem lastAt_get : ∀ (l : List TestRun) (p : Option Int) (j : Nat) (y : TestRun), l.length = j + 1 → l[j]? = some y → lastAt p l = some y.at_
  | [], _, _, _, h, _ => by simp at h
  | [r], p, j, y, h, hy => by
    obtain rfl : j = 0 := by simpa using h.symm
    simp at hy
    subst hy
    rfl
  | r :: r2 :: s, p, j, y, h, hy => by
    obtain ⟨j, rfl⟩ : ∃ i, j = i + 1 := ⟨j - 1, by simp at h; omega⟩
    rw [lastAt]
    exact lastAt_get (r2 :: s) _ j y (by simpa using h) (by simpa using hy)
theorem hist_in : ∀ (l : List TestRun) (p : Option Int), histErr p l = 0 → ∀ y ∈ l, 0 ≤ y.at_ ∧ y.at_ ≤ 1000000000 ∧ 0 ≤ y.seconds ∧ y.seconds ≤ 100000
  | r :: s, p, h, y, hy => by
    unfold histErr at h
    by_cases a : pathB r.test = true
    · rw [if_pos a] at h
      by_cases b : digB r.key = true
      · rw [if_pos b] at h
        by_cases c : inR 0 1000000000 r.at_ = true ∧ inR 0 100000 r.seconds = true
        · rw [if_pos c] at h
          by_cases d : p.map (fun t => decide (r.at_ < t)) = some true
          · rw [if_pos d] at h; cases h
          · rw [if_neg d] at h
            rcases List.mem_cons.1 hy with rfl | hy
            · have := inR_true c.1
              have := inR_true c.2
              omega
            · exact hist_in s _ h y hy
        · rw [if_neg c] at h; cases h
      · rw [if_neg b] at h; cases h
    · rw [if_neg a] at h; cases h
theorem histErr_snoc (r : TestRun) (h1 : pathB r.test = true) (h2 : digB r.key = true) (h3 : inR 0 1000000000 r.at_ = true ∧ inR 0 100000 r.seconds = true) :
    ∀ (l : List TestRun) (p : Option Int), histErr p l = 0 → (∀ t, lastAt p l = some t → t ≤ r.at_) → histErr p (l ++ [r]) = 0
  | [], p, _, hl => by
    rw [List.nil_append, histErr, if_pos h1, if_pos h2, if_pos h3, if_neg, histErr]
    cases p with
    | none => simp
    | some t =>
      have := hl t rfl
      simp; omega
  | y :: s, p, h, hl => by
    rw [List.cons_append]
    unfold histErr at h ⊢
    by_cases a : pathB y.test = true
    · rw [if_pos a] at h ⊢
      by_cases b : digB y.key = true
      · rw [if_pos b] at h ⊢
        by_cases c : inR 0 1000000000 y.at_ = true ∧ inR 0 100000 y.seconds = true
        · rw [if_pos c] at h ⊢
          by_cases d : p.map (fun t => decide (y.at_ < t)) = some true
          · rw [if_pos d] at h; cases h
          · rw [if_neg d] at h ⊢
            exact histErr_snoc r h1 h2 h3 s _ h hl
        · rw [if_neg c] at h; cases h
      · rw [if_neg b] at h; cases h
    · rw [if_neg a] at h; cases h
/-- the moment of the further run -/
def growAt (l : List TestRun) : Int := (lastAt none l).getD 0
theorem key_grow {l : List TestRun} {te ke : ByteArray} {pass : Bool} (h : keyF l te ke = 0) : keyF (l ++ [⟨te, ke, growAt l, pass, 0⟩]) te ke = if l.length + 1 ≤ 3000 then 0 else 2 := by
  obtain ⟨h0, hlen, h1, h2⟩ := key_good h
  have hh : histErr none l = 0 := by
    unfold histF at h0
    rwa [if_pos hlen] at h0
  have hin := hist_in l none hh
  have hat : 0 ≤ growAt l ∧ growAt l ≤ 1000000000 := by
    unfold growAt
    cases l with
    | nil => simp [lastAt]
    | cons r s =>
      obtain ⟨y, hy⟩ : ∃ y, (r :: s)[s.length]? = some y := ⟨(r :: s)[s.length], List.getElem?_eq_getElem _⟩
      rw [lastAt_get (r :: s) none s.length y rfl hy]
      have := hin y (List.mem_of_getElem? hy)
      simp only [Option.getD_some]; omega
  have hsn := histErr_snoc ⟨te, ke, growAt l, pass, 0⟩ h1 h2 ⟨inR_of hat, inR_of (by simp)⟩ l none hh (fun t ht => by unfold growAt; simp only; rw [ht]; simp)
  unfold keyF histF
  rw [List.length_append, List.length_singleton]
  by_cases hl : l.length + 1 ≤ 3000
  · rw [if_pos hl, hsn, if_pos hl, if_pos rfl, if_pos h1, if_pos h2]
  · rw [if_neg hl, if_neg hl, if_neg (by decide)]
def wantF (pass : Bool) (v : Int) : Int := if v ≠ 1 ∧ v ≠ (if pass = true then 2 else 3) then 4 else if pass = true then 2 else 3
theorem verd_grow (l : List TestRun) (te ke : ByteArray) (t : Int) (pass : Bool) : verdF (tal (l ++ [⟨te, ke, t, pass, 0⟩]) (te, ke)) = wantF pass (verdF (tal l (te, ke))) := by
  have hn := tal_nonneg l (te, ke)
  rw [tal_snoc, if_pos rfl]
  obtain ⟨⟨p, f⟩, hpf⟩ : ∃ y, tal l (te, ke) = y := ⟨_, rfl⟩
  rw [hpf] at hn ⊢
  simp only at hn ⊢
  unfold wantF verdF
  cases pass
  · simp only [Bool.false_eq_true, if_false]
    by_cases h1 : p + f = 0
    · rw [if_pos h1, if_neg (by omega), if_neg (by omega), if_pos (by omega)]; rfl
    · rw [if_neg h1, if_neg (by omega), if_neg (by omega)]
      by_cases h2 : f = 0
      · rw [if_pos h2, if_neg (by omega)]; rfl
      · rw [if_neg h2]
        by_cases h3 : p = 0
        · rw [if_pos h3]; rfl
        · rw [if_neg h3]; rfl
  · simp only [if_true]
    by_cases h1 : p + f = 0
    · rw [if_pos h1, if_neg (by omega), if_pos (by omega)]; rfl
    · rw [if_neg h1, if_neg (by omega)]
      by_cases h2 : f = 0
      · rw [if_pos h2, if_pos h2]; rfl
      · rw [if_neg h2, if_neg h2, if_neg (by omega)]
        by_cases h3 : p = 0
        · rw [if_pos h3]; rfl
        · rw [if_neg h3]; rfl
theorem verdR_ok {l : List TestRun} {te ke : ByteArray} {a : Int} (h : verdR l te ke = (a, 0)) : keyF l te ke = 0 ∧ verdF (tal l (te, ke)) = a := by
  unfold verdR at h
  by_cases hk : keyF l te ke = 0
  · rw [if_pos hk, Prod.mk.injEq] at h
    exact ⟨hk, h.1⟩
  · rw [if_neg hk, Prod.mk.injEq] at h
    exact absurd h.2 hk
theorem verdR_bad {l : List TestRun} {te ke : ByteArray} {a c : Int} (h : verdR l te ke = (a, c)) (hc : ¬ c = 0) : a = 0 := by
  unfold verdR at h
  by_cases hk : keyF l te ke = 0
  · rw [if_pos hk, Prod.mk.injEq] at h
    exact absurd h.2.symm hc
  · rw [if_neg hk, Prod.mk.injEq] at h
    exact h.1.symm
theorem grow_case {l l2 : List TestRun} {te ke : ByteArray} {pass : Bool} {a a2 c2 : Int} (h : verdR l te ke = (a, 0)) (h2 : l ++ [⟨te, ke, growAt l, pass, 0⟩] = l2) (h3 : verdR l2 te ke = (a2, c2)) : (c2 = 2 ∧ a2 = 0) ∨ (c2 = 0 ∧ a2 = wantF pass a) := by
  subst h2
  obtain ⟨hk, hv⟩ := verdR_ok h
  have hg := key_grow (pass := pass) hk
  have hw := verd_grow l te ke (growAt l) pass
  rw [hv] at hw
  unfold verdR at h3
  rw [hw, hg] at h3
  by_cases hl : l.length + 1 ≤ 3000
  · rw [if_pos hl, if_pos rfl, Prod.mk.injEq] at h3
    exact Or.inr ⟨h3.2.symm, h3.1.symm⟩
  · rw [if_neg hl, if_neg (by decide), Prod.mk.injEq] at h3
    exact Or.inl ⟨h3.2.symm, h3.1.symm⟩
theorem growAt_nil : growAt [] = 0 := rfl
theorem growAt_last {l : List TestRun} {j : Nat} {y : TestRun} (h : l.length = j + 1) (hy : l[j]? = some y) : growAt l = y.at_ := by rw [growAt, lastAt_get l none j y h hy]; rfl

set_option maxRecDepth 100000 in
set_option maxHeartbeats 2000000 in
theorem law_grow (l : SlD TestRun) (te ke : ByteArray) (pass : Bool) (w : World) (hl : (RSl RTestRun).ok w l) (hte : RStr.ok w te) (hke : RStr.ok w ke) (_ : RBool.ok w pass) (hm : MaxLenAt w) :
    Calls Tryd.prog 5 #[.slice l.A l.n l.cap, .string te, .string ke, .bool pass] w fun e w' => e = .returned (.bool true) ∧ Below w.heap.size w w' := by
  obtain ⟨A, len, cap, l⟩ := l
  obtain ⟨hl, hlc, hcap, hnil⟩ := hl
  simp only at hl hlc hcap hnil ⊢
  have hte : te.size ≤ maxLen := hte
  have hke : ke.size ≤ maxLen := hke
  have hll := hl.1
  obtain ⟨a, c, hac⟩ : ∃ a c, verdR l te ke = (a, c) := ⟨_, _, rfl⟩
  have hb := Below.refl w.heap.size w
  clear hlc hcap
  by_cases e0 : c = 0
  · subst e0
    have hkl : len ≤ 3000 := by rw [← hll]; exact (key_good (verdR_ok hac).1).2.1
    obtain ⟨t, ht⟩ : ∃ t, growAt l = t := ⟨_, rfl⟩
    obtain ⟨l2, hl2⟩ : ∃ x, l ++ [⟨te, ke, t, pass, 0⟩] = x := ⟨_, rfl⟩
    obtain ⟨a2, c2, hac2⟩ : ∃ a c, verdR l2 te ke = (a, c) := ⟨_, _, rfl⟩
    have hcase := grow_case hac (by rw [ht]; exact hl2) hac2
    by_cases hn0 : len = 0
    · subst hn0
      obtain rfl := List.eq_nil_of_length_eq_zero hll
      rw [growAt_nil] at ht
      subst ht
      have hok : RTestRun.ok w ⟨te, ke, 0, pass, 0⟩ := ⟨hte, hke, by show I64 0; unfold I64; omega, trivial, by show I64 0; unfold I64; omega⟩
      have hlH := Lib.hid hl
      clear hl
      have hteH := Lib.hid hte
      clear hte
      have hkeH := Lib.hid hke
      clear hke
      have hllH := Lib.hid hll
      clear hll
      have hacH := Lib.hid hac
      clear hac
      have hbH := Lib.hid hb
      clear hb
      have hmH := Lib.hid hm
      clear hm
      have hnilH := Lib.hid hnil
      clear hnil
      have hl2H := Lib.hid hl2
      clear hl2
      have hac2H := Lib.hid hac2
      clear hac2
      have hcaseH := Lib.hid hcase
      clear hcase
      have hokH := Lib.hid hok
      clear hok
      go_enter Tryd.func5, Tryd.ntmps5
      go_wp2_with fail
      refine (Verdict_any A 0 cap [] te ke _ (hmH.out.below hbH.out) (hlH.out.below hbH.out) hteH.out hkeH.out a 0 hacH.out).mono ?_
      rintro e w1 ⟨rfl, hw⟩
      have hb := hbH.out.trans (hw.mono hbH.out.size)
      clear hbH hw
      have hbH := Lib.hid hb
      clear hb
      go_wp2_with fail
      refine (clone_runs _ 0 cap [] _ (hlH.out.below hbH.out) hnilH.out (by omega)).mono ?_
      rintro e w2 ⟨A1, c1, rfl, hown, hw⟩
      have hb2 := hbH.out.trans (hw.mono hbH.out.size)
      have hsz1 := hbH.out.size
      have hsz2 := hw.size
      have hownH := Lib.hid hown
      clear hown
      have hb2H := Lib.hid hb2
      clear hb2
      have hwH := Lib.hid hw
      clear hw
      have hsz1H := Lib.hid hsz1
      clear hsz1
      have hsz2H := Lib.hid hsz2
      clear hsz2
      go_wp2_with (at_builtin; go_loud (refine wpList_app rfl (.tmp 40) (.tmp 46) 32 rfl Tryd.underlying32 elem_TestRun (by decide) rfl (hownH.out.alloc _) (some ⟨w2.heap.size, 0, none⟩) 1 1 [⟨te, ke, 0, pass, 0⟩] rfl (slAt_new _ _ _ hokH.out) ?nn ?ok ?c1 ?c2 ?c3 (0 + 1) ?c4 ?_))
      case nn => intro h; cases h
      case ok => exact fun _ _ _ _ h => h
      case c1 => have := hllH.out; simp [maxLen] <;> omega
      case c2 => have := hllH.out; omega
      case c3 => have := hsz2H.out; simp <;> omega
      case c4 => have := hllH.out; omega
      intro A' c' w3 hown3 hg3 hat3 hb3
      first | rw [hl2H.out] at hown3 | (have e := hl2H.out; rw [List.nil_append] at e; rw [List.nil_append, e] at hown3) | (have e := hl2H.out; rw [List.nil_append] at e; rw [e] at hown3)
      have hb3 := (hb2H.out.alloc hb2H.out.size (.cells #[.string te, .string ke, .int .i64 0, .bool pass, .int .i64 0] 40)).trans (hb3.mono hsz1H.out)
      clear hg3 hat3
      have hown3H := Lib.hid hown3
      clear hown3
      have hb3H := Lib.hid hb3
      clear hb3
      go_wp2_with fail
      refine (Verdict_any A' (0 + 1) c' l2 te ke _ (hmH.out.below hb3H.out) hown3H.out.slAt hteH.out hkeH.out a2 c2 hac2H.out).mono ?_
      rintro e w4 ⟨rfl, hw4⟩
      have hb4 := hb3H.out.trans (hw4.mono hb3H.out.size)
      have hw4H := Lib.hid hw4
      clear hw4
      have hb4H := Lib.hid hb4
      clear hb4
      rcases hcaseH.out with ⟨rfl, rfl⟩ | ⟨rfl, rfl⟩
      · go_wp2_with fail
        refine (awake_any _).mono ?_
        rintro e w5 ⟨rfl, hw5⟩
        have hb5 := hb4H.out.trans (hw5.mono hb4H.out.size)
        have hb5H := Lib.hid hb5
        clear hb5 hw5
        go_wp2
        go_ret
        exact ⟨rfl, hb5H.out⟩
      · clear hcaseH hac2H
        cases pass
        · by_cases h1 : a = 1
          · subst h1
            rw [show wantF false 1 = 3 by decide]
            go_wp2_with fail
            refine (awake_any _).mono ?_
            rintro e w5 ⟨rfl, hw5⟩
            have hb5 := hb4H.out.trans (hw5.mono hb4H.out.size)
            have hb5H := Lib.hid hb5
            clear hb5 hw5
            go_wp2
            go_ret
            exact ⟨rfl, hb5H.out⟩
          · have h1' : (a != 1) = true := by simpa using h1
            by_cases h2 : a = 3
            · subst h2
              rw [show wantF false 3 = 3 by decide]
              go_wp2_with fail
              refine (awake_any _).mono ?_
              rintro e w5 ⟨rfl, hw5⟩
              have hb5 := hb4H.out.trans (hw5.mono hb4H.out.size)
              have hb5H := Lib.hid hb5
              clear hb5 hw5
              go_wp2
              go_ret
              exact ⟨rfl, hb5H.out⟩
            · have h2' : (a != 3) = true := by simpa using h2
              rw [show wantF false a = 4 by unfold wantF; rw [if_pos ⟨h1, by simpa using h2⟩]]
              clear h1 h2
              go_wp2_with fail
              refine (awake_any _).mono ?_
              rintro e w5 ⟨rfl, hw5⟩
              have hb5 := hb4H.out.trans (hw5.mono hb4H.out.size)
              have hb5H := Lib.hid hb5
              clear hb5 hw5
              go_wp2
              go_ret
              exact ⟨rfl, hb5H.out⟩
        · by_cases h1 : a = 1
          · subst h1
            rw [show wantF true 1 = 2 by decide]
            go_wp2_with fail
            refine (awake_any _).mono ?_
            rintro e w5 ⟨rfl, hw5⟩
            have hb5 := hb4H.out.trans (hw5.mono hb4H.out.size)
            have hb5H := Lib.hid hb5
            clear hb5 hw5
            go_wp2
            go_ret
            exact ⟨rfl, hb5H.out⟩
          · have h1' : (a != 1) = true := by simpa using h1
            by_cases h2 : a = 2
            · subst h2
              rw [show wantF true 2 = 2 by decide]
              go_wp2_with fail
              refine (awake_any _).mono ?_
              rintro e w5 ⟨rfl, hw5⟩
              have hb5 := hb4H.out.trans (hw5.mono hb4H.out.size)
              have hb5H := Lib.hid hb5
              clear hb5 hw5
              go_wp2
              go_ret
              exact ⟨rfl, hb5H.out⟩
            · have h2' : (a != 2) = true := by simpa using h2
              rw [show wantF true a = 4 by unfold wantF; rw [if_pos ⟨h1, by simpa using h2⟩]]
              clear h1 h2
              go_wp2_with fail
              refine (awake_any _).mono ?_
              rintro e w5 ⟨rfl, hw5⟩
              have hb5 := hb4H.out.trans (hw5.mono hb4H.out.size)
              have hb5H := Lib.hid hb5
              clear hb5 hw5
              go_wp2
              go_ret
              exact ⟨rfl, hb5H.out⟩
    · obtain ⟨j, rfl⟩ : ∃ j, len = j + 1 := ⟨len - 1, by omega⟩
      obtain ⟨b0, off, hA, _⟩ := hl.2.1 (by omega)
      subst hA
      obtain ⟨y, hy⟩ : ∃ x, l[j]? = some x := ⟨l[j]'(by omega), List.getElem?_eq_getElem _⟩
      rw [growAt_last hll hy] at ht
      have hsub : IntKind.i64.wrap (((j + 1 : Nat) : Int) - 1) = j := by rw [IntWalk.i64_in _ (by omega)]; omega
      have hyok := hl.2.2 y (List.mem_of_getElem? hy)
      obtain ⟨yt, yk, yat, yp, ys⟩ := y
      simp only at ht
      subst ht
      have hok : RTestRun.ok w ⟨te, ke, yat, pass, 0⟩ := ⟨hte, hke, hyok.2.2.1, trivial, by show I64 0; unfold I64; omega⟩
      have hlH := Lib.hid hl
      clear hl
      have hteH := Lib.hid hte
      clear hte
      have hkeH := Lib.hid hke
      clear hke
      have hllH := Lib.hid hll
      clear hll
      have hacH := Lib.hid hac
      clear hac
      have hbH := Lib.hid hb
      clear hb
      have hmH := Lib.hid hm
      clear hm
      have hnilH := Lib.hid hnil
      clear hnil
      have hl2H := Lib.hid hl2
      clear hl2
      have hac2H := Lib.hid hac2
      clear hac2
      have hcaseH := Lib.hid hcase
      clear hcase
      have hokH := Lib.hid hok
      clear hok
      have hyH := Lib.hid hy
      clear hy
      have hyokH := Lib.hid hyok
      clear hyok
      go_enter Tryd.func5, Tryd.ntmps5
      go_wp2_with fail
      refine (Verdict_any (some ⟨b0, off, none⟩) (j + 1) cap l te ke _ (hmH.out.below hbH.out) (hlH.out.below hbH.out) hteH.out hkeH.out a 0 hacH.out).mono ?_
      rintro e w1 ⟨rfl, hw⟩
      have hb := hbH.out.trans (hw.mono hbH.out.size)
      clear hbH hw
      have hbH := Lib.hid hb
      clear hb
      obtain ⟨_, _, q2, _, _⟩ := cells_TestRun (hlH.out.below hbH.out) hyH.out
      simp only at q2
      go_wp2_with fail
      refine (clone_runs _ (j+1) cap l _ (hlH.out.below hbH.out) hnilH.out (by omega)).mono ?_
      rintro e w2 ⟨A1, c1, rfl, hown, hw⟩
      have hb2 := hbH.out.trans (hw.mono hbH.out.size)
      have hsz1 := hbH.out.size
      have hsz2 := hw.size
      have hownH := Lib.hid hown
      clear hown
      have hb2H := Lib.hid hb2
      clear hb2
      have hwH := Lib.hid hw
      clear hw
      have hsz1H := Lib.hid hsz1
      clear hsz1
      have hsz2H := Lib.hid hsz2
      clear hsz2
      go_wp2_with (at_builtin; go_loud (refine wpList_app rfl (.tmp 40) (.tmp 46) 32 rfl Tryd.underlying32 elem_TestRun (by decide) rfl (hownH.out.alloc _) (some ⟨w2.heap.size, 0, none⟩) 1 1 [⟨te, ke, yat, pass, 0⟩] rfl (slAt_new _ _ _ hokH.out) ?nn ?ok ?c1 ?c2 ?c3 ((j+1) + 1) ?c4 ?_))
      case nn => intro h; cases h
      case ok => exact fun _ _ _ _ h => h
      case c1 => have := hllH.out; simp [maxLen] <;> omega
      case c2 => have := hllH.out; omega
      case c3 => have := hsz2H.out; simp <;> omega
      case c4 => have := hllH.out; omega
      intro A' c' w3 hown3 hg3 hat3 hb3
      first | rw [hl2H.out] at hown3 | (have e := hl2H.out; rw [List.nil_append] at e; rw [List.nil_append, e] at hown3) | (have e := hl2H.out; rw [List.nil_append] at e; rw [e] at hown3)
      have hb3 := (hb2H.out.alloc hb2H.out.size (.cells #[.string te, .string ke, .int .i64 yat, .bool pass, .int .i64 0] 40)).trans (hb3.mono hsz1H.out)
      clear hg3 hat3
      have hown3H := Lib.hid hown3
      clear hown3
      have hb3H := Lib.hid hb3
      clear hb3
      go_wp2_with fail
      refine (Verdict_any A' ((j+1) + 1) c' l2 te ke _ (hmH.out.below hb3H.out) hown3H.out.slAt hteH.out hkeH.out a2 c2 hac2H.out).mono ?_
      rintro e w4 ⟨rfl, hw4⟩
      have hb4 := hb3H.out.trans (hw4.mono hb3H.out.size)
      have hw4H := Lib.hid hw4
      clear hw4
      have hb4H := Lib.hid hb4
      clear hb4
      rcases hcaseH.out with ⟨rfl, rfl⟩ | ⟨rfl, rfl⟩
      · go_wp2_with fail
        refine (awake_any _).mono ?_
        rintro e w5 ⟨rfl, hw5⟩
        have hb5 := hb4H.out.trans (hw5.mono hb4H.out.size)
        have hb5H := Lib.hid hb5
        clear hb5 hw5
        go_wp2
        go_ret
        exact ⟨rfl, hb5H.out⟩
      · clear hcaseH hac2H
        cases pass
        · by_cases h1 : a = 1
          · subst h1
            rw [show wantF false 1 = 3 by decide]
            go_wp2_with fail
            refine (awake_any _).mono ?_
            rintro e w5 ⟨rfl, hw5⟩
            have hb5 := hb4H.out.trans (hw5.mono hb4H.out.size)
            have hb5H := Lib.hid hb5
            clear hb5 hw5
            go_wp2
            go_ret
            exact ⟨rfl, hb5H.out⟩
          · have h1' : (a != 1) = true := by simpa using h1
            by_cases h2 : a = 3
            · subst h2
              rw [show wantF false 3 = 3 by decide]
              go_wp2_with fail
              refine (awake_any _).mono ?_
              rintro e w5 ⟨rfl, hw5⟩
              have hb5 := hb4H.out.trans (hw5.mono hb4H.out.size)
              have hb5H := Lib.hid hb5
              clear hb5 hw5
              go_wp2
              go_ret
              exact ⟨rfl, hb5H.out⟩
            · have h2' : (a != 3) = true := by simpa using h2
              rw [show wantF false a = 4 by unfold wantF; rw [if_pos ⟨h1, by simpa using h2⟩]]
              clear h1 h2
              go_wp2_with fail
              refine (awake_any _).mono ?_
              rintro e w5 ⟨rfl, hw5⟩
              have hb5 := hb4H.out.trans (hw5.mono hb4H.out.size)
              have hb5H := Lib.hid hb5
              clear hb5 hw5
              go_wp2
              go_ret
              exact ⟨rfl, hb5H.out⟩
        · by_cases h1 : a = 1
          · subst h1
            rw [show wantF true 1 = 2 by decide]
            go_wp2_with fail
            refine (awake_any _).mono ?_
            rintro e w5 ⟨rfl, hw5⟩
            have hb5 := hb4H.out.trans (hw5.mono hb4H.out.size)
            have hb5H := Lib.hid hb5
            clear hb5 hw5
            go_wp2
            go_ret
            exact ⟨rfl, hb5H.out⟩
          · have h1' : (a != 1) = true := by simpa using h1
            by_cases h2 : a = 2
            · subst h2
              rw [show wantF true 2 = 2 by decide]
              go_wp2_with fail
              refine (awake_any _).mono ?_
              rintro e w5 ⟨rfl, hw5⟩
              have hb5 := hb4H.out.trans (hw5.mono hb4H.out.size)
              have hb5H := Lib.hid hb5
              clear hb5 hw5
              go_wp2
              go_ret
              exact ⟨rfl, hb5H.out⟩
            · have h2' : (a != 2) = true := by simpa using h2
              rw [show wantF true a = 4 by unfold wantF; rw [if_pos ⟨h1, by simpa using h2⟩]]
              clear h1 h2
              go_wp2_with fail
              refine (awake_any _).mono ?_
              rintro e w5 ⟨rfl, hw5⟩
              have hb5 := hb4H.out.trans (hw5.mono hb4H.out.size)
              have hb5H := Lib.hid hb5
              clear hb5 hw5
              go_wp2
              go_ret
              exact ⟨rfl, hb5H.out⟩
  · have hx := verdR_bad hac e0
    subst hx
    have e1 : (c != 0) = true := by simpa using e0
    have hlH := Lib.hid hl
    clear hl
    have hteH := Lib.hid hte
    clear hte
    have hkeH := Lib.hid hke
    clear hke
    have hllH := Lib.hid hll
    clear hll
    have hacH := Lib.hid hac
    clear hac
    have hbH := Lib.hid hb
    clear hb
    have hmH := Lib.hid hm
    clear hm
    have hnilH := Lib.hid hnil
    clear hnil
    go_enter Tryd.func5, Tryd.ntmps5
    go_wp2_with fail
    refine (Verdict_any A len cap l te ke _ (hmH.out.below hbH.out) (hlH.out.below hbH.out) hteH.out hkeH.out 0 c hacH.out).mono ?_
    rintro e w1 ⟨rfl, hw⟩
    have hb := hbH.out.trans (hw.mono hbH.out.size)
    clear hbH hw
    have hbH := Lib.hid hb
    clear hb
    go_wp2_with fail
    refine (awake_any _).mono ?_
    rintro e w2 ⟨rfl, hw⟩
    have hb := hbH.out.trans (hw.mono hbH.out.size)
    clear hbH hw
    have hbH := Lib.hid hb
    clear hb
    go_wp2
    go_ret
    exact ⟨rfl, hbH.out⟩
end Go.Proofs.YtgalaeeppalljaaDoor
