/-
  The walk of TrialsAsideAreFlaky.
-/
import Derived.Test.YtoakhcajhfponaaDoorAsideC10
import Derived.Test.YtoakhcajhfponaaDoorAwakePC10
import Derived.Test.YtoakhcajhfponaaDoorBelowC10
namespace Go.Proofs.YtoakhcajhfponaaDoor.C10
open Go.RowKit
set_option linter.unusedVariables false

theorem asideF_zero {l : List TestRun} {many window good at_ : Int} (h : asideF l many window good at_ = 0) : histF l = 0 ∧ inR 1 100 many = true ∧ ∀ m, asideF (l.take m) many window good at_ = 0 := by
  unfold asideF at h
  by_cases hh : histF l = 0
  · rw [if_pos hh] at h
    by_cases h4 : inR 1 100 many = true ∧ inR 1 1000000000 window = true ∧ inR 1 100 good = true ∧ inR 0 1000000000 at_ = true
    · exact ⟨hh, h4.1, fun m => by unfold asideF; rw [if_pos (histF_take l m hh), if_pos h4]⟩
    · rw [if_neg h4] at h; cases h
  · rw [if_neg hh] at h; exact absurd h hh
theorem cont_true (A : Option Addr) (n c : Nat) (l : List ByteArray) (x : ByteArray) (w : World) (hn : n ≤ 9223372036854775807) (hl : SlAt RStr w A n l) (hx : x ∈ l) :
    Calls Tryd.prog 44 #[.slice A n c, .string x] w fun e w' => e = .returned (.bool true) ∧ w' = w := by
  by_cases h0 : n = 0
  · subst h0
    obtain rfl : l = [] := List.eq_nil_of_length_eq_zero hl.1
    cases hx
  · obtain ⟨b, off, rfl, _⟩ := hl.2.1 (by omega)
    have hll := hl.1
    refine (Tryd.slices_Contains_string b off n c l x w (by omega) hn (fun j hj => ?_)).mono ?_
    · have := cell_Str hl (List.getElem?_eq_getElem hj)
      rw [this, List.getD_eq_getElem?_getD, List.getElem?_eq_getElem hj]
      rfl
    · rintro e w' ⟨rfl, rfl⟩
      rw [List.take_of_length_le (by omega), (Lib.containsS_iff _ _).2 hx]
      exact ⟨rfl, rfl⟩
theorem slAt_takeR {w : World} {A : Option Addr} {n : Nat} {l : List TestRun} (h : SlAt RTestRun w A n l) (k : Nat) (hk : k ≤ n) : SlAt RTestRun w A k (l.take k) := by
  obtain ⟨h1, h2, h3⟩ := h
  refine ⟨by rw [List.length_take]; omega, fun hn => ?_, fun x hx => h3 x (List.mem_of_mem_take hx)⟩
  obtain ⟨b, off, rfl, hc⟩ := h2 (by omega)
  refine ⟨b, off, rfl, fun i x hx j v hv => hc i x ?_ j v hv⟩
  rw [List.getElem?_take] at hx
  split at hx
  · exact hx
  · cases hx
def A1Rel (n : Nat) (w0 : World) (i : Value) (wr : World) : Prop := ∃ k : Nat, k ≤ n ∧ i = .int .i64 k ∧ Below w0.heap.size w0 wr


set_option maxRecDepth 100000 in
set_option maxHeartbeats 4000000 in
theorem law_aside (l : SlD TestRun) (many window good at_ k : Int) (w : World) (hl : (RSl RTestRun).ok w l) (_ : RInt.ok w many) (_ : RInt.ok w window) (_ : RInt.ok w good) (_ : RInt.ok w at_) (hk : RInt.ok w k) (hm : MaxLenAt w) :
    Calls Tryd.prog 8 #[.slice l.A l.n l.cap, .int .i64 many, .int .i64 window, .int .i64 good, .int .i64 at_, .int .i64 k] w fun e w' => e = .returned (.bool true) ∧ Below w.heap.size w w' := by
  obtain ⟨A, len, cap, l⟩ := l
  obtain ⟨hl, hlc, hcap, hA0⟩ := hl
  simp only at hl hlc hcap hA0 ⊢
  have hll := hl.1
  have hk : I64 k := hk
  have hcap : len ≤ cap := hlc
  obtain ⟨c, hc⟩ : ∃ x, asideF l many window good at_ = x := ⟨_, rfl⟩
  clear hlc
  have hlH := Lib.hid hl
  clear hl
  have hcH := Lib.hid hc
  clear hc
  have hmH := Lib.hid hm
  clear hm
  have hcapH := Lib.hid hcap
  clear hcap
  go_enter Tryd.func8, Tryd.ntmps8
  go_wp2_with fail
  refine (aside_any A len cap l many window good at_ _ hmH.out hlH.out c hcH.out).mono ?_
  rintro e w1 ⟨A1, n1, c1, L, rfl, hs1, ha1, hn1, hb1⟩
  by_cases e0 : c = 0
  · subst e0
    obtain ⟨hh, hmany, htk⟩ := asideF_zero hcH.out
    have hl3 : len ≤ 3000 := by have := (histF_ok hh).1; omega
    have hs1H := Lib.hid hs1
    clear hs1
    have ha1H := Lib.hid ha1
    clear ha1
    have hb1H := Lib.hid hb1
    clear hb1
    have hhH := Lib.hid hh
    clear hh
    have htkH := Lib.hid htk
    clear htk
    go_wp2_with fail
    refine (flaky_any A len cap l _ (hmH.out.below hb1H.out) (hlH.out.below hb1H.out) 0 hhH.out).mono ?_
    rintro e w2 ⟨A2, n2, c2, L2, rfl, hs2, ha2, hn2, hb2⟩
    have hsub : ∀ s ∈ L, s ∈ L2 := fun s hs => by
      have h1 := ha1H.out
      rw [AsideAns, if_pos rfl] at h1
      rw [FlakyAns, if_pos rfl] at ha2
      exact (ha2.2 s).2 (aside_flaky (inR_true hmany).1 ((h1.2 s).1 hs))
    have hb12 := hb1H.out.trans (hb2.mono hb1H.out.size)
    have hs12 := hs1H.out.below hb2
    clear ha2
    have hs2H := Lib.hid hs2
    clear hs2
    have hb2H := Lib.hid hb2
    clear hb2
    have hsubH := Lib.hid hsub
    clear hsub
    have hb12H := Lib.hid hb12
    clear hb12
    have hs12H := Lib.hid hs12
    clear hs12
    go_wp2_with fail
    refine (awake_any _).mono ?_
    rintro e w3 ⟨rfl, hb3⟩
    have hs13 := hs12H.out.below hb3
    have hs23 := hs2H.out.below hb3
    have hb13 := hb12H.out.trans (hb3.mono hb12H.out.size)
    have hbw3 := hb2H.out.trans (hb3.mono hb2H.out.size)
    clear hb3
    have hs13H := Lib.hid hs13
    clear hs13
    have hs23H := Lib.hid hs23
    clear hs23
    have hb13H := Lib.hid hb13
    clear hb13
    have hbw3H := Lib.hid hbw3
    clear hbw3
    go_wp2_with fail
    go_loopw [50] (fun i wr => A1Rel n1 w3 i wr) (fun i _ => n1 - (intOf i).toNat)
    case atStart => exact ⟨0, Nat.zero_le _, rfl, Below.refl _ _⟩
    case round =>
      obtain ⟨j, hj, rfl, hbj⟩ := hrel
      obtain ⟨wa, rfl⟩ : ∃ W, W = wr := ⟨_, rfl⟩
      by_cases hlt : j < n1
      · obtain ⟨b1, o1, hA1, _⟩ := hs13H.out.2.1 (by omega)
        subst hA1
        obtain ⟨s, hx⟩ : ∃ x, L[j]? = some x := ⟨L[j]'(by have := hs13H.out.1; omega), List.getElem?_eq_getElem _⟩
        have c0 := cell_Str (hs13H.out.below hbj) hx
        have hin := hsubH.out s (List.mem_of_getElem? hx)
        have R : A1Rel n1 w3 (.int .i64 (j + 1)) wa := ⟨j + 1, by omega, by go_num, hbj⟩
        have hbjH := Lib.hid hbj
        clear hbj
        have hxH := Lib.hid hx
        clear hx
        have hinH := Lib.hid hin
        clear hin
        have RH := Lib.hid R
        clear R
        go_wp2_with fail
        refine (cont_true A2 n2 c2 L2 s wa (by omega) (hs23H.out.below hbjH.out) hinH.out).mono ?_
        rintro e w4 ⟨rfl, rfl⟩
        go_wp2
        refine ⟨?rel, ?measure⟩
        case measure => (simp [intOf]; omega)
        case rel => first | exact RH.out | exact ⟨rfl, RH.out⟩ | ((try refine ⟨rfl, ?_⟩); (repeat apply Exists.intro); refine ⟨RH.out, ?_⟩; ((repeat' apply And.intro) <;> rfl))
      · have hbw := hb13H.out.trans (hbj.mono hb13H.out.size)
        have hb1w := hbw3H.out.trans (hbj.mono hbw3H.out.size)
        clear hbj
        have hbwH := Lib.hid hbw
        clear hbw
        have hb1wH := Lib.hid hb1w
        clear hb1w
        go_wp2_with fail
        go_loopw [18] (fun v wr => A1Rel (cntAt l at_) wa v wr) (fun v _ => len - (intOf v).toNat)
        case atStart => exact ⟨0, Nat.zero_le _, rfl, Below.refl _ _⟩
        case round =>
          obtain ⟨m, hm2, rfl, hbm⟩ := hrel
          have hb := hbwH.out.trans (hbm.mono hbwH.out.size)
          have hbw := hb1wH.out.trans (hbm.mono hb1wH.out.size)
          clear hbwH
          by_cases hlt2 : m < len
          · obtain ⟨b0, off, hA, _⟩ := hlH.out.2.1 (by omega)
            subst hA
            obtain ⟨x, hx⟩ : ∃ x, l[m]? = some x := ⟨l[m]'(by omega), List.getElem?_eq_getElem _⟩
            obtain ⟨d0, d1, d2, d3, d4⟩ := cells_TestRun (hlH.out.below hb) hx
            obtain ⟨te, ke, ta, ps, se⟩ := x
            simp only at d0 d1 d2 d3 d4
            clear d0 d1 d3 d4
            by_cases hcut : ta ≤ at_
            · have hmc : m < cntAt l at_ := by
                rcases Nat.lt_or_ge m (cntAt l at_) with h | h
                · exact h
                · have := cntAt_end (at_ := at_) hx (by omega)
                  simp only at this
                  omega
              have hcd : decide (ta ≤ at_) = true := decide_eq_true hcut
              have R : A1Rel (cntAt l at_) wa (.int .i64 (m + 1)) wr := ⟨m + 1, hmc, by go_num, hbm⟩
              have hbmH := Lib.hid hbm
              clear hbm
              have hxH := Lib.hid hx
              clear hx
              have hbH := Lib.hid hb
              clear hb
              have hbwH := Lib.hid hbw
              clear hbw
              have hmcH := Lib.hid hmc
              clear hmc
              have RH := Lib.hid R
              clear R
              go_wp2
              refine ⟨?rel, ?measure⟩
              case measure => (simp [intOf]; omega)
              case rel => first | exact RH.out | exact ⟨rfl, RH.out⟩ | ((try refine ⟨rfl, ?_⟩); (repeat apply Exists.intro); refine ⟨RH.out, ?_⟩; ((repeat' apply And.intro) <;> rfl))
            · have hmc : m = cntAt l at_ := by
                rcases Nat.lt_or_ge m (cntAt l at_) with h | h
                · obtain ⟨r, hr, h2⟩ := cntAt_in h
                  rw [hx] at hr
                  injection hr with hr
                  subst hr
                  exact absurd h2 hcut
                · omega
              have hcd : decide (ta ≤ at_) = false := decide_eq_false hcut
              clear hm2
              have hbmH := Lib.hid hbm
              clear hbm
              have hxH := Lib.hid hx
              clear hx
              have hbH := Lib.hid hb
              clear hb
              have hbwH := Lib.hid hbw
              clear hbw
              have hmcH := Lib.hid hmc
              clear hmc
              have hml : m ≤ len := by have := cntAt_le l at_; have := hll; have := hmcH.out; omega
              have hcut := hcapH.out
              go_wp2_with fail
              refine (below_any k ((len : Int) - m + 1) _ hk (by omega) (by omega)).mono ?_
              rintro e w4 ⟨⟨r, rfl, r0, r1⟩, rfl⟩
              obtain ⟨rn, rfl⟩ : ∃ rn : Nat, r = rn := ⟨r.toNat, by omega⟩
              have hmr : m + rn ≤ len := by omega
              have hmrc : m + rn ≤ cap := by omega
              have ht : ((m : Int) + (rn : Int)).toNat = m + rn := by omega
              have ht2 : (m : Int) + (rn : Int) ≤ 3000 := by omega
              have ht3 : (m : Int) + (rn : Int) ≤ (cap : Int) := by omega
              clear r0 r1
              go_wp2_with fail
              have hm5 : MaxLenAt wr := hmH.out.below hbH.out
              have hl5 : SlAt RTestRun wr (some ⟨b0, off, none⟩) (m + rn) (l.take (m + rn)) := slAt_takeR (hlH.out.below hbH.out) (m + rn) hmr
              have hc5 := htkH.out (m + rn)
              generalize hl6 : l.take (m + rn) = l6 at hl5 hc5
              have hcall := aside_any (some ⟨b0, off, none⟩) (m + rn) cap l6 many window good at_ wr hm5 hl5 0 hc5
              clear hm5 hl5 hc5
              refine hcall.mono ?_
              rintro e w5 ⟨A5, n5, c5, L5, rfl, hs5, ha5, hn5, hb5⟩
              rw [← hl6] at ha5
              have hLL : L = L5 := AsideAns.eq (m := m + rn) (by have := hmcH.out; omega) ha1H.out ha5
              subst hLL
              have hb6 := hbH.out.trans (hb5.mono hbH.out.size)
              have hs15 := (hs1H.out.below hbwH.out).below hb5
              clear hb5 ha5 ht ht2 ht3
              have hs5H := Lib.hid hs5
              clear hs5
              have hb6H := Lib.hid hb6
              clear hb6
              have hs15H := Lib.hid hs15
              clear hs15
              go_wp2_with fail
              refine (equal_same A1 A5 n1 c1 n5 c5 L _ hs15H.out hs5H.out (by omega)).mono ?_
              rintro e w7 ⟨rfl, hb7⟩
              have hb8 := hb6H.out.trans (hb7.mono hb6H.out.size)
              clear hb7
              have hb8H := Lib.hid hb8
              clear hb8
              go_wp2
              go_ret
              exact ⟨rfl, hb8H.out⟩
          · have hmc : m = cntAt l at_ := by have := cntAt_le l at_; omega
            clear hm2
            have hbmH := Lib.hid hbm
            clear hbm
            have hbH := Lib.hid hb
            clear hb
            have hbwH := Lib.hid hbw
            clear hbw
            have hmcH := Lib.hid hmc
            clear hmc
            have hml : m ≤ len := by have := cntAt_le l at_; have := hll; have := hmcH.out; omega
            have hcut := hcapH.out
            go_wp2_with fail
            refine (below_any k ((len : Int) - m + 1) _ hk (by omega) (by omega)).mono ?_
            rintro e w4 ⟨⟨r, rfl, r0, r1⟩, rfl⟩
            obtain ⟨rn, rfl⟩ : ∃ rn : Nat, r = rn := ⟨r.toNat, by omega⟩
            have hmr : m + rn ≤ len := by omega
            have hmrc : m + rn ≤ cap := by omega
            have ht : ((m : Int) + (rn : Int)).toNat = m + rn := by omega
            have ht2 : (m : Int) + (rn : Int) ≤ 3000 := by omega
            have ht3 : (m : Int) + (rn : Int) ≤ (cap : Int) := by omega
            clear r0 r1
            go_wp2_with fail
            have hm5 : MaxLenAt wr := hmH.out.below hbH.out
            have hl5 : SlAt RTestRun wr A (m + rn) (l.take (m + rn)) := slAt_takeR (hlH.out.below hbH.out) (m + rn) hmr
            have hc5 := htkH.out (m + rn)
            generalize hl6 : l.take (m + rn) = l6 at hl5 hc5
            have hcall := aside_any A (m + rn) cap l6 many window good at_ wr hm5 hl5 0 hc5
            clear hm5 hl5 hc5
            refine hcall.mono ?_
            rintro e w5 ⟨A5, n5, c5, L5, rfl, hs5, ha5, hn5, hb5⟩
            rw [← hl6] at ha5
            have hLL : L = L5 := AsideAns.eq (m := m + rn) (by have := hmcH.out; omega) ha1H.out ha5
            subst hLL
            have hb6 := hbH.out.trans (hb5.mono hbH.out.size)
            have hs15 := (hs1H.out.below hbwH.out).below hb5
            clear hb5 ha5 ht ht2 ht3
            have hs5H := Lib.hid hs5
            clear hs5
            have hb6H := Lib.hid hb6
            clear hb6
            have hs15H := Lib.hid hs15
            clear hs15
            go_wp2_with fail
            refine (equal_same A1 A5 n1 c1 n5 c5 L _ hs15H.out hs5H.out (by omega)).mono ?_
            rintro e w7 ⟨rfl, hb7⟩
            have hb8 := hb6H.out.trans (hb7.mono hb6H.out.size)
            clear hb7
            have hb8H := Lib.hid hb8
            clear hb8
            go_wp2
            go_ret
            exact ⟨rfl, hb8H.out⟩
  · have hL : n1 = 0 := by
      rw [AsideAns, if_neg e0] at ha1
      subst ha1
      exact hs1.1.symm
    subst hL
    have e1 : (c != 0) = true := by simpa using e0
    have hs1H := Lib.hid hs1
    clear hs1
    have ha1H := Lib.hid ha1
    clear ha1
    have hb1H := Lib.hid hb1
    clear hb1
    have e0H := Lib.hid e0
    clear e0
    go_wp2_with fail
    refine (awake_any _).mono ?_
    rintro e w2 ⟨rfl, hb2⟩
    have hb3 := hb1H.out.trans (hb2.mono hb1H.out.size)
    clear hb2
    have hb3H := Lib.hid hb3
    clear hb3
    go_wp2
    go_ret
    exact ⟨rfl, hb3H.out⟩
end Go.Proofs.YtoakhcajhfponaaDoor.C10
