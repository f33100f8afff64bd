/-
  CheckTest of the program and of the reference.
-/
import Derived.Test.YtpcgfodiikljdaaDoorRPathC10
import Derived.Test.YtpcgfodiikljdaaDoorWordPC10
import Derived.Test.YtpcgfodiikljdaaDoorTypesM
namespace Go.Proofs.YtpcgfodiikljdaaDoor.C10
open Go.RowKit
set_option linter.unusedVariables false

def casesErr : Option ByteArray → List TestCase → Int
  | _, [] => 0
  | p, c :: r => if wordB c.name = true then (if inR 0 100000 c.seconds = true then (if p.map (sle c.name ·) = some true then 8 else casesErr (some c.name) r) else 1) else 5
def prevN (l : List TestCase) (k : Nat) : Option ByteArray := if k = 0 then none else (l[k - 1]?).map (·.name)
def testF (t : Test) : Int := if pathB t.name = true then (if t.cases.l.length = 0 then 9 else if t.cases.l.length ≤ 500 then casesErr none t.cases.l else 2) else 5
def CtRel (l : List TestCase) (c : Int) (w0 : World) (i : Value) (wr : World) : Prop :=
  ∃ k : Nat, k ≤ l.length ∧ i = .int .i64 k ∧ casesErr (prevN l k) (l.drop k) = c ∧ Below w0.heap.size w0 wr

theorem casesErr_ok : ∀ {p : Option ByteArray} {l : List TestCase}, casesErr p l = 0 → (∀ c ∈ l, 0 ≤ c.seconds ∧ c.seconds ≤ 100000) ∧ (l.map (·.name)).Pairwise (fun a b => cmpS a b = -1) ∧ (∀ q, p = some q → ∀ c ∈ l, cmpS q c.name = -1)
  | p, [], _ => ⟨fun c hc => (by cases hc), List.Pairwise.nil, fun _ _ c hc => (by cases hc)⟩
  | p, c :: r, h => by
    unfold casesErr at h
    by_cases h1 : wordB c.name = true
    · rw [if_pos h1] at h
      by_cases h2 : inR 0 100000 c.seconds = true
      · rw [if_pos h2] at h
        by_cases h3 : p.map (sle c.name ·) = some true
        · rw [if_pos h3] at h; cases h
        · rw [if_neg h3] at h
          obtain ⟨a1, a2, a3⟩ := casesErr_ok h
          have hq : ∀ q, p = some q → cmpS q c.name = -1 := fun q hq => by
            subst hq
            simp only [Option.map_some, Option.some.injEq, Bool.not_eq_true] at h3
            rw [sle_cmp] at h3
            have := of_decide_eq_false h3
            have hs := cmpS_swap c.name q
            rcases cmpS_range c.name q with e | e | e <;> omega
          refine ⟨fun x hx => ?_, ?_, fun q hq2 x hx => ?_⟩
          · rcases List.mem_cons.1 hx with rfl | hx
            · exact inR_true h2
            · exact a1 x hx
          · rw [List.map_cons]
            refine List.pairwise_cons.2 ⟨fun b hb => ?_, a2⟩
            obtain ⟨x, hx, rfl⟩ := List.mem_map.1 hb
            exact a3 c.name rfl x hx
          · rcases List.mem_cons.1 hx with rfl | hx
            · exact hq q hq2
            · exact cmpS_trans (hq q hq2) (a3 c.name rfl x hx)
      · rw [if_neg h2] at h; cases h
    · rw [if_neg h1] at h; cases h
theorem testF_ok {t : Test} (h : testF t = 0) : 0 < t.cases.l.length ∧ t.cases.l.length ≤ 500 ∧ (∀ c ∈ t.cases.l, 0 ≤ c.seconds ∧ c.seconds ≤ 100000) ∧ (t.cases.l.map (·.name)).Nodup := by
  unfold testF at h
  split at h
  · split at h
    · cases h
    · split at h
      · obtain ⟨a1, a2, _⟩ := casesErr_ok h
        refine ⟨by omega, by omega, a1, a2.imp fun {a b} hab e => ?_⟩
        rw [e, (cmpS_zero b b).2 rfl] at hab
        cases hab
      · cases h
  · cases h

theorem rword_b (s : ByteArray) (b : Bool) (w : World) (hs : s.size ≤ maxLen) (hb : wordB s = b) :
    Calls Tryd.prog 28 #[.string s] w fun e w' => e = .returned (.bool b) ∧ Below w.heap.size w w' :=
  (rword_any s b w hs hb).mono (by rintro e w' ⟨rfl, rfl⟩; exact ⟨rfl, Below.refl _ _⟩)
theorem two_below {w w' : World} {a0 a1 : Addr} {v0 v1 : Value} (hb : Below w.heap.size w w') (h : w.cell? a0 = some v0 ∧ w.cell? a1 = some v1) : w'.cell? a0 = some v0 ∧ w'.cell? a1 = some v1 :=
  ⟨(hb.cell (cell?_lt h.1)).trans h.1, (hb.cell (cell?_lt h.2)).trans h.2⟩
set_option maxRecDepth 100000 in
set_option maxHeartbeats 4000000 in
theorem checkTest_any (t : Test) (w : World) (hm : MaxLenAt w) (hl : (RSl RTestCase).ok w t.cases) (hnm : t.name.size ≤ maxLen) (c : Int) (hF : testF t = c) :
    Calls Tryd.prog 10 #[.agg #[.string t.name, .slice t.cases.A t.cases.n t.cases.cap]] w fun e w' => e = .returned (.int .i64 c) ∧ Below w.heap.size w w' := by
  obtain ⟨nm, A, n, cap, l⟩ := t
  simp only at hl hnm hF ⊢
  unfold testF at hF
  simp only at hF
  have hl := hl.1
  have hll := hl.1
  rw [hll] at hF
  have hba := (Below.refl w.heap.size w).alloc (Nat.le_refl _) (.cells #[.string nm, .slice A n cap] 24)
  obtain ⟨b1, hb1⟩ : ∃ b, pathB nm = b := ⟨_, rfl⟩
  rw [hb1] at hF
  have hlH := Lib.hid hl
  clear hl
  have hllH := Lib.hid hll
  clear hll
  have hFH := Lib.hid hF
  clear hF
  have hmH := Lib.hid hm
  clear hm
  have hb1H := Lib.hid hb1
  clear hb1
  have hbaH := Lib.hid hba
  clear hba
  go_enter Tryd.func10, Tryd.ntmps10
  go_wp2_with fail
  refine (isPath_any nm _ (hmH.out.below hbaH.out)   b1 hb1H.out).mono ?_
  rintro e w1 ⟨rfl, hw1⟩
  have t1 : w1.cell? ⟨w.heap.size, 1, none⟩ = some (.slice A n cap) := (hw1.cell (by simp)).trans (cell_new _ _ _ 1)
  have hbw1 := hbaH.out.trans (hw1.mono hbaH.out.size)
  have hF := hFH.out
  clear hw1 hFH
  cases b1
  · rw [if_neg (by decide)] at hF
    subst hF
    have hbw1H := Lib.hid hbw1
    clear hbw1
    go_wp2
    go_ret
    exact ⟨rfl, hbw1H.out⟩
  · rw [if_pos rfl] at hF
    by_cases h0 : n = 0
    · rw [if_pos h0] at hF
      subst h0
      subst hF
      have hbw1H := Lib.hid hbw1
      clear hbw1
      go_wp2
      go_ret
      exact ⟨rfl, hbw1H.out⟩
    · rw [if_neg h0] at hF
      have h0z : ((n : Int) == 0) = false := by rw [beq_eq_false_iff_ne]; omega
      by_cases h5 : n ≤ 500
      · rw [if_pos h5] at hF
        have hbw1H := Lib.hid hbw1
        clear hbw1
        have hFH := Lib.hid hF
        clear hF
        go_wp2_with fail
        go_loopw [23] (fun i wr => CtRel l c w i wr ∧ wr.cell? ⟨w.heap.size, 1, none⟩ = some (.slice A n cap)) (fun i _ => n - (intOf i).toNat)
        case atStart => exact ⟨⟨0, Nat.zero_le _, rfl, hFH.out, hbw1H.out⟩, t1⟩
        case round =>
          obtain ⟨⟨k, hk, rfl, hck, hb⟩, t1⟩ := hrel
          have hkl : k ≤ n := by have := hllH.out; omega
          have hbs := hb.size
          by_cases hlt : k < n
          · obtain ⟨b, off, hA, _⟩ := hlH.out.2.1 (by omega)
            subst hA
            obtain ⟨x, hx⟩ : ∃ x, l[k]? = some x := ⟨l[k]'(by have := hllH.out; omega), List.getElem?_eq_getElem _⟩
            obtain ⟨c0, c1⟩ := cells_TestCase (hlH.out.below hb) hx
            obtain ⟨o0, _⟩ := hlH.out.2.2 x (List.mem_of_getElem? hx)
            have hkl2 : k + 1 ≤ l.length := by have := hllH.out; omega
            have hpn : prevN l (k + 1) = some x.name := by rw [prevN, if_neg (by omega), show k + 1 - 1 = k from rfl, hx]; rfl
            rw [drop_cons hx, casesErr] at hck
            obtain ⟨te, se⟩ := x
            simp only at c0 c1 hck o0 hpn
            obtain ⟨b2, hb2⟩ : ∃ b, wordB te = b := ⟨_, rfl⟩
            have hba := hb.alloc hbs (.cells #[.string te, .int .i64 se] 41)
            have hbas := hba.size
            have t2 := ((((Below.refl wr.heap.size wr).alloc (Nat.le_refl _) (.cells #[.string te, .int .i64 se] 41)).cell (cell?_lt t1)).trans t1)
            clear t1
            have hxH := Lib.hid hx
            clear hx
            have hbH := Lib.hid hb
            clear hb
            have hbaH := Lib.hid hba
            clear hba
            have hbasH := Lib.hid hbas
            clear hbas
            have o0H := Lib.hid o0
            clear o0
            have hb2H := Lib.hid hb2
            clear hb2
            have hpnH := Lib.hid hpn
            clear hpn
            have hckH := Lib.hid hck
            clear hck
            have hkl2H := Lib.hid hkl2
            clear hkl2
            have t2H := Lib.hid t2
            clear t2
            go_wp2_with fail
            refine (word_any te b2 _ o0H.out hb2H.out).mono ?_
            rintro e w2 ⟨rfl, hw2⟩
            obtain ⟨q0, q1⟩ := two_below hw2 ⟨cell_new _ _ _ 0, cell_new _ _ _ 1⟩
            have t3 := (hw2.cell (cell?_lt t2H.out)).trans t2H.out
            have hbw2 := hbaH.out.trans (hw2.mono hbasH.out)
            clear c0 c1 t2H
            have hw2H := Lib.hid hw2
            clear hw2
            have hbw2H := Lib.hid hbw2
            clear hbw2
            cases b2
            · have hck := hckH.out
              clear hckH
              rw [if_neg (by rw [hb2H.out]; simp)] at hck
              clear q0 q1 t3
              have hckH := Lib.hid hck
              clear hck
              go_wp2
              go_ret
              exact ⟨ret1_int hckH.out, hbw2H.out⟩
            · have hck := hckH.out
              clear hckH
              rw [if_pos hb2H.out] at hck
              by_cases i3 : inR 0 100000 se = true
              · rw [if_pos i3] at hck
                by_cases hk0 : k = 0
                · subst hk0
                  have R : ∀ nq, CtRel l c w (.int .i64 1) (w2.drewN nq) ∧ (w2.drewN nq).cell? ⟨w.heap.size, 1, none⟩ = some (.slice (some ⟨b, off, none⟩) n cap) := by
                    refine fun nq => ⟨⟨1, hkl2H.out, by go_num, ?_, bel_drewN hbw2H.out nq⟩, t3⟩
                    rw [prevN, if_pos rfl, Option.map_none, if_neg (by decide)] at hck
                    rw [show prevN l 1 = _ from hpnH.out]
                    exact hck
                  have RH := Lib.hid R
                  clear R
                  have hckH := Lib.hid hck
                  clear hck
                  go_wp2_with (go_at_call 14; refine (within_p _ _ _ _).mono ?_; rintro e wz ⟨rfl, rfl⟩)
                  go_quiet (fail)
                  go_wp2
                  refine ⟨?rel, ?measure⟩
                  case measure => (simp [intOf]; omega)
                  case rel => first | exact (RH.out _) | exact ⟨rfl, (RH.out _)⟩ | ((try refine ⟨rfl, ?_⟩); (repeat apply Exists.intro); refine ⟨(RH.out _), ?_⟩; ((repeat' apply And.intro) <;> rfl))
                · obtain ⟨j, rfl⟩ : ∃ j, k = j + 1 := ⟨k - 1, by omega⟩
                  obtain ⟨y, hy⟩ : ∃ y, l[j]? = some y := ⟨l[j]'(by have := hllH.out; omega), List.getElem?_eq_getElem _⟩
                  obtain ⟨d0, _⟩ := cells_TestCase (hlH.out.below hbw2H.out) hy
                  have hpr : prevN l (j + 1) = some y.name := by rw [prevN, if_neg (by omega), show j + 1 - 1 = j from rfl, hy]; rfl
                  rw [hpr, Option.map_some] at hck
                  clear hpr
                  obtain ⟨yn, hyn⟩ : ∃ t, y.name = t := ⟨_, rfl⟩
                  rw [hyn] at d0 hck
                  have hyH := Lib.hid hy
                  clear hy
                  have hynH := Lib.hid hyn
                  clear hyn
                  cases hle : sle te yn
                  · have hle' : (Op.bytesLess te.toList yn.toList || te.toList == yn.toList) = false := hle
                    rw [hle, if_neg (by decide)] at hck
                    have R : ∀ nq, CtRel l c w (.int .i64 (j + 1 + 1)) (w2.drewN nq) ∧ (w2.drewN nq).cell? ⟨w.heap.size, 1, none⟩ = some (.slice (some ⟨b, off, none⟩) n cap) := by
                      refine fun nq => ⟨⟨j + 1 + 1, hkl2H.out, by go_num, ?_, bel_drewN hbw2H.out nq⟩, t3⟩
                      rw [hpnH.out]
                      exact hck
                    have hleH := Lib.hid hle
                    clear hle
                    have hckH := Lib.hid hck
                    clear hck
                    have RH := Lib.hid R
                    clear R
                    go_wp2_with (go_at_call 14; refine (within_p _ _ _ _).mono ?_; rintro e wz ⟨rfl, rfl⟩)
                    go_quiet (fail)
                    go_wp2
                    refine ⟨?rel, ?measure⟩
                    case measure => (simp [intOf]; omega)
                    case rel => first | exact (RH.out _) | exact ⟨rfl, (RH.out _)⟩ | ((try refine ⟨rfl, ?_⟩); (repeat apply Exists.intro); refine ⟨(RH.out _), ?_⟩; ((repeat' apply And.intro) <;> rfl))
                  · have hle' : (Op.bytesLess te.toList yn.toList || te.toList == yn.toList) = true := hle
                    rw [hle, if_pos rfl] at hck
                    have hleH := Lib.hid hle
                    clear hle
                    have hckH := Lib.hid hck
                    clear hck
                    go_wp2_with (go_at_call 14; refine (within_p _ _ _ _).mono ?_; rintro e wz ⟨rfl, rfl⟩)
                    go_quiet (fail)
                    go_wp2
                    go_ret
                    exact ⟨ret1_int hckH.out, bel_drewN hbw2H.out _⟩
              · rw [if_neg i3] at hck
                have i3 : inR 0 100000 se = false := by simpa using i3
                have hckH := Lib.hid hck
                clear hck
                go_wp2_with (go_at_call 14; refine (within_p _ _ _ _).mono ?_; rintro e wz ⟨rfl, rfl⟩)
                go_ret
                exact ⟨ret1_int hckH.out, hbw2H.out⟩
          · have e : l.drop k = [] := List.drop_eq_nil_of_le (by have := hllH.out; omega)
            rw [e] at hck
            have hc0 : 0 = c := by rw [← hck]; unfold casesErr; rfl
            have hckH := Lib.hid hck
            clear hck
            have hbH := Lib.hid hb
            clear hb
            have eH := Lib.hid e
            clear e
            have hc0H := Lib.hid hc0
            clear hc0
            go_wp2
            go_ret
            exact ⟨ret1_int hc0H.out, hbH.out⟩
      · rw [if_neg h5] at hF
        subst hF
        have hbw1H := Lib.hid hbw1
        clear hbw1
        go_wp2
        go_ret
        exact ⟨rfl, hbw1H.out⟩
set_option maxRecDepth 100000 in
set_option maxHeartbeats 4000000 in
theorem rcheckTest_any (t : Test) (w : World) (hm : MaxLenAt w) (hl : (RSl RTestCase).ok w t.cases) (hnm : t.name.size < 4294967281) (c : Int) (hF : testF t = c) :
    Calls Tryd.prog 11 #[.agg #[.string t.name, .slice t.cases.A t.cases.n t.cases.cap]] w fun e w' => e = .returned (.int .i64 c) ∧ Below w.heap.size w w' := by
  obtain ⟨nm, A, n, cap, l⟩ := t
  simp only at hl hnm hF ⊢
  unfold testF at hF
  simp only at hF
  have hl := hl.1
  have hll := hl.1
  rw [hll] at hF
  have hba := (Below.refl w.heap.size w).alloc (Nat.le_refl _) (.cells #[.string nm, .slice A n cap] 24)
  obtain ⟨b1, hb1⟩ : ∃ b, pathB nm = b := ⟨_, rfl⟩
  rw [hb1] at hF
  have hlH := Lib.hid hl
  clear hl
  have hllH := Lib.hid hll
  clear hll
  have hFH := Lib.hid hF
  clear hF
  have hmH := Lib.hid hm
  clear hm
  have hb1H := Lib.hid hb1
  clear hb1
  have hbaH := Lib.hid hba
  clear hba
  go_enter Tryd.func11, Tryd.ntmps11
  go_wp2_with fail
  refine (risPath_any nm _ (hmH.out.below hbaH.out) hnm b1 hb1H.out).mono ?_
  rintro e w1 ⟨rfl, hw1⟩
  have t1 : w1.cell? ⟨w.heap.size, 1, none⟩ = some (.slice A n cap) := (hw1.cell (by simp)).trans (cell_new _ _ _ 1)
  have hbw1 := hbaH.out.trans (hw1.mono hbaH.out.size)
  have hF := hFH.out
  clear hw1 hFH
  cases b1
  · rw [if_neg (by decide)] at hF
    subst hF
    have hbw1H := Lib.hid hbw1
    clear hbw1
    go_wp2
    go_ret
    exact ⟨rfl, hbw1H.out⟩
  · rw [if_pos rfl] at hF
    by_cases h0 : n = 0
    · rw [if_pos h0] at hF
      subst h0
      subst hF
      have hbw1H := Lib.hid hbw1
      clear hbw1
      go_wp2
      go_ret
      exact ⟨rfl, hbw1H.out⟩
    · rw [if_neg h0] at hF
      have h0z : ((n : Int) == 0) = false := by rw [beq_eq_false_iff_ne]; omega
      by_cases h5 : n ≤ 500
      · rw [if_pos h5] at hF
        have hbw1H := Lib.hid hbw1
        clear hbw1
        have hFH := Lib.hid hF
        clear hF
        go_wp2_with fail
        go_loopw [23] (fun i wr => CtRel l c w i wr ∧ wr.cell? ⟨w.heap.size, 1, none⟩ = some (.slice A n cap)) (fun i _ => n - (intOf i).toNat)
        case atStart => exact ⟨⟨0, Nat.zero_le _, rfl, hFH.out, hbw1H.out⟩, t1⟩
        case round =>
          obtain ⟨⟨k, hk, rfl, hck, hb⟩, t1⟩ := hrel
          have hkl : k ≤ n := by have := hllH.out; omega
          have hbs := hb.size
          by_cases hlt : k < n
          · obtain ⟨b, off, hA, _⟩ := hlH.out.2.1 (by omega)
            subst hA
            obtain ⟨x, hx⟩ : ∃ x, l[k]? = some x := ⟨l[k]'(by have := hllH.out; omega), List.getElem?_eq_getElem _⟩
            obtain ⟨c0, c1⟩ := cells_TestCase (hlH.out.below hb) hx
            obtain ⟨o0, _⟩ := hlH.out.2.2 x (List.mem_of_getElem? hx)
            have hkl2 : k + 1 ≤ l.length := by have := hllH.out; omega
            have hpn : prevN l (k + 1) = some x.name := by rw [prevN, if_neg (by omega), show k + 1 - 1 = k from rfl, hx]; rfl
            rw [drop_cons hx, casesErr] at hck
            obtain ⟨te, se⟩ := x
            simp only at c0 c1 hck o0 hpn
            obtain ⟨b2, hb2⟩ : ∃ b, wordB te = b := ⟨_, rfl⟩
            have hba := hb.alloc hbs (.cells #[.string te, .int .i64 se] 41)
            have hbas := hba.size
            have t2 := ((((Below.refl wr.heap.size wr).alloc (Nat.le_refl _) (.cells #[.string te, .int .i64 se] 41)).cell (cell?_lt t1)).trans t1)
            clear t1
            have hxH := Lib.hid hx
            clear hx
            have hbH := Lib.hid hb
            clear hb
            have hbaH := Lib.hid hba
            clear hba
            have hbasH := Lib.hid hbas
            clear hbas
            have o0H := Lib.hid o0
            clear o0
            have hb2H := Lib.hid hb2
            clear hb2
            have hpnH := Lib.hid hpn
            clear hpn
            have hckH := Lib.hid hck
            clear hck
            have hkl2H := Lib.hid hkl2
            clear hkl2
            have t2H := Lib.hid t2
            clear t2
            go_wp2_with fail
            refine (rword_b te b2 _ o0H.out hb2H.out).mono ?_
            rintro e w2 ⟨rfl, hw2⟩
            obtain ⟨q0, q1⟩ := two_below hw2 ⟨cell_new _ _ _ 0, cell_new _ _ _ 1⟩
            have t3 := (hw2.cell (cell?_lt t2H.out)).trans t2H.out
            have hbw2 := hbaH.out.trans (hw2.mono hbasH.out)
            clear c0 c1 t2H
            have hw2H := Lib.hid hw2
            clear hw2
            have hbw2H := Lib.hid hbw2
            clear hbw2
            cases b2
            · have hck := hckH.out
              clear hckH
              rw [if_neg (by rw [hb2H.out]; simp)] at hck
              clear q0 q1 t3
              have hckH := Lib.hid hck
              clear hck
              go_wp2
              go_ret
              exact ⟨ret1_int hckH.out, hbw2H.out⟩
            · have hck := hckH.out
              clear hckH
              rw [if_pos hb2H.out] at hck
              by_cases i3 : inR 0 100000 se = true
              · rw [if_pos i3] at hck
                by_cases hk0 : k = 0
                · subst hk0
                  have R : ∀ nq, CtRel l c w (.int .i64 1) (w2.drewN nq) ∧ (w2.drewN nq).cell? ⟨w.heap.size, 1, none⟩ = some (.slice (some ⟨b, off, none⟩) n cap) := by
                    refine fun nq => ⟨⟨1, hkl2H.out, by go_num, ?_, bel_drewN hbw2H.out nq⟩, t3⟩
                    rw [prevN, if_pos rfl, Option.map_none, if_neg (by decide)] at hck
                    rw [show prevN l 1 = _ from hpnH.out]
                    exact hck
                  have RH := Lib.hid R
                  clear R
                  have hckH := Lib.hid hck
                  clear hck
                  go_wp2_with (go_at_call 23; refine (within_r _ _ _ _).mono ?_; rintro e wz ⟨rfl, rfl⟩)
                  go_quiet (fail)
                  go_wp2
                  refine ⟨?rel, ?measure⟩
                  case measure => (simp [intOf]; omega)
                  case rel => first | exact (RH.out _) | exact ⟨rfl, (RH.out _)⟩ | ((try refine ⟨rfl, ?_⟩); (repeat apply Exists.intro); refine ⟨(RH.out _), ?_⟩; ((repeat' apply And.intro) <;> rfl))
                · obtain ⟨j, rfl⟩ : ∃ j, k = j + 1 := ⟨k - 1, by omega⟩
                  obtain ⟨y, hy⟩ : ∃ y, l[j]? = some y := ⟨l[j]'(by have := hllH.out; omega), List.getElem?_eq_getElem _⟩
                  obtain ⟨d0, _⟩ := cells_TestCase (hlH.out.below hbw2H.out) hy
                  have hpr : prevN l (j + 1) = some y.name := by rw [prevN, if_neg (by omega), show j + 1 - 1 = j from rfl, hy]; rfl
                  rw [hpr, Option.map_some] at hck
                  clear hpr
                  obtain ⟨yn, hyn⟩ : ∃ t, y.name = t := ⟨_, rfl⟩
                  rw [hyn] at d0 hck
                  have hyH := Lib.hid hy
                  clear hy
                  have hynH := Lib.hid hyn
                  clear hyn
                  cases hle : sle te yn
                  · have hle' : (Op.bytesLess te.toList yn.toList || te.toList == yn.toList) = false := hle
                    rw [hle, if_neg (by decide)] at hck
                    have R : ∀ nq, CtRel l c w (.int .i64 (j + 1 + 1)) (w2.drewN nq) ∧ (w2.drewN nq).cell? ⟨w.heap.size, 1, none⟩ = some (.slice (some ⟨b, off, none⟩) n cap) := by
                      refine fun nq => ⟨⟨j + 1 + 1, hkl2H.out, by go_num, ?_, bel_drewN hbw2H.out nq⟩, t3⟩
                      rw [hpnH.out]
                      exact hck
                    have hleH := Lib.hid hle
                    clear hle
                    have hckH := Lib.hid hck
                    clear hck
                    have RH := Lib.hid R
                    clear R
                    go_wp2_with (go_at_call 23; refine (within_r _ _ _ _).mono ?_; rintro e wz ⟨rfl, rfl⟩)
                    go_quiet (fail)
                    go_wp2
                    refine ⟨?rel, ?measure⟩
                    case measure => (simp [intOf]; omega)
                    case rel => first | exact (RH.out _) | exact ⟨rfl, (RH.out _)⟩ | ((try refine ⟨rfl, ?_⟩); (repeat apply Exists.intro); refine ⟨(RH.out _), ?_⟩; ((repeat' apply And.intro) <;> rfl))
                  · have hle' : (Op.bytesLess te.toList yn.toList || te.toList == yn.toList) = true := hle
                    rw [hle, if_pos rfl] at hck
                    have hleH := Lib.hid hle
                    clear hle
                    have hckH := Lib.hid hck
                    clear hck
                    go_wp2_with (go_at_call 23; refine (within_r _ _ _ _).mono ?_; rintro e wz ⟨rfl, rfl⟩)
                    go_quiet (fail)
                    go_wp2
                    go_ret
                    exact ⟨ret1_int hckH.out, bel_drewN hbw2H.out _⟩
              · rw [if_neg i3] at hck
                have i3 : inR 0 100000 se = false := by simpa using i3
                have hckH := Lib.hid hck
                clear hck
                go_wp2_with (go_at_call 23; refine (within_r _ _ _ _).mono ?_; rintro e wz ⟨rfl, rfl⟩)
                go_ret
                exact ⟨ret1_int hckH.out, hbw2H.out⟩
          · have e : l.drop k = [] := List.drop_eq_nil_of_le (by have := hllH.out; omega)
            rw [e] at hck
            have hc0 : 0 = c := by rw [← hck]; unfold casesErr; rfl
            have hckH := Lib.hid hck
            clear hck
            have hbH := Lib.hid hb
            clear hb
            have eH := Lib.hid e
            clear e
            have hc0H := Lib.hid hc0
            clear hc0
            go_wp2
            go_ret
            exact ⟨ret1_int hc0H.out, hbH.out⟩
      · rw [if_neg h5] at hF
        subst hF
        have hbw1H := Lib.hid hbw1
        clear hbw1
        go_wp2
        go_ret
        exact ⟨rfl, hbw1H.out⟩
end Go.Proofs.YtpcgfodiikljdaaDoor.C10
