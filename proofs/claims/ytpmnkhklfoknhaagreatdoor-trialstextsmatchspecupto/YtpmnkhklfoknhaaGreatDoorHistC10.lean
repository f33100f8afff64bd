/-
  CheckHistory, of the program and of the reference.
-/
import Derived.Test.YtpmnkhklfoknhaaGreatDoorRPathC10
import Derived.Test.YtpmnkhklfoknhaaGreatDoorTypesM
namespace Go.Proofs.YtpmnkhklfoknhaaGreatDoor.C10
open Go.RowKit
set_option linter.unusedVariables false

theorem five_below {w w' : World} {a0 a1 a2 a3 a4 : Addr} {v0 v1 v2 v3 v4 : Value} (hb : Below w.heap.size w w') (h : w.cell? a0 = some v0 ∧ w.cell? a1 = some v1 ∧ w.cell? a2 = some v2 ∧ w.cell? a3 = some v3 ∧ w.cell? a4 = some v4) :
    w'.cell? a0 = some v0 ∧ w'.cell? a1 = some v1 ∧ w'.cell? a2 = some v2 ∧ w'.cell? a3 = some v3 ∧ w'.cell? a4 = some v4 :=
  ⟨(hb.cell (cell?_lt h.1)).trans h.1, (hb.cell (cell?_lt h.2.1)).trans h.2.1, (hb.cell (cell?_lt h.2.2.1)).trans h.2.2.1, (hb.cell (cell?_lt h.2.2.2.1)).trans h.2.2.2.1, (hb.cell (cell?_lt h.2.2.2.2)).trans h.2.2.2.2⟩

def histErr : Option Int → List TestRun → Int
  | _, [] => 0
  | p, r :: s => if pathB r.test = true then (if digB r.key = true then (if inR 0 1000000000 r.at_ = true ∧ inR 0 100000 r.seconds = true then (if p.map (fun t => decide (r.at_ < t)) = some true then 8 else histErr (some r.at_) s) else 1) else 3) else 5
def prevAt (l : List TestRun) (k : Nat) : Option Int := if k = 0 then none else (l[k - 1]?).map (·.at_)
def histF (l : List TestRun) : Int := if l.length ≤ 3000 then histErr none l else 2
def HistRel (l : List TestRun) (c : Int) (w0 : World) (i : Value) (wr : World) : Prop :=
  ∃ k : Nat, k ≤ l.length ∧ i = .int .i64 k ∧ histErr (prevAt l k) (l.drop k) = c ∧ Below w0.heap.size w0 wr

set_option maxRecDepth 100000 in
set_option maxHeartbeats 2000000 in
theorem hist_ok (A : Option Addr) (len cap : Nat) (l : List TestRun) (w : World) (hm : MaxLenAt w) (hlen : len ≤ 3000) (hl : SlAt RTestRun w A len l) (c : Int) (hF : histErr none l = c) :
    Calls Tryz.prog 29 #[.slice A len cap] w fun e w' => e = .returned (.int .i64 c) ∧ Below w.heap.size w w' := by
  have hll := hl.1
  have hllH := Lib.hid hll
  clear hll
  have hFH := Lib.hid hF
  clear hF
  have hlH := Lib.hid hl
  clear hl
  have hmH := Lib.hid hm
  clear hm
  go_enter Tryz.func29, Tryz.ntmps29
  go_wp2
  go_loopw [10] (fun i wr => HistRel l c w i wr) (fun i _ => len - (intOf i).toNat)
  case atStart => exact ⟨0, Nat.zero_le _, rfl, hFH.out, Below.refl _ _⟩
  case round =>
    obtain ⟨k, hk, rfl, hck, hb⟩ := hrel
    have hkl : k ≤ len := by have := hllH.out; omega
    have hbs := hb.size
    by_cases hlt : k < len
    · obtain ⟨b, off, hA, _⟩ := hlH.out.2.1 (by omega)
      subst hA
      obtain ⟨x, hx⟩ : ∃ x, l[k]? = some x := ⟨l[k]'(by have := hllH.out; omega), List.getElem?_eq_getElem _⟩
      obtain ⟨c0, c1, c2, c3, c4⟩ := cells_TestRun (hlH.out.below hb) hx
      obtain ⟨o0, o1, _⟩ := hlH.out.2.2 x (List.mem_of_getElem? hx)
      have hkl2 : k + 1 ≤ l.length := by have := hllH.out; omega
      have hpn : prevAt l (k + 1) = some x.at_ := by rw [prevAt, if_neg (by omega), show k + 1 - 1 = k from rfl, hx]; rfl
      rw [drop_cons hx, histErr] at hck
      obtain ⟨te, ke, at_, ps, se⟩ := x
      simp only at c0 c1 c2 c3 c4 hck o0 o1 hpn
      obtain ⟨b1, hb1⟩ : ∃ b, pathB te = b := ⟨_, rfl⟩
      obtain ⟨b2, hb2⟩ : ∃ b, digB ke = b := ⟨_, rfl⟩
      have hba := hb.alloc hbs (.cells #[.string te, .string ke, .int .i64 at_, .bool ps, .int .i64 se] 40)
      have hbas := hba.size
      have hxH := Lib.hid hx
      clear hx
      have hbH := Lib.hid hb
      clear hb
      have hbaH := Lib.hid hba
      clear hba
      have hbasH := Lib.hid hbas
      clear hbas
      have o0H := Lib.hid o0
      clear o0
      have o1H := Lib.hid o1
      clear o1
      have hb1H := Lib.hid hb1
      clear hb1
      have hb2H := Lib.hid hb2
      clear hb2
      have hpnH := Lib.hid hpn
      clear hpn
      have hckH := Lib.hid hck
      clear hck
      have hkl2H := Lib.hid hkl2
      clear hkl2
      go_wp2_with fail
      refine (isPath_any te _ (hmH.out.below hbaH.out) b1 hb1H.out).mono ?_
      rintro e w1 ⟨rfl, hw1⟩
      obtain ⟨q0, q1, q2, q3, q4⟩ := five_below hw1 ⟨cell_new _ _ _ 0, cell_new _ _ _ 1, cell_new _ _ _ 2, cell_new _ _ _ 3, cell_new _ _ _ 4⟩
      have hbw1 := hbaH.out.trans (hw1.mono hbasH.out)
      clear c0 c1 c2 c3 c4
      have hw1H := Lib.hid hw1
      clear hw1
      have hbw1H := Lib.hid hbw1
      clear hbw1
      cases b1
      · have hck := hckH.out
        clear hckH
        rw [if_neg (by rw [hb1H.out]; simp)] at hck
        clear q0 q1 q2 q3 q4
        have hckH := Lib.hid hck
        clear hck
        go_wp2
        go_ret
        exact ⟨ret1_int hckH.out, hbw1H.out⟩
      · go_wp2_with fail
        refine (digest_any ke b2 _ o1H.out hb2H.out).mono ?_
        rintro e w2 ⟨rfl, hw2⟩
        obtain ⟨q0, q1, q2, q3, q4⟩ := five_below hw2 ⟨q0, q1, q2, q3, q4⟩
        have hbw2 := hbw1H.out.trans (hw2.mono hbw1H.out.size)
        have hw2H := Lib.hid hw2
        clear hw2
        have hbw2H := Lib.hid hbw2
        clear hbw2
        cases b2
        · have hck := hckH.out
          clear hckH
          rw [if_pos hb1H.out, if_neg (by rw [hb2H.out]; simp)] at hck
          clear q0 q1 q2 q3 q4
          have hckH := Lib.hid hck
          clear hck
          go_wp2
          go_ret
          exact ⟨ret1_int hckH.out, hbw2H.out⟩
        · have hck := hckH.out
          clear hckH
          rw [if_pos hb1H.out, if_pos hb2H.out] at hck
          by_cases i2 : inR 0 1000000000 at_ = true
          · by_cases i3 : inR 0 100000 se = true
            · rw [if_pos ⟨i2, i3⟩] at hck
              by_cases hk0 : k = 0
              · subst hk0
                have R : ∀ nq, HistRel l c w (.int .i64 1) (w2.drewN nq) := by
                  refine fun nq => ⟨1, hkl2H.out, by go_num, ?_, bel_drewN hbw2H.out nq⟩
                  rw [prevAt, if_pos rfl, Option.map_none, if_neg (by decide)] at hck
                  rw [show prevAt l 1 = _ from hpnH.out]
                  exact hck
                have RH := Lib.hid R
                clear R
                have hckH := Lib.hid hck
                clear hck
                go_wp2_with (go_at_call 56; refine (within_p _ _ _ _).mono ?_; rintro e wz ⟨rfl, rfl⟩)
                go_quiet (fail)
                go_wp2
                refine ⟨?rel, ?measure⟩
                case measure => (simp [intOf]; omega)
                case rel => first | exact (RH.out _) | exact ⟨rfl, (RH.out _)⟩ | ((try refine ⟨rfl, ?_⟩); (repeat apply Exists.intro); refine ⟨(RH.out _), ?_⟩; ((repeat' apply And.intro) <;> rfl))
              · obtain ⟨j, rfl⟩ : ∃ j, k = j + 1 := ⟨k - 1, by omega⟩
                obtain ⟨y, hy⟩ : ∃ y, l[j]? = some y := ⟨l[j]'(by have := hllH.out; omega), List.getElem?_eq_getElem _⟩
                obtain ⟨_, _, d2, _, _⟩ := cells_TestRun (hlH.out.below hbw2H.out) hy
                have hpr : prevAt l (j + 1) = some y.at_ := by rw [prevAt, if_neg (by omega), show j + 1 - 1 = j from rfl, hy]; rfl
                rw [hpr, Option.map_some] at hck
                clear hpr
                obtain ⟨yt, hyt⟩ : ∃ t, y.at_ = t := ⟨_, rfl⟩
                rw [hyt] at d2 hck
                have hyH := Lib.hid hy
                clear hy
                have hytH := Lib.hid hyt
                clear hyt
                by_cases hlt2 : at_ < yt
                · rw [if_pos (by rw [decide_eq_true hlt2])] at hck
                  have hckH := Lib.hid hck
                  clear hck
                  go_wp2_with (go_at_call 56; refine (within_p _ _ _ _).mono ?_; rintro e wz ⟨rfl, rfl⟩)
                  go_quiet (fail)
                  go_wp2
                  go_ret
                  exact ⟨ret1_int hckH.out, bel_drewN hbw2H.out _⟩
                · rw [if_neg (by rw [decide_eq_false hlt2]; decide)] at hck
                  have hlt3 : decide (at_ < yt) = false := decide_eq_false hlt2
                  have R : ∀ nq, HistRel l c w (.int .i64 (j + 1 + 1)) (w2.drewN nq) := by
                    refine fun nq => ⟨j + 1 + 1, hkl2H.out, by go_num, ?_, bel_drewN hbw2H.out nq⟩
                    rw [hpnH.out]
                    exact hck
                  have hckH := Lib.hid hck
                  clear hck
                  have RH := Lib.hid R
                  clear R
                  go_wp2_with (go_at_call 56; refine (within_p _ _ _ _).mono ?_; rintro e wz ⟨rfl, rfl⟩)
                  go_quiet (fail)
                  go_wp2
                  refine ⟨?rel, ?measure⟩
                  case measure => (simp [intOf]; omega)
                  case rel => first | exact (RH.out _) | exact ⟨rfl, (RH.out _)⟩ | ((try refine ⟨rfl, ?_⟩); (repeat apply Exists.intro); refine ⟨(RH.out _), ?_⟩; ((repeat' apply And.intro) <;> rfl))
            · rw [if_neg (fun h => i3 h.2)] at hck
              have i3 : inR 0 100000 se = false := by simpa using i3
              have hckH := Lib.hid hck
              clear hck
              go_wp2_with (go_at_call 56; refine (within_p _ _ _ _).mono ?_; rintro e wz ⟨rfl, rfl⟩)
              go_ret
              exact ⟨ret1_int hckH.out, hbw2H.out⟩
          · rw [if_neg (fun h => i2 h.1)] at hck
            have i2 : inR 0 1000000000 at_ = false := by simpa using i2
            have hckH := Lib.hid hck
            clear hck
            go_wp2_with (go_at_call 56; refine (within_p _ _ _ _).mono ?_; rintro e wz ⟨rfl, rfl⟩)
            go_ret
            exact ⟨ret1_int hckH.out, hbw2H.out⟩
    · have e : l.drop k = [] := List.drop_eq_nil_of_le (by have := hllH.out; omega)
      rw [e] at hck
      have hc0 : 0 = c := by rw [← hck]; unfold histErr; rfl
      have hckH := Lib.hid hck
      clear hck
      have hbH := Lib.hid hb
      clear hb
      have eH := Lib.hid e
      clear e
      have hc0H := Lib.hid hc0
      clear hc0
      go_wp2
      go_ret
      exact ⟨ret1_int hc0H.out, hbH.out⟩

theorem hist_any (A : Option Addr) (len cap : Nat) (l : List TestRun) (w : World) (hm : MaxLenAt w) (hl : SlAt RTestRun w A len l) (c : Int) (hF : histF l = c) :
    Calls Tryz.prog 29 #[.slice A len cap] w fun e w' => e = .returned (.int .i64 c) ∧ Below w.heap.size w w' := by
  unfold histF at hF
  rw [hl.1] at hF
  by_cases h : len ≤ 3000
  · rw [if_pos h] at hF
    exact hist_ok A len cap l w hm h hl c hF
  · rw [if_neg h] at hF
    subst hF
    clear hl
    go_enter Tryz.func29, Tryz.ntmps29
    go_wp2
    go_ret
    exact ⟨rfl, Below.refl _ _⟩

set_option maxRecDepth 100000 in
set_option maxHeartbeats 2000000 in
theorem rhist_ok (A : Option Addr) (len cap : Nat) (l : List TestRun) (w : World) (hm : MaxLenAt w) (hlen : len ≤ 3000) (hl : SlAt RTestRun w A len l) (hsz : ∀ r ∈ l, r.test.size < 4294967281) (c : Int) (hF : histErr none l = c) :
    Calls Tryz.prog 30 #[.slice A len cap] w fun e w' => e = .returned (.int .i64 c) ∧ Below w.heap.size w w' := by
  have hll := hl.1
  have hllH := Lib.hid hll
  clear hll
  have hFH := Lib.hid hF
  clear hF
  have hlH := Lib.hid hl
  clear hl
  have hmH := Lib.hid hm
  clear hm
  have hszH := Lib.hid hsz
  clear hsz
  go_enter Tryz.func30, Tryz.ntmps30
  go_wp2
  go_loopw [10] (fun i wr => HistRel l c w i wr) (fun i _ => len - (intOf i).toNat)
  case atStart => exact ⟨0, Nat.zero_le _, rfl, hFH.out, Below.refl _ _⟩
  case round =>
    obtain ⟨k, hk, rfl, hck, hb⟩ := hrel
    have hkl : k ≤ len := by have := hllH.out; omega
    have hbs := hb.size
    by_cases hlt : k < len
    · obtain ⟨b, off, hA, _⟩ := hlH.out.2.1 (by omega)
      subst hA
      obtain ⟨x, hx⟩ : ∃ x, l[k]? = some x := ⟨l[k]'(by have := hllH.out; omega), List.getElem?_eq_getElem _⟩
      obtain ⟨c0, c1, c2, c3, c4⟩ := cells_TestRun (hlH.out.below hb) hx
      obtain ⟨o0, o1, _⟩ := hlH.out.2.2 x (List.mem_of_getElem? hx)
      have hxz := hszH.out x (List.mem_of_getElem? hx)
      have hkl2 : k + 1 ≤ l.length := by have := hllH.out; omega
      have hpn : prevAt l (k + 1) = some x.at_ := by rw [prevAt, if_neg (by omega), show k + 1 - 1 = k from rfl, hx]; rfl
      rw [drop_cons hx, histErr] at hck
      obtain ⟨te, ke, at_, ps, se⟩ := x
      simp only at c0 c1 c2 c3 c4 hck o0 o1 hpn hxz
      obtain ⟨b1, hb1⟩ : ∃ b, pathB te = b := ⟨_, rfl⟩
      obtain ⟨b2, hb2⟩ : ∃ b, digB ke = b := ⟨_, rfl⟩
      have hba := hb.alloc hbs (.cells #[.string te, .string ke, .int .i64 at_, .bool ps, .int .i64 se] 40)
      have hbas := hba.size
      have hxH := Lib.hid hx
      clear hx
      have hbH := Lib.hid hb
      clear hb
      have hbaH := Lib.hid hba
      clear hba
      have hbasH := Lib.hid hbas
      clear hbas
      have o0H := Lib.hid o0
      clear o0
      have o1H := Lib.hid o1
      clear o1
      have hb1H := Lib.hid hb1
      clear hb1
      have hb2H := Lib.hid hb2
      clear hb2
      have hpnH := Lib.hid hpn
      clear hpn
      have hckH := Lib.hid hck
      clear hck
      have hkl2H := Lib.hid hkl2
      clear hkl2
      go_wp2_with fail
      refine (risPath_any te _ (hmH.out.below hbaH.out) hxz b1 hb1H.out).mono ?_
      rintro e w1 ⟨rfl, hw1⟩
      obtain ⟨q0, q1, q2, q3, q4⟩ := five_below hw1 ⟨cell_new _ _ _ 0, cell_new _ _ _ 1, cell_new _ _ _ 2, cell_new _ _ _ 3, cell_new _ _ _ 4⟩
      have hbw1 := hbaH.out.trans (hw1.mono hbasH.out)
      clear c0 c1 c2 c3 c4
      have hw1H := Lib.hid hw1
      clear hw1
      have hbw1H := Lib.hid hbw1
      clear hbw1
      cases b1
      · have hck := hckH.out
        clear hckH
        rw [if_neg (by rw [hb1H.out]; simp)] at hck
        clear q0 q1 q2 q3 q4
        have hckH := Lib.hid hck
        clear hck
        go_wp2
        go_ret
        exact ⟨ret1_int hckH.out, hbw1H.out⟩
      · go_wp2_with fail
        refine (rdigest_any ke b2 _ o1H.out hb2H.out).mono ?_
        rintro e w2 ⟨rfl, hw2⟩
        obtain ⟨q0, q1, q2, q3, q4⟩ := five_below hw2 ⟨q0, q1, q2, q3, q4⟩
        have hbw2 := hbw1H.out.trans (hw2.mono hbw1H.out.size)
        have hw2H := Lib.hid hw2
        clear hw2
        have hbw2H := Lib.hid hbw2
        clear hbw2
        cases b2
        · have hck := hckH.out
          clear hckH
          rw [if_pos hb1H.out, if_neg (by rw [hb2H.out]; simp)] at hck
          clear q0 q1 q2 q3 q4
          have hckH := Lib.hid hck
          clear hck
          go_wp2
          go_ret
          exact ⟨ret1_int hckH.out, hbw2H.out⟩
        · have hck := hckH.out
          clear hckH
          rw [if_pos hb1H.out, if_pos hb2H.out] at hck
          by_cases i2 : inR 0 1000000000 at_ = true
          · by_cases i3 : inR 0 100000 se = true
            · rw [if_pos ⟨i2, i3⟩] at hck
              by_cases hk0 : k = 0
              · subst hk0
                have R : ∀ nq, HistRel l c w (.int .i64 1) (w2.drewN nq) := by
                  refine fun nq => ⟨1, hkl2H.out, by go_num, ?_, bel_drewN hbw2H.out nq⟩
                  rw [prevAt, if_pos rfl, Option.map_none, if_neg (by decide)] at hck
                  rw [show prevAt l 1 = _ from hpnH.out]
                  exact hck
                have RH := Lib.hid R
                clear R
                have hckH := Lib.hid hck
                clear hck
                go_wp2_with (go_at_call 59; refine (within_r _ _ _ _).mono ?_; rintro e wz ⟨rfl, rfl⟩)
                go_quiet (fail)
                go_wp2
                refine ⟨?rel, ?measure⟩
                case measure => (simp [intOf]; omega)
                case rel => first | exact (RH.out _) | exact ⟨rfl, (RH.out _)⟩ | ((try refine ⟨rfl, ?_⟩); (repeat apply Exists.intro); refine ⟨(RH.out _), ?_⟩; ((repeat' apply And.intro) <;> rfl))
              · obtain ⟨j, rfl⟩ : ∃ j, k = j + 1 := ⟨k - 1, by omega⟩
                obtain ⟨y, hy⟩ : ∃ y, l[j]? = some y := ⟨l[j]'(by have := hllH.out; omega), List.getElem?_eq_getElem _⟩
                obtain ⟨_, _, d2, _, _⟩ := cells_TestRun (hlH.out.below hbw2H.out) hy
                have hpr : prevAt l (j + 1) = some y.at_ := by rw [prevAt, if_neg (by omega), show j + 1 - 1 = j from rfl, hy]; rfl
                rw [hpr, Option.map_some] at hck
                clear hpr
                obtain ⟨yt, hyt⟩ : ∃ t, y.at_ = t := ⟨_, rfl⟩
                rw [hyt] at d2 hck
                have hyH := Lib.hid hy
                clear hy
                have hytH := Lib.hid hyt
                clear hyt
                by_cases hlt2 : at_ < yt
                · rw [if_pos (by rw [decide_eq_true hlt2])] at hck
                  have hckH := Lib.hid hck
                  clear hck
                  go_wp2_with (go_at_call 59; refine (within_r _ _ _ _).mono ?_; rintro e wz ⟨rfl, rfl⟩)
                  go_quiet (fail)
                  go_wp2
                  go_ret
                  exact ⟨ret1_int hckH.out, bel_drewN hbw2H.out _⟩
                · rw [if_neg (by rw [decide_eq_false hlt2]; decide)] at hck
                  have hlt3 : decide (at_ < yt) = false := decide_eq_false hlt2
                  have R : ∀ nq, HistRel l c w (.int .i64 (j + 1 + 1)) (w2.drewN nq) := by
                    refine fun nq => ⟨j + 1 + 1, hkl2H.out, by go_num, ?_, bel_drewN hbw2H.out nq⟩
                    rw [hpnH.out]
                    exact hck
                  have hckH := Lib.hid hck
                  clear hck
                  have RH := Lib.hid R
                  clear R
                  go_wp2_with (go_at_call 59; refine (within_r _ _ _ _).mono ?_; rintro e wz ⟨rfl, rfl⟩)
                  go_quiet (fail)
                  go_wp2
                  refine ⟨?rel, ?measure⟩
                  case measure => (simp [intOf]; omega)
                  case rel => first | exact (RH.out _) | exact ⟨rfl, (RH.out _)⟩ | ((try refine ⟨rfl, ?_⟩); (repeat apply Exists.intro); refine ⟨(RH.out _), ?_⟩; ((repeat' apply And.intro) <;> rfl))
            · rw [if_neg (fun h => i3 h.2)] at hck
              have i3 : inR 0 100000 se = false := by simpa using i3
              have hckH := Lib.hid hck
              clear hck
              go_wp2_with (go_at_call 59; refine (within_r _ _ _ _).mono ?_; rintro e wz ⟨rfl, rfl⟩)
              go_ret
              exact ⟨ret1_int hckH.out, hbw2H.out⟩
          · rw [if_neg (fun h => i2 h.1)] at hck
            have i2 : inR 0 1000000000 at_ = false := by simpa using i2
            have hckH := Lib.hid hck
            clear hck
            go_wp2_with (go_at_call 59; refine (within_r _ _ _ _).mono ?_; rintro e wz ⟨rfl, rfl⟩)
            go_ret
            exact ⟨ret1_int hckH.out, hbw2H.out⟩
    · have e : l.drop k = [] := List.drop_eq_nil_of_le (by have := hllH.out; omega)
      rw [e] at hck
      have hc0 : 0 = c := by rw [← hck]; unfold histErr; rfl
      have hckH := Lib.hid hck
      clear hck
      have hbH := Lib.hid hb
      clear hb
      have eH := Lib.hid e
      clear e
      have hc0H := Lib.hid hc0
      clear hc0
      go_wp2
      go_ret
      exact ⟨ret1_int hc0H.out, hbH.out⟩

theorem rhist_any (A : Option Addr) (len cap : Nat) (l : List TestRun) (w : World) (hm : MaxLenAt w) (hl : SlAt RTestRun w A len l) (hsz : ∀ r ∈ l, r.test.size < 4294967281) (c : Int) (hF : histF l = c) :
    Calls Tryz.prog 30 #[.slice A len cap] w fun e w' => e = .returned (.int .i64 c) ∧ Below w.heap.size w w' := by
  unfold histF at hF
  rw [hl.1] at hF
  by_cases h : len ≤ 3000
  · rw [if_pos h] at hF
    exact rhist_ok A len cap l w hm h hl hsz c hF
  · rw [if_neg h] at hF
    subst hF
    clear hl
    go_enter Tryz.func30, Tryz.ntmps30
    go_wp2
    go_ret
    exact ⟨rfl, Below.refl _ _⟩
end Go.Proofs.YtpmnkhklfoknhaaGreatDoor.C10
