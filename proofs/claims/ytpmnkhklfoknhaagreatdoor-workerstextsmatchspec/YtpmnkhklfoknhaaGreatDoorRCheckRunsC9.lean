/-
  CheckRuns of the reference.
-/
import Derived.Test.YtpmnkhklfoknhaaGreatDoorCheckRunsC9
namespace Go.Proofs.YtpmnkhklfoknhaaGreatDoor.C9
open Go.RowKit
set_option linter.unusedVariables false

set_option maxRecDepth 100000 in
set_option maxHeartbeats 2000000 in
theorem rruns_ok (A : Option Addr) (len cap : Nat) (l : List Run) (w : World) (hlen : len ≤ 4000) (hl : SlAt RRun w A len l) (c : Int) (hF : runsErr none l = c) :
    Calls Tryz.prog 21 #[.slice A len cap] w fun e w' => e = .returned (.int .i64 c) ∧ Below w.heap.size w w' := by
  have hll := hl.1
  have hllH := Lib.hid hll
  clear hll
  have hFH := Lib.hid hF
  clear hF
  have hlH := Lib.hid hl
  clear hl
  go_enter Tryz.func21, Tryz.ntmps21
  go_wp2
  go_loopw [10] (fun i wr => RunsRel l c w i wr) (fun i _ => len - (intOf i).toNat)
  case atStart => exact ⟨0, Nat.zero_le _, rfl, hFH.out, Below.refl _ _⟩
  case round =>
    obtain ⟨k, hk, rfl, hck, hb⟩ := hrel
    have hkl : k ≤ len := by have := hllH.out; omega
    have hbs := hb.size
    by_cases hlt : k < len
    · obtain ⟨b, off, hA, _⟩ := hlH.out.2.1 (by omega)
      subst hA
      obtain ⟨x, hx⟩ : ∃ x, l[k]? = some x := ⟨l[k]'(by have := hllH.out; omega), List.getElem?_eq_getElem _⟩
      obtain ⟨c0, c1, c2, c3, c4⟩ := cells_Run (hlH.out.below hb) hx
      obtain ⟨o0, o1, _⟩ := hlH.out.2.2 x (List.mem_of_getElem? hx)
      have hkl2 : k + 1 ≤ l.length := by have := hllH.out; omega
      have hpn : prevRun l (k + 1) = some x := by rw [prevRun, if_neg (by omega), show k + 1 - 1 = k from rfl, hx]
      rw [drop_cons hx, runsErr] at hck
      obtain ⟨id, wk, fr, tz, en⟩ := x
      simp only at c0 c1 c2 c3 c4 hck o0 o1
      obtain ⟨b1, hb1⟩ : ∃ b, wordB id = b := ⟨_, rfl⟩
      obtain ⟨b2, hb2⟩ : ∃ b, wordB wk = b := ⟨_, rfl⟩
      have hba := hb.alloc hbs (.cells #[.string id, .string wk, .int .i64 fr, .int .i64 tz, .int .i64 en] 28)
      have hbas := hba.size
      have hxH := Lib.hid hx
      clear hx
      have hbH := Lib.hid hb
      clear hb
      have hbaH := Lib.hid hba
      clear hba
      have hbasH := Lib.hid hbas
      clear hbas
      have o0H := Lib.hid o0
      clear o0
      have o1H := Lib.hid o1
      clear o1
      have hb1H := Lib.hid hb1
      clear hb1
      have hb2H := Lib.hid hb2
      clear hb2
      have hpnH := Lib.hid hpn
      clear hpn
      have hckH := Lib.hid hck
      clear hck
      have hkl2H := Lib.hid hkl2
      clear hkl2
      go_wp2_with fail
      refine (rword_b id b1 _ o0H.out hb1H.out).mono ?_
      rintro e w1 ⟨rfl, hw1⟩
      obtain ⟨q0, q1, q2, q3, q4⟩ := five_below hw1 ⟨cell_new _ _ _ 0, cell_new _ _ _ 1, cell_new _ _ _ 2, cell_new _ _ _ 3, cell_new _ _ _ 4⟩
      have hbw1 := hbaH.out.trans (hw1.mono hbasH.out)
      clear c0 c1 c2 c3 c4
      have hw1H := Lib.hid hw1
      clear hw1
      have hbw1H := Lib.hid hbw1
      clear hbw1
      cases b1
      · have hck := hckH.out
        clear hckH
        rw [if_neg (by rw [hb1H.out]; simp)] at hck
        clear q0 q1 q2 q3 q4
        have hckH := Lib.hid hck
        clear hck
        go_wp2
        go_ret
        exact ⟨ret1_int hckH.out, hbw1H.out⟩
      · go_wp2_with fail
        refine (rword_b wk b2 _ o1H.out hb2H.out).mono ?_
        rintro e w2 ⟨rfl, hw2⟩
        obtain ⟨q0, q1, q2, q3, q4⟩ := five_below hw2 ⟨q0, q1, q2, q3, q4⟩
        have hbw2 := hbw1H.out.trans (hw2.mono hbw1H.out.size)
        have hw2H := Lib.hid hw2
        clear hw2
        have hbw2H := Lib.hid hbw2
        clear hbw2
        cases b2
        · have hck := hckH.out
          clear hckH
          rw [if_neg (by rw [hb2H.out]; simp)] at hck
          clear q0 q1 q2 q3 q4
          have hckH := Lib.hid hck
          clear hck
          go_wp2
          go_ret
          exact ⟨ret1_int hckH.out, hbw2H.out⟩
        · have hck := hckH.out
          clear hckH
          rw [if_pos ⟨hb1H.out, hb2H.out⟩] at hck
          by_cases i2 : inR 0 1000000000 fr = true
          · by_cases i3 : inR 0 1000000000 tz = true
            · rw [if_pos ⟨i2, i3⟩] at hck
              by_cases hle : tz < fr
              · rw [if_pos hle] at hck
                have hckH := Lib.hid hck
                clear hck
                go_wp2_with (go_at_call 46; refine (within_r _ _ _ _).mono ?_; rintro e wz ⟨rfl, rfl⟩)
                go_ret
                exact ⟨ret1_int hckH.out, hbw2H.out⟩
              · rw [if_neg hle] at hck
                have hle2 : decide (tz < fr) = false := decide_eq_false hle
                by_cases i4 : inR 1 3 en = true
                · rw [if_pos i4] at hck
                  by_cases hk0 : k = 0
                  · subst hk0
                    have R : ∀ nq, RunsRel l c w (.int .i64 1) (w2.drewN nq) := by
                      refine fun nq => ⟨1, hkl2H.out, by go_num, ?_, bel_drewN hbw2H.out nq⟩
                      rw [prevRun, if_pos rfl, Option.map_none, if_neg (by decide)] at hck
                      rw [show prevRun l 1 = _ from hpnH.out]
                      exact hck
                    have RH := Lib.hid R
                    clear R
                    have hckH := Lib.hid hck
                    clear hck
                    go_wp2_with (go_at_call 46; refine (within_r _ _ _ _).mono ?_; rintro e wz ⟨rfl, rfl⟩)
                    go_quiet (fail)
                    go_wp2
                    refine ⟨?rel, ?measure⟩
                    case measure => (simp [intOf]; omega)
                    case rel => first | exact (RH.out _) | exact ⟨rfl, (RH.out _)⟩ | ((try refine ⟨rfl, ?_⟩); (repeat apply Exists.intro); refine ⟨(RH.out _), ?_⟩; ((repeat' apply And.intro) <;> rfl))
                  · obtain ⟨j, rfl⟩ : ∃ j, k = j + 1 := ⟨k - 1, by omega⟩
                    obtain ⟨y, hy⟩ : ∃ y, l[j]? = some y := ⟨l[j]'(by have := hllH.out; omega), List.getElem?_eq_getElem _⟩
                    obtain ⟨d0, d1, d2, d3, d4⟩ := cells_Run (hlH.out.below hbw2H.out) hy
                    have hpr : prevRun l (j + 1) = some y := by rw [prevRun, if_neg (by omega), show j + 1 - 1 = j from rfl, hy]
                    rw [hpr, Option.map_some] at hck
                    clear hpr
                    have hyH := Lib.hid hy
                    clear hy
                    have f0 : (0 : Int) ≤ (j : Int) := by omega
                    have f1 : (j : Int) < (len : Int) := by omega
                    have f2 : IntKind.i64.wrap ((j : Int) + 1 - 1) = (j : Int) := by rw [show (j : Int) + 1 - 1 = (j : Int) by omega]; exact IntWalk.i64_in _ (by omega)
                    have f3 : (j : Int).toNat = j := by omega
                    have f4 : IntKind.i64.wrap (j : Int) = (j : Int) := IntWalk.i64_in _ (by omega)
                    have f5 : IntKind.i64.wrap (((j + 1 : Nat) : Int) - 1) = (j : Int) := by rw [show ((j + 1 : Nat) : Int) - 1 = (j : Int) by omega]; exact f4
                    have R0 : runsErr (some ⟨id, wk, fr, tz, en⟩) (l.drop (j + 1 + 1)) = c → ∀ wx, Below w.heap.size w wx → RunsRel l c w (.int .i64 (j + 1 + 1)) wx := by
                      refine fun hc wx hbx => ⟨j + 1 + 1, hkl2H.out, by go_num, ?_, hbx⟩
                      rw [hpnH.out]
                      exact hc
                    cases hlt3 : runLt y ⟨id, wk, fr, tz, en⟩
                    · skip
                      rw [hlt3, if_pos rfl] at hck
                      clear R0
                      have hckH := Lib.hid hck
                      clear hck
                      have hlt3H := Lib.hid hlt3
                      clear hlt3
                      go_wp2_with (go_at_call 46; refine (within_r _ _ _ _).mono ?_; rintro e wz ⟨rfl, rfl⟩)
                      go_region_held3 (fun w' => w'.cell? ⟨wr.heap.size, 0, none⟩ = some (.string id) ∧ w'.cell? ⟨wr.heap.size, 1, none⟩ = some (.string wk) ∧ w'.cell? ⟨wr.heap.size, 2, none⟩ = some (.int .i64 fr) ∧ w'.cell? ⟨wr.heap.size, 3, none⟩ = some (.int .i64 tz) ∧ w'.cell? ⟨wr.heap.size, 4, none⟩ = some (.int .i64 en) ∧ w'.cell? ⟨b, off + j * 5, none⟩ = some (.string y.id_) ∧ w'.cell? ⟨b, off + j * 5 + 1, none⟩ = some (.string y.worker) ∧ w'.cell? ⟨b, off + j * 5 + 2, none⟩ = some (.int .i64 y.from_) ∧ w'.cell? ⟨b, off + j * 5 + 3, none⟩ = some (.int .i64 y.to_) ∧ w'.cell? ⟨b, off + j * 5 + 4, none⟩ = some (.int .i64 y.end_)) (first | go_keep | exact ten_below (by assumption) (by assumption))
                        (first | (go_at_call 47; refine (before_any y ⟨id, wk, fr, tz, en⟩ _ _ (by exact hlt3H.out)).mono ?_; rintro e w3 ⟨rfl, hw3⟩))
                      go_wp2
                      go_ret
                      exact ⟨ret1_int hckH.out, hbw2H.out.drew.trans (Below.mono hw3 hbw2H.out.drew.size)⟩
                    · skip
                      rw [hlt3, if_neg (by decide)] at hck
                      have R := R0 hck
                      clear R0
                      have hckH := Lib.hid hck
                      clear hck
                      have hlt3H := Lib.hid hlt3
                      clear hlt3
                      have RH := Lib.hid R
                      clear R
                      go_wp2_with (go_at_call 46; refine (within_r _ _ _ _).mono ?_; rintro e wz ⟨rfl, rfl⟩)
                      go_region_held3 (fun w' => w'.cell? ⟨wr.heap.size, 0, none⟩ = some (.string id) ∧ w'.cell? ⟨wr.heap.size, 1, none⟩ = some (.string wk) ∧ w'.cell? ⟨wr.heap.size, 2, none⟩ = some (.int .i64 fr) ∧ w'.cell? ⟨wr.heap.size, 3, none⟩ = some (.int .i64 tz) ∧ w'.cell? ⟨wr.heap.size, 4, none⟩ = some (.int .i64 en) ∧ w'.cell? ⟨b, off + j * 5, none⟩ = some (.string y.id_) ∧ w'.cell? ⟨b, off + j * 5 + 1, none⟩ = some (.string y.worker) ∧ w'.cell? ⟨b, off + j * 5 + 2, none⟩ = some (.int .i64 y.from_) ∧ w'.cell? ⟨b, off + j * 5 + 3, none⟩ = some (.int .i64 y.to_) ∧ w'.cell? ⟨b, off + j * 5 + 4, none⟩ = some (.int .i64 y.end_)) (first | go_keep | exact ten_below (by assumption) (by assumption))
                        (first | (go_at_call 47; refine (before_any y ⟨id, wk, fr, tz, en⟩ _ _ (by exact hlt3H.out)).mono ?_; rintro e w3 ⟨rfl, hw3⟩))
                      go_wp2
                      have R3 := RH.out w3 (hbw2H.out.drew.trans (Below.mono hw3 hbw2H.out.drew.size))
                      refine ⟨?rel, ?measure⟩
                      case measure => (simp [intOf]; omega)
                      case rel => first | exact R3 | exact ⟨rfl, R3⟩ | ((try refine ⟨rfl, ?_⟩); (repeat apply Exists.intro); refine ⟨R3, ?_⟩; ((repeat' apply And.intro) <;> rfl))
                · rw [if_neg i4] at hck
                  have i4 : inR 1 3 en = false := by simpa using i4
                  have hckH := Lib.hid hck
                  clear hck
                  go_wp2_with (go_at_call 46; refine (within_r _ _ _ _).mono ?_; rintro e wz ⟨rfl, rfl⟩)
                  go_ret
                  exact ⟨ret1_int hckH.out, hbw2H.out⟩
            · rw [if_neg (fun h => i3 h.2)] at hck
              have i3 : inR 0 1000000000 tz = false := by simpa using i3
              have hckH := Lib.hid hck
              clear hck
              go_wp2_with (go_at_call 46; refine (within_r _ _ _ _).mono ?_; rintro e wz ⟨rfl, rfl⟩)
              go_ret
              exact ⟨ret1_int hckH.out, hbw2H.out⟩
          · rw [if_neg (fun h => i2 h.1)] at hck
            have i2 : inR 0 1000000000 fr = false := by simpa using i2
            have hckH := Lib.hid hck
            clear hck
            go_wp2_with (go_at_call 46; refine (within_r _ _ _ _).mono ?_; rintro e wz ⟨rfl, rfl⟩)
            go_ret
            exact ⟨ret1_int hckH.out, hbw2H.out⟩
    · have e : l.drop k = [] := List.drop_eq_nil_of_le (by have := hllH.out; omega)
      rw [e] at hck
      have hc0 : 0 = c := by rw [← hck]; unfold runsErr; rfl
      have hckH := Lib.hid hck
      clear hck
      have hbH := Lib.hid hb
      clear hb
      have eH := Lib.hid e
      clear e
      have hc0H := Lib.hid hc0
      clear hc0
      go_wp2
      go_ret
      exact ⟨ret1_int hc0H.out, hbH.out⟩

theorem rruns_any (A : Option Addr) (len cap : Nat) (l : List Run) (w : World) (hl : SlAt RRun w A len l) (c : Int) (hF : runsF l = c) :
    Calls Tryz.prog 21 #[.slice A len cap] w fun e w' => e = .returned (.int .i64 c) ∧ Below w.heap.size w w' := by
  unfold runsF at hF
  rw [hl.1] at hF
  by_cases h : len ≤ 4000
  · rw [if_pos h] at hF
    exact rruns_ok A len cap l w h hl c hF
  · rw [if_neg h] at hF
    subst hF
    clear hl
    go_enter Tryz.func21, Tryz.ntmps21
    go_wp2
    go_ret
    exact ⟨rfl, Below.refl _ _⟩
end Go.Proofs.YtpmnkhklfoknhaaGreatDoor.C9
