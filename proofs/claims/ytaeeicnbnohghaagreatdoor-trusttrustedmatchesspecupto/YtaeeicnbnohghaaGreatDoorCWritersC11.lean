/-
  CheckWriters, of the program and of the reference.
-/
import Derived.Test.YtaeeicnbnohghaaGreatDoorCWriterC11
namespace Go.Proofs.YtaeeicnbnohghaaGreatDoor.C11
open Go.RowKit
set_option linter.unusedVariables false

def WrsRel (l : List Writer) (c : Int) (w0 : World) (i : Value) (wr : World) : Prop :=
  ∃ k : Nat, k ≤ l.length ∧ i = .int .i64 k ∧ writersErr (prevWr l k) (l.drop k) = c ∧ Below w0.heap.size w0 wr

-- what lies behind the checks of the writer itself: {0} the world, hbw: Below w.heap.size w {0}

set_option maxHeartbeats 2000000 in
theorem writers_ok (A : Option Addr) (len cap : Nat) (l : List Writer) (w : World) (hlen : len ≤ 50) (hl : SlAt RWriter w A len l) (c : Int) (hF : writersErr none l = c) :
    Calls Tryz.prog 38 #[.slice A len cap] w fun e w' => e = .returned (.int .i64 c) ∧ Below w.heap.size w w' := by
  have hll := hl.1
  have hllH := Lib.hid hll
  clear hll
  have hFH := Lib.hid hF
  clear hF
  have hlH := Lib.hid hl
  clear hl
  go_enter Tryz.func38, Tryz.ntmps38
  go_wp2
  go_loopw [11] (fun i wr => WrsRel l c w i wr) (fun i _ => len - (intOf i).toNat)
  case atStart => exact ⟨0, Nat.zero_le _, rfl, hFH.out, Below.refl _ _⟩
  case round =>
    obtain ⟨k, hk, rfl, hck, hb⟩ := hrel
    have hkl : k ≤ len := by have := hllH.out; omega
    have hbs := hb.size
    by_cases hlt : k < len
    · obtain ⟨b, off, hA, _⟩ := hlH.out.2.1 (by omega)
      subst hA
      obtain ⟨x, hx⟩ : ∃ x, l[k]? = some x := ⟨l[k]'(by have := hllH.out; omega), List.getElem?_eq_getElem _⟩
      obtain ⟨c0, c1, c2, c3, c4⟩ := cells_Writer (hlH.out.below hb) hx
      have hok := hlH.out.2.2 x (List.mem_of_getElem? hx)
      rw [drop_cons hx, writersErr] at hck
      have hkl2 : k + 1 ≤ l.length := by have := hllH.out; omega
      have hpn : prevWr l (k + 1) = some x.name := by rw [prevWr, if_neg (by omega), show k + 1 - 1 = k from rfl, hx]; rfl
      obtain ⟨f, hf⟩ : ∃ f, writerF x = f := ⟨_, rfl⟩
      rw [hf] at hck
      obtain ⟨nm, se, pf, fr, tt⟩ := x
      simp only at c0 c1 c2 c3 c4 hck hpn
      have hba := hb.alloc hbs (.cells #[.string nm, .string se, .slice pf.A pf.n pf.cap, .int .i64 fr, .int .i64 tt] 68)
      have hbas := hba.size
      have hxH := Lib.hid hx
      clear hx
      have hckH := Lib.hid hck
      clear hck
      have hbH := Lib.hid hb
      clear hb
      have hbaH := Lib.hid hba
      clear hba
      have hbasH := Lib.hid hbas
      clear hbas
      have hokH := Lib.hid hok
      clear hok
      have hfH := Lib.hid hf
      clear hf
      have hpnH := Lib.hid hpn
      clear hpn
      have hkl2H := Lib.hid hkl2
      clear hkl2
      go_wp2_with fail
      refine (writer_any ⟨nm, se, pf, fr, tt⟩ _ (RWriter.mono _ _ _ hbaH.out hokH.out) f hfH.out).mono ?_
      rintro e w1 ⟨rfl, hw1⟩
      have q0 : w1.cell? ⟨wr.heap.size, 0, none⟩ = some (.string nm) := (hw1.cell (by simp)).trans (cell_new _ _ _ 0)
      have hbw := hbaH.out.trans (hw1.mono hbasH.out)
      clear c0 c1 c2 c3 c4
      have hw1H := Lib.hid hw1
      clear hw1
      have hbwH := Lib.hid hbw
      clear hbw
      have hck := hckH.out
      clear hckH
      by_cases hf0 : f = 0
      · subst hf0
        rw [if_pos rfl] at hck
        by_cases hk0 : k = 0
        · subst hk0
          have R : ∀ nq, WrsRel l c w (.int .i64 1) (w1.drewN nq) := by
            refine fun nq => ⟨1, hkl2H.out, by go_num, ?_, bel_drewN hbwH.out nq⟩
            rw [prevWr, if_pos rfl, Option.map_none, if_neg (by decide)] at hck
            rw [hpnH.out]
            exact hck
          clear hck
          have RH := Lib.hid R
          clear R
          go_wp2_with fail
          go_quiet (fail)
          go_wp2
          refine ⟨?rel, ?measure⟩
          case measure => (simp [intOf]; omega)
          case rel => first | exact (RH.out _) | exact ⟨rfl, (RH.out _)⟩ | ((try refine ⟨rfl, ?_⟩); (repeat apply Exists.intro); refine ⟨(RH.out _), ?_⟩; ((repeat' apply And.intro) <;> rfl))
        · obtain ⟨j, rfl⟩ : ∃ j, k = j + 1 := ⟨k - 1, by omega⟩
          obtain ⟨y, hy⟩ : ∃ y, l[j]? = some y := ⟨l[j]'(by have := hllH.out; omega), List.getElem?_eq_getElem _⟩
          obtain ⟨d0, _⟩ := cells_Writer (hlH.out.below hbwH.out) hy
          have hpr : prevWr l (j + 1) = some y.name := by rw [prevWr, if_neg (by omega), show j + 1 - 1 = j from rfl, hy]; rfl
          rw [hpr, Option.map_some] at hck
          clear hpr
          obtain ⟨yn, yr⟩ : ∃ yn, y.name = yn := ⟨_, rfl⟩
          rw [yr] at d0 hck
          cases hle : sle nm yn
          · have hle' : (Op.bytesLess nm.toList yn.toList || nm.toList == yn.toList) = false := hle
            rw [hle, if_neg (by decide)] at hck
            have R : ∀ nq, WrsRel l c w (.int .i64 (j + 1 + 1)) (w1.drewN nq) := by
              refine fun nq => ⟨j + 1 + 1, hkl2H.out, by go_num, ?_, bel_drewN hbwH.out nq⟩
              rw [hpnH.out]
              exact hck
            clear hck
            have hleH := Lib.hid hle
            clear hle
            have hyH := Lib.hid hy
            clear hy
            have yrH := Lib.hid yr
            clear yr
            have RH := Lib.hid R
            clear R
            go_wp2_with fail
            go_quiet (fail)
            go_wp2
            refine ⟨?rel, ?measure⟩
            case measure => (simp [intOf]; omega)
            case rel => first | exact (RH.out _) | exact ⟨rfl, (RH.out _)⟩ | ((try refine ⟨rfl, ?_⟩); (repeat apply Exists.intro); refine ⟨(RH.out _), ?_⟩; ((repeat' apply And.intro) <;> rfl))
          · have hle' : (Op.bytesLess nm.toList yn.toList || nm.toList == yn.toList) = true := hle
            rw [hle, if_pos rfl] at hck
            have hleH := Lib.hid hle
            clear hle
            have hckH := Lib.hid hck
            clear hck
            have hyH := Lib.hid hy
            clear hy
            have yrH := Lib.hid yr
            clear yr
            go_wp2_with fail
            go_quiet (fail)
            go_wp2
            go_ret
            exact ⟨ret1_int hckH.out, bel_drewN hbwH.out _⟩
      · rw [if_neg hf0] at hck
        have hf1 : (f != 0) = true := by simpa using hf0
        clear q0
        have hckH := Lib.hid hck
        clear hck
        have hf0H := Lib.hid hf0
        clear hf0
        go_wp2
        go_ret
        exact ⟨ret1_int hckH.out, hbwH.out⟩
    · have e : l.drop k = [] := List.drop_eq_nil_of_le (by have := hllH.out; omega)
      rw [e] at hck
      have hc0 : 0 = c := by rw [← hck]; unfold writersErr; rfl
      have hckH := Lib.hid hck
      clear hck
      have hbH := Lib.hid hb
      clear hb
      have eH := Lib.hid e
      clear e
      have hc0H := Lib.hid hc0
      clear hc0
      go_wp2
      go_ret
      exact ⟨ret1_int hc0H.out, hbH.out⟩
theorem writers_any (A : Option Addr) (len cap : Nat) (l : List Writer) (w : World) (hl : SlAt RWriter w A len l) (c : Int) (hF : writersF l = c) :
    Calls Tryz.prog 38 #[.slice A len cap] w fun e w' => e = .returned (.int .i64 c) ∧ Below w.heap.size w w' := by
  unfold writersF at hF
  rw [hl.1] at hF
  by_cases h : len ≤ 50
  · rw [if_pos h] at hF
    exact writers_ok A len cap l w h hl c hF
  · rw [if_neg h] at hF
    subst hF
    clear hl
    go_enter Tryz.func38, Tryz.ntmps38
    go_wp2
    go_ret
    exact ⟨rfl, Below.refl _ _⟩

set_option maxHeartbeats 4000000 in
theorem rwriters_ok (A : Option Addr) (len cap : Nat) (l : List Writer) (w : World) (hlen : len ≤ 50) (hl : SlAt RWriter w A len l) (c : Int) (hF : writersErr none l = c) :
    Calls Tryz.prog 68 #[.slice A len cap] w fun e w' => e = .returned (.int .i64 c) ∧ Below w.heap.size w w' := by
  have hll := hl.1
  have hllH := Lib.hid hll
  clear hll
  have hFH := Lib.hid hF
  clear hF
  have hlH := Lib.hid hl
  clear hl
  go_enter Tryz.func68, Tryz.ntmps68
  go_wp2
  go_loopw [11] (fun i wr => WrsRel l c w i wr) (fun i _ => len - (intOf i).toNat)
  case atStart => exact ⟨0, Nat.zero_le _, rfl, hFH.out, Below.refl _ _⟩
  case round =>
    obtain ⟨k, hk, rfl, hck, hb⟩ := hrel
    have hkl : k ≤ len := by have := hllH.out; omega
    have hbs := hb.size
    by_cases hlt : k < len
    · obtain ⟨b, off, hA, _⟩ := hlH.out.2.1 (by omega)
      subst hA
      obtain ⟨x, hx⟩ : ∃ x, l[k]? = some x := ⟨l[k]'(by have := hllH.out; omega), List.getElem?_eq_getElem _⟩
      obtain ⟨c0, c1, c2, c3, c4⟩ := cells_Writer (hlH.out.below hb) hx
      have hok := hlH.out.2.2 x (List.mem_of_getElem? hx)
      rw [drop_cons hx, writersErr] at hck
      have hkl2 : k + 1 ≤ l.length := by have := hllH.out; omega
      have hpn : prevWr l (k + 1) = some x.name := by rw [prevWr, if_neg (by omega), show k + 1 - 1 = k from rfl, hx]; rfl
      obtain ⟨nm, se, pf, fr, tt⟩ := x
      obtain ⟨o0, o1, o2, o3, o4⟩ := hok
      simp only at c0 c1 c2 c3 c4 hck hpn o0 o1 o2 o3 o4
      have o0 : nm.size ≤ maxLen := o0
      have o1 : se.size ≤ maxLen := o1
      have o2 : SlAt RStr w pf.A pf.n pf.l := o2.1
      obtain ⟨b1, hb1⟩ : ∃ b, wordB nm = b := ⟨_, rfl⟩
      obtain ⟨b2, hb2⟩ : ∃ b, secretB se = b := ⟨_, rfl⟩
      obtain ⟨f3, hf3⟩ : ∃ b, prefsF pf.l = b := ⟨_, rfl⟩
      obtain ⟨f, hf⟩ : ∃ f, writerF ⟨nm, se, pf, fr, tt⟩ = f := ⟨_, rfl⟩
      rw [hf] at hck
      unfold writerF at hf
      simp only at hf
      rw [hb1, hb2, hf3] at hf
      have hba := hb.alloc hbs (.cells #[.string nm, .string se, .slice pf.A pf.n pf.cap, .int .i64 fr, .int .i64 tt] 68)
      have hbas := hba.size
      have hxH := Lib.hid hx
      clear hx
      have hckH := Lib.hid hck
      clear hck
      have hbH := Lib.hid hb
      clear hb
      have hbaH := Lib.hid hba
      clear hba
      have hbasH := Lib.hid hbas
      clear hbas
      have hfH := Lib.hid hf
      clear hf
      have hpnH := Lib.hid hpn
      clear hpn
      have hkl2H := Lib.hid hkl2
      clear hkl2
      have o0H := Lib.hid o0
      clear o0
      have o1H := Lib.hid o1
      clear o1
      have o2H := Lib.hid o2
      clear o2
      have o3H := Lib.hid o3
      clear o3
      have o4H := Lib.hid o4
      clear o4
      have hb1H := Lib.hid hb1
      clear hb1
      have hb2H := Lib.hid hb2
      clear hb2
      have hf3H := Lib.hid hf3
      clear hf3
      go_wp2_with fail
      refine (rword_b nm _ _ o0H.out hb1H.out).mono ?_
      rintro e w1 ⟨rfl, hw1⟩
      have q0 : w1.cell? ⟨wr.heap.size, 0, none⟩ = some (.string nm) := (hw1.cell (by simp)).trans (cell_new _ _ _ 0)
      have q1 : w1.cell? ⟨wr.heap.size, 1, none⟩ = some (.string se) := (hw1.cell (by simp)).trans (cell_new _ _ _ 1)
      have q2 : w1.cell? ⟨wr.heap.size, 2, none⟩ = some (.slice pf.A pf.n pf.cap) := (hw1.cell (by simp)).trans (cell_new _ _ _ 2)
      have q3 : w1.cell? ⟨wr.heap.size, 3, none⟩ = some (.int .i64 fr) := (hw1.cell (by simp)).trans (cell_new _ _ _ 3)
      have q4 : w1.cell? ⟨wr.heap.size, 4, none⟩ = some (.int .i64 tt) := (hw1.cell (by simp)).trans (cell_new _ _ _ 4)
      have hbw1 := hbaH.out.trans (hw1.mono hbasH.out)
      have hz1 : wr.heap.size < w1.heap.size := by have := hw1.size; simp at this; omega
      clear c0 c1 c2 c3 c4
      have hw1H := Lib.hid hw1
      clear hw1
      have hbw1H := Lib.hid hbw1
      clear hbw1
      have hf := hfH.out
      clear hfH
      have hck := hckH.out
      clear hckH
      cases b1
      · rw [if_neg (by decide)] at hf
        subst hf
        rw [if_neg (by decide)] at hck
        have hckH := Lib.hid hck
        clear hck
        go_wp2
        go_ret
        exact ⟨ret1_int hckH.out, hbw1H.out⟩
      · rw [if_pos rfl] at hf
        have hckH := Lib.hid hck
        clear hck
        have hfH := Lib.hid hf
        clear hf
        go_wp2_with fail
        refine (rsecret_b se _ o1H.out _ hb2H.out).mono ?_
        rintro e w2 ⟨rfl, hw2⟩
        replace q0 := (hw2.cell (by omega)).trans q0
        replace q2 := (hw2.cell (by omega)).trans q2
        replace q3 := (hw2.cell (by omega)).trans q3
        replace q4 := (hw2.cell (by omega)).trans q4
        have hbw2 := hbw1H.out.trans (hw2.mono hbw1H.out.size)
        have hz2 : wr.heap.size < w2.heap.size := by have := hw2.size; omega
        clear q1
        have hw2H := Lib.hid hw2
        clear hw2
        have hbw2H := Lib.hid hbw2
        clear hbw2
        have hf := hfH.out
        clear hfH
        have hck := hckH.out
        clear hckH
        cases b2
        · rw [if_neg (by decide)] at hf
          subst hf
          rw [if_neg (by decide)] at hck
          have hckH := Lib.hid hck
          clear hck
          go_wp2
          go_ret
          exact ⟨ret1_int hckH.out, hbw2H.out⟩
        · rw [if_pos rfl] at hf
          have hckH := Lib.hid hck
          clear hck
          have hfH := Lib.hid hf
          clear hf
          go_wp2_with fail
          refine (prefixes_any pf.A pf.n pf.cap pf.l _ (o2H.out.below hbw2H.out) f3 hf3H.out).mono ?_
          rintro e w3 ⟨rfl, hw3⟩
          replace q0 := (hw3.cell (by omega)).trans q0
          replace q3 := (hw3.cell (by omega)).trans q3
          replace q4 := (hw3.cell (by omega)).trans q4
          have hbw := hbw2H.out.trans (hw3.mono hbw2H.out.size)
          have hz3 : wr.heap.size < w3.heap.size := by have := hw3.size; omega
          clear q2
          have hw3H := Lib.hid hw3
          clear hw3
          have hbwH := Lib.hid hbw
          clear hbw
          have hf := hfH.out
          clear hfH
          have hck := hckH.out
          clear hckH
          by_cases e3 : f3 = 0
          · subst e3
            rw [if_pos rfl] at hf
            by_cases i4 : inR 0 1000000000 fr = true
            · by_cases i5 : inR 0 1000000001 tt = true
              · rw [if_pos ⟨i4, i5⟩] at hf
                by_cases hle : tt ≤ fr
                · rw [if_pos hle] at hf
                  subst hf
                  rw [if_neg (by decide)] at hck
                  have hckH := Lib.hid hck
                  clear hck
                  go_wp2_with (go_at_call 71; refine (within_r _ _ _ _).mono ?_; rintro e wz ⟨rfl, rfl⟩)
                  go_quiet (fail)
                  go_wp2
                  go_ret
                  exact ⟨ret1_int hckH.out, bel_drewN hbwH.out _⟩
                · rw [if_neg hle] at hf
                  subst hf
                  have hle2 : decide (tt ≤ fr) = false := decide_eq_false hle
                  rw [if_pos rfl] at hck
                  have hckH := Lib.hid hck
                  clear hck
                  go_wp2_with (go_at_call 71; refine (within_r _ _ _ _).mono ?_; rintro e wz ⟨rfl, rfl⟩)
                  have hck := hckH.out
                  clear hckH
                  obtain ⟨w3, rfl⟩ : ∃ W, W = wz := ⟨_, rfl⟩
                  by_cases hk0 : k = 0
                  · subst hk0
                    have R : ∀ nq, WrsRel l c w (.int .i64 1) (w3.drewN nq) := by
                      refine fun nq => ⟨1, hkl2H.out, by go_num, ?_, bel_drewN hbwH.out nq⟩
                      rw [prevWr, if_pos rfl, Option.map_none, if_neg (by decide)] at hck
                      rw [hpnH.out]
                      exact hck
                    clear hck
                    have RH := Lib.hid R
                    clear R
                    go_wp2_with fail
                    go_quiet (fail)
                    go_wp2
                    refine ⟨?rel, ?measure⟩
                    case measure => (simp [intOf]; omega)
                    case rel => first | exact (RH.out _) | exact ⟨rfl, (RH.out _)⟩ | ((try refine ⟨rfl, ?_⟩); (repeat apply Exists.intro); refine ⟨(RH.out _), ?_⟩; ((repeat' apply And.intro) <;> rfl))
                  · obtain ⟨j, rfl⟩ : ∃ j, k = j + 1 := ⟨k - 1, by omega⟩
                    obtain ⟨y, hy⟩ : ∃ y, l[j]? = some y := ⟨l[j]'(by have := hllH.out; omega), List.getElem?_eq_getElem _⟩
                    obtain ⟨d0, _⟩ := cells_Writer (hlH.out.below hbwH.out) hy
                    have hpr : prevWr l (j + 1) = some y.name := by rw [prevWr, if_neg (by omega), show j + 1 - 1 = j from rfl, hy]; rfl
                    rw [hpr, Option.map_some] at hck
                    clear hpr
                    obtain ⟨yn, yr⟩ : ∃ yn, y.name = yn := ⟨_, rfl⟩
                    rw [yr] at d0 hck
                    cases hle : sle nm yn
                    · have hle' : (Op.bytesLess nm.toList yn.toList || nm.toList == yn.toList) = false := hle
                      rw [hle, if_neg (by decide)] at hck
                      have R : ∀ nq, WrsRel l c w (.int .i64 (j + 1 + 1)) (w3.drewN nq) := by
                        refine fun nq => ⟨j + 1 + 1, hkl2H.out, by go_num, ?_, bel_drewN hbwH.out nq⟩
                        rw [hpnH.out]
                        exact hck
                      clear hck
                      have hleH := Lib.hid hle
                      clear hle
                      have hyH := Lib.hid hy
                      clear hy
                      have yrH := Lib.hid yr
                      clear yr
                      have RH := Lib.hid R
                      clear R
                      go_wp2_with fail
                      go_quiet (fail)
                      go_wp2
                      refine ⟨?rel, ?measure⟩
                      case measure => (simp [intOf]; omega)
                      case rel => first | exact (RH.out _) | exact ⟨rfl, (RH.out _)⟩ | ((try refine ⟨rfl, ?_⟩); (repeat apply Exists.intro); refine ⟨(RH.out _), ?_⟩; ((repeat' apply And.intro) <;> rfl))
                    · have hle' : (Op.bytesLess nm.toList yn.toList || nm.toList == yn.toList) = true := hle
                      rw [hle, if_pos rfl] at hck
                      have hleH := Lib.hid hle
                      clear hle
                      have hckH := Lib.hid hck
                      clear hck
                      have hyH := Lib.hid hy
                      clear hy
                      have yrH := Lib.hid yr
                      clear yr
                      go_wp2_with fail
                      go_quiet (fail)
                      go_wp2
                      go_ret
                      exact ⟨ret1_int hckH.out, bel_drewN hbwH.out _⟩
              · rw [if_neg (fun h => i5 h.2)] at hf
                have i5 : inR 0 1000000001 tt = false := by simpa using i5
                subst hf
                rw [if_neg (by decide)] at hck
                have hckH := Lib.hid hck
                clear hck
                go_wp2_with (go_at_call 71; refine (within_r _ _ _ _).mono ?_; rintro e wz ⟨rfl, rfl⟩)
                go_ret
                exact ⟨ret1_int hckH.out, hbwH.out⟩
            · rw [if_neg (fun h => i4 h.1)] at hf
              have i4 : inR 0 1000000000 fr = false := by simpa using i4
              subst hf
              rw [if_neg (by decide)] at hck
              have hckH := Lib.hid hck
              clear hck
              go_wp2_with (go_at_call 71; refine (within_r _ _ _ _).mono ?_; rintro e wz ⟨rfl, rfl⟩)
              go_ret
              exact ⟨ret1_int hckH.out, hbwH.out⟩
          · rw [if_neg e3] at hf
            subst hf
            have e4 : (f3 != 0) = true := by simpa using e3
            rw [if_neg e3] at hck
            clear q0 q3 q4
            have hckH := Lib.hid hck
            clear hck
            go_wp2
            go_ret
            exact ⟨ret1_int hckH.out, hbwH.out⟩
    · have e : l.drop k = [] := List.drop_eq_nil_of_le (by have := hllH.out; omega)
      rw [e] at hck
      have hc0 : 0 = c := by rw [← hck]; unfold writersErr; rfl
      have hckH := Lib.hid hck
      clear hck
      have hbH := Lib.hid hb
      clear hb
      have eH := Lib.hid e
      clear e
      have hc0H := Lib.hid hc0
      clear hc0
      go_wp2
      go_ret
      exact ⟨ret1_int hc0H.out, hbH.out⟩
theorem rwriters_any (A : Option Addr) (len cap : Nat) (l : List Writer) (w : World) (hl : SlAt RWriter w A len l) (c : Int) (hF : writersF l = c) :
    Calls Tryz.prog 68 #[.slice A len cap] w fun e w' => e = .returned (.int .i64 c) ∧ Below w.heap.size w w' := by
  unfold writersF at hF
  rw [hl.1] at hF
  by_cases h : len ≤ 50
  · rw [if_pos h] at hF
    exact rwriters_ok A len cap l w h hl c hF
  · rw [if_neg h] at hF
    subst hF
    clear hl
    go_enter Tryz.func68, Tryz.ntmps68
    go_wp2
    go_ret
    exact ⟨rfl, Below.refl _ _⟩
end Go.Proofs.YtaeeicnbnohghaaGreatDoor.C11
