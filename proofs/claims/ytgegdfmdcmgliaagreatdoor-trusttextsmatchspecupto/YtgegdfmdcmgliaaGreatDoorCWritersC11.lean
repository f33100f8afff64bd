/-
  CheckWriters, of the program and of the reference.
-/
import Derived.Test.YtgegdfmdcmgliaaGreatDoorCWriterC11
namespace Go.Proofs.YtgegdfmdcmgliaaGreatDoor.C11
open Go.RowKit
set_option linter.unusedVariables false

def WrsRel (l : List Writer) (c : Int) (w0 : World) (i : Value) (wr : World) : Prop :=
  ∃ k : Nat, k ≤ l.length ∧ i = .int .i64 k ∧ writersErr (prevWr l k) (l.drop k) = c ∧ Below w0.heap.size w0 wr

-- what lies behind the checks of the writer itself: {0} the world, hbw: Below w.heap.size w {0}

set_option maxHeartbeats 2000000 in
theorem writers_ok (A : Option Addr) (len cap : Nat) (l : List Writer) (w : World) (hlen : len ≤ 50) (hl : SlAt RWriter w A len l) (c : Int) (hF : writersErr none l = c) :
    Calls Tryz.prog 48 #[.slice A len cap] w fun e w' => e = .returned (.int .i64 c) ∧ Below w.heap.size w w' := by
  have hll := hl.1
  have hllH := Lib.hid hll
  clear hll
  have hFH := Lib.hid hF
  clear hF
  have hlH := Lib.hid hl
  clear hl
  go_enter Tryz.func48, Tryz.ntmps48
  go_wp2
  go_loopw [11] (fun i wr => WrsRel l c w i wr) (fun i _ => len - (intOf i).toNat)
  case atStart => exact ⟨0, Nat.zero_le _, rfl, hFH.out, Below.refl _ _⟩
  case round =>
    obtain ⟨k, hk, rfl, hck, hb⟩ := hrel
    have hkl : k ≤ len := by have := hllH.out; omega
    have hbs := hb.size
    by_cases hlt : k < len
    · obtain ⟨b, off, hA, _⟩ := hlH.out.2.1 (by omega)
      subst hA
      obtain ⟨x, hx⟩ : ∃ x, l[k]? = some x := ⟨l[k]'(by have := hllH.out; omega), List.getElem?_eq_getElem _⟩
      obtain ⟨c0, c1, c2, c3, c4⟩ := cells_Writer (hlH.out.below hb) hx
      have hok := hlH.out.2.2 x (List.mem_of_getElem? hx)
      rw [drop_cons hx, writersErr] at hck
      have hkl2 : k + 1 ≤ l.length := by have := hllH.out; omega
      have hpn : prevWr l (k + 1) = some x.name := by rw [prevWr, if_neg (by omega), show k + 1 - 1 = k from rfl, hx]; rfl
      obtain ⟨f, hf⟩ : ∃ f, writerF x = f := ⟨_, rfl⟩
      rw [hf] at hck
      obtain ⟨nm, se, pf, fr, tt⟩ := x
      simp only at c0 c1 c2 c3 c4 hck hpn
      have hba := hb.alloc hbs (.cells #[.string nm, .string se, .slice pf.A pf.n pf.cap, .int .i64 fr, .int .i64 tt] 55)
      have hbas := hba.size
      have hxH := Lib.hid hx
      clear hx
      have hckH := Lib.hid hck
      clear hck
      have hbH := Lib.hid hb
      clear hb
      have hbaH := Lib.hid hba
      clear hba
      have hbasH := Lib.hid hbas
      clear hbas
      have hokH := Lib.hid hok
      clear hok
      have hfH := Lib.hid hf
      clear hf
      have hpnH := Lib.hid hpn
      clear hpn
      have hkl2H := Lib.hid hkl2
      clear hkl2
      go_wp2_with fail
      refine (writer_any ⟨nm, se, pf, fr, tt⟩ _ (RWriter.mono _ _ _ hbaH.out hokH.out) f hfH.out).mono ?_
      rintro e w1 ⟨rfl, hw1⟩
      have q0 : w1.cell? ⟨wr.heap.size, 0, none⟩ = some (.string nm) := (hw1.cell (by simp)).trans (cell_new _ _ _ 0)
      have hbw := hbaH.out.trans (hw1.mono hbasH.out)
      clear c0 c1 c2 c3 c4
      have hw1H := Lib.hid hw1
      clear hw1
      have hbwH := Lib.hid hbw
      clear hbw
      have hck := hckH.out
      clear hckH
      by_cases hf0 : f = 0
      · subst hf0
        rw [if_pos rfl] at hck
        by_cases hk0 : k = 0
        · subst hk0
          have R : ∀ nq, WrsRel l c w (.int .i64 1) (w1.drewN nq) := by
            refine fun nq => ⟨1, hkl2H.out, by go_num, ?_, bel_drewN hbwH.out nq⟩
            rw [prevWr, if_pos rfl, Option.map_none, if_neg (by decide)] at hck
            rw [hpnH.out]
            exact hck
          clear hck
          have RH := Lib.hid R
          clear R
          go_wp2_with fail
          go_quiet (fail)
          go_wp2
          refine ⟨?rel, ?measure⟩
          case measure => (simp [intOf]; omega)
          case rel => first | exact (RH.out _) | exact ⟨rfl, (RH.out _)⟩ | ((try refine ⟨rfl, ?_⟩); (repeat apply Exists.intro); refine ⟨(RH.out _), ?_⟩; ((repeat' apply And.intro) <;> rfl))
        · obtain ⟨j, rfl⟩ : ∃ j, k = j + 1 := ⟨k - 1, by omega⟩
          obtain ⟨y, hy⟩ : ∃ y, l[j]? = some y := ⟨l[j]'(by have := hllH.out; omega), List.getElem?_eq_getElem _⟩
          obtain ⟨d0, _⟩ := cells_Writer (hlH.out.below hbwH.out) hy
          have hpr : prevWr l (j + 1) = some y.name := by rw [prevWr, if_neg (by omega), show j + 1 - 1 = j from rfl, hy]; rfl
          rw [hpr, Option.map_some] at hck
          clear hpr
          obtain ⟨yn, yr⟩ : ∃ yn, y.name = yn := ⟨_, rfl⟩
          rw [yr] at d0 hck
          cases hle : sle nm yn
          · have hle' : (Op.bytesLess nm.toList yn.toList || nm.toList == yn.toList) = false := hle
            rw [hle, if_neg (by decide)] at hck
            have R : ∀ nq, WrsRel l c w (.int .i64 (j + 1 + 1)) (w1.drewN nq) := by
              refine fun nq => ⟨j + 1 + 1, hkl2H.out, by go_num, ?_, bel_drewN hbwH.out nq⟩
              rw [hpnH.out]
              exact hck
            clear hck
            have hleH := Lib.hid hle
            clear hle
            have hyH := Lib.hid hy
            clear hy
            have yrH := Lib.hid yr
            clear yr
            have RH := Lib.hid R
            clear R
            go_wp2_with fail
            go_quiet (fail)
            go_wp2
            refine ⟨?rel, ?measure⟩
            case measure => (simp [intOf]; omega)
            case rel => first | exact (RH.out _) | exact ⟨rfl, (RH.out _)⟩ | ((try refine ⟨rfl, ?_⟩); (repeat apply Exists.intro); refine ⟨(RH.out _), ?_⟩; ((repeat' apply And.intro) <;> rfl))
          · have hle' : (Op.bytesLess nm.toList yn.toList || nm.toList == yn.toList) = true := hle
            rw [hle, if_pos rfl] at hck
            have hleH := Lib.hid hle
            clear hle
            have hckH := Lib.hid hck
            clear hck
            have hyH := Lib.hid hy
            clear hy
            have yrH := Lib.hid yr
            clear yr
            go_wp2_with fail
            go_quiet (fail)
            go_wp2
            go_ret
            exact ⟨ret1_int hckH.out, bel_drewN hbwH.out _⟩
      · rw [if_neg hf0] at hck
        have hf1 : (f != 0) = true := by simpa using hf0
        clear q0
        have hckH := Lib.hid hck
        clear hck
        have hf0H := Lib.hid hf0
        clear hf0
        go_wp2
        go_ret
        exact ⟨ret1_int hckH.out, hbwH.out⟩
    · have e : l.drop k = [] := List.drop_eq_nil_of_le (by have := hllH.out; omega)
      rw [e] at hck
      have hc0 : 0 = c := by rw [← hck]; unfold writersErr; rfl
      have hckH := Lib.hid hck
      clear hck
      have hbH := Lib.hid hb
      clear hb
      have eH := Lib.hid e
      clear e
      have hc0H := Lib.hid hc0
      clear hc0
      go_wp2
      go_ret
      exact ⟨ret1_int hc0H.out, hbH.out⟩
theorem writers_any (A : Option Addr) (len cap : Nat) (l : List Writer) (w : World) (hl : SlAt RWriter w A len l) (c : Int) (hF : writersF l = c) :
    Calls Tryz.prog 48 #[.slice A len cap] w fun e w' => e = .returned (.int .i64 c) ∧ Below w.heap.size w w' := by
  unfold writersF at hF
  rw [hl.1] at hF
  by_cases h : len ≤ 50
  · rw [if_pos h] at hF
    exact writers_ok A len cap l w h hl c hF
  · rw [if_neg h] at hF
    subst hF
    clear hl
    go_enter Tryz.func48, Tryz.ntmps48
    go_wp2
    go_ret
    exact ⟨rfl, Below.refl _ _⟩

end Go.Proofs.YtgegdfmdcmgliaaGreatDoor.C11
