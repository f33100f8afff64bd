/-
  The reference's checkPairs.
-/
import Derived.Test.YtbapkhkklglbaaaDoorPairsC9
namespace Go.Proofs.YtbapkhkklglbaaaDoor.C9
open Go.RowKit
set_option linter.unusedVariables false

set_option maxHeartbeats 1000000 in
theorem rpairs_ok (A : Option Addr) (len cap : Nat) (l : List Pair) (w : World) (hlen : len ≤ 30) (hl : SlAt RPair w A len l) (c : Int) (hF : pairsErr none l = c) :
    Calls Tryd.prog 46 #[.slice A len cap] w fun e w' => e = .returned (.int .i64 c) ∧ Below w.heap.size w w' := by
  have hll := hl.1
  have hllH := Lib.hid hll
  clear hll
  have hFH := Lib.hid hF
  clear hF
  have hlH := Lib.hid hl
  clear hl
  go_enter Tryd.func46, Tryd.ntmps46
  go_wp2
  go_loopw [10] (fun i wr => PairsRel l c w i wr) (fun i _ => len - (intOf i).toNat)
  case atStart => exact ⟨0, Nat.zero_le _, rfl, hFH.out, Below.refl _ _⟩
  case round =>
    obtain ⟨k, hk, rfl, hck, hb⟩ := hrel
    have hkl : k ≤ len := by have := hllH.out; omega
    have hbs := hb.size
    by_cases hlt : k < len
    · obtain ⟨b, off, hA, _⟩ := hlH.out.2.1 (by omega)
      subst hA
      obtain ⟨x, hx⟩ : ∃ x, l[k]? = some x := ⟨l[k]'(by have := hllH.out; omega), List.getElem?_eq_getElem _⟩
      obtain ⟨c0, c1⟩ := cells_Pair (hlH.out.below hb) hx
      have hok := hlH.out.2.2 x (List.mem_of_getElem? hx)
      rw [drop_cons hx] at hck
      obtain ⟨nm, vl⟩ := x
      simp only at c0 c1
      obtain ⟨b1, hb1⟩ : ∃ b, wordB nm = b := ⟨_, rfl⟩
      obtain ⟨b2, hb2⟩ : ∃ b, wordB vl = b := ⟨_, rfl⟩
      have hba := hb.alloc hbs (.cells #[.string nm, .string vl] 80)
      have R : ∀ v, PairsRel l c w v wr → True := fun _ _ => trivial
      clear R
      have hxH := Lib.hid hx
      clear hx
      have hckH := Lib.hid hck
      clear hck
      have hbH := Lib.hid hb
      clear hb
      have hbaH := Lib.hid hba
      clear hba
      have hokH := Lib.hid hok
      clear hok
      have hb1H := Lib.hid hb1
      clear hb1
      have hb2H := Lib.hid hb2
      clear hb2
      go_wp2_with fail
      refine (rword_any nm b1 _ hokH.out.1 hb1H.out).mono ?_
      rintro e w1 ⟨rfl, rfl⟩
      cases b1
      · go_wp2
        go_ret
        refine ⟨?_, hbaH.out⟩
        have := hckH.out
        rw [pairsErr, if_neg (by rw [hb1H.out]; decide)] at this
        exact ret1_int this
      · go_wp2_with fail
        refine (rword_any vl b2 _ hokH.out.2 hb2H.out).mono ?_
        rintro e w2 ⟨rfl, rfl⟩
        cases b2
        · go_wp2
          go_ret
          refine ⟨?_, hbaH.out⟩
          have := hckH.out
          rw [pairsErr, if_pos hb1H.out, if_neg (by rw [hb2H.out]; decide)] at this
          exact ret1_int this
        · by_cases hk0 : k = 0
          · subst hk0
            have R : ∀ nq, PairsRel l c w (.int .i64 1) ((wr.alloc (.cells #[.string nm, .string vl] 80)).drewN nq) := by
              refine fun nq => ⟨1, by have := hllH.out; omega, by go_num, ?_, bel_drewN hbaH.out nq⟩
              have := hckH.out
              rw [pairsErr, if_pos hb1H.out, if_pos hb2H.out, prevName, if_pos rfl, Option.map_none, if_neg (by decide)] at this
              rw [prevName, if_neg (by decide), show l[1 - 1]? = l[0]? from rfl, hxH.out]
              exact this
            have RH := Lib.hid R
            clear R
            go_wp2_with fail
            go_quiet (fail)
            go_wp2
            refine ⟨?rel, ?measure⟩
            case measure => (simp [intOf]; omega)
            case rel => first | exact (RH.out _) | exact ⟨rfl, (RH.out _)⟩ | ((try refine ⟨rfl, ?_⟩); (repeat apply Exists.intro); refine ⟨(RH.out _), ?_⟩; ((repeat' apply And.intro) <;> rfl))
          · obtain ⟨j, rfl⟩ : ∃ j, k = j + 1 := ⟨k - 1, by omega⟩
            obtain ⟨y, hy⟩ : ∃ y, l[j]? = some y := ⟨l[j]'(by have := hllH.out; omega), List.getElem?_eq_getElem _⟩
            obtain ⟨d0, _⟩ := cells_Pair (hlH.out.below hbaH.out) hy
            obtain ⟨yn, yv⟩ := y
            simp only at d0
            have hpr : prevName l (j + 1) = some yn := by rw [prevName, if_neg (by omega), show j + 1 - 1 = j from rfl, hy]; rfl
            have hck := hckH.out
            rw [hpr, pairsErr, if_pos hb1H.out, if_pos hb2H.out, Option.map_some] at hck
            cases hle : sle nm yn
            · have hle' : (Op.bytesLess nm.toList yn.toList || nm.toList == yn.toList) = false := hle
              rw [hle, if_neg (by decide)] at hck
              have R : ∀ nq, PairsRel l c w (.int .i64 (j + 1 + 1)) ((wr.alloc (.cells #[.string nm, .string vl] 80)).drewN nq) := by
                refine fun nq => ⟨j + 1 + 1, by have := hllH.out; omega, by go_num, ?_, bel_drewN hbaH.out nq⟩
                rw [prevName, if_neg (by omega), show j + 1 + 1 - 1 = j + 1 from rfl, hxH.out]
                exact hck
              have hleH := Lib.hid hle
              clear hle
              have hckH := Lib.hid hck
              clear hck
              have hprH := Lib.hid hpr
              clear hpr
              have hyH := Lib.hid hy
              clear hy
              have RH := Lib.hid R
              clear R
              go_wp2_with fail
              go_quiet (fail)
              go_wp2
              refine ⟨?rel, ?measure⟩
              case measure => (simp [intOf]; omega)
              case rel => first | exact (RH.out _) | exact ⟨rfl, (RH.out _)⟩ | ((try refine ⟨rfl, ?_⟩); (repeat apply Exists.intro); refine ⟨(RH.out _), ?_⟩; ((repeat' apply And.intro) <;> rfl))
            · have hle' : (Op.bytesLess nm.toList yn.toList || nm.toList == yn.toList) = true := hle
              rw [hle, if_pos rfl] at hck
              have hleH := Lib.hid hle
              clear hle
              have hckH := Lib.hid hck
              clear hck
              have hprH := Lib.hid hpr
              clear hpr
              have hyH := Lib.hid hy
              clear hy
              go_wp2_with fail
              go_quiet (fail)
              go_wp2
              go_ret
              exact ⟨ret1_int hckH.out, bel_drewN hbaH.out _⟩
    · have e : l.drop k = [] := List.drop_eq_nil_of_le (by have := hllH.out; omega)
      rw [e] at hck
      have hc0 : 0 = c := by rw [← hck]; unfold pairsErr; rfl
      have hckH := Lib.hid hck
      clear hck
      have hbH := Lib.hid hb
      clear hb
      have eH := Lib.hid e
      clear e
      have hc0H := Lib.hid hc0
      clear hc0
      go_wp2
      go_ret
      exact ⟨ret1_int hc0H.out, hbH.out⟩

theorem rpairs_any (A : Option Addr) (len cap : Nat) (l : List Pair) (w : World) (hl : SlAt RPair w A len l) (c : Int) (hF : pairsF l = c) :
    Calls Tryd.prog 46 #[.slice A len cap] w fun e w' => e = .returned (.int .i64 c) ∧ Below w.heap.size w w' := by
  unfold pairsF at hF
  rw [hl.1] at hF
  by_cases h : len ≤ 30
  · rw [if_pos h] at hF
    exact rpairs_ok A len cap l w h hl c hF
  · rw [if_neg h] at hF
    subst hF
    clear hl
    go_enter Tryd.func46, Tryd.ntmps46
    go_wp2
    go_ret
    exact ⟨rfl, Below.refl _ _⟩
end Go.Proofs.YtbapkhkklglbaaaDoor.C9
