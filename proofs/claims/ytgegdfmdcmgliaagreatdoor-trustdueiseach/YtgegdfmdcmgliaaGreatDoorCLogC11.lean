/-
  CheckLog, of the program and of the reference.
-/
import Derived.Test.YtgegdfmdcmgliaaGreatDoorCClaimedC11
namespace Go.Proofs.YtgegdfmdcmgliaaGreatDoor.C11
open Go.RowKit
set_option linter.unusedVariables false

/-- the labels of a log are of the length the reference needs -/
def LblOk (l : List Claimed) : Prop := ∀ x ∈ l, x.label.size ≤ 1048576
def LgRel (l : List Claimed) (c : Int) (w0 : World) (i : Value) (wr : World) : Prop :=
  ∃ k : Nat, k ≤ l.length ∧ i = .int .i64 k ∧ logErr (prevL l k) (l.drop k) = c ∧ Below w0.heap.size w0 wr


set_option maxHeartbeats 2000000 in
theorem log_ok (A : Option Addr) (len cap : Nat) (l : List Claimed) (w : World) (hlen : len ≤ 1000) (hm : MaxLenAt w) (hl : SlAt RClaimed w A len l) (c : Int) (hF : logErr none l = c) :
    Calls Tryz.prog 29 #[.slice A len cap] w fun e w' => e = .returned (.int .i64 c) ∧ Below w.heap.size w w' := by
  have hlb : True := trivial
  have hll := hl.1
  have hllH := Lib.hid hll
  clear hll
  have hFH := Lib.hid hF
  clear hF
  have hlH := Lib.hid hl
  clear hl
  have hmH := Lib.hid hm
  clear hm
  have hlbH := Lib.hid hlb
  clear hlb
  go_enter Tryz.func29, Tryz.ntmps29
  go_wp2
  go_loopw [11] (fun i wr => LgRel l c w i wr) (fun i _ => len - (intOf i).toNat)
  case atStart => exact ⟨0, Nat.zero_le _, rfl, hFH.out, Below.refl _ _⟩
  case round =>
    obtain ⟨k, hk, rfl, hck, hb⟩ := hrel
    have hkl : k ≤ len := by have := hllH.out; omega
    have hbs := hb.size
    by_cases hlt : k < len
    · obtain ⟨b, off, hA, _⟩ := hlH.out.2.1 (by omega)
      subst hA
      obtain ⟨x, hx⟩ : ∃ x, l[k]? = some x := ⟨l[k]'(by have := hllH.out; omega), List.getElem?_eq_getElem _⟩
      obtain ⟨c0, c1, c2, c3, c4, c5, c6⟩ := cells_Claimed (hlH.out.below hb) hx
      have hok := hlH.out.2.2 x (List.mem_of_getElem? hx)
      have hlbx := True.intro
      rw [drop_cons hx, logErr] at hck
      have hkl2 : k + 1 ≤ l.length := by have := hllH.out; omega
      have hpn : prevL l (k + 1) = some x.at_ := by rw [prevL, if_neg (by omega), show k + 1 - 1 = k from rfl, hx]; rfl
      obtain ⟨f, hf⟩ : ∃ f, claimedF x = f := ⟨_, rfl⟩
      rw [hf] at hck
      obtain ⟨key, label, result, writer, at_, ⟨A, n, cp, us⟩, sign⟩ := x
      simp only at c0 c1 c2 c3 c4 c5 c6 hck hpn
      have hba := hb.alloc hbs (.cells #[.string key, .string label, .string result, .string writer, .int .i64 at_, .slice A n cp, .string sign] 51)
      have hbas := hba.size
      have hxH := Lib.hid hx
      clear hx
      have hckH := Lib.hid hck
      clear hck
      have hbH := Lib.hid hb
      clear hb
      have hbaH := Lib.hid hba
      clear hba
      have hbasH := Lib.hid hbas
      clear hbas
      have hokH := Lib.hid hok
      clear hok
      have hfH := Lib.hid hf
      clear hf
      have hpnH := Lib.hid hpn
      clear hpn
      have hkl2H := Lib.hid hkl2
      clear hkl2
      have hlbxH := Lib.hid hlbx
      clear hlbx
      go_wp2_with fail
      refine (claimed_any ⟨key, label, result, writer, at_, ⟨A, n, cp, us⟩, sign⟩ _ (hmH.out.below hbaH.out) (RClaimed.mono _ _ _ hbaH.out hokH.out) f hfH.out).mono ?_
      rintro e w1 ⟨rfl, hw1⟩
      have q4 : w1.cell? ⟨wr.heap.size, 4, none⟩ = some (.int .i64 at_) := (hw1.cell (by simp)).trans (cell_new _ _ _ 4)
      have q6 : w1.cell? ⟨wr.heap.size, 6, none⟩ = some (.string sign) := (hw1.cell (by simp)).trans (cell_new _ _ _ 6)
      have hbw := hbaH.out.trans (hw1.mono hbasH.out)
      clear c0 c1 c2 c3 c4 c5 c6
      have hw1H := Lib.hid hw1
      clear hw1
      have hbwH := Lib.hid hbw
      clear hbw
      have hck := hckH.out
      clear hckH
      by_cases hf0 : f = 0
      · subst hf0
        rw [if_pos rfl] at hck
        obtain ⟨e0, he0⟩ : ∃ e0, (sign.toList == []) = e0 := ⟨_, rfl⟩
        rw [he0] at hck
        cases e0
        · rw [if_neg (by decide)] at hck
          by_cases hk0 : k = 0
          · subst hk0
            have R : ∀ nq, LgRel l c w (.int .i64 1) (w1.drewN nq) := by
              refine fun nq => ⟨1, hkl2H.out, by go_num, ?_, bel_drewN hbwH.out nq⟩
              rw [prevL, if_pos rfl, Option.map_none, if_neg (by decide)] at hck
              rw [hpnH.out]
              exact hck
            clear hck
            have RH := Lib.hid R
            clear R
            go_wp2_with fail
            go_quiet (fail)
            go_wp2
            refine ⟨?rel, ?measure⟩
            case measure => (simp [intOf]; omega)
            case rel => first | exact (RH.out _) | exact ⟨rfl, (RH.out _)⟩ | ((try refine ⟨rfl, ?_⟩); (repeat apply Exists.intro); refine ⟨(RH.out _), ?_⟩; ((repeat' apply And.intro) <;> rfl))
          · obtain ⟨j, rfl⟩ : ∃ j, k = j + 1 := ⟨k - 1, by omega⟩
            obtain ⟨y, hy⟩ : ∃ y, l[j]? = some y := ⟨l[j]'(by have := hllH.out; omega), List.getElem?_eq_getElem _⟩
            obtain ⟨_, _, _, _, d4, _, _⟩ := cells_Claimed (hlH.out.below hbwH.out) hy
            have hpr : prevL l (j + 1) = some y.at_ := by rw [prevL, if_neg (by omega), show j + 1 - 1 = j from rfl, hy]; rfl
            rw [hpr, Option.map_some] at hck
            clear hpr
            obtain ⟨ya, yr⟩ : ∃ ya, y.at_ = ya := ⟨_, rfl⟩
            rw [yr] at d4 hck
            by_cases hle : at_ < ya
            · rw [decide_eq_true hle, if_pos rfl] at hck
              have hckH := Lib.hid hck
              clear hck
              have hyH := Lib.hid hy
              clear hy
              have yrH := Lib.hid yr
              clear yr
              go_wp2_with fail
              go_quiet (fail)
              go_wp2
              go_ret
              exact ⟨ret1_int hckH.out, bel_drewN hbwH.out _⟩
            · rw [decide_eq_false hle, if_neg (by decide)] at hck
              have hle2 : decide (at_ < ya) = false := decide_eq_false hle
              have R : ∀ nq, LgRel l c w (.int .i64 (j + 1 + 1)) (w1.drewN nq) := by
                refine fun nq => ⟨j + 1 + 1, hkl2H.out, by go_num, ?_, bel_drewN hbwH.out nq⟩
                rw [hpnH.out]
                exact hck
              clear hck
              have hyH := Lib.hid hy
              clear hy
              have yrH := Lib.hid yr
              clear yr
              have RH := Lib.hid R
              clear R
              go_wp2_with fail
              go_quiet (fail)
              go_wp2
              refine ⟨?rel, ?measure⟩
              case measure => (simp [intOf]; omega)
              case rel => first | exact (RH.out _) | exact ⟨rfl, (RH.out _)⟩ | ((try refine ⟨rfl, ?_⟩); (repeat apply Exists.intro); refine ⟨(RH.out _), ?_⟩; ((repeat' apply And.intro) <;> rfl))
        · rw [if_pos rfl] at hck
          clear q4
          have hckH := Lib.hid hck
          clear hck
          go_wp2_with fail
          go_ret
          exact ⟨ret1_int hckH.out, hbwH.out⟩
      · rw [if_neg hf0] at hck
        have hf1 : (f != 0) = true := by simpa using hf0
        clear q4 q6
        have hckH := Lib.hid hck
        clear hck
        have hf0H := Lib.hid hf0
        clear hf0
        go_wp2
        go_ret
        exact ⟨ret1_int hckH.out, hbwH.out⟩
    · have e : l.drop k = [] := List.drop_eq_nil_of_le (by have := hllH.out; omega)
      rw [e] at hck
      have hc0 : 0 = c := by rw [← hck]; unfold logErr; rfl
      have hckH := Lib.hid hck
      clear hck
      have hbH := Lib.hid hb
      clear hb
      have eH := Lib.hid e
      clear e
      have hc0H := Lib.hid hc0
      clear hc0
      go_wp2
      go_ret
      exact ⟨ret1_int hc0H.out, hbH.out⟩
theorem log_any (A : Option Addr) (len cap : Nat) (l : List Claimed) (w : World) (hm : MaxLenAt w) (hl : SlAt RClaimed w A len l) (c : Int) (hF : logF l = c) :
    Calls Tryz.prog 29 #[.slice A len cap] w fun e w' => e = .returned (.int .i64 c) ∧ Below w.heap.size w w' := by
  unfold logF at hF
  rw [hl.1] at hF
  by_cases h : len ≤ 1000
  · rw [if_pos h] at hF
    exact log_ok A len cap l w h hm hl c hF
  · rw [if_neg h] at hF
    subst hF
    clear hl
    go_enter Tryz.func29, Tryz.ntmps29
    go_wp2
    go_ret
    exact ⟨rfl, Below.refl _ _⟩
set_option maxHeartbeats 2000000 in
theorem rlog_ok (A : Option Addr) (len cap : Nat) (l : List Claimed) (w : World) (hlen : len ≤ 1000) (hm : MaxLenAt w) (hlb : LblOk l) (hl : SlAt RClaimed w A len l) (c : Int) (hF : logErr none l = c) :
    Calls Tryz.prog 31 #[.slice A len cap] w fun e w' => e = .returned (.int .i64 c) ∧ Below w.heap.size w w' := by
  have hll := hl.1
  have hllH := Lib.hid hll
  clear hll
  have hFH := Lib.hid hF
  clear hF
  have hlH := Lib.hid hl
  clear hl
  have hmH := Lib.hid hm
  clear hm
  have hlbH := Lib.hid hlb
  clear hlb
  go_enter Tryz.func31, Tryz.ntmps31
  go_wp2
  go_loopw [11] (fun i wr => LgRel l c w i wr) (fun i _ => len - (intOf i).toNat)
  case atStart => exact ⟨0, Nat.zero_le _, rfl, hFH.out, Below.refl _ _⟩
  case round =>
    obtain ⟨k, hk, rfl, hck, hb⟩ := hrel
    have hkl : k ≤ len := by have := hllH.out; omega
    have hbs := hb.size
    by_cases hlt : k < len
    · obtain ⟨b, off, hA, _⟩ := hlH.out.2.1 (by omega)
      subst hA
      obtain ⟨x, hx⟩ : ∃ x, l[k]? = some x := ⟨l[k]'(by have := hllH.out; omega), List.getElem?_eq_getElem _⟩
      obtain ⟨c0, c1, c2, c3, c4, c5, c6⟩ := cells_Claimed (hlH.out.below hb) hx
      have hok := hlH.out.2.2 x (List.mem_of_getElem? hx)
      have hlbx := hlbH.out _ (List.mem_of_getElem? hx)
      rw [drop_cons hx, logErr] at hck
      have hkl2 : k + 1 ≤ l.length := by have := hllH.out; omega
      have hpn : prevL l (k + 1) = some x.at_ := by rw [prevL, if_neg (by omega), show k + 1 - 1 = k from rfl, hx]; rfl
      obtain ⟨f, hf⟩ : ∃ f, claimedF x = f := ⟨_, rfl⟩
      rw [hf] at hck
      obtain ⟨key, label, result, writer, at_, ⟨A, n, cp, us⟩, sign⟩ := x
      simp only at c0 c1 c2 c3 c4 c5 c6 hck hpn
      have hba := hb.alloc hbs (.cells #[.string key, .string label, .string result, .string writer, .int .i64 at_, .slice A n cp, .string sign] 51)
      have hbas := hba.size
      have hxH := Lib.hid hx
      clear hx
      have hckH := Lib.hid hck
      clear hck
      have hbH := Lib.hid hb
      clear hb
      have hbaH := Lib.hid hba
      clear hba
      have hbasH := Lib.hid hbas
      clear hbas
      have hokH := Lib.hid hok
      clear hok
      have hfH := Lib.hid hf
      clear hf
      have hpnH := Lib.hid hpn
      clear hpn
      have hkl2H := Lib.hid hkl2
      clear hkl2
      have hlbxH := Lib.hid hlbx
      clear hlbx
      go_wp2_with fail
      refine (rclaimed_any ⟨key, label, result, writer, at_, ⟨A, n, cp, us⟩, sign⟩ _ (hmH.out.below hbaH.out) hlbxH.out (RClaimed.mono _ _ _ hbaH.out hokH.out) f hfH.out).mono ?_
      rintro e w1 ⟨rfl, hw1⟩
      have q4 : w1.cell? ⟨wr.heap.size, 4, none⟩ = some (.int .i64 at_) := (hw1.cell (by simp)).trans (cell_new _ _ _ 4)
      have q6 : w1.cell? ⟨wr.heap.size, 6, none⟩ = some (.string sign) := (hw1.cell (by simp)).trans (cell_new _ _ _ 6)
      have hbw := hbaH.out.trans (hw1.mono hbasH.out)
      clear c0 c1 c2 c3 c4 c5 c6
      have hw1H := Lib.hid hw1
      clear hw1
      have hbwH := Lib.hid hbw
      clear hbw
      have hck := hckH.out
      clear hckH
      by_cases hf0 : f = 0
      · subst hf0
        rw [if_pos rfl] at hck
        obtain ⟨e0, he0⟩ : ∃ e0, (sign.toList == []) = e0 := ⟨_, rfl⟩
        rw [he0] at hck
        cases e0
        · rw [if_neg (by decide)] at hck
          by_cases hk0 : k = 0
          · subst hk0
            have R : ∀ nq, LgRel l c w (.int .i64 1) (w1.drewN nq) := by
              refine fun nq => ⟨1, hkl2H.out, by go_num, ?_, bel_drewN hbwH.out nq⟩
              rw [prevL, if_pos rfl, Option.map_none, if_neg (by decide)] at hck
              rw [hpnH.out]
              exact hck
            clear hck
            have RH := Lib.hid R
            clear R
            go_wp2_with fail
            go_quiet (fail)
            go_wp2
            refine ⟨?rel, ?measure⟩
            case measure => (simp [intOf]; omega)
            case rel => first | exact (RH.out _) | exact ⟨rfl, (RH.out _)⟩ | ((try refine ⟨rfl, ?_⟩); (repeat apply Exists.intro); refine ⟨(RH.out _), ?_⟩; ((repeat' apply And.intro) <;> rfl))
          · obtain ⟨j, rfl⟩ : ∃ j, k = j + 1 := ⟨k - 1, by omega⟩
            obtain ⟨y, hy⟩ : ∃ y, l[j]? = some y := ⟨l[j]'(by have := hllH.out; omega), List.getElem?_eq_getElem _⟩
            obtain ⟨_, _, _, _, d4, _, _⟩ := cells_Claimed (hlH.out.below hbwH.out) hy
            have hpr : prevL l (j + 1) = some y.at_ := by rw [prevL, if_neg (by omega), show j + 1 - 1 = j from rfl, hy]; rfl
            rw [hpr, Option.map_some] at hck
            clear hpr
            obtain ⟨ya, yr⟩ : ∃ ya, y.at_ = ya := ⟨_, rfl⟩
            rw [yr] at d4 hck
            by_cases hle : at_ < ya
            · rw [decide_eq_true hle, if_pos rfl] at hck
              have hckH := Lib.hid hck
              clear hck
              have hyH := Lib.hid hy
              clear hy
              have yrH := Lib.hid yr
              clear yr
              go_wp2_with fail
              go_quiet (fail)
              go_wp2
              go_ret
              exact ⟨ret1_int hckH.out, bel_drewN hbwH.out _⟩
            · rw [decide_eq_false hle, if_neg (by decide)] at hck
              have hle2 : decide (at_ < ya) = false := decide_eq_false hle
              have R : ∀ nq, LgRel l c w (.int .i64 (j + 1 + 1)) (w1.drewN nq) := by
                refine fun nq => ⟨j + 1 + 1, hkl2H.out, by go_num, ?_, bel_drewN hbwH.out nq⟩
                rw [hpnH.out]
                exact hck
              clear hck
              have hyH := Lib.hid hy
              clear hy
              have yrH := Lib.hid yr
              clear yr
              have RH := Lib.hid R
              clear R
              go_wp2_with fail
              go_quiet (fail)
              go_wp2
              refine ⟨?rel, ?measure⟩
              case measure => (simp [intOf]; omega)
              case rel => first | exact (RH.out _) | exact ⟨rfl, (RH.out _)⟩ | ((try refine ⟨rfl, ?_⟩); (repeat apply Exists.intro); refine ⟨(RH.out _), ?_⟩; ((repeat' apply And.intro) <;> rfl))
        · rw [if_pos rfl] at hck
          clear q4
          have hckH := Lib.hid hck
          clear hck
          go_wp2_with fail
          go_ret
          exact ⟨ret1_int hckH.out, hbwH.out⟩
      · rw [if_neg hf0] at hck
        have hf1 : (f != 0) = true := by simpa using hf0
        clear q4 q6
        have hckH := Lib.hid hck
        clear hck
        have hf0H := Lib.hid hf0
        clear hf0
        go_wp2
        go_ret
        exact ⟨ret1_int hckH.out, hbwH.out⟩
    · have e : l.drop k = [] := List.drop_eq_nil_of_le (by have := hllH.out; omega)
      rw [e] at hck
      have hc0 : 0 = c := by rw [← hck]; unfold logErr; rfl
      have hckH := Lib.hid hck
      clear hck
      have hbH := Lib.hid hb
      clear hb
      have eH := Lib.hid e
      clear e
      have hc0H := Lib.hid hc0
      clear hc0
      go_wp2
      go_ret
      exact ⟨ret1_int hc0H.out, hbH.out⟩
theorem rlog_any (A : Option Addr) (len cap : Nat) (l : List Claimed) (w : World) (hm : MaxLenAt w) (hlb : LblOk l) (hl : SlAt RClaimed w A len l) (c : Int) (hF : logF l = c) :
    Calls Tryz.prog 31 #[.slice A len cap] w fun e w' => e = .returned (.int .i64 c) ∧ Below w.heap.size w w' := by
  unfold logF at hF
  rw [hl.1] at hF
  by_cases h : len ≤ 1000
  · rw [if_pos h] at hF
    exact rlog_ok A len cap l w h hm hlb hl c hF
  · rw [if_neg h] at hF
    subst hF
    clear hl
    go_enter Tryz.func31, Tryz.ntmps31
    go_wp2
    go_ret
    exact ⟨rfl, Below.refl _ _⟩
end Go.Proofs.YtgegdfmdcmgliaaGreatDoor.C11
