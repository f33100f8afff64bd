/-
  checkEach of the program, checkAll of the reference: results by themselves.
-/
import Derived.Test.YtgegdfmdcmgliaaGreatDoorCClaimedC11
namespace Go.Proofs.YtgegdfmdcmgliaaGreatDoor.C11
open Go.RowKit
set_option linter.unusedVariables false

def eachErr : List Claimed → Int
  | [] => 0
  | x :: r => if claimedF x = 0 then eachErr r else claimedF x
def eachF (l : List Claimed) : Int := if l.length ≤ 1000 then eachErr l else 2
def LblBig (l : List Claimed) : Prop := ∀ x ∈ l, x.label.size ≤ 2000000
theorem eachErr_zero : ∀ {l : List Claimed}, eachErr l = 0 → ∀ x ∈ l, claimedF x = 0
  | [], _, x, hx => by cases hx
  | y :: r, h, x, hx => by
    rw [eachErr] at h
    by_cases h0 : claimedF y = 0
    · rw [if_pos h0] at h
      rcases List.mem_cons.1 hx with rfl | hx
      · exact h0
      · exact eachErr_zero h x hx
    · rw [if_neg h0] at h; exact absurd h h0
theorem eachF_zero {l : List Claimed} (h : eachF l = 0) : l.length ≤ 1000 ∧ ∀ x ∈ l, claimedF x = 0 := by
  unfold eachF at h
  split at h
  · rename_i h1; exact ⟨h1, eachErr_zero h⟩
  · cases h
def EcRel (l : List Claimed) (c : Int) (w0 : World) (i : Value) (wr : World) : Prop :=
  ∃ k : Nat, k ≤ l.length ∧ i = .int .i64 k ∧ eachErr (l.drop k) = c ∧ Below w0.heap.size w0 wr


set_option maxHeartbeats 2000000 in
theorem each_ok (A : Option Addr) (len cap : Nat) (l : List Claimed) (w : World) (hlen : len ≤ 1000) (hm : MaxLenAt w) (hl : SlAt RClaimed w A len l) (c : Int) (hF : eachErr l = c) :
    Calls Tryz.prog 36 #[.slice A len cap] w fun e w' => e = .returned (.int .i64 c) ∧ Below w.heap.size w w' := by
  have hlb : True := trivial
  have hll := hl.1
  have hllH := Lib.hid hll
  clear hll
  have hFH := Lib.hid hF
  clear hF
  have hlH := Lib.hid hl
  clear hl
  have hmH := Lib.hid hm
  clear hm
  have hlbH := Lib.hid hlb
  clear hlb
  go_enter Tryz.func36, Tryz.ntmps36
  go_wp2
  go_loopw [11] (fun i wr => EcRel l c w i wr) (fun i _ => len - (intOf i).toNat)
  case atStart => exact ⟨0, Nat.zero_le _, rfl, hFH.out, Below.refl _ _⟩
  case round =>
    obtain ⟨k, hk, rfl, hck, hb⟩ := hrel
    have hkl : k ≤ len := by have := hllH.out; omega
    have hbs := hb.size
    by_cases hlt : k < len
    · obtain ⟨b, off, hA, _⟩ := hlH.out.2.1 (by omega)
      subst hA
      obtain ⟨x, hx⟩ : ∃ x, l[k]? = some x := ⟨l[k]'(by have := hllH.out; omega), List.getElem?_eq_getElem _⟩
      obtain ⟨c0, c1, c2, c3, c4, c5, c6⟩ := cells_Claimed (hlH.out.below hb) hx
      have hok := hlH.out.2.2 x (List.mem_of_getElem? hx)
      have hlbx := True.intro
      rw [drop_cons hx, eachErr] at hck
      have hkl2 : k + 1 ≤ l.length := by have := hllH.out; omega
      obtain ⟨f, hf⟩ : ∃ f, claimedF x = f := ⟨_, rfl⟩
      rw [hf] at hck
      obtain ⟨key, label, result, writer, at_, ⟨A, n, cp, us⟩, sign⟩ := x
      simp only at c0 c1 c2 c3 c4 c5 c6 hck
      have hba := hb.alloc hbs (.cells #[.string key, .string label, .string result, .string writer, .int .i64 at_, .slice A n cp, .string sign] 51)
      have hbas := hba.size
      have hxH := Lib.hid hx
      clear hx
      have hckH := Lib.hid hck
      clear hck
      have hbH := Lib.hid hb
      clear hb
      have hbaH := Lib.hid hba
      clear hba
      have hbasH := Lib.hid hbas
      clear hbas
      have hokH := Lib.hid hok
      clear hok
      have hfH := Lib.hid hf
      clear hf
      have hkl2H := Lib.hid hkl2
      clear hkl2
      have hlbxH := Lib.hid hlbx
      clear hlbx
      go_wp2_with fail
      refine (claimed_any ⟨key, label, result, writer, at_, ⟨A, n, cp, us⟩, sign⟩ _ (hmH.out.below hbaH.out) (RClaimed.mono _ _ _ hbaH.out hokH.out) f hfH.out).mono ?_
      rintro e w1 ⟨rfl, hw1⟩
      have hbw := hbaH.out.trans (hw1.mono hbasH.out)
      clear c0 c1 c2 c3 c4 c5 c6
      have hw1H := Lib.hid hw1
      clear hw1
      have hbwH := Lib.hid hbw
      clear hbw
      have hck := hckH.out
      clear hckH
      by_cases hf0 : f = 0
      · subst hf0
        rw [if_pos rfl] at hck
        have R : EcRel l c w (.int .i64 (k + 1)) w1 := ⟨k + 1, hkl2H.out, by go_num, hck, hbwH.out⟩
        clear hck
        have RH := Lib.hid R
        clear R
        go_wp2
        refine ⟨?rel, ?measure⟩
        case measure => (simp [intOf]; omega)
        case rel => first | exact RH.out | exact ⟨rfl, RH.out⟩ | ((try refine ⟨rfl, ?_⟩); (repeat apply Exists.intro); refine ⟨RH.out, ?_⟩; ((repeat' apply And.intro) <;> rfl))
      · rw [if_neg hf0] at hck
        have hf1 : (f != 0) = true := by simpa using hf0
        have hckH := Lib.hid hck
        clear hck
        have hf0H := Lib.hid hf0
        clear hf0
        go_wp2
        go_ret
        exact ⟨ret1_int hckH.out, hbwH.out⟩
    · have e : l.drop k = [] := List.drop_eq_nil_of_le (by have := hllH.out; omega)
      rw [e] at hck
      have hc0 : 0 = c := by rw [← hck]; unfold eachErr; rfl
      have hckH := Lib.hid hck
      clear hck
      have hbH := Lib.hid hb
      clear hb
      have eH := Lib.hid e
      clear e
      have hc0H := Lib.hid hc0
      clear hc0
      go_wp2
      go_ret
      exact ⟨ret1_int hc0H.out, hbH.out⟩
theorem each_any (A : Option Addr) (len cap : Nat) (l : List Claimed) (w : World) (hm : MaxLenAt w) (hl : SlAt RClaimed w A len l) (c : Int) (hF : eachF l = c) :
    Calls Tryz.prog 36 #[.slice A len cap] w fun e w' => e = .returned (.int .i64 c) ∧ Below w.heap.size w w' := by
  unfold eachF at hF
  rw [hl.1] at hF
  by_cases h : len ≤ 1000
  · rw [if_pos h] at hF
    exact each_ok A len cap l w h hm hl c hF
  · rw [if_neg h] at hF
    subst hF
    clear hl
    go_enter Tryz.func36, Tryz.ntmps36
    go_wp2
    go_ret
    exact ⟨rfl, Below.refl _ _⟩
set_option maxHeartbeats 2000000 in
theorem reach_ok (A : Option Addr) (len cap : Nat) (l : List Claimed) (w : World) (hlen : len ≤ 1000) (hm : MaxLenAt w) (hlb : LblBig l) (hl : SlAt RClaimed w A len l) (c : Int) (hF : eachErr l = c) :
    Calls Tryz.prog 38 #[.slice A len cap] w fun e w' => e = .returned (.int .i64 c) ∧ Below w.heap.size w w' := by
  have hll := hl.1
  have hllH := Lib.hid hll
  clear hll
  have hFH := Lib.hid hF
  clear hF
  have hlH := Lib.hid hl
  clear hl
  have hmH := Lib.hid hm
  clear hm
  have hlbH := Lib.hid hlb
  clear hlb
  go_enter Tryz.func38, Tryz.ntmps38
  go_wp2
  go_loopw [11] (fun i wr => EcRel l c w i wr) (fun i _ => len - (intOf i).toNat)
  case atStart => exact ⟨0, Nat.zero_le _, rfl, hFH.out, Below.refl _ _⟩
  case round =>
    obtain ⟨k, hk, rfl, hck, hb⟩ := hrel
    have hkl : k ≤ len := by have := hllH.out; omega
    have hbs := hb.size
    by_cases hlt : k < len
    · obtain ⟨b, off, hA, _⟩ := hlH.out.2.1 (by omega)
      subst hA
      obtain ⟨x, hx⟩ : ∃ x, l[k]? = some x := ⟨l[k]'(by have := hllH.out; omega), List.getElem?_eq_getElem _⟩
      obtain ⟨c0, c1, c2, c3, c4, c5, c6⟩ := cells_Claimed (hlH.out.below hb) hx
      have hok := hlH.out.2.2 x (List.mem_of_getElem? hx)
      have hlbx := hlbH.out _ (List.mem_of_getElem? hx)
      rw [drop_cons hx, eachErr] at hck
      have hkl2 : k + 1 ≤ l.length := by have := hllH.out; omega
      obtain ⟨f, hf⟩ : ∃ f, claimedF x = f := ⟨_, rfl⟩
      rw [hf] at hck
      obtain ⟨key, label, result, writer, at_, ⟨A, n, cp, us⟩, sign⟩ := x
      simp only at c0 c1 c2 c3 c4 c5 c6 hck
      have hba := hb.alloc hbs (.cells #[.string key, .string label, .string result, .string writer, .int .i64 at_, .slice A n cp, .string sign] 51)
      have hbas := hba.size
      have hxH := Lib.hid hx
      clear hx
      have hckH := Lib.hid hck
      clear hck
      have hbH := Lib.hid hb
      clear hb
      have hbaH := Lib.hid hba
      clear hba
      have hbasH := Lib.hid hbas
      clear hbas
      have hokH := Lib.hid hok
      clear hok
      have hfH := Lib.hid hf
      clear hf
      have hkl2H := Lib.hid hkl2
      clear hkl2
      have hlbxH := Lib.hid hlbx
      clear hlbx
      go_wp2_with fail
      refine (rclaimed_big ⟨key, label, result, writer, at_, ⟨A, n, cp, us⟩, sign⟩ _ (hmH.out.below hbaH.out) hlbxH.out (RClaimed.mono _ _ _ hbaH.out hokH.out) f hfH.out).mono ?_
      rintro e w1 ⟨rfl, hw1⟩
      have hbw := hbaH.out.trans (hw1.mono hbasH.out)
      clear c0 c1 c2 c3 c4 c5 c6
      have hw1H := Lib.hid hw1
      clear hw1
      have hbwH := Lib.hid hbw
      clear hbw
      have hck := hckH.out
      clear hckH
      by_cases hf0 : f = 0
      · subst hf0
        rw [if_pos rfl] at hck
        have R : EcRel l c w (.int .i64 (k + 1)) w1 := ⟨k + 1, hkl2H.out, by go_num, hck, hbwH.out⟩
        clear hck
        have RH := Lib.hid R
        clear R
        go_wp2
        refine ⟨?rel, ?measure⟩
        case measure => (simp [intOf]; omega)
        case rel => first | exact RH.out | exact ⟨rfl, RH.out⟩ | ((try refine ⟨rfl, ?_⟩); (repeat apply Exists.intro); refine ⟨RH.out, ?_⟩; ((repeat' apply And.intro) <;> rfl))
      · rw [if_neg hf0] at hck
        have hf1 : (f != 0) = true := by simpa using hf0
        have hckH := Lib.hid hck
        clear hck
        have hf0H := Lib.hid hf0
        clear hf0
        go_wp2
        go_ret
        exact ⟨ret1_int hckH.out, hbwH.out⟩
    · have e : l.drop k = [] := List.drop_eq_nil_of_le (by have := hllH.out; omega)
      rw [e] at hck
      have hc0 : 0 = c := by rw [← hck]; unfold eachErr; rfl
      have hckH := Lib.hid hck
      clear hck
      have hbH := Lib.hid hb
      clear hb
      have eH := Lib.hid e
      clear e
      have hc0H := Lib.hid hc0
      clear hc0
      go_wp2
      go_ret
      exact ⟨ret1_int hc0H.out, hbH.out⟩
theorem reach_any (A : Option Addr) (len cap : Nat) (l : List Claimed) (w : World) (hm : MaxLenAt w) (hlb : LblBig l) (hl : SlAt RClaimed w A len l) (c : Int) (hF : eachF l = c) :
    Calls Tryz.prog 38 #[.slice A len cap] w fun e w' => e = .returned (.int .i64 c) ∧ Below w.heap.size w w' := by
  unfold eachF at hF
  rw [hl.1] at hF
  by_cases h : len ≤ 1000
  · rw [if_pos h] at hF
    exact reach_ok A len cap l w h hm hlb hl c hF
  · rw [if_neg h] at hF
    subst hF
    clear hl
    go_enter Tryz.func38, Tryz.ntmps38
    go_wp2
    go_ret
    exact ⟨rfl, Below.refl _ _⟩
end Go.Proofs.YtgegdfmdcmgliaaGreatDoor.C11
