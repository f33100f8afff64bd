/-
  Several texts of mine as one: XWord, XWordP, XIn, XDigB, XPart, XRPart, XPath, XLabelD, XCut1, XR2Part, XR2Path, XLabelC, XLabelP, XClaimD, XClaimB, XClaimW, XPowRow, XFactsD, XDueD, XPlain, XSecret, XLabelR, XWritD, XSignD, XHeadsW, XSignW, XLotW.
-/
import Derived.Test.YtgegdfmdcmgliaaGreatDoorDsG
import Derived.Test.YtgegdfmdcmgliaaGreatDoorShelf
import Derived.Shelf.Strings.SlTrimAscii
import Derived.Deep.QuietTactic
import Derived.BigQuiet
import Derived.Lib.SplitLaws
import Derived.Lib.IndexBytes
import Derived.Lib.IndexLaws
import Derived.Lib.IndexMore
import Derived.Deep.RegionHeld3
import Derived.Lib.AppendIntMem
import Derived.Lib.ItoaLen
import Derived.Lib.Join
import Derived.Test.YtgegdfmdcmgliaaGreatDoorCards
import Derived.LaidSub
import Derived.Lib.LaidTab
import Derived.Shelf.GgClosure.StringsIndexFunc
namespace Go.Proofs.YtgegdfmdcmgliaaGreatDoor.C11
open Go.RowKit
set_option linter.unusedVariables false

/-- a byte that a word can hold -/
def wch (b : UInt8) : Bool := decide ((97 ≤ b.toNat ∧ b.toNat ≤ 122) ∨ (48 ≤ b.toNat ∧ b.toNat ≤ 57) ∨ b.toNat = 45 ∨ b.toNat = 95)
def wordL : List UInt8 → Bool
  | [] => false
  | c :: r => decide (97 ≤ c.toNat ∧ c.toNat ≤ 122) && decide (r.length < 40) && (c :: r).all wch
/-- whether a string is a word -/
def wordB (s : ByteArray) : Bool := wordL s.data.toList

theorem str_get {s : ByteArray} {k : Nat} (h : k < s.size) : s.data.toList[k]? = some s[k] := by
  rw [List.getElem?_eq_getElem (by simpa using h)]
  rfl

theorem all_step {p : UInt8 → Bool} {s : ByteArray} {k : Nat} {b : Bool} (h : k < s.size) (hb : b = (s.data.toList.drop k).all p) : b = (p s[k] && (s.data.toList.drop (k + 1)).all p) := by
  rw [hb, List.drop_eq_getElem_cons (by simpa using h), List.all_cons]
  rfl

def WordRel (s : ByteArray) (b : Bool) (i : Value) : Prop := ∃ k : Nat, k ≤ s.size ∧ i = .int .i64 k ∧ b = (s.data.toList.drop k).all wch

theorem ret_bool {a b : Bool} (h : a = b) : Ending.returned (.bool a) = .returned (.bool b) := by rw [h]

set_option maxHeartbeats 1000000 in
theorem rword_ok (s : ByteArray) (b : Bool) (w : World) (h0 : 1 ≤ s.size) (h1 : s.size ≤ 40) (c : UInt8) (hc : s.data.toList[0]? = some c) (hc0 : 97 ≤ c.toNat) (hc1 : c.toNat ≤ 122) (hb : b = s.data.toList.all wch) :
    Calls Tryz.prog 98 #[.string s] w fun e w' => e = .returned (.bool b) ∧ w = w' := by
  have hg : s[0] = c := by have := str_get (s := s) (k := 0) (by omega); rw [hc] at this; exact (Option.some.inj this).symm
  have hg0 : 97 ≤ (s[0]'(by omega)).toNat := by rw [hg]; exact hc0
  have hg1 : (s[0]'(by omega)).toNat ≤ 122 := by rw [hg]; exact hc1
  have hcH := Lib.hid hc
  clear hc
  have hbH := Lib.hid hb
  clear hb
  have hgH := Lib.hid hg
  clear hg
  go_enter Tryz.func98, Tryz.ntmps98
  go_wp2
  go_loop [21] (fun i => WordRel s b i) (fun i => s.size - (intOf i).toNat)
  case atStart => exact ⟨0, Nat.zero_le _, rfl, hbH.out⟩
  case round =>
    obtain ⟨k, hk, rfl, hr⟩ := hrel
    have hrH := Lib.hid hr
    clear hr
    by_cases hlt : k < s.size
    · have hs := all_step hlt hrH.out
      have R0 : wch s[k] = true → WordRel s b (.int .i64 (k + 1)) := fun h => ⟨k + 1, by omega, by go_num, by rw [hs, h, Bool.true_and]⟩
      have F0 : wch s[k] = false → b = false := fun h => by rw [hs, h, Bool.false_and]
      have hkk : s[k].toNat < 256 := s[k].toNat_lt
      have R0H := Lib.hid R0
      clear R0
      have F0H := Lib.hid F0
      clear F0
      have hsH := Lib.hid hs
      clear hs
      by_cases e45 : s[k].toNat = 45
      · have R := R0H.out (by unfold wch; rw [e45]; decide)
        have RH := Lib.hid R
        clear R
        go_wp2
        refine ⟨?rel, ?measure⟩
        case measure => (simp [intOf]; omega)
        case rel => first | exact RH.out | exact ⟨rfl, RH.out⟩ | ((try refine ⟨rfl, ?_⟩); (repeat apply Exists.intro); refine ⟨RH.out, ?_⟩; ((repeat' apply And.intro) <;> rfl))
      · by_cases e95 : s[k].toNat = 95
        · have R := R0H.out (by unfold wch; rw [e95]; decide)
          have RH := Lib.hid R
          clear R
          go_wp2
          refine ⟨?rel, ?measure⟩
          case measure => (simp [intOf]; omega)
          case rel => first | exact RH.out | exact ⟨rfl, RH.out⟩ | ((try refine ⟨rfl, ?_⟩); (repeat apply Exists.intro); refine ⟨RH.out, ?_⟩; ((repeat' apply And.intro) <;> rfl))
        · have n45 : ((s[k].toNat : Int) != 45) = true := by simp; omega
          have n95 : ((s[k].toNat : Int) != 95) = true := by simp; omega
          go_wp2
          all_goals first
            | (go_ret; have hf := F0H.out (decide_eq_false (by omega)); exact ⟨ret_bool hf.symm, rfl⟩)
            | (have R := R0H.out (decide_eq_true (by omega)); refine ⟨?rel, ?measure⟩; (case measure => (simp [intOf]; omega)); (case rel => exact R))
    · have e : s.data.toList.drop k = [] := List.drop_eq_nil_of_le (by simp; omega)
      go_wp2
      go_ret
      refine ⟨?_, rfl⟩
      have := hrH.out
      rw [e] at this
      exact ret_bool this.symm

theorem word_of {s : ByteArray} (h : 1 ≤ s.size) : wordB s = (decide (97 ≤ (s[0]'(by omega)).toNat ∧ (s[0]'(by omega)).toNat ≤ 122) && decide (s.size ≤ 40) && s.data.toList.all wch) := by
  unfold wordB
  have h0 := str_get (s := s) (k := 0) (by omega)
  have hl : s.data.toList.length = s.size := by simp
  cases hd : s.data.toList with
  | nil => rw [hd] at hl; simp at hl; omega
  | cons c r =>
    rw [hd] at h0 hl
    simp only [List.getElem?_cons_zero, Option.some.injEq] at h0
    simp only [List.length_cons] at hl
    have e : decide (r.length < 40) = decide (s.size ≤ 40) := decide_eq_decide.2 (by omega)
    rw [← h0]
    show (decide (97 ≤ c.toNat ∧ c.toNat ≤ 122) && decide (r.length < 40) && (c :: r).all wch) = _
    rw [e]
theorem word_empty {s : ByteArray} (h : ¬ 1 ≤ s.size) : wordB s = false := by
  unfold wordB
  have hl : s.data.toList.length = s.size := by simp
  cases hd : s.data.toList with
  | nil => rfl
  | cons c r => rw [hd] at hl; simp only [List.length_cons] at hl; omega

theorem rword_any (s : ByteArray) (b : Bool) (w : World) (hs : s.size ≤ maxLen) (hb : wordB s = b) :
    Calls Tryz.prog 98 #[.string s] w fun e w' => e = .returned (.bool b) ∧ w = w' := by
  unfold maxLen at hs
  by_cases h0 : 1 ≤ s.size
  · by_cases h1 : s.size ≤ 40
    · rw [word_of h0, decide_eq_true h1, Bool.and_true] at hb
      by_cases c0 : 97 ≤ (s[0]'(by omega)).toNat
      · by_cases c1 : (s[0]'(by omega)).toNat ≤ 122
        · rw [decide_eq_true ⟨c0, c1⟩, Bool.true_and] at hb
          exact rword_ok s b w h0 h1 _ (str_get (by omega)) c0 c1 hb.symm
        · rw [decide_eq_false (fun h => c1 h.2), Bool.false_and] at hb
          subst hb
          go_enter Tryz.func98, Tryz.ntmps98
          go_wp2
          go_ret
          exact ⟨rfl, rfl⟩
      · rw [decide_eq_false (fun h => c0 h.1), Bool.false_and] at hb
        subst hb
        go_enter Tryz.func98, Tryz.ntmps98
        go_wp2
        go_ret
        exact ⟨rfl, rfl⟩
    · rw [word_of h0, decide_eq_false h1, Bool.and_false, Bool.false_and] at hb
      subst hb
      go_enter Tryz.func98, Tryz.ntmps98
      go_wp2
      go_ret
      exact ⟨rfl, rfl⟩
  · rw [word_empty h0] at hb
    subst hb
    go_enter Tryz.func98, Tryz.ntmps98
    go_wp2
    go_ret
    exact ⟨rfl, rfl⟩
end Go.Proofs.YtgegdfmdcmgliaaGreatDoor.C11

namespace Go.Proofs.YtgegdfmdcmgliaaGreatDoor.C11
open Go.RowKit Go.Shelf
set_option linter.unusedVariables false

def wcut : List UInt8 := [97, 98, 99, 100, 101, 102, 103, 104, 105, 106, 107, 108, 109, 110, 111, 112, 113, 114, 115, 116, 117, 118, 119, 120, 121, 122, 48, 49, 50, 51, 52, 53, 54, 55, 56, 57, 95, 45]
theorem wcut_wch (b : UInt8) : wcut.contains b = wch b := by
  have := byte_all (p := fun b => wcut.contains b == wch b) (by decide +kernel) b
  simpa using this
theorem wcut_all (l : List UInt8) : l.all (wcut.contains ·) = l.all wch := by
  congr 1
  funext b
  exact wcut_wch b

theorem trim_word (s : ByteArray) (w : World) (hs : s.size ≤ 9223372036854775807) :
    Calls Tryz.prog 61 #[.string s, .string ⟨#[97, 98, 99, 100, 101, 102, 103, 104, 105, 106, 107, 108, 109, 110, 111, 112, 113, 114, 115, 116, 117, 118, 119, 120, 121, 122, 48, 49, 50, 51, 52, 53, 54, 55, 56, 57, 95, 45]⟩] w fun e w' =>
      e = .returned (.string ⟨(Lib.trimS s.data.toList wcut).toArray⟩) ∧ Below w.heap.size w w' :=
  Any.strings_Trim_laid Tryz.lays160 (by kernel_rfl) s ⟨#[97, 98, 99, 100, 101, 102, 103, 104, 105, 106, 107, 108, 109, 110, 111, 112, 113, 114, 115, 116, 117, 118, 119, 120, 121, 122, 48, 49, 50, 51, 52, 53, 54, 55, 56, 57, 95, 45]⟩ w hs (by decide) (ascii_of_all (by decide))

theorem trim_nil {s : ByteArray} {cs : List UInt8} (h : s.data.toList.all (cs.contains ·) = true) : (⟨(Lib.trimS s.data.toList cs).toArray⟩ : ByteArray) = ⟨#[]⟩ := by
  rw [(trimS_nil _ _).2 h]
theorem trim_some {s : ByteArray} {cs : List UInt8} (h : s.data.toList.all (cs.contains ·) = false) : ∃ c r, (⟨(Lib.trimS s.data.toList cs).toArray⟩ : ByteArray) = ⟨(c :: r).toArray⟩ := by
  cases hd : Lib.trimS s.data.toList cs with
  | nil => rw [trimS_nil] at hd; rw [hd] at h; cases h
  | cons c r => exact ⟨c, r, rfl⟩

theorem word_any (s : ByteArray) (b : Bool) (w : World) (hs : s.size ≤ maxLen) (hb : wordB s = b) :
    Calls Tryz.prog 49 #[.string s] w fun e w' => e = .returned (.bool b) ∧ Below w.heap.size w w' := by
  unfold maxLen at hs
  by_cases h0 : 1 ≤ s.size
  · by_cases h1 : s.size ≤ 40
    · rw [word_of h0, decide_eq_true h1, Bool.and_true] at hb
      by_cases c0 : 97 ≤ (s[0]'(by omega)).toNat
      · by_cases c1 : (s[0]'(by omega)).toNat ≤ 122
        · rw [decide_eq_true ⟨c0, c1⟩, Bool.true_and, ← wcut_all] at hb
          cases b
          · obtain ⟨c, r, hcr⟩ := trim_some hb
            have hbH := Lib.hid hb
            clear hb
            have hcrH := Lib.hid hcr
            clear hcr
            go_enter Tryz.func49, Tryz.ntmps49
            go_wp2_with fail
            refine (trim_word s _ hs).mono ?_
            rw [hcrH.out]
            rintro e w1 ⟨rfl, hb1⟩
            have hb1H := Lib.hid hb1
            clear hb1
            go_wp2
            go_ret
            exact ⟨rfl, hb1H.out⟩
          · have hcr := trim_nil hb
            have hbH := Lib.hid hb
            clear hb
            have hcrH := Lib.hid hcr
            clear hcr
            go_enter Tryz.func49, Tryz.ntmps49
            go_wp2_with fail
            refine (trim_word s _ hs).mono ?_
            rw [hcrH.out]
            rintro e w1 ⟨rfl, hb1⟩
            have hb1H := Lib.hid hb1
            clear hb1
            go_wp2
            go_ret
            exact ⟨rfl, hb1H.out⟩
        · rw [decide_eq_false (fun h => c1 h.2), Bool.false_and] at hb
          subst hb
          go_enter Tryz.func49, Tryz.ntmps49
          go_wp2
          go_ret
          exact ⟨rfl, Below.refl _ _⟩
      · rw [decide_eq_false (fun h => c0 h.1), Bool.false_and] at hb
        subst hb
        go_enter Tryz.func49, Tryz.ntmps49
        go_wp2
        go_ret
        exact ⟨rfl, Below.refl _ _⟩
    · rw [word_of h0, decide_eq_false h1, Bool.and_false, Bool.false_and] at hb
      subst hb
      go_enter Tryz.func49, Tryz.ntmps49
      go_wp2
      go_ret
      exact ⟨rfl, Below.refl _ _⟩
  · rw [word_empty h0] at hb
    subst hb
    go_enter Tryz.func49, Tryz.ntmps49
    go_wp2
    go_ret
    exact ⟨rfl, Below.refl _ _⟩
end Go.Proofs.YtgegdfmdcmgliaaGreatDoor.C11

namespace Go.Proofs.YtgegdfmdcmgliaaGreatDoor.C11
open Go.RowKit
set_option linter.unusedVariables false

theorem bel_drewN {B : Nat} {a w : World} (h : Below B a w) (n : Nat) : Below B a (w.drewN n) := h.trans ⟨rfl, rfl, rfl, Nat.le_refl _, fun _ _ => rfl⟩
/-- a number in a range -/
def inR (lo hi n : Int) : Bool := decide (lo ≤ n) && decide (n ≤ hi)
theorem inR_true {lo hi n : Int} (h : inR lo hi n = true) : lo ≤ n ∧ n ≤ hi := by simpa [inR] using h
theorem inR_of {lo hi n : Int} (h : lo ≤ n ∧ n ≤ hi) : inR lo hi n = true := by simpa [inR] using h

theorem within_p (n lo hi : Int) (w : World) :
    Calls Tryz.prog 20 #[.int .i64 n, .int .i64 lo, .int .i64 hi] w fun e w' => e = .returned (.bool (inR lo hi n)) ∧ w' = w := by
  unfold inR
  by_cases h1 : lo ≤ n
  · by_cases h2 : n ≤ hi
    · go_enter Tryz.func20, Tryz.ntmps20
      go_wp2
      go_ret
      first | (simp; done) | (simp; omega) | (exact ⟨by simp; omega, rfl⟩)
    · go_enter Tryz.func20, Tryz.ntmps20
      go_wp2
      go_ret
      first | (simp; done) | (simp; omega) | (exact ⟨by simp; omega, rfl⟩)
  · go_enter Tryz.func20, Tryz.ntmps20
    go_wp2
    go_ret
    first | (simp; done) | (simp; omega) | (exact ⟨by simp; omega, rfl⟩)
theorem within_r (n lo hi : Int) (w : World) :
    Calls Tryz.prog 25 #[.int .i64 n, .int .i64 lo, .int .i64 hi] w fun e w' => e = .returned (.bool (inR lo hi n)) ∧ w' = w := by
  unfold inR
  by_cases h1 : lo ≤ n
  · by_cases h2 : n ≤ hi
    · go_enter Tryz.func25, Tryz.ntmps25
      go_wp2
      go_ret
      first | (simp; done) | (simp; omega) | (exact ⟨by simp; omega, rfl⟩)
    · go_enter Tryz.func25, Tryz.ntmps25
      go_wp2
      go_ret
      first | (simp; done) | (simp; omega) | (exact ⟨by simp; omega, rfl⟩)
  · go_enter Tryz.func25, Tryz.ntmps25
    go_wp2
    go_ret
    first | (simp; done) | (simp; omega) | (exact ⟨by simp; omega, rfl⟩)
end Go.Proofs.YtgegdfmdcmgliaaGreatDoor.C11

namespace Go.Proofs.YtgegdfmdcmgliaaGreatDoor.C11
open Go.RowKit Go.Shelf
set_option linter.unusedVariables false

def hexcut : List UInt8 := [48, 49, 50, 51, 52, 53, 54, 55, 56, 57, 97, 98, 99, 100, 101, 102]
def digB (s : ByteArray) : Bool := decide (s.size = 16) && s.data.toList.all (hexcut.contains ·)
theorem digB_size {s : ByteArray} (h : digB s = true) : s.size = 16 := by
  unfold digB at h
  rw [Bool.and_eq_true] at h
  exact of_decide_eq_true h.1
theorem trim_hex (s : ByteArray) (w : World) (hs : s.size ≤ 9223372036854775807) :
    Calls Tryz.prog 61 #[.string s, .string ⟨#[48, 49, 50, 51, 52, 53, 54, 55, 56, 57, 97, 98, 99, 100, 101, 102]⟩] w fun e w' =>
      e = .returned (.string ⟨(Lib.trimS s.data.toList hexcut).toArray⟩) ∧ Below w.heap.size w w' :=
  Any.strings_Trim_laid Tryz.lays160 (by kernel_rfl) s ⟨#[48, 49, 50, 51, 52, 53, 54, 55, 56, 57, 97, 98, 99, 100, 101, 102]⟩ w hs (by decide) (ascii_of_all (by decide))

theorem dig_any (s : ByteArray) (w : World) (b : Bool) (hb : digB s = b) :
    Calls Tryz.prog 30 #[.string s] w fun e w' => e = .returned (.bool b) ∧ Below w.heap.size w w' := by
  unfold digB at hb
  by_cases h : s.size = 16
  · rw [decide_eq_true h, Bool.true_and] at hb
    have h9 : s.size ≤ 9223372036854775807 := by omega
    have hI : (s.size : Int) = 16 := by omega
    cases b
    · obtain ⟨c, r, hcr⟩ := trim_some hb
      have hbH := Lib.hid hb
      clear hb
      have hcrH := Lib.hid hcr
      clear hcr
      have hH := Lib.hid h
      clear h
      go_enter Tryz.func30, Tryz.ntmps30
      go_wp2_with fail
      refine (trim_hex s _ h9).mono ?_
      rw [hcrH.out]
      rintro e w1 ⟨rfl, hb1⟩
      have hb1H := Lib.hid hb1
      clear hb1
      go_wp2
      go_ret
      exact ⟨rfl, hb1H.out⟩
    · have hcr := trim_nil hb
      have hbH := Lib.hid hb
      clear hb
      have hcrH := Lib.hid hcr
      clear hcr
      have hH := Lib.hid h
      clear h
      go_enter Tryz.func30, Tryz.ntmps30
      go_wp2_with fail
      refine (trim_hex s _ h9).mono ?_
      rw [hcrH.out]
      rintro e w1 ⟨rfl, hb1⟩
      have hb1H := Lib.hid hb1
      clear hb1
      go_wp2
      go_ret
      exact ⟨rfl, hb1H.out⟩
  · rw [decide_eq_false h, Bool.false_and] at hb
    subst hb
    have hI : ((s.size : Int) == 16) = false := by rw [beq_eq_false_iff_ne]; omega
    have hI2 : ¬ (s.size : Int) = 16 := by omega
    have hH := Lib.hid h
    clear h
    go_enter Tryz.func30, Tryz.ntmps30
    go_wp2_with fail
    go_ret
    exact ⟨rfl, Below.refl _ _⟩
theorem rdig_any (s : ByteArray) (w : World) (b : Bool) (hb : digB s = b) :
    Calls Tryz.prog 32 #[.string s] w fun e w' => e = .returned (.bool b) ∧ Below w.heap.size w w' := by
  unfold digB at hb
  by_cases h : s.size = 16
  · rw [decide_eq_true h, Bool.true_and] at hb
    have h9 : s.size ≤ 9223372036854775807 := by omega
    have hI : (s.size : Int) = 16 := by omega
    cases b
    · obtain ⟨c, r, hcr⟩ := trim_some hb
      have hbH := Lib.hid hb
      clear hb
      have hcrH := Lib.hid hcr
      clear hcr
      have hH := Lib.hid h
      clear h
      go_enter Tryz.func32, Tryz.ntmps32
      go_wp2_with fail
      refine (trim_hex s _ h9).mono ?_
      rw [hcrH.out]
      rintro e w1 ⟨rfl, hb1⟩
      have hb1H := Lib.hid hb1
      clear hb1
      go_wp2
      go_ret
      exact ⟨rfl, hb1H.out⟩
    · have hcr := trim_nil hb
      have hbH := Lib.hid hb
      clear hb
      have hcrH := Lib.hid hcr
      clear hcr
      have hH := Lib.hid h
      clear h
      go_enter Tryz.func32, Tryz.ntmps32
      go_wp2_with fail
      refine (trim_hex s _ h9).mono ?_
      rw [hcrH.out]
      rintro e w1 ⟨rfl, hb1⟩
      have hb1H := Lib.hid hb1
      clear hb1
      go_wp2
      go_ret
      exact ⟨rfl, hb1H.out⟩
  · rw [decide_eq_false h, Bool.false_and] at hb
    subst hb
    have hI : ((s.size : Int) == 16) = false := by rw [beq_eq_false_iff_ne]; omega
    have hI2 : ¬ (s.size : Int) = 16 := by omega
    have hH := Lib.hid h
    clear h
    go_enter Tryz.func32, Tryz.ntmps32
    go_wp2_with fail
    go_ret
    exact ⟨rfl, Below.refl _ _⟩
end Go.Proofs.YtgegdfmdcmgliaaGreatDoor.C11

namespace Go.Proofs.YtgegdfmdcmgliaaGreatDoor.C11
open Go.RowKit
set_option linter.unusedVariables false

/-- a byte that a part of a path can hold -/
def pch (b : UInt8) : Bool := decide ((97 ≤ b.toNat ∧ b.toNat ≤ 122) ∨ (65 ≤ b.toNat ∧ b.toNat ≤ 90) ∨ (48 ≤ b.toNat ∧ b.toNat ≤ 57) ∨ b.toNat = 46 ∨ b.toNat = 95 ∨ b.toNat = 45 ∨ b.toNat = 43)
def partL (l : List UInt8) : Bool := l.all pch && !(l == []) && !(l == [46]) && !(l == [46, 46])
def partB (s : ByteArray) : Bool := partL s.data.toList

theorem idx_ge (x : UInt8) : decide (Lib.indexByte [46, 95, 45, 43] x ≥ 0) = decide (x.toNat = 46 ∨ x.toNat = 95 ∨ x.toNat = 45 ∨ x.toNat = 43) := by
  have := byte_all (p := fun x => decide (Lib.indexByte [46, 95, 45, 43] x ≥ 0) == decide (x.toNat = 46 ∨ x.toNat = 95 ∨ x.toNat = 45 ∨ x.toNat = 43)) (by decide +kernel) x
  simpa using this
theorem idx_byte (x : UInt8) (w : World) : Calls Tryz.prog 181 #[.string ⟨#[46, 95, 45, 43]⟩, .int .u8 x.toNat] w fun e w' => e = .returned (.int .i64 (Lib.indexByte [46, 95, 45, 43] x)) ∧ w' = w := by
  have := Tryz.strings_IndexByte ⟨#[46, 95, 45, 43]⟩ x.toNat w
  rwa [show ((x.toNat : Int).toNat.toUInt8) = x by simp, show (⟨#[46, 95, 45, 43]⟩ : ByteArray).data.toList = [46, 95, 45, 43] from rfl] at this

def PartRel (s : ByteArray) (b : Bool) (i : Value) : Prop := ∃ k : Nat, k ≤ s.size ∧ i = .int .i64 k ∧ b = (s.data.toList.drop k).all pch

set_option maxHeartbeats 1000000 in
theorem inPart_any (x : UInt8) (w : World) (b : Bool) (hb : pch x = b) :
    Calls Tryz.prog 178 #[.int .u8 x.toNat] w fun e w' => e = .returned (.bool b) ∧ w' = w := by
  have hx : x.toNat < 256 := x.toNat_lt
  have hid := idx_ge x
  unfold pch at hb
  obtain ⟨c, hc⟩ : ∃ c, Lib.indexByte [46, 95, 45, 43] x = c := ⟨_, rfl⟩
  have hidx := idx_byte x
  rw [hc] at hid hidx
  replace hid : (0 ≤ c) ↔ (x.toNat = 46 ∨ x.toNat = 95 ∨ x.toNat = 45 ∨ x.toNat = 43) := decide_eq_decide.1 hid
  have hcH := Lib.hid hc
  clear hc
  have hidxH := Lib.hid hidx
  clear hidx
  go_enter Tryz.func178, Tryz.ntmps178
  go_wp2_with (go_at_call 181; refine (hidxH.out _).mono ?_; rintro e wz ⟨rfl, rfl⟩)
  all_goals first
    | (exfalso; omega)
    | (go_ret; refine ⟨ret_bool ?_, rfl⟩; rw [← hb, Bool.eq_iff_iff]; simp only [Bool.or_eq_true, decide_eq_true_iff]; first | omega | (simp; omega))

theorem part_loop {s : ByteArray} {k : Nat} {b : Bool} (h : k < s.size) (hb : b = (s.data.toList.drop k).all pch) : b = (pch s[k] && (s.data.toList.drop (k + 1)).all pch) := all_step h hb

set_option maxHeartbeats 1000000 in
theorem isPart_any (s : ByteArray) (w : World) (hs : s.size ≤ 9223372036854775807) (b : Bool) (hb : partB s = b) :
    Calls Tryz.prog 153 #[.string s] w fun e w' => e = .returned (.bool b) ∧ w = w' := by
  obtain ⟨a, ha⟩ : ∃ a, a = s.data.toList.all pch := ⟨_, rfl⟩
  unfold partB partL at hb
  rw [← ha, ← Lib.toList_data s] at hb
  have haH := Lib.hid ha
  clear ha
  have hbH := Lib.hid hb
  clear hb
  go_enter Tryz.func153, Tryz.ntmps153
  go_wp2
  go_loop [6] (fun i => PartRel s a i) (fun i => s.size - (intOf i).toNat)
  case atStart => exact ⟨0, Nat.zero_le _, rfl, haH.out⟩
  case round =>
    obtain ⟨k, hk, rfl, hr⟩ := hrel
    have hrH := Lib.hid hr
    clear hr
    by_cases hlt : k < s.size
    · have hs := part_loop hlt hrH.out
      cases hp : pch s[k]
      · rw [hp, Bool.false_and] at hs
        have hb := hbH.out
        rw [hs, Bool.false_and, Bool.false_and, Bool.false_and] at hb
        subst hb
        clear hs
        have hpH := Lib.hid hp
        clear hp
        go_wp2_with (go_at_call 178; refine (inPart_any _ _ _ (by exact hpH.out)).mono ?_; rintro e wz ⟨rfl, rfl⟩)
        go_ret
        exact ⟨rfl, rfl⟩
      · rw [hp, Bool.true_and] at hs
        have R : PartRel s a (.int .i64 (k + 1)) := ⟨k + 1, by omega, by go_num, hs⟩
        clear hs
        have hpH := Lib.hid hp
        clear hp
        have RH := Lib.hid R
        clear R
        go_wp2_with (go_at_call 178; refine (inPart_any _ _ _ (by exact hpH.out)).mono ?_; rintro e wz ⟨rfl, rfl⟩)
        refine ⟨?rel, ?measure⟩
        case measure => (simp [intOf]; omega)
        case rel => first | exact RH.out | exact ⟨rfl, RH.out⟩ | ((try refine ⟨rfl, ?_⟩); (repeat apply Exists.intro); refine ⟨RH.out, ?_⟩; ((repeat' apply And.intro) <;> rfl))
    · have e : s.data.toList.drop k = [] := List.drop_eq_nil_of_le (by simp; omega)
      have ha2 : a = true := by have := hrH.out; rw [e] at this; exact this
      clear hrH e
      subst ha2
      go_wp2
      all_goals (go_ret; refine ⟨ret_bool ?_, rfl⟩; rw [← hbH.out]; simp [*])
end Go.Proofs.YtgegdfmdcmgliaaGreatDoor.C11

namespace Go.Proofs.YtgegdfmdcmgliaaGreatDoor.C11
open Go.RowKit
set_option linter.unusedVariables false

end Go.Proofs.YtgegdfmdcmgliaaGreatDoor.C11

namespace Go.Proofs.YtgegdfmdcmgliaaGreatDoor.C11
open Go.RowKit
set_option linter.unusedVariables false

def parts (s : ByteArray) : List ByteArray := Lib.splitB ⟨#[47]⟩ 0 (Lib.countB s ⟨#[47]⟩) s
def pathB (s : ByteArray) : Bool := inR 1 200 s.size && (parts s).all partB

theorem parts_size {s x : ByteArray} (h : x ∈ parts s) : x.size ≤ s.size := splitB_size _ _ _ _ h
theorem parts_len (s : ByteArray) : (parts s).length = Lib.countB s ⟨#[47]⟩ + 1 := Lib.splitB_all _ (by decide) 0 _ s rfl

theorem split_any (s : ByteArray) (w : World) (hm : MaxLenAt w) (hs : s.size < 4294967281) :
    Calls Tryz.prog 64 #[.string s, .string ⟨#[47]⟩] w fun e w' => ∃ (A : Option Addr) (n : Nat), e = .returned (.slice A n n) ∧ SlAt RStr w' A n (parts s) ∧ Below w.heap.size w w' := by
  obtain ⟨m, hm⟩ := hm
  refine (Tryz.strings_Split s ⟨#[47]⟩ m w hs hm (by decide)).mono ?_
  rintro e w' ⟨rfl, rfl⟩
  refine ⟨_, _, rfl, ⟨parts_len s, fun _ => ⟨_, _, rfl, fun i x hx j v hv => ?_⟩, fun x hx => ?_⟩, (Below.refl _ _).alloc (Nat.le_refl _) _⟩
  · match j, hv with
    | 0, hv =>
      simp only [RStr, List.getElem?_cons_zero, Option.some.injEq] at hv
      subst hv
      have : ((parts s).map Value.string)[i]? = some (.string x) := by rw [List.getElem?_map, hx]; rfl
      simp only [RStr, Nat.mul_one, Nat.zero_add, Nat.add_zero]
      rw [cell_new]
      simpa [parts] using this
    | n + 1, hv => simp [RStr] at hv
  · have := parts_size hx
    show x.size ≤ maxLen
    unfold maxLen
    omega

theorem drop_all {α : Type} {p : α → Bool} {l : List α} {k : Nat} {x : α} (h : l[k]? = some x) : (l.drop k).all p = (p x && (l.drop (k + 1)).all p) := by
  rw [drop_cons h, List.all_cons]
def PathRel (l : List ByteArray) (a : Bool) (i : Value) : Prop := ∃ k : Nat, k ≤ l.length ∧ i = .int .i64 k ∧ (l.drop k).all partB = a

set_option maxHeartbeats 1000000 in
theorem isPath_any (s : ByteArray) (w : World) (hm : MaxLenAt w) (b : Bool) (hb : pathB s = b) :
    Calls Tryz.prog 115 #[.string s] w fun e w' => e = .returned (.bool b) ∧ Below w.heap.size w w' := by
  unfold pathB inR at hb
  by_cases h0 : 1 ≤ s.size
  · by_cases h1 : s.size ≤ 200
    · rw [decide_eq_true (by omega), decide_eq_true (by omega), Bool.true_and, Bool.true_and] at hb
      have hmH := Lib.hid hm
      clear hm
      have hbH := Lib.hid hb
      clear hb
      go_enter Tryz.func115, Tryz.ntmps115
      go_wp2_with fail
      refine (split_any s _ hmH.out (by omega)).mono ?_
      rintro e w1 ⟨A, len, rfl, hl, hb1⟩
      have hll := hl.1
      have hlen : len ≤ 4294967281 := by rw [← hll, parts_len]; have := Lib.countB_le ⟨#[47]⟩ (by decide) _ s (Nat.le_refl _); omega
      have hsz : ∀ x ∈ parts s, x.size ≤ 9223372036854775807 := fun x hx => by have := parts_size hx; omega
      obtain ⟨l, hpl⟩ : ∃ l, parts s = l := ⟨_, rfl⟩
      rw [hpl] at hl hll hsz hbH
      have hlH := Lib.hid hl
      clear hl
      have hb1H := Lib.hid hb1
      clear hb1
      have hllH := Lib.hid hll
      clear hll
      have hszH := Lib.hid hsz
      clear hsz
      have hplH := Lib.hid hpl
      clear hpl
      go_wp2
      go_loop [16] (fun i => PathRel l b i) (fun i => len - (intOf i).toNat)
      case atStart => exact ⟨0, Nat.zero_le _, rfl, hbH.out⟩
      case round =>
        obtain ⟨k, hk, rfl, hr⟩ := hrel
        have hkl : k ≤ len := by have := hllH.out; omega
        by_cases hlt : k < len
        · obtain ⟨b0, off, hA, _⟩ := hlH.out.2.1 (by omega)
          subst hA
          obtain ⟨x, hx⟩ : ∃ x, l[k]? = some x := ⟨l[k]'(by have := hllH.out; omega), List.getElem?_eq_getElem _⟩
          have c0 := cell_Str hlH.out hx
          have hkl2 : k + 1 ≤ l.length := by have := hllH.out; omega
          have hxs := hszH.out x (List.mem_of_getElem? hx)
          rw [drop_all hx] at hr
          obtain ⟨p, hp⟩ : ∃ p, partB x = p := ⟨_, rfl⟩
          rw [hp] at hr
          have hxH := Lib.hid hx
          clear hx
          have hpH := Lib.hid hp
          clear hp
          cases p
          · rw [Bool.false_and] at hr
            subst hr
            go_wp2_with (go_at_call 153; refine (isPart_any x _ hxs _ (by exact hpH.out)).mono ?_; rintro e wz ⟨rfl, rfl⟩)
            go_ret
            exact ⟨rfl, hb1H.out⟩
          · rw [Bool.true_and] at hr
            have R : PathRel l b (.int .i64 (k + 1)) := ⟨k + 1, hkl2, by go_num, hr⟩
            have RH := Lib.hid R
            clear R
            have hrH := Lib.hid hr
            clear hr
            go_wp2_with (go_at_call 153; refine (isPart_any x _ hxs _ (by exact hpH.out)).mono ?_; rintro e wz ⟨rfl, rfl⟩)
            refine ⟨?rel, ?measure⟩
            case measure => (simp [intOf]; omega)
            case rel => first | exact RH.out | exact ⟨rfl, RH.out⟩ | ((try refine ⟨rfl, ?_⟩); (repeat apply Exists.intro); refine ⟨RH.out, ?_⟩; ((repeat' apply And.intro) <;> rfl))
        · have e : l.drop k = [] := List.drop_eq_nil_of_le (by have := hllH.out; omega)
          rw [e] at hr
          subst hr
          clear e
          go_wp2
          go_ret
          exact ⟨rfl, hb1H.out⟩
    · rw [decide_eq_false (p := (s.size : Int) ≤ 200) (by omega), Bool.and_false, Bool.false_and] at hb
      subst hb
      go_enter Tryz.func115, Tryz.ntmps115
      go_wp2
      go_ret
      exact ⟨rfl, Below.refl _ _⟩
  · rw [decide_eq_false (by omega), Bool.false_and, Bool.false_and] at hb
    subst hb
    go_enter Tryz.func115, Tryz.ntmps115
    go_wp2
    go_ret
    exact ⟨rfl, Below.refl _ _⟩
end Go.Proofs.YtgegdfmdcmgliaaGreatDoor.C11

namespace Go.Proofs.YtgegdfmdcmgliaaGreatDoor.C11
open Go.RowKit Go.Lib
set_option linter.unusedVariables false

def bs (l : List UInt8) : ByteArray := ⟨l.toArray⟩
theorem bs_data (l : List UInt8) : (bs l).data.toList = l := by simp [bs]
theorem bs_size (l : List UInt8) : (bs l).size = l.length := by simp [bs, ByteArray.size]
theorem data_bs (s : ByteArray) : bs s.data.toList = s := by cases s; simp [bs]
theorem bs_inj {a b : List UInt8} (h : bs a = bs b) : a = b := by rw [← bs_data a, ← bs_data b, h]

theorem cut_cases (s : List UInt8) : ((58 : UInt8) ∉ s ∧ cut s [58] = (s, [], false)) ∨ ∃ a b, s = a ++ 58 :: b ∧ (58 : UInt8) ∉ a ∧ cut s [58] = (a, b, true) := by
  have hi := index_one s 58
  have hge := indexByte_ge s 58
  by_cases h : 0 ≤ indexByte s 58
  · right
    obtain ⟨o, ho⟩ : ∃ o : Nat, indexByte s 58 = o := ⟨(indexByte s 58).toNat, by omega⟩
    obtain ⟨h1, h2⟩ := indexByte_some ho
    obtain ⟨hlt, hget⟩ := List.getElem?_eq_some_iff.1 h1
    have e : s = s.take o ++ 58 :: s.drop (o + 1) := by
      conv => lhs; rw [← List.take_append_drop o s]
      rw [drop_cons h1]
    refine ⟨s.take o, s.drop (o + 1), e, fun hin => ?_, ?_⟩
    · obtain ⟨j, hj, hx⟩ := List.getElem_of_mem hin
      have hjo : j < o := by rw [List.length_take] at hj; omega
      rw [List.getElem_take] at hx
      exact h2 j hjo (by rw [← hx]; exact List.getElem?_eq_getElem (by omega))
    · unfold cut
      rw [hi, ho, if_pos (by omega)]
      simp
  · left
    have hn : indexByte s 58 = -1 := by omega
    refine ⟨fun hin => ?_, by unfold cut; rw [hi, hn, if_neg (by omega)]⟩
    obtain ⟨j, hj, hx⟩ := List.getElem_of_mem hin
    exact indexByte_none hn j (by rw [← hx]; exact List.getElem?_eq_getElem hj)
theorem split_uniq : ∀ {a b c d : List UInt8}, a ++ 58 :: b = c ++ 58 :: d → (58 : UInt8) ∉ a → (58 : UInt8) ∉ c → a = c ∧ b = d
  | [], b, [], d, h, _, _ => by
    simp only [List.nil_append, List.cons.injEq, true_and] at h
    exact ⟨rfl, h⟩
  | [], b, x :: c, d, h, _, hc => by
    simp only [List.nil_append, List.cons_append, List.cons.injEq] at h
    exact absurd (by rw [← h.1]; exact List.mem_cons_self) hc
  | x :: a, b, [], d, h, ha, _ => by
    simp only [List.nil_append, List.cons_append, List.cons.injEq] at h
    exact absurd (by rw [h.1]; exact List.mem_cons_self) ha
  | x :: a, b, y :: c, d, h, ha, hc => by
    simp only [List.cons_append, List.cons.injEq] at h
    obtain ⟨e1, e2⟩ := split_uniq h.2 (fun h => ha (List.mem_cons_of_mem _ h)) (fun h => hc (List.mem_cons_of_mem _ h))
    exact ⟨by rw [h.1, e1], e2⟩
theorem cut_of {s a b : List UInt8} (h : s = a ++ 58 :: b) (ha : (58 : UInt8) ∉ a) : cut s [58] = (a, b, true) := by
  rcases cut_cases s with ⟨h1, _⟩ | ⟨a', b', h1, h2, h3⟩
  · exact absurd (by rw [h]; simp) h1
  · obtain ⟨rfl, rfl⟩ := split_uniq (h.symm.trans h1) ha h2
    exact h3
theorem cut_no {s : List UInt8} (h : (58 : UInt8) ∉ s) : cut s [58] = (s, [], false) := by
  rcases cut_cases s with ⟨_, h1⟩ | ⟨a, b, h1, _, _⟩
  · exact h1
  · exact absurd (by rw [h1]; simp) h

def okPkgB (s : ByteArray) : Bool := decide (s = bs []) || pathB s
def checkB (p n : ByteArray) : Bool := okPkgB p && pathB n
/-- whether a text is the whole text of a label -/
def labelL (t : List UInt8) : Bool := hasPrefix t [47, 47] && ((cut (t.drop 2) [58]).2.2 && checkB (bs (cut (t.drop 2) [58]).1) (bs (cut (t.drop 2) [58]).2.1))
def wholeL (p n : List UInt8) : List UInt8 := [47, 47] ++ p ++ [58] ++ n

theorem pref2 {t : List UInt8} (h : hasPrefix t [47, 47] = true) : t = 47 :: 47 :: t.drop 2 := by
  unfold hasPrefix at h
  match t, h with
  | [a], h => simp [List.isPrefixOf] at h
  | a :: b :: r, h =>
    simp only [List.isPrefixOf, Bool.and_eq_true, beq_iff_eq] at h
    rw [← h.1, ← h.2.1]
    rfl
theorem pref2_of (r : List UInt8) : hasPrefix (47 :: 47 :: r) [47, 47] = true := by simp [hasPrefix, List.isPrefixOf]
theorem whole_pref (p n : List UInt8) : hasPrefix (wholeL p n) [47, 47] = true := by
  unfold wholeL
  simp only [List.cons_append, List.nil_append, List.append_assoc]
  exact pref2_of _
/-- the whole text cut again -/
theorem label_of {p n : List UInt8} (h : (58 : UInt8) ∉ p) : labelL (wholeL p n) = checkB (bs p) (bs n) := by
  have e : (wholeL p n).drop 2 = p ++ 58 :: n := by simp [wholeL]
  unfold labelL
  rw [whole_pref, e, cut_of rfl h]
  simp
theorem label_no_pref {t : List UInt8} (h : hasPrefix t [47, 47] = false) : labelL t = false := by unfold labelL; rw [h]; rfl
theorem label_no_colon {t : List UInt8} (h : (58 : UInt8) ∉ t.drop 2) : labelL t = false := by
  unfold labelL
  rw [cut_no h]
  simp
theorem not_whole_no_pref {t p n : List UInt8} (h : hasPrefix t [47, 47] = false) : wholeL p n ≠ t := fun e => by rw [← e, whole_pref] at h; cases h
theorem not_whole_long {t n : List UInt8} (h : hasPrefix t [47, 47] = true) : wholeL (t.drop 2) n ≠ t := fun e => by
  have h1 := congrArg List.length e
  have h2 := congrArg List.length (pref2 h)
  simp only [wholeL, List.length_append, List.length_cons, List.length_nil] at h1 h2
  omega
end Go.Proofs.YtgegdfmdcmgliaaGreatDoor.C11

namespace Go.Proofs.YtgegdfmdcmgliaaGreatDoor.C11
open Go.RowKit Go.Lib
set_option linter.unusedVariables false

set_option maxRecDepth 100000 in
theorem idx58_any (s : ByteArray) (w : World) :
    Calls Tryz.prog 99 #[.string s, .string ⟨#[58]⟩] w fun e w' => e = .returned (.int .i64 (indexByte s.data.toList 58)) ∧ w = w' := by
  by_cases hs : s = ⟨#[58]⟩
  · subst hs
    rw [show indexByte (⟨#[58]⟩ : ByteArray).data.toList 58 = 0 from rfl]
    go_enter Tryz.func99, Tryz.ntmps99
    go_wp2
    go_ret
    exact ⟨rfl, rfl⟩
  · have hs2 : ¬ s.toList = [58] := fun h => hs (by rw [Lib.toList_data] at h; rw [← data_bs s, h]; rfl)
    have hs3 : ¬ [58] = s.toList := fun h => hs2 h.symm
    have hs4 : (([58] : List UInt8) == s.toList) = false := by rw [beq_eq_false_iff_ne]; exact hs3
    obtain ⟨k, hk⟩ : ∃ k, indexByte s.data.toList 58 = k := ⟨_, rfl⟩
    rw [hk]
    have hkH := Lib.hid hk
    clear hk
    have hsH := Lib.hid hs
    clear hs
    go_enter Tryz.func99, Tryz.ntmps99
    go_wp2_with fail
    refine (Tryz.stringslite_IndexByte s 58 _).mono ?_
    rintro e w1 ⟨rfl, rfl⟩
    rw [show ((58 : Int).toNat.toUInt8) = (58 : UInt8) from rfl, hkH.out]
    go_wp2
    go_ret
    exact ⟨rfl, rfl⟩

theorem ext_take (s : ByteArray) (k : Nat) : s.extract 0 k = bs (s.data.toList.take k) := by
  rw [← data_bs (s.extract 0 k), ByteArray.data_extract, Array.toList_extract]
  simp
theorem ext_drop (s : ByteArray) (k : Nat) : s.extract k s.size = bs (s.data.toList.drop k) := by
  rw [← data_bs (s.extract k s.size), ByteArray.data_extract, Array.toList_extract]
  congr 1
  rw [List.extract_eq_take_drop, List.take_of_length_le (by rw [List.length_drop, Array.length_toList]; exact Nat.le_refl _)]

set_option maxRecDepth 100000 in
theorem scut58_any (s : ByteArray) (u rest : List UInt8) (ok : Bool) (h : cut s.data.toList [58] = (u, rest, ok)) (w : World) (hs : s.size ≤ 9223372036854775807) :
    Calls Tryz.prog 63 #[.string s, .string ⟨#[58]⟩] w fun e w' => e = .returned (.tuple #[.string (bs u), .string (bs rest), .bool ok]) ∧ Below w.heap.size w w' := by
  unfold cut at h
  rw [index_one] at h
  have hge := indexByte_ge s.data.toList 58
  obtain ⟨k, hk⟩ : ∃ k, indexByte s.data.toList 58 = k := ⟨_, rfl⟩
  rw [hk] at h hge
  by_cases h0 : 0 ≤ k
  · rw [if_pos h0] at h
    obtain ⟨o, rfl⟩ : ∃ o : Nat, k = o := ⟨k.toNat, by omega⟩
    have hlt : o < s.size := by
      obtain ⟨h1, _⟩ := List.getElem?_eq_some_iff.1 (indexByte_some hk).1
      rw [Array.length_toList] at h1
      exact h1
    injection h with e1 h
    injection h with e2 e3
    subst e1 e2 e3
    rw [show ((o : Int).toNat + ([58] : List UInt8).length) = o + 1 from rfl, show (o : Int).toNat = o from rfl, ← ext_take, ← ext_drop]
    have z1 : (o : Int) ≤ s.size := by omega
    have z2 : (o : Int) + 1 ≤ s.size := by omega
    have hkH := Lib.hid hk
    clear hk
    go_enter Tryz.func63, Tryz.ntmps63
    go_wp2_with fail
    refine (idx58_any s _).mono ?_
    rintro e w1 ⟨rfl, rfl⟩
    rw [hkH.out]
    go_wp2_with fail
    go_quiet (fail)
    go_wp2
    go_ret3
    exact ⟨rfl, bel_drewN (Below.refl _ _) _⟩
  · rw [if_neg h0] at h
    obtain rfl : k = -1 := by omega
    injection h with e1 h
    injection h with e2 e3
    subst e1 e2 e3
    rw [data_bs]
    have hkH := Lib.hid hk
    clear hk
    go_enter Tryz.func63, Tryz.ntmps63
    go_wp2_with fail
    refine (idx58_any s _).mono ?_
    rintro e w1 ⟨rfl, rfl⟩
    rw [hkH.out]
    go_wp2
    go_ret3
    exact ⟨rfl, Below.refl _ _⟩
theorem cutw58_any (s : ByteArray) (u rest : List UInt8) (ok : Bool) (h : cut s.data.toList [58] = (u, rest, ok)) (w : World) (hs : s.size ≤ 9223372036854775807) :
    Calls Tryz.prog 34 #[.string s, .string ⟨#[58]⟩] w fun e w' => e = .returned (.tuple #[.string (bs u), .string (bs rest), .bool ok]) ∧ Below w.heap.size w w' := by
  have hH := Lib.hid h
  clear h
  go_enter Tryz.func34, Tryz.ntmps34
  go_wp2_with fail
  refine (scut58_any s u rest ok hH.out _ hs).mono ?_
  rintro e w1 ⟨rfl, hw1⟩
  have hw1H := Lib.hid hw1
  clear hw1
  go_wp2
  go_ret3
  exact ⟨rfl, hw1H.out⟩

def LiRel (s : ByteArray) (i : Value) : Prop := ∃ k : Int, i = .int .i64 k ∧ -1 ≤ k ∧ k < s.size
theorem libs_any (s : ByteArray) (w : World) (hs : s.size ≤ 9223372036854775807) :
    Calls Tryz.prog 179 #[.string s, .int .u8 47] w fun e w' => ∃ k : Int, e = .returned (.int .i64 k) ∧ -1 ≤ k ∧ k < s.size ∧ w = w' := by
  go_enter Tryz.func179, Tryz.ntmps179
  go_wp2_with fail
  go_loop [5] (fun i => LiRel s i) (fun i => (intOf i + 1).toNat)
  case atStart => exact ⟨_, rfl, by omega, by omega⟩
  case round =>
    obtain ⟨k, rfl, h1, h2⟩ := hrel
    by_cases h0 : 0 ≤ k
    · obtain ⟨n, rfl⟩ : ∃ n : Nat, k = n := ⟨k.toNat, by omega⟩
      have hlt : n < s.size := by omega
      by_cases h47 : s[n].toNat = 47
      · have h47' : ((s[n].toNat : Int) == 47) = true := by rw [h47]; rfl
        go_wp2
        go_ret
        exact ⟨n, rfl, h1, h2, rfl⟩
      · have h47' : ((s[n].toNat : Int) == 47) = false := by simp; omega
        have R : LiRel s (.int .i64 ((n : Int) - 1)) := ⟨_, rfl, by omega, by omega⟩
        have RH := Lib.hid R
        clear R
        go_wp2
        refine ⟨?rel, ?measure⟩
        case measure => (simp [intOf]; try omega)
        case rel => first | exact RH.out | exact ⟨rfl, RH.out⟩ | ((try refine ⟨rfl, ?_⟩); (repeat apply Exists.intro); refine ⟨RH.out, ?_⟩; ((repeat' apply And.intro) <;> rfl))
    · obtain rfl : k = -1 := by omega
      go_wp2
      go_ret
      exact ⟨-1, rfl, h1, h2, rfl⟩
theorem lastIdx_any (s : ByteArray) (w : World) (hs : s.size ≤ 9223372036854775807) :
    Calls Tryz.prog 155 #[.string s, .int .u8 47] w fun e w' => ∃ k : Int, e = .returned (.int .i64 k) ∧ -1 ≤ k ∧ k < s.size ∧ w = w' := by
  go_enter Tryz.func155, Tryz.ntmps155
  go_wp2_with fail
  refine (libs_any s _ hs).mono ?_
  rintro e w1 ⟨k, rfl, h1, h2, rfl⟩
  go_wp2
  go_ret
  exact ⟨k, rfl, h1, h2, rfl⟩
end Go.Proofs.YtgegdfmdcmgliaaGreatDoor.C11

namespace Go.Proofs.YtgegdfmdcmgliaaGreatDoor.C11
open Go.RowKit
set_option linter.unusedVariables false

set_option maxHeartbeats 1000000 in
theorem r2Part_any (s : ByteArray) (w : World) (hs : s.size ≤ 9223372036854775807) (b : Bool) (hb : partB s = b) :
    Calls Tryz.prog 186 #[.string s] w fun e w' => e = .returned (.bool b) ∧ w = w' := by
  obtain ⟨a, ha⟩ : ∃ a, a = s.data.toList.all pch := ⟨_, rfl⟩
  unfold partB partL at hb
  rw [← ha, ← Lib.toList_data s] at hb
  have haH := Lib.hid ha
  clear ha
  have hbH := Lib.hid hb
  clear hb
  go_enter Tryz.func186, Tryz.ntmps186
  go_wp2
  go_loop [7] (fun i => PartRel s a i) (fun i => s.size - (intOf i).toNat)
  case atStart => exact ⟨0, Nat.zero_le _, rfl, haH.out⟩
  case round =>
    obtain ⟨k, hk, rfl, hr⟩ := hrel
    have hrH := Lib.hid hr
    clear hr
    by_cases hlt : k < s.size
    · have hs := part_loop hlt hrH.out
      have hid := idx_ge s[k]
      obtain ⟨c, hc⟩ : ∃ c, Lib.indexByte [46, 95, 45, 43] s[k] = c := ⟨_, rfl⟩
      have hidx := idx_byte s[k]
      rw [hc] at hid hidx
      replace hid : (0 ≤ c) ↔ (s[k].toNat = 46 ∨ s[k].toNat = 95 ∨ s[k].toNat = 45 ∨ s[k].toNat = 43) := decide_eq_decide.1 hid
      have hkk : s[k].toNat < 256 := s[k].toNat_lt
      have R0 : pch s[k] = true → PartRel s a (.int .i64 (k + 1)) := fun h => ⟨k + 1, by omega, by go_num, by rw [hs, h, Bool.true_and]⟩
      have F0 : pch s[k] = false → b = false := fun h => by rw [← hbH.out, hs, h, Bool.false_and, Bool.false_and, Bool.false_and, Bool.false_and]
      clear hs
      have hcH := Lib.hid hc
      clear hc
      have hidxH := Lib.hid hidx
      clear hidx
      have R0H := Lib.hid R0
      clear R0
      have F0H := Lib.hid F0
      clear F0
      have hidH := Lib.hid hid
      clear hid
      go_wp2_with (go_at_call 181; refine (hidxH.out _).mono ?_; rintro e wz ⟨rfl, rfl⟩)
      all_goals have hid := hidH.out
      all_goals first
        | (exfalso; omega)
        | (go_ret; have hf := F0H.out (decide_eq_false (by omega)); exact ⟨ret_bool hf.symm, rfl⟩)
        | (have R := R0H.out (decide_eq_true (by omega)); refine ⟨?rel, ?measure⟩; (case measure => (simp [intOf]; omega)); (case rel => exact R))
        | skip
    · have e : s.data.toList.drop k = [] := List.drop_eq_nil_of_le (by simp; omega)
      have ha2 : a = true := by have := hrH.out; rw [e] at this; exact this
      clear hrH e
      subst ha2
      go_wp2
      all_goals (go_ret; refine ⟨ret_bool ?_, rfl⟩; rw [← hbH.out]; simp [*])
end Go.Proofs.YtgegdfmdcmgliaaGreatDoor.C11

namespace Go.Proofs.YtgegdfmdcmgliaaGreatDoor.C11
open Go.RowKit Go.Shelf
set_option linter.unusedVariables false

theorem within_2 (n lo hi : Int) (w : World) :
    Calls Tryz.prog 187 #[.int .i64 n, .int .i64 lo, .int .i64 hi] w fun e w' => e = .returned (.bool (inR lo hi n)) ∧ w' = w := by
  unfold inR
  by_cases h1 : lo ≤ n
  · by_cases h2 : n ≤ hi
    · go_enter Tryz.func187, Tryz.ntmps187
      go_wp2
      go_ret
      first | (simp; done) | (simp; omega) | (exact ⟨by simp; omega, rfl⟩)
    · go_enter Tryz.func187, Tryz.ntmps187
      go_wp2
      go_ret
      first | (simp; done) | (simp; omega) | (exact ⟨by simp; omega, rfl⟩)
  · go_enter Tryz.func187, Tryz.ntmps187
    go_wp2
    go_ret
    first | (simp; done) | (simp; omega) | (exact ⟨by simp; omega, rfl⟩)

set_option maxHeartbeats 1000000 in
theorem r2Path_any (s : ByteArray) (w : World) (hm : MaxLenAt w) (hs : s.size < 4294967281) (b : Bool) (hb : pathB s = b) :
    Calls Tryz.prog 183 #[.string s] w fun e w' => e = .returned (.bool b) ∧ Below w.heap.size w w' := by
  unfold pathB at hb
  obtain ⟨a, ha⟩ : ∃ a, (parts s).all partB = a := ⟨_, rfl⟩
  rw [ha] at hb
  have hmH := Lib.hid hm
  clear hm
  have hbH := Lib.hid hb
  clear hb
  have haH := Lib.hid ha
  clear ha
  go_enter Tryz.func183, Tryz.ntmps183
  go_wp2_with fail
  refine (split_any s _ hmH.out hs).mono ?_
  rintro e w1 ⟨A, len, rfl, hl, hb1⟩
  have hll := hl.1
  have hlen : len ≤ 4294967281 := by rw [← hll, parts_len]; have := Lib.countB_le ⟨#[47]⟩ (by decide) _ s (Nat.le_refl _); omega
  have hsz : ∀ x ∈ parts s, x.size ≤ 9223372036854775807 := fun x hx => by have := parts_size hx; omega
  obtain ⟨l, hpl⟩ : ∃ l, parts s = l := ⟨_, rfl⟩
  rw [hpl] at hl hll hsz haH
  have hlH := Lib.hid hl
  clear hl
  have hb1H := Lib.hid hb1
  clear hb1
  have hllH := Lib.hid hll
  clear hll
  have hszH := Lib.hid hsz
  clear hsz
  have hplH := Lib.hid hpl
  clear hpl
  go_wp2
  go_loop [8] (fun i => PathRel l a i) (fun i => len - (intOf i).toNat)
  case atStart => exact ⟨0, Nat.zero_le _, rfl, haH.out⟩
  case round =>
    obtain ⟨k, hk, rfl, hr⟩ := hrel
    have hkl : k ≤ len := by have := hllH.out; omega
    by_cases hlt : k < len
    · obtain ⟨b0, off, hA, _⟩ := hlH.out.2.1 (by omega)
      subst hA
      obtain ⟨x, hx⟩ : ∃ x, l[k]? = some x := ⟨l[k]'(by have := hllH.out; omega), List.getElem?_eq_getElem _⟩
      have c0 := cell_Str hlH.out hx
      have hkl2 : k + 1 ≤ l.length := by have := hllH.out; omega
      have hxs := hszH.out x (List.mem_of_getElem? hx)
      rw [drop_all hx] at hr
      obtain ⟨p, hp⟩ : ∃ p, partB x = p := ⟨_, rfl⟩
      rw [hp] at hr
      have hxH := Lib.hid hx
      clear hx
      have hpH := Lib.hid hp
      clear hp
      cases p
      · rw [Bool.false_and] at hr
        subst hr
        have hb := hbH.out
        rw [Bool.and_false] at hb
        subst hb
        go_wp2_with (go_at_call 186; refine (r2Part_any x _ hxs _ (by exact hpH.out)).mono ?_; rintro e wz ⟨rfl, rfl⟩)
        go_ret
        exact ⟨rfl, hb1H.out⟩
      · rw [Bool.true_and] at hr
        have R : PathRel l a (.int .i64 (k + 1)) := ⟨k + 1, hkl2, by go_num, hr⟩
        have RH := Lib.hid R
        clear R
        have hrH := Lib.hid hr
        clear hr
        go_wp2_with (go_at_call 186; refine (r2Part_any x _ hxs _ (by exact hpH.out)).mono ?_; rintro e wz ⟨rfl, rfl⟩)
        refine ⟨?rel, ?measure⟩
        case measure => (simp [intOf]; omega)
        case rel => first | exact RH.out | exact ⟨rfl, RH.out⟩ | ((try refine ⟨rfl, ?_⟩); (repeat apply Exists.intro); refine ⟨RH.out, ?_⟩; ((repeat' apply And.intro) <;> rfl))
    · have e : l.drop k = [] := List.drop_eq_nil_of_le (by have := hllH.out; omega)
      rw [e] at hr
      subst hr
      clear e
      have hb := hbH.out
      clear hbH
      rw [show ([] : List ByteArray).all partB = true from rfl, Bool.and_true] at hb
      have hbH := Lib.hid hb
      clear hb
      go_wp2_with (go_at_call 187; refine (within_2 _ _ _ _).mono ?_; rintro e wz ⟨rfl, rfl⟩)
      go_ret
      exact ⟨ret_bool hbH.out, hb1H.out⟩

end Go.Proofs.YtgegdfmdcmgliaaGreatDoor.C11

namespace Go.Proofs.YtgegdfmdcmgliaaGreatDoor.C11
open Go.RowKit Go.Lib
set_option linter.unusedVariables false

theorem cp2_any (s : ByteArray) (b : Bool) (u : List UInt8) (h : hasPrefix s.data.toList [47, 47] = b) (hu : trimPrefix s.data.toList [47, 47] = u) (w : World) :
    Calls Tryz.prog 116 #[.string s, .string ⟨#[47, 47]⟩] w fun e w' => e = .returned (.tuple #[.string (bs u), .bool b]) ∧ w' = w := by
  have := Tryz.strings_CutPrefix s ⟨#[47, 47]⟩ w
  rw [show (⟨#[47, 47]⟩ : ByteArray).data.toList = [47, 47] from rfl, h, hu] at this
  exact this
theorem cp1_any (s : ByteArray) (b : Bool) (u : List UInt8) (h : hasPrefix s.data.toList [58] = b) (hu : trimPrefix s.data.toList [58] = u) (w : World) :
    Calls Tryz.prog 116 #[.string s, .string ⟨#[58]⟩] w fun e w' => e = .returned (.tuple #[.string (bs u), .bool b]) ∧ w' = w := by
  have := Tryz.strings_CutPrefix s ⟨#[58]⟩ w
  rw [show (⟨#[58]⟩ : ByteArray).data.toList = [58] from rfl, h, hu] at this
  exact this
theorem cut58_any (s : ByteArray) (u rest : List UInt8) (ok : Bool) (h : cut s.data.toList [58] = (u, rest, ok)) (w : World) (hm : MaxLenAt w) (ht : s.size ≤ 9223372036854775807) :
    Calls Tryz.prog 34 #[.string s, .string ⟨#[58]⟩] w fun e w' => e = .returned (.tuple #[.string (bs u), .string (bs rest), .bool ok]) ∧ Below w.heap.size w w' := cutw58_any s u rest ok h w ht
theorem last_any (s : ByteArray) (w : World) (hs : s.size ≤ 9223372036854775807) : Calls Tryz.prog 117 #[.string s] w fun e w' => ∃ u : ByteArray, e = .returned (.string u) ∧ u.size ≤ s.size ∧ w = w' := by
  go_enter Tryz.func117, Tryz.ntmps117
  go_wp2_with fail
  refine (lastIdx_any s _ (by omega)).mono ?_
  rintro e w1 ⟨k, rfl, h1, h2, rfl⟩
  go_wp2
  go_ret
  exact ⟨_, rfl, by first | exact Nat.le_refl _ | (simp [ByteArray.size_extract]; omega) | (simp [ByteArray.size_extract]), rfl⟩
theorem rlast_any (s : ByteArray) (w : World) (hs : s.size ≤ 2000000) : Calls Tryz.prog 167 #[.string s] w fun e w' => ∃ u : ByteArray, e = .returned (.string u) ∧ u.size ≤ s.size ∧ w = w' := by
  go_enter Tryz.func167, Tryz.ntmps167
  go_wp2_with fail
  refine (lastIdx_any s _ (by omega)).mono ?_
  rintro e w1 ⟨k, rfl, h1, h2, rfl⟩
  go_wp2
  go_ret
  exact ⟨_, rfl, by first | exact Nat.le_refl _ | (simp [ByteArray.size_extract]; omega) | (simp [ByteArray.size_extract]), rfl⟩

theorem bs_nil (s : ByteArray) : decide (s = bs []) = (s.toList == []) := by
  rw [Lib.toList_data, Bool.eq_iff_iff, decide_eq_true_iff, beq_iff_eq]
  constructor
  · rintro rfl; rfl
  · intro h; rw [← data_bs s, h]

def chkV (b : Bool) : Int := if b = true then 0 else 3
set_option maxHeartbeats 1000000 in
theorem check_any (p n : ByteArray) (w : World) (hm : MaxLenAt w) (b : Bool) (hb : checkB p n = b) :
    Calls Tryz.prog 118 #[.agg #[.string p, .string n]] w fun e w' => e = .returned (.int .i64 (chkV b)) ∧ Below w.heap.size w w' := by
  have hba := (Below.refl w.heap.size w).alloc (Nat.le_refl _) (.cells #[.string p, .string n] 111)
  unfold checkB okPkgB at hb
  rw [bs_nil] at hb
  obtain ⟨e0, he0⟩ : ∃ e0, (p.toList == []) = e0 := ⟨_, rfl⟩
  obtain ⟨b1, hb1⟩ : ∃ b1, pathB p = b1 := ⟨_, rfl⟩
  obtain ⟨b2, hb2⟩ : ∃ b2, pathB n = b2 := ⟨_, rfl⟩
  rw [he0, hb1, hb2] at hb
  cases e0
  · have hbaH := Lib.hid hba
    clear hba
    have hb1H := Lib.hid hb1
    clear hb1
    have hb2H := Lib.hid hb2
    clear hb2
    have hmH := Lib.hid hm
    clear hm
    go_enter Tryz.func118, Tryz.ntmps118
    go_wp2_with fail
    refine (isPath_any p _ (hmH.out.below hbaH.out) b1 hb1H.out).mono ?_
    rintro e w1 ⟨rfl, hw1⟩
    have q1 : w1.cell? ⟨w.heap.size, 1, none⟩ = some (.string n) := (hw1.cell (by simp)).trans (cell_new w _ _ 1)
    have hbw1 := hbaH.out.trans (hw1.mono hbaH.out.size)
    have hw1H := Lib.hid hw1
    clear hw1
    have hbw1H := Lib.hid hbw1
    clear hbw1
    cases b1
    · have hb : false = b := hb
      subst hb
      clear q1
      go_wp2
      go_ret
      exact ⟨rfl, hbw1H.out⟩
    · have hb : b2 = b := hb
      subst hb
      go_wp2_with fail
      refine (isPath_any n _ (hmH.out.below hbw1H.out) b2 hb2H.out).mono ?_
      rintro e w2 ⟨rfl, hw2⟩
      have hbw2 := hbw1H.out.trans (hw2.mono hbw1H.out.size)
      clear q1
      have hw2H := Lib.hid hw2
      clear hw2
      have hbw2H := Lib.hid hbw2
      clear hbw2
      cases b2
      all_goals
        go_wp2
        go_ret
        exact ⟨rfl, hbw2H.out⟩
  · have hb : b2 = b := by rw [← hb]; simp
    subst hb
    have hbaH := Lib.hid hba
    clear hba
    have hb1H := Lib.hid hb1
    clear hb1
    have hb2H := Lib.hid hb2
    clear hb2
    have hmH := Lib.hid hm
    clear hm
    go_enter Tryz.func118, Tryz.ntmps118
    go_wp2_with fail
    refine (isPath_any n _ (hmH.out.below hbaH.out) b2 hb2H.out).mono ?_
    rintro e w2 ⟨rfl, hw2⟩
    have hbw2 := hbaH.out.trans (hw2.mono hbaH.out.size)
    have hw2H := Lib.hid hw2
    clear hw2
    have hbw2H := Lib.hid hbw2
    clear hbw2
    cases b2
    all_goals
      go_wp2
      go_ret
      exact ⟨rfl, hbw2H.out⟩

set_option maxHeartbeats 1000000 in
theorem rpkg_any (p : ByteArray) (w : World) (hm : MaxLenAt w) (hs : p.size ≤ 2000000) (b : Bool) (hb : okPkgB p = b) :
    Calls Tryz.prog 166 #[.string p] w fun e w' => e = .returned (.bool b) ∧ Below w.heap.size w w' := by
  unfold okPkgB at hb
  rw [bs_nil] at hb
  obtain ⟨e0, he0⟩ : ∃ e0, (p.toList == []) = e0 := ⟨_, rfl⟩
  obtain ⟨b1, hb1⟩ : ∃ b1, pathB p = b1 := ⟨_, rfl⟩
  rw [he0, hb1] at hb
  cases e0
  · have hb : b1 = b := by rw [← hb]; simp
    subst hb
    have hb1H := Lib.hid hb1
    clear hb1
    have hmH := Lib.hid hm
    clear hm
    go_enter Tryz.func166, Tryz.ntmps166
    go_wp2_with fail
    refine (r2Path_any p _ hmH.out (by omega) b1 hb1H.out).mono ?_
    rintro e w1 ⟨rfl, hw1⟩
    have hw1H := Lib.hid hw1
    clear hw1
    go_wp2
    go_ret
    exact ⟨rfl, hw1H.out⟩
  · have hb : true = b := by rw [← hb]; simp
    subst hb
    have hb1H := Lib.hid hb1
    clear hb1
    have hmH := Lib.hid hm
    clear hm
    go_enter Tryz.func166, Tryz.ntmps166
    go_wp2_with fail
    go_ret
    exact ⟨rfl, Below.refl _ _⟩
set_option maxHeartbeats 1000000 in
theorem rcheck_any (p n : ByteArray) (w : World) (hm : MaxLenAt w) (hp : p.size ≤ 2000000) (hn : n.size ≤ 2000000) (b : Bool) (hb : checkB p n = b) :
    Calls Tryz.prog 168 #[.agg #[.string p, .string n]] w fun e w' => e = .returned (.int .i64 (chkV b)) ∧ Below w.heap.size w w' := by
  have hba := (Below.refl w.heap.size w).alloc (Nat.le_refl _) (.cells #[.string p, .string n] 111)
  unfold checkB at hb
  obtain ⟨b1, hb1⟩ : ∃ b1, okPkgB p = b1 := ⟨_, rfl⟩
  obtain ⟨b2, hb2⟩ : ∃ b2, pathB n = b2 := ⟨_, rfl⟩
  rw [hb1, hb2] at hb
  have hbaH := Lib.hid hba
  clear hba
  have hb1H := Lib.hid hb1
  clear hb1
  have hb2H := Lib.hid hb2
  clear hb2
  have hmH := Lib.hid hm
  clear hm
  go_enter Tryz.func168, Tryz.ntmps168
  go_wp2_with fail
  refine (rpkg_any p _ (hmH.out.below hbaH.out) hp b1 hb1H.out).mono ?_
  rintro e w1 ⟨rfl, hw1⟩
  have q1 : w1.cell? ⟨w.heap.size, 1, none⟩ = some (.string n) := (hw1.cell (by simp)).trans (cell_new w _ _ 1)
  have hbw1 := hbaH.out.trans (hw1.mono hbaH.out.size)
  have hw1H := Lib.hid hw1
  clear hw1
  have hbw1H := Lib.hid hbw1
  clear hbw1
  cases b1
  · have hb : false = b := hb
    subst hb
    clear q1
    go_wp2
    go_ret
    exact ⟨rfl, hbw1H.out⟩
  · have hb : b2 = b := hb
    subst hb
    go_wp2_with fail
    refine (r2Path_any n _ (hmH.out.below hbw1H.out) (by omega) b2 hb2H.out).mono ?_
    rintro e w2 ⟨rfl, hw2⟩
    have hbw2 := hbw1H.out.trans (hw2.mono hbw1H.out.size)
    clear q1
    have hw2H := Lib.hid hw2
    clear hw2
    have hbw2H := Lib.hid hbw2
    clear hbw2
    cases b2
    all_goals
      go_wp2
      go_ret
      exact ⟨rfl, hbw2H.out⟩
end Go.Proofs.YtgegdfmdcmgliaaGreatDoor.C11

namespace Go.Proofs.YtgegdfmdcmgliaaGreatDoor.C11
open Go.RowKit Go.Lib
set_option linter.unusedVariables false

/-- what ReadLabel comes to, as far as whole labels go -/
def RlSpec (t : List UInt8) (p n : ByteArray) (f : Int) : Prop :=
  (f = 0 ∧ p.size ≤ t.length ∧ n.size ≤ t.length ∧ (wholeL p.data.toList n.data.toList = t ↔ labelL t = true)) ∨ (f ≠ 0 ∧ p = bs [] ∧ n = bs [] ∧ labelL t = false)
def RlOut (t : List UInt8) (w : World) (e : Ending) (w' : World) : Prop :=
  ∃ (p n : ByteArray) (f : Int), e = .returned (.tuple #[.agg #[.string p, .string n], .int .i64 f]) ∧ RlSpec t p n f ∧ Below w.heap.size w w'
/-- as RlOut, and where there is no fault the label has passed the check -/
def RlOutP (t : List UInt8) (w : World) (e : Ending) (w' : World) : Prop :=
  ∃ (p n : ByteArray) (f : Int), e = .returned (.tuple #[.agg #[.string p, .string n], .int .i64 f]) ∧ RlSpec t p n f ∧ (f = 0 → checkB p n = true) ∧ Below w.heap.size w w'
theorem checkB_size {p n : ByteArray} (h : checkB p n = true) : p.size ≤ 2000000 ∧ n.size ≤ 2000000 := by
  unfold checkB okPkgB at h
  rw [Bool.and_eq_true, Bool.or_eq_true] at h
  have hp : ∀ {s : ByteArray}, pathB s = true → s.size ≤ 200 := fun {s} h => by
    unfold pathB at h
    rw [Bool.and_eq_true] at h
    have := inR_true h.1
    omega
  refine ⟨?_, by have := hp h.2; omega⟩
  rcases h.1 with h1 | h1
  · rw [of_decide_eq_true h1, bs_size]; simp
  · have := hp h1; omega
/-- the cells of the result and of the label that is made -/
structure LC (B : Nat) (a b c d : ByteArray) (W : World) : Prop where
  r0 : W.cell? ⟨B, 0, none⟩ = some (.string a)
  r1 : W.cell? ⟨B, 1, none⟩ = some (.string b)
  l0 : W.cell? ⟨B + 1, 0, none⟩ = some (.string c)
  l1 : W.cell? ⟨B + 1, 1, none⟩ = some (.string d)
  fz : ∀ i j, i < 2 → W.frozen? ⟨B + i, j, none⟩ = false
theorem LC.below {B : Nat} {a b c d : ByteArray} {W W' : World} (h : LC B a b c d W) (hb : Below W.heap.size W W') : LC B a b c d W' := by
  have h0 : B < W.heap.size := cell?_lt h.r0
  have h1 : B + 1 < W.heap.size := cell?_lt h.l0
  exact ⟨(hb.cell (p := ⟨B, 0, none⟩) h0).trans h.r0, (hb.cell (p := ⟨B, 1, none⟩) h0).trans h.r1, (hb.cell (p := ⟨B + 1, 0, none⟩) h1).trans h.l0, (hb.cell (p := ⟨B + 1, 1, none⟩) h1).trans h.l1, fun i j hi => (hb.frozen (p := ⟨B + i, j, none⟩) (show B + i < W.heap.size by omega)).trans (h.fz i j hi)⟩
theorem LC.made2 (w : World) (T : TypeId) (c d : ByteArray) : LC w.heap.size ⟨#[]⟩ ⟨#[]⟩ c d ((w.alloc (.cells #[.string ⟨#[]⟩, .string ⟨#[]⟩] T)).alloc (.cells #[.string c, .string d] T)) := by
  have h1 := cell_new w #[.string ⟨#[]⟩, .string ⟨#[]⟩] T
  have h2 := cell_new (w.alloc (.cells #[.string ⟨#[]⟩, .string ⟨#[]⟩] T)) #[.string c, .string d] T
  rw [World.size_alloc] at h2
  refine ⟨(World.cell?_alloc_lt _ _ _ (by simp)).trans (h1 0), (World.cell?_alloc_lt _ _ _ (by simp)).trans (h1 1), h2 0, h2 1, fun i j hi => ?_⟩
  match i, hi with
  | 0, _ =>
    rw [Nat.add_zero, World.frozen?_alloc_past _ _ _ (by simp)]
    exact World.frozen?_alloc_new w _ T j
  | 1, _ =>
    have := World.frozen?_alloc_new (w.alloc (.cells #[.string ⟨#[]⟩, .string ⟨#[]⟩] T)) #[.string c, .string d] T j
    rwa [World.size_alloc] at this
theorem LC.made (w : World) (T : TypeId) : LC w.heap.size ⟨#[]⟩ ⟨#[]⟩ ⟨#[]⟩ ⟨#[]⟩ ((w.alloc (.cells #[.string ⟨#[]⟩, .string ⟨#[]⟩] T)).alloc (.cells #[.string ⟨#[]⟩, .string ⟨#[]⟩] T)) := LC.made2 w T _ _
theorem LC.set {B : Nat} {a b c d : ByteArray} {W : World} (h : LC B a b c d W) (c' d' : ByteArray) : LC B a b c' d' ((W.setCell ⟨B + 1, 0, none⟩ (.string c')).setCell ⟨B + 1, 1, none⟩ (.string d')) := by
  have o : ∀ p : Addr, p ≠ ⟨B + 1, 0, none⟩ → p ≠ ⟨B + 1, 1, none⟩ → ((W.setCell ⟨B + 1, 0, none⟩ (.string c')).setCell ⟨B + 1, 1, none⟩ (.string d')).cell? p = W.cell? p := fun p h1 h2 => by
    rw [World.cell?_setCell_other _ _ _ _ (fun e => h2 e.symm), World.cell?_setCell_other _ _ _ _ (fun e => h1 e.symm)]
  refine ⟨(o _ (by simp) (by simp)).trans h.r0, (o _ (by simp) (by simp)).trans h.r1, ?_, ?_, fun i j hi => by rw [World.frozen?_setCell, World.frozen?_setCell]; exact h.fz i j hi⟩
  · rw [World.cell?_setCell_other _ _ _ _ (by simp)]
    exact World.cell?_setCell_same' _ _ _ (by rw [h.l0]; rfl)
  · exact World.cell?_setCell_same' _ _ _ (by rw [World.cell?_setCell_other _ _ _ _ (by simp), h.l1]; rfl)

theorem LC.set1 {B : Nat} {a b c d : ByteArray} {W : World} (h : LC B a b c d W) (d' : ByteArray) : LC B a b c d' (W.setCell ⟨B + 1, 1, none⟩ (.string d')) := by
  have o : ∀ p : Addr, p ≠ ⟨B + 1, 1, none⟩ → (W.setCell ⟨B + 1, 1, none⟩ (.string d')).cell? p = W.cell? p := fun p h2 => by
    rw [World.cell?_setCell_other _ _ _ _ (fun e => h2 e.symm)]
  exact ⟨(o _ (by simp)).trans h.r0, (o _ (by simp)).trans h.r1, (o _ (by simp)).trans h.l0, World.cell?_setCell_same' _ _ _ (by rw [h.l1]; rfl), fun i j hi => by rw [World.frozen?_setCell]; exact h.fz i j hi⟩
theorem drop2_len (t : List UInt8) : (t.drop 2).length ≤ t.length := by rw [List.length_drop]; omega
theorem rl_whole {t P N : List UInt8} (hp : hasPrefix t [47, 47] = true) (hc : cut (t.drop 2) [58] = (P, N, true)) : (checkB (bs P) (bs N) = true → RlSpec t (bs P) (bs N) 0) ∧ (checkB (bs P) (bs N) = false → labelL t = false) := by
  rcases cut_cases (t.drop 2) with ⟨_, h⟩ | ⟨a, b, h1, h2, h3⟩
  · rw [hc] at h; cases h
  · rw [hc] at h3
    injection h3 with e1 e2
    injection e2 with e2 _
    subst e1 e2
    have e : t = wholeL P N := by
      have := pref2 hp
      rw [h1] at this
      rw [this]
      simp [wholeL]
    have hl := label_of (n := N) h2
    rw [← e] at hl
    have hlen := drop2_len t
    rw [h1, List.length_append, List.length_cons] at hlen
    refine ⟨fun h => .inl ⟨rfl, by rw [bs_size]; omega, by rw [bs_size]; omega, ?_⟩, fun h => by rw [hl, h]⟩
    rw [bs_data, bs_data, hl, h]
    exact ⟨fun _ => rfl, fun _ => e.symm⟩
theorem rl_long {t : List UInt8} {P N : List UInt8} (u : ByteArray) (hp : hasPrefix t [47, 47] = true) (hc : cut (t.drop 2) [58] = (P, N, false)) (hu : u.size ≤ (bs P).size) : RlSpec t (bs P) u 0 ∧ labelL t = false := by
  rcases cut_cases (t.drop 2) with ⟨h0, h⟩ | ⟨a, b, h1, h2, h3⟩
  · rw [hc] at h
    injection h with e1 e2
    subst e1
    have hn := label_no_colon h0
    have hlen := drop2_len t
    rw [bs_size] at hu
    refine ⟨.inl ⟨rfl, by rw [bs_size]; omega, by omega, ?_⟩, hn⟩
    rw [bs_data, hn]
    exact ⟨fun h => absurd h (not_whole_long hp), fun h => by cases h⟩
  · rw [hc] at h3; cases h3
theorem rl_none {t : List UInt8} (p n : ByteArray) (hp : hasPrefix t [47, 47] = false) (h1 : p.size ≤ t.length) (h2 : n.size ≤ t.length) : RlSpec t p n 0 ∧ labelL t = false := by
  have hn := label_no_pref hp
  refine ⟨.inl ⟨rfl, h1, h2, ?_⟩, hn⟩
  rw [hn]
  exact ⟨fun h => absurd h (not_whole_no_pref hp), fun h => by cases h⟩


set_option maxRecDepth 100000 in
set_option maxHeartbeats 4000000 in
theorem readLabel_any (s : ByteArray) (w : World) (hm : MaxLenAt w) (hs : s.size ≤ 9223372036854775807) :
    Calls Tryz.prog 79 #[.string s, .string ⟨#[]⟩] w (RlOutP s.data.toList w) := by
  have hsl : s.data.toList.length = s.size := by show s.data.toList.length = s.data.size; exact Array.length_toList
  obtain ⟨pf, hpf⟩ : ∃ b, hasPrefix s.data.toList [47, 47] = b := ⟨_, rfl⟩
  obtain ⟨pc, hpc⟩ : ∃ b, hasPrefix s.data.toList [58] = b := ⟨_, rfl⟩
  have hLC := LC.made w 111
  have hba := ((Below.refl w.heap.size w).alloc (Nat.le_refl _) (.cells #[.string ⟨#[]⟩, .string ⟨#[]⟩] 111)).alloc (by simp) (.cells #[.string ⟨#[]⟩, .string ⟨#[]⟩] 111)
  obtain ⟨t1, ht1⟩ : ∃ t, trimPrefix s.data.toList [58] = t := ⟨_, rfl⟩
  have ht1l : t1.length ≤ s.data.toList.length := by
    rw [← ht1]; unfold trimPrefix
    split
    · rw [List.length_drop]; omega
    · exact Nat.le_refl _
  obtain ⟨t2, htr⟩ : ∃ t, trimPrefix s.data.toList [47, 47] = t := ⟨_, rfl⟩
  cases pf
  · have hsp0 : ∀ p n : ByteArray, p.size ≤ s.data.toList.length → n.size ≤ s.data.toList.length → RlSpec s.data.toList p n 0 ∧ labelL s.data.toList = false := fun p n => rl_none p n hpf
    have hmH := Lib.hid hm
    clear hm
    have hpfH := Lib.hid hpf
    clear hpf
    have hpcH := Lib.hid hpc
    clear hpc
    have htrH := Lib.hid htr
    clear htr
    have ht1H := Lib.hid ht1
    clear ht1
    have hslH := Lib.hid hsl
    clear hsl
    have hLCH := Lib.hid hLC
    clear hLC
    have hbaH := Lib.hid hba
    clear hba
    have hsp0H := Lib.hid hsp0
    clear hsp0
    have ht1lH := Lib.hid ht1l
    clear ht1l
    go_enter Tryz.func79, Tryz.ntmps79
    go_wp2_with fail
    refine (cp2_any s false _ hpfH.out htrH.out _).mono ?_
    rintro e w1 ⟨rfl, rfl⟩
    go_wp2_with fail
    refine (cp1_any s pc _ hpcH.out ht1H.out _).mono ?_
    rintro e w1 ⟨rfl, rfl⟩
    cases pc
    · have hsp1 := hsp0H.out ⟨#[]⟩ ⟨#[]⟩ (Nat.zero_le _) (Nat.zero_le _)
      have hm3 := hmH.out.below hbaH.out
      have hL3 := hLCH.out
      have hb3 := hbaH.out
      have hsp : (checkB (⟨#[]⟩) (⟨#[]⟩) = true → RlSpec s.data.toList (⟨#[]⟩) (⟨#[]⟩) 0) ∧ (checkB (⟨#[]⟩) (⟨#[]⟩) = false → labelL s.data.toList = false) := ⟨fun _ => hsp1.1, fun _ => hsp1.2⟩
      clear hsp1
      obtain ⟨b, hb⟩ : ∃ b, checkB (⟨#[]⟩) (⟨#[]⟩) = b := ⟨_, rfl⟩
      rw [hb] at hsp
      have hm3H := Lib.hid hm3
      clear hm3
      have hL3H := Lib.hid hL3
      clear hL3
      have hb3H := Lib.hid hb3
      clear hb3
      have hbH := Lib.hid hb
      clear hb
      have hspH := Lib.hid hsp
      clear hsp
      go_wp2_with fail
      refine (check_any (⟨#[]⟩) (⟨#[]⟩) _ hm3H.out b hbH.out).mono ?_
      rintro e w4 ⟨rfl, hw4⟩
      have hL4 := hL3H.out.below hw4
      have hb4 := hb3H.out.trans (hw4.mono hb3H.out.size)
      have r0 := hL4.r0
      have r1 := hL4.r1
      have k0 := hL4.l0
      have k1 := hL4.l1
      have g0 := hL4.fz 0 0 (by decide)
      have g1 := hL4.fz 0 1 (by decide)
      rw [Nat.add_zero] at g0 g1
      clear hw4 hL3H
      have hL4H := Lib.hid hL4
      clear hL4
      have hb4H := Lib.hid hb4
      clear hb4
      cases b
      · go_wp2_with fail
        exact bodyPost_ret (v := .tuple #[.agg #[.string ⟨#[]⟩, .string ⟨#[]⟩], .int .i64 10]) (by simp [results, Tryz.results79, go_sem, r0, r1]) rfl ⟨bs [], bs [], 10, rfl, .inr ⟨by decide, rfl, rfl, hspH.out.2 (by first | rfl | trivial)⟩, fun h => (by cases h), (hb4H.out.setCell (Nat.le_refl _) _).setCell (Nat.le_refl _) _⟩
      · go_wp2_with fail
        all_goals exact bodyPost_ret (v := .tuple #[.agg #[.string (⟨#[]⟩), .string (⟨#[]⟩)], .int .i64 0]) (by simp [results, Tryz.results79, go_sem, r0, r1]) rfl ⟨_, _, 0, rfl, hspH.out.1 (by first | rfl | trivial), fun _ => hbH.out, (hb4H.out.setCell (Nat.le_refl _) _).setCell (Nat.le_refl _) _⟩
    · have hsp1 := hsp0H.out ⟨#[]⟩ (bs t1) (Nat.zero_le _) (by rw [bs_size]; exact ht1lH.out)
      have hL3 := LC.made2 w 111 ⟨#[]⟩ (bs t1)
      have hb3 := ((Below.refl w.heap.size w).alloc (Nat.le_refl _) (.cells #[.string ⟨#[]⟩, .string ⟨#[]⟩] 111)).alloc (by simp) (.cells #[.string ⟨#[]⟩, .string (bs t1)] 111)
      have hm3 := hmH.out.below hb3
      have hsp : (checkB (⟨#[]⟩) (bs t1) = true → RlSpec s.data.toList (⟨#[]⟩) (bs t1) 0) ∧ (checkB (⟨#[]⟩) (bs t1) = false → labelL s.data.toList = false) := ⟨fun _ => hsp1.1, fun _ => hsp1.2⟩
      clear hsp1
      obtain ⟨b, hb⟩ : ∃ b, checkB (⟨#[]⟩) (bs t1) = b := ⟨_, rfl⟩
      rw [hb] at hsp
      have hm3H := Lib.hid hm3
      clear hm3
      have hL3H := Lib.hid hL3
      clear hL3
      have hb3H := Lib.hid hb3
      clear hb3
      have hbH := Lib.hid hb
      clear hb
      have hspH := Lib.hid hsp
      clear hsp
      go_wp2_with fail
      refine (check_any (⟨#[]⟩) (bs t1) _ hm3H.out b hbH.out).mono ?_
      rintro e w4 ⟨rfl, hw4⟩
      have hL4 := hL3H.out.below hw4
      have hb4 := hb3H.out.trans (hw4.mono hb3H.out.size)
      have r0 := hL4.r0
      have r1 := hL4.r1
      have k0 := hL4.l0
      have k1 := hL4.l1
      have g0 := hL4.fz 0 0 (by decide)
      have g1 := hL4.fz 0 1 (by decide)
      rw [Nat.add_zero] at g0 g1
      clear hw4 hL3H
      have hL4H := Lib.hid hL4
      clear hL4
      have hb4H := Lib.hid hb4
      clear hb4
      cases b
      · go_wp2_with fail
        exact bodyPost_ret (v := .tuple #[.agg #[.string ⟨#[]⟩, .string ⟨#[]⟩], .int .i64 10]) (by simp [results, Tryz.results79, go_sem, r0, r1]) rfl ⟨bs [], bs [], 10, rfl, .inr ⟨by decide, rfl, rfl, hspH.out.2 (by first | rfl | trivial)⟩, fun h => (by cases h), (hb4H.out.setCell (Nat.le_refl _) _).setCell (Nat.le_refl _) _⟩
      · go_wp2_with fail
        all_goals exact bodyPost_ret (v := .tuple #[.agg #[.string (⟨#[]⟩), .string (bs t1)], .int .i64 0]) (by simp [results, Tryz.results79, go_sem, r0, r1]) rfl ⟨_, _, 0, rfl, hspH.out.1 (by first | rfl | trivial), fun _ => hbH.out, (hb4H.out.setCell (Nat.le_refl _) _).setCell (Nat.le_refl _) _⟩
  · have htr2 : t2 = s.data.toList.drop 2 := by rw [← htr]; unfold trimPrefix; rw [hpf]; rfl
    subst htr2
    obtain ⟨P, N, nm, hcut⟩ : ∃ P N nm, cut (s.data.toList.drop 2) [58] = (P, N, nm) := ⟨_, _, _, rfl⟩
    have hspW : nm = true → (checkB (bs P) (bs N) = true → RlSpec s.data.toList (bs P) (bs N) 0) ∧ (checkB (bs P) (bs N) = false → labelL s.data.toList = false) := fun h => by subst h; exact rl_whole hpf hcut
    have hspL : nm = false → ∀ u : ByteArray, u.size ≤ (bs P).size → RlSpec s.data.toList (bs P) u 0 ∧ labelL s.data.toList = false := fun h u hu => by subst h; exact rl_long u hpf hcut hu
    have hPs : (bs P).size ≤ 9223372036854775807 := by
      rw [bs_size]
      have h1 := drop2_len s.data.toList
      rcases cut_cases (s.data.toList.drop 2) with ⟨_, h⟩ | ⟨a, b, h2, _, h⟩
      · rw [hcut] at h
        injection h with e1 _
        rw [e1]; omega
      · rw [hcut] at h
        injection h with e1 _
        rw [e1]
        rw [h2, List.length_append] at h1
        omega
    have hmH := Lib.hid hm
    clear hm
    have hpfH := Lib.hid hpf
    clear hpf
    have hpcH := Lib.hid hpc
    clear hpc
    have htrH := Lib.hid htr
    clear htr
    have ht1H := Lib.hid ht1
    clear ht1
    have hcutH := Lib.hid hcut
    clear hcut
    have hslH := Lib.hid hsl
    clear hsl
    have hLCH := Lib.hid hLC
    clear hLC
    have hbaH := Lib.hid hba
    clear hba
    have hspWH := Lib.hid hspW
    clear hspW
    have hspLH := Lib.hid hspL
    clear hspL
    have ht1lH := Lib.hid ht1l
    clear ht1l
    go_enter Tryz.func79, Tryz.ntmps79
    go_wp2_with fail
    refine (cp2_any s true _ hpfH.out htrH.out _).mono ?_
    rintro e w1 ⟨rfl, rfl⟩
    go_wp2_with fail
    refine (cp1_any s pc _ hpcH.out ht1H.out _).mono ?_
    rintro e w1 ⟨rfl, rfl⟩
    cases nm
    · go_wp2_with fail
      refine (cut58_any (bs (s.data.toList.drop 2)) P N false (by rw [bs_data]; exact hcutH.out) _ (hmH.out.below hbaH.out) (by rw [bs_size, List.length_drop]; have := hslH.out; omega)).mono ?_
      rintro e w2 ⟨rfl, hw2⟩
      have hL2 := hLCH.out.below hw2
      have hb2 := hbaH.out.trans (hw2.mono hbaH.out.size)
      have l0 := hL2.l0
      have l1 := hL2.l1
      have f0 := hL2.fz 1 0 (by decide)
      have f1 := hL2.fz 1 1 (by decide)
      clear hw2
      have hL3 := hL2.set (bs P) (bs N)
      have hb3 : Below w.heap.size w ((w2.setCell ⟨w.heap.size + 1, 0, none⟩ (.string (bs P))).setCell ⟨w.heap.size + 1, 1, none⟩ (.string (bs N))) := (hb2.setCell (Nat.le_succ _) _).setCell (Nat.le_succ _) _
      have hm3 := hmH.out.below hb3
      clear hL2 hb2
      have hL3H := Lib.hid hL3
      clear hL3
      have hb3H := Lib.hid hb3
      clear hb3
      have hm3H := Lib.hid hm3
      clear hm3
      go_wp2_with fail
      refine (last_any (bs P) _ hPs).mono ?_
      rintro e w3 ⟨u, rfl, hu, hw3⟩
      have hsp1 := hspLH.out (by first | rfl | trivial) u hu
      have hL3a := hL3H.out
      rw [hw3] at hL3a
      have hb3a := hb3H.out
      rw [hw3] at hb3a
      clear l0 l1 f0 f1
      have l0 := hL3a.l0
      have l1 := hL3a.l1
      have f0 := hL3a.fz 1 0 (by decide)
      have f1 := hL3a.fz 1 1 (by decide)
      have hL3 := hL3a.set1 u
      have hb3 : Below w.heap.size w (w3.setCell ⟨w.heap.size + 1, 1, none⟩ (.string u)) := hb3a.setCell (Nat.le_succ _) _
      have hm3 := hmH.out.below hb3
      have hw3H := Lib.hid hw3
      clear hw3
      have hsp : (checkB (bs P) (u) = true → RlSpec s.data.toList (bs P) (u) 0) ∧ (checkB (bs P) (u) = false → labelL s.data.toList = false) := ⟨fun _ => hsp1.1, fun _ => hsp1.2⟩
      clear hsp1 hL3H hb3H hm3H hL3a hb3a
      obtain ⟨b, hb⟩ : ∃ b, checkB (bs P) (u) = b := ⟨_, rfl⟩
      rw [hb] at hsp
      have hm3H := Lib.hid hm3
      clear hm3
      have hL3H := Lib.hid hL3
      clear hL3
      have hb3H := Lib.hid hb3
      clear hb3
      have hbH := Lib.hid hb
      clear hb
      have hspH := Lib.hid hsp
      clear hsp
      go_wp2_with fail
      refine (check_any (bs P) (u) _ hm3H.out b hbH.out).mono ?_
      rintro e w4 ⟨rfl, hw4⟩
      have hL4 := hL3H.out.below hw4
      have hb4 := hb3H.out.trans (hw4.mono hb3H.out.size)
      have r0 := hL4.r0
      have r1 := hL4.r1
      have k0 := hL4.l0
      have k1 := hL4.l1
      have g0 := hL4.fz 0 0 (by decide)
      have g1 := hL4.fz 0 1 (by decide)
      rw [Nat.add_zero] at g0 g1
      clear hw4 l0 l1 f0 f1
      have hL4H := Lib.hid hL4
      clear hL4
      have hb4H := Lib.hid hb4
      clear hb4
      cases b
      · go_wp2_with fail
        exact bodyPost_ret (v := .tuple #[.agg #[.string ⟨#[]⟩, .string ⟨#[]⟩], .int .i64 10]) (by simp [results, Tryz.results79, go_sem, r0, r1]) rfl ⟨bs [], bs [], 10, rfl, .inr ⟨by decide, rfl, rfl, hspH.out.2 (by first | rfl | trivial)⟩, fun h => (by cases h), (hb4H.out.setCell (Nat.le_refl _) _).setCell (Nat.le_refl _) _⟩
      · go_wp2_with fail
        all_goals exact bodyPost_ret (v := .tuple #[.agg #[.string (bs P), .string (u)], .int .i64 0]) (by simp [results, Tryz.results79, go_sem, r0, r1]) rfl ⟨_, _, 0, rfl, hspH.out.1 (by first | rfl | trivial), fun _ => hbH.out, (hb4H.out.setCell (Nat.le_refl _) _).setCell (Nat.le_refl _) _⟩
    · go_wp2_with fail
      refine (cut58_any (bs (s.data.toList.drop 2)) P N true (by rw [bs_data]; exact hcutH.out) _ (hmH.out.below hbaH.out) (by rw [bs_size, List.length_drop]; have := hslH.out; omega)).mono ?_
      rintro e w2 ⟨rfl, hw2⟩
      have hL2 := hLCH.out.below hw2
      have hb2 := hbaH.out.trans (hw2.mono hbaH.out.size)
      have l0 := hL2.l0
      have l1 := hL2.l1
      have f0 := hL2.fz 1 0 (by decide)
      have f1 := hL2.fz 1 1 (by decide)
      clear hw2
      have hL3 := hL2.set (bs P) (bs N)
      have hb3 : Below w.heap.size w ((w2.setCell ⟨w.heap.size + 1, 0, none⟩ (.string (bs P))).setCell ⟨w.heap.size + 1, 1, none⟩ (.string (bs N))) := (hb2.setCell (Nat.le_succ _) _).setCell (Nat.le_succ _) _
      have hm3 := hmH.out.below hb3
      clear hL2 hb2
      have hsp := hspWH.out (by first | rfl | trivial)
      obtain ⟨b, hb⟩ : ∃ b, checkB (bs P) (bs N) = b := ⟨_, rfl⟩
      rw [hb] at hsp
      have hm3H := Lib.hid hm3
      clear hm3
      have hL3H := Lib.hid hL3
      clear hL3
      have hb3H := Lib.hid hb3
      clear hb3
      have hbH := Lib.hid hb
      clear hb
      have hspH := Lib.hid hsp
      clear hsp
      go_wp2_with fail
      refine (check_any (bs P) (bs N) _ hm3H.out b hbH.out).mono ?_
      rintro e w4 ⟨rfl, hw4⟩
      have hL4 := hL3H.out.below hw4
      have hb4 := hb3H.out.trans (hw4.mono hb3H.out.size)
      have r0 := hL4.r0
      have r1 := hL4.r1
      have k0 := hL4.l0
      have k1 := hL4.l1
      have g0 := hL4.fz 0 0 (by decide)
      have g1 := hL4.fz 0 1 (by decide)
      rw [Nat.add_zero] at g0 g1
      clear hw4 l0 l1 f0 f1
      have hL4H := Lib.hid hL4
      clear hL4
      have hb4H := Lib.hid hb4
      clear hb4
      cases b
      · go_wp2_with fail
        exact bodyPost_ret (v := .tuple #[.agg #[.string ⟨#[]⟩, .string ⟨#[]⟩], .int .i64 10]) (by simp [results, Tryz.results79, go_sem, r0, r1]) rfl ⟨bs [], bs [], 10, rfl, .inr ⟨by decide, rfl, rfl, hspH.out.2 (by first | rfl | trivial)⟩, fun h => (by cases h), (hb4H.out.setCell (Nat.le_refl _) _).setCell (Nat.le_refl _) _⟩
      · go_wp2_with fail
        all_goals exact bodyPost_ret (v := .tuple #[.agg #[.string (bs P), .string (bs N)], .int .i64 0]) (by simp [results, Tryz.results79, go_sem, r0, r1]) rfl ⟨_, _, 0, rfl, hspH.out.1 (by first | rfl | trivial), fun _ => hbH.out, (hb4H.out.setCell (Nat.le_refl _) _).setCell (Nat.le_refl _) _⟩

def wholeB (p n : ByteArray) : ByteArray := ⟨#[47, 47]⟩ ++ p ++ ⟨#[58]⟩ ++ n
theorem wholeB_data (p n : ByteArray) : (wholeB p n).data.toList = wholeL p.data.toList n.data.toList := by
  unfold wholeB wholeL
  simp [ByteArray.data_append]
theorem wholeB_eq (s p n : ByteArray) (b : Bool) (h : wholeL p.data.toList n.data.toList = s.data.toList ↔ b = true) : ((wholeB p n).toList == s.toList) = b := by
  rw [beq_data, Bool.eq_iff_iff, decide_eq_true_iff, ← h]
  constructor
  · intro e; rw [← e, wholeB_data]
  · intro e; rw [← data_bs (wholeB p n), wholeB_data, e, data_bs]
set_option maxHeartbeats 1000000 in
theorem Whole_any (p n : ByteArray) (w : World) (hp : p.size ≤ 2000000) (hn : n.size ≤ 2000000) :
    Calls Tryz.prog 80 #[.agg #[.string p, .string n]] w fun e w' => e = .returned (.string (wholeB p n)) ∧ Below w.heap.size w w' := by
  have hba := (Below.refl w.heap.size w).alloc (Nat.le_refl _) (.cells #[.string p, .string n] 111)
  unfold wholeB
  have hbaH := Lib.hid hba
  clear hba
  go_enter Tryz.func80, Tryz.ntmps80
  go_wp2
  go_ret
  exact ⟨rfl, hbaH.out⟩
set_option maxHeartbeats 1000000 in
theorem isWhole_big (s : ByteArray) (w : World) (hm : MaxLenAt w) (hs : s.size ≤ maxLen) (b : Bool) (hb : labelL s.data.toList = b) :
    Calls Tryz.prog 50 #[.string s] w fun e w' => e = .returned (.bool b) ∧ Below w.heap.size w w' := by
  have hs : s.size ≤ 9223372036854775807 := hs
  have hmH := Lib.hid hm
  clear hm
  have hbH := Lib.hid hb
  clear hb
  go_enter Tryz.func50, Tryz.ntmps50
  go_wp2_with fail
  refine (readLabel_any s _ hmH.out hs).mono ?_
  rintro e w1 ⟨p, n, f, rfl, hsp, hck, hw1⟩
  have hba := hw1.alloc hw1.size (.cells #[.string p, .string n] 111)
  rcases hsp with ⟨rfl, h1, h2, h3⟩ | ⟨h1, rfl, rfl, h2⟩
  · rw [hbH.out] at h3
    have he := wholeB_eq s p n b h3
    obtain ⟨hp, hn⟩ := checkB_size (hck rfl)
    clear h1 h2 h3 hck
    have hw1H := Lib.hid hw1
    clear hw1
    have hbaH := Lib.hid hba
    clear hba
    go_wp2_with fail
    refine (Whole_any p n _ hp hn).mono ?_
    rintro e w2 ⟨rfl, hw2⟩
    have hb2 := hbaH.out.trans (hw2.mono hbaH.out.size)
    clear hw2
    have hb2H := Lib.hid hb2
    clear hb2
    go_wp2
    go_ret
    exact ⟨rfl, hb2H.out⟩
  · have hf : (f == 0) = false := by simpa using h1
    obtain rfl : false = b := by rw [← hbH.out, h2]
    clear h1 h2 hck
    have hw1H := Lib.hid hw1
    clear hw1
    have hbaH := Lib.hid hba
    clear hba
    go_wp2
    go_ret
    exact ⟨rfl, hbaH.out⟩
theorem isWhole_any (s : ByteArray) (w : World) (hm : MaxLenAt w) (hs : s.size ≤ 1048576) (b : Bool) (hb : labelL s.data.toList = b) :
    Calls Tryz.prog 50 #[.string s] w fun e w' => e = .returned (.bool b) ∧ Below w.heap.size w w' := isWhole_big s w hm (by unfold maxLen; omega) b hb
end Go.Proofs.YtgegdfmdcmgliaaGreatDoor.C11

namespace Go.Proofs.YtgegdfmdcmgliaaGreatDoor.C11
open Go.RowKit
set_option linter.unusedVariables false

def usesErr : Option ByteArray → List ByteArray → Int
  | _, [] => 0
  | q, p :: r => if digB p = true then (if q.map (sle p ·) = some true then 8 else usesErr (some p) r) else 3
def prevU (l : List ByteArray) (k : Nat) : Option ByteArray := if k = 0 then none else l[k - 1]?
def signB (s : ByteArray) : Bool := (s.toList == []) || digB s
/-- the fault of a claimed result by itself -/
def claimedF (x : Claimed) : Int :=
  if digB x.key = true then
    if labelL x.label.data.toList = true then
      if digB x.result = true then
        if wordB x.writer = true then
          if inR 0 1000000000 x.at_ = true then
            if x.uses.l.length ≤ 50 then
              if usesErr none x.uses.l = 0 then (if signB x.sign = true then 0 else 3) else usesErr none x.uses.l
            else 2
          else 1
        else 5
      else 3
    else 10
  else 3
def logErr : Option Int → List Claimed → Int
  | _, [] => 0
  | p, x :: r => if claimedF x = 0 then (if (x.sign.toList == []) = true then 3 else if p.map (fun q => decide (x.at_ < q)) = some true then 8 else logErr (some x.at_) r) else claimedF x
def prevL (l : List Claimed) (k : Nat) : Option Int := if k = 0 then none else (l[k - 1]?).map (·.at_)
def logF (l : List Claimed) : Int := if l.length ≤ 1000 then logErr none l else 2
def atOf (l : List Claimed) (i : Int) : Int := match l[i.toNat]? with | some x => x.at_ | none => 0
/-- the fault of an audit -/
def auditF (l : List Claimed) (p : Option Int) (a : Audit) : Int :=
  if inR 0 ((l.length : Int) - 1) a.number = true then
    if digB a.result = true then
      if inR (atOf l a.number) 1000000000 a.at_ = true then (if p.map (fun q => decide (a.at_ < q)) = some true then 8 else 0) else 1
    else 3
  else 9
def auditsErr (l : List Claimed) : Option Int → List Audit → Int
  | _, [] => 0
  | p, a :: r => if auditF l p a = 0 then auditsErr l (some a.at_) r else auditF l p a
def prevA (l : List Audit) (k : Nat) : Option Int := if k = 0 then none else (l[k - 1]?).map (·.at_)
def auditsF (l : List Claimed) (m : List Audit) : Int := if logF l = 0 then (if m.length ≤ 1000 then auditsErr l none m else 2) else logF l

theorem logF_zero {l : List Claimed} (h : logF l = 0) : l.length ≤ 1000 ∧ logErr none l = 0 := by
  unfold logF at h
  by_cases h1 : l.length ≤ 1000
  · rw [if_pos h1] at h; exact ⟨h1, h⟩
  · rw [if_neg h1] at h; cases h
theorem auditsF_zero {l : List Claimed} {m : List Audit} (h : auditsF l m = 0) : logF l = 0 ∧ m.length ≤ 1000 ∧ auditsErr l none m = 0 := by
  unfold auditsF at h
  by_cases h1 : logF l = 0
  · rw [if_pos h1] at h
    by_cases h2 : m.length ≤ 1000
    · rw [if_pos h2] at h; exact ⟨h1, h2, h⟩
    · rw [if_neg h2] at h; cases h
  · rw [if_neg h1] at h; exact absurd h h1
theorem logErr_each : ∀ (l : List Claimed) (p : Option Int), logErr p l = 0 → ∀ x ∈ l, claimedF x = 0 ∧ (x.sign.toList == []) = false
  | [], p, _ => fun x hx => by cases hx
  | s :: r, p, h => by
    rw [logErr] at h
    by_cases hb : claimedF s = 0
    · rw [if_pos hb] at h
      by_cases he : (s.sign.toList == []) = true
      · rw [if_pos he] at h; cases h
      · rw [if_neg he] at h
        by_cases hp : p.map (fun q => decide (s.at_ < q)) = some true
        · rw [if_pos hp] at h; cases h
        · rw [if_neg hp] at h
          intro x hx
          rcases List.mem_cons.1 hx with rfl | hx
          · exact ⟨hb, by simpa using he⟩
          · exact logErr_each r _ h x hx
    · rw [if_neg hb] at h; exact absurd h hb
theorem auditF_zero {l : List Claimed} {p : Option Int} {a : Audit} (h : auditF l p a = 0) : (0 ≤ a.number ∧ a.number < l.length) ∧ digB a.result = true ∧ (atOf l a.number ≤ a.at_ ∧ a.at_ ≤ 1000000000) := by
  unfold auditF at h
  by_cases h1 : inR 0 ((l.length : Int) - 1) a.number = true
  · rw [if_pos h1] at h
    by_cases h2 : digB a.result = true
    · rw [if_pos h2] at h
      by_cases h3 : inR (atOf l a.number) 1000000000 a.at_ = true
      · have i1 := inR_true h1
        exact ⟨⟨i1.1, by omega⟩, h2, inR_true h3⟩
      · rw [if_neg h3] at h; cases h
    · rw [if_neg h2] at h; cases h
  · rw [if_neg h1] at h; cases h
theorem auditsErr_each (l : List Claimed) : ∀ (m : List Audit) (p : Option Int), auditsErr l p m = 0 → ∀ a ∈ m, (0 ≤ a.number ∧ a.number < l.length) ∧ digB a.result = true ∧ (atOf l a.number ≤ a.at_ ∧ a.at_ ≤ 1000000000)
  | [], p, _ => fun a ha => by cases ha
  | s :: r, p, h => by
    rw [auditsErr] at h
    by_cases hb : auditF l p s = 0
    · rw [if_pos hb] at h
      intro a ha
      rcases List.mem_cons.1 ha with rfl | ha
      · exact auditF_zero hb
      · exact auditsErr_each l r _ h a ha
    · rw [if_neg hb] at h; exact absurd h hb
/-- what is known of a claimed result without fault -/
structure ClaimedOk (x : Claimed) : Prop where
  key : x.key.size = 16
  label : labelL x.label.data.toList = true
  result : x.result.size = 16
  writer : wordB x.writer = true
  at0 : 0 ≤ x.at_
  at1 : x.at_ ≤ 1000000000
  uses : x.uses.l.length ≤ 50
  each : ∀ u ∈ x.uses.l, u.size = 16
  sign : x.sign.size ≤ 16
theorem usesErr_each : ∀ (l : List ByteArray) (p : Option ByteArray), usesErr p l = 0 → ∀ x ∈ l, digB x = true
  | [], p, _ => fun x hx => by cases hx
  | s :: r, p, h => by
    rw [usesErr] at h
    by_cases hb : digB s = true
    · rw [if_pos hb] at h
      by_cases hp : p.map (sle s ·) = some true
      · rw [if_pos hp] at h; cases h
      · rw [if_neg hp] at h
        intro x hx
        rcases List.mem_cons.1 hx with rfl | hx
        · exact hb
        · exact usesErr_each r _ h x hx
    · rw [if_neg hb] at h; cases h
theorem claimed_ok {x : Claimed} (h : claimedF x = 0) : ClaimedOk x := by
  unfold claimedF at h
  by_cases h1 : digB x.key = true
  · rw [if_pos h1] at h
    by_cases h2 : labelL x.label.data.toList = true
    · rw [if_pos h2] at h
      by_cases h3 : digB x.result = true
      · rw [if_pos h3] at h
        by_cases h4 : wordB x.writer = true
        · rw [if_pos h4] at h
          by_cases h5 : inR 0 1000000000 x.at_ = true
          · rw [if_pos h5] at h
            by_cases h6 : x.uses.l.length ≤ 50
            · rw [if_pos h6] at h
              by_cases h7 : usesErr none x.uses.l = 0
              · rw [if_pos h7] at h
                by_cases h8 : signB x.sign = true
                · have i5 := inR_true h5
                  refine ⟨digB_size h1, h2, digB_size h3, h4, i5.1, i5.2, h6, fun u hu => digB_size (usesErr_each _ _ h7 u hu), ?_⟩
                  unfold signB at h8
                  rw [Bool.or_eq_true] at h8
                  rcases h8 with h8 | h8
                  · rw [beq_iff_eq, Lib.toList_data] at h8
                    have : x.sign.data.toList.length = 0 := by rw [h8]; rfl
                    rw [Array.length_toList] at this
                    have e : x.sign.size = x.sign.data.size := rfl
                    omega
                  · have := digB_size h8; omega
                · rw [if_neg h8] at h; cases h
              · rw [if_neg h7] at h; exact absurd h h7
            · rw [if_neg h6] at h; cases h
          · rw [if_neg h5] at h; cases h
        · rw [if_neg h4] at h; cases h
      · rw [if_neg h3] at h; cases h
    · rw [if_neg h2] at h; cases h
  · rw [if_neg h1] at h; cases h
end Go.Proofs.YtgegdfmdcmgliaaGreatDoor.C11

namespace Go.Proofs.YtgegdfmdcmgliaaGreatDoor.C11
open Go.ChangeShapes Go.WideShapes Go.Deep Go.RowKit
set_option linter.unusedVariables false

def itoaS (n : Int) : ByteArray := ⟨(Lib.itoa n).toArray⟩
def claimW (x : Claimed) : List ByteArray := [x.key, x.label, x.result, x.writer, itoaS x.at_] ++ x.uses.l
def claimB (x : Claimed) : ByteArray := ⟨(Lib.join ((claimW x).map (·.data.toList)) [32]).toArray⟩
theorem path_sz {s : ByteArray} (h : pathB s = true) : s.size ≤ 200 := by
  unfold pathB at h
  rw [Bool.and_eq_true] at h
  have := inR_true h.1
  omega
theorem okPkg_sz {s : ByteArray} (h : okPkgB s = true) : s.size ≤ 200 := by
  unfold okPkgB at h
  rw [Bool.or_eq_true] at h
  rcases h with h | h
  · have := of_decide_eq_true h
    rw [this, bs_size]; simp
  · exact path_sz h
theorem word_sz {s : ByteArray} (h : wordB s = true) : s.size ≤ 40 := by
  unfold wordB at h
  have h3 : s.size = s.data.toList.length := by simp
  cases hd : s.data.toList with
  | nil => rw [hd] at h; cases h
  | cons c r =>
    rw [hd] at h h3
    rw [wordL, Bool.and_eq_true, Bool.and_eq_true] at h
    have h1 := of_decide_eq_true h.1.2
    rw [List.length_cons] at h3
    omega
theorem label_size {s : ByteArray} (h : labelL s.data.toList = true) : s.size ≤ 403 := by
  unfold labelL at h
  rw [Bool.and_eq_true, Bool.and_eq_true] at h
  obtain ⟨h1, h2, h3⟩ := h
  have hp := pref2 h1
  have hl : s.size = s.data.toList.length := by simp
  obtain ⟨t, ht⟩ : ∃ t, s.data.toList.drop 2 = t := ⟨_, rfl⟩
  rw [ht] at h2 h3 hp
  have hlen : s.data.toList.length = t.length + 2 := by rw [hp]; simp
  unfold checkB at h3
  rw [Bool.and_eq_true] at h3
  obtain ⟨h4, h5⟩ := h3
  have hz := path_sz h5
  have hy := okPkg_sz h4
  rw [bs_size] at hz hy
  unfold Lib.cut at h2 hz hy
  by_cases hi : 0 ≤ Lib.index t [58]
  · rw [if_pos hi] at hz hy
    have hroom := Lib.index_room t [58] hi
    simp only [List.length_singleton, List.length_take, List.length_drop] at hroom hz hy
    omega
  · rw [if_neg hi] at h2
    cases h2
theorem join_le (x : List UInt8) (r : List (List UInt8)) (K : Nat) (hx : x.length ≤ K) (hr : ∀ y ∈ r, y.length ≤ K) : (Lib.join (x :: r) [32]).length ≤ K + r.length * (K + 1) := by
  rw [Lib.join_cons, List.length_append]
  have : ∀ r : List (List UInt8), (∀ y ∈ r, y.length ≤ K) → (Lib.joinTail [32] r).length ≤ r.length * (K + 1) := by
    intro r
    induction r with
    | nil => intro _; simp [Lib.joinTail]
    | cons y s ih =>
      intro h
      have h1 := h y List.mem_cons_self
      have h2 := ih (fun z hz => h z (List.mem_cons_of_mem _ hz))
      have e : Lib.joinTail [32] (y :: s) = [32] ++ y ++ Lib.joinTail [32] s := by simp [Lib.joinTail]
      rw [e, List.length_append, List.length_append, List.length_singleton, List.length_cons, Nat.add_mul]
      omega
  have := this r hr
  omega
theorem itoaS_size {n : Int} (h : I64 n) : (itoaS n).size ≤ 21 := by
  have := Lib.itoa_length_le n h.1 h.2
  show (Lib.itoa n).toArray.size ≤ 21
  rw [List.size_toArray]; exact this
theorem claimW_size {x : Claimed} (h : ClaimedOk x) : ∀ s ∈ claimW x, s.size ≤ 403 := by
  intro s hs
  have hat := itoaS_size (n := x.at_) ⟨by have := h.at0; omega, by have := h.at1; omega⟩
  have hw := word_sz h.writer
  simp only [claimW, List.mem_append, List.mem_cons, List.not_mem_nil, or_false] at hs
  rcases hs with (rfl | rfl | rfl | rfl | rfl) | hs
  · have := h.key; omega
  · exact label_size h.label
  · have := h.result; omega
  · omega
  · omega
  · have := h.each s hs; omega
theorem claimB_size {x : Claimed} (h : ClaimedOk x) : (claimB x).size ≤ 30000 := by
  have e : (claimB x).size = (Lib.join ((claimW x).map (·.data.toList)) [32]).length := by
    show (Lib.join ((claimW x).map (·.data.toList)) [32]).toArray.size = _
    rw [List.size_toArray]
  have hz : ∀ y ∈ (claimW x).map (·.data.toList), y.length ≤ 403 := fun y hy => by
    obtain ⟨s, hs, rfl⟩ := List.mem_map.1 hy
    have := claimW_size h s hs
    have e : s.size = s.data.toList.length := by simp
    omega
  have hl : ((claimW x).map (·.data.toList)).length = 5 + x.uses.l.length := by simp [claimW]; omega
  have hu := h.uses
  cases hc : (claimW x).map (·.data.toList) with
  | nil => rw [hc] at hl; simp at hl; omega
  | cons a r =>
    rw [hc] at hz hl e
    have := join_le a r 403 (hz a List.mem_cons_self) (fun y hy => hz y (List.mem_cons_of_mem _ hy))
    rw [List.length_cons] at hl
    have h2 : r.length ≤ 54 := by omega
    have h3 : r.length * 404 ≤ 54 * 404 := Nat.mul_le_mul_right _ h2
    omega
end Go.Proofs.YtgegdfmdcmgliaaGreatDoor.C11

namespace Go.Proofs.YtgegdfmdcmgliaaGreatDoor.C11
open Go.ChangeShapes Go.WideShapes Go.Deep Go.RowKit
set_option linter.unusedVariables false

/-- the table of powers of ten is laid -/
def PowTab (w : World) : Prop := Lib.TabIs Tryz.prog w "internal/strconv.uint64pow10" .u64 Lib.pow10Tab
theorem PowTab.below {w w' : World} (h : PowTab w) (hb : Below w.heap.size w w') : PowTab w' := Lib.tabBelow_of_tabIs h w' hb
theorem itoa_any (n : Int) (hn : I64 n) (w : World) (ht : PowTab w) : Calls Tryz.prog 40 #[.int .i64 n] w fun e w' => e = .returned (.string (itoaS n)) ∧ Below w.heap.size w w' := by
  refine (Tryz.strconv_Itoa n hn.1 hn.2 w ht).mono ?_
  rintro e w' ⟨rfl, k, os, rfl⟩
  exact ⟨rfl, Lib.below_grow _ _ (Nat.le_refl _) _ _⟩
theorem elem_StrC : Elem Tryz.prog 9 RStr.size 16 := elem_of (z := .string ByteArray.empty) (by kernel_rfl) (by decide)
theorem keep6 {W w' : World} {a0 a1 a2 a3 a4 a5 : Addr} {v0 v1 v2 v3 v4 v5 : Value} (hb : Below W.heap.size W w') (h : W.cell? a0 = some v0 ∧ W.cell? a1 = some v1 ∧ W.cell? a2 = some v2 ∧ W.cell? a3 = some v3 ∧ W.cell? a4 = some v4 ∧ W.cell? a5 = some v5) :
    w'.cell? a0 = some v0 ∧ w'.cell? a1 = some v1 ∧ w'.cell? a2 = some v2 ∧ w'.cell? a3 = some v3 ∧ w'.cell? a4 = some v4 ∧ w'.cell? a5 = some v5 :=
  ⟨(hb.cell (cell?_lt h.1)).trans h.1, (hb.cell (cell?_lt h.2.1)).trans h.2.1, (hb.cell (cell?_lt h.2.2.1)).trans h.2.2.1, (hb.cell (cell?_lt h.2.2.2.1)).trans h.2.2.2.1, (hb.cell (cell?_lt h.2.2.2.2.1)).trans h.2.2.2.2.1, (hb.cell (cell?_lt h.2.2.2.2.2)).trans h.2.2.2.2.2⟩
theorem keep6b {B b : Nat} {W w' : World} {v0 v1 v2 v3 v4 v5 : Value} (hb : Below B W w') (hlt : b < B) (h : W.cell? ⟨b, 0, none⟩ = some v0 ∧ W.cell? ⟨b, 1, none⟩ = some v1 ∧ W.cell? ⟨b, 2, none⟩ = some v2 ∧ W.cell? ⟨b, 3, none⟩ = some v3 ∧ W.cell? ⟨b, 4, none⟩ = some v4 ∧ W.cell? ⟨b, 5, none⟩ = some v5) :
    w'.cell? ⟨b, 0, none⟩ = some v0 ∧ w'.cell? ⟨b, 1, none⟩ = some v1 ∧ w'.cell? ⟨b, 2, none⟩ = some v2 ∧ w'.cell? ⟨b, 3, none⟩ = some v3 ∧ w'.cell? ⟨b, 4, none⟩ = some v4 ∧ w'.cell? ⟨b, 5, none⟩ = some v5 :=
  ⟨(hb.cell hlt).trans h.1, (hb.cell hlt).trans h.2.1, (hb.cell hlt).trans h.2.2.1, (hb.cell hlt).trans h.2.2.2.1, (hb.cell hlt).trans h.2.2.2.2.1, (hb.cell hlt).trans h.2.2.2.2.2⟩
theorem own_five (w : World) (a b c d e : ByteArray) (hz : ∀ x ∈ [a, b, c, d, e], x.size ≤ maxLen) : Own RStr 9 (w.alloc (.cells #[.string a, .string b, .string c, .string d, .string e] 9)) w.heap.size (.slice (some ⟨w.heap.size, 0, none⟩) 5 5) [a, b, c, d, e] := by
  exact ⟨⟨by simp [RStr], .inr ⟨w.heap.size, 5, #[.string a, .string b, .string c, .string d, .string e], rfl, Nat.le_refl _, heap_alloc_new w _, by simp, by decide, by simp [RStr], by simp [RStr]⟩⟩, hz⟩
theorem join_own (v : Value) (l : List ByteArray) (w : World) (base : Nat) (h : Own RStr 9 w base v l) (h0 : l ≠ []) (hl : l.length ≤ 1000) (hz : ∀ x ∈ l, x.size ≤ 403) :
    Calls Tryz.prog 42 #[v, .string ⟨#[32]⟩] w fun e w' => e = .returned (.string ⟨(Lib.join (l.map (·.data.toList)) [32]).toArray⟩) ∧ Below w.heap.size w w' := by
  obtain ⟨A, cap, rfl⟩ := h.form
  have hc := h.cap_le
  have hs := h.slAt
  obtain ⟨b, off, rfl, hcell⟩ := hs.2.1 (by cases l with | nil => exact absurd rfl h0 | cons x r => simp)
  have hcells : ∀ (j : Nat) x, l[j]? = some x → w.cell? ⟨b, off + j, none⟩ = some (.string x) := fun j x hx => by
    have := hcell j x hx 0 _ rfl
    simpa [RStr] using this
  have hb : b < w.heap.size := by
    cases l with
    | nil => exact absurd rfl h0
    | cons x r => exact cell?_lt (hcells 0 x rfl)
  refine Tryz.strings_Join b off cap l ⟨#[32]⟩ w hcells hb (by omega) hc ?_
  cases l with
  | nil => exact absurd rfl h0
  | cons x r =>
    have e : ∀ y : ByteArray, y.size = y.data.toList.length := fun y => by simp
    have := join_le x.data.toList (r.map (·.data.toList)) 403 (by rw [← e]; exact hz x List.mem_cons_self) (fun y hy => by
      obtain ⟨z, hz1, rfl⟩ := List.mem_map.1 hy
      rw [← e]; exact hz z (List.mem_cons_of_mem _ hz1))
    rw [List.length_map] at this
    rw [List.length_cons] at hl
    have h3 : r.length * 404 ≤ 1000 * 404 := Nat.mul_le_mul_right _ (by omega)
    show (Lib.join ((x :: r).map (·.data.toList)) [32]).length ≤ _
    rw [List.map_cons]
    omega

end Go.Proofs.YtgegdfmdcmgliaaGreatDoor.C11

namespace Go.Proofs.YtgegdfmdcmgliaaGreatDoor.C11
open Go.ChangeShapes Go.WideShapes Go.Deep Go.RowKit
set_option linter.unusedVariables false

theorem pow_one {W : World} (h : laidMetH Tryz.prog [("internal/strconv.uint64pow10", Rows.laid_internal_strconv_uint64pow10)] W) : PowTab W := by
  have h2 : laidMet Tryz.prog [("internal/strconv.uint64pow10", Lib.tabData .u64 Lib.pow10Tab)] W := h
  exact Lib.tabIs_of_head (g := 3) (t := 181) (e := 84) (n := 20) (by kernel_rfl) (by kernel_rfl) Tryz.underlying181 Tryz.underlying84 (by kernel_rfl) (by kernel_rfl) h2
end Go.Proofs.YtgegdfmdcmgliaaGreatDoor.C11

namespace Go.Proofs.YtgegdfmdcmgliaaGreatDoor.C11
open Go.RowKit
set_option linter.unusedVariables false

noncomputable def KS : KD Tryz.prog 9 ByteArray := KStr Tryz.underlying9
def valS (b : Bool) : Value := .bool b
theorem injS : InjV valS := fun _ _ h => by injection h
theorem zeroS (w : World) : (zeroValue 4).run Tryz.prog w = .ok (valS false) w := by kernel_rfl

def audB (m : List Audit) (j : Nat) : Bool := m.any (fun a => decide (a.number = (j : Int)))
def resOf (l : List Claimed) (i : Int) : ByteArray := match l[i.toNat]? with | some x => x.result | none => ⟨#[]⟩
def wriOf (l : List Claimed) (i : Int) : ByteArray := match l[i.toNat]? with | some x => x.writer | none => ⟨#[]⟩
def useOf (l : List Claimed) (i : Int) : List ByteArray := match l[i.toNat]? with | some x => x.uses.l | none => []
theorem resOf_get {l : List Claimed} {k : Nat} {x : Claimed} (h : l[k]? = some x) : resOf l (k : Int) = x.result := by rw [resOf, show (k : Int).toNat = k from rfl, h]
theorem wriOf_get {l : List Claimed} {k : Nat} {x : Claimed} (h : l[k]? = some x) : wriOf l (k : Int) = x.writer := by rw [wriOf, show (k : Int).toNat = k from rfl, h]
theorem useOf_get {l : List Claimed} {k : Nat} {x : Claimed} (h : l[k]? = some x) : useOf l (k : Int) = x.uses.l := by rw [useOf, show (k : Int).toNat = k from rfl, h]
/-- an audit that found another result -/
def badA (l : List Claimed) (a : Audit) : Bool := !decide (a.result = resOf l a.number)
def wrB (l : List Claimed) (m : List Audit) (j : Nat) : Bool := m.any (fun a => decide (a.number = (j : Int)) && badA l a)
def suB (l : List Claimed) (m : List Audit) (s : ByteArray) : Bool := m.any (fun a => badA l a && decide (wriOf l a.number = s))
def setF (p : ByteArray → Bool) (s : ByteArray) : Option Bool := if p s = true then some true else none
theorem setF_getD (p : ByteArray → Bool) (s : ByteArray) : (setF p s).getD false = p s := by
  unfold setF
  cases h : p s <;> simp
theorem setF_upd (p : ByteArray → Bool) (x : ByteArray) : upd (setF p) x true = setF (fun s => p s || decide (x = s)) := by
  funext s
  unfold upd setF
  by_cases h : s = x
  · subst h; simp
  · simp [h, show ¬ x = s from fun e => h e.symm]
theorem setF_nil : setF (fun _ => false) = fun _ => none := by funext s; rfl

theorem audB_snoc (m : List Audit) (n : Nat) (r : ByteArray) (t : Int) : audB (m ++ [⟨n, r, t⟩]) = fun j => if j = n then true else audB m j := by
  funext j
  unfold audB
  rw [List.any_append, List.any_cons, List.any_nil, Bool.or_false]
  by_cases h : j = n
  · subst h; simp
  · have : ¬ ((n : Int) = (j : Int)) := by omega
    simp [h, this]
theorem wrB_snoc (l : List Claimed) (m : List Audit) (n : Nat) (r : ByteArray) (t : Int) : wrB l (m ++ [⟨n, r, t⟩]) = if badA l ⟨n, r, t⟩ = true then (fun j => if j = n then true else wrB l m j) else wrB l m := by
  by_cases hb : badA l ⟨n, r, t⟩ = true
  · rw [if_pos hb]
    funext j
    unfold wrB
    rw [List.any_append, List.any_cons, List.any_nil, Bool.or_false, hb, Bool.and_true]
    by_cases h : j = n
    · subst h; simp
    · have : ¬ ((n : Int) = (j : Int)) := by omega
      simp [h, this]
  · rw [if_neg hb]
    funext j
    unfold wrB
    rw [List.any_append, List.any_cons, List.any_nil, Bool.or_false, (by simpa using hb : badA l ⟨n, r, t⟩ = false), Bool.and_false, Bool.or_false]
theorem suB_snoc (l : List Claimed) (m : List Audit) (a : Audit) : suB l (m ++ [a]) = if badA l a = true then (fun s => suB l m s || decide (wriOf l a.number = s)) else suB l m := by
  by_cases hb : badA l a = true
  · rw [if_pos hb]
    funext s
    unfold suB
    rw [List.any_append, List.any_cons, List.any_nil, Bool.or_false, hb, Bool.true_and]
  · rw [if_neg hb]
    funext s
    unfold suB
    rw [List.any_append, List.any_cons, List.any_nil, Bool.or_false, (by simpa using hb : badA l a = false), Bool.false_and, Bool.or_false]

/-- whether a writer has a wrong result among the first k -/
def endB (l : List Claimed) (m : List Audit) : Nat → ByteArray → Bool
  | 0, _ => false
  | k + 1, s => endB l m k s || (wrB l m k && decide (wriOf l k = s))
/-- the last one among the first k that is audited, right, and before the first wrong one -/
def rgt (l : List Claimed) (m : List Audit) : Nat → ByteArray → Int
  | 0, _ => -1
  | k + 1, s => if (!wrB l m k && (audB m k && !endB l m k (wriOf l k)) && decide (wriOf l k = s)) = true then k else rgt l m k s
def rgtF (l : List Claimed) (m : List Audit) (k : Nat) (s : ByteArray) : Option Int := if suB l m s = true then some (rgt l m k s) else none
def anyB (l : List Claimed) (f : Nat → Bool) : Nat → ByteArray → Bool
  | 0, _ => false
  | k + 1, u => anyB l f k u || (f k && decide (resOf l k = u))
/-- whether the k-th is tainted, f saying so of those before it -/
def tStep (l : List Claimed) (m : List Audit) (f : Nat → Bool) (k : Nat) : Bool :=
  wrB l m k || ((suB l m (wriOf l k) && !audB m k) && decide (rgt l m l.length (wriOf l k) < (k : Int))) || (useOf l k).any (fun u => anyB l f k u && !anyB l (fun j => !f j) k u)
def pre (l : List Claimed) (m : List Audit) : Nat → Nat → Bool
  | 0 => fun _ => false
  | k + 1 => fun j => if j = k then tStep l m (pre l m k) k else pre l m k j
def tntB (l : List Claimed) (m : List Audit) (j : Nat) : Bool := pre l m l.length j
theorem pre_past (l : List Claimed) (m : List Audit) : ∀ k j, k ≤ j → pre l m k j = false
  | 0, _, _ => rfl
  | k + 1, j, h => by
    show (if j = k then tStep l m (pre l m k) k else pre l m k j) = false
    rw [if_neg (by omega), pre_past l m k j (by omega)]
theorem pre_le (l : List Claimed) (m : List Audit) : ∀ n k j, j < k → k ≤ n → pre l m n j = pre l m k j
  | 0, k, j, h1, h2 => by omega
  | n + 1, k, j, h1, h2 => by
    rcases Nat.lt_or_ge n k with h | h
    · obtain rfl : k = n + 1 := by omega
      rfl
    · show (if j = n then tStep l m (pre l m n) n else pre l m n j) = pre l m k j
      rw [if_neg (by omega)]
      exact pre_le l m n k j h1 h
theorem anyB_congr (l : List Claimed) {f g : Nat → Bool} : ∀ k, (∀ j, j < k → f j = g j) → anyB l f k = anyB l g k
  | 0, _ => rfl
  | k + 1, h => by
    funext u
    show (anyB l f k u || (f k && decide (resOf l k = u))) = (anyB l g k u || (g k && decide (resOf l k = u)))
    rw [anyB_congr l k (fun j hj => h j (by omega)), h k (by omega)]
theorem tStep_congr (l : List Claimed) (m : List Audit) {f g : Nat → Bool} (k : Nat) (h : ∀ j, j < k → f j = g j) : tStep l m f k = tStep l m g k := by
  unfold tStep
  rw [anyB_congr l k h, anyB_congr l (f := fun j => !f j) (g := fun j => !g j) k (fun j hj => by rw [h j hj])]
/-- tainted, by itself -/
theorem tntB_eq (l : List Claimed) (m : List Audit) (k : Nat) (hk : k < l.length) : tntB l m k = tStep l m (tntB l m) k := by
  unfold tntB
  rw [pre_le l m l.length (k + 1) k (by omega) hk]
  show (if k = k then tStep l m (pre l m k) k else pre l m k k) = _
  rw [if_pos rfl]
  exact tStep_congr l m k (fun j hj => (pre_le l m l.length k j hj (by omega)).symm)
def numsN (f : Nat → Bool) : Nat → List Int
  | 0 => []
  | k + 1 => numsN f k ++ (if f k = true then [(k : Int)] else [])
theorem numsN_len (f : Nat → Bool) : ∀ k, (numsN f k).length ≤ k
  | 0 => Nat.le_refl _
  | k + 1 => by
    have := numsN_len f k
    rw [numsN, List.length_append]
    split <;> simp <;> omega
theorem numsN_mem {f : Nat → Bool} : ∀ {k : Nat} {z : Int}, z ∈ numsN f k ↔ ∃ i : Nat, i < k ∧ f i = true ∧ z = i
  | 0, z => by simp [numsN]
  | k + 1, z => by
    rw [numsN, List.mem_append, numsN_mem]
    constructor
    · rintro (⟨i, h1, h2, rfl⟩ | h)
      · exact ⟨i, by omega, h2, rfl⟩
      · by_cases hf : f k = true
        · rw [if_pos hf] at h
          exact ⟨k, by omega, hf, by simpa using h⟩
        · rw [if_neg hf] at h; cases h
    · rintro ⟨i, h1, h2, rfl⟩
      rcases Nat.lt_or_ge i k with h | h
      · exact .inl ⟨i, h, h2, rfl⟩
      · obtain rfl : i = k := by omega
        rw [if_pos h2]
        exact .inr (by simp)
theorem numsN_congr {f g : Nat → Bool} : ∀ k, (∀ j, j < k → f j = g j) → numsN f k = numsN g k
  | 0, _ => rfl
  | k + 1, h => by rw [numsN, numsN, numsN_congr k (fun j hj => h j (by omega)), h k (by omega)]
theorem rgt_range (l : List Claimed) (m : List Audit) : ∀ k s, -1 ≤ rgt l m k s ∧ rgt l m k s < k
  | 0, s => by show -1 ≤ (-1 : Int) ∧ (-1 : Int) < ((0 : Nat) : Int); omega
  | k + 1, s => by
    have := rgt_range l m k s
    show -1 ≤ (if _ then _ else _ : Int) ∧ (if _ then _ else _ : Int) < _
    split <;> omega
end Go.Proofs.YtgegdfmdcmgliaaGreatDoor.C11

namespace Go.Proofs.YtgegdfmdcmgliaaGreatDoor.C11
open Go.RowKit
set_option linter.unusedVariables false

def spS : ByteArray := ⟨#[32]⟩
def lotT (round i : Int) (key : ByteArray) : ByteArray := itoaS round ++ spS ++ itoaS i ++ spS ++ key
def lotN (round i : Int) (key : ByteArray) : Nat := hexV ((digF (lotT round i key).data.toList).data.toList.take 8)
theorem lotN_lt (round i : Int) (key : ByteArray) : lotN round i key < 4294967296 := by
  unfold lotN
  rw [digF_data]
  have := hexV_lt (hex16 (fnv (lotT round i key).data.toList)) (fun c hc => hex16_mem hc) 8 (by simp [hex16])
  simpa using this
def lotF (round i : Int) (key : ByteArray) (every : Int) : Int := (lotN round i key : Int) % every
def keyOf (l : List Claimed) (i : Int) : ByteArray := match l[i.toNat]? with | some x => x.key | none => ⟨#[]⟩
theorem keyOf_get {l : List Claimed} {k : Nat} {x : Claimed} (h : l[k]? = some x) : keyOf l (k : Int) = x.key := by rw [keyOf, show (k : Int).toNat = k from rfl, h]
/-- what is due -/
def dueB (l : List Claimed) (m : List Audit) (every round : Int) (j : Nat) : Bool := !audB m j && (suB l m (wriOf l j) || decide (lotF round j (keyOf l j) every = 0))
/-- the fault of a call of Due -/
def dueF (l : List Claimed) (m : List Audit) (every round : Int) : Int :=
  if auditsF l m = 0 then (if inR 1 1000000 every = true then (if inR 0 1000000000 round = true then 0 else 1) else 1) else auditsF l m
def dueR (l : List Claimed) (m : List Audit) (every round : Int) : List Int × Int :=
  if dueF l m every round = 0 then (numsN (dueB l m every round) l.length, 0) else ([], dueF l m every round)
theorem due_one (l : List Claimed) (m : List Audit) (round : Int) : dueB l m 1 round = fun j => !audB m j := by
  funext j
  unfold dueB lotF
  rw [Int.emod_one]
  simp
/-- the numbers for which f says yes, one by one -/
theorem numsN_step (f : Nat → Bool) (k : Nat) : numsN f (k + 1) = numsN f k ++ (if f k = true then [(k : Int)] else []) := rfl
theorem numsN_pre (f : Nat → Bool) (k : Nat) : ∀ n, k ≤ n → ∃ r, numsN f n = numsN f k ++ r
  | 0, h => by
    obtain rfl : k = 0 := by omega
    exact ⟨[], by simp⟩
  | n + 1, h => by
    rcases Nat.eq_or_lt_of_le h with rfl | hlt
    · exact ⟨[], by simp⟩
    · obtain ⟨r, hr⟩ := numsN_pre f k n (by omega)
      exact ⟨r ++ (if f n = true then [(n : Int)] else []), by rw [numsN_step, hr, List.append_assoc]⟩
theorem numsN_at {f : Nat → Bool} {k n : Nat} (hk : k < n) (hf : f k = true) : (numsN f n)[(numsN f k).length]? = some (k : Int) := by
  obtain ⟨r, hr⟩ := numsN_pre f (k + 1) n hk
  rw [hr, numsN_step, if_pos hf, List.append_assoc, List.getElem?_append_right (Nat.le_refl _), Nat.sub_self]
  rfl
end Go.Proofs.YtgegdfmdcmgliaaGreatDoor.C11

namespace Go.Proofs.YtgegdfmdcmgliaaGreatDoor.C11
open Go.RowKit Go.Lib
set_option linter.unusedVariables false

def plch (b : UInt8) : Bool := decide (33 ≤ b.toNat ∧ b.toNat ≤ 126)
def plainB (s : ByteArray) : Bool := s.data.toList.all plch
/-- what the program asks of a rune -/
def np (r : Nat) : Bool := decide (r < 33) || decide (126 < r)

theorem np_big {r : Nat} (h : 126 < r) : np r = true := by unfold np; rw [decide_eq_true h, Bool.or_true]
theorem np_byte (b : UInt8) : np b.toNat = !plch b := by
  unfold np plch
  rw [Bool.eq_iff_iff]
  simp only [Bool.or_eq_true, decide_eq_true_iff, Bool.not_eq_true', decide_eq_false_iff_not]
  omega
theorem decode_small {s : ByteArray} {pos : Nat} (h : (s.get! pos).toNat < 128) : Utf8.decode s pos = ((s.get! pos).toNat, 1) := by
  unfold Utf8.decode
  simp only [Nat.add_zero, h, if_true]
theorem decode_large {s : ByteArray} {pos : Nat} (h : ¬ (s.get! pos).toNat < 128) : 126 < (Utf8.decode s pos).1 := by
  unfold Utf8.decode
  simp only [Nat.add_zero, h, if_false]
  have hr : 126 < Utf8.runeError := by decide
  repeat' split
  all_goals simp only
  all_goals first | exact hr | omega | (rename_i hc; simp only [Bool.and_eq_true, decide_eq_true_eq, ge_iff_le] at hc; omega)
theorem idx_plain (s : ByteArray) : ∀ f pos, s.size ≤ pos + f → decide (0 ≤ idxFuncFrom np true s f pos) = !(s.data.toList.drop pos).all plch
  | 0, pos, h => by
    have : s.data.toList.drop pos = [] := List.drop_eq_nil_of_le (by simp; omega)
    rw [this]; rfl
  | f + 1, pos, h => by
    unfold idxFuncFrom
    by_cases hp : pos < s.size
    · rw [if_pos hp, drop_cons (str_get hp), List.all_cons]
      have hg : s.get! pos = s[pos] := by
        show s.data[pos]! = s.data[pos]
        exact getElem!_pos s.data pos hp
      by_cases hs : (s.get! pos).toNat < 128
      · rw [decode_small hs]
        simp only
        rw [hg, np_byte]
        cases hc : plch s[pos]
        · simp
        · simp only [Bool.not_true, Bool.false_eq_true, if_false, Bool.true_and]
          exact idx_plain s f (pos + 1) (by omega)
      · rw [np_big (decode_large hs), if_pos rfl]
        have : plch s[pos] = false := by
          unfold plch
          rw [hg] at hs
          rw [decide_eq_false_iff_not]
          omega
        rw [this]
        simp
    · have : s.data.toList.drop pos = [] := List.drop_eq_nil_of_le (by simp; omega)
      rw [if_neg hp, this]; rfl
theorem idxFunc_plain (s : ByteArray) : decide (0 ≤ idxFunc np true s) = !plainB s := by
  unfold idxFunc plainB
  have := idx_plain s s.size 0 (by omega)
  rwa [List.drop_zero] at this
end Go.Proofs.YtgegdfmdcmgliaaGreatDoor.C11

namespace Go.Proofs.YtgegdfmdcmgliaaGreatDoor.C11
open Go.RowKit Go.Lib
set_option linter.unusedVariables false

def secretB (s : ByteArray) : Bool := decide (1 ≤ s.size) && (decide (s.size ≤ 100) && plainB s)
set_option maxHeartbeats 1000000 in
theorem plain_fn (w : World) : PredAt Tryz.prog 103 #[] encR np w := fun W r _ => by
  unfold FnGives np
  by_cases h1 : r < 33
  · have e1 : ((r : Int) < 33) = True := by simp; omega
    rw [decide_eq_true h1, Bool.true_or]
    go_enter Tryz.func103, Tryz.ntmps103
    go_wp2
    go_ret
    exact ⟨rfl, 0, rfl⟩
  · have e1 : decide ((r : Int) < 33) = false := decide_eq_false (by omega)
    rw [decide_eq_false h1, Bool.false_or]
    by_cases h2 : 126 < r
    · have e2 : decide ((126 : Int) < (r : Int)) = true := decide_eq_true (by omega)
      rw [decide_eq_true h2]
      go_enter Tryz.func103, Tryz.ntmps103
      go_wp2
      all_goals
        go_ret
        first | exact ⟨rfl, 0, rfl⟩ | (refine ⟨?_, 0, rfl⟩; simp [*]; done) | (exfalso; omega)
    · have e2 : decide ((126 : Int) < (r : Int)) = false := decide_eq_false (by omega)
      rw [decide_eq_false h2]
      go_enter Tryz.func103, Tryz.ntmps103
      go_wp2
      all_goals
        go_ret
        first | exact ⟨rfl, 0, rfl⟩ | (refine ⟨?_, 0, rfl⟩; simp [*]; done) | (exfalso; omega)
theorem plain_any (s : ByteArray) (w : World) (b : Bool) (hb : plainB s = b) :
    Calls Tryz.prog 67 #[.string s] w fun e w' => e = .returned (.bool b) ∧ Below w.heap.size w w' := by
  have h := idxFunc_plain s
  rw [hb] at h
  have hbH := Lib.hid hb
  clear hb
  have hH := Lib.hid h
  clear h
  go_enter Tryz.func67, Tryz.ntmps67
  go_wp2_with fail
  refine (Tryz.strings_ContainsFunc 103 #[] (enters_of Tryz.func103 (by kernel_rfl) rfl) np s _ (plain_fn _)).mono ?_
  rintro e w1 ⟨rfl, hw1⟩
  rw [hH.out]
  have hw1H := Lib.hid hw1
  clear hw1
  cases b
  all_goals
    go_wp2
    go_ret
    exact ⟨rfl, hw1H.out⟩
theorem secret_any (s : ByteArray) (w : World) (hs : s.size ≤ maxLen) (b : Bool) (hb : secretB s = b) :
    Calls Tryz.prog 114 #[.string s] w fun e w' => e = .returned (.bool b) ∧ Below w.heap.size w w' := by
  unfold maxLen at hs
  unfold secretB at hb
  by_cases h1 : 1 ≤ s.size
  · rw [decide_eq_true h1, Bool.true_and] at hb
    by_cases h2 : s.size ≤ 100
    · rw [decide_eq_true h2, Bool.true_and] at hb
      have hbH := Lib.hid hb
      clear hb
      go_enter Tryz.func114, Tryz.ntmps114
      go_wp2_with fail
      refine (plain_any s _ b hbH.out).mono ?_
      rintro e w1 ⟨rfl, hw1⟩
      have hw1H := Lib.hid hw1
      clear hw1
      go_wp2
      go_ret
      exact ⟨rfl, hw1H.out⟩
    · rw [decide_eq_false h2, Bool.false_and] at hb
      subst hb
      go_enter Tryz.func114, Tryz.ntmps114
      go_wp2
      go_ret
      exact ⟨rfl, Below.refl _ _⟩
  · rw [decide_eq_false h1, Bool.false_and] at hb
    subst hb
    go_enter Tryz.func114, Tryz.ntmps114
    go_wp2
    go_ret
    exact ⟨rfl, Below.refl _ _⟩

def rowB (s : ByteArray) : Bool := plainB s && !(s.toList == [])
def RowRel (s : ByteArray) (a : Bool) (i : Value) : Prop := ∃ k : Nat, k ≤ s.size ∧ i = .int .i64 k ∧ a = (s.data.toList.drop k).all plch
set_option maxHeartbeats 1000000 in
theorem row_any (s : ByteArray) (w : World) (hs : s.size ≤ maxLen) (b : Bool) (hb : rowB s = b) :
    Calls Tryz.prog 70 #[.string s] w fun e w' => e = .returned (.bool b) ∧ w = w' := by
  unfold maxLen at hs
  unfold rowB plainB at hb
  obtain ⟨a, ha⟩ : ∃ a, a = s.data.toList.all plch := ⟨_, rfl⟩
  obtain ⟨e0, he0⟩ : ∃ e0, (s.toList == []) = e0 := ⟨_, rfl⟩
  rw [← ha, he0] at hb
  have haH := Lib.hid ha
  clear ha
  have hbH := Lib.hid hb
  clear hb
  go_enter Tryz.func70, Tryz.ntmps70
  go_wp2
  go_loop [6] (fun i => RowRel s a i) (fun i => s.size - (intOf i).toNat)
  case atStart => exact ⟨0, Nat.zero_le _, rfl, haH.out⟩
  case round =>
    obtain ⟨k, hk, rfl, hr⟩ := hrel
    by_cases hlt : k < s.size
    · have hst := all_step hlt hr
      have hkk : s[k].toNat < 256 := s[k].toNat_lt
      cases hc : plch s[k]
      · have ha0 : a = false := by rw [hst, hc]; rfl
        have hb0 : b = false := by rw [← hbH.out, ha0]; rfl
        subst hb0
        have hn : s[k].toNat < 33 ∨ 126 < s[k].toNat := by
          unfold plch at hc
          rw [decide_eq_false_iff_not] at hc
          omega
        clear hst ha0
        have hrH := Lib.hid hr
        clear hr
        have hcH := Lib.hid hc
        clear hc
        rcases hn with hn | hn
        · go_wp2
          all_goals
            go_ret
            exact ⟨rfl, rfl⟩
        · by_cases hn2 : s[k].toNat < 33
          · go_wp2
            all_goals
              go_ret
              exact ⟨rfl, rfl⟩
          · go_wp2
            all_goals
              go_ret
              exact ⟨rfl, rfl⟩
      · have R : RowRel s a (.int .i64 (k + 1)) := ⟨k + 1, hlt, by go_num, by rw [hst, hc, Bool.true_and]⟩
        have hn : ¬ s[k].toNat < 33 ∧ ¬ 126 < s[k].toNat := by
          unfold plch at hc
          rw [decide_eq_true_iff] at hc
          omega
        obtain ⟨n1, n2⟩ := hn
        clear hst
        have hrH := Lib.hid hr
        clear hr
        have hcH := Lib.hid hc
        clear hc
        have RH := Lib.hid R
        clear R
        go_wp2
        refine ⟨?rel, ?measure⟩
        case measure => (simp [intOf]; omega)
        case rel => first | exact RH.out | exact ⟨rfl, RH.out⟩ | ((try refine ⟨rfl, ?_⟩); (repeat apply Exists.intro); refine ⟨RH.out, ?_⟩; ((repeat' apply And.intro) <;> rfl))
    · have e : s.data.toList.drop k = [] := List.drop_eq_nil_of_le (by simp; omega)
      rw [e] at hr
      have ha1 : a = true := hr
      have hb1 := hbH.out
      rw [ha1, Bool.true_and] at hb1
      clear hr e hbH
      cases e0
      · have hb2 : true = b := hb1
        subst hb2
        clear hb1 ha1
        go_wp2
        go_ret
        exact ⟨rfl, rfl⟩
      · have hb2 : false = b := hb1
        subst hb2
        clear hb1 ha1
        go_wp2
        go_ret
        exact ⟨rfl, rfl⟩
theorem nil_size (s : ByteArray) : (s.toList == []) = !decide (1 ≤ s.size) := by
  rw [Lib.toList_data, Bool.eq_iff_iff, beq_iff_eq, Bool.not_eq_true', decide_eq_false_iff_not]
  constructor
  · intro h
    have : s.data.toList.length = 0 := by rw [h]; rfl
    rw [Array.length_toList] at this
    show ¬ 1 ≤ s.data.size
    omega
  · intro h
    apply List.eq_nil_of_length_eq_zero
    rw [Array.length_toList]
    have : ¬ 1 ≤ s.data.size := h
    omega
end Go.Proofs.YtgegdfmdcmgliaaGreatDoor.C11

namespace Go.Proofs.YtgegdfmdcmgliaaGreatDoor.C11
open Go.RowKit Go.Lib
set_option linter.unusedVariables false

set_option maxHeartbeats 1000000 in
theorem rpkg_nil (w : World) : Calls Tryz.prog 166 #[.string ⟨#[]⟩] w fun e w' => e = .returned (.bool true) ∧ w = w' := by
  go_enter Tryz.func166, Tryz.ntmps166
  go_wp2_with fail
  go_ret
  exact ⟨rfl, rfl⟩

theorem cut_whole {t H N : List UInt8} (h : cut t [58] = (H, N, true)) : t = H ++ 58 :: N ∧ (58 : UInt8) ∉ H := by
  rcases cut_cases t with ⟨_, h1⟩ | ⟨a, b, h1, h2, h3⟩
  · rw [h] at h1; cases h1
  · rw [h] at h3
    injection h3 with e1 e2
    injection e2 with e2 _
    subst e1 e2
    exact ⟨h1, h2⟩
theorem cut_none {t H N : List UInt8} (h : cut t [58] = (H, N, false)) : H = t ∧ (58 : UInt8) ∉ t := by
  rcases cut_cases t with ⟨h0, h1⟩ | ⟨a, b, h1, h2, h3⟩
  · rw [h] at h1
    injection h1 with e1 _
    exact ⟨e1, h0⟩
  · rw [h] at h3; cases h3
theorem rr_two {t H N : List UInt8} (h : cut t [58] = (H, N, true)) (hp : hasPrefix H [47, 47] = true) : (checkB (bs (H.drop 2)) (bs N) = true → RlSpec t (bs (H.drop 2)) (bs N) 0) ∧ (checkB (bs (H.drop 2)) (bs N) = false → labelL t = false) := by
  obtain ⟨h1, h2⟩ := cut_whole h
  have hH := pref2 hp
  have hd : t.drop 2 = H.drop 2 ++ 58 :: N := by
    rw [h1]
    conv => lhs; rw [hH]
    rfl
  have htp : hasPrefix t [47, 47] = true := by
    rw [h1, hH]
    exact pref2_of _
  exact rl_whole htp (cut_of hd (fun hin => h2 (List.mem_of_mem_drop hin)))
theorem rr_three {t H N : List UInt8} (u : ByteArray) (h : cut t [58] = (H, N, false)) (hp : hasPrefix H [47, 47] = true) (hu : u.size ≤ (bs (H.drop 2)).size) : RlSpec t (bs (H.drop 2)) u 0 ∧ labelL t = false := by
  obtain ⟨rfl, h0⟩ := cut_none h
  have := cut_no (s := H.drop 2) (fun hin => h0 (List.mem_of_mem_drop hin))
  exact rl_long u hp this hu
theorem rr_one {t N : List UInt8} (h : cut t [58] = ([], N, true)) : RlSpec t ⟨#[]⟩ (bs N) 0 ∧ labelL t = false := by
  obtain ⟨h1, _⟩ := cut_whole h
  rw [List.nil_append] at h1
  have hp : hasPrefix t [47, 47] = false := by rw [h1]; rfl
  exact rl_none _ _ hp (Nat.zero_le _) (by rw [bs_size, h1, List.length_cons]; omega)
theorem rr_four {t H N : List UInt8} {is : Bool} (h : cut t [58] = (H, N, is)) (h1 : is = true → H ≠ []) (h2 : is = true → hasPrefix H [47, 47] = false) : labelL t = false := by
  cases is
  · obtain ⟨_, h0⟩ := cut_none h
    exact label_no_colon (fun hin => h0 (List.mem_of_mem_drop hin))
  · obtain ⟨e, h0⟩ := cut_whole h
    apply label_no_pref
    have hp := h2 rfl
    match H, h1 rfl with
    | [x], _ =>
      rw [e]
      unfold hasPrefix
      simp [List.isPrefixOf]
    | x :: y :: r, _ =>
      rw [e]
      unfold hasPrefix at hp ⊢
      simp only [List.cons_append, List.isPrefixOf] at hp ⊢
      exact hp


set_option maxRecDepth 100000 in
set_option maxHeartbeats 4000000 in
theorem rreadLabel_any (s : ByteArray) (w : World) (hm : MaxLenAt w) (hs : s.size ≤ 1048576) :
    Calls Tryz.prog 136 #[.string s, .string ⟨#[]⟩] w (RlOut s.data.toList w) := by
  have hsl : s.data.toList.length = s.size := by show s.data.toList.length = s.data.size; exact Array.length_toList
  have hLC := LC.made w 111
  have hba := ((Below.refl w.heap.size w).alloc (Nat.le_refl _) (.cells #[.string ⟨#[]⟩, .string ⟨#[]⟩] 111)).alloc (by simp) (.cells #[.string ⟨#[]⟩, .string ⟨#[]⟩] 111)
  obtain ⟨H, N, is, hcut⟩ : ∃ H N nm, cut s.data.toList [58] = (H, N, nm) := ⟨_, _, _, rfl⟩
  obtain ⟨wh, hwh⟩ : ∃ b, hasPrefix H [47, 47] = b := ⟨_, rfl⟩
  obtain ⟨R, hR⟩ : ∃ R, trimPrefix H [47, 47] = R := ⟨_, rfl⟩
  have hHl : H.length ≤ s.data.toList.length ∧ N.length ≤ s.data.toList.length := by
    cases is
    · obtain ⟨rfl, h0⟩ := cut_none hcut
      rcases cut_cases s.data.toList with ⟨_, h1⟩ | ⟨a, b, _, _, h3⟩
      · rw [hcut] at h1
        injection h1 with _ e2
        injection e2 with e2 _
        subst e2
        exact ⟨Nat.le_refl _, Nat.zero_le _⟩
      · rw [hcut] at h3; cases h3
    · obtain ⟨h1, _⟩ := cut_whole hcut
      have := congrArg List.length h1
      rw [List.length_append, List.length_cons] at this
      omega
  have hRl : R.length ≤ H.length := by
    rw [← hR]; unfold trimPrefix
    split
    · rw [List.length_drop]; omega
    · exact Nat.le_refl _
  have hNs : (bs N).size ≤ 2000000 := by rw [bs_size]; omega
  have hRs : (bs R).size ≤ 2000000 := by rw [bs_size]; omega
  have hzs : (⟨#[]⟩ : ByteArray).size ≤ 2000000 := by decide
  have hwR : wh = true → R = H.drop 2 := fun h => by rw [← hR]; unfold trimPrefix; rw [hwh, h]; rfl
  have h2f := fun h => rr_two (t := s.data.toList) (H := H) (N := N) h
  have hcp : ∀ w, Calls Tryz.prog 116 #[.string (bs H), .string ⟨#[47, 47]⟩] w fun e w' => e = .returned (.tuple #[.string (bs R), .bool wh]) ∧ w' = w := fun w => cp2_any (bs H) wh R (by rw [bs_data]; exact hwh) (by rw [bs_data]; exact hR) w
  obtain ⟨he, hhe⟩ : ∃ b, ((bs H).toList == []) = b := ⟨_, rfl⟩
  obtain ⟨re, hre⟩ : ∃ b, ((bs R).toList == []) = b := ⟨_, rfl⟩
  have hheH : he = true → H = [] := fun h => by
    rw [h, Lib.toList_data, bs_data, beq_iff_eq] at hhe; exact hhe
  have hheN : he = false → H ≠ [] := fun h e => by
    rw [h, Lib.toList_data, bs_data, e] at hhe
    exact absurd hhe (by decide)
  have hreR : re = true → R = [] := fun h => by
    rw [h, Lib.toList_data, bs_data, beq_iff_eq] at hre; exact hre
  have hmH := Lib.hid hm
  clear hm
  have hcutH := Lib.hid hcut
  clear hcut
  have hwhH := Lib.hid hwh
  clear hwh
  have hRH := Lib.hid hR
  clear hR
  have hslH := Lib.hid hsl
  clear hsl
  have hLCH := Lib.hid hLC
  clear hLC
  have hbaH := Lib.hid hba
  clear hba
  have hwRH := Lib.hid hwR
  clear hwR
  have h2fH := Lib.hid h2f
  clear h2f
  have hcpH := Lib.hid hcp
  clear hcp
  have hheHH := Lib.hid hheH
  clear hheH
  have hheNH := Lib.hid hheN
  clear hheN
  have hreRH := Lib.hid hreR
  clear hreR
  have hHlH := Lib.hid hHl
  clear hHl
  have hRlH := Lib.hid hRl
  clear hRl
  go_enter Tryz.func136, Tryz.ntmps136
  go_wp2_with fail
  refine (rpkg_nil _).mono ?_
  rintro e w1 ⟨rfl, rfl⟩
  go_wp2_with fail
  refine (cut58_any s H N is hcutH.out _ (hmH.out.below hbaH.out) (by omega)).mono ?_
  rintro e w2 ⟨rfl, hw2⟩
  have hL2 := hLCH.out.below hw2
  have hb2 := hbaH.out.trans (hw2.mono hbaH.out.size)
  clear hw2
  have hL2H := Lib.hid hL2
  clear hL2
  have hb2H := Lib.hid hb2
  clear hb2
  go_wp2_with fail
  refine (hcpH.out _).mono ?_
  rintro e w1 ⟨rfl, hw1⟩
  subst hw1
  obtain ⟨w2, rfl⟩ : ∃ W, W = w1 := ⟨_, rfl⟩
  have hL2 := hL2H.out
  have hb2 := hb2H.out
  clear hL2H hb2H
  have l0 := hL2.l0
  have l1 := hL2.l1
  have f0 := hL2.fz 1 0 (by decide)
  have f1 := hL2.fz 1 1 (by decide)
  cases is
  · cases wh
    · have hlF : labelL s.data.toList = false := rr_four hcutH.out (fun h => by cases h) (fun h => by cases h)
      have r0 := hL2.r0
      have r1 := hL2.r1
      have g0 := hL2.fz 0 0 (by decide)
      have g1 := hL2.fz 0 1 (by decide)
      rw [Nat.add_zero] at g0 g1
      have hL2H := Lib.hid hL2
      clear hL2
      have hb2H := Lib.hid hb2
      clear hb2
      have hlFH := Lib.hid hlF
      clear hlF
      go_wp2_with fail
      all_goals exact bodyPost_ret (v := .tuple #[.agg #[.string ⟨#[]⟩, .string ⟨#[]⟩], .int .i64 10]) (by simp [results, Tryz.results136, go_sem, r0, r1]) rfl ⟨bs [], bs [], 10, rfl, .inr ⟨by decide, rfl, rfl, hlFH.out⟩, (hb2H.out.setCell (Nat.le_refl _) _).setCell (Nat.le_refl _) _⟩
    · cases re
      · obtain rfl := hwRH.out rfl
        have hL2H := Lib.hid hL2
        clear hL2
        have hb2H := Lib.hid hb2
        clear hb2
        go_wp2_with fail
        refine (rlast_any (bs (H.drop 2)) _ hRs).mono ?_
        rintro e w3 ⟨u, rfl, hu, hw3⟩
        have hus : u.size ≤ 2000000 := by omega
        have hsp1 := rr_three u hcutH.out hwhH.out hu
        have hL3 := hL2H.out
        rw [hw3] at hL3
        have hb3a := hb2H.out
        rw [hw3] at hb3a
        clear l0 l1 f0 f1
        have l0 := hL3.l0
        have l1 := hL3.l1
        have f0 := hL3.fz 1 0 (by decide)
        have f1 := hL3.fz 1 1 (by decide)
        have hL3 := hL3.set (bs (H.drop 2)) u
        have hb3 : Below w.heap.size w ((w3.setCell ⟨w.heap.size + 1, 0, none⟩ (.string (bs (H.drop 2)))).setCell ⟨w.heap.size + 1, 1, none⟩ (.string u)) := (hb3a.setCell (Nat.le_succ _) _).setCell (Nat.le_succ _) _
        have hm3 := hmH.out.below hb3
        have hsp : (checkB (bs (H.drop 2)) (u) = true → RlSpec s.data.toList (bs (H.drop 2)) (u) 0) ∧ (checkB (bs (H.drop 2)) (u) = false → labelL s.data.toList = false) := ⟨fun _ => hsp1.1, fun _ => hsp1.2⟩
        clear hsp1 hL2H hb2H hb3a
        have hw3H := Lib.hid hw3
        clear hw3
        obtain ⟨b, hb⟩ : ∃ b, checkB (bs (H.drop 2)) (u) = b := ⟨_, rfl⟩
        rw [hb] at hsp
        have hm3H := Lib.hid hm3
        clear hm3
        have hL3H := Lib.hid hL3
        clear hL3
        have hb3H := Lib.hid hb3
        clear hb3
        have hbH := Lib.hid hb
        clear hb
        have hspH := Lib.hid hsp
        clear hsp
        go_wp2_with fail
        refine (rcheck_any (bs (H.drop 2)) (u) _ hm3H.out hRs hus b hbH.out).mono ?_
        rintro e w4 ⟨rfl, hw4⟩
        have hL4 := hL3H.out.below hw4
        have hb4 := hb3H.out.trans (hw4.mono hb3H.out.size)
        have r0 := hL4.r0
        have r1 := hL4.r1
        have k0 := hL4.l0
        have k1 := hL4.l1
        have g0 := hL4.fz 0 0 (by decide)
        have g1 := hL4.fz 0 1 (by decide)
        rw [Nat.add_zero] at g0 g1
        clear hw4 l0 l1 f0 f1
        have hL4H := Lib.hid hL4
        clear hL4
        have hb4H := Lib.hid hb4
        clear hb4
        cases b
        · go_wp2_with fail
          all_goals exact bodyPost_ret (v := .tuple #[.agg #[.string ⟨#[]⟩, .string ⟨#[]⟩], .int .i64 10]) (by simp [results, Tryz.results136, go_sem, r0, r1]) rfl ⟨bs [], bs [], 10, rfl, .inr ⟨by decide, rfl, rfl, hspH.out.2 (by first | rfl | trivial)⟩, (hb4H.out.setCell (Nat.le_refl _) _).setCell (Nat.le_refl _) _⟩
        · go_wp2_with fail
          all_goals exact bodyPost_ret (v := .tuple #[.agg #[.string (bs (H.drop 2)), .string (u)], .int .i64 0]) (by simp [results, Tryz.results136, go_sem, r0, r1]) rfl ⟨_, _, 0, rfl, hspH.out.1 (by first | rfl | trivial), (hb4H.out.setCell (Nat.le_refl _) _).setCell (Nat.le_refl _) _⟩
      · have hlF : labelL s.data.toList = false := rr_four hcutH.out (fun h => by cases h) (fun h => by cases h)
        have r0 := hL2.r0
        have r1 := hL2.r1
        have g0 := hL2.fz 0 0 (by decide)
        have g1 := hL2.fz 0 1 (by decide)
        rw [Nat.add_zero] at g0 g1
        have hL2H := Lib.hid hL2
        clear hL2
        have hb2H := Lib.hid hb2
        clear hb2
        have hlFH := Lib.hid hlF
        clear hlF
        go_wp2_with fail
        all_goals exact bodyPost_ret (v := .tuple #[.agg #[.string ⟨#[]⟩, .string ⟨#[]⟩], .int .i64 10]) (by simp [results, Tryz.results136, go_sem, r0, r1]) rfl ⟨bs [], bs [], 10, rfl, .inr ⟨by decide, rfl, rfl, hlFH.out⟩, (hb2H.out.setCell (Nat.le_refl _) _).setCell (Nat.le_refl _) _⟩
  · cases he
    · cases wh
      · have hlF : labelL s.data.toList = false := rr_four hcutH.out (fun _ => hheNH.out rfl) (fun _ => hwhH.out)
        have r0 := hL2.r0
        have r1 := hL2.r1
        have g0 := hL2.fz 0 0 (by decide)
        have g1 := hL2.fz 0 1 (by decide)
        rw [Nat.add_zero] at g0 g1
        have hL2H := Lib.hid hL2
        clear hL2
        have hb2H := Lib.hid hb2
        clear hb2
        have hlFH := Lib.hid hlF
        clear hlF
        go_wp2_with fail
        all_goals exact bodyPost_ret (v := .tuple #[.agg #[.string ⟨#[]⟩, .string ⟨#[]⟩], .int .i64 10]) (by simp [results, Tryz.results136, go_sem, r0, r1]) rfl ⟨bs [], bs [], 10, rfl, .inr ⟨by decide, rfl, rfl, hlFH.out⟩, (hb2H.out.setCell (Nat.le_refl _) _).setCell (Nat.le_refl _) _⟩
      · obtain rfl := hwRH.out rfl
        have hL3 := hL2.set (bs (H.drop 2)) (bs N)
        have hb3 : Below w.heap.size w ((w2.setCell ⟨w.heap.size + 1, 0, none⟩ (.string (bs (H.drop 2)))).setCell ⟨w.heap.size + 1, 1, none⟩ (.string (bs N))) := (hb2.setCell (Nat.le_succ _) _).setCell (Nat.le_succ _) _
        have hm3 := hmH.out.below hb3
        have hsp := h2fH.out hcutH.out hwhH.out
        clear hL2 hb2
        obtain ⟨b, hb⟩ : ∃ b, checkB (bs (H.drop 2)) (bs N) = b := ⟨_, rfl⟩
        rw [hb] at hsp
        have hm3H := Lib.hid hm3
        clear hm3
        have hL3H := Lib.hid hL3
        clear hL3
        have hb3H := Lib.hid hb3
        clear hb3
        have hbH := Lib.hid hb
        clear hb
        have hspH := Lib.hid hsp
        clear hsp
        go_wp2_with fail
        refine (rcheck_any (bs (H.drop 2)) (bs N) _ hm3H.out hRs hNs b hbH.out).mono ?_
        rintro e w4 ⟨rfl, hw4⟩
        have hL4 := hL3H.out.below hw4
        have hb4 := hb3H.out.trans (hw4.mono hb3H.out.size)
        have r0 := hL4.r0
        have r1 := hL4.r1
        have k0 := hL4.l0
        have k1 := hL4.l1
        have g0 := hL4.fz 0 0 (by decide)
        have g1 := hL4.fz 0 1 (by decide)
        rw [Nat.add_zero] at g0 g1
        clear hw4 l0 l1 f0 f1
        have hL4H := Lib.hid hL4
        clear hL4
        have hb4H := Lib.hid hb4
        clear hb4
        cases b
        · go_wp2_with fail
          all_goals exact bodyPost_ret (v := .tuple #[.agg #[.string ⟨#[]⟩, .string ⟨#[]⟩], .int .i64 10]) (by simp [results, Tryz.results136, go_sem, r0, r1]) rfl ⟨bs [], bs [], 10, rfl, .inr ⟨by decide, rfl, rfl, hspH.out.2 (by first | rfl | trivial)⟩, (hb4H.out.setCell (Nat.le_refl _) _).setCell (Nat.le_refl _) _⟩
        · go_wp2_with fail
          all_goals exact bodyPost_ret (v := .tuple #[.agg #[.string (bs (H.drop 2)), .string (bs N)], .int .i64 0]) (by simp [results, Tryz.results136, go_sem, r0, r1]) rfl ⟨_, _, 0, rfl, hspH.out.1 (by first | rfl | trivial), (hb4H.out.setCell (Nat.le_refl _) _).setCell (Nat.le_refl _) _⟩
    · obtain rfl := hheHH.out rfl
      have hsp1 := rr_one hcutH.out
      have hL3 := hL2.set1 (bs N)
      have hb3 : Below w.heap.size w (w2.setCell ⟨w.heap.size + 1, 1, none⟩ (.string (bs N))) := hb2.setCell (Nat.le_succ _) _
      have hm3 := hmH.out.below hb3
      have hsp : (checkB (⟨#[]⟩) (bs N) = true → RlSpec s.data.toList (⟨#[]⟩) (bs N) 0) ∧ (checkB (⟨#[]⟩) (bs N) = false → labelL s.data.toList = false) := ⟨fun _ => hsp1.1, fun _ => hsp1.2⟩
      clear hsp1 hL2 hb2
      obtain ⟨b, hb⟩ : ∃ b, checkB (⟨#[]⟩) (bs N) = b := ⟨_, rfl⟩
      rw [hb] at hsp
      have hm3H := Lib.hid hm3
      clear hm3
      have hL3H := Lib.hid hL3
      clear hL3
      have hb3H := Lib.hid hb3
      clear hb3
      have hbH := Lib.hid hb
      clear hb
      have hspH := Lib.hid hsp
      clear hsp
      go_wp2_with fail
      refine (rcheck_any (⟨#[]⟩) (bs N) _ hm3H.out hzs hNs b hbH.out).mono ?_
      rintro e w4 ⟨rfl, hw4⟩
      have hL4 := hL3H.out.below hw4
      have hb4 := hb3H.out.trans (hw4.mono hb3H.out.size)
      have r0 := hL4.r0
      have r1 := hL4.r1
      have k0 := hL4.l0
      have k1 := hL4.l1
      have g0 := hL4.fz 0 0 (by decide)
      have g1 := hL4.fz 0 1 (by decide)
      rw [Nat.add_zero] at g0 g1
      clear hw4 l0 l1 f0 f1
      have hL4H := Lib.hid hL4
      clear hL4
      have hb4H := Lib.hid hb4
      clear hb4
      cases b
      · go_wp2_with fail
        all_goals exact bodyPost_ret (v := .tuple #[.agg #[.string ⟨#[]⟩, .string ⟨#[]⟩], .int .i64 10]) (by simp [results, Tryz.results136, go_sem, r0, r1]) rfl ⟨bs [], bs [], 10, rfl, .inr ⟨by decide, rfl, rfl, hspH.out.2 (by first | rfl | trivial)⟩, (hb4H.out.setCell (Nat.le_refl _) _).setCell (Nat.le_refl _) _⟩
      · go_wp2_with fail
        all_goals exact bodyPost_ret (v := .tuple #[.agg #[.string (⟨#[]⟩), .string (bs N)], .int .i64 0]) (by simp [results, Tryz.results136, go_sem, r0, r1]) rfl ⟨_, _, 0, rfl, hspH.out.1 (by first | rfl | trivial), (hb4H.out.setCell (Nat.le_refl _) _).setCell (Nat.le_refl _) _⟩

set_option maxHeartbeats 1000000 in
theorem isLabel_any (s : ByteArray) (w : World) (hm : MaxLenAt w) (hs : s.size ≤ 1048576) (b : Bool) (hb : labelL s.data.toList = b) :
    Calls Tryz.prog 97 #[.string s] w fun e w' => e = .returned (.bool b) ∧ Below w.heap.size w w' := by
  have hsl : s.data.toList.length = s.size := by show s.data.toList.length = s.data.size; exact Array.length_toList
  have hmH := Lib.hid hm
  clear hm
  have hbH := Lib.hid hb
  clear hb
  have hslH := Lib.hid hsl
  clear hsl
  go_enter Tryz.func97, Tryz.ntmps97
  go_wp2_with fail
  refine (rreadLabel_any s _ hmH.out hs).mono ?_
  rintro e w1 ⟨p, n, f, rfl, hsp, hw1⟩
  have hba := hw1.alloc hw1.size (.cells #[.string p, .string n] 111)
  rcases hsp with ⟨rfl, h1, h2, h3⟩ | ⟨h1, rfl, rfl, h2⟩
  · rw [hbH.out] at h3
    have he := wholeB_eq s p n b h3
    have he2 : (s.toList == (wholeB p n).toList) = b := by rw [← he, Bool.eq_iff_iff, beq_iff_eq, beq_iff_eq]; exact eq_comm
    have hp : p.size ≤ 2000000 := by have := hslH.out; omega
    have hn : n.size ≤ 2000000 := by have := hslH.out; omega
    unfold wholeB at he2
    clear h1 h2 h3 he
    have hw1H := Lib.hid hw1
    clear hw1
    have hbaH := Lib.hid hba
    clear hba
    go_wp2
    go_ret
    exact ⟨rfl, hbaH.out⟩
  · have hf : (f == 0) = false := by simpa using h1
    obtain rfl : false = b := by rw [← hbH.out, h2]
    clear h1 h2
    have hw1H := Lib.hid hw1
    clear hw1
    have hbaH := Lib.hid hba
    clear hba
    go_wp2
    go_ret
    exact ⟨rfl, hbaH.out⟩
end Go.Proofs.YtgegdfmdcmgliaaGreatDoor.C11

namespace Go.Proofs.YtgegdfmdcmgliaaGreatDoor.C11
open Go.RowKit
set_option linter.unusedVariables false

def slsl : ByteArray := ⟨#[47, 47]⟩
def prefB (s : ByteArray) : Bool := Lib.hasPrefix s.data.toList slsl.data.toList && (decide (s.size ≤ 1000) && plainB s)
def prefsErr : Option ByteArray → List ByteArray → Int
  | _, [] => 0
  | q, p :: r => if prefB p = true then (if q.map (sle p ·) = some true then 8 else prefsErr (some p) r) else 3
def prevP (l : List ByteArray) (k : Nat) : Option ByteArray := if k = 0 then none else l[k - 1]?
def prefsF (l : List ByteArray) : Int := if l.length ≤ 30 then prefsErr none l else 2
/-- the fault of a writer by itself -/
def writerF (x : Writer) : Int :=
  if wordB x.name = true then
    if secretB x.secret = true then
      if prefsF x.prefixes.l = 0 then
        if inR 0 1000000000 x.from_ = true ∧ inR 0 1000000001 x.to_ = true then
          if x.to_ ≤ x.from_ then 8 else 0
        else 1
      else prefsF x.prefixes.l
    else 3
  else 5
def writersErr : Option ByteArray → List Writer → Int
  | _, [] => 0
  | p, x :: r => if writerF x = 0 then (if p.map (sle x.name ·) = some true then 8 else writersErr (some x.name) r) else writerF x
def prevWr (l : List Writer) (k : Nat) : Option ByteArray := if k = 0 then none else (l[k - 1]?).map (·.name)
def writersF (l : List Writer) : Int := if l.length ≤ 50 then writersErr none l else 2
def hasName (l : List Writer) (s : ByteArray) : Bool := l.any (fun x => decide (x.name = s))
def ixName (l : List Writer) (s : ByteArray) : Nat := l.findIdx (fun x => decide (x.name = s))
/-- whether a writer may store a result -/
def mayB (x : Writer) (label : ByteArray) (at_ : Int) : Bool :=
  (decide (x.from_ ≤ at_) && decide (at_ < x.to_)) && x.prefixes.l.any (fun p => Lib.hasPrefix label.data.toList p.data.toList)
def mayOf (l : List Writer) (s label : ByteArray) (at_ : Int) : Bool := match l.find? (fun x => decide (x.name = s)) with | some x => mayB x label at_ | none => false
/-- the fault of a call of May -/
def mayF (l : List Writer) (s label : ByteArray) (at_ : Int) : Int :=
  if writersF l = 0 then
    if wordB s = true then
      if labelL label.data.toList = true then
        if inR 0 1000000000 at_ = true then 0 else 1
      else 10
    else 5
  else writersF l
def mayR (l : List Writer) (s label : ByteArray) (at_ : Int) : Bool := if mayF l s label at_ = 0 then mayOf l s label at_ else false

theorem ltN_of_sle {a b : ByteArray} (h : sle b a = false) : cmpS a b = -1 := by
  rw [sle_cmp, decide_eq_false_iff_not] at h
  have := cmpS_range b a
  rw [cmpS_swap b a]; omega
theorem writers_rise : ∀ (l : List Writer) (p : Option ByteArray), writersErr p l = 0 → (l.Pairwise fun a b => cmpS a.name b.name = -1) ∧ ∀ q, p = some q → ∀ a ∈ l, cmpS q a.name = -1
  | [], p, _ => ⟨List.Pairwise.nil, fun q _ a ha => by cases ha⟩
  | s :: r, p, h => by
    rw [writersErr] at h
    by_cases hb : writerF s = 0
    · rw [if_pos hb] at h
      by_cases hp : p.map (sle s.name ·) = some true
      · rw [if_pos hp] at h; cases h
      · rw [if_neg hp] at h
        obtain ⟨h1, h2⟩ := writers_rise r _ h
        refine ⟨List.pairwise_cons.2 ⟨h2 s.name rfl, h1⟩, fun q hq a ha => ?_⟩
        subst hq
        have hs : cmpS q s.name = -1 := by
          cases hs : sle s.name q
          · exact ltN_of_sle hs
          · rw [Option.map_some, hs] at hp; exact absurd rfl hp
        rcases List.mem_cons.1 ha with rfl | ha
        · exact hs
        · exact cmpS_trans hs (h2 s.name rfl a ha)
    · rw [if_neg hb] at h; exact absurd h hb
theorem writers_len {l : List Writer} (h : writersF l = 0) : l.length ≤ 50 ∧ writersErr none l = 0 := by
  unfold writersF at h
  by_cases h1 : l.length ≤ 50
  · rw [if_pos h1] at h; exact ⟨h1, h⟩
  · rw [if_neg h1] at h; cases h
theorem ixName_get {l : List Writer} {s : ByteArray} (h : hasName l s = true) : ∃ x, l[ixName l s]? = some x ∧ x.name = s := by
  have hlt : ixName l s < l.length := by
    rw [hasName, List.any_eq_true] at h
    exact List.findIdx_lt_length_of_exists h
  refine ⟨l[ixName l s], List.getElem?_eq_getElem hlt, ?_⟩
  have := List.findIdx_getElem (w := hlt)
  exact of_decide_eq_true this
theorem ixName_lt {l : List Writer} {s : ByteArray} (h : hasName l s = true) : ixName l s < l.length := by
  obtain ⟨x, hx, _⟩ := ixName_get h
  exact (List.getElem?_eq_some_iff.1 hx).1
theorem ixName_eq {l : List Writer} (hr : l.Pairwise fun a b => cmpS a.name b.name = -1) {k : Nat} {x : Writer} (hx : l[k]? = some x) : ixName l x.name = k ∧ hasName l x.name = true := by
  have hin : hasName l x.name = true := by
    rw [hasName, List.any_eq_true]
    exact ⟨x, List.mem_of_getElem? hx, decide_eq_true rfl⟩
  refine ⟨?_, hin⟩
  obtain ⟨y, hy, hyx⟩ := ixName_get hin
  obtain ⟨h1, e1⟩ := List.getElem?_eq_some_iff.1 hx
  obtain ⟨h2, e2⟩ := List.getElem?_eq_some_iff.1 hy
  have hp := List.pairwise_iff_getElem.1 hr
  rcases Nat.lt_trichotomy (ixName l x.name) k with h | h | h
  · have := hp _ _ h2 h1 h
    rw [e1, e2, hyx, (cmpS_zero _ _).2 rfl] at this
    cases this
  · exact h
  · have := hp _ _ h1 h2 h
    rw [e1, e2, hyx, (cmpS_zero _ _).2 rfl] at this
    cases this
theorem mayOf_in {l : List Writer} {s label : ByteArray} {at_ : Int} {x : Writer} (h : hasName l s = true) (hx : l[ixName l s]? = some x) : mayOf l s label at_ = mayB x label at_ := by
  have : l.find? (fun x => decide (x.name = s)) = some x := by
    rw [List.find?_eq_getElem?_findIdx]
    exact hx
  rw [mayOf, this]
theorem mayOf_out {l : List Writer} {s label : ByteArray} {at_ : Int} (h : hasName l s = false) : mayOf l s label at_ = false := by
  have : l.find? (fun x => decide (x.name = s)) = none := by
    rw [List.find?_eq_none]
    rw [hasName, List.any_eq_false] at h
    intro x hx
    simpa using h x hx
  rw [mayOf, this]
end Go.Proofs.YtgegdfmdcmgliaaGreatDoor.C11

namespace Go.Proofs.YtgegdfmdcmgliaaGreatDoor.C11
open Go.RowKit
set_option linter.unusedVariables false

theorem hexN_hex : ∀ k : Fin 16, hexcut.contains (hexN k.val) = true := by decide
theorem digB_digF (l : List UInt8) : digB (digF l) = true := by
  unfold digB
  rw [decide_eq_true (digF_size l), Bool.true_and, digF_data, List.all_eq_true]
  intro x hx
  obtain ⟨j, hj, rfl⟩ := List.mem_map.1 hx
  exact hexN_hex ⟨_, Nat.mod_lt _ (by decide)⟩
def nlS : ByteArray := ⟨#[10]⟩
def signT (s : ByteArray) (x : Claimed) : ByteArray := s ++ nlS ++ claimB x ++ nlS ++ s
def signF (s : ByteArray) (x : Claimed) : ByteArray := digF (signT s x).data.toList
/-- what Signature answers -/
def sigF (s : ByteArray) (x : Claimed) : Int := if secretB s = true then claimedF x else 3
def sigV (s : ByteArray) (x : Claimed) : ByteArray := if sigF s x = 0 then signF s x else ⟨#[]⟩
def bothF (l : List Writer) (x : Claimed) : Int := if writersF l = 0 then claimedF x else writersF l
def signedF (l : List Writer) (x : Claimed) : Int := if bothF l x = 0 then (if hasName l x.writer = true then 0 else 9) else bothF l x
def secOf (l : List Writer) (s : ByteArray) : ByteArray := match l[ixName l s]? with | some x => x.secret | none => ⟨#[]⟩
/-- what a claimed result is -/
def genF (l : List Writer) (x : Claimed) : Int :=
  if hasName l x.writer = true then (if x.sign = signF (secOf l x.writer) x then (if mayOf l x.writer x.label x.at_ = true then 1 else 4) else 2) else 3
def genV (l : List Writer) (x : Claimed) : Int := if bothF l x = 0 then genF l x else 0
/-- the same claim -/
structure SameC (x y : Claimed) : Prop where
  key : y.key = x.key
  label : y.label = x.label
  result : y.result = x.result
  writer : y.writer = x.writer
  at_ : y.at_ = x.at_
  uses : y.uses.l = x.uses.l
theorem SameC.rfl' (x : Claimed) : SameC x x := ⟨rfl, rfl, rfl, rfl, rfl, rfl⟩
theorem SameC.trans {x y z : Claimed} (h : SameC x y) (g : SameC y z) : SameC x z :=
  ⟨g.key.trans h.key, g.label.trans h.label, g.result.trans h.result, g.writer.trans h.writer, g.at_.trans h.at_, g.uses.trans h.uses⟩
theorem SameC.eqB {x y : Claimed} (h : SameC x y) : claimB y = claimB x := by
  unfold claimB claimW
  rw [h.key, h.label, h.result, h.writer, h.at_, h.uses]
theorem SameC.eqS {x y : Claimed} (h : SameC x y) (s : ByteArray) : signF s y = signF s x := by
  unfold signF signT
  rw [h.eqB]
theorem SameC.eqF {x y : Claimed} (h : SameC x y) (hs : signB y.sign = true) (hx : claimedF x = 0) : claimedF y = 0 := by
  unfold claimedF at hx ⊢
  rw [h.key, h.label, h.result, h.writer, h.at_, h.uses, if_pos hs]
  repeat' split at hx
  all_goals first | (cases hx; done) | skip
  all_goals simp_all
theorem secret_le {s : ByteArray} (h : secretB s = true) : s.size ≤ 100 := by
  unfold secretB at h
  rw [Bool.and_eq_true, Bool.and_eq_true] at h
  exact of_decide_eq_true h.2.1
theorem writersErr_each : ∀ (l : List Writer) (p : Option ByteArray), writersErr p l = 0 → ∀ x ∈ l, writerF x = 0
  | [], p, _ => fun x hx => by cases hx
  | s :: r, p, h => by
    rw [writersErr] at h
    by_cases hb : writerF s = 0
    · rw [if_pos hb] at h
      by_cases hp : p.map (sle s.name ·) = some true
      · rw [if_pos hp] at h; cases h
      · rw [if_neg hp] at h
        intro x hx
        rcases List.mem_cons.1 hx with rfl | hx
        · exact hb
        · exact writersErr_each r _ h x hx
    · rw [if_neg hb] at h; exact absurd h hb
theorem writer_secret {x : Writer} (h : writerF x = 0) : secretB x.secret = true := by
  unfold writerF at h
  by_cases h1 : wordB x.name = true
  · rw [if_pos h1] at h
    by_cases h2 : secretB x.secret = true
    · exact h2
    · rw [if_neg h2] at h; cases h
  · rw [if_neg h1] at h; cases h
theorem secOf_in {l : List Writer} {s : ByteArray} {x : Writer} (hx : l[ixName l s]? = some x) : secOf l s = x.secret := by rw [secOf, hx]
theorem bothF_zero {l : List Writer} {x : Claimed} (h : bothF l x = 0) : writersF l = 0 ∧ claimedF x = 0 := by
  unfold bothF at h
  by_cases h1 : writersF l = 0
  · rw [if_pos h1] at h; exact ⟨h1, h⟩
  · rw [if_neg h1] at h; exact absurd h h1
theorem bothF_of {l : List Writer} {x : Claimed} (h1 : writersF l = 0) (h2 : claimedF x = 0) : bothF l x = 0 := by
  unfold bothF
  rw [if_pos h1]; exact h2
end Go.Proofs.YtgegdfmdcmgliaaGreatDoor.C11

namespace Go.Proofs.YtgegdfmdcmgliaaGreatDoor.C11
open Go.ChangeShapes Go.WideShapes Go.Deep Go.RowKit
set_option linter.unusedVariables false

def H0 : ByteArray := ⟨#[48, 48, 48, 48, 48, 48, 48, 48, 48, 48, 48, 48, 48, 48, 48, 48]⟩
def headT (h : ByteArray) (x : Claimed) : ByteArray := h ++ ⟨#[32]⟩ ++ claimB x ++ ⟨#[32]⟩ ++ x.sign
def headF (h : ByteArray) (x : Claimed) : ByteArray := digF (headT h x).data.toList
/-- the head after the first k -/
def hdN (l : List Claimed) : Nat → ByteArray
  | 0 => H0
  | k + 1 => match l[k]? with | some x => headF (hdN l k) x | none => H0
def headsL (l : List Claimed) (k : Nat) : List ByteArray := (List.range (k + 1)).map (hdN l)
theorem hdN_size (l : List Claimed) : ∀ k, (hdN l k).size = 16
  | 0 => rfl
  | k + 1 => by
    rw [hdN]
    split
    · exact digF_size _
    · rfl
theorem hdN_step {l : List Claimed} {k : Nat} {x : Claimed} (h : l[k]? = some x) : hdN l (k + 1) = headF (hdN l k) x := by rw [hdN, h]
theorem headsL_len (l : List Claimed) (k : Nat) : (headsL l k).length = k + 1 := by simp [headsL]
theorem headsL_get {l : List Claimed} {k j : Nat} (h : j ≤ k) : (headsL l k)[j]? = some (hdN l j) := by
  unfold headsL
  rw [List.getElem?_map, List.getElem?_range (by omega)]
  rfl
theorem headsL_step {l : List Claimed} {k : Nat} {x : Claimed} (h : l[k]? = some x) : headsL l (k + 1) = headsL l k ++ [headF (hdN l k) x] := by
  unfold headsL
  rw [List.range_succ, List.map_append, List.map_cons, List.map_nil, hdN_step h]
theorem hdN_take {l : List Claimed} : ∀ {k n : Nat}, k ≤ n → hdN (l.take n) k = hdN l k
  | 0, _, _ => rfl
  | k + 1, n, h => by
    rw [hdN, hdN, hdN_take (by omega : k ≤ n), List.getElem?_take_of_lt (by omega)]
def HdRel (l : List Claimed) (w0 : World) (v i : Value) (wr : World) : Prop :=
  ∃ (k cap : Nat) (A : Option Addr), k ≤ l.length ∧ i = .int .i64 k ∧ v = .slice A (k + 1) cap ∧ Own RStr 9 wr w0.heap.size v (headsL l k) ∧ Below w0.heap.size w0 wr
theorem keep8 {W w' : World} {a0 a1 a2 a3 a4 a5 a6 a7 : Addr} {v0 v1 v2 v3 v4 v5 v6 v7 : Value} (hb : Below W.heap.size W w') (h : W.cell? a0 = some v0 ∧ W.cell? a1 = some v1 ∧ W.cell? a2 = some v2 ∧ W.cell? a3 = some v3 ∧ W.cell? a4 = some v4 ∧ W.cell? a5 = some v5 ∧ W.cell? a6 = some v6 ∧ W.cell? a7 = some v7) :
    w'.cell? a0 = some v0 ∧ w'.cell? a1 = some v1 ∧ w'.cell? a2 = some v2 ∧ w'.cell? a3 = some v3 ∧ w'.cell? a4 = some v4 ∧ w'.cell? a5 = some v5 ∧ w'.cell? a6 = some v6 ∧ w'.cell? a7 = some v7 := by
  obtain ⟨h0, h1, h2, h3, h4, h5, h6, h7⟩ := h
  exact ⟨(hb.cell (cell?_lt h0)).trans h0, (hb.cell (cell?_lt h1)).trans h1, (hb.cell (cell?_lt h2)).trans h2, (hb.cell (cell?_lt h3)).trans h3, (hb.cell (cell?_lt h4)).trans h4, (hb.cell (cell?_lt h5)).trans h5, (hb.cell (cell?_lt h6)).trans h6, (hb.cell (cell?_lt h7)).trans h7⟩
theorem own_one (w : World) (a : ByteArray) (hz : a.size ≤ maxLen) : Own RStr 9 (w.alloc (.cells #[.string a] 9)) w.heap.size (.slice (some ⟨w.heap.size, 0, none⟩) 1 1) [a] :=
  ⟨⟨by simp [RStr], .inr ⟨w.heap.size, 1, #[.string a], rfl, Nat.le_refl _, heap_alloc_new w _, by simp, by decide, by simp [RStr], by simp [RStr]⟩⟩, fun x hx => by rw [List.mem_singleton.1 hx]; exact hz⟩
theorem bytes_row (W : World) (s : ByteArray) (cap : Nat) (fr : Nat × Nat) : BytesAt (W.alloc (.cells (bytesRow s cap) 5 fr)) W.heap.size 0 s.data.toList := fun j c hj => by
  rw [World.cell?_alloc_mark]
  unfold bytesRow
  have hlt : j < s.data.size := by have := (List.getElem?_eq_some_iff.1 hj).1; simpa using this
  rw [Array.getElem?_append_left (by simpa using hlt)]
  simp only [Nat.zero_add, Array.getElem?_map]
  rw [← Array.getElem?_toList, hj]
  rfl

end Go.Proofs.YtgegdfmdcmgliaaGreatDoor.C11

namespace Go.Proofs.YtgegdfmdcmgliaaGreatDoor.C11
open Go.ChangeShapes Go.WideShapes Go.Deep Go.RowKit
set_option linter.unusedVariables false

theorem cells7 {w W : World} {v0 v1 v2 v3 v4 v5 v6 : Value} {T : TypeId} (hb : Below (w.alloc (.cells #[v0, v1, v2, v3, v4, v5, v6] T)).heap.size (w.alloc (.cells #[v0, v1, v2, v3, v4, v5, v6] T)) W) :
    W.cell? ⟨w.heap.size, 0, none⟩ = some v0 ∧ W.cell? ⟨w.heap.size, 1, none⟩ = some v1 ∧ W.cell? ⟨w.heap.size, 2, none⟩ = some v2 ∧ W.cell? ⟨w.heap.size, 3, none⟩ = some v3 ∧ W.cell? ⟨w.heap.size, 4, none⟩ = some v4 ∧ W.cell? ⟨w.heap.size, 5, none⟩ = some v5 ∧ W.cell? ⟨w.heap.size, 6, none⟩ = some v6 :=
  ⟨(hb.cell (by simp)).trans (by simp [go_sem]), (hb.cell (by simp)).trans (by simp [go_sem]), (hb.cell (by simp)).trans (by simp [go_sem]), (hb.cell (by simp)).trans (by simp [go_sem]), (hb.cell (by simp)).trans (by simp [go_sem]), (hb.cell (by simp)).trans (by simp [go_sem]), (hb.cell (by simp)).trans (by simp [go_sem])⟩

set_option maxRecDepth 100000 in
set_option maxHeartbeats 1000000 in
theorem rdigest_s (s : ByteArray) (w : World) (hs : s.size ≤ 4611686018427387904) :
    Calls Tryz.prog 58 #[.string s] w fun e w' => e = .returned (.string (digF s.data.toList)) ∧ Below w.heap.size w w' := by
  have hcv := fun (w : World) (s : ByteArray) => run_bytes_of_string (P := Tryz.prog) w 9 71 5 s Tryz.underlying9 Tryz.underlying71 Tryz.underlying5
  go_enter Tryz.func58, Tryz.ntmps58
  go_wp2_with fail
  refine (rdigest_bytes w.heap.size 0 s.size _ s.data.toList _ (by rw [Array.length_toList]; rfl) (by first | exact bytes_row w.drew s _ _ | exact bytes_row w s _ _) hs).mono ?_
  rintro e w5 ⟨rfl, rfl⟩
  go_wp2
  go_ret
  exact ⟨rfl, ((Below.refl _ _).alloc (Nat.le_refl _) _).drew⟩

end Go.Proofs.YtgegdfmdcmgliaaGreatDoor.C11

namespace Go.Proofs.YtgegdfmdcmgliaaGreatDoor.C11
open Go.ChangeShapes Go.WideShapes Go.Deep Go.RowKit
set_option linter.unusedVariables false

theorem dig8 (l : List UInt8) : ((digF l).extract 0 8).data.toList = (digF l).data.toList.take 8 := by simp
theorem dig8_size (l : List UInt8) : ((digF l).extract 0 8).size = 8 := by rw [ByteArray.size_extract, digF_size]; decide
theorem dig8_hex (l : List UInt8) : ∀ c ∈ ((digF l).extract 0 8).data.toList, hexC c := by
  intro c hc
  rw [dig8, digF_data] at hc
  exact hex16_mem (List.mem_of_mem_take hc)
def d8 (t : ByteArray) : ByteArray := (digF t.data.toList).extract 0 8
theorem run_slice8 (t : ByteArray) (W : World) : (Instr.slice 9 (.string (digF t.data.toList)) none (some (.int .i64 8)) none).run Tryz.prog W = .ok (.string (d8 t)) W := by
  have hz := digF_size t.data.toList
  rw [run_slice_string_to_if W 9 _ .i64 _ Tryz.underlying9, if_pos ⟨by omega, by omega⟩]
  rfl
set_option maxRecDepth 100000 in
set_option maxHeartbeats 4000000 in
theorem lot_any (round i every : Int) (key : ByteArray) (w : World) (ht : PowTab w) (hr : I64 round) (hi : I64 i) (hk : key.size ≤ 16) (he0 : 1 ≤ every) (he1 : every ≤ 1000000) (g : Int) (hg : lotF round i key every = g) :
    Calls Tryz.prog 22 #[.int .i64 round, .int .i64 i, .string key, .int .i64 every] w fun e w' => e = .returned (.int .i64 g) ∧ Below w.heap.size w w' := by
  have hcv := fun (w : World) (s : ByteArray) => run_bytes_of_string (P := Tryz.prog) w 9 71 5 s Tryz.underlying9 Tryz.underlying71 Tryz.underlying5
  have zr := itoaS_size hr
  have zi := itoaS_size hi
  obtain ⟨s0, es0⟩ : ∃ z, itoaS round = z := ⟨_, rfl⟩
  obtain ⟨s1, es1⟩ : ∃ z, itoaS i = z := ⟨_, rfl⟩
  have hI0 := fun (W : World) (h : PowTab W) => itoa_any round hr W h
  have hI1 := fun (W : World) (h : PowTab W) => itoa_any i hi W h
  rw [es0] at zr hI0
  rw [es1] at zi hI1
  obtain ⟨t1, et1⟩ : ∃ z, s0 ++ ⟨#[32]⟩ = z := ⟨_, rfl⟩
  have z1 : t1.size = s0.size + 1 := by rw [← et1, ByteArray.size_append]; rfl
  obtain ⟨t2, et2⟩ : ∃ z, t1 ++ s1 = z := ⟨_, rfl⟩
  have z2 : t2.size = t1.size + s1.size := by rw [← et2, ByteArray.size_append]
  obtain ⟨t3, et3⟩ : ∃ z, t2 ++ ⟨#[32]⟩ = z := ⟨_, rfl⟩
  have z3 : t3.size = t2.size + 1 := by rw [← et3, ByteArray.size_append]; rfl
  obtain ⟨t4, et4⟩ : ∃ z, t3 ++ key = z := ⟨_, rfl⟩
  have z4 : t4.size = t3.size + key.size := by rw [← et4, ByteArray.size_append]
  have e1 : ∀ w : World, (Op.stringOp .add s0 ⟨#[32]⟩).run Tryz.prog w = .ok (.string t1) w := fun w => by rw [← et1]; exact run_string_add_sum w _ _ (by show s0.size + 1 ≤ _; omega)
  have e2 : ∀ w : World, (Op.stringOp .add t1 s1).run Tryz.prog w = .ok (.string t2) w := fun w => by rw [← et2]; exact run_string_add_sum w _ _ (by omega)
  have e3 : ∀ w : World, (Op.stringOp .add t2 ⟨#[32]⟩).run Tryz.prog w = .ok (.string t3) w := fun w => by rw [← et3]; exact run_string_add_sum w _ _ (by show t2.size + 1 ≤ _; omega)
  have e4 : ∀ w : World, (Op.stringOp .add t3 key).run Tryz.prog w = .ok (.string t4) w := fun w => by rw [← et4]; exact run_string_add_sum w _ _ (by omega)
  have hT : lotT round i key = t4 := by unfold lotT spS; rw [es0, es1, et1, et2, et3, et4]
  have hz4 : t4.size ≤ 1000000 := by omega
  have hs8 := run_slice8 t4
  have h8 : hexV (d8 t4).data.toList = lotN round i key := by unfold lotN d8; rw [hT, dig8]
  have h8z : (d8 t4).size = 8 := dig8_size _
  have h8h : ∀ c ∈ (d8 t4).data.toList, hexC c := dig8_hex _
  have hlt := lotN_lt round i key
  unfold lotF at hg
  obtain ⟨a, ha⟩ : ∃ a : Int, a = (lotN round i key : Nat) := ⟨_, rfl⟩
  rw [← ha] at hg
  have hP : ∀ W : World, Calls Tryz.prog 47 #[.string (d8 t4), .int .i64 16, .int .i64 64] W fun e w' => e = .returned (.tuple #[.int .u64 a, .nilIface]) ∧ Below W.heap.size W w' := fun W => by
    have := parseUint16 (d8 t4) h8z h8h W
    rw [h8, ← ha] at this
    exact this
  have a0 : 0 ≤ a := by omega
  have a1 : a < 4294967296 := by omega
  have hmod : a.tmod every = g := by rw [← hg]; exact Int.tmod_eq_emod_of_nonneg a0
  obtain ⟨d, hd⟩ : ∃ d, d8 t4 = d := ⟨_, rfl⟩
  rw [hd] at hs8 hP
  have hev : every ≠ 0 := by omega
  have hevb : (every == 0) = false := by simpa using hev
  clear hlt ha h8 h8z h8h hd hg z1 z2 z3 z4 et1 et2 et3 et4 hT es0 es1 zr zi
  have htH := Lib.hid ht
  clear ht
  have hI0H := Lib.hid hI0
  clear hI0
  have hI1H := Lib.hid hI1
  clear hI1
  have hPH := Lib.hid hP
  clear hP
  have hz4H := Lib.hid hz4
  clear hz4
  go_enter Tryz.func22, Tryz.ntmps22
  go_wp2_with fail
  refine (hI0H.out _ htH.out).mono ?_
  rintro e w1 ⟨rfl, hb1⟩
  have hb1H := Lib.hid hb1
  clear hb1
  go_wp2_with fail
  refine (hI1H.out _ (htH.out.below hb1H.out)).mono ?_
  rintro e w2 ⟨rfl, hb2⟩
  have hbw := hb1H.out.trans (hb2.mono hb1H.out.size)
  clear hb2
  have hbwH := Lib.hid hbw
  clear hbw
  go_wp2_with fail
  refine (digest_bytes w2.heap.size 0 t4.size _ t4.data.toList _ (by rw [Array.length_toList]; rfl) (by first | exact bytes_row w2.drew t4 _ _ | exact bytes_row w2 t4 _ _) (by simp) (by have := hz4H.out; omega)).mono ?_
  rintro e w5 ⟨rfl, hb5⟩
  have hbw5 : Below w.heap.size w w5 := by
    have := hbwH.out.size
    first | exact (hbwH.out.alloc hbwH.out.size _).drew.trans (hb5.mono (by simp; omega)) | exact (hbwH.out.drew.alloc hbwH.out.size _).trans (hb5.mono (by simp; omega))
  clear hb5
  have hbw5H := Lib.hid hbw5
  clear hbw5
  go_wp2_with fail
  refine (hPH.out _).mono ?_
  rintro e w6 ⟨rfl, hb6⟩
  have hbw6 := hbw5H.out.trans (hb6.mono hbw5H.out.size)
  clear hb6
  have hbw6H := Lib.hid hbw6
  clear hbw6
  go_wp2
  go_ret
  exact ⟨rfl, hbw6H.out⟩
set_option maxRecDepth 100000 in
set_option maxHeartbeats 4000000 in
theorem rlot_any (round i every : Int) (key : ByteArray) (w : World) (ht : PowTab w) (hr : I64 round) (hi : I64 i) (hk : key.size ≤ 16) (he0 : 1 ≤ every) (he1 : every ≤ 1000000) (g : Int) (hg : lotF round i key every = g) :
    Calls Tryz.prog 27 #[.string key, .int .i64 i, .int .i64 round, .int .i64 every] w fun e w' => e = .returned (.int .i64 g) ∧ Below w.heap.size w w' := by
  have hcv := fun (w : World) (s : ByteArray) => run_bytes_of_string (P := Tryz.prog) w 9 71 5 s Tryz.underlying9 Tryz.underlying71 Tryz.underlying5
  have zr := itoaS_size hr
  have zi := itoaS_size hi
  obtain ⟨s0, es0⟩ : ∃ z, itoaS round = z := ⟨_, rfl⟩
  obtain ⟨s1, es1⟩ : ∃ z, itoaS i = z := ⟨_, rfl⟩
  have hI0 := fun (W : World) (h : PowTab W) => itoa_any round hr W h
  have hI1 := fun (W : World) (h : PowTab W) => itoa_any i hi W h
  rw [es0] at zr hI0
  rw [es1] at zi hI1
  obtain ⟨t1, et1⟩ : ∃ z, s0 ++ ⟨#[32]⟩ = z := ⟨_, rfl⟩
  have z1 : t1.size = s0.size + 1 := by rw [← et1, ByteArray.size_append]; rfl
  obtain ⟨t2, et2⟩ : ∃ z, t1 ++ s1 = z := ⟨_, rfl⟩
  have z2 : t2.size = t1.size + s1.size := by rw [← et2, ByteArray.size_append]
  obtain ⟨t3, et3⟩ : ∃ z, t2 ++ ⟨#[32]⟩ = z := ⟨_, rfl⟩
  have z3 : t3.size = t2.size + 1 := by rw [← et3, ByteArray.size_append]; rfl
  obtain ⟨t4, et4⟩ : ∃ z, t3 ++ key = z := ⟨_, rfl⟩
  have z4 : t4.size = t3.size + key.size := by rw [← et4, ByteArray.size_append]
  have e1 : ∀ w : World, (Op.stringOp .add s0 ⟨#[32]⟩).run Tryz.prog w = .ok (.string t1) w := fun w => by rw [← et1]; exact run_string_add_sum w _ _ (by show s0.size + 1 ≤ _; omega)
  have e2 : ∀ w : World, (Op.stringOp .add t1 s1).run Tryz.prog w = .ok (.string t2) w := fun w => by rw [← et2]; exact run_string_add_sum w _ _ (by omega)
  have e3 : ∀ w : World, (Op.stringOp .add t2 ⟨#[32]⟩).run Tryz.prog w = .ok (.string t3) w := fun w => by rw [← et3]; exact run_string_add_sum w _ _ (by show t2.size + 1 ≤ _; omega)
  have e4 : ∀ w : World, (Op.stringOp .add t3 key).run Tryz.prog w = .ok (.string t4) w := fun w => by rw [← et4]; exact run_string_add_sum w _ _ (by omega)
  have hT : lotT round i key = t4 := by unfold lotT spS; rw [es0, es1, et1, et2, et3, et4]
  have hz4 : t4.size ≤ 1000000 := by omega
  have hs8 := run_slice8 t4
  have h8 : hexV (d8 t4).data.toList = lotN round i key := by unfold lotN d8; rw [hT, dig8]
  have h8z : (d8 t4).size = 8 := dig8_size _
  have h8h : ∀ c ∈ (d8 t4).data.toList, hexC c := dig8_hex _
  have hlt := lotN_lt round i key
  unfold lotF at hg
  obtain ⟨a, ha⟩ : ∃ a : Int, a = (lotN round i key : Nat) := ⟨_, rfl⟩
  rw [← ha] at hg
  have hP : ∀ W : World, Calls Tryz.prog 57 #[.string (d8 t4), .int .i64 16, .int .i64 64] W fun e w' => e = .returned (.tuple #[.int .i64 a, .nilIface]) ∧ Below W.heap.size W w' := fun W => by
    have := parseInt16 (d8 t4) h8z h8h W
    rw [h8, ← ha] at this
    exact this
  have a0 : 0 ≤ a := by omega
  have a1 : a < 4294967296 := by omega
  have hmod : a.tmod every = g := by rw [← hg]; exact Int.tmod_eq_emod_of_nonneg a0
  obtain ⟨d, hd⟩ : ∃ d, d8 t4 = d := ⟨_, rfl⟩
  rw [hd] at hs8 hP
  have hev : every ≠ 0 := by omega
  have hevb : (every == 0) = false := by simpa using hev
  clear hlt ha h8 h8z h8h hd hg z1 z2 z3 z4 et1 et2 et3 et4 hT es0 es1 zr zi
  have htH := Lib.hid ht
  clear ht
  have hI0H := Lib.hid hI0
  clear hI0
  have hI1H := Lib.hid hI1
  clear hI1
  have hPH := Lib.hid hP
  clear hP
  have hz4H := Lib.hid hz4
  clear hz4
  go_enter Tryz.func27, Tryz.ntmps27
  go_wp2_with fail
  refine (hI0H.out _ htH.out).mono ?_
  rintro e w1 ⟨rfl, hb1⟩
  have hb1H := Lib.hid hb1
  clear hb1
  go_wp2_with fail
  refine (hI1H.out _ (htH.out.below hb1H.out)).mono ?_
  rintro e w2 ⟨rfl, hb2⟩
  have hbw := hb1H.out.trans (hb2.mono hb1H.out.size)
  clear hb2
  have hbwH := Lib.hid hbw
  clear hbw
  go_wp2_with fail
  refine (rdigest_s t4 _ (by have := hz4H.out; omega)).mono ?_
  rintro e w5 ⟨rfl, hb5⟩
  have hbw5 : Below w.heap.size w w5 := hbwH.out.trans (hb5.mono hbwH.out.size)
  clear hb5
  have hbw5H := Lib.hid hbw5
  clear hbw5
  go_wp2_with fail
  refine (hPH.out _).mono ?_
  rintro e w6 ⟨rfl, hb6⟩
  have hbw6 := hbw5H.out.trans (hb6.mono hbw5H.out.size)
  clear hb6
  have hbw6H := Lib.hid hbw6
  clear hbw6
  go_wp2
  go_ret
  exact ⟨rfl, hbw6H.out⟩
end Go.Proofs.YtgegdfmdcmgliaaGreatDoor.C11
