/-
  A word: what the reference's isWord says.
-/
import Derived.Test.YtbapkhkklglbaaaDoorRead
namespace Go.Proofs.YtbapkhkklglbaaaDoor.C9
open Go.RowKit
set_option linter.unusedVariables false

/-- a byte that a word can hold -/
def wch (b : UInt8) : Bool := decide ((97 ≤ b.toNat ∧ b.toNat ≤ 122) ∨ (48 ≤ b.toNat ∧ b.toNat ≤ 57) ∨ b.toNat = 45 ∨ b.toNat = 95)
def wordL : List UInt8 → Bool
  | [] => false
  | c :: r => decide (97 ≤ c.toNat ∧ c.toNat ≤ 122) && decide (r.length < 40) && (c :: r).all wch
/-- whether a string is a word -/
def wordB (s : ByteArray) : Bool := wordL s.data.toList

theorem str_get {s : ByteArray} {k : Nat} (h : k < s.size) : s.data.toList[k]? = some s[k] := by
  rw [List.getElem?_eq_getElem (by simpa using h)]
  rfl

theorem all_step {p : UInt8 → Bool} {s : ByteArray} {k : Nat} {b : Bool} (h : k < s.size) (hb : b = (s.data.toList.drop k).all p) : b = (p s[k] && (s.data.toList.drop (k + 1)).all p) := by
  rw [hb, List.drop_eq_getElem_cons (by simpa using h), List.all_cons]
  rfl

def WordRel (s : ByteArray) (b : Bool) (i : Value) : Prop := ∃ k : Nat, k ≤ s.size ∧ i = .int .i64 k ∧ b = (s.data.toList.drop k).all wch

theorem ret_bool {a b : Bool} (h : a = b) : Ending.returned (.bool a) = .returned (.bool b) := by rw [h]

set_option maxHeartbeats 1000000 in
theorem rword_ok (s : ByteArray) (b : Bool) (w : World) (h0 : 1 ≤ s.size) (h1 : s.size ≤ 40) (c : UInt8) (hc : s.data.toList[0]? = some c) (hc0 : 97 ≤ c.toNat) (hc1 : c.toNat ≤ 122) (hb : b = s.data.toList.all wch) :
    Calls Tryd.prog 45 #[.string s] w fun e w' => e = .returned (.bool b) ∧ w = w' := by
  have hg : s[0] = c := by have := str_get (s := s) (k := 0) (by omega); rw [hc] at this; exact (Option.some.inj this).symm
  have hg0 : 97 ≤ (s[0]'(by omega)).toNat := by rw [hg]; exact hc0
  have hg1 : (s[0]'(by omega)).toNat ≤ 122 := by rw [hg]; exact hc1
  have hcH := Lib.hid hc
  clear hc
  have hbH := Lib.hid hb
  clear hb
  have hgH := Lib.hid hg
  clear hg
  go_enter Tryd.func45, Tryd.ntmps45
  go_wp2
  go_loop [21] (fun i => WordRel s b i) (fun i => s.size - (intOf i).toNat)
  case atStart => exact ⟨0, Nat.zero_le _, rfl, hbH.out⟩
  case round =>
    obtain ⟨k, hk, rfl, hr⟩ := hrel
    have hrH := Lib.hid hr
    clear hr
    by_cases hlt : k < s.size
    · have hs := all_step hlt hrH.out
      have R0 : wch s[k] = true → WordRel s b (.int .i64 (k + 1)) := fun h => ⟨k + 1, by omega, by go_num, by rw [hs, h, Bool.true_and]⟩
      have F0 : wch s[k] = false → b = false := fun h => by rw [hs, h, Bool.false_and]
      have hkk : s[k].toNat < 256 := s[k].toNat_lt
      have R0H := Lib.hid R0
      clear R0
      have F0H := Lib.hid F0
      clear F0
      have hsH := Lib.hid hs
      clear hs
      by_cases e45 : s[k].toNat = 45
      · have R := R0H.out (by unfold wch; rw [e45]; decide)
        have RH := Lib.hid R
        clear R
        go_wp2
        refine ⟨?rel, ?measure⟩
        case measure => (simp [intOf]; omega)
        case rel => first | exact RH.out | exact ⟨rfl, RH.out⟩ | ((try refine ⟨rfl, ?_⟩); (repeat apply Exists.intro); refine ⟨RH.out, ?_⟩; ((repeat' apply And.intro) <;> rfl))
      · by_cases e95 : s[k].toNat = 95
        · have R := R0H.out (by unfold wch; rw [e95]; decide)
          have RH := Lib.hid R
          clear R
          go_wp2
          refine ⟨?rel, ?measure⟩
          case measure => (simp [intOf]; omega)
          case rel => first | exact RH.out | exact ⟨rfl, RH.out⟩ | ((try refine ⟨rfl, ?_⟩); (repeat apply Exists.intro); refine ⟨RH.out, ?_⟩; ((repeat' apply And.intro) <;> rfl))
        · have n45 : ((s[k].toNat : Int) != 45) = true := by simp; omega
          have n95 : ((s[k].toNat : Int) != 95) = true := by simp; omega
          go_wp2
          all_goals first
            | (go_ret; have hf := F0H.out (decide_eq_false (by omega)); exact ⟨ret_bool hf.symm, rfl⟩)
            | (have R := R0H.out (decide_eq_true (by omega)); refine ⟨?rel, ?measure⟩; (case measure => (simp [intOf]; omega)); (case rel => exact R))
    · have e : s.data.toList.drop k = [] := List.drop_eq_nil_of_le (by simp; omega)
      go_wp2
      go_ret
      refine ⟨?_, rfl⟩
      have := hrH.out
      rw [e] at this
      exact ret_bool this.symm

theorem word_of {s : ByteArray} (h : 1 ≤ s.size) : wordB s = (decide (97 ≤ (s[0]'(by omega)).toNat ∧ (s[0]'(by omega)).toNat ≤ 122) && decide (s.size ≤ 40) && s.data.toList.all wch) := by
  unfold wordB
  have h0 := str_get (s := s) (k := 0) (by omega)
  have hl : s.data.toList.length = s.size := by simp
  cases hd : s.data.toList with
  | nil => rw [hd] at hl; simp at hl; omega
  | cons c r =>
    rw [hd] at h0 hl
    simp only [List.getElem?_cons_zero, Option.some.injEq] at h0
    simp only [List.length_cons] at hl
    have e : decide (r.length < 40) = decide (s.size ≤ 40) := decide_eq_decide.2 (by omega)
    rw [← h0]
    show (decide (97 ≤ c.toNat ∧ c.toNat ≤ 122) && decide (r.length < 40) && (c :: r).all wch) = _
    rw [e]
theorem word_empty {s : ByteArray} (h : ¬ 1 ≤ s.size) : wordB s = false := by
  unfold wordB
  have hl : s.data.toList.length = s.size := by simp
  cases hd : s.data.toList with
  | nil => rfl
  | cons c r => rw [hd] at hl; simp only [List.length_cons] at hl; omega

theorem rword_any (s : ByteArray) (b : Bool) (w : World) (hs : s.size ≤ maxLen) (hb : wordB s = b) :
    Calls Tryd.prog 45 #[.string s] w fun e w' => e = .returned (.bool b) ∧ w = w' := by
  unfold maxLen at hs
  by_cases h0 : 1 ≤ s.size
  · by_cases h1 : s.size ≤ 40
    · rw [word_of h0, decide_eq_true h1, Bool.and_true] at hb
      by_cases c0 : 97 ≤ (s[0]'(by omega)).toNat
      · by_cases c1 : (s[0]'(by omega)).toNat ≤ 122
        · rw [decide_eq_true ⟨c0, c1⟩, Bool.true_and] at hb
          exact rword_ok s b w h0 h1 _ (str_get (by omega)) c0 c1 hb.symm
        · rw [decide_eq_false (fun h => c1 h.2), Bool.false_and] at hb
          subst hb
          go_enter Tryd.func45, Tryd.ntmps45
          go_wp2
          go_ret
          exact ⟨rfl, rfl⟩
      · rw [decide_eq_false (fun h => c0 h.1), Bool.false_and] at hb
        subst hb
        go_enter Tryd.func45, Tryd.ntmps45
        go_wp2
        go_ret
        exact ⟨rfl, rfl⟩
    · rw [word_of h0, decide_eq_false h1, Bool.and_false, Bool.false_and] at hb
      subst hb
      go_enter Tryd.func45, Tryd.ntmps45
      go_wp2
      go_ret
      exact ⟨rfl, rfl⟩
  · rw [word_empty h0] at hb
    subst hb
    go_enter Tryd.func45, Tryd.ntmps45
    go_wp2
    go_ret
    exact ⟨rfl, rfl⟩
end Go.Proofs.YtbapkhkklglbaaaDoor.C9
