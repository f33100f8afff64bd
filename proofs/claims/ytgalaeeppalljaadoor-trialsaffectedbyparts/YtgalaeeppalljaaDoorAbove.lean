/-
  above, lies: the paths within which a path lies.
-/
import Derived.Test.YtgalaeeppalljaaDoorRFlaky
namespace Go.Proofs.YtgalaeeppalljaaDoor
open Go.RowKit
set_option linter.unusedVariables false

def aboveAt (s : ByteArray) (k : Nat) : List ByteArray := if h : k < s.size then (if s[k].toNat = 47 then [s.extract 0 k] else []) else []
def aboveN (s : ByteArray) : Nat → List ByteArray
  | 0 => []
  | k + 1 => aboveN s k ++ aboveAt s k
def aboveL (s : ByteArray) : List ByteArray := aboveN s s.size
theorem aboveAt_len (s : ByteArray) (k : Nat) : (aboveAt s k).length ≤ 1 := by
  unfold aboveAt
  split
  · split <;> simp
  · simp
theorem aboveN_len (s : ByteArray) : ∀ k, (aboveN s k).length ≤ k
  | 0 => Nat.le_refl _
  | k + 1 => by
    have := aboveN_len s k
    have := aboveAt_len s k
    rw [aboveN, List.length_append]; omega

def AbRel (s : ByteArray) (w0 : World) (v i : Value) (wr : World) : Prop :=
  ∃ (k n cap : Nat) (A : Option Addr), k ≤ s.size ∧ i = .int .i64 k ∧ v = .slice A n cap ∧ Own RStr 9 wr w0.heap.size v (aboveN s k) ∧ Below w0.heap.size w0 wr

set_option maxHeartbeats 1000000 in
theorem above_any (s : ByteArray) (w : World) (hs : s.size ≤ 900000) :
    Calls Tryd.prog 91 #[.string s] w fun e w' => ∃ A n c, e = .returned (.slice A n c) ∧ SlAt RStr w' A n (aboveL s) ∧ n ≤ s.size ∧ Below w.heap.size w w' := by
  go_enter Tryd.func91, Tryd.ntmps91
  go_wp2_with fail
  go_loopw [3, 7] (fun v i wr => AbRel s w v i wr) (fun _ i _ => s.size - (intOf i).toNat)
  case atStart => exact ⟨0, 0, 0, none, Nat.zero_le _, rfl, rfl, Own.nil _ _, Below.refl _ _⟩
  case round =>
    obtain ⟨k, n, cap, A, hk, rfl, rfl, hown, hb⟩ := hrel
    have hbs := hb.size
    have hn := hown.len
    have hnk := aboveN_len s k
    rw [hn] at hnk
    have hownH := Lib.hid hown
    clear hown
    have hbH := Lib.hid hb
    clear hb
    have hnH := Lib.hid hn
    clear hn
    by_cases hlt : k < s.size
    · have hat : aboveN s (k + 1) = aboveN s k ++ (if s[k].toNat = 47 then [s.extract 0 k] else []) := by rw [aboveN, aboveAt, dif_pos hlt]
      have hexz : (s.extract 0 k).size ≤ maxLen := by simp only [ByteArray.size_extract]; unfold maxLen; omega
      by_cases h47 : s[k].toNat = 47
      · rw [if_pos h47] at hat
        have h47' : ((s[k].toNat : Int) == 47) = true := by rw [h47]; rfl
        have hatH := Lib.hid hat
        clear hat
        have hexzH := Lib.hid hexz
        clear hexz
        go_wp2_with (at_builtin; go_loud (refine wpList_app rfl (.tmp 14) (.tmp 18) 24 rfl Tryd.underlying24 elem_Str (by decide) rfl (hownH.out.alloc _) (some ⟨wr.heap.size, 0, none⟩) 1 1 [s.extract 0 k] rfl (slAt_new _ _ _ hexzH.out) ?nn ?ok ?c1 ?c2 ?c3 (n + 1) ?c4 ?_))
        case nn => intro h; cases h
        case ok => exact fun _ _ _ _ h => h
        case c1 => have := hnH.out; simp [maxLen] <;> omega
        case c2 => have := hnH.out; omega
        case c3 => simp <;> omega
        case c4 => have := hnH.out; omega
        intro A' c' w7 hown7 hg7 hat7 hb7
        have R : AbRel s w (.slice A' (n + 1) c') (.int .i64 (k + 1)) w7 := by
          refine ⟨k + 1, n + 1, c', A', by omega, by go_num, rfl, ?_, (hbH.out.alloc hbs _).trans hb7⟩
          rw [hatH.out]
          exact hown7
        clear hg7 hat7 hb7 hown7
        have RH := Lib.hid R
        clear R
        go_wp2
        refine ⟨?rel, ?measure⟩
        case measure => (simp [intOf]; omega)
        case rel => first | exact RH.out | exact ⟨rfl, RH.out⟩ | ((try refine ⟨rfl, ?_⟩); (repeat apply Exists.intro); refine ⟨RH.out, ?_⟩; ((repeat' apply And.intro) <;> rfl))
      · rw [if_neg h47, List.append_nil] at hat
        have h47' : ((s[k].toNat : Int) == 47) = false := by simp; omega
        have R : AbRel s w (.slice A n cap) (.int .i64 (k + 1)) wr := ⟨k + 1, n, cap, A, by omega, by go_num, rfl, by rw [hat]; exact hownH.out, hbH.out⟩
        clear hat
        have RH := Lib.hid R
        clear R
        go_wp2
        refine ⟨?rel, ?measure⟩
        case measure => (simp [intOf]; omega)
        case rel => first | exact RH.out | exact ⟨rfl, RH.out⟩ | ((try refine ⟨rfl, ?_⟩); (repeat apply Exists.intro); refine ⟨RH.out, ?_⟩; ((repeat' apply And.intro) <;> rfl))
    · obtain rfl : k = s.size := by omega
      go_wp2
      go_ret
      exact ⟨A, n, cap, rfl, hownH.out.slAt, hnk, hbH.out⟩
end Go.Proofs.YtgalaeeppalljaaDoor
