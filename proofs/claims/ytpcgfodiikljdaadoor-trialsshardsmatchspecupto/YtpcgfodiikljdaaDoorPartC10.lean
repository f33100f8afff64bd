/-
  A part of a path: what isPart says.
-/
import Derived.Test.YtpcgfodiikljdaaDoorWordPC10
import Derived.Test.YtpcgfodiikljdaaDoorOrd
import Derived.Test.YtpcgfodiikljdaaDoorInC10
import Derived.Test.YtpcgfodiikljdaaDoorShelf
namespace Go.Proofs.YtpcgfodiikljdaaDoor.C10
open Go.RowKit
set_option linter.unusedVariables false

/-- a byte that a part of a path can hold -/
def pch (b : UInt8) : Bool := decide ((97 ≤ b.toNat ∧ b.toNat ≤ 122) ∨ (65 ≤ b.toNat ∧ b.toNat ≤ 90) ∨ (48 ≤ b.toNat ∧ b.toNat ≤ 57) ∨ b.toNat = 46 ∨ b.toNat = 95 ∨ b.toNat = 45 ∨ b.toNat = 43)
def partL (l : List UInt8) : Bool := l.all pch && !(l == []) && !(l == [46]) && !(l == [46, 46])
def partB (s : ByteArray) : Bool := partL s.data.toList

theorem idx_ge (x : UInt8) : decide (Lib.indexByte [46, 95, 45, 43] x ≥ 0) = decide (x.toNat = 46 ∨ x.toNat = 95 ∨ x.toNat = 45 ∨ x.toNat = 43) := by
  have := byte_all (p := fun x => decide (Lib.indexByte [46, 95, 45, 43] x ≥ 0) == decide (x.toNat = 46 ∨ x.toNat = 95 ∨ x.toNat = 45 ∨ x.toNat = 43)) (by decide +kernel) x
  simpa using this
theorem idx_byte (x : UInt8) (w : World) : Calls Tryd.prog 66 #[.string ⟨#[46, 95, 45, 43]⟩, .int .u8 x.toNat] w fun e w' => e = .returned (.int .i64 (Lib.indexByte [46, 95, 45, 43] x)) ∧ w' = w := by
  have := Tryd.strings_IndexByte ⟨#[46, 95, 45, 43]⟩ x.toNat w
  rwa [show ((x.toNat : Int).toNat.toUInt8) = x by simp, show (⟨#[46, 95, 45, 43]⟩ : ByteArray).data.toList = [46, 95, 45, 43] from rfl] at this

def PartRel (s : ByteArray) (b : Bool) (i : Value) : Prop := ∃ k : Nat, k ≤ s.size ∧ i = .int .i64 k ∧ b = (s.data.toList.drop k).all pch

set_option maxHeartbeats 1000000 in
theorem inPart_any (x : UInt8) (w : World) (b : Bool) (hb : pch x = b) :
    Calls Tryd.prog 58 #[.int .u8 x.toNat] w fun e w' => e = .returned (.bool b) ∧ w' = w := by
  have hx : x.toNat < 256 := x.toNat_lt
  have hid := idx_ge x
  unfold pch at hb
  obtain ⟨c, hc⟩ : ∃ c, Lib.indexByte [46, 95, 45, 43] x = c := ⟨_, rfl⟩
  have hidx := idx_byte x
  rw [hc] at hid hidx
  replace hid : (0 ≤ c) ↔ (x.toNat = 46 ∨ x.toNat = 95 ∨ x.toNat = 45 ∨ x.toNat = 43) := decide_eq_decide.1 hid
  have hcH := Lib.hid hc
  clear hc
  have hidxH := Lib.hid hidx
  clear hidx
  go_enter Tryd.func58, Tryd.ntmps58
  go_wp2_with (go_at_call 66; refine (hidxH.out _).mono ?_; rintro e wz ⟨rfl, rfl⟩)
  all_goals first
    | (exfalso; omega)
    | (go_ret; refine ⟨ret_bool ?_, rfl⟩; rw [← hb, Bool.eq_iff_iff]; simp only [Bool.or_eq_true, decide_eq_true_iff]; first | omega | (simp; omega))

theorem part_loop {s : ByteArray} {k : Nat} {b : Bool} (h : k < s.size) (hb : b = (s.data.toList.drop k).all pch) : b = (pch s[k] && (s.data.toList.drop (k + 1)).all pch) := all_step h hb

set_option maxHeartbeats 1000000 in
theorem isPart_any (s : ByteArray) (w : World) (hs : s.size ≤ 9223372036854775807) (b : Bool) (hb : partB s = b) :
    Calls Tryd.prog 39 #[.string s] w fun e w' => e = .returned (.bool b) ∧ w = w' := by
  obtain ⟨a, ha⟩ : ∃ a, a = s.data.toList.all pch := ⟨_, rfl⟩
  unfold partB partL at hb
  rw [← ha, ← Lib.toList_data s] at hb
  have haH := Lib.hid ha
  clear ha
  have hbH := Lib.hid hb
  clear hb
  go_enter Tryd.func39, Tryd.ntmps39
  go_wp2
  go_loop [6] (fun i => PartRel s a i) (fun i => s.size - (intOf i).toNat)
  case atStart => exact ⟨0, Nat.zero_le _, rfl, haH.out⟩
  case round =>
    obtain ⟨k, hk, rfl, hr⟩ := hrel
    have hrH := Lib.hid hr
    clear hr
    by_cases hlt : k < s.size
    · have hs := part_loop hlt hrH.out
      cases hp : pch s[k]
      · rw [hp, Bool.false_and] at hs
        have hb := hbH.out
        rw [hs, Bool.false_and, Bool.false_and, Bool.false_and] at hb
        subst hb
        clear hs
        have hpH := Lib.hid hp
        clear hp
        go_wp2_with (go_at_call 58; refine (inPart_any _ _ _ (by exact hpH.out)).mono ?_; rintro e wz ⟨rfl, rfl⟩)
        go_ret
        exact ⟨rfl, rfl⟩
      · rw [hp, Bool.true_and] at hs
        have R : PartRel s a (.int .i64 (k + 1)) := ⟨k + 1, by omega, by go_num, hs⟩
        clear hs
        have hpH := Lib.hid hp
        clear hp
        have RH := Lib.hid R
        clear R
        go_wp2_with (go_at_call 58; refine (inPart_any _ _ _ (by exact hpH.out)).mono ?_; rintro e wz ⟨rfl, rfl⟩)
        refine ⟨?rel, ?measure⟩
        case measure => (simp [intOf]; omega)
        case rel => first | exact RH.out | exact ⟨rfl, RH.out⟩ | ((try refine ⟨rfl, ?_⟩); (repeat apply Exists.intro); refine ⟨RH.out, ?_⟩; ((repeat' apply And.intro) <;> rfl))
    · have e : s.data.toList.drop k = [] := List.drop_eq_nil_of_le (by simp; omega)
      have ha2 : a = true := by have := hrH.out; rw [e] at this; exact this
      clear hrH e
      subst ha2
      go_wp2
      all_goals (go_ret; refine ⟨ret_bool ?_, rfl⟩; rw [← hbH.out]; simp [*])
end Go.Proofs.YtpcgfodiikljdaaDoor.C10
