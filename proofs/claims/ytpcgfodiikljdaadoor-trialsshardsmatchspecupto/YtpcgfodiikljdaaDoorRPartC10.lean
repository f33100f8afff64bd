/-
  isPart of the reference.
-/
import Derived.Test.YtpcgfodiikljdaaDoorPartC10
namespace Go.Proofs.YtpcgfodiikljdaaDoor.C10
open Go.RowKit
set_option linter.unusedVariables false

set_option maxHeartbeats 1000000 in
theorem risPart_any (s : ByteArray) (w : World) (hs : s.size ≤ 9223372036854775807) (b : Bool) (hb : partB s = b) :
    Calls Tryd.prog 41 #[.string s] w fun e w' => e = .returned (.bool b) ∧ w = w' := by
  obtain ⟨a, ha⟩ : ∃ a, a = s.data.toList.all pch := ⟨_, rfl⟩
  unfold partB partL at hb
  rw [← ha, ← Lib.toList_data s] at hb
  have haH := Lib.hid ha
  clear ha
  have hbH := Lib.hid hb
  clear hb
  go_enter Tryd.func41, Tryd.ntmps41
  go_wp2
  go_loop [7] (fun i => PartRel s a i) (fun i => s.size - (intOf i).toNat)
  case atStart => exact ⟨0, Nat.zero_le _, rfl, haH.out⟩
  case round =>
    obtain ⟨k, hk, rfl, hr⟩ := hrel
    have hrH := Lib.hid hr
    clear hr
    by_cases hlt : k < s.size
    · have hs := part_loop hlt hrH.out
      have hid := idx_ge s[k]
      obtain ⟨c, hc⟩ : ∃ c, Lib.indexByte [46, 95, 45, 43] s[k] = c := ⟨_, rfl⟩
      have hidx := idx_byte s[k]
      rw [hc] at hid hidx
      replace hid : (0 ≤ c) ↔ (s[k].toNat = 46 ∨ s[k].toNat = 95 ∨ s[k].toNat = 45 ∨ s[k].toNat = 43) := decide_eq_decide.1 hid
      have hkk : s[k].toNat < 256 := s[k].toNat_lt
      have R0 : pch s[k] = true → PartRel s a (.int .i64 (k + 1)) := fun h => ⟨k + 1, by omega, by go_num, by rw [hs, h, Bool.true_and]⟩
      have F0 : pch s[k] = false → b = false := fun h => by rw [← hbH.out, hs, h, Bool.false_and, Bool.false_and, Bool.false_and, Bool.false_and]
      clear hs
      have hcH := Lib.hid hc
      clear hc
      have hidxH := Lib.hid hidx
      clear hidx
      have R0H := Lib.hid R0
      clear R0
      have F0H := Lib.hid F0
      clear F0
      have hidH := Lib.hid hid
      clear hid
      go_wp2_with (go_at_call 66; refine (hidxH.out _).mono ?_; rintro e wz ⟨rfl, rfl⟩)
      all_goals have hid := hidH.out
      all_goals first
        | (exfalso; omega)
        | (go_ret; have hf := F0H.out (decide_eq_false (by omega)); exact ⟨ret_bool hf.symm, rfl⟩)
        | (have R := R0H.out (decide_eq_true (by omega)); refine ⟨?rel, ?measure⟩; (case measure => (simp [intOf]; omega)); (case rel => exact R))
        | skip
    · have e : s.data.toList.drop k = [] := List.drop_eq_nil_of_le (by simp; omega)
      have ha2 : a = true := by have := hrH.out; rw [e] at this; exact this
      clear hrH e
      subst ha2
      go_wp2
      all_goals (go_ret; refine ⟨ret_bool ?_, rfl⟩; rw [← hbH.out]; simp [*])
end Go.Proofs.YtpcgfodiikljdaaDoor.C10
