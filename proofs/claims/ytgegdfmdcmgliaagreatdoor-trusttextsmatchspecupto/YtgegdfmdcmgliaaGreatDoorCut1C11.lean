/-
  strings.Cut at a colon, at a string of any size.
-/
import Derived.Test.YtgegdfmdcmgliaaGreatDoorLabelDC11
import Derived.Test.YtgegdfmdcmgliaaGreatDoorShelf
import Derived.Test.YtgegdfmdcmgliaaGreatDoorInC11
import Derived.Test.YtgegdfmdcmgliaaGreatDoorOrd
import Derived.Deep.RegionHeld3
namespace Go.Proofs.YtgegdfmdcmgliaaGreatDoor.C11
open Go.RowKit Go.Lib
set_option linter.unusedVariables false

set_option maxRecDepth 100000 in
theorem idx58_any (s : ByteArray) (w : World) :
    Calls Tryz.prog 99 #[.string s, .string ⟨#[58]⟩] w fun e w' => e = .returned (.int .i64 (indexByte s.data.toList 58)) ∧ w = w' := by
  by_cases hs : s = ⟨#[58]⟩
  · subst hs
    rw [show indexByte (⟨#[58]⟩ : ByteArray).data.toList 58 = 0 from rfl]
    go_enter Tryz.func99, Tryz.ntmps99
    go_wp2
    go_ret
    exact ⟨rfl, rfl⟩
  · have hs2 : ¬ s.toList = [58] := fun h => hs (by rw [Lib.toList_data] at h; rw [← data_bs s, h]; rfl)
    have hs3 : ¬ [58] = s.toList := fun h => hs2 h.symm
    have hs4 : (([58] : List UInt8) == s.toList) = false := by rw [beq_eq_false_iff_ne]; exact hs3
    obtain ⟨k, hk⟩ : ∃ k, indexByte s.data.toList 58 = k := ⟨_, rfl⟩
    rw [hk]
    have hkH := Lib.hid hk
    clear hk
    have hsH := Lib.hid hs
    clear hs
    go_enter Tryz.func99, Tryz.ntmps99
    go_wp2_with fail
    refine (Tryz.stringslite_IndexByte s 58 _).mono ?_
    rintro e w1 ⟨rfl, rfl⟩
    rw [show ((58 : Int).toNat.toUInt8) = (58 : UInt8) from rfl, hkH.out]
    go_wp2
    go_ret
    exact ⟨rfl, rfl⟩

theorem ext_take (s : ByteArray) (k : Nat) : s.extract 0 k = bs (s.data.toList.take k) := by
  rw [← data_bs (s.extract 0 k), ByteArray.data_extract, Array.toList_extract]
  simp
theorem ext_drop (s : ByteArray) (k : Nat) : s.extract k s.size = bs (s.data.toList.drop k) := by
  rw [← data_bs (s.extract k s.size), ByteArray.data_extract, Array.toList_extract]
  congr 1
  rw [List.extract_eq_take_drop, List.take_of_length_le (by rw [List.length_drop, Array.length_toList]; exact Nat.le_refl _)]

set_option maxRecDepth 100000 in
theorem scut58_any (s : ByteArray) (u rest : List UInt8) (ok : Bool) (h : cut s.data.toList [58] = (u, rest, ok)) (w : World) (hs : s.size ≤ 9223372036854775807) :
    Calls Tryz.prog 63 #[.string s, .string ⟨#[58]⟩] w fun e w' => e = .returned (.tuple #[.string (bs u), .string (bs rest), .bool ok]) ∧ Below w.heap.size w w' := by
  unfold cut at h
  rw [index_one] at h
  have hge := indexByte_ge s.data.toList 58
  obtain ⟨k, hk⟩ : ∃ k, indexByte s.data.toList 58 = k := ⟨_, rfl⟩
  rw [hk] at h hge
  by_cases h0 : 0 ≤ k
  · rw [if_pos h0] at h
    obtain ⟨o, rfl⟩ : ∃ o : Nat, k = o := ⟨k.toNat, by omega⟩
    have hlt : o < s.size := by
      obtain ⟨h1, _⟩ := List.getElem?_eq_some_iff.1 (indexByte_some hk).1
      rw [Array.length_toList] at h1
      exact h1
    injection h with e1 h
    injection h with e2 e3
    subst e1 e2 e3
    rw [show ((o : Int).toNat + ([58] : List UInt8).length) = o + 1 from rfl, show (o : Int).toNat = o from rfl, ← ext_take, ← ext_drop]
    have z1 : (o : Int) ≤ s.size := by omega
    have z2 : (o : Int) + 1 ≤ s.size := by omega
    have hkH := Lib.hid hk
    clear hk
    go_enter Tryz.func63, Tryz.ntmps63
    go_wp2_with fail
    refine (idx58_any s _).mono ?_
    rintro e w1 ⟨rfl, rfl⟩
    rw [hkH.out]
    go_wp2_with fail
    go_quiet (fail)
    go_wp2
    go_ret3
    exact ⟨rfl, bel_drewN (Below.refl _ _) _⟩
  · rw [if_neg h0] at h
    obtain rfl : k = -1 := by omega
    injection h with e1 h
    injection h with e2 e3
    subst e1 e2 e3
    rw [data_bs]
    have hkH := Lib.hid hk
    clear hk
    go_enter Tryz.func63, Tryz.ntmps63
    go_wp2_with fail
    refine (idx58_any s _).mono ?_
    rintro e w1 ⟨rfl, rfl⟩
    rw [hkH.out]
    go_wp2
    go_ret3
    exact ⟨rfl, Below.refl _ _⟩
theorem cutw58_any (s : ByteArray) (u rest : List UInt8) (ok : Bool) (h : cut s.data.toList [58] = (u, rest, ok)) (w : World) (hs : s.size ≤ 9223372036854775807) :
    Calls Tryz.prog 34 #[.string s, .string ⟨#[58]⟩] w fun e w' => e = .returned (.tuple #[.string (bs u), .string (bs rest), .bool ok]) ∧ Below w.heap.size w w' := by
  have hH := Lib.hid h
  clear h
  go_enter Tryz.func34, Tryz.ntmps34
  go_wp2_with fail
  refine (scut58_any s u rest ok hH.out _ hs).mono ?_
  rintro e w1 ⟨rfl, hw1⟩
  have hw1H := Lib.hid hw1
  clear hw1
  go_wp2
  go_ret3
  exact ⟨rfl, hw1H.out⟩

def LiRel (s : ByteArray) (i : Value) : Prop := ∃ k : Int, i = .int .i64 k ∧ -1 ≤ k ∧ k < s.size
theorem libs_any (s : ByteArray) (w : World) (hs : s.size ≤ 9223372036854775807) :
    Calls Tryz.prog 179 #[.string s, .int .u8 47] w fun e w' => ∃ k : Int, e = .returned (.int .i64 k) ∧ -1 ≤ k ∧ k < s.size ∧ w = w' := by
  go_enter Tryz.func179, Tryz.ntmps179
  go_wp2_with fail
  go_loop [5] (fun i => LiRel s i) (fun i => (intOf i + 1).toNat)
  case atStart => exact ⟨_, rfl, by omega, by omega⟩
  case round =>
    obtain ⟨k, rfl, h1, h2⟩ := hrel
    by_cases h0 : 0 ≤ k
    · obtain ⟨n, rfl⟩ : ∃ n : Nat, k = n := ⟨k.toNat, by omega⟩
      have hlt : n < s.size := by omega
      by_cases h47 : s[n].toNat = 47
      · have h47' : ((s[n].toNat : Int) == 47) = true := by rw [h47]; rfl
        go_wp2
        go_ret
        exact ⟨n, rfl, h1, h2, rfl⟩
      · have h47' : ((s[n].toNat : Int) == 47) = false := by simp; omega
        have R : LiRel s (.int .i64 ((n : Int) - 1)) := ⟨_, rfl, by omega, by omega⟩
        have RH := Lib.hid R
        clear R
        go_wp2
        refine ⟨?rel, ?measure⟩
        case measure => (simp [intOf]; try omega)
        case rel => first | exact RH.out | exact ⟨rfl, RH.out⟩ | ((try refine ⟨rfl, ?_⟩); (repeat apply Exists.intro); refine ⟨RH.out, ?_⟩; ((repeat' apply And.intro) <;> rfl))
    · obtain rfl : k = -1 := by omega
      go_wp2
      go_ret
      exact ⟨-1, rfl, h1, h2, rfl⟩
theorem lastIdx_any (s : ByteArray) (w : World) (hs : s.size ≤ 9223372036854775807) :
    Calls Tryz.prog 155 #[.string s, .int .u8 47] w fun e w' => ∃ k : Int, e = .returned (.int .i64 k) ∧ -1 ≤ k ∧ k < s.size ∧ w = w' := by
  go_enter Tryz.func155, Tryz.ntmps155
  go_wp2_with fail
  refine (libs_any s _ hs).mono ?_
  rintro e w1 ⟨k, rfl, h1, h2, rfl⟩
  go_wp2
  go_ret
  exact ⟨k, rfl, h1, h2, rfl⟩
end Go.Proofs.YtgegdfmdcmgliaaGreatDoor.C11
