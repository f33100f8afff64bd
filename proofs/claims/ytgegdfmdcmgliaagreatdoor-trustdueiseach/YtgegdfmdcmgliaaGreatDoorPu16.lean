/-
  strconv.ParseUint and strconv.ParseInt at base 16, at eight digits of a digest: the number that they spell.
-/
import Derived.Test.YtgegdfmdcmgliaaGreatDoorLotP
import Derived.Lib.Strings
import Derived.Lib.Walk
import Derived.Lib.ConvBytes
import Derived.Lib.AtoiErrMem
import Derived.Lib.Hide
import Derived.Laws.IdiomStrings
import Derived.Laws.Strings3
import Derived.Laws.Closers25
import Derived.Laws.Closers25b
import Derived.WalkKit
import Derived.BigCall
import Derived.BigGuard
namespace Go.Proofs.YtgegdfmdcmgliaaGreatDoor
open Go.ChangeShapes Go.WideShapes Go.Deep Go.RowKit
set_option linter.unusedVariables false

def hexC (c : UInt8) : Prop := (48 ≤ c.toNat ∧ c.toNat ≤ 57) ∨ (97 ≤ c.toNat ∧ c.toNat ≤ 102)
theorem lower_any (c : Int) (w : World) : Calls Tryz.prog 108 #[.int .u8 c] w fun e w' => e = .returned (.int .u8 (bits .or .u8 c 32)) ∧ w' = w := by
  go_enter Tryz.func108, Tryz.ntmps108
  go_wp2
  go_ret
  exact ⟨rfl, rfl⟩
theorem or32 {c : Int} (h1 : 97 ≤ c) (h2 : c ≤ 102) : bits .or .u8 c 32 = c := by
  have : c = 97 ∨ c = 98 ∨ c = 99 ∨ c = 100 ∨ c = 101 ∨ c = 102 := by omega
  rcases this with rfl | rfl | rfl | rfl | rfl | rfl <;> decide
theorem hexV_cons_le (l : List UInt8) (h : ∀ c ∈ l, hexC c) {k : Nat} (hk : k ≤ l.length) (h8 : k ≤ 8) : hexV (l.take k) < 4294967296 :=
  Nat.lt_of_lt_of_le (hexV_lt l h k hk) (Nat.pow_le_pow_right (by omega) h8)
theorem hexV_next {l : List UInt8} {k : Nat} {c : UInt8} (h : l[k]? = some c) : hexV (l.take (k + 1)) = hexV (l.take k) * 16 + dvN c := by
  rw [List.take_add_one, h, Option.toList, hexV_snoc]

set_option maxHeartbeats 8000000 in
set_option maxRecDepth 100000 in
theorem parseU16 (t : ByteArray) (hn : t.size = 8) (hh : ∀ c ∈ t.data.toList, hexC c) (w : World) :
    Calls Tryz.prog 76 #[.string t, .int .i64 16, .int .i64 64] w fun e w' => e = .returned (.tuple #[.int .u64 (hexV t.data.toList : Nat), .nilIface]) ∧ w' = Lib.bytesWorld w 5 t := by
  have hemp : t.toList.isEmpty = false := by
    rw [← decide_eq_emptyBytes]
    exact decide_eq_false (fun h => by rw [h] at hn; cases hn)
  have hcv := Lib.run_convert_string_bytes (P := Tryz.prog) w 9 71 5 t (u := .string) Tryz.underlying9 Tryz.underlying71 Tryz.underlying5
  have hB : ∀ j, j < t.size → (Lib.bytesWorld w 5 t).cell? ⟨w.heap.size, j, none⟩ = some (.int .u8 (t.data.toList.getD j 0).toNat) := fun j hj => Lib.bytesWorld_cell w 5 t j hj
  obtain ⟨W1, hW1⟩ : ∃ W1, W1 = Lib.bytesWorld w 5 t := ⟨_, rfl⟩
  rw [← hW1] at hcv hB ⊢
  clear hW1
  obtain ⟨bs, hL⟩ : ∃ bs, bs = t.data.toList := ⟨_, rfl⟩
  have hLn : bs.length = t.size := by rw [hL, Lib.size_eq]
  rw [← hL] at hB hh ⊢
  clear hL
  have hmv : IntKind.u64.wrap (IntKind.u64.wrap 18446744073709551616 - 1) = 18446744073709551615 := by
    rw [IntKind.wrap_u64, IntKind.wrap_u64]
    decide
  have e19 : ∀ args w, (callFunc 108 args).run Tryz.prog w = .ok (.enter 108 args) w := fun _ _ => by kernel_rfl
  rw [hn] at hB hLn
  have hhH := Lib.hid hh
  clear hh
  go_enter Tryz.func76, Tryz.ntmps76
  go_wp2
  go_loop [12, 13, 101] (fun vu vn vi => ∃ (k : Nat) (a : Int), vu = .bool false ∧ vn = .int .u64 a ∧ vi = .int .i64 k ∧ k ≤ 8 ∧ Hid (a = (hexV (bs.take k) : Nat)))
    (fun _ _ vi => 8 - (intOf vi).toNat)
  case atStart => exact ⟨0, 0, rfl, rfl, rfl, by omega, rfl⟩
  case round =>
    obtain ⟨k, a, rfl, rfl, rfl, hk, ha⟩ := hrel
    have hlim := hexV_cons_le bs hhH.out (k := k) (by omega) hk
    have a0 : 0 ≤ a := by have := ha.out; omega
    have a1 : a < 4294967296 := by have := ha.out; omega
    by_cases hkn : k < 8
    · have hc := hB k hkn
      have hx : bs[k]? = some (bs[k]'(by omega)) := List.getElem?_eq_getElem _
      have hget : bs.getD k 0 = bs[k]'(by omega) := by simp [List.getD, hx]
      rw [hget] at hc
      have hcx := hhH.out (bs[k]'(by omega)) (List.getElem_mem _)
      have hnx := hexV_next hx
      have hlim2 := hexV_cons_le bs hhH.out (k := k + 1) (by omega) (by omega)
      generalize bs[k]'(by omega) = c at hc hcx hnx
      have hc256 : c.toNat < 256 := c.toNat_lt
      clear hB hget hx
      unfold hexC at hcx
      obtain ⟨ci, hci⟩ : ∃ ci : Int, ci = c.toNat := ⟨_, rfl⟩
      rw [← hci] at hc
      by_cases hdig : 48 ≤ c.toNat ∧ c.toNat ≤ 57
      · obtain ⟨hd0, hd1⟩ := hdig
        have hdv : dvN c = c.toNat - 48 := by unfold dvN; rw [if_pos hd1]
        have HN : Hid (a * 16 + (ci - 48) = (hexV (bs.take (k + 1)) : Nat)) := Lib.hid (by have := ha.out; rw [hnx, hdv]; omega)
        have i0 : 48 ≤ ci := by omega
        have i1 : ci ≤ 57 := by omega
        clear hcx hnx hdv hlim hlim2 hci ha hd0 hd1
        go_wp2
        refine ⟨⟨k + 1, a * 16 + (ci - 48), rfl, (by first | rfl | (congr 1; omega)), (by first | rfl | (congr 1; omega)), by omega, HN⟩, by simp [intOf]; omega⟩
      · have hd0 : 97 ≤ c.toNat ∧ c.toNat ≤ 102 := by omega
        have hdv : dvN c = c.toNat - 87 := by unfold dvN; rw [if_neg (by omega)]
        have HN : Hid (a * 16 + (ci - 87) = (hexV (bs.take (k + 1)) : Nat)) := Lib.hid (by have := ha.out; rw [hnx, hdv]; omega)
        have i0 : 97 ≤ ci := by omega
        have i1 : ci ≤ 102 := by omega
        have ho := or32 i0 i1
        clear hcx hnx hdv hlim hlim2 hci ha hd0 hdig
        go_wp2_with (go_at_call 108; refine (lower_any _ _).mono ?_; rintro e w' ⟨rfl, rfl⟩)
        all_goals refine ⟨⟨k + 1, a * 16 + (ci - 87), rfl, (by first | rfl | (congr 1; omega)), (by first | rfl | (congr 1; omega)), by omega, HN⟩, by simp [intOf]; omega⟩
    · have hkk : k = 8 := by omega
      subst hkk
      have hta : bs.take 8 = bs := List.take_of_length_le (by omega)
      have hax := ha.out
      rw [hta] at hax
      subst hax
      clear hlim a0 a1 ha
      go_wp2
      go_ret2
      exact ⟨rfl, rfl⟩

theorem hex_size {t : ByteArray} (h : t.size = 8) : t.data.toList.length = 8 := by simp [h]
theorem hexV8 {t : ByteArray} (hn : t.size = 8) (hh : ∀ c ∈ t.data.toList, hexC c) : hexV t.data.toList < 4294967296 := by
  have := hexV_cons_le t.data.toList hh (k := 8) (by rw [hex_size hn]; omega) (by omega)
  rwa [List.take_of_length_le (by rw [hex_size hn]; omega)] at this
set_option maxHeartbeats 4000000 in
set_option maxRecDepth 100000 in
theorem parseUint16 (t : ByteArray) (hn : t.size = 8) (hh : ∀ c ∈ t.data.toList, hexC c) (w : World) :
    Calls Tryz.prog 47 #[.string t, .int .i64 16, .int .i64 64] w fun e w' => e = .returned (.tuple #[.int .u64 (hexV t.data.toList : Nat), .nilIface]) ∧ Below w.heap.size w w' := by
  obtain ⟨v, hv⟩ : ∃ v, hexV t.data.toList = v := ⟨_, rfl⟩
  have hc := parseU16 t hn hh w
  rw [hv] at hc ⊢
  clear hv hh hn
  have hcH := Lib.hid hc
  clear hc
  go_enter Tryz.func47, Tryz.ntmps47
  go_wp2_with fail
  refine hcH.out.mono ?_
  rintro e w1 ⟨rfl, hw⟩
  have hb : Below w.heap.size w w1 := by rw [hw]; exact Lib.bytesWorld_below _ _ t
  clear hw
  have hbH := Lib.hid hb
  clear hb
  go_wp2
  go_ret2
  exact ⟨rfl, hbH.out⟩

set_option maxHeartbeats 4000000 in
set_option maxRecDepth 100000 in
theorem parseI16 (t : ByteArray) (hn : t.size = 8) (hh : ∀ c ∈ t.data.toList, hexC c) (w : World) :
    Calls Tryz.prog 88 #[.string t, .int .i64 16, .int .i64 64] w fun e w' => e = .returned (.tuple #[.int .i64 (hexV t.data.toList : Nat), .nilIface]) ∧ w' = Lib.bytesWorld w 5 t := by
  have hlt := hexV8 hn hh
  have hc := parseU16 t hn hh w
  have h3 := hex_size hn
  have h2 : ¬ t.toList = [] := by rw [Lib.toList_data]; intro e; rw [e] at h3; cases h3
  have h4 : (t.toList == ([] : List UInt8)) = false := by simpa using h2
  have hx : hexC (t[0]'(by omega)) := hh _ (by
    have e : t.data.toList[0]? = some (t[0]'(by omega)) := by rw [List.getElem?_eq_getElem (by omega)]; rfl
    exact List.mem_of_getElem? e)
  unfold hexC at hx
  have hp : (((t[0]'(by omega)).toNat : Int) == 43) = false := by rw [beq_eq_false_iff_ne]; omega
  have hm : (((t[0]'(by omega)).toNat : Int) == 45) = false := by rw [beq_eq_false_iff_ne]; omega
  obtain ⟨a, ha⟩ : ∃ a : Int, a = (hexV t.data.toList : Nat) := ⟨_, rfl⟩
  rw [← ha] at hc ⊢
  have a0 : 0 ≤ a := by omega
  have a1 : a < 4294967296 := by omega
  clear hx hh ha hlt h3
  have hcH := Lib.hid hc
  clear hc
  go_enter Tryz.func88, Tryz.ntmps88
  go_wp2_with fail
  refine hcH.out.mono ?_
  rintro e w1 ⟨rfl, hw⟩
  go_wp2
  go_ret2
  first | exact ⟨rfl, rfl⟩ | exact ⟨rfl, hw⟩
set_option maxHeartbeats 4000000 in
set_option maxRecDepth 100000 in
theorem parseInt16 (t : ByteArray) (hn : t.size = 8) (hh : ∀ c ∈ t.data.toList, hexC c) (w : World) :
    Calls Tryz.prog 57 #[.string t, .int .i64 16, .int .i64 64] w fun e w' => e = .returned (.tuple #[.int .i64 (hexV t.data.toList : Nat), .nilIface]) ∧ Below w.heap.size w w' := by
  obtain ⟨v, hv⟩ : ∃ v, hexV t.data.toList = v := ⟨_, rfl⟩
  have hc := parseI16 t hn hh w
  rw [hv] at hc ⊢
  clear hv hh hn
  have hcH := Lib.hid hc
  clear hc
  go_enter Tryz.func57, Tryz.ntmps57
  go_wp2_with fail
  refine hcH.out.mono ?_
  rintro e w1 ⟨rfl, hw⟩
  have hb : Below w.heap.size w w1 := by rw [hw]; exact Lib.bytesWorld_below _ _ t
  clear hw
  have hbH := Lib.hid hb
  clear hb
  go_wp2
  go_ret2
  exact ⟨rfl, hbH.out⟩
end Go.Proofs.YtgegdfmdcmgliaaGreatDoor
