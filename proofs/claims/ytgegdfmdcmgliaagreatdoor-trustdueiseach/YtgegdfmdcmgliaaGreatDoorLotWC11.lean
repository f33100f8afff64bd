/-
  lot, of the program and of the reference.
-/
import Derived.Test.YtgegdfmdcmgliaaGreatDoorPu16
import Derived.Test.YtgegdfmdcmgliaaGreatDoorDueDC11
import Derived.Test.YtgegdfmdcmgliaaGreatDoorClaimWC11
import Derived.Test.YtgegdfmdcmgliaaGreatDoorDigW
import Derived.Test.YtgegdfmdcmgliaaGreatDoorSignWC11
namespace Go.Proofs.YtgegdfmdcmgliaaGreatDoor.C11
open Go.ChangeShapes Go.WideShapes Go.Deep Go.RowKit
set_option linter.unusedVariables false

theorem dig8 (l : List UInt8) : ((digF l).extract 0 8).data.toList = (digF l).data.toList.take 8 := by simp
theorem dig8_size (l : List UInt8) : ((digF l).extract 0 8).size = 8 := by rw [ByteArray.size_extract, digF_size]; decide
theorem dig8_hex (l : List UInt8) : ∀ c ∈ ((digF l).extract 0 8).data.toList, hexC c := by
  intro c hc
  rw [dig8, digF_data] at hc
  exact hex16_mem (List.mem_of_mem_take hc)
def d8 (t : ByteArray) : ByteArray := (digF t.data.toList).extract 0 8
theorem run_slice8 (t : ByteArray) (W : World) : (Instr.slice 9 (.string (digF t.data.toList)) none (some (.int .i64 8)) none).run Tryz.prog W = .ok (.string (d8 t)) W := by
  have hz := digF_size t.data.toList
  rw [run_slice_string_to_if W 9 _ .i64 _ Tryz.underlying9, if_pos ⟨by omega, by omega⟩]
  rfl
set_option maxRecDepth 100000 in
set_option maxHeartbeats 4000000 in
theorem lot_any (round i every : Int) (key : ByteArray) (w : World) (ht : PowTab w) (hr : I64 round) (hi : I64 i) (hk : key.size ≤ 16) (he0 : 1 ≤ every) (he1 : every ≤ 1000000) (g : Int) (hg : lotF round i key every = g) :
    Calls Tryz.prog 22 #[.int .i64 round, .int .i64 i, .string key, .int .i64 every] w fun e w' => e = .returned (.int .i64 g) ∧ Below w.heap.size w w' := by
  have hcv := fun (w : World) (s : ByteArray) => run_bytes_of_string (P := Tryz.prog) w 9 71 5 s Tryz.underlying9 Tryz.underlying71 Tryz.underlying5
  have zr := itoaS_size hr
  have zi := itoaS_size hi
  obtain ⟨s0, es0⟩ : ∃ z, itoaS round = z := ⟨_, rfl⟩
  obtain ⟨s1, es1⟩ : ∃ z, itoaS i = z := ⟨_, rfl⟩
  have hI0 := fun (W : World) (h : PowTab W) => itoa_any round hr W h
  have hI1 := fun (W : World) (h : PowTab W) => itoa_any i hi W h
  rw [es0] at zr hI0
  rw [es1] at zi hI1
  obtain ⟨t1, et1⟩ : ∃ z, s0 ++ ⟨#[32]⟩ = z := ⟨_, rfl⟩
  have z1 : t1.size = s0.size + 1 := by rw [← et1, ByteArray.size_append]; rfl
  obtain ⟨t2, et2⟩ : ∃ z, t1 ++ s1 = z := ⟨_, rfl⟩
  have z2 : t2.size = t1.size + s1.size := by rw [← et2, ByteArray.size_append]
  obtain ⟨t3, et3⟩ : ∃ z, t2 ++ ⟨#[32]⟩ = z := ⟨_, rfl⟩
  have z3 : t3.size = t2.size + 1 := by rw [← et3, ByteArray.size_append]; rfl
  obtain ⟨t4, et4⟩ : ∃ z, t3 ++ key = z := ⟨_, rfl⟩
  have z4 : t4.size = t3.size + key.size := by rw [← et4, ByteArray.size_append]
  have e1 : ∀ w : World, (Op.stringOp .add s0 ⟨#[32]⟩).run Tryz.prog w = .ok (.string t1) w := fun w => by rw [← et1]; exact run_string_add_sum w _ _ (by show s0.size + 1 ≤ _; omega)
  have e2 : ∀ w : World, (Op.stringOp .add t1 s1).run Tryz.prog w = .ok (.string t2) w := fun w => by rw [← et2]; exact run_string_add_sum w _ _ (by omega)
  have e3 : ∀ w : World, (Op.stringOp .add t2 ⟨#[32]⟩).run Tryz.prog w = .ok (.string t3) w := fun w => by rw [← et3]; exact run_string_add_sum w _ _ (by show t2.size + 1 ≤ _; omega)
  have e4 : ∀ w : World, (Op.stringOp .add t3 key).run Tryz.prog w = .ok (.string t4) w := fun w => by rw [← et4]; exact run_string_add_sum w _ _ (by omega)
  have hT : lotT round i key = t4 := by unfold lotT spS; rw [es0, es1, et1, et2, et3, et4]
  have hz4 : t4.size ≤ 1000000 := by omega
  have hs8 := run_slice8 t4
  have h8 : hexV (d8 t4).data.toList = lotN round i key := by unfold lotN d8; rw [hT, dig8]
  have h8z : (d8 t4).size = 8 := dig8_size _
  have h8h : ∀ c ∈ (d8 t4).data.toList, hexC c := dig8_hex _
  have hlt := lotN_lt round i key
  unfold lotF at hg
  obtain ⟨a, ha⟩ : ∃ a : Int, a = (lotN round i key : Nat) := ⟨_, rfl⟩
  rw [← ha] at hg
  have hP : ∀ W : World, Calls Tryz.prog 47 #[.string (d8 t4), .int .i64 16, .int .i64 64] W fun e w' => e = .returned (.tuple #[.int .u64 a, .nilIface]) ∧ Below W.heap.size W w' := fun W => by
    have := parseUint16 (d8 t4) h8z h8h W
    rw [h8, ← ha] at this
    exact this
  have a0 : 0 ≤ a := by omega
  have a1 : a < 4294967296 := by omega
  have hmod : a.tmod every = g := by rw [← hg]; exact Int.tmod_eq_emod_of_nonneg a0
  obtain ⟨d, hd⟩ : ∃ d, d8 t4 = d := ⟨_, rfl⟩
  rw [hd] at hs8 hP
  have hev : every ≠ 0 := by omega
  have hevb : (every == 0) = false := by simpa using hev
  clear hlt ha h8 h8z h8h hd hg z1 z2 z3 z4 et1 et2 et3 et4 hT es0 es1 zr zi
  have htH := Lib.hid ht
  clear ht
  have hI0H := Lib.hid hI0
  clear hI0
  have hI1H := Lib.hid hI1
  clear hI1
  have hPH := Lib.hid hP
  clear hP
  have hz4H := Lib.hid hz4
  clear hz4
  go_enter Tryz.func22, Tryz.ntmps22
  go_wp2_with fail
  refine (hI0H.out _ htH.out).mono ?_
  rintro e w1 ⟨rfl, hb1⟩
  have hb1H := Lib.hid hb1
  clear hb1
  go_wp2_with fail
  refine (hI1H.out _ (htH.out.below hb1H.out)).mono ?_
  rintro e w2 ⟨rfl, hb2⟩
  have hbw := hb1H.out.trans (hb2.mono hb1H.out.size)
  clear hb2
  have hbwH := Lib.hid hbw
  clear hbw
  go_wp2_with fail
  refine (digest_bytes w2.heap.size 0 t4.size _ t4.data.toList _ (by rw [Array.length_toList]; rfl) (by first | exact bytes_row w2.drew t4 _ _ | exact bytes_row w2 t4 _ _) (by simp) (by have := hz4H.out; omega)).mono ?_
  rintro e w5 ⟨rfl, hb5⟩
  have hbw5 : Below w.heap.size w w5 := by
    have := hbwH.out.size
    first | exact (hbwH.out.alloc hbwH.out.size _).drew.trans (hb5.mono (by simp; omega)) | exact (hbwH.out.drew.alloc hbwH.out.size _).trans (hb5.mono (by simp; omega))
  clear hb5
  have hbw5H := Lib.hid hbw5
  clear hbw5
  go_wp2_with fail
  refine (hPH.out _).mono ?_
  rintro e w6 ⟨rfl, hb6⟩
  have hbw6 := hbw5H.out.trans (hb6.mono hbw5H.out.size)
  clear hb6
  have hbw6H := Lib.hid hbw6
  clear hbw6
  go_wp2
  go_ret
  exact ⟨rfl, hbw6H.out⟩
set_option maxRecDepth 100000 in
set_option maxHeartbeats 4000000 in
theorem rlot_any (round i every : Int) (key : ByteArray) (w : World) (ht : PowTab w) (hr : I64 round) (hi : I64 i) (hk : key.size ≤ 16) (he0 : 1 ≤ every) (he1 : every ≤ 1000000) (g : Int) (hg : lotF round i key every = g) :
    Calls Tryz.prog 27 #[.string key, .int .i64 i, .int .i64 round, .int .i64 every] w fun e w' => e = .returned (.int .i64 g) ∧ Below w.heap.size w w' := by
  have hcv := fun (w : World) (s : ByteArray) => run_bytes_of_string (P := Tryz.prog) w 9 71 5 s Tryz.underlying9 Tryz.underlying71 Tryz.underlying5
  have zr := itoaS_size hr
  have zi := itoaS_size hi
  obtain ⟨s0, es0⟩ : ∃ z, itoaS round = z := ⟨_, rfl⟩
  obtain ⟨s1, es1⟩ : ∃ z, itoaS i = z := ⟨_, rfl⟩
  have hI0 := fun (W : World) (h : PowTab W) => itoa_any round hr W h
  have hI1 := fun (W : World) (h : PowTab W) => itoa_any i hi W h
  rw [es0] at zr hI0
  rw [es1] at zi hI1
  obtain ⟨t1, et1⟩ : ∃ z, s0 ++ ⟨#[32]⟩ = z := ⟨_, rfl⟩
  have z1 : t1.size = s0.size + 1 := by rw [← et1, ByteArray.size_append]; rfl
  obtain ⟨t2, et2⟩ : ∃ z, t1 ++ s1 = z := ⟨_, rfl⟩
  have z2 : t2.size = t1.size + s1.size := by rw [← et2, ByteArray.size_append]
  obtain ⟨t3, et3⟩ : ∃ z, t2 ++ ⟨#[32]⟩ = z := ⟨_, rfl⟩
  have z3 : t3.size = t2.size + 1 := by rw [← et3, ByteArray.size_append]; rfl
  obtain ⟨t4, et4⟩ : ∃ z, t3 ++ key = z := ⟨_, rfl⟩
  have z4 : t4.size = t3.size + key.size := by rw [← et4, ByteArray.size_append]
  have e1 : ∀ w : World, (Op.stringOp .add s0 ⟨#[32]⟩).run Tryz.prog w = .ok (.string t1) w := fun w => by rw [← et1]; exact run_string_add_sum w _ _ (by show s0.size + 1 ≤ _; omega)
  have e2 : ∀ w : World, (Op.stringOp .add t1 s1).run Tryz.prog w = .ok (.string t2) w := fun w => by rw [← et2]; exact run_string_add_sum w _ _ (by omega)
  have e3 : ∀ w : World, (Op.stringOp .add t2 ⟨#[32]⟩).run Tryz.prog w = .ok (.string t3) w := fun w => by rw [← et3]; exact run_string_add_sum w _ _ (by show t2.size + 1 ≤ _; omega)
  have e4 : ∀ w : World, (Op.stringOp .add t3 key).run Tryz.prog w = .ok (.string t4) w := fun w => by rw [← et4]; exact run_string_add_sum w _ _ (by omega)
  have hT : lotT round i key = t4 := by unfold lotT spS; rw [es0, es1, et1, et2, et3, et4]
  have hz4 : t4.size ≤ 1000000 := by omega
  have hs8 := run_slice8 t4
  have h8 : hexV (d8 t4).data.toList = lotN round i key := by unfold lotN d8; rw [hT, dig8]
  have h8z : (d8 t4).size = 8 := dig8_size _
  have h8h : ∀ c ∈ (d8 t4).data.toList, hexC c := dig8_hex _
  have hlt := lotN_lt round i key
  unfold lotF at hg
  obtain ⟨a, ha⟩ : ∃ a : Int, a = (lotN round i key : Nat) := ⟨_, rfl⟩
  rw [← ha] at hg
  have hP : ∀ W : World, Calls Tryz.prog 57 #[.string (d8 t4), .int .i64 16, .int .i64 64] W fun e w' => e = .returned (.tuple #[.int .i64 a, .nilIface]) ∧ Below W.heap.size W w' := fun W => by
    have := parseInt16 (d8 t4) h8z h8h W
    rw [h8, ← ha] at this
    exact this
  have a0 : 0 ≤ a := by omega
  have a1 : a < 4294967296 := by omega
  have hmod : a.tmod every = g := by rw [← hg]; exact Int.tmod_eq_emod_of_nonneg a0
  obtain ⟨d, hd⟩ : ∃ d, d8 t4 = d := ⟨_, rfl⟩
  rw [hd] at hs8 hP
  have hev : every ≠ 0 := by omega
  have hevb : (every == 0) = false := by simpa using hev
  clear hlt ha h8 h8z h8h hd hg z1 z2 z3 z4 et1 et2 et3 et4 hT es0 es1 zr zi
  have htH := Lib.hid ht
  clear ht
  have hI0H := Lib.hid hI0
  clear hI0
  have hI1H := Lib.hid hI1
  clear hI1
  have hPH := Lib.hid hP
  clear hP
  have hz4H := Lib.hid hz4
  clear hz4
  go_enter Tryz.func27, Tryz.ntmps27
  go_wp2_with fail
  refine (hI0H.out _ htH.out).mono ?_
  rintro e w1 ⟨rfl, hb1⟩
  have hb1H := Lib.hid hb1
  clear hb1
  go_wp2_with fail
  refine (hI1H.out _ (htH.out.below hb1H.out)).mono ?_
  rintro e w2 ⟨rfl, hb2⟩
  have hbw := hb1H.out.trans (hb2.mono hb1H.out.size)
  clear hb2
  have hbwH := Lib.hid hbw
  clear hbw
  go_wp2_with fail
  refine (rdigest_s t4 _ (by have := hz4H.out; omega)).mono ?_
  rintro e w5 ⟨rfl, hb5⟩
  have hbw5 : Below w.heap.size w w5 := hbwH.out.trans (hb5.mono hbwH.out.size)
  clear hb5
  have hbw5H := Lib.hid hbw5
  clear hbw5
  go_wp2_with fail
  refine (hPH.out _).mono ?_
  rintro e w6 ⟨rfl, hb6⟩
  have hbw6 := hbw5H.out.trans (hb6.mono hbw5H.out.size)
  clear hb6
  have hbw6H := Lib.hid hbw6
  clear hbw6
  go_wp2
  go_ret
  exact ⟨rfl, hbw6H.out⟩
end Go.Proofs.YtgegdfmdcmgliaaGreatDoor.C11
