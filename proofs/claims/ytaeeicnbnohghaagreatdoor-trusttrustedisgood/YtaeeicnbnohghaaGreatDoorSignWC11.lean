/-
  signature, Signature, of the program and of the reference; the reference's digest.
-/
import Derived.Test.YtaeeicnbnohghaaGreatDoorClaimWC11
import Derived.Test.YtaeeicnbnohghaaGreatDoorDigW
import Derived.Test.YtaeeicnbnohghaaGreatDoorSignDC11
import Derived.Test.YtaeeicnbnohghaaGreatDoorHeadsWC11
namespace Go.Proofs.YtaeeicnbnohghaaGreatDoor.C11
open Go.ChangeShapes Go.WideShapes Go.Deep Go.RowKit
set_option linter.unusedVariables false

theorem cells7 {w W : World} {v0 v1 v2 v3 v4 v5 v6 : Value} {T : TypeId} (hb : Below (w.alloc (.cells #[v0, v1, v2, v3, v4, v5, v6] T)).heap.size (w.alloc (.cells #[v0, v1, v2, v3, v4, v5, v6] T)) W) :
    W.cell? ⟨w.heap.size, 0, none⟩ = some v0 ∧ W.cell? ⟨w.heap.size, 1, none⟩ = some v1 ∧ W.cell? ⟨w.heap.size, 2, none⟩ = some v2 ∧ W.cell? ⟨w.heap.size, 3, none⟩ = some v3 ∧ W.cell? ⟨w.heap.size, 4, none⟩ = some v4 ∧ W.cell? ⟨w.heap.size, 5, none⟩ = some v5 ∧ W.cell? ⟨w.heap.size, 6, none⟩ = some v6 :=
  ⟨(hb.cell (by simp)).trans (by simp [go_sem]), (hb.cell (by simp)).trans (by simp [go_sem]), (hb.cell (by simp)).trans (by simp [go_sem]), (hb.cell (by simp)).trans (by simp [go_sem]), (hb.cell (by simp)).trans (by simp [go_sem]), (hb.cell (by simp)).trans (by simp [go_sem]), (hb.cell (by simp)).trans (by simp [go_sem])⟩

set_option maxRecDepth 100000 in
set_option maxHeartbeats 1000000 in
theorem rdigest_s (s : ByteArray) (w : World) (hs : s.size ≤ 4611686018427387904) :
    Calls Tryz.prog 88 #[.string s] w fun e w' => e = .returned (.string (digF s.data.toList)) ∧ Below w.heap.size w w' := by
  have hcv := fun (w : World) (s : ByteArray) => run_bytes_of_string (P := Tryz.prog) w 9 108 5 s Tryz.underlying9 Tryz.underlying108 Tryz.underlying5
  go_enter Tryz.func88, Tryz.ntmps88
  go_wp2_with fail
  refine (rdigest_bytes w.heap.size 0 s.size _ s.data.toList _ (by rw [Array.length_toList]; rfl) (by first | exact bytes_row w.drew s _ _ | exact bytes_row w s _ _) hs).mono ?_
  rintro e w5 ⟨rfl, rfl⟩
  go_wp2
  go_ret
  exact ⟨rfl, ((Below.refl _ _).alloc (Nat.le_refl _) _).drew⟩

set_option maxRecDepth 100000 in
set_option maxHeartbeats 4000000 in
theorem signature_any (s : ByteArray) (x : Claimed) (w : World) (ht : PowTab w) (hs : s.size ≤ 100) (hok : RClaimed.ok w x) (hc : ClaimedOk x) (g : ByteArray) (hg : signF s x = g) :
    Calls Tryz.prog 37 #[.string s, .agg #[.string x.key, .string x.label, .string x.result, .string x.writer, .int .i64 x.at_, .slice x.uses.A x.uses.n x.uses.cap, .string x.sign]] w fun e w' => e = .returned (.string g) ∧ Below w.heap.size w w' := by
  have hcv := fun (w : World) (s : ByteArray) => run_bytes_of_string (P := Tryz.prog) w 9 108 5 s Tryz.underlying9 Tryz.underlying108 Tryz.underlying5
  have hcb := claimB_size hc
  have hal := (Below.refl w.heap.size w).alloc (Nat.le_refl _) (.cells #[.string x.key, .string x.label, .string x.result, .string x.writer, .int .i64 x.at_, .slice x.uses.A x.uses.n x.uses.cap, .string x.sign] 25)
  obtain ⟨cb, hcbE⟩ : ∃ z, claimB x = z := ⟨_, rfl⟩
  have hcall : ∀ W : World, Below w.heap.size w W → Calls Tryz.prog 76 #[.agg #[.string x.key, .string x.label, .string x.result, .string x.writer, .int .i64 x.at_, .slice x.uses.A x.uses.n x.uses.cap, .string x.sign]] W fun e w' => e = .returned (.string cb) ∧ Below W.heap.size W w' := fun W hW => by
    rw [← hcbE]
    exact claim_any x W (ht.below hW) (RClaimed.mono _ _ _ hW hok) hc
  rw [hcbE] at hcb
  obtain ⟨t1, et1⟩ : ∃ z, s ++ ⟨#[10]⟩ = z := ⟨_, rfl⟩
  have z1 : t1.size = s.size + 1 := by rw [← et1, ByteArray.size_append]; rfl
  obtain ⟨t2, et2⟩ : ∃ z, t1 ++ cb = z := ⟨_, rfl⟩
  have z2 : t2.size = t1.size + cb.size := by rw [← et2, ByteArray.size_append]
  obtain ⟨t3, et3⟩ : ∃ z, t2 ++ ⟨#[10]⟩ = z := ⟨_, rfl⟩
  have z3 : t3.size = t2.size + 1 := by rw [← et3, ByteArray.size_append]; rfl
  obtain ⟨t4, et4⟩ : ∃ z, t3 ++ s = z := ⟨_, rfl⟩
  have z4 : t4.size = t3.size + s.size := by rw [← et4, ByteArray.size_append]
  have e1 : ∀ w : World, (Op.stringOp .add s ⟨#[10]⟩).run Tryz.prog w = .ok (.string t1) w := fun w => by rw [← et1]; exact run_string_add_sum w _ _ (by show s.size + 1 ≤ _; omega)
  have e2 : ∀ w : World, (Op.stringOp .add t1 cb).run Tryz.prog w = .ok (.string t2) w := fun w => by rw [← et2]; exact run_string_add_sum w _ _ (by omega)
  have e3 : ∀ w : World, (Op.stringOp .add t2 ⟨#[10]⟩).run Tryz.prog w = .ok (.string t3) w := fun w => by rw [← et3]; exact run_string_add_sum w _ _ (by show t2.size + 1 ≤ _; omega)
  have e4 : ∀ w : World, (Op.stringOp .add t3 s).run Tryz.prog w = .ok (.string t4) w := fun w => by rw [← et4]; exact run_string_add_sum w _ _ (by omega)
  have hres : digF t4.data.toList = g := by
    rw [← hg]
    unfold signF signT nlS
    rw [hcbE, et1, et2, et3, et4]
  have hz4 : t4.size ≤ 1000000 := by omega
  subst hres
  clear hg
  clear hok ht z1 z2 z3 z4 et1 et2 et3 et4 hcbE
  have halH := Lib.hid hal
  clear hal
  have hcallH := Lib.hid hcall
  clear hcall
  have hcbH := Lib.hid hcb
  clear hcb
  have hz4H := Lib.hid hz4
  clear hz4
  go_enter Tryz.func37, Tryz.ntmps37
  go_wp2_with fail
  refine (hcallH.out _ halH.out).mono ?_
  rintro e w3 ⟨rfl, hb3⟩
  have hbw3 : Below w.heap.size w w3 := halH.out.trans (hb3.mono (by simp))
  clear hb3
  have hbw3H := Lib.hid hbw3
  clear hbw3
  go_wp2_with fail
  (refine (digest_bytes w3.heap.size 0 t4.size _ t4.data.toList _ (by rw [Array.length_toList]; rfl) (by first | exact bytes_row w3.drew t4 _ _ | exact bytes_row w3 t4 _ _) (by simp) (by have := hz4H.out; omega)).mono ?_; rintro e w5 ⟨rfl, hb5⟩; have hbw5 : Below w.heap.size w w5 := (by have := hbw3H.out.size; exact (hbw3H.out.alloc hbw3H.out.size _).drew.trans (hb5.mono (by simp; omega))))
  go_wp2
  go_ret
  exact ⟨rfl, hbw5⟩
set_option maxRecDepth 100000 in
set_option maxHeartbeats 4000000 in
theorem rsignature_any (s : ByteArray) (x : Claimed) (w : World) (ht : PowTab w) (hs : s.size ≤ 100) (hok : RClaimed.ok w x) (hc : ClaimedOk x) (g : ByteArray) (hg : signF s x = g) :
    Calls Tryz.prog 48 #[.string s, .agg #[.string x.key, .string x.label, .string x.result, .string x.writer, .int .i64 x.at_, .slice x.uses.A x.uses.n x.uses.cap, .string x.sign]] w fun e w' => e = .returned (.string g) ∧ Below w.heap.size w w' := by
  have hcv := fun (w : World) (s : ByteArray) => run_bytes_of_string (P := Tryz.prog) w 9 108 5 s Tryz.underlying9 Tryz.underlying108 Tryz.underlying5
  have hcb := claimB_size hc
  have hal := (Below.refl w.heap.size w).alloc (Nat.le_refl _) (.cells #[.string x.key, .string x.label, .string x.result, .string x.writer, .int .i64 x.at_, .slice x.uses.A x.uses.n x.uses.cap, .string x.sign] 25)
  obtain ⟨cb, hcbE⟩ : ∃ z, claimB x = z := ⟨_, rfl⟩
  have hcall : ∀ W : World, Below w.heap.size w W → Calls Tryz.prog 89 #[.agg #[.string x.key, .string x.label, .string x.result, .string x.writer, .int .i64 x.at_, .slice x.uses.A x.uses.n x.uses.cap, .string x.sign]] W fun e w' => e = .returned (.string cb) ∧ Below W.heap.size W w' := fun W hW => by
    rw [← hcbE]
    exact rclaim_any x W (ht.below hW) (RClaimed.mono _ _ _ hW hok) hc
  rw [hcbE] at hcb
  obtain ⟨t1, et1⟩ : ∃ z, s ++ ⟨#[10]⟩ = z := ⟨_, rfl⟩
  have z1 : t1.size = s.size + 1 := by rw [← et1, ByteArray.size_append]; rfl
  obtain ⟨t2, et2⟩ : ∃ z, t1 ++ cb = z := ⟨_, rfl⟩
  have z2 : t2.size = t1.size + cb.size := by rw [← et2, ByteArray.size_append]
  obtain ⟨t3, et3⟩ : ∃ z, t2 ++ ⟨#[10]⟩ = z := ⟨_, rfl⟩
  have z3 : t3.size = t2.size + 1 := by rw [← et3, ByteArray.size_append]; rfl
  obtain ⟨t4, et4⟩ : ∃ z, t3 ++ s = z := ⟨_, rfl⟩
  have z4 : t4.size = t3.size + s.size := by rw [← et4, ByteArray.size_append]
  have e1 : ∀ w : World, (Op.stringOp .add s ⟨#[10]⟩).run Tryz.prog w = .ok (.string t1) w := fun w => by rw [← et1]; exact run_string_add_sum w _ _ (by show s.size + 1 ≤ _; omega)
  have e2 : ∀ w : World, (Op.stringOp .add t1 cb).run Tryz.prog w = .ok (.string t2) w := fun w => by rw [← et2]; exact run_string_add_sum w _ _ (by omega)
  have e3 : ∀ w : World, (Op.stringOp .add t2 ⟨#[10]⟩).run Tryz.prog w = .ok (.string t3) w := fun w => by rw [← et3]; exact run_string_add_sum w _ _ (by show t2.size + 1 ≤ _; omega)
  have e4 : ∀ w : World, (Op.stringOp .add t3 s).run Tryz.prog w = .ok (.string t4) w := fun w => by rw [← et4]; exact run_string_add_sum w _ _ (by omega)
  have hres : digF t4.data.toList = g := by
    rw [← hg]
    unfold signF signT nlS
    rw [hcbE, et1, et2, et3, et4]
  have hz4 : t4.size ≤ 1000000 := by omega
  subst hres
  clear hg
  clear hok ht z1 z2 z3 z4 et1 et2 et3 et4 hcbE
  have halH := Lib.hid hal
  clear hal
  have hcallH := Lib.hid hcall
  clear hcall
  have hcbH := Lib.hid hcb
  clear hcb
  have hz4H := Lib.hid hz4
  clear hz4
  go_enter Tryz.func48, Tryz.ntmps48
  go_wp2_with fail
  refine (hcallH.out _ halH.out).mono ?_
  rintro e w3 ⟨rfl, hb3⟩
  have hbw3 : Below w.heap.size w w3 := halH.out.trans (hb3.mono (by simp))
  clear hb3
  have hbw3H := Lib.hid hbw3
  clear hbw3
  go_wp2_with fail
  (refine (rdigest_s t4 _ (by have := hz4H.out; omega)).mono ?_; rintro e w5 ⟨rfl, hb5⟩; have hbw5 : Below w.heap.size w w5 := hbw3H.out.trans (hb5.mono hbw3H.out.size))
  go_wp2
  go_ret
  exact ⟨rfl, hbw5⟩
end Go.Proofs.YtaeeicnbnohghaaGreatDoor.C11
