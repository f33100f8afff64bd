/-
  Several texts of mine as one: XSameC, XItoaC, XTxtPC, XTxtQ, XRTxtQ, XLawTextsQ.
-/
import Derived.Test.YtgegdfmdcmgliaaGreatDoorLineCC11
import Derived.Test.YtgegdfmdcmgliaaGreatDoorNumCC11
import Derived.Test.YtgegdfmdcmgliaaGreatDoorSecretC11
import Derived.Lib.ItoaNum
import Derived.Lib.ItoaMem
import Derived.Test.YtgegdfmdcmgliaaGreatDoorTextP
import Derived.Test.YtgegdfmdcmgliaaGreatDoorHReadCC11
import Derived.Test.YtgegdfmdcmgliaaGreatDoorBuild
import Derived.Test.YtgegdfmdcmgliaaGreatDoorJoin
import Derived.Test.YtgegdfmdcmgliaaGreatDoorEachCC11
namespace Go.Proofs.YtgegdfmdcmgliaaGreatDoor.C11
open Go.RowKit
set_option linter.unusedVariables false

theorem equal_strs (A1 A2 : Option Addr) (n1 c1 n2 c2 : Nat) (L : List ByteArray) (w : World) (h1 : SlAt RStr w A1 n1 L) (h2 : SlAt RStr w A2 n2 L) (hn : n1 ≤ 9223372036854775807) :
    Calls Tryz.prog 72 #[.slice A1 n1 c1, .slice A2 n2 c2] w fun e w' => e = .returned (.bool true) ∧ Below w.heap.size w w' := by
  obtain rfl : n1 = n2 := h1.1.symm.trans h2.1
  by_cases h0 : n1 = 0
  · subst h0
    refine (Tryz.slices_Equal_string_empty A1 A2 c1 0 c2 w (by omega)).mono ?_
    rintro e w' ⟨rfl, rfl⟩
    exact ⟨by simp, Below.refl _ _⟩
  · obtain ⟨b1, o1, rfl, _⟩ := h1.2.1 (by omega)
    obtain ⟨b2, o2, rfl, _⟩ := h2.2.1 (by omega)
    have hcell : ∀ {b o : Nat}, SlAt RStr w (some ⟨b, o, none⟩) n1 L → ∀ j, j < L.length → w.cell? ⟨b, o + j, none⟩ = some (.string (L.getD j ByteArray.empty)) := fun {b o} h j hj => by
      rw [List.getD_eq_getElem?_getD, List.getElem?_eq_getElem hj, Option.getD_some]
      exact cell_Str h (List.getElem?_eq_getElem hj)
    refine (Tryz.slices_Equal_string b1 o1 n1 c1 b2 o2 n1 c2 L L w (by rw [h1.1]; exact Nat.le_refl _) (by rw [h1.1]; exact Nat.le_refl _) hn hn (hcell h1) (hcell h2)).mono ?_
    rintro e w' ⟨rfl, q, rfl⟩
    exact ⟨by simp, bel_drewN (Below.refl _ _) q⟩
theorem allocBelS (w : World) (o : Obj) : Below w.heap.size w (w.alloc o) := (Below.refl _ _).alloc (Nat.le_refl _) o
theorem cont_eq {x y : Claimed} (h : cont x = cont y) : y = ⟨x.key, x.label, x.result, x.writer, x.at_, ⟨y.uses.A, y.uses.n, y.uses.cap, x.uses.l⟩, x.sign⟩ := by
  obtain ⟨k1, l1, r1, w1, a1, ⟨A1, n1, c1, u1⟩, s1⟩ := x
  obtain ⟨k2, l2, r2, w2, a2, ⟨A2, n2, c2, u2⟩, s2⟩ := y
  simp only [cont, Claimed.mk.injEq, SlD.mk.injEq, true_and] at h
  obtain ⟨rfl, rfl, rfl, rfl, rfl, rfl, rfl⟩ := h
  rfl
set_option maxRecDepth 100000 in
set_option maxHeartbeats 4000000 in
theorem same_one (key label result writer : ByteArray) (at_ : Int) (A1 A2 : Option Addr) (n1 c1 n2 c2 : Nat) (us : List ByteArray) (sign : ByteArray) (w : World) (h1 : SlAt RStr w A1 n1 us) (h2 : SlAt RStr w A2 n2 us) (hn : n1 ≤ 9223372036854775807) :
    Calls Tryz.prog 39 #[.agg #[.string key, .string label, .string result, .string writer, .int .i64 at_, .slice A1 n1 c1, .string sign], .agg #[.string key, .string label, .string result, .string writer, .int .i64 at_, .slice A2 n2 c2, .string sign]] w fun e w' => e = .returned (.bool true) ∧ Below w.heap.size w w' := by
  have q0 : (key.toList == key.toList) = true := by simp
  have q1 : (label.toList == label.toList) = true := by simp
  have q2 : (result.toList == result.toList) = true := by simp
  have q3 : (writer.toList == writer.toList) = true := by simp
  have q6 : (sign.toList == sign.toList) = true := by simp
  have hb := (allocBelS w (.cells #[.string key, .string label, .string result, .string writer, .int .i64 at_, .slice A1 n1 c1, .string sign] 51)).alloc (by simp) (.cells #[.string key, .string label, .string result, .string writer, .int .i64 at_, .slice A2 n2 c2, .string sign] 51)
  have h1b := h1.below hb
  have h2b := h2.below hb
  have hbH := Lib.hid hb
  clear hb
  have h1bH := Lib.hid h1b
  clear h1b
  have h2bH := Lib.hid h2b
  clear h2b
  have h1H := Lib.hid h1
  clear h1
  have h2H := Lib.hid h2
  clear h2
  go_enter Tryz.func39, Tryz.ntmps39
  go_wp2_with fail
  refine (equal_strs A1 A2 n1 c1 n2 c2 us _ h1bH.out h2bH.out hn).mono ?_
  rintro e w1 ⟨rfl, hw1⟩
  have hb1 := hbH.out.trans (hw1.mono (by have := hbH.out.size; exact this))
  clear hw1
  have hb1H := Lib.hid hb1
  clear hb1
  go_wp2
  go_ret
  exact ⟨rfl, hb1H.out⟩
def SmRel (n : Nat) (w0 : World) (i : Value) (wr : World) : Prop := ∃ k : Nat, k ≤ n ∧ i = .int .i64 k ∧ Below w0.heap.size w0 wr
theorem map_get {L1 L2 : List Claimed} (h : L1.map cont = L2.map cont) {k : Nat} {x : Claimed} (hx : L1[k]? = some x) : ∃ y, L2[k]? = some y ∧ cont x = cont y := by
  have e := congrArg (·[k]?) h
  simp only [List.getElem?_map, hx, Option.map_some] at e
  cases hy : L2[k]? with
  | none => rw [hy] at e; cases e
  | some y => rw [hy] at e; exact ⟨y, rfl, by simpa using e⟩
theorem keepS2 {W w' : World} {a0 a1 a2 a3 a4 a5 a6 b0 b1 b2 b3 b4 b5 b6 : Addr} {v0 v1 v2 v3 v4 v5 v6 u0 u1 u2 u3 u4 u5 u6 : Value} (hb : Below W.heap.size W w') (h : (W.cell? a0 = some v0 ∧ W.cell? a1 = some v1 ∧ W.cell? a2 = some v2 ∧ W.cell? a3 = some v3 ∧ W.cell? a4 = some v4 ∧ W.cell? a5 = some v5 ∧ W.cell? a6 = some v6) ∧ W.cell? b0 = some u0 ∧ W.cell? b1 = some u1 ∧ W.cell? b2 = some u2 ∧ W.cell? b3 = some u3 ∧ W.cell? b4 = some u4 ∧ W.cell? b5 = some u5 ∧ W.cell? b6 = some u6) :
    (w'.cell? a0 = some v0 ∧ w'.cell? a1 = some v1 ∧ w'.cell? a2 = some v2 ∧ w'.cell? a3 = some v3 ∧ w'.cell? a4 = some v4 ∧ w'.cell? a5 = some v5 ∧ w'.cell? a6 = some v6) ∧ w'.cell? b0 = some u0 ∧ w'.cell? b1 = some u1 ∧ w'.cell? b2 = some u2 ∧ w'.cell? b3 = some u3 ∧ w'.cell? b4 = some u4 ∧ w'.cell? b5 = some u5 ∧ w'.cell? b6 = some u6 := by
  obtain ⟨⟨h0, h1, h2, h3, h4, h5, h6⟩, g0, g1, g2, g3, g4, g5, g6⟩ := h
  exact ⟨⟨(hb.cell (cell?_lt h0)).trans h0, (hb.cell (cell?_lt h1)).trans h1, (hb.cell (cell?_lt h2)).trans h2, (hb.cell (cell?_lt h3)).trans h3, (hb.cell (cell?_lt h4)).trans h4, (hb.cell (cell?_lt h5)).trans h5, (hb.cell (cell?_lt h6)).trans h6⟩, (hb.cell (cell?_lt g0)).trans g0, (hb.cell (cell?_lt g1)).trans g1, (hb.cell (cell?_lt g2)).trans g2, (hb.cell (cell?_lt g3)).trans g3, (hb.cell (cell?_lt g4)).trans g4, (hb.cell (cell?_lt g5)).trans g5, (hb.cell (cell?_lt g6)).trans g6⟩
set_option maxRecDepth 100000 in
set_option maxHeartbeats 4000000 in
theorem same_any (A1 A2 : Option Addr) (n1 c1 n2 c2 : Nat) (L1 L2 : List Claimed) (w : World) (h1 : SlAt RClaimed w A1 n1 L1) (h2 : SlAt RClaimed w A2 n2 L2) (hm : L1.map cont = L2.map cont) (hn : n1 ≤ 9223372036854775807) :
    Calls Tryz.prog 17 #[.slice A1 n1 c1, .slice A2 n2 c2] w fun e w' => e = .returned (.bool true) ∧ Below w.heap.size w w' := by
  have hl := congrArg List.length hm
  rw [List.length_map, List.length_map, h1.1, h2.1] at hl
  subst hl
  have h1H := Lib.hid h1
  clear h1
  have h2H := Lib.hid h2
  clear h2
  have hmH := Lib.hid hm
  clear hm
  go_enter Tryz.func17, Tryz.ntmps17
  go_wp2_with fail
  go_loopw [13] (fun i wr => SmRel n1 w i wr) (fun i _ => n1 - (intOf i).toNat)
  case atStart => exact ⟨0, Nat.zero_le _, rfl, Below.refl _ _⟩
  case round =>
    obtain ⟨k, hk, rfl, hb⟩ := hrel
    by_cases hlt : k < n1
    · obtain ⟨b1, o1, hA1, _⟩ := h1H.out.2.1 (by omega)
      obtain ⟨b2, o2, hA2, _⟩ := h2H.out.2.1 (by omega)
      subst hA1
      subst hA2
      obtain ⟨x, hx⟩ : ∃ x, L1[k]? = some x := ⟨L1[k]'(by have := h1H.out.1; omega), List.getElem?_eq_getElem _⟩
      obtain ⟨y, hy, hxy⟩ := map_get hmH.out hx
      have hx1 := h1H.out.below hb
      have hy1 := h2H.out.below hb
      have ox := (hx1.2.2 x (List.mem_of_getElem? hx)).2.2.2.2.2.1
      have oy := (hy1.2.2 y (List.mem_of_getElem? hy)).2.2.2.2.2.1
      obtain ⟨d0, d1, d2, d3, d4, d5, d6⟩ := cells_Claimed hx1 hx
      obtain ⟨e0, e1, e2, e3, e4, e5, e6⟩ := cells_Claimed hy1 hy
      rw [cont_eq hxy] at e0 e1 e2 e3 e4 e5 e6 oy
      obtain ⟨key, label, result, writer, at_, ⟨uA, uN, uC, us⟩, sign⟩ := x
      obtain ⟨yu, hyu⟩ : ∃ u, y.uses = u := ⟨_, rfl⟩
      rw [hyu] at e5 oy
      clear hyu
      obtain ⟨yA, yN, yC, ys⟩ := yu
      simp only at d0 d1 d2 d3 d4 d5 d6 e0 e1 e2 e3 e4 e5 e6 ox oy
      have hun : uN ≤ 9223372036854775807 := Nat.le_trans ox.2.1 ox.2.2.1
      have k0 : (0 : Int) ≤ (k : Int) := by omega
      have k1 : (k : Int) < (n1 : Int) := by omega
      have R : ∀ w', Below wr.heap.size wr w' → SmRel n1 w (.int .i64 (k + 1)) w' := fun w' h => ⟨k + 1, by omega, by go_num, hb.trans (h.mono hb.size)⟩
      have ox1 := ox.1
      have oy1 := oy.1
      clear ox oy
      have hxH := Lib.hid hx
      clear hx
      have hyH := Lib.hid hy
      clear hy
      have hxyH := Lib.hid hxy
      clear hxy
      have hx1H := Lib.hid hx1
      clear hx1
      have hy1H := Lib.hid hy1
      clear hy1
      have hbH := Lib.hid hb
      clear hb
      have RH := Lib.hid R
      clear R
      have ox1H := Lib.hid ox1
      clear ox1
      have oy1H := Lib.hid oy1
      clear oy1
      have hunH := Lib.hid hun
      clear hun
      go_wp2_with fail
      refine wp_region_held_drew (S := (fun w' => (w'.cell? ⟨b1, o1 + k * 7, none⟩ = some (.string key) ∧ w'.cell? ⟨b1, o1 + k * 7 + 1, none⟩ = some (.string label) ∧ w'.cell? ⟨b1, o1 + k * 7 + 2, none⟩ = some (.string result) ∧ w'.cell? ⟨b1, o1 + k * 7 + 3, none⟩ = some (.string writer) ∧ w'.cell? ⟨b1, o1 + k * 7 + 4, none⟩ = some (.int .i64 at_) ∧ w'.cell? ⟨b1, o1 + k * 7 + 5, none⟩ = some (.slice uA uN uC) ∧ w'.cell? ⟨b1, o1 + k * 7 + 6, none⟩ = some (.string sign)) ∧ w'.cell? ⟨b2, o2 + k * 7, none⟩ = some (.string key) ∧ w'.cell? ⟨b2, o2 + k * 7 + 1, none⟩ = some (.string label) ∧ w'.cell? ⟨b2, o2 + k * 7 + 2, none⟩ = some (.string result) ∧ w'.cell? ⟨b2, o2 + k * 7 + 3, none⟩ = some (.string writer) ∧ w'.cell? ⟨b2, o2 + k * 7 + 4, none⟩ = some (.int .i64 at_) ∧ w'.cell? ⟨b2, o2 + k * 7 + 5, none⟩ = some (.slice yA yN yC) ∧ w'.cell? ⟨b2, o2 + k * 7 + 6, none⟩ = some (.string sign))) (by kernel_rfl) ⟨⟨d0, d1, d2, d3, d4, d5, d6⟩, e0, e1, e2, e3, e4, e5, e6⟩ (fun hHeld => ?_)
      clear d0 d1 d2 d3 d4 d5 d6 e0 e1 e2 e3 e4 e5 e6
      refine takeH (i := 0) (d := some 16) (v := ?_) rfl rfl (by kernel_rfl) (by kernel_rfl) (by kernel_rfl) (fun _ _ _ h => h) (Or.inl ⟨by rfl, ?_⟩) (by assumption) ?_
      rotate_left
      · (intro w hSw; (try dsimp only at hSw); go_simp; (try with_reducible rfl))
      (try simp only [Act.put, List.setIfInBounds_toArray, List.set_cons_zero, List.set_cons_succ])
      refine takeH (i := 1) (d := some 17) (v := ?_) rfl rfl (by kernel_rfl) (by kernel_rfl) (by kernel_rfl) (fun _ _ _ h => h) (Or.inl ⟨by rfl, ?_⟩) (by assumption) ?_
      rotate_left
      · (intro w hSw; (try dsimp only at hSw); go_simp; (try with_reducible rfl))
      (try simp only [Act.put, List.setIfInBounds_toArray, List.set_cons_zero, List.set_cons_succ])
      refine takeH (i := 2) (d := some 18) (v := ?_) rfl rfl (by kernel_rfl) (by kernel_rfl) (by kernel_rfl) (fun _ _ _ h => h) (Or.inl ⟨by rfl, ?_⟩) (by assumption) ?_
      rotate_left
      · (intro w hSw; (try dsimp only at hSw); go_simp; (try with_reducible rfl))
      (try simp only [Act.put, List.setIfInBounds_toArray, List.set_cons_zero, List.set_cons_succ])
      refine takeH (i := 3) (d := some 19) (v := ?_) rfl rfl (by kernel_rfl) (by kernel_rfl) (by kernel_rfl) (fun _ _ _ h => h) (Or.inl ⟨by rfl, ?_⟩) (by assumption) ?_
      rotate_left
      · (intro w hSw; (try dsimp only at hSw); go_simp; (try with_reducible rfl))
      (try simp only [Act.put, List.setIfInBounds_toArray, List.set_cons_zero, List.set_cons_succ])
      refine takeH (i := 4) (d := some 20) (v := ?_) rfl rfl (by kernel_rfl) (by kernel_rfl) (by kernel_rfl) (fun _ _ _ h => h) (Or.inl ⟨by rfl, ?_⟩) (by assumption) ?_
      rotate_left
      · (intro w hSw; (try dsimp only at hSw); go_simp; (try with_reducible rfl))
      (try simp only [Act.put, List.setIfInBounds_toArray, List.set_cons_zero, List.set_cons_succ])
      refine takeH (i := 5) (d := some 21) (v := ?_) rfl rfl (by kernel_rfl) (by kernel_rfl) (by kernel_rfl) (fun _ _ _ h => h) (Or.inl ⟨by rfl, ?_⟩) (by assumption) ?_
      rotate_left
      · (intro w hSw; (try dsimp only at hSw); go_simp; (try with_reducible rfl))
      (try simp only [Act.put, List.setIfInBounds_toArray, List.set_cons_zero, List.set_cons_succ])
      refine takeH (i := 6) (d := some 22) (v := ?_) rfl rfl (by kernel_rfl) (by kernel_rfl) (by kernel_rfl) (fun _ _ _ h => h) (Or.inl ⟨by rfl, ?_⟩) (by assumption) ?_
      rotate_left
      · (intro w hSw; (try dsimp only at hSw); go_simp; (try with_reducible rfl))
      (try simp only [Act.put, List.setIfInBounds_toArray, List.set_cons_zero, List.set_cons_succ])
      refine takeH (i := 7) (d := some 23) (v := ?_) rfl rfl (by kernel_rfl) (by kernel_rfl) (by kernel_rfl) (fun _ _ _ h => h) (Or.inl ⟨by rfl, ?_⟩) (by assumption) ?_
      rotate_left
      · (intro w hSw; (try dsimp only at hSw); go_simp; (try with_reducible rfl))
      (try simp only [Act.put, List.setIfInBounds_toArray, List.set_cons_zero, List.set_cons_succ])
      refine wpAnyH_ready (rs := [8]) (by kernel_rfl) (by simp) ?_
      refine AllReadyH.cons (i := 8) rfl (fun K hK => ?_) AllReadyH.nil
      go_simp
      go_at_call 39
      refine (same_one key label result writer at_ uA yA uN uC yN yC us sign _ (ox1H.out.below (by first | exact Below.refl _ _ | exact (Below.refl _ _).drew)) (oy1H.out.below (by first | exact Below.refl _ _ | exact (Below.refl _ _).drew)) hunH.out).mono ?_
      rintro e w5 ⟨rfl, hb5⟩
      have hb5a : Below wr.heap.size wr w5 := by first | exact hb5 | exact (Below.refl _ _).drew.trans hb5
      replace hHeld := keepS2 hb5 hHeld
      have R5 := RH.out _ hb5a
      clear hb5 hb5a
      have R5H := Lib.hid R5
      clear R5
      refine hK.out _ _ hHeld (fun hHeld => ?_)
      clear hK K
      (try simp only [Act.put, List.setIfInBounds_toArray, List.set_cons_zero, List.set_cons_succ])
      refine takeH (i := 9) (d := some 25) (v := ?_) rfl rfl (by kernel_rfl) (by kernel_rfl) (by kernel_rfl) (fun _ _ _ h => h) (Or.inl ⟨by rfl, ?_⟩) (by assumption) ?_
      rotate_left
      · (intro w hSw; (try dsimp only at hSw); go_simp; (try with_reducible rfl))
      (try simp only [Act.put, List.setIfInBounds_toArray, List.set_cons_zero, List.set_cons_succ])
      refine wpAnyH_done (by kernel_rfl) ?_ _
      go_wp2
      refine ⟨?rel, ?measure⟩
      case measure => (simp [intOf]; omega)
      case rel => first | exact R5H.out | exact ⟨rfl, R5H.out⟩ | ((try refine ⟨rfl, ?_⟩); (repeat apply Exists.intro); refine ⟨R5H.out, ?_⟩; ((repeat' apply And.intro) <;> rfl))
    · have hbH := Lib.hid hb
      clear hb
      go_wp2
      go_ret
      exact ⟨rfl, hbH.out⟩
end Go.Proofs.YtgegdfmdcmgliaaGreatDoor.C11

namespace Go.Proofs.YtgegdfmdcmgliaaGreatDoor.C11
open Go.RowKit
set_option linter.unusedVariables false

theorem dig_mem (d : Nat) (h : d < 10) : dset.contains (UInt8.ofNat (48 + d)) = true := by
  rw [dset_dig, decide_eq_true_iff]
  have : (UInt8.ofNat (48 + d)).toNat = 48 + d := by rw [UInt8.toNat_ofNat']; omega
  omega
theorem decDigits_all (u : Nat) : (Lib.decDigits u).all (dset.contains ·) = true := by
  induction u using Nat.strongRecOn with
  | _ u ih =>
    by_cases h : u < 10
    · rw [Lib.decDigits, dif_pos h, List.all_cons, dig_mem u h]; rfl
    · rw [Lib.decDigits, dif_neg h, List.all_append, ih (u / 10) (by omega), List.all_cons, dig_mem (u % 10) (by omega)]; rfl
theorem decDigits_ne (u : Nat) : Lib.decDigits u ≠ [] := by
  rw [Lib.decDigits]
  split <;> simp
theorem decDigits_head (u : Nat) (h : 1 ≤ u) : (Lib.decDigits u).head? ≠ some 48 := by
  induction u using Nat.strongRecOn with
  | _ u ih =>
    by_cases h10 : u < 10
    · rw [Lib.decDigits, dif_pos h10]
      intro e
      simp only [List.head?_cons, Option.some.injEq] at e
      have := congrArg UInt8.toNat e
      rw [UInt8.toNat_ofNat'] at this
      have h9 : (48 : UInt8).toNat = 48 := rfl
      omega
    · rw [Lib.decDigits, dif_neg h10, List.head?_append]
      have hne := ih (u / 10) (by omega) (by omega)
      cases hd : (Lib.decDigits (u / 10)).head? with
      | none => exact absurd (List.head?_eq_none_iff.1 hd) (decDigits_ne _)
      | some b => rw [hd] at hne; simpa using hne
theorem decFrom_app : ∀ (l : List UInt8) (acc m : Nat) (d : Nat), Lib.decFrom acc l = some m → d < 10 → Lib.decFrom acc (l ++ [UInt8.ofNat (48 + d)]) = some (m * 10 + d)
  | [], acc, m, d, h, hd => by
    simp only [Lib.decFrom, Option.some.injEq] at h
    subst h
    have : (UInt8.ofNat (48 + d)).toNat = 48 + d := by rw [UInt8.toNat_ofNat']; omega
    rw [List.nil_append, Lib.decFrom]
    unfold Lib.digitVal
    rw [this, if_pos (by omega), show 48 + d - 48 = d by omega]
    rfl
  | b :: r, acc, m, d, h, hd => by
    rw [List.cons_append]
    unfold Lib.decFrom at h ⊢
    cases hv : Lib.digitVal b with
    | none => rw [hv] at h; cases h
    | some v =>
      rw [hv] at h
      exact decFrom_app r _ m d h hd
theorem decFrom_dec (u : Nat) : Lib.decFrom 0 (Lib.decDigits u) = some u := by
  induction u using Nat.strongRecOn with
  | _ u ih =>
    by_cases h : u < 10
    · rw [Lib.decDigits, dif_pos h]
      have := decFrom_app [] 0 0 u rfl h
      simpa using this
    · rw [Lib.decDigits, dif_neg h, decFrom_app _ 0 (u / 10) (u % 10) (ih (u / 10) (by omega)) (by omega)]
      congr 1; omega
theorem atoi_dec (u : Nat) : Lib.atoi (Lib.decDigits u) = some (u : Int) := by
  have hall := decDigits_all u
  have hdf := decFrom_dec u
  cases hd : Lib.decDigits u with
  | nil => exact absurd hd (decDigits_ne u)
  | cons b r =>
    rw [hd] at hall hdf
    simp only [List.all_cons, Bool.and_eq_true] at hall
    have hb := hall.1
    rw [dset_dig, decide_eq_true_iff] at hb
    have h1 : (b == 45) = false := by rw [beq_eq_false_iff_ne]; rintro rfl; revert hb; decide
    have h2 : (b == 43) = false := by rw [beq_eq_false_iff_ne]; rintro rfl; revert hb; decide
    show (if (b == 45) = true then _ else if (b == 43) = true then _ else _) = _
    rw [h1, h2]
    simp only [Bool.false_eq_true, if_false]
    unfold Lib.decNat
    simp [hdf]
theorem nDigits_le : ∀ (k u : Nat), 1 ≤ k → u < 10 ^ k → Lib.nDigits u ≤ k
  | 0, u, h, _ => by omega
  | k + 1, u, _, h => by
    by_cases h10 : u < 10
    · rw [Lib.nDigits_small h10]; omega
    · rw [Lib.nDigits_big h10]
      cases k with
      | zero => simp at h; omega
      | succ k =>
        have := nDigits_le (k + 1) (u / 10) (by omega) (by rw [Nat.pow_succ] at h; omega)
        omega
/-- the numeral of a number -/
def itoaB (n : Int) : ByteArray := ⟨(Lib.itoa n).toArray⟩
theorem itoaB_data (n : Int) : (itoaB n).data.toList = Lib.itoa n := rfl
theorem itoaB_size {n : Int} (h0 : 0 ≤ n) (h1 : n < 10000000000) : 1 ≤ (itoaB n).size ∧ (itoaB n).size ≤ 10 := by
  obtain ⟨u, rfl⟩ : ∃ u : Nat, n = u := ⟨n.toNat, by omega⟩
  have e : (itoaB (u : Int)).size = (Lib.decDigits u).length := by
    show (Lib.itoa (u : Int)).toArray.size = _
    rw [Lib.itoa_nonneg]; simp
  have h2 := nDigits_le 10 u (by omega) (by omega)
  have h3 := Lib.nDigits_pos u
  rw [Lib.decDigits_length] at e
  omega
theorem numR_itoa {n : Int} (h0 : 0 ≤ n) (h1 : n < 10000000000) : numR (itoaB n) = (n, true) := by
  obtain ⟨s0, s1⟩ := itoaB_size h0 h1
  obtain ⟨u, rfl⟩ : ∃ u : Nat, n = u := ⟨n.toNat, by omega⟩
  have hd : (itoaB (u : Int)).data.toList = Lib.decDigits u := by rw [itoaB_data, Lib.itoa_nonneg]
  have hlead : leadB (itoaB (u : Int)) = false := by
    unfold leadB
    rw [decide_eq_false_iff_not, hd]
    rintro ⟨h, h48⟩
    rcases Nat.eq_zero_or_pos u with rfl | hu
    · have e : (itoaB ((0 : Nat) : Int)).size = (Lib.decDigits 0).length := by
        show (Lib.itoa ((0 : Nat) : Int)).toArray.size = _
        rw [Lib.itoa_nonneg]; simp
      rw [Lib.decDigits_length, Lib.nDigits_small (by omega)] at e
      omega
    · exact decDigits_head u hu h48
  have hn : numB (itoaB (u : Int)) = true := by
    unfold numB
    rw [hlead, hd, decDigits_all, decide_eq_true s0, decide_eq_true s1]; rfl
  unfold numR
  rw [if_pos hn]
  unfold numV
  rw [hd, atoi_dec]
  rfl
theorem itoa_dig {n : Int} (h0 : 0 ≤ n) : ∀ b ∈ (itoaB n).data.toList, 48 ≤ b.toNat ∧ b.toNat ≤ 57 := by
  obtain ⟨u, rfl⟩ : ∃ u : Nat, n = u := ⟨n.toNat, by omega⟩
  intro b hb
  rw [itoaB_data, Lib.itoa_nonneg] at hb
  have := List.all_eq_true.1 (decDigits_all u) b hb
  rwa [dset_dig, decide_eq_true_iff] at this
theorem row_all {s : ByteArray} (h : rowB s = true) : ∀ b ∈ s.data.toList, 33 ≤ b.toNat ∧ b.toNat ≤ 126 := by
  unfold rowB plainB at h
  rw [Bool.and_eq_true, List.all_eq_true] at h
  intro b hb
  have := h.1 b hb
  unfold plch at this
  exact of_decide_eq_true this
theorem row_no {s : ByteArray} (h : rowB s = true) : (32 : UInt8) ∉ s.data.toList ∧ (10 : UInt8) ∉ s.data.toList :=
  ⟨fun hm => absurd (row_all h _ hm).1 (by decide), fun hm => absurd (row_all h _ hm).1 (by decide)⟩
theorem rowB_of {s : ByteArray} (h0 : 1 ≤ s.size) (h : ∀ b ∈ s.data.toList, 33 ≤ b.toNat ∧ b.toNat ≤ 126) : rowB s = true := by
  unfold rowB plainB
  rw [Bool.and_eq_true, List.all_eq_true]
  refine ⟨fun b hb => decide_eq_true (h b hb), ?_⟩
  have h3 : s.size = s.data.toList.length := by simp
  rw [Lib.toList_data]
  cases hd : s.data.toList with
  | nil => rw [hd, List.length_nil] at h3; omega
  | cons a r => rfl
theorem itoa_row {n : Int} (h0 : 0 ≤ n) (h1 : n < 10000000000) : rowB (itoaB n) = true :=
  rowB_of (itoaB_size h0 h1).1 fun b hb => by have := itoa_dig h0 b hb; omega
end Go.Proofs.YtgegdfmdcmgliaaGreatDoor.C11

namespace Go.Proofs.YtgegdfmdcmgliaaGreatDoor.C11
open Go.RowKit
set_option linter.unusedVariables false

theorem word_row {s : ByteArray} (h : wordB s = true) : rowB s = true ∧ s.size ≤ 40 := by
  unfold wordB at h
  have h3 : s.size = s.data.toList.length := by simp
  cases hd : s.data.toList with
  | nil => rw [hd] at h; cases h
  | cons c r =>
    rw [hd] at h h3
    rw [wordL, Bool.and_eq_true, Bool.and_eq_true] at h
    obtain ⟨⟨_, h1⟩, h2⟩ := h
    have h1 := of_decide_eq_true h1
    rw [List.length_cons] at h3
    refine ⟨rowB_of (by omega) fun b hb => ?_, by omega⟩
    rw [hd] at hb
    have := List.all_eq_true.1 h2 b hb
    unfold wch at this
    rw [decide_eq_true_iff] at this
    omega
theorem path_all {s : ByteArray} (h : pathB s = true) : (1 ≤ s.size ∧ s.size ≤ 200) ∧ ∀ b ∈ s.data.toList, 33 ≤ b.toNat ∧ b.toNat ≤ 126 := by
  unfold pathB at h
  rw [Bool.and_eq_true] at h
  obtain ⟨h1, h2⟩ := h
  refine ⟨by have := inR_true h1; omega, fun b hb => ?_⟩
  have hd : (parts s).map (·.data.toList) = Lib.splitK [47] 0 (Lib.countB s ⟨#[47]⟩) s.data.toList := Lib.splitB_data ⟨#[47]⟩ 0 _ s
  rcases mem_splitK (c := 47) (Lib.countB s ⟨#[47]⟩) s.data.toList b hb with rfl | ⟨p, hp, hbp⟩
  · decide
  · rw [← hd] at hp
    obtain ⟨q, hq, rfl⟩ := List.mem_map.1 hp
    have := List.all_eq_true.1 h2 q hq
    unfold partB partL at this
    simp only [Bool.and_eq_true] at this
    have := List.all_eq_true.1 this.1.1.1 b hbp
    unfold pch at this
    rw [decide_eq_true_iff] at this
    omega
theorem hexb (b : UInt8) : hexcut.contains b = decide ((48 ≤ b.toNat ∧ b.toNat ≤ 57) ∨ (97 ≤ b.toNat ∧ b.toNat ≤ 102)) := by
  have := byte_all (p := fun b => hexcut.contains b == decide ((48 ≤ b.toNat ∧ b.toNat ≤ 57) ∨ (97 ≤ b.toNat ∧ b.toNat ≤ 102))) (by decide +kernel) b
  simpa using this
theorem dig_row {s : ByteArray} (h : digB s = true) : rowB s = true ∧ s.size = 16 := by
  have hz := digB_size h
  unfold digB at h
  rw [Bool.and_eq_true] at h
  refine ⟨rowB_of (by omega) fun b hb => ?_, hz⟩
  have := List.all_eq_true.1 h.2 b hb
  rw [hexb, decide_eq_true_iff] at this
  omega
theorem label_row {s : ByteArray} (h : labelL s.data.toList = true) : rowB s = true ∧ s.size ≤ 403 := by
  have h3 : s.size = s.data.toList.length := by simp
  obtain ⟨t, ht⟩ : ∃ t, s.data.toList = t := ⟨_, rfl⟩
  rw [ht] at h h3
  unfold labelL at h
  rw [Bool.and_eq_true, Bool.and_eq_true] at h
  obtain ⟨hp, hc, hk⟩ := h
  have hpre := pref2 hp
  rcases cut_cases (t.drop 2) with ⟨_, e⟩ | ⟨a, b, e1, e2, e3⟩
  · rw [e] at hc; cases hc
  · rw [e3] at hk
    simp only at hk
    unfold checkB okPkgB at hk
    rw [Bool.and_eq_true, Bool.or_eq_true] at hk
    have hb := path_all hk.2
    rw [bs_size, bs_data] at hb
    have ha : a.length ≤ 200 ∧ ∀ x ∈ a, 33 ≤ x.toNat ∧ x.toNat ≤ 126 := by
      rcases hk.1 with h1 | h1
      · have := bs_inj (of_decide_eq_true h1)
        subst this
        exact ⟨by simp, fun x hx => by cases hx⟩
      · have := path_all h1
        rw [bs_size, bs_data] at this
        exact ⟨this.1.2, this.2⟩
    rw [e1] at hpre
    have hl := congrArg List.length hpre
    simp only [List.length_cons, List.length_append] at hl
    refine ⟨rowB_of (by omega) fun x hx => ?_, by omega⟩
    rw [ht, hpre] at hx
    simp only [List.mem_cons, List.mem_append] at hx
    rcases hx with rfl | rfl | hx | rfl | hx
    · decide
    · decide
    · exact ha.2 x hx
    · decide
    · exact hb.2 x hx
def signW (s : ByteArray) : ByteArray := if (s.toList == []) = true then DASH else s
theorem signW_row {s : ByteArray} (h : signB s = true) : rowB (signW s) = true ∧ (signW s).size ≤ 16 ∧ signV (signW s) = s := by
  unfold signW
  by_cases h0 : (s.toList == []) = true
  · rw [if_pos h0]
    refine ⟨rowB_of (by decide) (fun b hb => by obtain rfl : b = 45 := by simpa [DASH] using hb
                                                decide), by decide, ?_⟩
    have e : s.toList = [] := by simpa using h0
    rw [Lib.toList_data] at e
    unfold signV
    rw [if_pos rfl]
    obtain ⟨⟨l⟩⟩ := s
    have h2 : l = [] := e
    subst h2
    rfl
  · rw [if_neg h0]
    unfold signB at h
    rw [Bool.or_eq_true] at h
    rcases h with h | h
    · exact absurd h h0
    · have hd := dig_row h
      refine ⟨hd.1, by omega, ?_⟩
      unfold signV
      rw [if_neg]
      intro e
      rw [e] at hd
      exact absurd hd.2 (by decide)
structure ClGood (x : Claimed) : Prop where
  key : rowB x.key = true ∧ x.key.size ≤ 403
  label : rowB x.label = true ∧ x.label.size ≤ 403
  result : rowB x.result = true ∧ x.result.size ≤ 403
  writer : rowB x.writer = true ∧ x.writer.size ≤ 403
  at_ : 0 ≤ x.at_ ∧ x.at_ ≤ 1000000000
  uses : x.uses.l.length ≤ 50
  each : ∀ u ∈ x.uses.l, rowB u = true ∧ u.size ≤ 403
  sign : signB x.sign = true
theorem cl_good {x : Claimed} (h : claimedF x = 0) : ClGood x := by
  unfold claimedF at h
  by_cases h1 : digB x.key = true
  · rw [if_pos h1] at h
    by_cases h2 : labelL x.label.data.toList = true
    · rw [if_pos h2] at h
      by_cases h3 : digB x.result = true
      · rw [if_pos h3] at h
        by_cases h4 : wordB x.writer = true
        · rw [if_pos h4] at h
          by_cases h5 : inR 0 1000000000 x.at_ = true
          · rw [if_pos h5] at h
            by_cases h6 : x.uses.l.length ≤ 50
            · rw [if_pos h6] at h
              by_cases h7 : usesErr none x.uses.l = 0
              · rw [if_pos h7] at h
                by_cases h8 : signB x.sign = true
                · have d1 := dig_row h1
                  have d3 := dig_row h3
                  have d4 := word_row h4
                  exact ⟨⟨d1.1, by omega⟩, label_row h2, ⟨d3.1, by omega⟩, ⟨d4.1, by omega⟩, inR_true h5, h6, fun u hu => by have := dig_row (usesErr_each _ _ h7 u hu); exact ⟨this.1, by omega⟩, h8⟩
                · rw [if_neg h8] at h; cases h
              · rw [if_neg h7] at h; exact absurd h h7
            · rw [if_neg h6] at h; cases h
          · rw [if_neg h5] at h; cases h
        · rw [if_neg h4] at h; cases h
      · rw [if_neg h3] at h; cases h
    · rw [if_neg h2] at h; cases h
  · rw [if_neg h1] at h; cases h
def wordsT (x : Claimed) : List ByteArray := x.key :: x.label :: x.result :: x.writer :: itoaB x.at_ :: itoaB (x.uses.l.length : Int) :: (x.uses.l ++ [signW x.sign])
def textT (l : List Claimed) : List UInt8 := l.flatMap (fun r => lineL (wordsT r))
theorem words_rows {x : Claimed} (h : ClGood x) : ∀ w ∈ wordsT x, rowB w = true ∧ w.size ≤ 403 := by
  intro w hw
  have hu := h.uses
  have s4 := itoaB_size h.at_.1 (by have := h.at_.2; omega)
  have s5 := itoaB_size (n := (x.uses.l.length : Int)) (by omega) (by omega)
  have s6 := signW_row h.sign
  simp only [wordsT, List.mem_cons, List.mem_append, List.not_mem_nil, or_false] at hw
  rcases hw with rfl | rfl | rfl | rfl | rfl | rfl | hw | rfl
  · exact h.key
  · exact h.label
  · exact h.result
  · exact h.writer
  · exact ⟨itoa_row h.at_.1 (by have := h.at_.2; omega), by omega⟩
  · exact ⟨itoa_row (by omega) (by omega), by omega⟩
  · exact h.each w hw
  · exact ⟨s6.1, by omega⟩
theorem words_line {x : Claimed} (h : ClGood x) : wordsOf (bsL (Lib.join ((wordsT x).map (·.data.toList)) [32])) = wordsT x :=
  words_join _ _ fun w hw => (row_no (words_rows h w hw).1).1
theorem line_good {x : Claimed} (h : ClGood x) : lineB (wordsT x) = true ∧ lineV (wordsT x) = cont x := by
  have hu := h.uses
  have h1 := numR_itoa h.at_.1 (by have := h.at_.2; omega)
  have h2 := numR_itoa (n := (x.uses.l.length : Int)) (by omega) (by omega)
  have h3 := (signW_row h.sign).2.2
  have hlen : (wordsT x).length = x.uses.l.length + 7 := by simp [wordsT]
  have g4 : (wordsT x).getD 4 E0 = itoaB x.at_ := rfl
  have g5 : (wordsT x).getD 5 E0 = itoaB (x.uses.l.length : Int) := rfl
  have gd : ((wordsT x).drop 6).take ((wordsT x).length - 7) = x.uses.l := by
    rw [hlen]
    show (x.uses.l ++ [signW x.sign]).take (x.uses.l.length + 7 - 7) = _
    rw [Nat.add_sub_cancel]
    exact List.take_left' rfl
  have gs : (wordsT x).getD ((wordsT x).length - 1) E0 = signW x.sign := by
    rw [hlen, show x.uses.l.length + 7 - 1 = x.uses.l.length + 6 by omega]
    show (x.uses.l ++ [signW x.sign]).getD x.uses.l.length E0 = _
    simp
  have hany : (wordsT x).any (fun y => !rowB y) = false := by
    rw [List.any_eq_false]
    intro y hy
    rw [(words_rows h y hy).1]
    decide
  constructor
  · unfold lineB
    rw [g4, g5, h1, h2, hany, hlen, decide_eq_true (by omega), decide_eq_true (by simp only; omega)]
    rfl
  · unfold lineV
    rw [g4, h1, gd, gs, h3]
    rfl
theorem rdF_text : ∀ (l : List Claimed) (f n : Nat) (acc : List Claimed), (∀ r ∈ l, ClGood r) → (textT l).length ≤ f → rdF f (textT l) n acc = (acc ++ l.map cont, 0)
  | [], f, n, acc, _, _ => by
    show rdF f [] n acc = _
    rw [List.map_nil, List.append_nil]
    cases f with
    | zero => rfl
    | succ f => rw [rdF, if_pos rfl]
  | r :: l, f, n, acc, hg, hf => by
    have e : textT (r :: l) = lineL (wordsT r) ++ textT l := rfl
    have hlen : (textT (r :: l)).length = (lineL (wordsT r)).length + (textT l).length := by rw [e, List.length_append]
    have h1 := line_len (wordsT r)
    obtain ⟨f, rfl⟩ : ∃ g, f = g + 1 := ⟨f - 1, by omega⟩
    have hr := hg r List.mem_cons_self
    have hc := line_cut (wordsT r) (textT l) (fun w hw => (row_no (words_rows hr w hw).1).2)
    obtain ⟨g1, g2⟩ := line_good hr
    rw [e, rdF, if_neg (line_ne _ _), hc]
    simp only
    rw [words_line hr, g1, g2, Bool.and_true, if_pos rfl, rdF_text l f (n + 1) (acc ++ [cont r]) (fun x hx => hg x (List.mem_cons_of_mem _ hx)) (by omega), List.append_assoc]
    rfl
theorem each_good {l : List Claimed} (h : eachF l = 0) : ∀ r ∈ l, ClGood r := fun r hr => cl_good ((eachF_zero h).2 r hr)
theorem readR_text {l : List Claimed} (h : eachF l = 0) (hs : (textT l).length ≤ 2000000) : readR (bsL (textT l)) = (l.map cont, 0, 0) := by
  have hsz : (bsL (textT l)).size = (textT l).length := bsL_size _
  have hd : (bsL (textT l)).data.toList = textT l := rfl
  have hr := rdF_text l (textT l).length 1 [] (each_good h) (Nat.le_refl _)
  rw [List.nil_append] at hr
  have he : eachF (l.map cont) = 0 := by rw [eachF_cont]; exact h
  unfold readR
  rw [hsz, hd, if_pos hs, hr]
  simp only [he, if_true]
def textR (l : List Claimed) : ByteArray × Int := if eachF l = 0 then (if (textT l).length ≤ 2000000 then (bsL (textT l), 0) else (⟨#[]⟩, 2)) else (⟨#[]⟩, eachF l)
theorem textR_ok {l : List Claimed} {t : ByteArray} (h : textR l = (t, 0)) : t = bsL (textT l) ∧ t.size ≤ 2000000 ∧ readR t = (l.map cont, 0, 0) := by
  unfold textR at h
  by_cases h0 : eachF l = 0
  · rw [if_pos h0] at h
    by_cases h1 : (textT l).length ≤ 2000000
    · rw [if_pos h1, Prod.mk.injEq] at h
      obtain ⟨rfl, _⟩ := h
      exact ⟨rfl, by rw [bsL_size]; exact h1, readR_text h0 h1⟩
    · rw [if_neg h1, Prod.mk.injEq] at h
      exact absurd h.2 (by decide)
  · rw [if_neg h0, Prod.mk.injEq] at h
    exact absurd h.2 h0
theorem textT_step {l : List Claimed} {k : Nat} {r : Claimed} (h : l[k]? = some r) : textT (l.take (k + 1)) = textT (l.take k) ++ lineL (wordsT r) := by
  unfold textT
  rw [List.take_add_one, h, Option.toList, List.flatMap_append, List.flatMap_cons, List.flatMap_nil, List.append_nil]
end Go.Proofs.YtgegdfmdcmgliaaGreatDoor.C11

namespace Go.Proofs.YtgegdfmdcmgliaaGreatDoor.C11
open Go.ChangeShapes Go.WideShapes Go.Deep Go.RowKit
set_option linter.unusedVariables false

theorem elem_StrT : Elem Tryz.prog 9 RStr.size 16 := elem_of (z := .string ByteArray.empty) (by kernel_rfl) (by decide)
theorem ownT_six (w : World) (a b c d e f : ByteArray) (hz : ∀ x ∈ [a, b, c, d, e, f], x.size ≤ maxLen) : Own RStr 9 (w.alloc (.cells #[.string a, .string b, .string c, .string d, .string e, .string f] 9)) w.heap.size (.slice (some ⟨w.heap.size, 0, none⟩) 6 6) [a, b, c, d, e, f] := by
  exact ⟨⟨by simp [RStr], .inr ⟨w.heap.size, 6, #[.string a, .string b, .string c, .string d, .string e, .string f], rfl, Nat.le_refl _, heap_alloc_new w _, by simp, by decide, by simp [RStr], by simp [RStr]⟩⟩, hz⟩
theorem keepT7 {W w' : World} {a0 a1 a2 a3 a4 a5 a6 : Addr} {v0 v1 v2 v3 v4 v5 v6 : Value} (hb : Below W.heap.size W w') (h : W.cell? a0 = some v0 ∧ W.cell? a1 = some v1 ∧ W.cell? a2 = some v2 ∧ W.cell? a3 = some v3 ∧ W.cell? a4 = some v4 ∧ W.cell? a5 = some v5 ∧ W.cell? a6 = some v6) :
    w'.cell? a0 = some v0 ∧ w'.cell? a1 = some v1 ∧ w'.cell? a2 = some v2 ∧ w'.cell? a3 = some v3 ∧ w'.cell? a4 = some v4 ∧ w'.cell? a5 = some v5 ∧ w'.cell? a6 = some v6 := by
  obtain ⟨h0, h1, h2, h3, h4, h5, h6⟩ := h
  exact ⟨(hb.cell (cell?_lt h0)).trans h0, (hb.cell (cell?_lt h1)).trans h1, (hb.cell (cell?_lt h2)).trans h2, (hb.cell (cell?_lt h3)).trans h3, (hb.cell (cell?_lt h4)).trans h4, (hb.cell (cell?_lt h5)).trans h5, (hb.cell (cell?_lt h6)).trans h6⟩
theorem newT7 (w : World) (v0 v1 v2 v3 v4 v5 v6 : Value) (T : TypeId) : (w.alloc (.cells #[v0, v1, v2, v3, v4, v5, v6] T)).cell? ⟨w.heap.size, 0, none⟩ = some v0 ∧ (w.alloc (.cells #[v0, v1, v2, v3, v4, v5, v6] T)).cell? ⟨w.heap.size, 1, none⟩ = some v1 ∧ (w.alloc (.cells #[v0, v1, v2, v3, v4, v5, v6] T)).cell? ⟨w.heap.size, 2, none⟩ = some v2 ∧ (w.alloc (.cells #[v0, v1, v2, v3, v4, v5, v6] T)).cell? ⟨w.heap.size, 3, none⟩ = some v3 ∧ (w.alloc (.cells #[v0, v1, v2, v3, v4, v5, v6] T)).cell? ⟨w.heap.size, 4, none⟩ = some v4 ∧ (w.alloc (.cells #[v0, v1, v2, v3, v4, v5, v6] T)).cell? ⟨w.heap.size, 5, none⟩ = some v5 ∧ (w.alloc (.cells #[v0, v1, v2, v3, v4, v5, v6] T)).cell? ⟨w.heap.size, 6, none⟩ = some v6 := by
  simp [go_sem]
theorem lineT_size {x : Claimed} (h : ClGood x) : (lineL (wordsT x)).length ≤ 23100 := by
  have hu := h.uses
  have hl : (wordsT x).length = x.uses.l.length + 7 := by simp [wordsT]
  have := joinJ_size (l := wordsT x) (by omega) (fun w hw => (words_rows h w hw).2)
  unfold lineL
  rw [List.length_append, List.length_singleton]
  omega
theorem textT_size : ∀ (l : List Claimed), (∀ r ∈ l, ClGood r) → (textT l).length ≤ 23100 * l.length
  | [], _ => by simp [textT]
  | r :: s, h => by
    have e : textT (r :: s) = lineL (wordsT r) ++ textT s := rfl
    have h1 := lineT_size (h r List.mem_cons_self)
    have h2 := textT_size s (fun x hx => h x (List.mem_cons_of_mem _ hx))
    rw [e, List.length_append, List.length_cons]
    omega
theorem wordsT_app (key label result writer : ByteArray) (at_ : Int) (A : Option Addr) (n c : Nat) (us : List ByteArray) (sign : ByteArray) : wordsT ⟨key, label, result, writer, at_, ⟨A, n, c, us⟩, sign⟩ = [key, label, result, writer, itoJ at_, itoJ (us.length : Int)] ++ us ++ [signW sign] := by
  simp [wordsT, itoJ, itoaB]
def TxRel (l : List Claimed) (w1 : World) (i : Value) (wr : World) : Prop :=
  ∃ k : Nat, k ≤ l.length ∧ i = .int .i64 k ∧ BldAt w1.heap.size w1.heap.size (textT (l.take k)) wr ∧ Below w1.heap.size w1 wr

set_option maxRecDepth 100000 in
set_option maxHeartbeats 8000000 in
theorem text_any (A : Option Addr) (n c : Nat) (l : List Claimed) (w : World) (hm : MaxLenAt w) (ht : PowJ w) (hl : SlAt RClaimed w A n l) (t : ByteArray) (cc : Int) (hF : textR l = (t, cc)) :
    Calls Tryz.prog 18 #[.slice A n c] w fun e w' => e = .returned (.tuple #[.string t, .int .i64 cc]) ∧ Below w.heap.size w w' := by
  unfold textR at hF
  obtain ⟨h, hh⟩ : ∃ h, eachF l = h := ⟨_, rfl⟩
  rw [hh] at hF
  have hmH := Lib.hid hm
  clear hm
  have htH := Lib.hid ht
  clear ht
  have hlH := Lib.hid hl
  clear hl
  have hhH := Lib.hid hh
  clear hh
  go_enter Tryz.func18, Tryz.ntmps18
  go_wp2_with fail
  refine (each_any A n c l _ hmH.out hlH.out h hhH.out).mono ?_
  rintro e w1 ⟨rfl, hb1⟩
  have hb1H := Lib.hid hb1
  clear hb1
  by_cases e0 : h = 0
  · subst e0
    rw [if_pos rfl] at hF
    have hg := each_good hhH.out
    have hll := hlH.out.1
    have hln : l.length ≤ 1000 := (eachF_zero hhH.out).1
    have hmade := BldAt.made w1
    have hgH := Lib.hid hg
    clear hg
    have hllH := Lib.hid hll
    clear hll
    have hFH := Lib.hid hF
    clear hF
    have hmadeH := Lib.hid hmade
    clear hmade
    go_wp2_with fail
    go_loopw [17] (fun i wr => TxRel l w1 i wr) (fun i _ => n - (intOf i).toNat)
    case atStart => exact ⟨0, Nat.zero_le _, rfl, hmadeH.out, (Below.refl _ _).alloc (Nat.le_refl _) _⟩
    case round =>
      obtain ⟨k, hk, rfl, hbld, hb⟩ := hrel
      have hkn : k ≤ n := by have := hllH.out; omega
      have hts := textT_size (l.take k) (fun r hr => hgH.out r (List.mem_of_mem_take hr))
      rw [List.length_take] at hts
      by_cases hlt : k < n
      · obtain ⟨b, off, hA, _⟩ := hlH.out.2.1 (by omega)
        subst hA
        obtain ⟨r, hr⟩ : ∃ r, l[k]? = some r := ⟨l[k]'(by have := hllH.out; omega), List.getElem?_eq_getElem _⟩
        have hbr : Below w.heap.size w wr := hb1H.out.trans (hb.mono hb1H.out.size)
        obtain ⟨c0, c1, c2, c3, c4, c5, c6⟩ := cells_Claimed (hlH.out.below hbr) hr
        have hok := (hlH.out.below hbr).2.2 r (List.mem_of_getElem? hr)
        have hrg := hgH.out r (List.mem_of_getElem? hr)
        have hst := textT_step hr
        obtain ⟨jn, hjn⟩ : ∃ z : ByteArray, z = ⟨(Lib.join ((wordsT r).map (·.data.toList)) [32]).toArray⟩ := ⟨_, rfl⟩
        have hjz : jn.size + 1 ≤ 23100 := by
          have := lineT_size hrg
          unfold lineL at this
          rw [List.length_append, List.length_singleton] at this
          rw [hjn]
          show (Lib.join ((wordsT r).map (·.data.toList)) [32]).toArray.size + 1 ≤ 23100
          rw [List.size_toArray]; exact this
        obtain ⟨t1, et1⟩ : ∃ z, jn ++ ⟨#[10]⟩ = z := ⟨_, rfl⟩
        have z1 : t1.size = jn.size + 1 := by rw [← et1, ByteArray.size_append]; rfl
        have e1 : ∀ w : World, (Op.stringOp .add jn ⟨#[10]⟩).run Tryz.prog w = .ok (.string t1) w := fun w => by rw [← et1]; exact run_string_add_sum w _ _ (by show jn.size + 1 ≤ _; omega)
        have hd1 : t1.data.toList = lineL (wordsT r) := by rw [← et1, hjn]; simp [lineL]
        rw [← hd1] at hst
        obtain ⟨wa, hwa⟩ : ∃ W, W = wr.alloc (.cells (RClaimed.vals r).toArray 51) := ⟨_, rfl⟩
        have hwz := fun y hy => (words_rows hrg y hy).2
        have hun := hrg.uses
        have hsr := signW_row hrg.sign
        have hI1 : I64 r.at_ := ⟨by have := hrg.at_; omega, by have := hrg.at_; omega⟩
        have hI2 : I64 (r.uses.l.length : Int) := ⟨by omega, by omega⟩
        obtain ⟨key, label, result, writer, at_, ⟨uA, uN, uC, us⟩, sign⟩ := r
        rw [wordsT_app] at hjn hwz
        simp only at hI1 hI2 hun hsr hok
        have hu := hok.2.2.2.2.2.1
        have hul : us.length = uN := hu.1.1
        have hnn : uN = 0 → uA = none → uC = 0 := fun _ h => hu.2.2.2 h
        rw [hul] at hun hI2 hjn hwz
        obtain ⟨i1, hi1⟩ : ∃ z, itoJ at_ = z := ⟨_, rfl⟩
        obtain ⟨i2, hi2⟩ : ∃ z, itoJ (uN : Int) = z := ⟨_, rfl⟩
        have hJ1 := fun (W : World) (h : PowJ W) => itoJ_any at_ hI1 W h
        have hJ2 := fun (W : World) (h : PowJ W) => itoJ_any (uN : Int) hI2 W h
        rw [hi1] at hJ1 hjn hwz
        rw [hi2] at hJ2 hjn hwz
        have hz6 : ∀ y ∈ [key, label, result, writer, i1, i2], y.size ≤ maxLen := fun y hy => by have := hwz y (List.mem_append_left _ (List.mem_append_left _ hy)); unfold maxLen; omega
        obtain ⟨sg, hsgd⟩ : ∃ z, signW sign = z := ⟨_, rfl⟩
        rw [hsgd] at hjn hwz hsr
        have hsg : RStr.ok wa sg := by show sg.size ≤ maxLen; have := hsr.2.1; unfold maxLen; omega
        have hsz := hwz
        simp only [RClaimed] at hwa
        simp only at c0 c1 c2 c3 c4 c5 c6
        have hul2 := hul
        obtain ⟨x0, x1, x2, x3, x4, x5, x6⟩ := newT7 wr (.string key) (.string label) (.string result) (.string writer) (.int .i64 at_) (.slice uA uN uC) (.string sign) 51
        have hal := hb.alloc hb.size (.cells #[.string key, .string label, .string result, .string writer, .int .i64 at_, .slice uA uN uC, .string sign] 51)
        have hblda := hbld.below (allocBel wr (.cells #[.string key, .string label, .string result, .string writer, .int .i64 at_, .slice uA uN uC, .string sign] 51))
        have hpa := (htH.out.below hbr).below (allocBel wr (.cells #[.string key, .string label, .string result, .string writer, .int .i64 at_, .slice uA uN uC, .string sign] 51))
        have hua := hu.1.below (allocBel wr (.cells #[.string key, .string label, .string result, .string writer, .int .i64 at_, .slice uA uN uC, .string sign] 51))
        have hkl : k + 1 ≤ l.length := by have := hllH.out; omega
        have hwz2 : w1.heap.size ≤ wr.heap.size := hb.size
        rw [← hwa] at x0 x1 x2 x3 x4 x5 x6 hal hblda hpa hua
        clear hi1 hi2 hd1 et1 hI1 hI2 hrg hok hu hwz hsr
        have hrH := Lib.hid hr
        clear hr
        have hbldH := Lib.hid hbld
        clear hbld
        have hbH := Lib.hid hb
        clear hb
        have hbrH := Lib.hid hbr
        clear hbr
        have hstH := Lib.hid hst
        clear hst
        have hjnH := Lib.hid hjn
        clear hjn
        have hjzH := Lib.hid hjz
        clear hjz
        have z1H := Lib.hid z1
        clear z1
        have hJ1H := Lib.hid hJ1
        clear hJ1
        have hJ2H := Lib.hid hJ2
        clear hJ2
        have hz6H := Lib.hid hz6
        clear hz6
        have halH := Lib.hid hal
        clear hal
        have hbldaH := Lib.hid hblda
        clear hblda
        have hpaH := Lib.hid hpa
        clear hpa
        have huaH := Lib.hid hua
        clear hua
        have hklH := Lib.hid hkl
        clear hkl
        have hwaH := Lib.hid hwa
        clear hwa
        have htsH := Lib.hid hts
        clear hts
        have hulH := Lib.hid hul
        clear hul
        have hul2H := Lib.hid hul2
        clear hul2
        have hnnH := Lib.hid hnn
        clear hnn
        have hsgH := Lib.hid hsg
        clear hsg
        have hszH := Lib.hid hsz
        clear hsz
        have hunH := Lib.hid hun
        clear hun
        have hwz2H := Lib.hid hwz2
        clear hwz2
        by_cases hs0 : sign.toList = []
        · have hs1 : (sign.toList == ([] : List UInt8)) = true := by simpa using hs0
          obtain rfl : DASH = sg := by rw [← hsgd]; unfold signW; rw [if_pos hs1]
          clear hsgd
          unfold DASH at hsgH hszH hjnH
          go_wp2_with fail
          rw [← hwaH.out]
          refine wp_region_held_drew (S := (fun w' => w'.cell? ⟨wr.heap.size, 0, none⟩ = some (.string key) ∧ w'.cell? ⟨wr.heap.size, 1, none⟩ = some (.string label) ∧ w'.cell? ⟨wr.heap.size, 2, none⟩ = some (.string result) ∧ w'.cell? ⟨wr.heap.size, 3, none⟩ = some (.string writer) ∧ w'.cell? ⟨wr.heap.size, 4, none⟩ = some (.int .i64 at_) ∧ w'.cell? ⟨wr.heap.size, 5, none⟩ = some (.slice uA uN uC) ∧ w'.cell? ⟨wr.heap.size, 6, none⟩ = some (.string sign))) (by kernel_rfl) ⟨x0, x1, x2, x3, x4, x5, x6⟩ (fun hHeld => ?_)
          clear x0 x1 x2 x3 x4 x5 x6
          refine takeH (i := 0) (d := some 25) (v := ?_) rfl rfl (by kernel_rfl) (by kernel_rfl) (by kernel_rfl) (fun _ _ _ h => h) (Or.inl ⟨by rfl, ?_⟩) (by assumption) ?_
          rotate_left
          · (intro w hSw; (try dsimp only at hSw); go_simp; (try with_reducible rfl))
          (try simp only [Act.put, List.setIfInBounds_toArray, List.set_cons_zero, List.set_cons_succ])
          refine takeH (i := 1) (d := some 26) (v := ?_) rfl rfl (by kernel_rfl) (by kernel_rfl) (by kernel_rfl) (fun _ _ _ h => h) (Or.inl ⟨by rfl, ?_⟩) (by assumption) ?_
          rotate_left
          · (intro w hSw; (try dsimp only at hSw); go_simp; (try with_reducible rfl))
          (try simp only [Act.put, List.setIfInBounds_toArray, List.set_cons_zero, List.set_cons_succ])
          refine takeH (i := 2) (d := some 27) (v := ?_) rfl rfl (by kernel_rfl) (by kernel_rfl) (by kernel_rfl) (fun _ _ _ h => h) (Or.inl ⟨by rfl, ?_⟩) (by assumption) ?_
          rotate_left
          · (intro w hSw; (try dsimp only at hSw); go_simp; (try with_reducible rfl))
          (try simp only [Act.put, List.setIfInBounds_toArray, List.set_cons_zero, List.set_cons_succ])
          refine takeH (i := 3) (d := some 28) (v := ?_) rfl rfl (by kernel_rfl) (by kernel_rfl) (by kernel_rfl) (fun _ _ _ h => h) (Or.inl ⟨by rfl, ?_⟩) (by assumption) ?_
          rotate_left
          · (intro w hSw; (try dsimp only at hSw); go_simp; (try with_reducible rfl))
          (try simp only [Act.put, List.setIfInBounds_toArray, List.set_cons_zero, List.set_cons_succ])
          refine takeH (i := 4) (d := some 29) (v := ?_) rfl rfl (by kernel_rfl) (by kernel_rfl) (by kernel_rfl) (fun _ _ _ h => h) (Or.inl ⟨by rfl, ?_⟩) (by assumption) ?_
          rotate_left
          · (intro w hSw; (try dsimp only at hSw); go_simp; (try with_reducible rfl))
          (try simp only [Act.put, List.setIfInBounds_toArray, List.set_cons_zero, List.set_cons_succ])
          refine takeH (i := 5) (d := some 30) (v := ?_) rfl rfl (by kernel_rfl) (by kernel_rfl) (by kernel_rfl) (fun _ _ _ h => h) (Or.inl ⟨by rfl, ?_⟩) (by assumption) ?_
          rotate_left
          · (intro w hSw; (try dsimp only at hSw); go_simp; (try with_reducible rfl))
          (try simp only [Act.put, List.setIfInBounds_toArray, List.set_cons_zero, List.set_cons_succ])
          refine takeH (i := 6) (d := some 31) (v := ?_) rfl rfl (by kernel_rfl) (by kernel_rfl) (by kernel_rfl) (fun _ _ _ h => h) (Or.inl ⟨by rfl, ?_⟩) (by assumption) ?_
          rotate_left
          · (intro w hSw; (try dsimp only at hSw); go_simp; (try with_reducible rfl))
          (try simp only [Act.put, List.setIfInBounds_toArray, List.set_cons_zero, List.set_cons_succ])
          refine takeH (i := 7) (d := some 32) (v := ?_) rfl rfl (by kernel_rfl) (by kernel_rfl) (by kernel_rfl) (fun _ _ _ h => h) (Or.inl ⟨by rfl, ?_⟩) (by assumption) ?_
          rotate_left
          · (intro w hSw; (try dsimp only at hSw); go_simp; (try with_reducible rfl))
          (try simp only [Act.put, List.setIfInBounds_toArray, List.set_cons_zero, List.set_cons_succ])
          refine takeH (i := 8) (d := some 33) (v := ?_) rfl rfl (by kernel_rfl) (by kernel_rfl) (by kernel_rfl) (fun _ _ _ h => h) (Or.inl ⟨by rfl, ?_⟩) (by assumption) ?_
          rotate_left
          · (intro w hSw; (try dsimp only at hSw); go_simp; (try with_reducible rfl))
          (try simp only [Act.put, List.setIfInBounds_toArray, List.set_cons_zero, List.set_cons_succ])
          refine takeH (i := 9) (d := some 34) (v := ?_) rfl rfl (by kernel_rfl) (by kernel_rfl) (by kernel_rfl) (fun _ _ _ h => h) (Or.inl ⟨by rfl, ?_⟩) (by assumption) ?_
          rotate_left
          · (intro w hSw; (try dsimp only at hSw); go_simp; (try with_reducible rfl))
          (try simp only [Act.put, List.setIfInBounds_toArray, List.set_cons_zero, List.set_cons_succ])
          refine takeH (i := 11) (d := some 36) (v := ?_) rfl rfl (by kernel_rfl) (by kernel_rfl) (by kernel_rfl) (fun _ _ _ h => h) (Or.inl ⟨by rfl, ?_⟩) (by assumption) ?_
          rotate_left
          · (intro w hSw; (try dsimp only at hSw); go_simp; (try with_reducible rfl))
          (try simp only [Act.put, List.setIfInBounds_toArray, List.set_cons_zero, List.set_cons_succ])
          refine takeH (i := 12) (d := some 37) (v := ?_) rfl rfl (by kernel_rfl) (by kernel_rfl) (by kernel_rfl) (fun _ _ _ h => h) (Or.inl ⟨by rfl, ?_⟩) (by assumption) ?_
          rotate_left
          · (intro w hSw; (try dsimp only at hSw); go_simp; (try with_reducible rfl))
          (try simp only [Act.put, List.setIfInBounds_toArray, List.set_cons_zero, List.set_cons_succ])
          refine takeH (i := 13) (d := some 38) (v := ?_) rfl rfl (by kernel_rfl) (by kernel_rfl) (by kernel_rfl) (fun _ _ _ h => h) (Or.inl ⟨by rfl, ?_⟩) (by assumption) ?_
          rotate_left
          · (intro w hSw; (try dsimp only at hSw); go_simp; (try with_reducible rfl))
          (try simp only [Act.put, List.setIfInBounds_toArray, List.set_cons_zero, List.set_cons_succ])
          refine wpAnyH_ready (rs := [10]) (by kernel_rfl) (by simp) ?_
          refine AllReadyH.cons (i := 10) rfl (fun K hK => ?_) AllReadyH.nil
          go_simp
          go_at_call 40
          refine (hJ1H.out _ (hpaH.out.below (by first | exact Below.refl _ _ | exact (Below.refl _ _).drew))).mono ?_
          rintro e w2 ⟨rfl, hb2⟩
          have hb2a : Below wa.heap.size wa w2 := by first | exact hb2 | exact (Below.refl _ _).drew.trans hb2
          replace hHeld := keepT7 hb2 hHeld
          clear hb2
          refine hK.out _ _ hHeld (fun hHeld => ?_)
          clear hK K
          (try simp only [Act.put, List.setIfInBounds_toArray, List.set_cons_zero, List.set_cons_succ])
          refine wpAnyH_ready (rs := [14]) (by kernel_rfl) (by simp) ?_
          refine AllReadyH.cons (i := 14) rfl (fun K hK => ?_) AllReadyH.nil
          go_simp
          go_at_call 40
          refine (hJ2H.out _ (hpaH.out.below hb2a)).mono ?_
          rintro e w3 ⟨rfl, hb3⟩
          replace hHeld := keepT7 hb3 hHeld
          have hb3a := hb2a.trans (hb3.mono hb2a.size)
          clear hb2a hb3
          refine hK.out _ _ hHeld (fun hHeld => ?_)
          clear hK K
          (try simp only [Act.put, List.setIfInBounds_toArray, List.set_cons_zero, List.set_cons_succ])
          refine wpAnyH_ready (rs := [15]) (by kernel_rfl) (by simp) ?_
          refine AllReadyH.cons (i := 15) rfl (fun K hK => ?_) AllReadyH.nil
          go_simp
          replace hHeld := keepT7 (allocBel w3 (.cells #[.string key, .string label, .string result, .string writer, .string i1, .string i2] 9)) hHeld
          have hh4 := hHeld
          have hown4 := ownT_six w3 key label result writer i1 i2 hz6H.out
          have hs3 := hb3a.size
          have hb4 := hb3a.alloc hb3a.size (.cells #[.string key, .string label, .string result, .string writer, .string i1, .string i2] 9)
          have hown4H := Lib.hid hown4
          clear hown4
          have hb4H := Lib.hid hb4
          clear hb4
          have hh4H := Lib.hid hh4
          clear hh4
          have hs3H := Lib.hid hs3
          clear hs3
          clear hb3a
          refine hK.out _ _ hHeld (fun hHeld => ?_)
          clear hK K
          (try simp only [Act.put, List.setIfInBounds_toArray, List.set_cons_zero, List.set_cons_succ])
          refine takeH (i := 16) (d := some 9) (v := ?_) rfl rfl (by kernel_rfl) (by kernel_rfl) (by kernel_rfl) (fun _ _ _ h => h) (Or.inl ⟨by rfl, ?_⟩) (by assumption) ?_
          rotate_left
          · (intro w hSw; (try dsimp only at hSw); go_simp; (try with_reducible rfl))
          (try simp only [Act.put, List.setIfInBounds_toArray, List.set_cons_zero, List.set_cons_succ])
          refine wpAnyH_done (by kernel_rfl) ?_ _
          have hown4 := hown4H.out
          have hb4 := hb4H.out
          have hc5 := hh4H.out.2.2.2.2.2.1
          have hs34 : w3.heap.size ≤ (w3.alloc (.cells #[.string key, .string label, .string result, .string writer, .string i1, .string i2] 9)).heap.size := by simp
          have hsa3 : wa.heap.size ≤ w3.heap.size := hs3H.out
          clear hown4H hb4H hh4H hs3H
          obtain ⟨w4, hw4⟩ : ∃ W, W = w3.alloc (.cells #[.string key, .string label, .string result, .string writer, .string i1, .string i2] 9) := ⟨_, rfl⟩
          rw [← hw4] at hown4 hb4 hc5 hs34 ⊢
          have hu4 := huaH.out.below hb4
          have hu4H := Lib.hid hu4
          clear hu4
          have hown4H := Lib.hid hown4
          clear hown4
          have hb4H := Lib.hid hb4
          clear hb4
          have hw4H := Lib.hid hw4
          clear hw4
          go_wp2_with (at_builtin; refine wpList_app rfl (.tmp 41) (.tmp 43) 49 rfl Tryz.underlying49 elem_StrT (by decide) rfl hown4H.out uA uN uC us rfl hu4H.out hnnH.out (fun _ _ _ _ h => h) ?c1 ?c2 hs34 (uN + 6) ?c4 ?_)
          case c1 => have := hunH.out; simp [maxLen]; omega
          case c2 => have := hunH.out; simp; omega
          case c4 => simp; omega
          intro A5 cap5 w5 hown5 hg5 hat5 hb5
          have hb5a := hb4H.out.trans (hb5.mono hsa3)
          have hs35 : w3.heap.size ≤ w5.heap.size := Nat.le_trans hs34 hb5.size
          clear hg5 hat5 hb5 hc5 hs34
          have hown5H := Lib.hid hown5
          clear hown5
          have hb5aH := Lib.hid hb5a
          clear hb5a
          go_wp2_with (at_builtin; refine wpList_app rfl (.tmp 44) (.tmp 46) 49 rfl Tryz.underlying49 elem_StrT (by decide) rfl (hown5H.out.alloc _) (some ⟨w5.heap.size, 0, none⟩) 1 1 [⟨#[45]⟩] rfl ?d1 ?d2 (fun _ _ _ _ h => h) ?d3 ?d4 ?d5 (uN + 7) ?d6 ?_)
          case d1 => exact slAt_new w5 9 (R := RStr) ⟨#[45]⟩ hsgH.out
          case d2 => intro h; cases h
          case d3 => have := hunH.out; simp [maxLen]; have := hulH.out; omega
          case d4 => have := hunH.out; simp; have := hulH.out; omega
          case d5 => simp; omega
          case d6 => have := hulH.out; simp; omega
          intro A6 cap6 w6 hown6 hg6 hat6 hb6
          have hb6a := (hb5aH.out.alloc hb5aH.out.size (.cells #[.string ⟨#[45]⟩] 9)).trans (hb6.mono hsa3)
          clear hg6 hat6 hb6
          have hown6H := Lib.hid hown6
          clear hown6
          have hb6aH := Lib.hid hb6a
          clear hb6a
          go_wp2_with fail
          refine (joinJ_own _ ([key, label, result, writer, i1, i2] ++ us ++ [⟨#[45]⟩]) _ w3.heap.size hown6H.out (by simp) (by have := hunH.out; have := hulH.out; simp; omega) hszH.out).mono ?_
          rw [← hjnH.out]
          rintro e w7 ⟨rfl, hb7⟩
          have hb7a := hb6aH.out.trans (hb7.mono hb6aH.out.size)
          clear hb7
          have hb7aH := Lib.hid hb7a
          clear hb7a
          go_wp2_with fail
          refine (bld_write w1.heap.size w1.heap.size (textT (l.take k)) t1 _ (hbldaH.out.below hb7aH.out) (by rw [z1H.out]; have := hjzH.out; have := htsH.out; omega) (by have := halH.out.size; have := hb7aH.out.size; omega)).mono ?_
          rintro e w8 ⟨rfl, hbld8, hb8, hoth⟩
          have R : TxRel l w1 (.int .i64 (k + 1)) w8 := ⟨k + 1, hklH.out, by go_num, by rw [hstH.out]; exact hbld8, (halH.out.trans (hb7aH.out.mono halH.out.size)).trans hb8⟩
          clear hbld8 hb8 hoth
          have RH := Lib.hid R
          clear R
          go_wp2
          refine ⟨?rel, ?measure⟩
          case measure => (simp [intOf]; omega)
          case rel => first | exact RH.out | exact ⟨rfl, RH.out⟩ | ((try refine ⟨rfl, ?_⟩); (repeat apply Exists.intro); refine ⟨RH.out, ?_⟩; ((repeat' apply And.intro) <;> rfl))
        · have hs1 : (sign.toList == ([] : List UInt8)) = false := by simpa using hs0
          obtain rfl : sign = sg := by rw [← hsgd]; unfold signW; rw [if_neg (by rw [hs1]; decide)]
          clear hsgd
          go_wp2_with fail
          rw [← hwaH.out]
          refine wp_region_held_drew (S := (fun w' => w'.cell? ⟨wr.heap.size, 0, none⟩ = some (.string key) ∧ w'.cell? ⟨wr.heap.size, 1, none⟩ = some (.string label) ∧ w'.cell? ⟨wr.heap.size, 2, none⟩ = some (.string result) ∧ w'.cell? ⟨wr.heap.size, 3, none⟩ = some (.string writer) ∧ w'.cell? ⟨wr.heap.size, 4, none⟩ = some (.int .i64 at_) ∧ w'.cell? ⟨wr.heap.size, 5, none⟩ = some (.slice uA uN uC) ∧ w'.cell? ⟨wr.heap.size, 6, none⟩ = some (.string sign))) (by kernel_rfl) ⟨x0, x1, x2, x3, x4, x5, x6⟩ (fun hHeld => ?_)
          clear x0 x1 x2 x3 x4 x5 x6
          refine takeH (i := 0) (d := some 25) (v := ?_) rfl rfl (by kernel_rfl) (by kernel_rfl) (by kernel_rfl) (fun _ _ _ h => h) (Or.inl ⟨by rfl, ?_⟩) (by assumption) ?_
          rotate_left
          · (intro w hSw; (try dsimp only at hSw); go_simp; (try with_reducible rfl))
          (try simp only [Act.put, List.setIfInBounds_toArray, List.set_cons_zero, List.set_cons_succ])
          refine takeH (i := 1) (d := some 26) (v := ?_) rfl rfl (by kernel_rfl) (by kernel_rfl) (by kernel_rfl) (fun _ _ _ h => h) (Or.inl ⟨by rfl, ?_⟩) (by assumption) ?_
          rotate_left
          · (intro w hSw; (try dsimp only at hSw); go_simp; (try with_reducible rfl))
          (try simp only [Act.put, List.setIfInBounds_toArray, List.set_cons_zero, List.set_cons_succ])
          refine takeH (i := 2) (d := some 27) (v := ?_) rfl rfl (by kernel_rfl) (by kernel_rfl) (by kernel_rfl) (fun _ _ _ h => h) (Or.inl ⟨by rfl, ?_⟩) (by assumption) ?_
          rotate_left
          · (intro w hSw; (try dsimp only at hSw); go_simp; (try with_reducible rfl))
          (try simp only [Act.put, List.setIfInBounds_toArray, List.set_cons_zero, List.set_cons_succ])
          refine takeH (i := 3) (d := some 28) (v := ?_) rfl rfl (by kernel_rfl) (by kernel_rfl) (by kernel_rfl) (fun _ _ _ h => h) (Or.inl ⟨by rfl, ?_⟩) (by assumption) ?_
          rotate_left
          · (intro w hSw; (try dsimp only at hSw); go_simp; (try with_reducible rfl))
          (try simp only [Act.put, List.setIfInBounds_toArray, List.set_cons_zero, List.set_cons_succ])
          refine takeH (i := 4) (d := some 29) (v := ?_) rfl rfl (by kernel_rfl) (by kernel_rfl) (by kernel_rfl) (fun _ _ _ h => h) (Or.inl ⟨by rfl, ?_⟩) (by assumption) ?_
          rotate_left
          · (intro w hSw; (try dsimp only at hSw); go_simp; (try with_reducible rfl))
          (try simp only [Act.put, List.setIfInBounds_toArray, List.set_cons_zero, List.set_cons_succ])
          refine takeH (i := 5) (d := some 30) (v := ?_) rfl rfl (by kernel_rfl) (by kernel_rfl) (by kernel_rfl) (fun _ _ _ h => h) (Or.inl ⟨by rfl, ?_⟩) (by assumption) ?_
          rotate_left
          · (intro w hSw; (try dsimp only at hSw); go_simp; (try with_reducible rfl))
          (try simp only [Act.put, List.setIfInBounds_toArray, List.set_cons_zero, List.set_cons_succ])
          refine takeH (i := 6) (d := some 31) (v := ?_) rfl rfl (by kernel_rfl) (by kernel_rfl) (by kernel_rfl) (fun _ _ _ h => h) (Or.inl ⟨by rfl, ?_⟩) (by assumption) ?_
          rotate_left
          · (intro w hSw; (try dsimp only at hSw); go_simp; (try with_reducible rfl))
          (try simp only [Act.put, List.setIfInBounds_toArray, List.set_cons_zero, List.set_cons_succ])
          refine takeH (i := 7) (d := some 32) (v := ?_) rfl rfl (by kernel_rfl) (by kernel_rfl) (by kernel_rfl) (fun _ _ _ h => h) (Or.inl ⟨by rfl, ?_⟩) (by assumption) ?_
          rotate_left
          · (intro w hSw; (try dsimp only at hSw); go_simp; (try with_reducible rfl))
          (try simp only [Act.put, List.setIfInBounds_toArray, List.set_cons_zero, List.set_cons_succ])
          refine takeH (i := 8) (d := some 33) (v := ?_) rfl rfl (by kernel_rfl) (by kernel_rfl) (by kernel_rfl) (fun _ _ _ h => h) (Or.inl ⟨by rfl, ?_⟩) (by assumption) ?_
          rotate_left
          · (intro w hSw; (try dsimp only at hSw); go_simp; (try with_reducible rfl))
          (try simp only [Act.put, List.setIfInBounds_toArray, List.set_cons_zero, List.set_cons_succ])
          refine takeH (i := 9) (d := some 34) (v := ?_) rfl rfl (by kernel_rfl) (by kernel_rfl) (by kernel_rfl) (fun _ _ _ h => h) (Or.inl ⟨by rfl, ?_⟩) (by assumption) ?_
          rotate_left
          · (intro w hSw; (try dsimp only at hSw); go_simp; (try with_reducible rfl))
          (try simp only [Act.put, List.setIfInBounds_toArray, List.set_cons_zero, List.set_cons_succ])
          refine takeH (i := 11) (d := some 36) (v := ?_) rfl rfl (by kernel_rfl) (by kernel_rfl) (by kernel_rfl) (fun _ _ _ h => h) (Or.inl ⟨by rfl, ?_⟩) (by assumption) ?_
          rotate_left
          · (intro w hSw; (try dsimp only at hSw); go_simp; (try with_reducible rfl))
          (try simp only [Act.put, List.setIfInBounds_toArray, List.set_cons_zero, List.set_cons_succ])
          refine takeH (i := 12) (d := some 37) (v := ?_) rfl rfl (by kernel_rfl) (by kernel_rfl) (by kernel_rfl) (fun _ _ _ h => h) (Or.inl ⟨by rfl, ?_⟩) (by assumption) ?_
          rotate_left
          · (intro w hSw; (try dsimp only at hSw); go_simp; (try with_reducible rfl))
          (try simp only [Act.put, List.setIfInBounds_toArray, List.set_cons_zero, List.set_cons_succ])
          refine takeH (i := 13) (d := some 38) (v := ?_) rfl rfl (by kernel_rfl) (by kernel_rfl) (by kernel_rfl) (fun _ _ _ h => h) (Or.inl ⟨by rfl, ?_⟩) (by assumption) ?_
          rotate_left
          · (intro w hSw; (try dsimp only at hSw); go_simp; (try with_reducible rfl))
          (try simp only [Act.put, List.setIfInBounds_toArray, List.set_cons_zero, List.set_cons_succ])
          refine wpAnyH_ready (rs := [10]) (by kernel_rfl) (by simp) ?_
          refine AllReadyH.cons (i := 10) rfl (fun K hK => ?_) AllReadyH.nil
          go_simp
          go_at_call 40
          refine (hJ1H.out _ (hpaH.out.below (by first | exact Below.refl _ _ | exact (Below.refl _ _).drew))).mono ?_
          rintro e w2 ⟨rfl, hb2⟩
          have hb2a : Below wa.heap.size wa w2 := by first | exact hb2 | exact (Below.refl _ _).drew.trans hb2
          replace hHeld := keepT7 hb2 hHeld
          clear hb2
          refine hK.out _ _ hHeld (fun hHeld => ?_)
          clear hK K
          (try simp only [Act.put, List.setIfInBounds_toArray, List.set_cons_zero, List.set_cons_succ])
          refine wpAnyH_ready (rs := [14]) (by kernel_rfl) (by simp) ?_
          refine AllReadyH.cons (i := 14) rfl (fun K hK => ?_) AllReadyH.nil
          go_simp
          go_at_call 40
          refine (hJ2H.out _ (hpaH.out.below hb2a)).mono ?_
          rintro e w3 ⟨rfl, hb3⟩
          replace hHeld := keepT7 hb3 hHeld
          have hb3a := hb2a.trans (hb3.mono hb2a.size)
          clear hb2a hb3
          refine hK.out _ _ hHeld (fun hHeld => ?_)
          clear hK K
          (try simp only [Act.put, List.setIfInBounds_toArray, List.set_cons_zero, List.set_cons_succ])
          refine wpAnyH_ready (rs := [15]) (by kernel_rfl) (by simp) ?_
          refine AllReadyH.cons (i := 15) rfl (fun K hK => ?_) AllReadyH.nil
          go_simp
          replace hHeld := keepT7 (allocBel w3 (.cells #[.string key, .string label, .string result, .string writer, .string i1, .string i2] 9)) hHeld
          have hh4 := hHeld
          have hown4 := ownT_six w3 key label result writer i1 i2 hz6H.out
          have hs3 := hb3a.size
          have hb4 := hb3a.alloc hb3a.size (.cells #[.string key, .string label, .string result, .string writer, .string i1, .string i2] 9)
          have hown4H := Lib.hid hown4
          clear hown4
          have hb4H := Lib.hid hb4
          clear hb4
          have hh4H := Lib.hid hh4
          clear hh4
          have hs3H := Lib.hid hs3
          clear hs3
          clear hb3a
          refine hK.out _ _ hHeld (fun hHeld => ?_)
          clear hK K
          (try simp only [Act.put, List.setIfInBounds_toArray, List.set_cons_zero, List.set_cons_succ])
          refine takeH (i := 16) (d := some 9) (v := ?_) rfl rfl (by kernel_rfl) (by kernel_rfl) (by kernel_rfl) (fun _ _ _ h => h) (Or.inl ⟨by rfl, ?_⟩) (by assumption) ?_
          rotate_left
          · (intro w hSw; (try dsimp only at hSw); go_simp; (try with_reducible rfl))
          (try simp only [Act.put, List.setIfInBounds_toArray, List.set_cons_zero, List.set_cons_succ])
          refine wpAnyH_done (by kernel_rfl) ?_ _
          have hown4 := hown4H.out
          have hb4 := hb4H.out
          have hc5 := hh4H.out.2.2.2.2.2.1
          have hs34 : w3.heap.size ≤ (w3.alloc (.cells #[.string key, .string label, .string result, .string writer, .string i1, .string i2] 9)).heap.size := by simp
          have hsa3 : wa.heap.size ≤ w3.heap.size := hs3H.out
          clear hown4H hb4H hh4H hs3H
          obtain ⟨w4, hw4⟩ : ∃ W, W = w3.alloc (.cells #[.string key, .string label, .string result, .string writer, .string i1, .string i2] 9) := ⟨_, rfl⟩
          rw [← hw4] at hown4 hb4 hc5 hs34 ⊢
          have hu4 := huaH.out.below hb4
          have hu4H := Lib.hid hu4
          clear hu4
          have hown4H := Lib.hid hown4
          clear hown4
          have hb4H := Lib.hid hb4
          clear hb4
          have hw4H := Lib.hid hw4
          clear hw4
          go_wp2_with (at_builtin; refine wpList_app rfl (.tmp 41) (.tmp 43) 49 rfl Tryz.underlying49 elem_StrT (by decide) rfl hown4H.out uA uN uC us rfl hu4H.out hnnH.out (fun _ _ _ _ h => h) ?c1 ?c2 hs34 (uN + 6) ?c4 ?_)
          case c1 => have := hunH.out; simp [maxLen]; omega
          case c2 => have := hunH.out; simp; omega
          case c4 => simp; omega
          intro A5 cap5 w5 hown5 hg5 hat5 hb5
          have hb5a := hb4H.out.trans (hb5.mono hsa3)
          have hs35 : w3.heap.size ≤ w5.heap.size := Nat.le_trans hs34 hb5.size
          clear hg5 hat5 hb5 hc5 hs34
          have hown5H := Lib.hid hown5
          clear hown5
          have hb5aH := Lib.hid hb5a
          clear hb5a
          go_wp2_with (at_builtin; refine wpList_app rfl (.tmp 44) (.tmp 46) 49 rfl Tryz.underlying49 elem_StrT (by decide) rfl (hown5H.out.alloc _) (some ⟨w5.heap.size, 0, none⟩) 1 1 [sign] rfl ?d1 ?d2 (fun _ _ _ _ h => h) ?d3 ?d4 ?d5 (uN + 7) ?d6 ?_)
          case d1 => exact slAt_new w5 9 (R := RStr) sign hsgH.out
          case d2 => intro h; cases h
          case d3 => have := hunH.out; simp [maxLen]; have := hulH.out; omega
          case d4 => have := hunH.out; simp; have := hulH.out; omega
          case d5 => simp; omega
          case d6 => have := hulH.out; simp; omega
          intro A6 cap6 w6 hown6 hg6 hat6 hb6
          have hb6a := (hb5aH.out.alloc hb5aH.out.size (.cells #[.string sign] 9)).trans (hb6.mono hsa3)
          clear hg6 hat6 hb6
          have hown6H := Lib.hid hown6
          clear hown6
          have hb6aH := Lib.hid hb6a
          clear hb6a
          go_wp2_with fail
          refine (joinJ_own _ ([key, label, result, writer, i1, i2] ++ us ++ [sign]) _ w3.heap.size hown6H.out (by simp) (by have := hunH.out; have := hulH.out; simp; omega) hszH.out).mono ?_
          rw [← hjnH.out]
          rintro e w7 ⟨rfl, hb7⟩
          have hb7a := hb6aH.out.trans (hb7.mono hb6aH.out.size)
          clear hb7
          have hb7aH := Lib.hid hb7a
          clear hb7a
          go_wp2_with fail
          refine (bld_write w1.heap.size w1.heap.size (textT (l.take k)) t1 _ (hbldaH.out.below hb7aH.out) (by rw [z1H.out]; have := hjzH.out; have := htsH.out; omega) (by have := halH.out.size; have := hb7aH.out.size; omega)).mono ?_
          rintro e w8 ⟨rfl, hbld8, hb8, hoth⟩
          have R : TxRel l w1 (.int .i64 (k + 1)) w8 := ⟨k + 1, hklH.out, by go_num, by rw [hstH.out]; exact hbld8, (halH.out.trans (hb7aH.out.mono halH.out.size)).trans hb8⟩
          clear hbld8 hb8 hoth
          have RH := Lib.hid R
          clear R
          go_wp2
          refine ⟨?rel, ?measure⟩
          case measure => (simp [intOf]; omega)
          case rel => first | exact RH.out | exact ⟨rfl, RH.out⟩ | ((try refine ⟨rfl, ?_⟩); (repeat apply Exists.intro); refine ⟨RH.out, ?_⟩; ((repeat' apply And.intro) <;> rfl))
      · obtain rfl : k = n := by omega
        have e : l.take k = l := List.take_of_length_le (by have := hllH.out; omega)
        rw [e] at hbld hts
        have hbr : Below w.heap.size w wr := hb1H.out.trans (hb.mono hb1H.out.size)
        have hF := hFH.out
        clear hFH
        have hbH := Lib.hid hb
        clear hb
        have hbrH := Lib.hid hbr
        clear hbr
        have hbldH := Lib.hid hbld
        clear hbld
        have eH := Lib.hid e
        clear e
        go_wp2_with fail
        refine (bld_len w1.heap.size w1.heap.size (textT l) _ hbldH.out).mono ?_
        rintro e w5 ⟨rfl, rfl⟩
        by_cases h9 : (textT l).length ≤ 2000000
        · obtain ⟨rfl, rfl⟩ : bsL (textT l) = t ∧ 0 = cc := by rw [if_pos h9] at hF; exact Prod.mk.inj hF
          have h9n : ¬ (2000000 : Int) < ((textT l).length : Int) := by omega
          obtain ⟨L, hL⟩ : ∃ L, textT l = L := ⟨_, rfl⟩
          rw [hL] at hbldH h9n ⊢
          clear hF hts
          go_wp2_with fail
          refine (bld_str w1.heap.size w1.heap.size L _ hbldH.out hbH.out.size).mono ?_
          rintro e w6 ⟨rfl, hb6⟩
          have hb7 := hb1H.out.trans ((hbH.out.trans hb6).mono hb1H.out.size)
          clear hb6
          have hb7H := Lib.hid hb7
          clear hb7
          go_wp2
          go_ret2
          exact ⟨by rw [hL]; rfl, hb7H.out⟩
        · obtain ⟨rfl, rfl⟩ : ⟨#[]⟩ = t ∧ 2 = cc := by rw [if_neg h9] at hF; exact Prod.mk.inj hF
          have h9n : (2000000 : Int) < ((textT l).length : Int) := by omega
          obtain ⟨L, hL⟩ : ∃ L, (textT l).length = L := ⟨_, rfl⟩
          rw [hL] at h9n ⊢
          clear hF hts
          go_wp2
          go_ret2
          exact ⟨rfl, hbrH.out⟩
  · obtain ⟨rfl, rfl⟩ : ⟨#[]⟩ = t ∧ h = cc := by rw [if_neg e0] at hF; exact Prod.mk.inj hF
    have e1 : (h != 0) = true := by simpa using e0
    clear e0 hF
    go_wp2
    go_ret2
    exact ⟨rfl, hb1H.out⟩
end Go.Proofs.YtgegdfmdcmgliaaGreatDoor.C11

namespace Go.Proofs.YtgegdfmdcmgliaaGreatDoor.C11
open Go.ChangeShapes Go.WideShapes Go.Deep Go.RowKit
set_option linter.unusedVariables false

theorem bsL_snoc (a b : List UInt8) (t : ByteArray) (h : t.data.toList = b) : bsL (a ++ b) = bsL a ++ t := by
  subst h
  apply ByteArray.ext
  simp [bsL]
def RTxRel (l : List Claimed) (w1 : World) (v i : Value) (wr : World) : Prop :=
  ∃ k : Nat, k ≤ l.length ∧ i = .int .i64 k ∧ v = .string (bsL (textT (l.take k))) ∧ Below w1.heap.size w1 wr
set_option maxRecDepth 100000 in
set_option maxHeartbeats 8000000 in
theorem rline_any (r : Claimed) (w : World) (ht : PowJ w) (hok : RClaimed.ok w r) (hrg : ClGood r) (t1 : ByteArray) (ht1 : t1 = bsL (lineL (wordsT r))) :
    Calls Tryz.prog 45 #[.agg #[.string r.key, .string r.label, .string r.result, .string r.writer, .int .i64 r.at_, .slice r.uses.A r.uses.n r.uses.cap, .string r.sign]] w fun e w' => e = .returned (.string t1) ∧ Below w.heap.size w w' := by
  obtain ⟨tq, hq⟩ : ∃ z, t1 = z := ⟨_, rfl⟩
  rw [hq] at ht1 ⊢
  clear hq t1
  obtain ⟨jn, hjn⟩ : ∃ z : ByteArray, z = ⟨(Lib.join ((wordsT r).map (·.data.toList)) [32]).toArray⟩ := ⟨_, rfl⟩
  have hjz : jn.size + 1 ≤ 23100 := by
    have := lineT_size hrg
    unfold lineL at this
    rw [List.length_append, List.length_singleton] at this
    rw [hjn]
    show (Lib.join ((wordsT r).map (·.data.toList)) [32]).toArray.size + 1 ≤ 23100
    rw [List.size_toArray]; exact this
  obtain ⟨t1, et1⟩ : ∃ z, jn ++ ⟨#[10]⟩ = z := ⟨_, rfl⟩
  have z1 : t1.size = jn.size + 1 := by rw [← et1, ByteArray.size_append]; rfl
  have e1 : ∀ w : World, (Op.stringOp .add jn ⟨#[10]⟩).run Tryz.prog w = .ok (.string t1) w := fun w => by rw [← et1]; exact run_string_add_sum w _ _ (by show jn.size + 1 ≤ _; omega)
  have hd1 : t1.data.toList = lineL (wordsT r) := by rw [← et1, hjn]; simp [lineL]
  have htq : tq = t1 := by
    rw [ht1]
    apply bytes_ext
    rw [hd1]; rfl
  subst htq
  clear ht1
  obtain ⟨wa, hwa⟩ : ∃ W, W = w.alloc (.cells (RClaimed.vals r).toArray 51) := ⟨_, rfl⟩
  have hwz := fun y hy => (words_rows hrg y hy).2
  have hun := hrg.uses
  have hsr := signW_row hrg.sign
  have hI1 : I64 r.at_ := ⟨by have := hrg.at_; omega, by have := hrg.at_; omega⟩
  have hI2 : I64 (r.uses.l.length : Int) := ⟨by omega, by omega⟩
  obtain ⟨key, label, result, writer, at_, ⟨uA, uN, uC, us⟩, sign⟩ := r
  rw [wordsT_app] at hjn hwz
  simp only at hI1 hI2 hun hsr hok
  have hu := hok.2.2.2.2.2.1
  have hul : us.length = uN := hu.1.1
  have hnn : uN = 0 → uA = none → uC = 0 := fun _ h => hu.2.2.2 h
  rw [hul] at hun hI2 hjn hwz
  obtain ⟨i1, hi1⟩ : ∃ z, itoJ at_ = z := ⟨_, rfl⟩
  obtain ⟨i2, hi2⟩ : ∃ z, itoJ (uN : Int) = z := ⟨_, rfl⟩
  have hJ1 := fun (W : World) (h : PowJ W) => itoJ_any at_ hI1 W h
  have hJ2 := fun (W : World) (h : PowJ W) => itoJ_any (uN : Int) hI2 W h
  rw [hi1] at hJ1 hjn hwz
  rw [hi2] at hJ2 hjn hwz
  have hz6 : ∀ y ∈ [key, label, result, writer, i1, i2], y.size ≤ maxLen := fun y hy => by have := hwz y (List.mem_append_left _ (List.mem_append_left _ hy)); unfold maxLen; omega
  obtain ⟨sg, hsgd⟩ : ∃ z, signW sign = z := ⟨_, rfl⟩
  rw [hsgd] at hjn hwz hsr
  have hsg : RStr.ok wa sg := by show sg.size ≤ maxLen; have := hsr.2.1; unfold maxLen; omega
  have hsz := hwz
  simp only [RClaimed] at hwa
  obtain ⟨x0, x1, x2, x3, x4, x5, x6⟩ := newT7 w (.string key) (.string label) (.string result) (.string writer) (.int .i64 at_) (.slice uA uN uC) (.string sign) 51
  have hal := allocBel w (.cells #[.string key, .string label, .string result, .string writer, .int .i64 at_, .slice uA uN uC, .string sign] 51)
  have hpa := ht.below hal
  have hua := hu.1.below hal
  rw [← hwa] at x0 x1 x2 x3 x4 x5 x6 hal hpa hua
  clear hi1 hi2 hd1 et1 hI1 hI2 hrg hok hu hwz hsr
  have htH := Lib.hid ht
  clear ht
  have hjnH := Lib.hid hjn
  clear hjn
  have hjzH := Lib.hid hjz
  clear hjz
  have z1H := Lib.hid z1
  clear z1
  have hJ1H := Lib.hid hJ1
  clear hJ1
  have hJ2H := Lib.hid hJ2
  clear hJ2
  have hz6H := Lib.hid hz6
  clear hz6
  have halH := Lib.hid hal
  clear hal
  have hpaH := Lib.hid hpa
  clear hpa
  have huaH := Lib.hid hua
  clear hua
  have hwaH := Lib.hid hwa
  clear hwa
  have hulH := Lib.hid hul
  clear hul
  have hnnH := Lib.hid hnn
  clear hnn
  have hsgH := Lib.hid hsg
  clear hsg
  have hszH := Lib.hid hsz
  clear hsz
  have hunH := Lib.hid hun
  clear hun
  by_cases hs0 : sign.toList = []
  · have hs1 : (sign.toList == ([] : List UInt8)) = true := by simpa using hs0
    obtain rfl : DASH = sg := by rw [← hsgd]; unfold signW; rw [if_pos hs1]
    clear hsgd
    unfold DASH at hsgH hszH hjnH
    go_enter Tryz.func45, Tryz.ntmps45
    go_wp2_with fail
    rw [← hwaH.out]
    refine wp_region_held_drew (S := (fun w' => w'.cell? ⟨w.heap.size, 0, none⟩ = some (.string key) ∧ w'.cell? ⟨w.heap.size, 1, none⟩ = some (.string label) ∧ w'.cell? ⟨w.heap.size, 2, none⟩ = some (.string result) ∧ w'.cell? ⟨w.heap.size, 3, none⟩ = some (.string writer) ∧ w'.cell? ⟨w.heap.size, 4, none⟩ = some (.int .i64 at_) ∧ w'.cell? ⟨w.heap.size, 5, none⟩ = some (.slice uA uN uC) ∧ w'.cell? ⟨w.heap.size, 6, none⟩ = some (.string sign))) (by kernel_rfl) ⟨x0, x1, x2, x3, x4, x5, x6⟩ (fun hHeld => ?_)
    clear x0 x1 x2 x3 x4 x5 x6
    refine takeH (i := 0) (d := some 9) (v := ?_) rfl rfl (by kernel_rfl) (by kernel_rfl) (by kernel_rfl) (fun _ _ _ h => h) (Or.inl ⟨by rfl, ?_⟩) (by assumption) ?_
    rotate_left
    · (intro w hSw; (try dsimp only at hSw); go_simp; (try with_reducible rfl))
    (try simp only [Act.put, List.setIfInBounds_toArray, List.set_cons_zero, List.set_cons_succ])
    refine takeH (i := 1) (d := some 10) (v := ?_) rfl rfl (by kernel_rfl) (by kernel_rfl) (by kernel_rfl) (fun _ _ _ h => h) (Or.inl ⟨by rfl, ?_⟩) (by assumption) ?_
    rotate_left
    · (intro w hSw; (try dsimp only at hSw); go_simp; (try with_reducible rfl))
    (try simp only [Act.put, List.setIfInBounds_toArray, List.set_cons_zero, List.set_cons_succ])
    refine takeH (i := 2) (d := some 11) (v := ?_) rfl rfl (by kernel_rfl) (by kernel_rfl) (by kernel_rfl) (fun _ _ _ h => h) (Or.inl ⟨by rfl, ?_⟩) (by assumption) ?_
    rotate_left
    · (intro w hSw; (try dsimp only at hSw); go_simp; (try with_reducible rfl))
    (try simp only [Act.put, List.setIfInBounds_toArray, List.set_cons_zero, List.set_cons_succ])
    refine takeH (i := 3) (d := some 12) (v := ?_) rfl rfl (by kernel_rfl) (by kernel_rfl) (by kernel_rfl) (fun _ _ _ h => h) (Or.inl ⟨by rfl, ?_⟩) (by assumption) ?_
    rotate_left
    · (intro w hSw; (try dsimp only at hSw); go_simp; (try with_reducible rfl))
    (try simp only [Act.put, List.setIfInBounds_toArray, List.set_cons_zero, List.set_cons_succ])
    refine takeH (i := 4) (d := some 13) (v := ?_) rfl rfl (by kernel_rfl) (by kernel_rfl) (by kernel_rfl) (fun _ _ _ h => h) (Or.inl ⟨by rfl, ?_⟩) (by assumption) ?_
    rotate_left
    · (intro w hSw; (try dsimp only at hSw); go_simp; (try with_reducible rfl))
    (try simp only [Act.put, List.setIfInBounds_toArray, List.set_cons_zero, List.set_cons_succ])
    refine takeH (i := 5) (d := some 14) (v := ?_) rfl rfl (by kernel_rfl) (by kernel_rfl) (by kernel_rfl) (fun _ _ _ h => h) (Or.inl ⟨by rfl, ?_⟩) (by assumption) ?_
    rotate_left
    · (intro w hSw; (try dsimp only at hSw); go_simp; (try with_reducible rfl))
    (try simp only [Act.put, List.setIfInBounds_toArray, List.set_cons_zero, List.set_cons_succ])
    refine takeH (i := 6) (d := some 15) (v := ?_) rfl rfl (by kernel_rfl) (by kernel_rfl) (by kernel_rfl) (fun _ _ _ h => h) (Or.inl ⟨by rfl, ?_⟩) (by assumption) ?_
    rotate_left
    · (intro w hSw; (try dsimp only at hSw); go_simp; (try with_reducible rfl))
    (try simp only [Act.put, List.setIfInBounds_toArray, List.set_cons_zero, List.set_cons_succ])
    refine takeH (i := 7) (d := some 16) (v := ?_) rfl rfl (by kernel_rfl) (by kernel_rfl) (by kernel_rfl) (fun _ _ _ h => h) (Or.inl ⟨by rfl, ?_⟩) (by assumption) ?_
    rotate_left
    · (intro w hSw; (try dsimp only at hSw); go_simp; (try with_reducible rfl))
    (try simp only [Act.put, List.setIfInBounds_toArray, List.set_cons_zero, List.set_cons_succ])
    refine takeH (i := 8) (d := some 17) (v := ?_) rfl rfl (by kernel_rfl) (by kernel_rfl) (by kernel_rfl) (fun _ _ _ h => h) (Or.inl ⟨by rfl, ?_⟩) (by assumption) ?_
    rotate_left
    · (intro w hSw; (try dsimp only at hSw); go_simp; (try with_reducible rfl))
    (try simp only [Act.put, List.setIfInBounds_toArray, List.set_cons_zero, List.set_cons_succ])
    refine takeH (i := 9) (d := some 18) (v := ?_) rfl rfl (by kernel_rfl) (by kernel_rfl) (by kernel_rfl) (fun _ _ _ h => h) (Or.inl ⟨by rfl, ?_⟩) (by assumption) ?_
    rotate_left
    · (intro w hSw; (try dsimp only at hSw); go_simp; (try with_reducible rfl))
    (try simp only [Act.put, List.setIfInBounds_toArray, List.set_cons_zero, List.set_cons_succ])
    refine takeH (i := 11) (d := some 20) (v := ?_) rfl rfl (by kernel_rfl) (by kernel_rfl) (by kernel_rfl) (fun _ _ _ h => h) (Or.inl ⟨by rfl, ?_⟩) (by assumption) ?_
    rotate_left
    · (intro w hSw; (try dsimp only at hSw); go_simp; (try with_reducible rfl))
    (try simp only [Act.put, List.setIfInBounds_toArray, List.set_cons_zero, List.set_cons_succ])
    refine takeH (i := 12) (d := some 21) (v := ?_) rfl rfl (by kernel_rfl) (by kernel_rfl) (by kernel_rfl) (fun _ _ _ h => h) (Or.inl ⟨by rfl, ?_⟩) (by assumption) ?_
    rotate_left
    · (intro w hSw; (try dsimp only at hSw); go_simp; (try with_reducible rfl))
    (try simp only [Act.put, List.setIfInBounds_toArray, List.set_cons_zero, List.set_cons_succ])
    refine takeH (i := 13) (d := some 22) (v := ?_) rfl rfl (by kernel_rfl) (by kernel_rfl) (by kernel_rfl) (fun _ _ _ h => h) (Or.inl ⟨by rfl, ?_⟩) (by assumption) ?_
    rotate_left
    · (intro w hSw; (try dsimp only at hSw); go_simp; (try with_reducible rfl))
    (try simp only [Act.put, List.setIfInBounds_toArray, List.set_cons_zero, List.set_cons_succ])
    refine wpAnyH_ready (rs := [10]) (by kernel_rfl) (by simp) ?_
    refine AllReadyH.cons (i := 10) rfl (fun K hK => ?_) AllReadyH.nil
    go_simp
    go_at_call 40
    refine (hJ1H.out _ (hpaH.out.below (by first | exact Below.refl _ _ | exact (Below.refl _ _).drew))).mono ?_
    rintro e w2 ⟨rfl, hb2⟩
    have hb2a : Below wa.heap.size wa w2 := by first | exact hb2 | exact (Below.refl _ _).drew.trans hb2
    replace hHeld := keepT7 hb2 hHeld
    clear hb2
    refine hK.out _ _ hHeld (fun hHeld => ?_)
    clear hK K
    (try simp only [Act.put, List.setIfInBounds_toArray, List.set_cons_zero, List.set_cons_succ])
    refine wpAnyH_ready (rs := [14]) (by kernel_rfl) (by simp) ?_
    refine AllReadyH.cons (i := 14) rfl (fun K hK => ?_) AllReadyH.nil
    go_simp
    go_at_call 40
    refine (hJ2H.out _ (hpaH.out.below hb2a)).mono ?_
    rintro e w3 ⟨rfl, hb3⟩
    replace hHeld := keepT7 hb3 hHeld
    have hb3a := hb2a.trans (hb3.mono hb2a.size)
    clear hb2a hb3
    refine hK.out _ _ hHeld (fun hHeld => ?_)
    clear hK K
    (try simp only [Act.put, List.setIfInBounds_toArray, List.set_cons_zero, List.set_cons_succ])
    refine wpAnyH_ready (rs := [15]) (by kernel_rfl) (by simp) ?_
    refine AllReadyH.cons (i := 15) rfl (fun K hK => ?_) AllReadyH.nil
    go_simp
    replace hHeld := keepT7 (allocBel w3 (.cells #[.string key, .string label, .string result, .string writer, .string i1, .string i2] 9)) hHeld
    have hh4 := hHeld
    have hown4 := ownT_six w3 key label result writer i1 i2 hz6H.out
    have hs3 := hb3a.size
    have hb4 := hb3a.alloc hb3a.size (.cells #[.string key, .string label, .string result, .string writer, .string i1, .string i2] 9)
    have hown4H := Lib.hid hown4
    clear hown4
    have hb4H := Lib.hid hb4
    clear hb4
    have hh4H := Lib.hid hh4
    clear hh4
    have hs3H := Lib.hid hs3
    clear hs3
    clear hb3a
    refine hK.out _ _ hHeld (fun hHeld => ?_)
    clear hK K
    (try simp only [Act.put, List.setIfInBounds_toArray, List.set_cons_zero, List.set_cons_succ])
    refine takeH (i := 16) (d := some 4) (v := ?_) rfl rfl (by kernel_rfl) (by kernel_rfl) (by kernel_rfl) (fun _ _ _ h => h) (Or.inl ⟨by rfl, ?_⟩) (by assumption) ?_
    rotate_left
    · (intro w hSw; (try dsimp only at hSw); go_simp; (try with_reducible rfl))
    (try simp only [Act.put, List.setIfInBounds_toArray, List.set_cons_zero, List.set_cons_succ])
    refine wpAnyH_done (by kernel_rfl) ?_ _
    have hown4 := hown4H.out
    have hb4 := hb4H.out
    have hc5 := hh4H.out.2.2.2.2.2.1
    have hs34 : w3.heap.size ≤ (w3.alloc (.cells #[.string key, .string label, .string result, .string writer, .string i1, .string i2] 9)).heap.size := by simp
    have hsa3 : wa.heap.size ≤ w3.heap.size := hs3H.out
    clear hown4H hb4H hh4H hs3H
    obtain ⟨w4, hw4⟩ : ∃ W, W = w3.alloc (.cells #[.string key, .string label, .string result, .string writer, .string i1, .string i2] 9) := ⟨_, rfl⟩
    rw [← hw4] at hown4 hb4 hc5 hs34 ⊢
    have hu4 := huaH.out.below hb4
    have hu4H := Lib.hid hu4
    clear hu4
    have hown4H := Lib.hid hown4
    clear hown4
    have hb4H := Lib.hid hb4
    clear hb4
    have hw4H := Lib.hid hw4
    clear hw4
    go_wp2_with (at_builtin; refine wpList_app rfl (.tmp 25) (.tmp 27) 49 rfl Tryz.underlying49 elem_StrT (by decide) rfl hown4H.out uA uN uC us rfl hu4H.out hnnH.out (fun _ _ _ _ h => h) ?c1 ?c2 hs34 (uN + 6) ?c4 ?_)
    case c1 => have := hunH.out; simp [maxLen]; omega
    case c2 => have := hunH.out; simp; omega
    case c4 => simp; omega
    intro A5 cap5 w5 hown5 hg5 hat5 hb5
    have hb5a := hb4H.out.trans (hb5.mono hsa3)
    have hs35 : w3.heap.size ≤ w5.heap.size := Nat.le_trans hs34 hb5.size
    clear hg5 hat5 hb5 hc5 hs34
    have hown5H := Lib.hid hown5
    clear hown5
    have hb5aH := Lib.hid hb5a
    clear hb5a
    go_wp2_with (at_builtin; refine wpList_app rfl (.tmp 28) (.tmp 30) 49 rfl Tryz.underlying49 elem_StrT (by decide) rfl (hown5H.out.alloc _) (some ⟨w5.heap.size, 0, none⟩) 1 1 [⟨#[45]⟩] rfl ?d1 ?d2 (fun _ _ _ _ h => h) ?d3 ?d4 ?d5 (uN + 7) ?d6 ?_)
    case d1 => exact slAt_new w5 9 (R := RStr) ⟨#[45]⟩ hsgH.out
    case d2 => intro h; cases h
    case d3 => have := hunH.out; simp [maxLen]; have := hulH.out; omega
    case d4 => have := hunH.out; simp; have := hulH.out; omega
    case d5 => simp; omega
    case d6 => have := hulH.out; simp; omega
    intro A6 cap6 w6 hown6 hg6 hat6 hb6
    have hb6a := (hb5aH.out.alloc hb5aH.out.size (.cells #[.string ⟨#[45]⟩] 9)).trans (hb6.mono hsa3)
    clear hg6 hat6 hb6
    have hown6H := Lib.hid hown6
    clear hown6
    have hb6aH := Lib.hid hb6a
    clear hb6a
    go_wp2_with fail
    refine (joinJ_own _ ([key, label, result, writer, i1, i2] ++ us ++ [⟨#[45]⟩]) _ w3.heap.size hown6H.out (by simp) (by have := hunH.out; have := hulH.out; simp; omega) hszH.out).mono ?_
    rw [← hjnH.out]
    rintro e w7 ⟨rfl, hb7⟩
    have hb7a := hb6aH.out.trans (hb7.mono hb6aH.out.size)
    clear hb7
    have hb7aH := Lib.hid hb7a
    clear hb7a
    go_wp2
    go_ret
    exact ⟨rfl, halH.out.trans (hb7aH.out.mono halH.out.size)⟩
  · have hs1 : (sign.toList == ([] : List UInt8)) = false := by simpa using hs0
    obtain rfl : sign = sg := by rw [← hsgd]; unfold signW; rw [if_neg (by rw [hs1]; decide)]
    clear hsgd
    go_enter Tryz.func45, Tryz.ntmps45
    go_wp2_with fail
    rw [← hwaH.out]
    refine wp_region_held_drew (S := (fun w' => w'.cell? ⟨w.heap.size, 0, none⟩ = some (.string key) ∧ w'.cell? ⟨w.heap.size, 1, none⟩ = some (.string label) ∧ w'.cell? ⟨w.heap.size, 2, none⟩ = some (.string result) ∧ w'.cell? ⟨w.heap.size, 3, none⟩ = some (.string writer) ∧ w'.cell? ⟨w.heap.size, 4, none⟩ = some (.int .i64 at_) ∧ w'.cell? ⟨w.heap.size, 5, none⟩ = some (.slice uA uN uC) ∧ w'.cell? ⟨w.heap.size, 6, none⟩ = some (.string sign))) (by kernel_rfl) ⟨x0, x1, x2, x3, x4, x5, x6⟩ (fun hHeld => ?_)
    clear x0 x1 x2 x3 x4 x5 x6
    refine takeH (i := 0) (d := some 9) (v := ?_) rfl rfl (by kernel_rfl) (by kernel_rfl) (by kernel_rfl) (fun _ _ _ h => h) (Or.inl ⟨by rfl, ?_⟩) (by assumption) ?_
    rotate_left
    · (intro w hSw; (try dsimp only at hSw); go_simp; (try with_reducible rfl))
    (try simp only [Act.put, List.setIfInBounds_toArray, List.set_cons_zero, List.set_cons_succ])
    refine takeH (i := 1) (d := some 10) (v := ?_) rfl rfl (by kernel_rfl) (by kernel_rfl) (by kernel_rfl) (fun _ _ _ h => h) (Or.inl ⟨by rfl, ?_⟩) (by assumption) ?_
    rotate_left
    · (intro w hSw; (try dsimp only at hSw); go_simp; (try with_reducible rfl))
    (try simp only [Act.put, List.setIfInBounds_toArray, List.set_cons_zero, List.set_cons_succ])
    refine takeH (i := 2) (d := some 11) (v := ?_) rfl rfl (by kernel_rfl) (by kernel_rfl) (by kernel_rfl) (fun _ _ _ h => h) (Or.inl ⟨by rfl, ?_⟩) (by assumption) ?_
    rotate_left
    · (intro w hSw; (try dsimp only at hSw); go_simp; (try with_reducible rfl))
    (try simp only [Act.put, List.setIfInBounds_toArray, List.set_cons_zero, List.set_cons_succ])
    refine takeH (i := 3) (d := some 12) (v := ?_) rfl rfl (by kernel_rfl) (by kernel_rfl) (by kernel_rfl) (fun _ _ _ h => h) (Or.inl ⟨by rfl, ?_⟩) (by assumption) ?_
    rotate_left
    · (intro w hSw; (try dsimp only at hSw); go_simp; (try with_reducible rfl))
    (try simp only [Act.put, List.setIfInBounds_toArray, List.set_cons_zero, List.set_cons_succ])
    refine takeH (i := 4) (d := some 13) (v := ?_) rfl rfl (by kernel_rfl) (by kernel_rfl) (by kernel_rfl) (fun _ _ _ h => h) (Or.inl ⟨by rfl, ?_⟩) (by assumption) ?_
    rotate_left
    · (intro w hSw; (try dsimp only at hSw); go_simp; (try with_reducible rfl))
    (try simp only [Act.put, List.setIfInBounds_toArray, List.set_cons_zero, List.set_cons_succ])
    refine takeH (i := 5) (d := some 14) (v := ?_) rfl rfl (by kernel_rfl) (by kernel_rfl) (by kernel_rfl) (fun _ _ _ h => h) (Or.inl ⟨by rfl, ?_⟩) (by assumption) ?_
    rotate_left
    · (intro w hSw; (try dsimp only at hSw); go_simp; (try with_reducible rfl))
    (try simp only [Act.put, List.setIfInBounds_toArray, List.set_cons_zero, List.set_cons_succ])
    refine takeH (i := 6) (d := some 15) (v := ?_) rfl rfl (by kernel_rfl) (by kernel_rfl) (by kernel_rfl) (fun _ _ _ h => h) (Or.inl ⟨by rfl, ?_⟩) (by assumption) ?_
    rotate_left
    · (intro w hSw; (try dsimp only at hSw); go_simp; (try with_reducible rfl))
    (try simp only [Act.put, List.setIfInBounds_toArray, List.set_cons_zero, List.set_cons_succ])
    refine takeH (i := 7) (d := some 16) (v := ?_) rfl rfl (by kernel_rfl) (by kernel_rfl) (by kernel_rfl) (fun _ _ _ h => h) (Or.inl ⟨by rfl, ?_⟩) (by assumption) ?_
    rotate_left
    · (intro w hSw; (try dsimp only at hSw); go_simp; (try with_reducible rfl))
    (try simp only [Act.put, List.setIfInBounds_toArray, List.set_cons_zero, List.set_cons_succ])
    refine takeH (i := 8) (d := some 17) (v := ?_) rfl rfl (by kernel_rfl) (by kernel_rfl) (by kernel_rfl) (fun _ _ _ h => h) (Or.inl ⟨by rfl, ?_⟩) (by assumption) ?_
    rotate_left
    · (intro w hSw; (try dsimp only at hSw); go_simp; (try with_reducible rfl))
    (try simp only [Act.put, List.setIfInBounds_toArray, List.set_cons_zero, List.set_cons_succ])
    refine takeH (i := 9) (d := some 18) (v := ?_) rfl rfl (by kernel_rfl) (by kernel_rfl) (by kernel_rfl) (fun _ _ _ h => h) (Or.inl ⟨by rfl, ?_⟩) (by assumption) ?_
    rotate_left
    · (intro w hSw; (try dsimp only at hSw); go_simp; (try with_reducible rfl))
    (try simp only [Act.put, List.setIfInBounds_toArray, List.set_cons_zero, List.set_cons_succ])
    refine takeH (i := 11) (d := some 20) (v := ?_) rfl rfl (by kernel_rfl) (by kernel_rfl) (by kernel_rfl) (fun _ _ _ h => h) (Or.inl ⟨by rfl, ?_⟩) (by assumption) ?_
    rotate_left
    · (intro w hSw; (try dsimp only at hSw); go_simp; (try with_reducible rfl))
    (try simp only [Act.put, List.setIfInBounds_toArray, List.set_cons_zero, List.set_cons_succ])
    refine takeH (i := 12) (d := some 21) (v := ?_) rfl rfl (by kernel_rfl) (by kernel_rfl) (by kernel_rfl) (fun _ _ _ h => h) (Or.inl ⟨by rfl, ?_⟩) (by assumption) ?_
    rotate_left
    · (intro w hSw; (try dsimp only at hSw); go_simp; (try with_reducible rfl))
    (try simp only [Act.put, List.setIfInBounds_toArray, List.set_cons_zero, List.set_cons_succ])
    refine takeH (i := 13) (d := some 22) (v := ?_) rfl rfl (by kernel_rfl) (by kernel_rfl) (by kernel_rfl) (fun _ _ _ h => h) (Or.inl ⟨by rfl, ?_⟩) (by assumption) ?_
    rotate_left
    · (intro w hSw; (try dsimp only at hSw); go_simp; (try with_reducible rfl))
    (try simp only [Act.put, List.setIfInBounds_toArray, List.set_cons_zero, List.set_cons_succ])
    refine wpAnyH_ready (rs := [10]) (by kernel_rfl) (by simp) ?_
    refine AllReadyH.cons (i := 10) rfl (fun K hK => ?_) AllReadyH.nil
    go_simp
    go_at_call 40
    refine (hJ1H.out _ (hpaH.out.below (by first | exact Below.refl _ _ | exact (Below.refl _ _).drew))).mono ?_
    rintro e w2 ⟨rfl, hb2⟩
    have hb2a : Below wa.heap.size wa w2 := by first | exact hb2 | exact (Below.refl _ _).drew.trans hb2
    replace hHeld := keepT7 hb2 hHeld
    clear hb2
    refine hK.out _ _ hHeld (fun hHeld => ?_)
    clear hK K
    (try simp only [Act.put, List.setIfInBounds_toArray, List.set_cons_zero, List.set_cons_succ])
    refine wpAnyH_ready (rs := [14]) (by kernel_rfl) (by simp) ?_
    refine AllReadyH.cons (i := 14) rfl (fun K hK => ?_) AllReadyH.nil
    go_simp
    go_at_call 40
    refine (hJ2H.out _ (hpaH.out.below hb2a)).mono ?_
    rintro e w3 ⟨rfl, hb3⟩
    replace hHeld := keepT7 hb3 hHeld
    have hb3a := hb2a.trans (hb3.mono hb2a.size)
    clear hb2a hb3
    refine hK.out _ _ hHeld (fun hHeld => ?_)
    clear hK K
    (try simp only [Act.put, List.setIfInBounds_toArray, List.set_cons_zero, List.set_cons_succ])
    refine wpAnyH_ready (rs := [15]) (by kernel_rfl) (by simp) ?_
    refine AllReadyH.cons (i := 15) rfl (fun K hK => ?_) AllReadyH.nil
    go_simp
    replace hHeld := keepT7 (allocBel w3 (.cells #[.string key, .string label, .string result, .string writer, .string i1, .string i2] 9)) hHeld
    have hh4 := hHeld
    have hown4 := ownT_six w3 key label result writer i1 i2 hz6H.out
    have hs3 := hb3a.size
    have hb4 := hb3a.alloc hb3a.size (.cells #[.string key, .string label, .string result, .string writer, .string i1, .string i2] 9)
    have hown4H := Lib.hid hown4
    clear hown4
    have hb4H := Lib.hid hb4
    clear hb4
    have hh4H := Lib.hid hh4
    clear hh4
    have hs3H := Lib.hid hs3
    clear hs3
    clear hb3a
    refine hK.out _ _ hHeld (fun hHeld => ?_)
    clear hK K
    (try simp only [Act.put, List.setIfInBounds_toArray, List.set_cons_zero, List.set_cons_succ])
    refine takeH (i := 16) (d := some 4) (v := ?_) rfl rfl (by kernel_rfl) (by kernel_rfl) (by kernel_rfl) (fun _ _ _ h => h) (Or.inl ⟨by rfl, ?_⟩) (by assumption) ?_
    rotate_left
    · (intro w hSw; (try dsimp only at hSw); go_simp; (try with_reducible rfl))
    (try simp only [Act.put, List.setIfInBounds_toArray, List.set_cons_zero, List.set_cons_succ])
    refine wpAnyH_done (by kernel_rfl) ?_ _
    have hown4 := hown4H.out
    have hb4 := hb4H.out
    have hc5 := hh4H.out.2.2.2.2.2.1
    have hs34 : w3.heap.size ≤ (w3.alloc (.cells #[.string key, .string label, .string result, .string writer, .string i1, .string i2] 9)).heap.size := by simp
    have hsa3 : wa.heap.size ≤ w3.heap.size := hs3H.out
    clear hown4H hb4H hh4H hs3H
    obtain ⟨w4, hw4⟩ : ∃ W, W = w3.alloc (.cells #[.string key, .string label, .string result, .string writer, .string i1, .string i2] 9) := ⟨_, rfl⟩
    rw [← hw4] at hown4 hb4 hc5 hs34 ⊢
    have hu4 := huaH.out.below hb4
    have hu4H := Lib.hid hu4
    clear hu4
    have hown4H := Lib.hid hown4
    clear hown4
    have hb4H := Lib.hid hb4
    clear hb4
    have hw4H := Lib.hid hw4
    clear hw4
    go_wp2_with (at_builtin; refine wpList_app rfl (.tmp 25) (.tmp 27) 49 rfl Tryz.underlying49 elem_StrT (by decide) rfl hown4H.out uA uN uC us rfl hu4H.out hnnH.out (fun _ _ _ _ h => h) ?c1 ?c2 hs34 (uN + 6) ?c4 ?_)
    case c1 => have := hunH.out; simp [maxLen]; omega
    case c2 => have := hunH.out; simp; omega
    case c4 => simp; omega
    intro A5 cap5 w5 hown5 hg5 hat5 hb5
    have hb5a := hb4H.out.trans (hb5.mono hsa3)
    have hs35 : w3.heap.size ≤ w5.heap.size := Nat.le_trans hs34 hb5.size
    clear hg5 hat5 hb5 hc5 hs34
    have hown5H := Lib.hid hown5
    clear hown5
    have hb5aH := Lib.hid hb5a
    clear hb5a
    go_wp2_with (at_builtin; refine wpList_app rfl (.tmp 28) (.tmp 30) 49 rfl Tryz.underlying49 elem_StrT (by decide) rfl (hown5H.out.alloc _) (some ⟨w5.heap.size, 0, none⟩) 1 1 [sign] rfl ?d1 ?d2 (fun _ _ _ _ h => h) ?d3 ?d4 ?d5 (uN + 7) ?d6 ?_)
    case d1 => exact slAt_new w5 9 (R := RStr) sign hsgH.out
    case d2 => intro h; cases h
    case d3 => have := hunH.out; simp [maxLen]; have := hulH.out; omega
    case d4 => have := hunH.out; simp; have := hulH.out; omega
    case d5 => simp; omega
    case d6 => have := hulH.out; simp; omega
    intro A6 cap6 w6 hown6 hg6 hat6 hb6
    have hb6a := (hb5aH.out.alloc hb5aH.out.size (.cells #[.string sign] 9)).trans (hb6.mono hsa3)
    clear hg6 hat6 hb6
    have hown6H := Lib.hid hown6
    clear hown6
    have hb6aH := Lib.hid hb6a
    clear hb6a
    go_wp2_with fail
    refine (joinJ_own _ ([key, label, result, writer, i1, i2] ++ us ++ [sign]) _ w3.heap.size hown6H.out (by simp) (by have := hunH.out; have := hulH.out; simp; omega) hszH.out).mono ?_
    rw [← hjnH.out]
    rintro e w7 ⟨rfl, hb7⟩
    have hb7a := hb6aH.out.trans (hb7.mono hb6aH.out.size)
    clear hb7
    have hb7aH := Lib.hid hb7a
    clear hb7a
    go_wp2
    go_ret
    exact ⟨rfl, halH.out.trans (hb7aH.out.mono halH.out.size)⟩
set_option maxRecDepth 100000 in
set_option maxHeartbeats 8000000 in
theorem rtext_any (A : Option Addr) (n c : Nat) (l : List Claimed) (w : World) (hm : MaxLenAt w) (ht : PowJ w) (hlb : LblBig l) (hl : SlAt RClaimed w A n l) (t : ByteArray) (cc : Int) (hF : textR l = (t, cc)) :
    Calls Tryz.prog 19 #[.slice A n c] w fun e w' => e = .returned (.tuple #[.string t, .int .i64 cc]) ∧ Below w.heap.size w w' := by
  unfold textR at hF
  obtain ⟨h, hh⟩ : ∃ h, eachF l = h := ⟨_, rfl⟩
  rw [hh] at hF
  have hmH := Lib.hid hm
  clear hm
  have htH := Lib.hid ht
  clear ht
  have hlH := Lib.hid hl
  clear hl
  have hhH := Lib.hid hh
  clear hh
  have hlbH := Lib.hid hlb
  clear hlb
  go_enter Tryz.func19, Tryz.ntmps19
  go_wp2_with fail
  refine (reach_any A n c l _ hmH.out hlbH.out hlH.out h hhH.out).mono ?_
  rintro e w1 ⟨rfl, hb1⟩
  have hb1H := Lib.hid hb1
  clear hb1
  by_cases e0 : h = 0
  · subst e0
    rw [if_pos rfl] at hF
    have hg := each_good hhH.out
    have hll := hlH.out.1
    have hln : l.length ≤ 1000 := (eachF_zero hhH.out).1
    have hgH := Lib.hid hg
    clear hg
    have hllH := Lib.hid hll
    clear hll
    have hFH := Lib.hid hF
    clear hF
    go_wp2_with fail
    go_loopw [5, 15] (fun v i wr => RTxRel l w1 v i wr) (fun _ i _ => n - (intOf i).toNat)
    case atStart => exact ⟨0, Nat.zero_le _, rfl, rfl, Below.refl _ _⟩
    case round =>
      obtain ⟨k, hk, rfl, rfl, hb⟩ := hrel
      have hkn : k ≤ n := by have := hllH.out; omega
      have hts := textT_size (l.take k) (fun r hr => hgH.out r (List.mem_of_mem_take hr))
      rw [List.length_take] at hts
      by_cases hlt : k < n
      · obtain ⟨b, off, hA, _⟩ := hlH.out.2.1 (by omega)
        subst hA
        obtain ⟨r, hr⟩ : ∃ r, l[k]? = some r := ⟨l[k]'(by have := hllH.out; omega), List.getElem?_eq_getElem _⟩
        have hbr : Below w.heap.size w wr := hb1H.out.trans (hb.mono hb1H.out.size)
        obtain ⟨c0, c1, c2, c3, c4, c5, c6⟩ := cells_Claimed (hlH.out.below hbr) hr
        have hok := (hlH.out.below hbr).2.2 r (List.mem_of_getElem? hr)
        have hrg := hgH.out r (List.mem_of_getElem? hr)
        have hst := textT_step hr
        have hlz := lineT_size hrg
        obtain ⟨t1, ht1⟩ : ∃ z, z = bsL (lineL (wordsT r)) := ⟨_, rfl⟩
        have hd1 : t1.data.toList = lineL (wordsT r) := by rw [ht1]; rfl
        have z1 : t1.size = (lineL (wordsT r)).length := by rw [ht1, bsL_size]
        obtain ⟨pre, hpre⟩ : ∃ z, bsL (textT (l.take k)) = z := ⟨_, rfl⟩
        have hpz : pre.size = (textT (l.take k)).length := by rw [← hpre, bsL_size]
        obtain ⟨t2, et2⟩ : ∃ z, pre ++ t1 = z := ⟨_, rfl⟩
        have e2 : ∀ w : World, (Op.stringOp .add pre t1).run Tryz.prog w = .ok (.string t2) w := fun w => by rw [← et2]; exact run_string_add_sum w _ _ (by omega)
        have hst2 : bsL (textT (l.take (k + 1))) = t2 := by rw [hst, bsL_snoc _ _ _ hd1, hpre, et2]
        rw [hpre]
        clear hst et2 hpz hd1 z1 hlz
        have hkl : k + 1 ≤ l.length := by have := hllH.out; omega
        have hal := hb.alloc hb.size (.cells (RClaimed.vals r).toArray 51)
        have hal2 := allocBel wr (.cells (RClaimed.vals r).toArray 51)
        have hcall := rline_any r _ ((htH.out.below hbr).below hal2) (RClaimed.mono _ _ _ hal2 hok) hrg t1 ht1
        clear hok hrg ht1
        obtain ⟨key, label, result, writer, at_, ⟨uA, uN, uC, us⟩, sign⟩ := r
        simp only [RClaimed] at hal hal2 hcall
        simp only at c0 c1 c2 c3 c4 c5 c6
        have hrH := Lib.hid hr
        clear hr
        have hbH := Lib.hid hb
        clear hb
        have hbrH := Lib.hid hbr
        clear hbr
        have hst2H := Lib.hid hst2
        clear hst2
        have halH := Lib.hid hal
        clear hal
        have hal2H := Lib.hid hal2
        clear hal2
        have hklH := Lib.hid hkl
        clear hkl
        have htsH := Lib.hid hts
        clear hts
        have hpreH := Lib.hid hpre
        clear hpre
        have hcallH := Lib.hid hcall
        clear hcall
        go_wp2_with fail
        refine hcallH.out.mono ?_
        rintro e w2 ⟨rfl, hb2⟩
        have R : RTxRel l w1 (.string t2) (.int .i64 (k + 1)) w2 := ⟨k + 1, hklH.out, by go_num, by rw [hst2H.out], halH.out.trans (hb2.mono halH.out.size)⟩
        clear hb2
        have RH := Lib.hid R
        clear R
        go_wp2
        refine ⟨?rel, ?measure⟩
        case measure => (simp [intOf]; omega)
        case rel => first | exact RH.out | exact ⟨rfl, RH.out⟩ | ((try refine ⟨rfl, ?_⟩); (repeat apply Exists.intro); refine ⟨RH.out, ?_⟩; ((repeat' apply And.intro) <;> rfl))
      · obtain rfl : k = n := by omega
        have e : l.take k = l := List.take_of_length_le (by have := hllH.out; omega)
        rw [e] at hts ⊢
        have hbr : Below w.heap.size w wr := hb1H.out.trans (hb.mono hb1H.out.size)
        have hF := hFH.out
        clear hFH
        have hbz := bsL_size (textT l)
        have hbH := Lib.hid hb
        clear hb
        have hbrH := Lib.hid hbr
        clear hbr
        have eH := Lib.hid e
        clear e
        by_cases h9 : (textT l).length ≤ 2000000
        · obtain ⟨rfl, rfl⟩ : bsL (textT l) = t ∧ 0 = cc := by rw [if_pos h9] at hF; exact Prod.mk.inj hF
          have h9n : ¬ (2000000 : Int) < ((bsL (textT l)).size : Int) := by omega
          obtain ⟨L, hL⟩ : ∃ L, bsL (textT l) = L := ⟨_, rfl⟩
          rw [hL] at h9n ⊢
          clear hF hts hbz
          go_wp2
          go_ret2
          exact ⟨by first | rfl | rw [hL], hbrH.out⟩
        · obtain ⟨rfl, rfl⟩ : ⟨#[]⟩ = t ∧ 2 = cc := by rw [if_neg h9] at hF; exact Prod.mk.inj hF
          have h9n : (2000000 : Int) < ((bsL (textT l)).size : Int) := by omega
          obtain ⟨L, hL⟩ : ∃ L, bsL (textT l) = L := ⟨_, rfl⟩
          rw [hL] at h9n ⊢
          clear hF hts hbz
          go_wp2
          go_ret2
          exact ⟨rfl, hbrH.out⟩
  · obtain ⟨rfl, rfl⟩ : ⟨#[]⟩ = t ∧ h = cc := by rw [if_neg e0] at hF; exact Prod.mk.inj hF
    have e1 : (h != 0) = true := by simpa using e0
    clear e0 hF
    go_wp2
    go_ret2
    exact ⟨rfl, hb1H.out⟩
end Go.Proofs.YtgegdfmdcmgliaaGreatDoor.C11

namespace Go.Proofs.YtgegdfmdcmgliaaGreatDoor.C11
open Go.RowKit
set_option linter.unusedVariables false

theorem sumBulk_memQ {α : Type} (f : α → Nat) : ∀ (l : List α) (x : α), x ∈ l → f x ≤ sumBulk f l
  | [], x, h => by cases h
  | y :: r, x, h => by
    rcases List.mem_cons.1 h with rfl | h
    · simp [sumBulk]
    · have := sumBulk_memQ f r x h
      simp only [sumBulk]; omega
theorem lbl_of_bulkQ {l : SlD Claimed} (h : (RSl RClaimed).bulk l ≤ 1048576) : ∀ x ∈ l.l, x.label.size ≤ 1048576 := fun x hx => by
  have h1 := sumBulk_memQ RClaimed.bulk l.l x hx
  have h2 : sumBulk RClaimed.bulk l.l + 1 = (RSl RClaimed).bulk l := rfl
  have h3 : RStr.bulk x.label = x.label.size + 1 := rfl
  have h4 : RClaimed.bulk x = RStr.bulk x.key + RStr.bulk x.label + RStr.bulk x.result + RStr.bulk x.writer + RInt.bulk x.at_ + (RSl RStr).bulk x.uses + RStr.bulk x.sign := rfl
  omega
set_option maxRecDepth 100000 in
set_option maxHeartbeats 4000000 in
theorem law_texts (l : SlD Claimed) (w : World) (hl : (RSl RClaimed).ok w l) (hbk : (RSl RClaimed).bulk l ≤ 1048576) (hm : MaxLenAt w) (ht : PowJ w) :
    Calls Tryz.prog 6 #[.slice l.A l.n l.cap] w fun e w' => e = .returned (.bool true) ∧ Below w.heap.size w w' := by
  have hlb : LblBig l.l := fun x hx => by have := lbl_of_bulkQ hbk x hx; omega
  obtain ⟨A, n, cap, l⟩ := l
  obtain ⟨hl, hd1, hd2, hd3⟩ := hl
  simp only at hl hd1 hd2 hlb ⊢
  have hn9 : n ≤ 9223372036854775807 := by unfold maxLen at hd2; omega
  clear hd1 hd2 hd3 hbk
  obtain ⟨⟨t, cc⟩, hF⟩ : ∃ R, textR l = R := ⟨_, rfl⟩
  have htt : (t.toList == t.toList) = true := by simp
  have htt2 : (t.toList != t.toList) = false := by simp
  have hlH := Lib.hid hl
  clear hl
  have hmH := Lib.hid hm
  clear hm
  have htH := Lib.hid ht
  clear ht
  have hFH := Lib.hid hF
  clear hF
  have hlbH := Lib.hid hlb
  clear hlb
  go_enter Tryz.func6, Tryz.ntmps6
  go_wp2_with fail
  refine (text_any A n cap l _ hmH.out htH.out hlH.out t cc hFH.out).mono ?_
  rintro e w1 ⟨rfl, hb1⟩
  have hb1H := Lib.hid hb1
  clear hb1
  go_wp2_with fail
  refine (rtext_any A n cap l _ (hmH.out.below hb1H.out) (htH.out.below hb1H.out) hlbH.out (hlH.out.below hb1H.out) t cc hFH.out).mono ?_
  rintro e w2 ⟨rfl, hb2⟩
  have hb12 := hb1H.out.trans (hb2.mono hb1H.out.size)
  clear hb2
  have hb12H := Lib.hid hb12
  clear hb12
  go_wp2_with fail
  refine (awake_any _ (hmH.out.below hb12H.out)).mono ?_
  rintro e w3 ⟨rfl, hb3⟩
  have hb13 := hb12H.out.trans (hb3.mono hb12H.out.size)
  clear hb3
  have hb13H := Lib.hid hb13
  clear hb13
  by_cases e0 : cc = 0
  · subst e0
    obtain ⟨-, hz, hR⟩ := textR_ok hFH.out
    have hRH := Lib.hid hR
    clear hR
    have hzH := Lib.hid hz
    clear hz
    go_wp2_with fail
    have hz9 : t.size ≤ maxLen := by
      have := hzH.out
      unfold maxLen; omega
    obtain ⟨a, ha⟩ : ∃ a, readR t = a := ⟨_, rfl⟩
    have ea : a = (l.map cont, 0, 0) := by rw [← ha, hRH.out]
    refine (read_any t w3 (hmH.out.below hb13H.out) hz9 a ha).mono ?_
    rintro e w4 ⟨A4, n4, c4, L4, rfl, hs4, hc4, hb4⟩
    have ea1 : ((a.2.1 : Nat) : Int) = 0 := by rw [ea]; rfl
    have ea2 : a.2.2 = 0 := by rw [ea]
    have ea3 : a.1 = l.map cont := by rw [ea]
    have hcc := hc4.trans ea3
    rw [ea1, ea2]
    clear ea ha ea1 ea2 ea3 hc4
    have hb14 := hb13H.out.trans (hb4.mono hb13H.out.size)
    clear hb4
    have hb14H := Lib.hid hb14
    clear hb14
    have hs4H := Lib.hid hs4
    clear hs4
    have hccH := Lib.hid hcc
    clear hcc
    go_wp2_with fail
    refine (same_any A A4 n cap n4 c4 l L4 _ (hlH.out.below hb14H.out) hs4H.out hccH.out.symm hn9).mono ?_
    rintro e w5 ⟨rfl, hb5⟩
    have hb15 := hb14H.out.trans (hb5.mono hb14H.out.size)
    clear hb5
    have hb15H := Lib.hid hb15
    clear hb15
    go_wp2
    go_ret
    exact ⟨rfl, hb15H.out⟩
  · have e1 : (cc != 0) = true := by simpa using e0
    clear e0
    go_wp2
    go_ret
    exact ⟨rfl, hb13H.out⟩
end Go.Proofs.YtgegdfmdcmgliaaGreatDoor.C11
