/-
  Same and SameClaimed of the reference: two lists of results that hold the same.
-/
import Derived.Test.YtgegdfmdcmgliaaGreatDoorLineCC11
namespace Go.Proofs.YtgegdfmdcmgliaaGreatDoor.C11
open Go.RowKit
set_option linter.unusedVariables false

theorem equal_strs (A1 A2 : Option Addr) (n1 c1 n2 c2 : Nat) (L : List ByteArray) (w : World) (h1 : SlAt RStr w A1 n1 L) (h2 : SlAt RStr w A2 n2 L) (hn : n1 ≤ 9223372036854775807) :
    Calls Tryz.prog 72 #[.slice A1 n1 c1, .slice A2 n2 c2] w fun e w' => e = .returned (.bool true) ∧ Below w.heap.size w w' := by
  obtain rfl : n1 = n2 := h1.1.symm.trans h2.1
  by_cases h0 : n1 = 0
  · subst h0
    refine (Tryz.slices_Equal_string_empty A1 A2 c1 0 c2 w (by omega)).mono ?_
    rintro e w' ⟨rfl, rfl⟩
    exact ⟨by simp, Below.refl _ _⟩
  · obtain ⟨b1, o1, rfl, _⟩ := h1.2.1 (by omega)
    obtain ⟨b2, o2, rfl, _⟩ := h2.2.1 (by omega)
    have hcell : ∀ {b o : Nat}, SlAt RStr w (some ⟨b, o, none⟩) n1 L → ∀ j, j < L.length → w.cell? ⟨b, o + j, none⟩ = some (.string (L.getD j ByteArray.empty)) := fun {b o} h j hj => by
      rw [List.getD_eq_getElem?_getD, List.getElem?_eq_getElem hj, Option.getD_some]
      exact cell_Str h (List.getElem?_eq_getElem hj)
    refine (Tryz.slices_Equal_string b1 o1 n1 c1 b2 o2 n1 c2 L L w (by rw [h1.1]; exact Nat.le_refl _) (by rw [h1.1]; exact Nat.le_refl _) hn hn (hcell h1) (hcell h2)).mono ?_
    rintro e w' ⟨rfl, q, rfl⟩
    exact ⟨by simp, bel_drewN (Below.refl _ _) q⟩
theorem allocBelS (w : World) (o : Obj) : Below w.heap.size w (w.alloc o) := (Below.refl _ _).alloc (Nat.le_refl _) o
theorem cont_eq {x y : Claimed} (h : cont x = cont y) : y = ⟨x.key, x.label, x.result, x.writer, x.at_, ⟨y.uses.A, y.uses.n, y.uses.cap, x.uses.l⟩, x.sign⟩ := by
  obtain ⟨k1, l1, r1, w1, a1, ⟨A1, n1, c1, u1⟩, s1⟩ := x
  obtain ⟨k2, l2, r2, w2, a2, ⟨A2, n2, c2, u2⟩, s2⟩ := y
  simp only [cont, Claimed.mk.injEq, SlD.mk.injEq, true_and] at h
  obtain ⟨rfl, rfl, rfl, rfl, rfl, rfl, rfl⟩ := h
  rfl
set_option maxRecDepth 100000 in
set_option maxHeartbeats 4000000 in
theorem same_one (key label result writer : ByteArray) (at_ : Int) (A1 A2 : Option Addr) (n1 c1 n2 c2 : Nat) (us : List ByteArray) (sign : ByteArray) (w : World) (h1 : SlAt RStr w A1 n1 us) (h2 : SlAt RStr w A2 n2 us) (hn : n1 ≤ 9223372036854775807) :
    Calls Tryz.prog 39 #[.agg #[.string key, .string label, .string result, .string writer, .int .i64 at_, .slice A1 n1 c1, .string sign], .agg #[.string key, .string label, .string result, .string writer, .int .i64 at_, .slice A2 n2 c2, .string sign]] w fun e w' => e = .returned (.bool true) ∧ Below w.heap.size w w' := by
  have q0 : (key.toList == key.toList) = true := by simp
  have q1 : (label.toList == label.toList) = true := by simp
  have q2 : (result.toList == result.toList) = true := by simp
  have q3 : (writer.toList == writer.toList) = true := by simp
  have q6 : (sign.toList == sign.toList) = true := by simp
  have hb := (allocBelS w (.cells #[.string key, .string label, .string result, .string writer, .int .i64 at_, .slice A1 n1 c1, .string sign] 51)).alloc (by simp) (.cells #[.string key, .string label, .string result, .string writer, .int .i64 at_, .slice A2 n2 c2, .string sign] 51)
  have h1b := h1.below hb
  have h2b := h2.below hb
  have hbH := Lib.hid hb
  clear hb
  have h1bH := Lib.hid h1b
  clear h1b
  have h2bH := Lib.hid h2b
  clear h2b
  have h1H := Lib.hid h1
  clear h1
  have h2H := Lib.hid h2
  clear h2
  go_enter Tryz.func39, Tryz.ntmps39
  go_wp2_with fail
  refine (equal_strs A1 A2 n1 c1 n2 c2 us _ h1bH.out h2bH.out hn).mono ?_
  rintro e w1 ⟨rfl, hw1⟩
  have hb1 := hbH.out.trans (hw1.mono (by have := hbH.out.size; exact this))
  clear hw1
  have hb1H := Lib.hid hb1
  clear hb1
  go_wp2
  go_ret
  exact ⟨rfl, hb1H.out⟩
def SmRel (n : Nat) (w0 : World) (i : Value) (wr : World) : Prop := ∃ k : Nat, k ≤ n ∧ i = .int .i64 k ∧ Below w0.heap.size w0 wr
theorem map_get {L1 L2 : List Claimed} (h : L1.map cont = L2.map cont) {k : Nat} {x : Claimed} (hx : L1[k]? = some x) : ∃ y, L2[k]? = some y ∧ cont x = cont y := by
  have e := congrArg (·[k]?) h
  simp only [List.getElem?_map, hx, Option.map_some] at e
  cases hy : L2[k]? with
  | none => rw [hy] at e; cases e
  | some y => rw [hy] at e; exact ⟨y, rfl, by simpa using e⟩
theorem keepS2 {W w' : World} {a0 a1 a2 a3 a4 a5 a6 b0 b1 b2 b3 b4 b5 b6 : Addr} {v0 v1 v2 v3 v4 v5 v6 u0 u1 u2 u3 u4 u5 u6 : Value} (hb : Below W.heap.size W w') (h : (W.cell? a0 = some v0 ∧ W.cell? a1 = some v1 ∧ W.cell? a2 = some v2 ∧ W.cell? a3 = some v3 ∧ W.cell? a4 = some v4 ∧ W.cell? a5 = some v5 ∧ W.cell? a6 = some v6) ∧ W.cell? b0 = some u0 ∧ W.cell? b1 = some u1 ∧ W.cell? b2 = some u2 ∧ W.cell? b3 = some u3 ∧ W.cell? b4 = some u4 ∧ W.cell? b5 = some u5 ∧ W.cell? b6 = some u6) :
    (w'.cell? a0 = some v0 ∧ w'.cell? a1 = some v1 ∧ w'.cell? a2 = some v2 ∧ w'.cell? a3 = some v3 ∧ w'.cell? a4 = some v4 ∧ w'.cell? a5 = some v5 ∧ w'.cell? a6 = some v6) ∧ w'.cell? b0 = some u0 ∧ w'.cell? b1 = some u1 ∧ w'.cell? b2 = some u2 ∧ w'.cell? b3 = some u3 ∧ w'.cell? b4 = some u4 ∧ w'.cell? b5 = some u5 ∧ w'.cell? b6 = some u6 := by
  obtain ⟨⟨h0, h1, h2, h3, h4, h5, h6⟩, g0, g1, g2, g3, g4, g5, g6⟩ := h
  exact ⟨⟨(hb.cell (cell?_lt h0)).trans h0, (hb.cell (cell?_lt h1)).trans h1, (hb.cell (cell?_lt h2)).trans h2, (hb.cell (cell?_lt h3)).trans h3, (hb.cell (cell?_lt h4)).trans h4, (hb.cell (cell?_lt h5)).trans h5, (hb.cell (cell?_lt h6)).trans h6⟩, (hb.cell (cell?_lt g0)).trans g0, (hb.cell (cell?_lt g1)).trans g1, (hb.cell (cell?_lt g2)).trans g2, (hb.cell (cell?_lt g3)).trans g3, (hb.cell (cell?_lt g4)).trans g4, (hb.cell (cell?_lt g5)).trans g5, (hb.cell (cell?_lt g6)).trans g6⟩
set_option maxRecDepth 100000 in
set_option maxHeartbeats 4000000 in
theorem same_any (A1 A2 : Option Addr) (n1 c1 n2 c2 : Nat) (L1 L2 : List Claimed) (w : World) (h1 : SlAt RClaimed w A1 n1 L1) (h2 : SlAt RClaimed w A2 n2 L2) (hm : L1.map cont = L2.map cont) (hn : n1 ≤ 9223372036854775807) :
    Calls Tryz.prog 17 #[.slice A1 n1 c1, .slice A2 n2 c2] w fun e w' => e = .returned (.bool true) ∧ Below w.heap.size w w' := by
  have hl := congrArg List.length hm
  rw [List.length_map, List.length_map, h1.1, h2.1] at hl
  subst hl
  have h1H := Lib.hid h1
  clear h1
  have h2H := Lib.hid h2
  clear h2
  have hmH := Lib.hid hm
  clear hm
  go_enter Tryz.func17, Tryz.ntmps17
  go_wp2_with fail
  go_loopw [13] (fun i wr => SmRel n1 w i wr) (fun i _ => n1 - (intOf i).toNat)
  case atStart => exact ⟨0, Nat.zero_le _, rfl, Below.refl _ _⟩
  case round =>
    obtain ⟨k, hk, rfl, hb⟩ := hrel
    by_cases hlt : k < n1
    · obtain ⟨b1, o1, hA1, _⟩ := h1H.out.2.1 (by omega)
      obtain ⟨b2, o2, hA2, _⟩ := h2H.out.2.1 (by omega)
      subst hA1
      subst hA2
      obtain ⟨x, hx⟩ : ∃ x, L1[k]? = some x := ⟨L1[k]'(by have := h1H.out.1; omega), List.getElem?_eq_getElem _⟩
      obtain ⟨y, hy, hxy⟩ := map_get hmH.out hx
      have hx1 := h1H.out.below hb
      have hy1 := h2H.out.below hb
      have ox := (hx1.2.2 x (List.mem_of_getElem? hx)).2.2.2.2.2.1
      have oy := (hy1.2.2 y (List.mem_of_getElem? hy)).2.2.2.2.2.1
      obtain ⟨d0, d1, d2, d3, d4, d5, d6⟩ := cells_Claimed hx1 hx
      obtain ⟨e0, e1, e2, e3, e4, e5, e6⟩ := cells_Claimed hy1 hy
      rw [cont_eq hxy] at e0 e1 e2 e3 e4 e5 e6 oy
      obtain ⟨key, label, result, writer, at_, ⟨uA, uN, uC, us⟩, sign⟩ := x
      obtain ⟨yu, hyu⟩ : ∃ u, y.uses = u := ⟨_, rfl⟩
      rw [hyu] at e5 oy
      clear hyu
      obtain ⟨yA, yN, yC, ys⟩ := yu
      simp only at d0 d1 d2 d3 d4 d5 d6 e0 e1 e2 e3 e4 e5 e6 ox oy
      have hun : uN ≤ 9223372036854775807 := Nat.le_trans ox.2.1 ox.2.2.1
      have k0 : (0 : Int) ≤ (k : Int) := by omega
      have k1 : (k : Int) < (n1 : Int) := by omega
      have R : ∀ w', Below wr.heap.size wr w' → SmRel n1 w (.int .i64 (k + 1)) w' := fun w' h => ⟨k + 1, by omega, by go_num, hb.trans (h.mono hb.size)⟩
      have ox1 := ox.1
      have oy1 := oy.1
      clear ox oy
      have hxH := Lib.hid hx
      clear hx
      have hyH := Lib.hid hy
      clear hy
      have hxyH := Lib.hid hxy
      clear hxy
      have hx1H := Lib.hid hx1
      clear hx1
      have hy1H := Lib.hid hy1
      clear hy1
      have hbH := Lib.hid hb
      clear hb
      have RH := Lib.hid R
      clear R
      have ox1H := Lib.hid ox1
      clear ox1
      have oy1H := Lib.hid oy1
      clear oy1
      have hunH := Lib.hid hun
      clear hun
      go_wp2_with fail
      refine wp_region_held_drew (S := (fun w' => (w'.cell? ⟨b1, o1 + k * 7, none⟩ = some (.string key) ∧ w'.cell? ⟨b1, o1 + k * 7 + 1, none⟩ = some (.string label) ∧ w'.cell? ⟨b1, o1 + k * 7 + 2, none⟩ = some (.string result) ∧ w'.cell? ⟨b1, o1 + k * 7 + 3, none⟩ = some (.string writer) ∧ w'.cell? ⟨b1, o1 + k * 7 + 4, none⟩ = some (.int .i64 at_) ∧ w'.cell? ⟨b1, o1 + k * 7 + 5, none⟩ = some (.slice uA uN uC) ∧ w'.cell? ⟨b1, o1 + k * 7 + 6, none⟩ = some (.string sign)) ∧ w'.cell? ⟨b2, o2 + k * 7, none⟩ = some (.string key) ∧ w'.cell? ⟨b2, o2 + k * 7 + 1, none⟩ = some (.string label) ∧ w'.cell? ⟨b2, o2 + k * 7 + 2, none⟩ = some (.string result) ∧ w'.cell? ⟨b2, o2 + k * 7 + 3, none⟩ = some (.string writer) ∧ w'.cell? ⟨b2, o2 + k * 7 + 4, none⟩ = some (.int .i64 at_) ∧ w'.cell? ⟨b2, o2 + k * 7 + 5, none⟩ = some (.slice yA yN yC) ∧ w'.cell? ⟨b2, o2 + k * 7 + 6, none⟩ = some (.string sign))) (by kernel_rfl) ⟨⟨d0, d1, d2, d3, d4, d5, d6⟩, e0, e1, e2, e3, e4, e5, e6⟩ (fun hHeld => ?_)
      clear d0 d1 d2 d3 d4 d5 d6 e0 e1 e2 e3 e4 e5 e6
      refine takeH (i := 0) (d := some 16) (v := ?_) rfl rfl (by kernel_rfl) (by kernel_rfl) (by kernel_rfl) (fun _ _ _ h => h) (Or.inl ⟨by rfl, ?_⟩) (by assumption) ?_
      rotate_left
      · (intro w hSw; (try dsimp only at hSw); go_simp; (try with_reducible rfl))
      (try simp only [Act.put, List.setIfInBounds_toArray, List.set_cons_zero, List.set_cons_succ])
      refine takeH (i := 1) (d := some 17) (v := ?_) rfl rfl (by kernel_rfl) (by kernel_rfl) (by kernel_rfl) (fun _ _ _ h => h) (Or.inl ⟨by rfl, ?_⟩) (by assumption) ?_
      rotate_left
      · (intro w hSw; (try dsimp only at hSw); go_simp; (try with_reducible rfl))
      (try simp only [Act.put, List.setIfInBounds_toArray, List.set_cons_zero, List.set_cons_succ])
      refine takeH (i := 2) (d := some 18) (v := ?_) rfl rfl (by kernel_rfl) (by kernel_rfl) (by kernel_rfl) (fun _ _ _ h => h) (Or.inl ⟨by rfl, ?_⟩) (by assumption) ?_
      rotate_left
      · (intro w hSw; (try dsimp only at hSw); go_simp; (try with_reducible rfl))
      (try simp only [Act.put, List.setIfInBounds_toArray, List.set_cons_zero, List.set_cons_succ])
      refine takeH (i := 3) (d := some 19) (v := ?_) rfl rfl (by kernel_rfl) (by kernel_rfl) (by kernel_rfl) (fun _ _ _ h => h) (Or.inl ⟨by rfl, ?_⟩) (by assumption) ?_
      rotate_left
      · (intro w hSw; (try dsimp only at hSw); go_simp; (try with_reducible rfl))
      (try simp only [Act.put, List.setIfInBounds_toArray, List.set_cons_zero, List.set_cons_succ])
      refine takeH (i := 4) (d := some 20) (v := ?_) rfl rfl (by kernel_rfl) (by kernel_rfl) (by kernel_rfl) (fun _ _ _ h => h) (Or.inl ⟨by rfl, ?_⟩) (by assumption) ?_
      rotate_left
      · (intro w hSw; (try dsimp only at hSw); go_simp; (try with_reducible rfl))
      (try simp only [Act.put, List.setIfInBounds_toArray, List.set_cons_zero, List.set_cons_succ])
      refine takeH (i := 5) (d := some 21) (v := ?_) rfl rfl (by kernel_rfl) (by kernel_rfl) (by kernel_rfl) (fun _ _ _ h => h) (Or.inl ⟨by rfl, ?_⟩) (by assumption) ?_
      rotate_left
      · (intro w hSw; (try dsimp only at hSw); go_simp; (try with_reducible rfl))
      (try simp only [Act.put, List.setIfInBounds_toArray, List.set_cons_zero, List.set_cons_succ])
      refine takeH (i := 6) (d := some 22) (v := ?_) rfl rfl (by kernel_rfl) (by kernel_rfl) (by kernel_rfl) (fun _ _ _ h => h) (Or.inl ⟨by rfl, ?_⟩) (by assumption) ?_
      rotate_left
      · (intro w hSw; (try dsimp only at hSw); go_simp; (try with_reducible rfl))
      (try simp only [Act.put, List.setIfInBounds_toArray, List.set_cons_zero, List.set_cons_succ])
      refine takeH (i := 7) (d := some 23) (v := ?_) rfl rfl (by kernel_rfl) (by kernel_rfl) (by kernel_rfl) (fun _ _ _ h => h) (Or.inl ⟨by rfl, ?_⟩) (by assumption) ?_
      rotate_left
      · (intro w hSw; (try dsimp only at hSw); go_simp; (try with_reducible rfl))
      (try simp only [Act.put, List.setIfInBounds_toArray, List.set_cons_zero, List.set_cons_succ])
      refine wpAnyH_ready (rs := [8]) (by kernel_rfl) (by simp) ?_
      refine AllReadyH.cons (i := 8) rfl (fun K hK => ?_) AllReadyH.nil
      go_simp
      go_at_call 39
      refine (same_one key label result writer at_ uA yA uN uC yN yC us sign _ (ox1H.out.below (by first | exact Below.refl _ _ | exact (Below.refl _ _).drew)) (oy1H.out.below (by first | exact Below.refl _ _ | exact (Below.refl _ _).drew)) hunH.out).mono ?_
      rintro e w5 ⟨rfl, hb5⟩
      have hb5a : Below wr.heap.size wr w5 := by first | exact hb5 | exact (Below.refl _ _).drew.trans hb5
      replace hHeld := keepS2 hb5 hHeld
      have R5 := RH.out _ hb5a
      clear hb5 hb5a
      have R5H := Lib.hid R5
      clear R5
      refine hK.out _ _ hHeld (fun hHeld => ?_)
      clear hK K
      (try simp only [Act.put, List.setIfInBounds_toArray, List.set_cons_zero, List.set_cons_succ])
      refine takeH (i := 9) (d := some 25) (v := ?_) rfl rfl (by kernel_rfl) (by kernel_rfl) (by kernel_rfl) (fun _ _ _ h => h) (Or.inl ⟨by rfl, ?_⟩) (by assumption) ?_
      rotate_left
      · (intro w hSw; (try dsimp only at hSw); go_simp; (try with_reducible rfl))
      (try simp only [Act.put, List.setIfInBounds_toArray, List.set_cons_zero, List.set_cons_succ])
      refine wpAnyH_done (by kernel_rfl) ?_ _
      go_wp2
      refine ⟨?rel, ?measure⟩
      case measure => (simp [intOf]; omega)
      case rel => first | exact R5H.out | exact ⟨rfl, R5H.out⟩ | ((try refine ⟨rfl, ?_⟩); (repeat apply Exists.intro); refine ⟨R5H.out, ?_⟩; ((repeat' apply And.intro) <;> rfl))
    · have hbH := Lib.hid hb
      clear hb
      go_wp2
      go_ret
      exact ⟨rfl, hbH.out⟩
end Go.Proofs.YtgegdfmdcmgliaaGreatDoor.C11
