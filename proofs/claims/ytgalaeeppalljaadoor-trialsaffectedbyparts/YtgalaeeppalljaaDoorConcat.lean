/-
  slices.Concat of two rows of strings.
-/
import Derived.Test.YtgalaeeppalljaaDoorRFlaky
import Derived.Test.YtgalaeeppalljaaDoorShelfE
import Derived.Shelf.Spec.SlicesGrow
namespace Go.Proofs.YtgalaeeppalljaaDoor
open Go.ChangeShapes Go.WideShapes Go.Deep Go.RowKit
set_option linter.unusedVariables false

theorem grow_nil (n : Nat) (w : World) (hn : n ≤ 1000000) :
    Calls Tryd.prog 68 #[.slice none 0 0, .int .i64 n] w fun e w' => ∃ A c, e = .returned (.slice A 0 c) ∧ Own RStr 9 w' w.heap.size (.slice A 0 c) [] ∧ Below w.heap.size w w' := by
  by_cases h0 : n = 0
  · subst h0
    refine (Any8.slices_Grow_room Tryd.growS none 0 0 0 w (by omega) (by omega) (by omega) (by omega)).mono ?_
    rintro e w' ⟨rfl, rfl⟩
    exact ⟨none, 0, rfl, Own.nil _ _, Below.refl _ _⟩
  · obtain ⟨i, z, hi, hz, hz1, hz2, hz3⟩ := elem_Str
    have hs1 : RStr.size = 1 := rfl
    refine (Any8.slices_Grow_grow Tryd.growS i z hi hz (by omega) none 0 0 n [] w (by omega) (by omega) (by rw [hz2]; omega) (by omega) (by simp) (fun _ => rfl) (fun a h => by cases h)).mono ?_
    rintro e w' ⟨rfl, rfl⟩
    have hg := grownCap_ge w n 0 9
    have hmx := grownCap_le_maxLen w n 0 9 (by unfold maxLen; omega)
    have hsz : ((([] : List Value).toArray ++ Builtin.zeroCells z.cells n) ++ Builtin.zeroCells z.cells (grownCap w n 0 9 - n)).size = grownCap w n 0 9 * RStr.size := by
      simp only [Array.size_append, size_zeroCells, hz3, hs1]
      simp; omega
    have hm := World.ownsRow_made (base := w.heap.size) (e := 9) (size := RStr.size) w.drew ((([] : List Value).toArray ++ Builtin.zeroCells z.cells n) ++ Builtin.zeroCells z.cells (grownCap w n 0 9 - n)) (grownCap w n 0 9) (Nat.le_refl _) hmx hsz
    have e : 0 + n = n := Nat.zero_add n
    rw [e, Nat.sub_zero]
    have hd : Below w.heap.size w w.drew := ⟨rfl, rfl, rfl, Nat.le_refl _, fun _ _ => rfl⟩
    exact ⟨some ⟨w.heap.size, 0, none⟩, grownCap w n 0 9, rfl, ⟨hm, fun x hx => by cases hx⟩, hd.alloc (Nat.le_refl _) _⟩

/-- two rows -/
def two {α : Type} (k : Nat) (x : α) (y : α) (z : α) : α := match k with | 0 => x | 1 => y | _ => z
def Cat1 (n1 n2 : Nat) (w0 : World) (s i : Value) (wr : World) : Prop := ∃ k : Nat, k ≤ 2 ∧ i = .int .i64 k ∧ s = .int .i64 (two k 0 n1 (n1 + n2) : Nat) ∧ w0 = wr
def Cat2 (L1 L2 : List ByteArray) (w0 : World) (v i : Value) (wr : World) : Prop :=
  ∃ (k n cap : Nat) (A : Option Addr), k ≤ 2 ∧ i = .int .i64 k ∧ v = .slice A n cap ∧ Own RStr 9 wr w0.heap.size v (two k [] L1 (L1 ++ L2)) ∧ Below w0.heap.size w0 wr

set_option maxRecDepth 100000 in
set_option maxHeartbeats 2000000 in
theorem concat_any (b : Nat) (A1 A2 : Option Addr) (n1 c1 n2 c2 : Nat) (L1 L2 : List ByteArray) (w : World) (h0 : w.cell? ⟨b, 0, none⟩ = some (.slice A1 n1 c1)) (h1 : w.cell? ⟨b, 1, none⟩ = some (.slice A2 n2 c2))
    (hs1 : SlAt RStr w A1 n1 L1) (hs2 : SlAt RStr w A2 n2 L2) (hn1 : n1 ≤ 300) (hn2 : n2 ≤ 300) (hz1 : A1 = none → c1 = 0) (hz2 : A2 = none → c2 = 0) :
    Calls Tryd.prog 27 #[.slice (some ⟨b, 0, none⟩) 2 2] w fun e w' => ∃ A n c, e = .returned (.slice A n c) ∧ Own RStr 9 w' w.heap.size (.slice A n c) (L1 ++ L2) ∧ n ≤ 600 ∧ Below w.heap.size w w' := by
  have hl1 := hs1.1
  have hl2 := hs2.1
  have h0c := h0
  have h1c := h1
  have hs1H := Lib.hid hs1
  clear hs1
  have hs2H := Lib.hid hs2
  clear hs2
  have hl1H := Lib.hid hl1
  clear hl1
  have hl2H := Lib.hid hl2
  clear hl2
  have hz1H := Lib.hid hz1
  clear hz1
  have hz2H := Lib.hid hz2
  clear hz2
  have h0cH := Lib.hid h0c
  clear h0c
  have h1cH := Lib.hid h1c
  clear h1c
  go_enter Tryd.func27, Tryd.ntmps27
  go_wp2_with fail
  go_loopw [3, 11] (fun s i wr => Cat1 n1 n2 w s i wr) (fun _ i _ => 2 - (intOf i).toNat)
  case atStart => exact ⟨0, by omega, rfl, rfl, rfl⟩
  case round =>
    obtain ⟨k, hk, rfl, rfl, rfl⟩ := hrel
    match k, hk with
    | 0, _ =>
      have R : Cat1 n1 n2 w (.int .i64 n1) (.int .i64 1) w := ⟨1, by omega, rfl, rfl, rfl⟩
      unfold two
      go_wp2
      refine ⟨?rel, ?measure⟩
      case measure => exact (by simp [intOf])
      case rel => first | exact R | exact ⟨rfl, R⟩ | ((try refine ⟨rfl, ?_⟩); (repeat apply Exists.intro); refine ⟨R, ?_⟩; ((repeat' apply And.intro) <;> rfl))
    | 1, _ =>
      have R : Cat1 n1 n2 w (.int .i64 (n1 + n2)) (.int .i64 2) w := ⟨2, by omega, rfl, by simp [two], rfl⟩
      unfold two
      go_wp2
      refine ⟨?rel, ?measure⟩
      case measure => exact (by simp [intOf])
      case rel => first | exact R | exact ⟨rfl, R⟩ | ((try refine ⟨rfl, ?_⟩); (repeat apply Exists.intro); refine ⟨R, ?_⟩; ((repeat' apply And.intro) <;> rfl))
    | 2, _ =>
      unfold two
      go_wp2_with fail
      refine (grow_nil (n1 + n2) w (by omega)).mono ?_
      rintro e w1 ⟨A, c, rfl, hown, hb1⟩
      have hownH := Lib.hid hown
      clear hown
      have hb1H := Lib.hid hb1
      clear hb1
      go_wp2_with fail
      go_loopw [6, 27] (fun v i wr => Cat2 L1 L2 w v i wr) (fun _ i _ => 2 - (intOf i).toNat)
      case atStart => exact ⟨0, 0, c, A, by omega, rfl, rfl, hownH.out, hb1H.out⟩
      case round =>
        obtain ⟨k2, n, cap, A3, hk2, rfl, rfl, hown2, hb⟩ := hrel
        have hbs := hb.size
        have hn := hown2.len
        have d0 := (hb.cell (cell?_lt h0cH.out)).trans h0cH.out
        have d1 := (hb.cell (cell?_lt h1cH.out)).trans h1cH.out
        match k2, hk2 with
        | 0, _ =>
          obtain rfl : 0 = n := hn
          have hown2H := Lib.hid hown2
          clear hown2
          have hbH := Lib.hid hb
          clear hb
          go_wp2_with (at_builtin; go_loud (refine wpList_app rfl (.tmp 31) (.tmp 32) 24 rfl Tryd.underlying24 elem_Str (by decide) rfl hown2H.out A1 n1 c1 L1 rfl (hs1H.out.below hbH.out) ?nn ?ok ?c1 ?c2 ?c3 n1 ?c4 ?_))
          case nn => exact fun _ h => hz1H.out h
          case ok => exact fun _ _ _ _ h => h
          case c1 => simp [two, maxLen] <;> omega
          case c2 => simp [two] <;> omega
          case c3 => omega
          case c4 => simp [two]
          intro A' c' w7 hown7 hg7 hat7 hb7
          have R : Cat2 L1 L2 w (.slice A' n1 c') (.int .i64 1) w7 := ⟨1, n1, c', A', by omega, rfl, rfl, hown7, hbH.out.trans hb7⟩
          clear hg7 hat7 hb7 hown7
          have RH := Lib.hid R
          clear R
          go_wp2
          refine ⟨?rel, ?measure⟩
          case measure => exact (by simp [intOf])
          case rel => first | exact RH.out | exact ⟨rfl, RH.out⟩ | ((try refine ⟨rfl, ?_⟩); (repeat apply Exists.intro); refine ⟨RH.out, ?_⟩; ((repeat' apply And.intro) <;> rfl))
        | 1, _ =>
          have hn : L1.length = n := hn
          have hll := hl1H.out
          obtain rfl : n1 = n := hll.symm.trans hn
          have hown2H := Lib.hid hown2
          clear hown2
          have hbH := Lib.hid hb
          clear hb
          go_wp2_with (at_builtin; go_loud (refine wpList_app rfl (.tmp 31) (.tmp 32) 24 rfl Tryd.underlying24 elem_Str (by decide) rfl hown2H.out A2 n2 c2 L2 rfl (hs2H.out.below hbH.out) ?nn ?ok ?c1 ?c2 ?c3 (n1 + n2) ?c4 ?_))
          case nn => exact fun _ h => hz2H.out h
          case ok => exact fun _ _ _ _ h => h
          case c1 => simp [two, maxLen] <;> omega
          case c2 => simp [two] <;> omega
          case c3 => omega
          case c4 => simp [two]; omega
          intro A' c' w7 hown7 hg7 hat7 hb7
          have R : Cat2 L1 L2 w (.slice A' (n1 + n2) c') (.int .i64 2) w7 := ⟨2, n1 + n2, c', A', by omega, rfl, rfl, hown7, hbH.out.trans hb7⟩
          clear hg7 hat7 hb7 hown7
          have RH := Lib.hid R
          clear R
          go_wp2
          refine ⟨?rel, ?measure⟩
          case measure => exact (by simp [intOf])
          case rel => first | exact RH.out | exact ⟨rfl, RH.out⟩ | ((try refine ⟨rfl, ?_⟩); (repeat apply Exists.intro); refine ⟨RH.out, ?_⟩; ((repeat' apply And.intro) <;> rfl))
        | 2, _ =>
          have hn : (L1 ++ L2).length = n := hn
          have hn3 : n ≤ 600 := by rw [List.length_append] at hn; have := hl1H.out; have := hl2H.out; omega
          have hown3 : Own RStr 9 wr w.heap.size (.slice A3 n cap) (L1 ++ L2) := hown2
          clear hown2
          have hown3H := Lib.hid hown3
          clear hown3
          have hbH := Lib.hid hb
          clear hb
          go_wp2
          go_ret
          exact ⟨A3, n, cap, rfl, hown3H.out, hn3, hbH.out⟩
end Go.Proofs.YtgalaeeppalljaaDoor
