/-
  Seven cells of one block: what they hold, and that they can be stored to (printed by a program of mine).
-/
import Derived.Test.YtgegdfmdcmgliaaGreatDoorRead
namespace Go.Proofs.YtgegdfmdcmgliaaGreatDoor
open Go.RowKit
set_option linter.unusedVariables false

structure At7 (b : Nat) (v0 v1 v2 v3 v4 v5 v6 : Value) (W : World) : Prop where
  c0 : W.cell? ⟨b, 0, none⟩ = some v0
  c1 : W.cell? ⟨b, 1, none⟩ = some v1
  c2 : W.cell? ⟨b, 2, none⟩ = some v2
  c3 : W.cell? ⟨b, 3, none⟩ = some v3
  c4 : W.cell? ⟨b, 4, none⟩ = some v4
  c5 : W.cell? ⟨b, 5, none⟩ = some v5
  c6 : W.cell? ⟨b, 6, none⟩ = some v6
  f0 : W.frozen? ⟨b, 0, none⟩ = false
  f1 : W.frozen? ⟨b, 1, none⟩ = false
  f2 : W.frozen? ⟨b, 2, none⟩ = false
  f3 : W.frozen? ⟨b, 3, none⟩ = false
  f4 : W.frozen? ⟨b, 4, none⟩ = false
  f5 : W.frozen? ⟨b, 5, none⟩ = false
  f6 : W.frozen? ⟨b, 6, none⟩ = false
section
variable {b : Nat} {v0 v1 v2 v3 v4 v5 v6 : Value} {W w' : World}
theorem At7.lt (h : At7 b v0 v1 v2 v3 v4 v5 v6 W) : b < W.heap.size := cell?_lt h.c0
theorem At7.new (w : World) (v0 v1 v2 v3 v4 v5 v6 : Value) (T : TypeId) : At7 w.heap.size v0 v1 v2 v3 v4 v5 v6 (w.alloc (.cells #[v0, v1, v2, v3, v4, v5, v6] T)) := by
  constructor <;> simp [go_sem]
theorem At7.belowK {K : Nat} (h : At7 b v0 v1 v2 v3 v4 v5 v6 W) (hb : Below K W w') (hlt : b < K) : At7 b v0 v1 v2 v3 v4 v5 v6 w' :=
  ⟨(hb.cell hlt).trans h.c0, (hb.cell hlt).trans h.c1, (hb.cell hlt).trans h.c2, (hb.cell hlt).trans h.c3, (hb.cell hlt).trans h.c4, (hb.cell hlt).trans h.c5, (hb.cell hlt).trans h.c6, (hb.frozen hlt).trans h.f0, (hb.frozen hlt).trans h.f1, (hb.frozen hlt).trans h.f2, (hb.frozen hlt).trans h.f3, (hb.frozen hlt).trans h.f4, (hb.frozen hlt).trans h.f5, (hb.frozen hlt).trans h.f6⟩
theorem At7.below (h : At7 b v0 v1 v2 v3 v4 v5 v6 W) (hb : Below W.heap.size W w') : At7 b v0 v1 v2 v3 v4 v5 v6 w' := h.belowK hb h.lt
theorem At7.alloc (h : At7 b v0 v1 v2 v3 v4 v5 v6 W) (o : Obj) : At7 b v0 v1 v2 v3 v4 v5 v6 (W.alloc o) := h.below ((Below.refl _ _).alloc (Nat.le_refl _) o)
theorem At7.other (h : At7 b v0 v1 v2 v3 v4 v5 v6 W) (a : Addr) (u : Value) (ha : a.block ≠ b) : At7 b v0 v1 v2 v3 v4 v5 v6 (W.setCell a u) := by
  have o : ∀ j, (W.setCell a u).cell? ⟨b, j, none⟩ = W.cell? ⟨b, j, none⟩ := fun j => World.cell?_setCell_other _ _ _ _ (by intro e; exact absurd (congrArg Addr.block e) (by simpa using ha))
  exact ⟨(o 0).trans h.c0, (o 1).trans h.c1, (o 2).trans h.c2, (o 3).trans h.c3, (o 4).trans h.c4, (o 5).trans h.c5, (o 6).trans h.c6, by rw [World.frozen?_setCell]; exact h.f0, by rw [World.frozen?_setCell]; exact h.f1, by rw [World.frozen?_setCell]; exact h.f2, by rw [World.frozen?_setCell]; exact h.f3, by rw [World.frozen?_setCell]; exact h.f4, by rw [World.frozen?_setCell]; exact h.f5, by rw [World.frozen?_setCell]; exact h.f6⟩
theorem At7.set0 (h : At7 b v0 v1 v2 v3 v4 v5 v6 W) (u : Value) : At7 b u v1 v2 v3 v4 v5 v6 (W.setCell ⟨b, 0, none⟩ u) :=
  ⟨World.cell?_setCell_same' _ _ _ (by rw [h.c0]; rfl), (World.cell?_setCell_other _ _ _ _ (by simp)).trans h.c1, (World.cell?_setCell_other _ _ _ _ (by simp)).trans h.c2, (World.cell?_setCell_other _ _ _ _ (by simp)).trans h.c3, (World.cell?_setCell_other _ _ _ _ (by simp)).trans h.c4, (World.cell?_setCell_other _ _ _ _ (by simp)).trans h.c5, (World.cell?_setCell_other _ _ _ _ (by simp)).trans h.c6, by rw [World.frozen?_setCell]; exact h.f0, by rw [World.frozen?_setCell]; exact h.f1, by rw [World.frozen?_setCell]; exact h.f2, by rw [World.frozen?_setCell]; exact h.f3, by rw [World.frozen?_setCell]; exact h.f4, by rw [World.frozen?_setCell]; exact h.f5, by rw [World.frozen?_setCell]; exact h.f6⟩
theorem At7.set1 (h : At7 b v0 v1 v2 v3 v4 v5 v6 W) (u : Value) : At7 b v0 u v2 v3 v4 v5 v6 (W.setCell ⟨b, 1, none⟩ u) :=
  ⟨(World.cell?_setCell_other _ _ _ _ (by simp)).trans h.c0, World.cell?_setCell_same' _ _ _ (by rw [h.c1]; rfl), (World.cell?_setCell_other _ _ _ _ (by simp)).trans h.c2, (World.cell?_setCell_other _ _ _ _ (by simp)).trans h.c3, (World.cell?_setCell_other _ _ _ _ (by simp)).trans h.c4, (World.cell?_setCell_other _ _ _ _ (by simp)).trans h.c5, (World.cell?_setCell_other _ _ _ _ (by simp)).trans h.c6, by rw [World.frozen?_setCell]; exact h.f0, by rw [World.frozen?_setCell]; exact h.f1, by rw [World.frozen?_setCell]; exact h.f2, by rw [World.frozen?_setCell]; exact h.f3, by rw [World.frozen?_setCell]; exact h.f4, by rw [World.frozen?_setCell]; exact h.f5, by rw [World.frozen?_setCell]; exact h.f6⟩
theorem At7.set2 (h : At7 b v0 v1 v2 v3 v4 v5 v6 W) (u : Value) : At7 b v0 v1 u v3 v4 v5 v6 (W.setCell ⟨b, 2, none⟩ u) :=
  ⟨(World.cell?_setCell_other _ _ _ _ (by simp)).trans h.c0, (World.cell?_setCell_other _ _ _ _ (by simp)).trans h.c1, World.cell?_setCell_same' _ _ _ (by rw [h.c2]; rfl), (World.cell?_setCell_other _ _ _ _ (by simp)).trans h.c3, (World.cell?_setCell_other _ _ _ _ (by simp)).trans h.c4, (World.cell?_setCell_other _ _ _ _ (by simp)).trans h.c5, (World.cell?_setCell_other _ _ _ _ (by simp)).trans h.c6, by rw [World.frozen?_setCell]; exact h.f0, by rw [World.frozen?_setCell]; exact h.f1, by rw [World.frozen?_setCell]; exact h.f2, by rw [World.frozen?_setCell]; exact h.f3, by rw [World.frozen?_setCell]; exact h.f4, by rw [World.frozen?_setCell]; exact h.f5, by rw [World.frozen?_setCell]; exact h.f6⟩
theorem At7.set3 (h : At7 b v0 v1 v2 v3 v4 v5 v6 W) (u : Value) : At7 b v0 v1 v2 u v4 v5 v6 (W.setCell ⟨b, 3, none⟩ u) :=
  ⟨(World.cell?_setCell_other _ _ _ _ (by simp)).trans h.c0, (World.cell?_setCell_other _ _ _ _ (by simp)).trans h.c1, (World.cell?_setCell_other _ _ _ _ (by simp)).trans h.c2, World.cell?_setCell_same' _ _ _ (by rw [h.c3]; rfl), (World.cell?_setCell_other _ _ _ _ (by simp)).trans h.c4, (World.cell?_setCell_other _ _ _ _ (by simp)).trans h.c5, (World.cell?_setCell_other _ _ _ _ (by simp)).trans h.c6, by rw [World.frozen?_setCell]; exact h.f0, by rw [World.frozen?_setCell]; exact h.f1, by rw [World.frozen?_setCell]; exact h.f2, by rw [World.frozen?_setCell]; exact h.f3, by rw [World.frozen?_setCell]; exact h.f4, by rw [World.frozen?_setCell]; exact h.f5, by rw [World.frozen?_setCell]; exact h.f6⟩
theorem At7.set4 (h : At7 b v0 v1 v2 v3 v4 v5 v6 W) (u : Value) : At7 b v0 v1 v2 v3 u v5 v6 (W.setCell ⟨b, 4, none⟩ u) :=
  ⟨(World.cell?_setCell_other _ _ _ _ (by simp)).trans h.c0, (World.cell?_setCell_other _ _ _ _ (by simp)).trans h.c1, (World.cell?_setCell_other _ _ _ _ (by simp)).trans h.c2, (World.cell?_setCell_other _ _ _ _ (by simp)).trans h.c3, World.cell?_setCell_same' _ _ _ (by rw [h.c4]; rfl), (World.cell?_setCell_other _ _ _ _ (by simp)).trans h.c5, (World.cell?_setCell_other _ _ _ _ (by simp)).trans h.c6, by rw [World.frozen?_setCell]; exact h.f0, by rw [World.frozen?_setCell]; exact h.f1, by rw [World.frozen?_setCell]; exact h.f2, by rw [World.frozen?_setCell]; exact h.f3, by rw [World.frozen?_setCell]; exact h.f4, by rw [World.frozen?_setCell]; exact h.f5, by rw [World.frozen?_setCell]; exact h.f6⟩
theorem At7.set5 (h : At7 b v0 v1 v2 v3 v4 v5 v6 W) (u : Value) : At7 b v0 v1 v2 v3 v4 u v6 (W.setCell ⟨b, 5, none⟩ u) :=
  ⟨(World.cell?_setCell_other _ _ _ _ (by simp)).trans h.c0, (World.cell?_setCell_other _ _ _ _ (by simp)).trans h.c1, (World.cell?_setCell_other _ _ _ _ (by simp)).trans h.c2, (World.cell?_setCell_other _ _ _ _ (by simp)).trans h.c3, (World.cell?_setCell_other _ _ _ _ (by simp)).trans h.c4, World.cell?_setCell_same' _ _ _ (by rw [h.c5]; rfl), (World.cell?_setCell_other _ _ _ _ (by simp)).trans h.c6, by rw [World.frozen?_setCell]; exact h.f0, by rw [World.frozen?_setCell]; exact h.f1, by rw [World.frozen?_setCell]; exact h.f2, by rw [World.frozen?_setCell]; exact h.f3, by rw [World.frozen?_setCell]; exact h.f4, by rw [World.frozen?_setCell]; exact h.f5, by rw [World.frozen?_setCell]; exact h.f6⟩
theorem At7.set6 (h : At7 b v0 v1 v2 v3 v4 v5 v6 W) (u : Value) : At7 b v0 v1 v2 v3 v4 v5 u (W.setCell ⟨b, 6, none⟩ u) :=
  ⟨(World.cell?_setCell_other _ _ _ _ (by simp)).trans h.c0, (World.cell?_setCell_other _ _ _ _ (by simp)).trans h.c1, (World.cell?_setCell_other _ _ _ _ (by simp)).trans h.c2, (World.cell?_setCell_other _ _ _ _ (by simp)).trans h.c3, (World.cell?_setCell_other _ _ _ _ (by simp)).trans h.c4, (World.cell?_setCell_other _ _ _ _ (by simp)).trans h.c5, World.cell?_setCell_same' _ _ _ (by rw [h.c6]; rfl), by rw [World.frozen?_setCell]; exact h.f0, by rw [World.frozen?_setCell]; exact h.f1, by rw [World.frozen?_setCell]; exact h.f2, by rw [World.frozen?_setCell]; exact h.f3, by rw [World.frozen?_setCell]; exact h.f4, by rw [World.frozen?_setCell]; exact h.f5, by rw [World.frozen?_setCell]; exact h.f6⟩
theorem At7.all (h : At7 b v0 v1 v2 v3 v4 v5 v6 W) (u0 u1 u2 u3 u4 u5 u6 : Value) : At7 b u0 u1 u2 u3 u4 u5 u6 (((((((W.setCell ⟨b, 0, none⟩ u0).setCell ⟨b, 1, none⟩ u1).setCell ⟨b, 2, none⟩ u2).setCell ⟨b, 3, none⟩ u3).setCell ⟨b, 4, none⟩ u4).setCell ⟨b, 5, none⟩ u5).setCell ⟨b, 6, none⟩ u6) :=
  ((((((h.set0 u0).set1 u1).set2 u2).set3 u3).set4 u4).set5 u5).set6 u6
end
theorem below_set7 {K b : Nat} {w W : World} {u0 u1 u2 u3 u4 u5 u6 : Value} (hb : Below K w W) (hB : K ≤ b) : Below K w (((((((W.setCell ⟨b, 0, none⟩ u0).setCell ⟨b, 1, none⟩ u1).setCell ⟨b, 2, none⟩ u2).setCell ⟨b, 3, none⟩ u3).setCell ⟨b, 4, none⟩ u4).setCell ⟨b, 5, none⟩ u5).setCell ⟨b, 6, none⟩ u6) := (((((((hb.setCell hB _).setCell hB _).setCell hB _).setCell hB _).setCell hB _).setCell hB _).setCell hB _)
end Go.Proofs.YtgegdfmdcmgliaaGreatDoor
