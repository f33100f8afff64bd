/-
  find, may of the program; may of the reference.
-/
import Derived.Test.YtgegdfmdcmgliaaGreatDoorFunc11C11
import Derived.Deep.RegionHeld3
namespace Go.Proofs.YtgegdfmdcmgliaaGreatDoor.C11
open Go.RowKit
set_option linter.unusedVariables false

theorem res5 {w wr : World} {v0 v1 v2 v3 v4 : Value} {T : TypeId} (hb : Below (w.alloc (.cells #[v0, v1, v2, v3, v4] T)).heap.size (w.alloc (.cells #[v0, v1, v2, v3, v4] T)) wr) :
    (wr.cell? ⟨w.heap.size, 0, none⟩ = some v0 ∧ wr.cell? ⟨w.heap.size, 1, none⟩ = some v1 ∧ wr.cell? ⟨w.heap.size, 2, none⟩ = some v2 ∧ wr.cell? ⟨w.heap.size, 3, none⟩ = some v3 ∧ wr.cell? ⟨w.heap.size, 4, none⟩ = some v4) ∧
    (wr.frozen? ⟨w.heap.size, 0, none⟩ = false ∧ wr.frozen? ⟨w.heap.size, 1, none⟩ = false ∧ wr.frozen? ⟨w.heap.size, 2, none⟩ = false ∧ wr.frozen? ⟨w.heap.size, 3, none⟩ = false ∧ wr.frozen? ⟨w.heap.size, 4, none⟩ = false) := by
  have hf : ∀ j, wr.frozen? ⟨w.heap.size, j, none⟩ = false := fun j => (hb.frozen (by simp)).trans (by simp only [World.frozen?, (MapKept.heap_alloc w (.cells #[v0, v1, v2, v3, v4] T)).1]; simp)
  exact ⟨⟨(hb.cell (by simp)).trans (by simp [go_sem]), (hb.cell (by simp)).trans (by simp [go_sem]), (hb.cell (by simp)).trans (by simp [go_sem]), (hb.cell (by simp)).trans (by simp [go_sem]), (hb.cell (by simp)).trans (by simp [go_sem])⟩, hf 0, hf 1, hf 2, hf 3, hf 4⟩

theorem five_set {w : World} {b : Nat} {u0 u1 u2 u3 u4 : Value} (v0 v1 v2 v3 v4 : Value) (h : w.cell? ⟨b, 0, none⟩ = some u0 ∧ w.cell? ⟨b, 1, none⟩ = some u1 ∧ w.cell? ⟨b, 2, none⟩ = some u2 ∧ w.cell? ⟨b, 3, none⟩ = some u3 ∧ w.cell? ⟨b, 4, none⟩ = some u4) :
    (((((w.setCell ⟨b, 0, none⟩ v0).setCell ⟨b, 1, none⟩ v1).setCell ⟨b, 2, none⟩ v2).setCell ⟨b, 3, none⟩ v3).setCell ⟨b, 4, none⟩ v4).cell? ⟨b, 0, none⟩ = some v0 ∧
    (((((w.setCell ⟨b, 0, none⟩ v0).setCell ⟨b, 1, none⟩ v1).setCell ⟨b, 2, none⟩ v2).setCell ⟨b, 3, none⟩ v3).setCell ⟨b, 4, none⟩ v4).cell? ⟨b, 1, none⟩ = some v1 ∧
    (((((w.setCell ⟨b, 0, none⟩ v0).setCell ⟨b, 1, none⟩ v1).setCell ⟨b, 2, none⟩ v2).setCell ⟨b, 3, none⟩ v3).setCell ⟨b, 4, none⟩ v4).cell? ⟨b, 2, none⟩ = some v2 ∧
    (((((w.setCell ⟨b, 0, none⟩ v0).setCell ⟨b, 1, none⟩ v1).setCell ⟨b, 2, none⟩ v2).setCell ⟨b, 3, none⟩ v3).setCell ⟨b, 4, none⟩ v4).cell? ⟨b, 3, none⟩ = some v3 ∧
    (((((w.setCell ⟨b, 0, none⟩ v0).setCell ⟨b, 1, none⟩ v1).setCell ⟨b, 2, none⟩ v2).setCell ⟨b, 3, none⟩ v3).setCell ⟨b, 4, none⟩ v4).cell? ⟨b, 4, none⟩ = some v4 := by
  obtain ⟨h0, h1, h2, h3, h4⟩ := h
  have o : ∀ (W : World) (i j : Nat) (v : Value), i ≠ j → (W.setCell ⟨b, i, none⟩ v).cell? ⟨b, j, none⟩ = W.cell? ⟨b, j, none⟩ := fun W i j v hij => World.cell?_setCell_other _ _ _ _ (by simp)
  have s : ∀ (W : World) (i : Nat) (v u : Value), W.cell? ⟨b, i, none⟩ = some u → (W.setCell ⟨b, i, none⟩ v).cell? ⟨b, i, none⟩ = some v := fun W i v u hu => World.cell?_setCell_same' _ _ _ (by rw [hu]; rfl)
  refine ⟨?_, ?_, ?_, ?_, ?_⟩
  · rw [o _ 4 0 _ (by omega), o _ 3 0 _ (by omega), o _ 2 0 _ (by omega), o _ 1 0 _ (by omega)]; exact s _ 0 _ u0 h0
  · rw [o _ 4 1 _ (by omega), o _ 3 1 _ (by omega), o _ 2 1 _ (by omega)]; exact s _ 1 _ u1 (by rw [o _ 0 1 _ (by omega)]; exact h1)
  · rw [o _ 4 2 _ (by omega), o _ 3 2 _ (by omega)]; exact s _ 2 _ u2 (by rw [o _ 1 2 _ (by omega), o _ 0 2 _ (by omega)]; exact h2)
  · rw [o _ 4 3 _ (by omega)]; exact s _ 3 _ u3 (by rw [o _ 2 3 _ (by omega), o _ 1 3 _ (by omega), o _ 0 3 _ (by omega)]; exact h3)
  · exact s _ 4 _ u4 (by rw [o _ 3 4 _ (by omega), o _ 2 4 _ (by omega), o _ 1 4 _ (by omega), o _ 0 4 _ (by omega)]; exact h4)

def zwr : Writer := ⟨⟨#[]⟩, ⟨#[]⟩, ⟨none, 0, 0, []⟩, 0, 0⟩
def wrV (x : Writer) : Value := .agg #[.string x.name, .string x.secret, .slice x.prefixes.A x.prefixes.n x.prefixes.cap, .int .i64 x.from_, .int .i64 x.to_]
def FindAns (l : List Writer) (s : ByteArray) (w0 : World) (e : Ending) (w' : World) : Prop :=
  ∃ x : Writer, e = .returned (.tuple #[.agg #[.string x.name, .string x.secret, .slice x.prefixes.A x.prefixes.n x.prefixes.cap, .int .i64 x.from_, .int .i64 x.to_], .bool (hasName l s)]) ∧ (hasName l s = true → l[ixName l s]? = some x) ∧ Below w0.heap.size w0 w'

set_option maxHeartbeats 2000000 in
theorem find_any (A : Option Addr) (n c : Nat) (l : List Writer) (s : ByteArray) (w : World) (hn : n ≤ 50) (hl : SlAt RWriter w A n l) (hr : l.Pairwise fun a b => cmpS a.name b.name = -1) :
    Calls Tryz.prog 51 #[.slice A n c, .string s] w (FindAns l s w) := by
  have hba := (Below.refl w.heap.size w).alloc (Nat.le_refl _) (.cells #[.string ⟨#[]⟩, .string ⟨#[]⟩, .slice none 0 0, .int .i64 0, .int .i64 0] 55)
  have hll := hl.1
  have hlH := Lib.hid hl
  clear hl
  have hrH := Lib.hid hr
  clear hr
  have hbaH := Lib.hid hba
  clear hba
  have hllH := Lib.hid hll
  clear hll
  go_enter Tryz.func51, Tryz.ntmps51
  go_wp2_with fail
  refine (bsf_writer A n c l s _ hn (hlH.out.below hbaH.out) hrH.out).mono ?_
  rintro e w1 ⟨i, rfl, hi, hw1⟩
  obtain ⟨q, f0, f1, f2, f3, f4⟩ := res5 hw1
  have hbr := hbaH.out.trans (hw1.mono hbaH.out.size)
  obtain ⟨h, hh⟩ : ∃ h, hasName l s = h := ⟨_, rfl⟩
  rw [hh] at hi ⊢
  cases h
  · obtain ⟨d0, d1, d2, d3, d4⟩ := five_set (.string ⟨#[]⟩) (.string ⟨#[]⟩) (.slice none 0 0) (.int .i64 0) (.int .i64 0) q
    obtain ⟨q0, q1, q2, q3, q4⟩ := q
    clear hi
    have hbrH := Lib.hid hbr
    clear hbr
    have hw1H := Lib.hid hw1
    clear hw1
    have hhH := Lib.hid hh
    clear hh
    go_wp2
    exact bodyPost_ret (v := .tuple #[.agg #[.string ⟨#[]⟩, .string ⟨#[]⟩, .slice none 0 0, .int .i64 0, .int .i64 0], .bool false]) (by simp [results, Tryz.results51, go_sem, d0, d1, d2, d3, d4]) rfl ⟨zwr, by rw [hhH.out]; rfl, fun h => (by rw [hhH.out] at h; cases h), (((((hbrH.out).setCell (Nat.le_refl _) _).setCell (Nat.le_refl _) _).setCell (Nat.le_refl _) _).setCell (Nat.le_refl _) _).setCell (Nat.le_refl _) _⟩
  · obtain rfl : i = ixName l s := hi rfl
    obtain ⟨x, hx, hxs⟩ := ixName_get hh
    have hlt := ixName_lt hh
    obtain ⟨k, hk⟩ : ∃ k, ixName l s = k := ⟨_, rfl⟩
    rw [hk] at hx hlt ⊢
    have hln := hllH.out
    obtain ⟨b, off, hA, _⟩ := hlH.out.2.1 (by omega)
    subst hA
    obtain ⟨c0, c1, c2, c3, c4⟩ := cells_Writer (hlH.out.below hbr) hx
    obtain ⟨d0, d1, d2, d3, d4⟩ := five_set (.string x.name) (.string x.secret) (.slice x.prefixes.A x.prefixes.n x.prefixes.cap) (.int .i64 x.from_) (.int .i64 x.to_) q
    obtain ⟨q0, q1, q2, q3, q4⟩ := q
    have hkn : k < n := by omega
    clear hi hln hlt
    have hbrH := Lib.hid hbr
    clear hbr
    have hw1H := Lib.hid hw1
    clear hw1
    have hhH := Lib.hid hh
    clear hh
    have hxH := Lib.hid hx
    clear hx
    have hxsH := Lib.hid hxs
    clear hxs
    have hkH := Lib.hid hk
    clear hk
    go_wp2
    exact bodyPost_ret (v := .tuple #[.agg #[.string x.name, .string x.secret, .slice x.prefixes.A x.prefixes.n x.prefixes.cap, .int .i64 x.from_, .int .i64 x.to_], .bool true]) (by simp [results, Tryz.results51, go_sem, d0, d1, d2, d3, d4]) rfl ⟨x, by rw [hhH.out], fun _ => (by rw [hkH.out]; exact hxH.out), (((((hbrH.out).setCell (Nat.le_refl _) _).setCell (Nat.le_refl _) _).setCell (Nat.le_refl _) _).setCell (Nat.le_refl _) _).setCell (Nat.le_refl _) _⟩
end Go.Proofs.YtgegdfmdcmgliaaGreatDoor.C11
