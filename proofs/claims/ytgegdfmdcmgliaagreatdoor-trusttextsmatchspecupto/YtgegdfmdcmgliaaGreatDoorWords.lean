/-
  A line's words; five words, five cells.
-/
import Derived.Test.YtgegdfmdcmgliaaGreatDoorStr
import Derived.Test.YtgegdfmdcmgliaaGreatDoorShelf
namespace Go.Proofs.YtgegdfmdcmgliaaGreatDoor
open Go.RowKit
set_option linter.unusedVariables false

def wordsOf (s : ByteArray) : List ByteArray := Lib.splitB ⟨#[32]⟩ 0 (Lib.countB s ⟨#[32]⟩) s
theorem words_size {s x : ByteArray} (h : x ∈ wordsOf s) : x.size ≤ s.size := splitB_size _ _ _ _ h
theorem words_len (s : ByteArray) : (wordsOf s).length = Lib.countB s ⟨#[32]⟩ + 1 := Lib.splitB_all _ (by decide) 0 _ s rfl
theorem split_sp (s : ByteArray) (w : World) (hm : MaxLenAt w) (hs : s.size < 4294967281) :
    Calls Tryz.prog 64 #[.string s, .string ⟨#[32]⟩] w fun e w' => ∃ n : Nat, e = .returned (.slice (some ⟨w.heap.size, 0, none⟩) n n) ∧ SlAt RStr w' (some ⟨w.heap.size, 0, none⟩) n (wordsOf s) ∧ Below w.heap.size w w' := by
  obtain ⟨m, hm⟩ := hm
  refine (Tryz.strings_Split s ⟨#[32]⟩ m w hs hm (by decide)).mono ?_
  rintro e w' ⟨rfl, rfl⟩
  refine ⟨_, rfl, ⟨words_len s, fun _ => ⟨_, _, rfl, fun i x hx j v hv => ?_⟩, fun x hx => ?_⟩, (Below.refl _ _).alloc (Nat.le_refl _) _⟩
  · match j, hv with
    | 0, hv =>
      simp only [RStr, List.getElem?_cons_zero, Option.some.injEq] at hv
      subst hv
      have : ((wordsOf s).map Value.string)[i]? = some (.string x) := by rw [List.getElem?_map, hx]; rfl
      simp only [RStr, Nat.mul_one, Nat.zero_add, Nat.add_zero]
      rw [cell_new]
      simpa [wordsOf] using this
    | n + 1, hv => simp [RStr] at hv
  · have := words_size hx
    show x.size ≤ maxLen
    unfold maxLen
    omega

theorem five_of {l : List ByteArray} (h : l.length = 5) : ∃ a b c d e, l = [a, b, c, d, e] := by
  match l, h with
  | [a, b, c, d, e], _ => exact ⟨a, b, c, d, e, rfl⟩
theorem res5 {w wr : World} {v0 v1 v2 v3 v4 : Value} {T : TypeId} (hb : Below (w.alloc (.cells #[v0, v1, v2, v3, v4] T)).heap.size (w.alloc (.cells #[v0, v1, v2, v3, v4] T)) wr) :
    (wr.cell? ⟨w.heap.size, 0, none⟩ = some v0 ∧ wr.cell? ⟨w.heap.size, 1, none⟩ = some v1 ∧ wr.cell? ⟨w.heap.size, 2, none⟩ = some v2 ∧ wr.cell? ⟨w.heap.size, 3, none⟩ = some v3 ∧ wr.cell? ⟨w.heap.size, 4, none⟩ = some v4) ∧
    (wr.frozen? ⟨w.heap.size, 0, none⟩ = false ∧ wr.frozen? ⟨w.heap.size, 1, none⟩ = false ∧ wr.frozen? ⟨w.heap.size, 2, none⟩ = false ∧ wr.frozen? ⟨w.heap.size, 3, none⟩ = false ∧ wr.frozen? ⟨w.heap.size, 4, none⟩ = false) := by
  have hf : ∀ j, wr.frozen? ⟨w.heap.size, j, none⟩ = false := fun j => (hb.frozen (by simp)).trans (by simp only [World.frozen?, (MapKept.heap_alloc w (.cells #[v0, v1, v2, v3, v4] T)).1]; simp)
  exact ⟨⟨(hb.cell (by simp)).trans (by simp [go_sem]), (hb.cell (by simp)).trans (by simp [go_sem]), (hb.cell (by simp)).trans (by simp [go_sem]), (hb.cell (by simp)).trans (by simp [go_sem]), (hb.cell (by simp)).trans (by simp [go_sem])⟩, hf 0, hf 1, hf 2, hf 3, hf 4⟩

theorem five_set {w : World} {b : Nat} {u0 u1 u2 u3 u4 : Value} (v0 v1 v2 v3 v4 : Value) (h : w.cell? ⟨b, 0, none⟩ = some u0 ∧ w.cell? ⟨b, 1, none⟩ = some u1 ∧ w.cell? ⟨b, 2, none⟩ = some u2 ∧ w.cell? ⟨b, 3, none⟩ = some u3 ∧ w.cell? ⟨b, 4, none⟩ = some u4) :
    (((((w.setCell ⟨b, 0, none⟩ v0).setCell ⟨b, 1, none⟩ v1).setCell ⟨b, 2, none⟩ v2).setCell ⟨b, 3, none⟩ v3).setCell ⟨b, 4, none⟩ v4).cell? ⟨b, 0, none⟩ = some v0 ∧
    (((((w.setCell ⟨b, 0, none⟩ v0).setCell ⟨b, 1, none⟩ v1).setCell ⟨b, 2, none⟩ v2).setCell ⟨b, 3, none⟩ v3).setCell ⟨b, 4, none⟩ v4).cell? ⟨b, 1, none⟩ = some v1 ∧
    (((((w.setCell ⟨b, 0, none⟩ v0).setCell ⟨b, 1, none⟩ v1).setCell ⟨b, 2, none⟩ v2).setCell ⟨b, 3, none⟩ v3).setCell ⟨b, 4, none⟩ v4).cell? ⟨b, 2, none⟩ = some v2 ∧
    (((((w.setCell ⟨b, 0, none⟩ v0).setCell ⟨b, 1, none⟩ v1).setCell ⟨b, 2, none⟩ v2).setCell ⟨b, 3, none⟩ v3).setCell ⟨b, 4, none⟩ v4).cell? ⟨b, 3, none⟩ = some v3 ∧
    (((((w.setCell ⟨b, 0, none⟩ v0).setCell ⟨b, 1, none⟩ v1).setCell ⟨b, 2, none⟩ v2).setCell ⟨b, 3, none⟩ v3).setCell ⟨b, 4, none⟩ v4).cell? ⟨b, 4, none⟩ = some v4 := by
  obtain ⟨h0, h1, h2, h3, h4⟩ := h
  have o : ∀ (W : World) (i j : Nat) (v : Value), i ≠ j → (W.setCell ⟨b, i, none⟩ v).cell? ⟨b, j, none⟩ = W.cell? ⟨b, j, none⟩ := fun W i j v hij => World.cell?_setCell_other _ _ _ _ (by simp)
  have s : ∀ (W : World) (i : Nat) (v u : Value), W.cell? ⟨b, i, none⟩ = some u → (W.setCell ⟨b, i, none⟩ v).cell? ⟨b, i, none⟩ = some v := fun W i v u hu => World.cell?_setCell_same' _ _ _ (by rw [hu]; rfl)
  refine ⟨?_, ?_, ?_, ?_, ?_⟩
  · rw [o _ 4 0 _ (by omega), o _ 3 0 _ (by omega), o _ 2 0 _ (by omega), o _ 1 0 _ (by omega)]; exact s _ 0 _ u0 h0
  · rw [o _ 4 1 _ (by omega), o _ 3 1 _ (by omega), o _ 2 1 _ (by omega)]; exact s _ 1 _ u1 (by rw [o _ 0 1 _ (by omega)]; exact h1)
  · rw [o _ 4 2 _ (by omega), o _ 3 2 _ (by omega)]; exact s _ 2 _ u2 (by rw [o _ 1 2 _ (by omega), o _ 0 2 _ (by omega)]; exact h2)
  · rw [o _ 4 3 _ (by omega)]; exact s _ 3 _ u3 (by rw [o _ 2 3 _ (by omega), o _ 1 3 _ (by omega), o _ 0 3 _ (by omega)]; exact h3)
  · exact s _ 4 _ u4 (by rw [o _ 3 4 _ (by omega), o _ 2 4 _ (by omega), o _ 1 4 _ (by omega), o _ 0 4 _ (by omega)]; exact h4)

end Go.Proofs.YtgegdfmdcmgliaaGreatDoor
