/-
  heads, of the program.
-/
import Derived.Test.YtgegdfmdcmgliaaGreatDoorClaimWC11
import Derived.Test.YtgegdfmdcmgliaaGreatDoorDigW
namespace Go.Proofs.YtgegdfmdcmgliaaGreatDoor.C11
open Go.ChangeShapes Go.WideShapes Go.Deep Go.RowKit
set_option linter.unusedVariables false

def H0 : ByteArray := ⟨#[48, 48, 48, 48, 48, 48, 48, 48, 48, 48, 48, 48, 48, 48, 48, 48]⟩
def headT (h : ByteArray) (x : Claimed) : ByteArray := h ++ ⟨#[32]⟩ ++ claimB x ++ ⟨#[32]⟩ ++ x.sign
def headF (h : ByteArray) (x : Claimed) : ByteArray := digF (headT h x).data.toList
/-- the head after the first k -/
def hdN (l : List Claimed) : Nat → ByteArray
  | 0 => H0
  | k + 1 => match l[k]? with | some x => headF (hdN l k) x | none => H0
def headsL (l : List Claimed) (k : Nat) : List ByteArray := (List.range (k + 1)).map (hdN l)
theorem hdN_size (l : List Claimed) : ∀ k, (hdN l k).size = 16
  | 0 => rfl
  | k + 1 => by
    rw [hdN]
    split
    · exact digF_size _
    · rfl
theorem hdN_step {l : List Claimed} {k : Nat} {x : Claimed} (h : l[k]? = some x) : hdN l (k + 1) = headF (hdN l k) x := by rw [hdN, h]
theorem headsL_len (l : List Claimed) (k : Nat) : (headsL l k).length = k + 1 := by simp [headsL]
theorem headsL_get {l : List Claimed} {k j : Nat} (h : j ≤ k) : (headsL l k)[j]? = some (hdN l j) := by
  unfold headsL
  rw [List.getElem?_map, List.getElem?_range (by omega)]
  rfl
theorem headsL_step {l : List Claimed} {k : Nat} {x : Claimed} (h : l[k]? = some x) : headsL l (k + 1) = headsL l k ++ [headF (hdN l k) x] := by
  unfold headsL
  rw [List.range_succ, List.map_append, List.map_cons, List.map_nil, hdN_step h]
theorem hdN_take {l : List Claimed} : ∀ {k n : Nat}, k ≤ n → hdN (l.take n) k = hdN l k
  | 0, _, _ => rfl
  | k + 1, n, h => by
    rw [hdN, hdN, hdN_take (by omega : k ≤ n), List.getElem?_take_of_lt (by omega)]
def HdRel (l : List Claimed) (w0 : World) (v i : Value) (wr : World) : Prop :=
  ∃ (k cap : Nat) (A : Option Addr), k ≤ l.length ∧ i = .int .i64 k ∧ v = .slice A (k + 1) cap ∧ Own RStr 9 wr w0.heap.size v (headsL l k) ∧ Below w0.heap.size w0 wr
theorem keep8 {W w' : World} {a0 a1 a2 a3 a4 a5 a6 a7 : Addr} {v0 v1 v2 v3 v4 v5 v6 v7 : Value} (hb : Below W.heap.size W w') (h : W.cell? a0 = some v0 ∧ W.cell? a1 = some v1 ∧ W.cell? a2 = some v2 ∧ W.cell? a3 = some v3 ∧ W.cell? a4 = some v4 ∧ W.cell? a5 = some v5 ∧ W.cell? a6 = some v6 ∧ W.cell? a7 = some v7) :
    w'.cell? a0 = some v0 ∧ w'.cell? a1 = some v1 ∧ w'.cell? a2 = some v2 ∧ w'.cell? a3 = some v3 ∧ w'.cell? a4 = some v4 ∧ w'.cell? a5 = some v5 ∧ w'.cell? a6 = some v6 ∧ w'.cell? a7 = some v7 := by
  obtain ⟨h0, h1, h2, h3, h4, h5, h6, h7⟩ := h
  exact ⟨(hb.cell (cell?_lt h0)).trans h0, (hb.cell (cell?_lt h1)).trans h1, (hb.cell (cell?_lt h2)).trans h2, (hb.cell (cell?_lt h3)).trans h3, (hb.cell (cell?_lt h4)).trans h4, (hb.cell (cell?_lt h5)).trans h5, (hb.cell (cell?_lt h6)).trans h6, (hb.cell (cell?_lt h7)).trans h7⟩
theorem own_one (w : World) (a : ByteArray) (hz : a.size ≤ maxLen) : Own RStr 9 (w.alloc (.cells #[.string a] 9)) w.heap.size (.slice (some ⟨w.heap.size, 0, none⟩) 1 1) [a] :=
  ⟨⟨by simp [RStr], .inr ⟨w.heap.size, 1, #[.string a], rfl, Nat.le_refl _, heap_alloc_new w _, by simp, by decide, by simp [RStr], by simp [RStr]⟩⟩, fun x hx => by rw [List.mem_singleton.1 hx]; exact hz⟩
theorem bytes_row (W : World) (s : ByteArray) (cap : Nat) (fr : Nat × Nat) : BytesAt (W.alloc (.cells (bytesRow s cap) 5 fr)) W.heap.size 0 s.data.toList := fun j c hj => by
  rw [World.cell?_alloc_mark]
  unfold bytesRow
  have hlt : j < s.data.size := by have := (List.getElem?_eq_some_iff.1 hj).1; simpa using this
  rw [Array.getElem?_append_left (by simpa using hlt)]
  simp only [Nat.zero_add, Array.getElem?_map]
  rw [← Array.getElem?_toList, hj]
  rfl

end Go.Proofs.YtgegdfmdcmgliaaGreatDoor.C11
