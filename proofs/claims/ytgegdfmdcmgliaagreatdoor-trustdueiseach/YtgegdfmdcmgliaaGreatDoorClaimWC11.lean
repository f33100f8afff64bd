/-
  claim, of the program and of the reference.
-/
import Derived.Test.YtgegdfmdcmgliaaGreatDoorClaimBC11
import Derived.Test.YtgegdfmdcmgliaaGreatDoorShelf
namespace Go.Proofs.YtgegdfmdcmgliaaGreatDoor.C11
open Go.ChangeShapes Go.WideShapes Go.Deep Go.RowKit
set_option linter.unusedVariables false

/-- the table of powers of ten is laid -/
def PowTab (w : World) : Prop := Lib.TabIs Tryz.prog w "internal/strconv.uint64pow10" .u64 Lib.pow10Tab
theorem PowTab.below {w w' : World} (h : PowTab w) (hb : Below w.heap.size w w') : PowTab w' := Lib.tabBelow_of_tabIs h w' hb
theorem itoa_any (n : Int) (hn : I64 n) (w : World) (ht : PowTab w) : Calls Tryz.prog 40 #[.int .i64 n] w fun e w' => e = .returned (.string (itoaS n)) ∧ Below w.heap.size w w' := by
  refine (Tryz.strconv_Itoa n hn.1 hn.2 w ht).mono ?_
  rintro e w' ⟨rfl, k, os, rfl⟩
  exact ⟨rfl, Lib.below_grow _ _ (Nat.le_refl _) _ _⟩
theorem elem_StrC : Elem Tryz.prog 9 RStr.size 16 := elem_of (z := .string ByteArray.empty) (by kernel_rfl) (by decide)
theorem keep6 {W w' : World} {a0 a1 a2 a3 a4 a5 : Addr} {v0 v1 v2 v3 v4 v5 : Value} (hb : Below W.heap.size W w') (h : W.cell? a0 = some v0 ∧ W.cell? a1 = some v1 ∧ W.cell? a2 = some v2 ∧ W.cell? a3 = some v3 ∧ W.cell? a4 = some v4 ∧ W.cell? a5 = some v5) :
    w'.cell? a0 = some v0 ∧ w'.cell? a1 = some v1 ∧ w'.cell? a2 = some v2 ∧ w'.cell? a3 = some v3 ∧ w'.cell? a4 = some v4 ∧ w'.cell? a5 = some v5 :=
  ⟨(hb.cell (cell?_lt h.1)).trans h.1, (hb.cell (cell?_lt h.2.1)).trans h.2.1, (hb.cell (cell?_lt h.2.2.1)).trans h.2.2.1, (hb.cell (cell?_lt h.2.2.2.1)).trans h.2.2.2.1, (hb.cell (cell?_lt h.2.2.2.2.1)).trans h.2.2.2.2.1, (hb.cell (cell?_lt h.2.2.2.2.2)).trans h.2.2.2.2.2⟩
theorem keep6b {B b : Nat} {W w' : World} {v0 v1 v2 v3 v4 v5 : Value} (hb : Below B W w') (hlt : b < B) (h : W.cell? ⟨b, 0, none⟩ = some v0 ∧ W.cell? ⟨b, 1, none⟩ = some v1 ∧ W.cell? ⟨b, 2, none⟩ = some v2 ∧ W.cell? ⟨b, 3, none⟩ = some v3 ∧ W.cell? ⟨b, 4, none⟩ = some v4 ∧ W.cell? ⟨b, 5, none⟩ = some v5) :
    w'.cell? ⟨b, 0, none⟩ = some v0 ∧ w'.cell? ⟨b, 1, none⟩ = some v1 ∧ w'.cell? ⟨b, 2, none⟩ = some v2 ∧ w'.cell? ⟨b, 3, none⟩ = some v3 ∧ w'.cell? ⟨b, 4, none⟩ = some v4 ∧ w'.cell? ⟨b, 5, none⟩ = some v5 :=
  ⟨(hb.cell hlt).trans h.1, (hb.cell hlt).trans h.2.1, (hb.cell hlt).trans h.2.2.1, (hb.cell hlt).trans h.2.2.2.1, (hb.cell hlt).trans h.2.2.2.2.1, (hb.cell hlt).trans h.2.2.2.2.2⟩
theorem own_five (w : World) (a b c d e : ByteArray) (hz : ∀ x ∈ [a, b, c, d, e], x.size ≤ maxLen) : Own RStr 9 (w.alloc (.cells #[.string a, .string b, .string c, .string d, .string e] 9)) w.heap.size (.slice (some ⟨w.heap.size, 0, none⟩) 5 5) [a, b, c, d, e] := by
  exact ⟨⟨by simp [RStr], .inr ⟨w.heap.size, 5, #[.string a, .string b, .string c, .string d, .string e], rfl, Nat.le_refl _, heap_alloc_new w _, by simp, by decide, by simp [RStr], by simp [RStr]⟩⟩, hz⟩
theorem join_own (v : Value) (l : List ByteArray) (w : World) (base : Nat) (h : Own RStr 9 w base v l) (h0 : l ≠ []) (hl : l.length ≤ 1000) (hz : ∀ x ∈ l, x.size ≤ 403) :
    Calls Tryz.prog 42 #[v, .string ⟨#[32]⟩] w fun e w' => e = .returned (.string ⟨(Lib.join (l.map (·.data.toList)) [32]).toArray⟩) ∧ Below w.heap.size w w' := by
  obtain ⟨A, cap, rfl⟩ := h.form
  have hc := h.cap_le
  have hs := h.slAt
  obtain ⟨b, off, rfl, hcell⟩ := hs.2.1 (by cases l with | nil => exact absurd rfl h0 | cons x r => simp)
  have hcells : ∀ (j : Nat) x, l[j]? = some x → w.cell? ⟨b, off + j, none⟩ = some (.string x) := fun j x hx => by
    have := hcell j x hx 0 _ rfl
    simpa [RStr] using this
  have hb : b < w.heap.size := by
    cases l with
    | nil => exact absurd rfl h0
    | cons x r => exact cell?_lt (hcells 0 x rfl)
  refine Tryz.strings_Join b off cap l ⟨#[32]⟩ w hcells hb (by omega) hc ?_
  cases l with
  | nil => exact absurd rfl h0
  | cons x r =>
    have e : ∀ y : ByteArray, y.size = y.data.toList.length := fun y => by simp
    have := join_le x.data.toList (r.map (·.data.toList)) 403 (by rw [← e]; exact hz x List.mem_cons_self) (fun y hy => by
      obtain ⟨z, hz1, rfl⟩ := List.mem_map.1 hy
      rw [← e]; exact hz z (List.mem_cons_of_mem _ hz1))
    rw [List.length_map] at this
    rw [List.length_cons] at hl
    have h3 : r.length * 404 ≤ 1000 * 404 := Nat.mul_le_mul_right _ (by omega)
    show (Lib.join ((x :: r).map (·.data.toList)) [32]).length ≤ _
    rw [List.map_cons]
    omega

end Go.Proofs.YtgegdfmdcmgliaaGreatDoor.C11
