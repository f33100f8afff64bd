/-
  Numerals, rows of five words and strings.Join, for the texts of all chapters.
-/
import Derived.Test.YtgegdfmdcmgliaaGreatDoorShelf
import Derived.Test.YtgegdfmdcmgliaaGreatDoorOwn
import Derived.Test.YtgegdfmdcmgliaaGreatDoorStr
import Derived.Test.YtgegdfmdcmgliaaGreatDoorTake
import Derived.Lib.AppendIntMem
import Derived.Lib.ItoaLen
import Derived.Lib.Join
namespace Go.Proofs.YtgegdfmdcmgliaaGreatDoor
open Go.ChangeShapes Go.WideShapes Go.Deep Go.RowKit
set_option linter.unusedVariables false

/-- the numeral of a number -/
def itoJ (n : Int) : ByteArray := ⟨(Lib.itoa n).toArray⟩
theorem itoJ_size {n : Int} (h : I64 n) : (itoJ n).size ≤ 21 := by
  have := Lib.itoa_length_le n h.1 h.2
  show (Lib.itoa n).toArray.size ≤ 21
  rw [List.size_toArray]; omega
/-- the table of powers of ten is laid -/
def PowJ (w : World) : Prop := Lib.TabIs Tryz.prog w "internal/strconv.uint64pow10" .u64 Lib.pow10Tab
theorem PowJ.below {w w' : World} (h : PowJ w) (hb : Below w.heap.size w w') : PowJ w' := Lib.tabBelow_of_tabIs h w' hb
theorem itoJ_any (n : Int) (hn : I64 n) (w : World) (ht : PowJ w) : Calls Tryz.prog 40 #[.int .i64 n] w fun e w' => e = .returned (.string (itoJ n)) ∧ Below w.heap.size w w' := by
  refine (Tryz.strconv_Itoa n hn.1 hn.2 w ht).mono ?_
  rintro e w' ⟨rfl, k, os, rfl⟩
  exact ⟨rfl, Lib.below_grow _ _ (Nat.le_refl _) _ _⟩
theorem ownJ_five (w : World) (a b c d e : ByteArray) (hz : ∀ x ∈ [a, b, c, d, e], x.size ≤ maxLen) : Own RStr 9 (w.alloc (.cells #[.string a, .string b, .string c, .string d, .string e] 9)) w.heap.size (.slice (some ⟨w.heap.size, 0, none⟩) 5 5) [a, b, c, d, e] := by
  exact ⟨⟨by simp [RStr], .inr ⟨w.heap.size, 5, #[.string a, .string b, .string c, .string d, .string e], rfl, Nat.le_refl _, heap_alloc_new w _, by simp, by decide, by simp [RStr], by simp [RStr]⟩⟩, hz⟩
theorem joinJ_le (x : List UInt8) (r : List (List UInt8)) (K : Nat) (hx : x.length ≤ K) (hr : ∀ y ∈ r, y.length ≤ K) : (Lib.join (x :: r) [32]).length ≤ K + r.length * (K + 1) := by
  rw [Lib.join_cons, List.length_append]
  have : ∀ r : List (List UInt8), (∀ y ∈ r, y.length ≤ K) → (Lib.joinTail [32] r).length ≤ r.length * (K + 1) := by
    intro r
    induction r with
    | nil => intro _; simp [Lib.joinTail]
    | cons y s ih =>
      intro h
      have h1 := h y List.mem_cons_self
      have h2 := ih (fun z hz => h z (List.mem_cons_of_mem _ hz))
      have e : Lib.joinTail [32] (y :: s) = [32] ++ y ++ Lib.joinTail [32] s := by simp [Lib.joinTail]
      rw [e, List.length_append, List.length_append, List.length_singleton, List.length_cons, Nat.add_mul]
      omega
  have := this r hr
  omega
theorem joinJ_own (v : Value) (l : List ByteArray) (w : World) (base : Nat) (h : Own RStr 9 w base v l) (h0 : l ≠ []) (hl : l.length ≤ 1000) (hz : ∀ x ∈ l, x.size ≤ 403) :
    Calls Tryz.prog 42 #[v, .string ⟨#[32]⟩] w fun e w' => e = .returned (.string ⟨(Lib.join (l.map (·.data.toList)) [32]).toArray⟩) ∧ Below w.heap.size w w' := by
  obtain ⟨A, cap, rfl⟩ := h.form
  have hc := h.cap_le
  have hs := h.slAt
  obtain ⟨b, off, rfl, hcell⟩ := hs.2.1 (by cases l with | nil => exact absurd rfl h0 | cons x r => simp)
  have hcells : ∀ (j : Nat) x, l[j]? = some x → w.cell? ⟨b, off + j, none⟩ = some (.string x) := fun j x hx => by
    have := hcell j x hx 0 _ rfl
    simpa [RStr] using this
  have hb : b < w.heap.size := by
    cases l with
    | nil => exact absurd rfl h0
    | cons x r => exact cell?_lt (hcells 0 x rfl)
  refine Tryz.strings_Join b off cap l ⟨#[32]⟩ w hcells hb (by omega) hc ?_
  cases l with
  | nil => exact absurd rfl h0
  | cons x r =>
    have e : ∀ y : ByteArray, y.size = y.data.toList.length := fun y => by simp
    have := joinJ_le x.data.toList (r.map (·.data.toList)) 403 (by rw [← e]; exact hz x List.mem_cons_self) (fun y hy => by
      obtain ⟨z, hz1, rfl⟩ := List.mem_map.1 hy
      rw [← e]; exact hz z (List.mem_cons_of_mem _ hz1))
    rw [List.length_map] at this
    rw [List.length_cons] at hl
    have h3 : r.length * 404 ≤ 1000 * 404 := Nat.mul_le_mul_right _ (by omega)
    show (Lib.join ((x :: r).map (·.data.toList)) [32]).length ≤ _
    rw [List.map_cons]
    omega
theorem joinJ_size {l : List ByteArray} (hl : l.length ≤ 1000) (hz : ∀ x ∈ l, x.size ≤ 403) : (Lib.join (l.map (·.data.toList)) [32]).length ≤ 404 * l.length := by
  cases l with
  | nil => simp [Lib.join_nil]
  | cons x r =>
    have e : ∀ y : ByteArray, y.size = y.data.toList.length := fun y => by simp
    have := joinJ_le x.data.toList (r.map (·.data.toList)) 403 (by rw [← e]; exact hz x List.mem_cons_self) (fun y hy => by
      obtain ⟨z, hz1, rfl⟩ := List.mem_map.1 hy
      rw [← e]; exact hz z (List.mem_cons_of_mem _ hz1))
    rw [List.length_map] at this
    rw [List.map_cons, List.length_cons]
    omega
theorem keepJ5 {W w' : World} {a0 a1 a2 a3 a4 : Addr} {v0 v1 v2 v3 v4 : Value} (hb : Below W.heap.size W w') (h : W.cell? a0 = some v0 ∧ W.cell? a1 = some v1 ∧ W.cell? a2 = some v2 ∧ W.cell? a3 = some v3 ∧ W.cell? a4 = some v4) : w'.cell? a0 = some v0 ∧ w'.cell? a1 = some v1 ∧ w'.cell? a2 = some v2 ∧ w'.cell? a3 = some v3 ∧ w'.cell? a4 = some v4 := by
  obtain ⟨h0, h1, h2, h3, h4⟩ := h
  exact ⟨(hb.cell (cell?_lt h0)).trans h0, (hb.cell (cell?_lt h1)).trans h1, (hb.cell (cell?_lt h2)).trans h2, (hb.cell (cell?_lt h3)).trans h3, (hb.cell (cell?_lt h4)).trans h4⟩
theorem newJ5 (w : World) (v0 v1 v2 v3 v4 : Value) (T : TypeId) : (w.alloc (.cells #[v0, v1, v2, v3, v4] T)).cell? ⟨w.heap.size, 0, none⟩ = some v0 ∧ (w.alloc (.cells #[v0, v1, v2, v3, v4] T)).cell? ⟨w.heap.size, 1, none⟩ = some v1 ∧ (w.alloc (.cells #[v0, v1, v2, v3, v4] T)).cell? ⟨w.heap.size, 2, none⟩ = some v2 ∧ (w.alloc (.cells #[v0, v1, v2, v3, v4] T)).cell? ⟨w.heap.size, 3, none⟩ = some v3 ∧ (w.alloc (.cells #[v0, v1, v2, v3, v4] T)).cell? ⟨w.heap.size, 4, none⟩ = some v4 := by
  simp [go_sem]
theorem allocBel (w : World) (o : Obj) : Below w.heap.size w (w.alloc o) := (Below.refl _ _).alloc (Nat.le_refl _) o
end Go.Proofs.YtgegdfmdcmgliaaGreatDoor
