/-
  A strings.Builder that a call itself made: what it holds, and what WriteString, Len and String do.
-/
import Derived.Test.YtgegdfmdcmgliaaGreatDoorShelf
import Derived.Test.YtgegdfmdcmgliaaGreatDoorStr
import Derived.Lib.Builder
import Derived.Lib.UnsafeStr
import Derived.Lib.AppendStr
import Derived.Lib.Strings
import Derived.Lib.Slices
import Derived.Lib.Walk
import Derived.Laws.Externs
import Derived.WalkKit
namespace Go.Proofs.YtgegdfmdcmgliaaGreatDoor
open Go.RowKit
set_option linter.unusedVariables false

/-- the builder at block b holds the bytes l -/
def BldAt (B b : Nat) (l : List UInt8) (w : World) : Prop := Lib.IsBuilder 73 5 B b (Lib.byteCells l) w
theorem bldAt_below {T e : TypeId} {B b : Nat} {p : Value} {bs : List Value} {w w' : World} (h : Lib.BuilderAt T e B b p bs w) (hb : Below w.heap.size w w') : Lib.BuilderAt T e B b p bs w' := by
  have hlt := h.lt
  obtain ⟨hB, v, hk, hown, hne⟩ := h
  exact ⟨hB, v, (hb.block b hlt).trans hk, hown.kept (row := none) ⟨hb.os, hb.tape, hb.output, hb.size, fun k hk _ => hb.block k hk⟩ (by
    cases hv : v.ownBlock
    · exact .inl rfl
    · exact .inr (by simp)), hne⟩
theorem BldAt.below {B b : Nat} {l : List UInt8} {w w' : World} (h : BldAt B b l w) (hb : Below w.heap.size w w') : BldAt B b l w' := by
  rcases h with h | h
  · exact .inl (bldAt_below h hb)
  · exact .inr (bldAt_below h hb)
theorem BldAt.lt {B b : Nat} {l : List UInt8} {w : World} (h : BldAt B b l w) : b < w.heap.size := by
  rcases h with h | h <;> exact h.lt
theorem BldAt.made (w : World) : BldAt w.heap.size w.heap.size [] (w.alloc (.cells #[.pointer none, .slice none 0 0] 73)) := Lib.fresh_isBuilder _ _ w
/-! ### copyCheck and WriteString: walked here, for the shelf's contracts do not fit this program's copyCheck (its last branch is refused by the loader) -/
theorem bld_info : (Tryz.prog.info? 73).map (·.size) = some 2 := by kernel_rfl
theorem bld_lies : liesAt Tryz.prog Tryz.prog.depth 73 (2 / Tryz.prog.cellsOf 73) 0 73 1 = true := by kernel_rfl
theorem byte_info : (Tryz.prog.info? 5).map (fun i => (i.zero, i.size, i.bytes)) = some (some (.int .u8 0), 1, 1) := by kernel_rfl

set_option maxHeartbeats 1000000 in
set_option maxRecDepth 100000 in
theorem check_used (b : Nat) (w : World) (h0 : w.cell? ⟨b, 0, none⟩ = some (.pointer (some ⟨b, 0, none⟩))) :
    Calls Tryz.prog 74 #[.pointer (some ⟨b, 0, none⟩)] w fun e w' => e = .returned (.tuple #[]) ∧ w' = w := by
  obtain ⟨j, hj, _⟩ := Option.map_eq_some_iff.1 bld_info
  go_enter Tryz.func74, Tryz.ntmps74
  go_wp2
  rw [Lib.run_neq_ptr_same w _ Tryz.underlying70 hj]
  go_wp2
  go_end0
  exact ⟨rfl, rfl⟩

set_option maxHeartbeats 1000000 in
set_option maxRecDepth 100000 in
theorem check_fresh (b : Nat) (w : World) (h0 : w.cell? ⟨b, 0, none⟩ = some (.pointer none)) (hsh : w.shape? b = some (73, 2)) (hfz : w.frozen? ⟨b, 0, none⟩ = false) :
    Calls Tryz.prog 74 #[.pointer (some ⟨b, 0, none⟩)] w fun e w' => e = .returned (.tuple #[]) ∧ w' = w.setCell ⟨b, 0, none⟩ (.pointer (some ⟨b, 0, none⟩)) := by
  obtain ⟨j, hj, hjs⟩ := Option.map_eq_some_iff.1 bld_info
  go_enter Tryz.func74, Tryz.ntmps74
  go_wp2
  rw [Lib.run_to_unsafe w ⟨b, 0, none⟩ Tryz.underlying70 Tryz.underlying133 hj (by rw [hjs]; decide) hsh (Nat.zero_lt_succ 1)]
  simp only [Result.andThen]
  rw [Oper.upon_value]
  go_wp2
  rw [run_callFunc_extern Tryz.func106 (by kernel_rfl) (by kernel_rfl) (by kernel_rfl) (e := Extern.AbiNoEscape.same) (by kernel_rfl)]
  rw [Lib.run_noEscape]
  simp only [Result.andThen]
  rw [Oper.upon_value]
  go_wp2
  rw [Lib.run_from_unsafe w ⟨b, 0, none⟩ Tryz.underlying133 Tryz.underlying70 hj hsh bld_lies]
  simp only [Result.andThen]
  rw [Oper.upon_value]
  go_wp2
  go_end0
  exact ⟨rfl, rfl⟩
theorem check_any (B b : Nat) (l : List UInt8) (w : World) (h : BldAt B b l w) :
    Calls Tryz.prog 74 #[.pointer (some ⟨b, 0, none⟩)] w fun e w' => e = .returned (.tuple #[]) ∧ Lib.BuilderAt 73 5 B b (.pointer (some ⟨b, 0, none⟩)) (Lib.byteCells l) w' ∧ Below B w w' ∧ ∀ q, q ≠ b → w'.heap[q]? = w.heap[q]? := by
  rcases h with h | h
  · refine (check_fresh b w h.cell0 h.shape h.frozen0).mono ?_
    rintro e w' ⟨rfl, rfl⟩
    exact ⟨rfl, h.used _, (Below.refl B w).setCell (p := ⟨b, 0, none⟩) h.1 _, fun q hq => heap_setCell_other w ⟨b, 0, none⟩ q _ hq⟩
  · refine (check_used b w h.cell0).mono ?_
    rintro e w' ⟨rfl, rfl⟩
    exact ⟨rfl, h, Below.refl B _, fun _ _ => rfl⟩

set_option maxHeartbeats 2000000 in
set_option maxRecDepth 100000 in
theorem bld_write (B b : Nat) (l : List UInt8) (s : ByteArray) (w : World) (h : BldAt B b l w) (hlen : l.length + s.size ≤ 140737488355328) (hB : B ≤ w.heap.size) :
    Calls Tryz.prog 41 #[.pointer (some ⟨b, 0, none⟩), .string s] w fun e w' => e = .returned (.tuple #[.int .i64 s.size, .nilIface]) ∧ BldAt B b (l ++ s.data.toList) w' ∧ Below B w w' ∧ ∀ q cs T fr, w.heap[q]? = some (.cells cs T fr) → T ≠ 5 → q ≠ b → w'.heap[q]? = some (.cells cs T fr) := by
  obtain ⟨i0, hi, hz0, hz1, hz2⟩ := info_parts byte_info
  obtain ⟨bs, hbs⟩ : ∃ bs, Lib.byteCells l = bs := ⟨_, rfl⟩
  have hbl : bs.length = l.length := by rw [← hbs, Lib.byteCells_length]
  go_enter Tryz.func41, Tryz.ntmps41
  go_wp2_with fail
  refine (check_any B b l _ h).mono ?_
  rintro e w1 ⟨rfl, h1, hb1, hoth⟩
  rw [hbs] at h1
  have hothH := Lib.hid hoth
  clear hoth
  obtain ⟨hBb, v, hbk, hown, hne⟩ := h1
  have c0 : w1.cell? ⟨b, 0, none⟩ = some (.pointer (some ⟨b, 0, none⟩)) := by rw [Lib.cell_of_heap hbk]; rfl
  have c1 : w1.cell? ⟨b, 1, none⟩ = some v := by rw [Lib.cell_of_heap hbk]; rfl
  go_wp2_with (at_builtin; refine Lib.wpList_append_own_string _ rfl _ _ 71 9 rfl B 5 i0 Tryz.underlying71 Tryz.underlying9 hi hz0 hz1 hz2 _ _ _ rfl hown s rfl ?c3 ?c4 ?c5 ?_)
  case c3 => unfold maxLen; omega
  case c4 => omega
  case c5 => have := hb1.size; omega
  intro v' w2 hown' hgrow _
  have hlt : b < w1.heap.size := by
    rcases Nat.lt_or_ge b w1.heap.size with h' | h'
    · exact h'
    · simp [Array.getElem?_eq_none h'] at hbk
  have hb2 : w2.heap[b]? = some (.cells #[.pointer (some ⟨b, 0, none⟩), v] 73 (0, 0)) := by
    rw [hgrow.block b hlt (fun e => hne e.symm)]
    exact hbk
  have d0 : w2.cell? ⟨b, 0, none⟩ = some (.pointer (some ⟨b, 0, none⟩)) := by rw [Lib.cell_of_heap hb2]; rfl
  have d1 : w2.cell? ⟨b, 1, none⟩ = some v := by rw [Lib.cell_of_heap hb2]; rfl
  have f1 : w2.frozen? ⟨b, 1, none⟩ = false := Lib.frozen_of_heap hb2 1
  obtain ⟨ao, n', cap, rfl⟩ : ∃ ao n' cap, v' = .slice ao n' cap := by
    rcases hown'.2 with ⟨hv, _⟩ | ⟨g, cap, cur, hv, _⟩
    · exact ⟨_, _, _, hv⟩
    · exact ⟨_, _, _, hv⟩
  go_wp2
  go_ret2
  refine ⟨rfl, .inr ?_, ?_, ?_⟩
  · have := Lib.BuilderAt.put (T := 73) (e := 5) (p := .pointer (some ⟨b, 0, none⟩)) hBb hb2 (bs' := bs ++ Lib.strCells s) (by simpa [Lib.strCells_length, hbl] using hown') (by decide)
    rw [← hbs, Lib.strCells_eq, ← Lib.byteCells_append] at this
    exact this
  · exact (hb1.grown hgrow (by have := hb1.size; omega) (fun k hk => (hown.lt k hk).1)).setCell (p := ⟨b, 1, none⟩) hBb _
  · intro q cs T fr hq hT hqb
    have h1 : w1.heap[q]? = some (.cells cs T fr) := (hothH.out q hqb).trans hq
    have hq1 : q < w1.heap.size := by
      rcases Nat.lt_or_ge q w1.heap.size with h' | h'
      · exact h'
      · simp [Array.getElem?_eq_none h'] at h1
    have h2 := hgrow.block q hq1 (fun e => Lib.ownBlock_ne hown h1 hT e.symm)
    exact (heap_setCell_other w2 ⟨b, 1, none⟩ q _ hqb).trans (h2.trans h1)
theorem bld_len (B b : Nat) (l : List UInt8) (w : World) (h : BldAt B b l w) :
    Calls Tryz.prog 43 #[.pointer (some ⟨b, 0, none⟩)] w fun e w' => e = .returned (.int .i64 l.length) ∧ w = w' := by
  refine (Tryz.Builder_Len B b (Lib.byteCells l) w h).mono ?_
  rintro e w' ⟨rfl, rfl⟩
  rw [Lib.byteCells_length]
  exact ⟨rfl, rfl⟩
theorem bld_str (B b : Nat) (l : List UInt8) (w : World) (h : BldAt B b l w) (hB : B ≤ w.heap.size) :
    Calls Tryz.prog 44 #[.pointer (some ⟨b, 0, none⟩)] w fun e w' => e = .returned (.string ⟨l.toArray⟩) ∧ Below B w w' :=
  Tryz.Builder_String_any B b l w h hB
end Go.Proofs.YtgegdfmdcmgliaaGreatDoor
