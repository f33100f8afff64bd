/-
  Rows of bools that a call itself made by 'make'.
-/
import Derived.Test.YtbapkhkklglbaaaDoorMap
import Derived.Laws.MakeOwn
namespace Go.Proofs.YtbapkhkklglbaaaDoor
open Go.ChangeShapes Go.WideShapes Go.Deep Go.RowKit
set_option linter.unusedVariables false

def BRow (w : World) (b n : Nat) (f : Nat → Bool) : Prop := ∀ j, j < n → w.cell? ⟨b, j, none⟩ = some (.bool (f j)) ∧ w.frozen? ⟨b, j, none⟩ = false
theorem BRow.keep {w w' : World} {b n : Nat} {f : Nat → Bool} (h : BRow w b n f) (hb : b < w.heap.size → w'.heap[b]? = w.heap[b]?) : BRow w' b n f := fun j hj => by
  have hlt : b < w.heap.size := cell?_lt (h j hj).1
  exact ⟨(World.cell?_of_block (a := ⟨b, j, none⟩) (hb hlt)).trans (h j hj).1, (World.frozen?_of_block (a := ⟨b, j, none⟩) (hb hlt)).trans (h j hj).2⟩
theorem BRow.below {w w' : World} {b n K : Nat} {f : Nat → Bool} (h : BRow w b n f) (hb : Below K w w') (hK : b < K) : BRow w' b n f := h.keep fun _ => hb.block b hK
theorem BRow.kept {w w' : World} {b n : Nat} {f : Nat → Bool} {row : Option Nat} (h : BRow w b n f) (hg : w.grownBy w' row) (hne : some b ≠ row) : BRow w' b n f := h.keep fun hlt => hg.block b hlt hne
theorem BRow.set {w : World} {b n k : Nat} {f : Nat → Bool} (h : BRow w b n f) (u : Bool) : BRow (w.setCell ⟨b, k, none⟩ (.bool u)) b n (fun j => if j = k then u else f j) := fun j hj => by
  refine ⟨?_, by rw [World.frozen?_setCell]; exact (h j hj).2⟩
  by_cases e : j = k
  · subst e
    simp only [if_true]
    exact World.cell?_setCell_same' _ _ _ (by rw [(h j hj).1]; rfl)
  · simp only [if_neg e]
    rw [World.cell?_setCell_other _ _ _ _ (by simp <;> omega)]
    exact (h j hj).1
theorem grown_setc (w : World) (a : Addr) (u : Value) : w.grownBy (w.setCell a u) (some a.block) :=
  ⟨rfl, rfl, rfl, by simp, fun k _ hne => heap_setCell_other w a k u (fun e => hne (by rw [e]))⟩

def madeB (n : Nat) : Array Value := madeCells (Value.bool false).cells (n * 1)
theorem run_makeB (n : Nat) (hn : n ≤ 1000000) (W : World) : (Instr.makeSlice 36 (.int .i64 (n : Int)) (.int .i64 (n : Int))).run Tryd.prog W = .ok (.slice (some ⟨W.heap.size, 0, none⟩) n n) (W.alloc (.cells (madeB n) 4)) := by
  obtain ⟨i, z, hi, hz, hz1, hz2, hz3⟩ : ∃ i z, Tryd.prog.info? 4 = some i ∧ i.zero = some z ∧ i.size = 1 ∧ i.bytes = 1 ∧ z = .bool false := by
    obtain ⟨i, h1, h2, h3, h4⟩ := info_parts (z := .bool false) (size := 1) (bytes := 1) (show (Tryd.prog.info? 4).map (fun i => (i.zero, i.size, i.bytes)) = some (some (.bool false), 1, 1) by kernel_rfl)
    exact ⟨i, _, h1, h2, h3, h4, rfl⟩
  subst hz3
  have := run_make (P := Tryd.prog) W 36 4 i (.bool false) Tryd.underlying36 hi hz .i64 .i64 (n : Int) (n : Int) (by omega) (Int.le_refl _) (by rw [hz2]; omega) (by omega)
  rw [this, hz1]
  simp only [Int.toNat_natCast]
  rfl
theorem madeB_get (n j : Nat) (hj : j < n) : (madeB n)[j]? = some (.bool false) := by
  unfold madeB madeCells
  simp [Value.cells, hj, Nat.mod_one]
theorem BRow.made (w : World) (n : Nat) : BRow (w.alloc (.cells (madeB n) 4)) w.heap.size n (fun _ => false) := fun j hj => by
  refine ⟨?_, ?_⟩
  · have : (w.alloc (.cells (madeB n) 4)).cell? ⟨w.heap.size, j, none⟩ = (madeB n)[j]? := by simp [go_sem]
    rw [this]; exact madeB_get n j hj
  · simp [go_sem]
end Go.Proofs.YtbapkhkklglbaaaDoor
