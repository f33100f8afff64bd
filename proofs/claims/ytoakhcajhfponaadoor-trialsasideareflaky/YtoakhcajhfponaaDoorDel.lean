/-
  slices.DeleteFunc on a row of numbers that a call itself made.
-/
import Derived.Test.YtoakhcajhfponaaDoorOwn
import Derived.Test.YtoakhcajhfponaaDoorShelfF
import Derived.Shelf.SlicesE.DeleteFunc
import Derived.Sort.OwnSortedInts
import Derived.Lib.OwnBridge
namespace Go.Proofs.YtoakhcajhfponaaDoor
open Go.ChangeShapes Go.WideShapes Go.Deep Go.RowKit Go.Sort
set_option linter.unusedVariables false

theorem elem_Int : Elem Tryd.prog 3 RInt.size 8 := elem_of (z := .int .i64 0) (by kernel_rfl) (by decide)
theorem vals_int (l : List Int) : l.flatMap RInt.vals = l.map (Value.int .i64) := by
  induction l with
  | nil => rfl
  | cons x s ih => rw [List.flatMap_cons, ih]; rfl

set_option maxHeartbeats 1000000 in
theorem idx_none (g : Nat) (lb : Array Value) (w : World) :
    Calls Tryd.prog 191 #[.slice none 0 0, .func (.func g) #[] lb] w fun e w' => e = .returned (.int .i64 (-1)) ∧ w = w' := by
  go_enter Tryd.func191, Tryd.ntmps191
  go_wp2_with fail
  go_loopw [8] (fun i wr => i = .int .i64 0 ∧ w = wr) (fun i _ => 0)
  case atStart => exact ⟨rfl, rfl⟩
  case round =>
    obtain ⟨rfl, rfl⟩ := hrel
    go_wp2
    go_ret
    exact ⟨rfl, rfl⟩
set_option maxHeartbeats 1000000 in
theorem del_none (g : Nat) (lb : Array Value) (w : World) :
    Calls Tryd.prog 152 #[.slice none 0 0, .func (.func g) #[] lb] w fun e w' => e = .returned (.slice none 0 0) ∧ w = w' := by
  go_enter Tryd.func152, Tryd.ntmps152
  go_wp2_with fail
  refine (idx_none g lb w).mono ?_
  rintro e w' ⟨rfl, rfl⟩
  go_wp2
  go_ret
  exact ⟨rfl, rfl⟩

theorem del_own (g : Nat) (lb : Array Value) (eg : ∀ args w, (callFunc g args).run Tryd.prog w = .ok (.enter g args) w) (p : Int → Bool) (A : Option Addr) (n cap : Nat) (l : List Int) (w : World) (base : Nat) (h : Own RInt 3 w base (.slice A n cap) l) (hn : n ≤ 1000000)
    (hp : ∀ W x, w.grownBy W (Value.ownBlock (.slice A n cap)) → Calls Tryd.prog g (#[.int .i64 x] ++ lb) W fun e w' => e = .returned (.bool (p x)) ∧ ∃ q, w' = W.drewN q) :
    Calls Tryd.prog 152 #[.slice A n cap, .func (.func g) #[] lb] w fun e w' => ∃ k, e = .returned (.slice A k cap) ∧ Own RInt 3 w' base (.slice A k cap) (l.filter (fun x => !p x)) ∧ w.grownBy w' (Value.ownBlock (.slice A n cap)) := by
  have hl := h.len
  have hown := h.1
  rw [vals_int] at hown
  rcases h.1.2 with ⟨e0, hn0⟩ | ⟨b, cap', cur, e0, hb, hg, h1, h2, h3, h4⟩
  · injection e0 with e1 e2 e3
    subst e1 e2 e3
    obtain rfl : l = [] := List.eq_nil_of_length_eq_zero hl
    refine (del_none g lb w).mono ?_
    rintro e w' ⟨rfl, rfl⟩
    exact ⟨0, rfl, by simpa using h, World.grownBy.refl _ _⟩
  · injection e0 with e1 e2 e3
    subst e1 e3
    subst e2
    rw [vals_int] at h4
    have hH := holds_of_blockI (ss := l) hg (by simpa [RInt] using h4)
    have hc := AnyE.slices_DeleteFunc Tryd.delI (Value.int .i64) (fun _ => rfl) p g lb eg 0 Tryd.zeroValue3 b 0 cap l.toArray w
      (fun W x hW => hp W x ⟨hW.os, hW.tape, hW.output, hW.size, fun k hk _ => hW.block k hk⟩)
      (fun m os dk x _ => hp _ x (grownBy_sortedI (n := m) (os := os) dk)) hH (by simp; omega) (by simpa using h1)
    rw [List.size_toArray] at hc
    refine hc.mono ?_
    rintro e w' ⟨rfl, q, rfl⟩
    have hk : (l.filter fun x => !p x).length ≤ l.length := List.length_filter_le _ _
    have hr := Lib.ownsRow_putRow (q := q) (k := (l.filter fun x => !p x).length) (zs := l) (ys := (l.filter fun x => !p x) ++ List.replicate (l.length - (l.filter fun x => !p x).length) 0) hown (by simp; omega) hk
    rw [List.take_left] at hr
    refine ⟨_, rfl, ⟨?_, fun x hx => h.2 x (List.mem_filter.1 hx).1⟩, ?_⟩
    · rw [vals_int]
      simpa [show RInt.size = 1 from rfl] using hr
    · have := grownBy_sortedI (w := w) (g := b) (n := q) (os := #[]) ((l.filter fun x => !p x) ++ List.replicate (l.length - (l.filter fun x => !p x).length) 0).toArray
      rw [grow_empty] at this
      simpa [Value.ownBlock] using this
end Go.Proofs.YtoakhcajhfponaaDoor
