/-
  The structs of package api that this seat's laws read, as Lean's: printed by a program of mine (structs.py).
-/
import Derived.Test.YtjiijiamhpkahaaRead
namespace Go.Proofs.Ytjiijiamhpkahaa
open Go.ChangeShapes Go.WideShapes Go.Deep Go.RowKit
theorem opens_t_int : Opens Try.prog 3 RInt := opens_int Try.underlying3 (by kernel_rfl)
theorem opens_t_bool : Opens Try.prog 4 RBool := opens_bool Try.underlying4 (by kernel_rfl)
theorem opens_t_sl_Bool : Opens Try.prog 22 (RSl RBool) := opens_slice Try.underlying22 (by kernel_rfl) (by decide) opens_t_bool
/-! ### api.Probe -/
structure Probe where
  place : Int
  pass : Bool
deriving DecidableEq
instance : Inhabited Probe := ⟨⟨0, false⟩⟩
def RProbe : Rd Probe :=
  ⟨2, fun x => [.int .i64 x.place, .bool x.pass],
    fun w x => RInt.ok w x.place ∧ RBool.ok w x.pass,
    fun x => RInt.bulk x.place + RBool.bulk x.pass, fun _ => rfl, fun _ u h => by simp only [List.mem_cons, List.not_mem_nil, or_false] at h; rcases h with rfl | rfl <;> rfl,
    fun _ _ _ hb h => ⟨RInt.mono _ _ _ hb (h.1), RBool.mono _ _ _ hb (h.2)⟩⟩
theorem opens_Probe : Opens Try.prog 37 RProbe := by
  refine ⟨by kernel_rfl, fun H enc w fuel cs x hx => ?_⟩
  obtain ⟨xs, n, _, hxe, hlen, hxl, hf⟩ := DataW.trod_struct Try.underlying37 hx
  rw [show Try.prog.cellsOf 37 = 2 by kernel_rfl] at hlen
  match cs, hlen, xs, hxl with
  | [c0, c1], _, [y0, y1], _ =>
    have g0 : DataW.trod enc Try.prog w 0 (fun _ => true) true n 3 [c0] = some y0 := by
      have this : DataW.trod enc Try.prog w 0 (fun _ => true) true n 3 (([c0, c1].drop 0).take (Try.prog.cellsOf 3)) = some y0 := hf 0 _ rfl
      rwa [show ([c0, c1].drop 0).take (Try.prog.cellsOf 3) = [c0] by rw [show Try.prog.cellsOf 3 = 1 by kernel_rfl]; rfl] at this
    obtain ⟨a0, e0, k0, b0⟩ := opens_t_int.2 H enc w n _ _ g0
    have g1 : DataW.trod enc Try.prog w 0 (fun _ => true) true n 4 [c1] = some y1 := by
      have this : DataW.trod enc Try.prog w 0 (fun _ => true) true n 4 (([c0, c1].drop 1).take (Try.prog.cellsOf 4)) = some y1 := hf 1 _ rfl
      rwa [show ([c0, c1].drop 1).take (Try.prog.cellsOf 4) = [c1] by rw [show Try.prog.cellsOf 4 = 1 by kernel_rfl]; rfl] at this
    obtain ⟨a1, e1, k1, b1⟩ := opens_t_bool.2 H enc w n _ _ g1
    refine ⟨⟨a0, a1⟩, ?_, ⟨k0, k1⟩, ?_⟩
    · obtain rfl : c0 = .int .i64 a0 := by have := List.cons.inj e0; exact this.1
      obtain rfl : c1 = .bool a1 := by have := List.cons.inj e1; exact this.1
      rfl
    · subst hxe
      simp only [RProbe, Rows.uptoBulk, Rows.uptoBulkAll, List.map_cons, List.map_nil]
      omega
theorem cells_Probe {w : World} {b off m k : Nat} {l : List Probe} {x : Probe} (h : SlAt RProbe w (some ⟨b, off, none⟩) m l) (hx : l[k]? = some x) :
    w.cell? ⟨b, off + k * 2, none⟩ = some (.int .i64 x.place) ∧ w.cell? ⟨b, off + k * 2 + 1, none⟩ = some (.bool x.pass) := by
  have hk := (List.getElem?_eq_some_iff.1 hx).1
  obtain ⟨b', off', hA, hc⟩ := h.2.1 (by have := h.1; omega)
  obtain ⟨rfl, rfl⟩ : b = b' ∧ off = off' := by simpa using hA
  exact ⟨hc k x hx 0 _ rfl, hc k x hx 1 _ rfl⟩

theorem opens_t_sl_Probe : Opens Try.prog 30 (RSl RProbe) := opens_slice Try.underlying30 (by kernel_rfl) (by decide) opens_Probe
end Go.Proofs.Ytjiijiamhpkahaa
