/-
  The structs of package api that this seat's laws read, as Lean's: printed by a program of mine (structs.py).
-/
import Derived.Test.YtgalaeeppalljaaDoorRead
namespace Go.Proofs.YtgalaeeppalljaaDoor
open Go.ChangeShapes Go.WideShapes Go.Deep Go.RowKit
theorem opens_t_int : Opens Tryd.prog 3 RInt := opens_int Tryd.underlying3 (by kernel_rfl)
theorem opens_t_bool : Opens Tryd.prog 4 RBool := opens_bool Tryd.underlying4 (by kernel_rfl)
theorem opens_t_str : Opens Tryd.prog 9 RStr := opens_str Tryd.underlying9 (by kernel_rfl)
theorem opens_t_sl_Str : Opens Tryd.prog 24 (RSl RStr) := opens_slice Tryd.underlying24 (by kernel_rfl) (by decide) opens_t_str
/-! ### api.TestRun -/
structure TestRun where
  test : ByteArray
  key : ByteArray
  at_ : Int
  pass : Bool
  seconds : Int
deriving DecidableEq
instance : Inhabited TestRun := ⟨⟨ByteArray.empty, ByteArray.empty, 0, false, 0⟩⟩
def RTestRun : Rd TestRun :=
  ⟨5, fun x => [.string x.test, .string x.key, .int .i64 x.at_, .bool x.pass, .int .i64 x.seconds],
    fun w x => RStr.ok w x.test ∧ RStr.ok w x.key ∧ RInt.ok w x.at_ ∧ RBool.ok w x.pass ∧ RInt.ok w x.seconds,
    fun x => RStr.bulk x.test + RStr.bulk x.key + RInt.bulk x.at_ + RBool.bulk x.pass + RInt.bulk x.seconds, fun _ => rfl, fun _ u h => by simp only [List.mem_cons, List.not_mem_nil, or_false] at h; rcases h with rfl | rfl | rfl | rfl | rfl <;> rfl,
    fun _ _ _ hb h => ⟨RStr.mono _ _ _ hb (h.1), RStr.mono _ _ _ hb (h.2.1), RInt.mono _ _ _ hb (h.2.2.1), RBool.mono _ _ _ hb (h.2.2.2.1), RInt.mono _ _ _ hb (h.2.2.2.2)⟩⟩
set_option maxRecDepth 100000 in
theorem opens_TestRun : Opens Tryd.prog 40 RTestRun := by
  refine ⟨by kernel_rfl, fun H enc w fuel cs x hx => ?_⟩
  obtain ⟨xs, n, _, hxe, hlen, hxl, hf⟩ := DataW.trod_struct Tryd.underlying40 hx
  rw [show Tryd.prog.cellsOf 40 = 5 by kernel_rfl] at hlen
  match cs, hlen, xs, hxl with
  | [c0, c1, c2, c3, c4], _, [y0, y1, y2, y3, y4], _ =>
    have g0 : DataW.trod enc Tryd.prog w 0 (fun _ => true) true n 9 [c0] = some y0 := by
      have this : DataW.trod enc Tryd.prog w 0 (fun _ => true) true n 9 (([c0, c1, c2, c3, c4].drop 0).take (Tryd.prog.cellsOf 9)) = some y0 := hf 0 _ rfl
      rwa [show ([c0, c1, c2, c3, c4].drop 0).take (Tryd.prog.cellsOf 9) = [c0] by rw [show Tryd.prog.cellsOf 9 = 1 by kernel_rfl]; rfl] at this
    obtain ⟨a0, e0, k0, b0⟩ := opens_t_str.2 H enc w n _ _ g0
    have g1 : DataW.trod enc Tryd.prog w 0 (fun _ => true) true n 9 [c1] = some y1 := by
      have this : DataW.trod enc Tryd.prog w 0 (fun _ => true) true n 9 (([c0, c1, c2, c3, c4].drop 1).take (Tryd.prog.cellsOf 9)) = some y1 := hf 1 _ rfl
      rwa [show ([c0, c1, c2, c3, c4].drop 1).take (Tryd.prog.cellsOf 9) = [c1] by rw [show Tryd.prog.cellsOf 9 = 1 by kernel_rfl]; rfl] at this
    obtain ⟨a1, e1, k1, b1⟩ := opens_t_str.2 H enc w n _ _ g1
    have g2 : DataW.trod enc Tryd.prog w 0 (fun _ => true) true n 3 [c2] = some y2 := by
      have this : DataW.trod enc Tryd.prog w 0 (fun _ => true) true n 3 (([c0, c1, c2, c3, c4].drop 2).take (Tryd.prog.cellsOf 3)) = some y2 := hf 2 _ rfl
      rwa [show ([c0, c1, c2, c3, c4].drop 2).take (Tryd.prog.cellsOf 3) = [c2] by rw [show Tryd.prog.cellsOf 3 = 1 by kernel_rfl]; rfl] at this
    obtain ⟨a2, e2, k2, b2⟩ := opens_t_int.2 H enc w n _ _ g2
    have g3 : DataW.trod enc Tryd.prog w 0 (fun _ => true) true n 4 [c3] = some y3 := by
      have this : DataW.trod enc Tryd.prog w 0 (fun _ => true) true n 4 (([c0, c1, c2, c3, c4].drop 3).take (Tryd.prog.cellsOf 4)) = some y3 := hf 3 _ rfl
      rwa [show ([c0, c1, c2, c3, c4].drop 3).take (Tryd.prog.cellsOf 4) = [c3] by rw [show Tryd.prog.cellsOf 4 = 1 by kernel_rfl]; rfl] at this
    obtain ⟨a3, e3, k3, b3⟩ := opens_t_bool.2 H enc w n _ _ g3
    have g4 : DataW.trod enc Tryd.prog w 0 (fun _ => true) true n 3 [c4] = some y4 := by
      have this : DataW.trod enc Tryd.prog w 0 (fun _ => true) true n 3 (([c0, c1, c2, c3, c4].drop 4).take (Tryd.prog.cellsOf 3)) = some y4 := hf 4 _ rfl
      rwa [show ([c0, c1, c2, c3, c4].drop 4).take (Tryd.prog.cellsOf 3) = [c4] by rw [show Tryd.prog.cellsOf 3 = 1 by kernel_rfl]; rfl] at this
    obtain ⟨a4, e4, k4, b4⟩ := opens_t_int.2 H enc w n _ _ g4
    refine ⟨⟨a0, a1, a2, a3, a4⟩, ?_, ⟨k0, k1, k2, k3, k4⟩, ?_⟩
    · obtain rfl : c0 = .string a0 := by have := List.cons.inj e0; exact this.1
      obtain rfl : c1 = .string a1 := by have := List.cons.inj e1; exact this.1
      obtain rfl : c2 = .int .i64 a2 := by have := List.cons.inj e2; exact this.1
      obtain rfl : c3 = .bool a3 := by have := List.cons.inj e3; exact this.1
      obtain rfl : c4 = .int .i64 a4 := by have := List.cons.inj e4; exact this.1
      rfl
    · subst hxe
      simp only [RTestRun, Rows.uptoBulk, Rows.uptoBulkAll, List.map_cons, List.map_nil]
      omega
theorem cells_TestRun {w : World} {b off m k : Nat} {l : List TestRun} {x : TestRun} (h : SlAt RTestRun w (some ⟨b, off, none⟩) m l) (hx : l[k]? = some x) :
    w.cell? ⟨b, off + k * 5, none⟩ = some (.string x.test) ∧ w.cell? ⟨b, off + k * 5 + 1, none⟩ = some (.string x.key) ∧ w.cell? ⟨b, off + k * 5 + 2, none⟩ = some (.int .i64 x.at_) ∧ w.cell? ⟨b, off + k * 5 + 3, none⟩ = some (.bool x.pass) ∧ w.cell? ⟨b, off + k * 5 + 4, none⟩ = some (.int .i64 x.seconds) := by
  have hk := (List.getElem?_eq_some_iff.1 hx).1
  obtain ⟨b', off', hA, hc⟩ := h.2.1 (by have := h.1; omega)
  obtain ⟨rfl, rfl⟩ : b = b' ∧ off = off' := by simpa using hA
  exact ⟨hc k x hx 0 _ rfl, hc k x hx 1 _ rfl, hc k x hx 2 _ rfl, hc k x hx 3 _ rfl, hc k x hx 4 _ rfl⟩

theorem opens_t_sl_TestRun : Opens Tryd.prog 32 (RSl RTestRun) := opens_slice Tryd.underlying32 (by kernel_rfl) (by decide) opens_TestRun
/-! ### api.TestCase -/
structure TestCase where
  name : ByteArray
  seconds : Int
deriving DecidableEq
instance : Inhabited TestCase := ⟨⟨ByteArray.empty, 0⟩⟩
def RTestCase : Rd TestCase :=
  ⟨2, fun x => [.string x.name, .int .i64 x.seconds],
    fun w x => RStr.ok w x.name ∧ RInt.ok w x.seconds,
    fun x => RStr.bulk x.name + RInt.bulk x.seconds, fun _ => rfl, fun _ u h => by simp only [List.mem_cons, List.not_mem_nil, or_false] at h; rcases h with rfl | rfl <;> rfl,
    fun _ _ _ hb h => ⟨RStr.mono _ _ _ hb (h.1), RInt.mono _ _ _ hb (h.2)⟩⟩
set_option maxRecDepth 100000 in
theorem opens_TestCase : Opens Tryd.prog 126 RTestCase := by
  refine ⟨by kernel_rfl, fun H enc w fuel cs x hx => ?_⟩
  obtain ⟨xs, n, _, hxe, hlen, hxl, hf⟩ := DataW.trod_struct Tryd.underlying126 hx
  rw [show Tryd.prog.cellsOf 126 = 2 by kernel_rfl] at hlen
  match cs, hlen, xs, hxl with
  | [c0, c1], _, [y0, y1], _ =>
    have g0 : DataW.trod enc Tryd.prog w 0 (fun _ => true) true n 9 [c0] = some y0 := by
      have this : DataW.trod enc Tryd.prog w 0 (fun _ => true) true n 9 (([c0, c1].drop 0).take (Tryd.prog.cellsOf 9)) = some y0 := hf 0 _ rfl
      rwa [show ([c0, c1].drop 0).take (Tryd.prog.cellsOf 9) = [c0] by rw [show Tryd.prog.cellsOf 9 = 1 by kernel_rfl]; rfl] at this
    obtain ⟨a0, e0, k0, b0⟩ := opens_t_str.2 H enc w n _ _ g0
    have g1 : DataW.trod enc Tryd.prog w 0 (fun _ => true) true n 3 [c1] = some y1 := by
      have this : DataW.trod enc Tryd.prog w 0 (fun _ => true) true n 3 (([c0, c1].drop 1).take (Tryd.prog.cellsOf 3)) = some y1 := hf 1 _ rfl
      rwa [show ([c0, c1].drop 1).take (Tryd.prog.cellsOf 3) = [c1] by rw [show Tryd.prog.cellsOf 3 = 1 by kernel_rfl]; rfl] at this
    obtain ⟨a1, e1, k1, b1⟩ := opens_t_int.2 H enc w n _ _ g1
    refine ⟨⟨a0, a1⟩, ?_, ⟨k0, k1⟩, ?_⟩
    · obtain rfl : c0 = .string a0 := by have := List.cons.inj e0; exact this.1
      obtain rfl : c1 = .int .i64 a1 := by have := List.cons.inj e1; exact this.1
      rfl
    · subst hxe
      simp only [RTestCase, Rows.uptoBulk, Rows.uptoBulkAll, List.map_cons, List.map_nil]
      omega
theorem cells_TestCase {w : World} {b off m k : Nat} {l : List TestCase} {x : TestCase} (h : SlAt RTestCase w (some ⟨b, off, none⟩) m l) (hx : l[k]? = some x) :
    w.cell? ⟨b, off + k * 2, none⟩ = some (.string x.name) ∧ w.cell? ⟨b, off + k * 2 + 1, none⟩ = some (.int .i64 x.seconds) := by
  have hk := (List.getElem?_eq_some_iff.1 hx).1
  obtain ⟨b', off', hA, hc⟩ := h.2.1 (by have := h.1; omega)
  obtain ⟨rfl, rfl⟩ : b = b' ∧ off = off' := by simpa using hA
  exact ⟨hc k x hx 0 _ rfl, hc k x hx 1 _ rfl⟩

theorem opens_t_sl_TestCase : Opens Tryd.prog 61 (RSl RTestCase) := opens_slice Tryd.underlying61 (by kernel_rfl) (by decide) opens_TestCase
/-! ### api.Test -/
structure Test where
  name : ByteArray
  cases : SlD TestCase
instance : Inhabited Test := ⟨⟨ByteArray.empty, ⟨none, 0, 0, []⟩⟩⟩
def RTest : Rd Test :=
  ⟨2, fun x => [.string x.name, .slice x.cases.A x.cases.n x.cases.cap],
    fun w x => RStr.ok w x.name ∧ (RSl RTestCase).ok w x.cases,
    fun x => RStr.bulk x.name + (RSl RTestCase).bulk x.cases, fun _ => rfl, fun _ u h => by simp only [List.mem_cons, List.not_mem_nil, or_false] at h; rcases h with rfl | rfl <;> rfl,
    fun _ _ _ hb h => ⟨RStr.mono _ _ _ hb (h.1), (RSl RTestCase).mono _ _ _ hb (h.2)⟩⟩
set_option maxRecDepth 100000 in
theorem opens_Test : Opens Tryd.prog 63 RTest := by
  refine ⟨by kernel_rfl, fun H enc w fuel cs x hx => ?_⟩
  obtain ⟨xs, n, _, hxe, hlen, hxl, hf⟩ := DataW.trod_struct Tryd.underlying63 hx
  rw [show Tryd.prog.cellsOf 63 = 2 by kernel_rfl] at hlen
  match cs, hlen, xs, hxl with
  | [c0, c1], _, [y0, y1], _ =>
    have g0 : DataW.trod enc Tryd.prog w 0 (fun _ => true) true n 9 [c0] = some y0 := by
      have this : DataW.trod enc Tryd.prog w 0 (fun _ => true) true n 9 (([c0, c1].drop 0).take (Tryd.prog.cellsOf 9)) = some y0 := hf 0 _ rfl
      rwa [show ([c0, c1].drop 0).take (Tryd.prog.cellsOf 9) = [c0] by rw [show Tryd.prog.cellsOf 9 = 1 by kernel_rfl]; rfl] at this
    obtain ⟨a0, e0, k0, b0⟩ := opens_t_str.2 H enc w n _ _ g0
    have g1 : DataW.trod enc Tryd.prog w 0 (fun _ => true) true n 61 [c1] = some y1 := by
      have this : DataW.trod enc Tryd.prog w 0 (fun _ => true) true n 61 (([c0, c1].drop 1).take (Tryd.prog.cellsOf 61)) = some y1 := hf 1 _ rfl
      rwa [show ([c0, c1].drop 1).take (Tryd.prog.cellsOf 61) = [c1] by rw [show Tryd.prog.cellsOf 61 = 1 by kernel_rfl]; rfl] at this
    obtain ⟨a1, e1, k1, b1⟩ := opens_t_sl_TestCase.2 H enc w n _ _ g1
    refine ⟨⟨a0, a1⟩, ?_, ⟨k0, k1⟩, ?_⟩
    · obtain rfl : c0 = .string a0 := by have := List.cons.inj e0; exact this.1
      obtain rfl : c1 = .slice a1.A a1.n a1.cap := by have := List.cons.inj e1; exact this.1
      rfl
    · subst hxe
      simp only [RTest, Rows.uptoBulk, Rows.uptoBulkAll, List.map_cons, List.map_nil]
      omega
theorem cells_Test {w : World} {b off m k : Nat} {l : List Test} {x : Test} (h : SlAt RTest w (some ⟨b, off, none⟩) m l) (hx : l[k]? = some x) :
    w.cell? ⟨b, off + k * 2, none⟩ = some (.string x.name) ∧ w.cell? ⟨b, off + k * 2 + 1, none⟩ = some (.slice x.cases.A x.cases.n x.cases.cap) := by
  have hk := (List.getElem?_eq_some_iff.1 hx).1
  obtain ⟨b', off', hA, hc⟩ := h.2.1 (by have := h.1; omega)
  obtain ⟨rfl, rfl⟩ : b = b' ∧ off = off' := by simpa using hA
  exact ⟨hc k x hx 0 _ rfl, hc k x hx 1 _ rfl⟩

/-! ### api.TestReads -/
structure TestReads where
  test : ByteArray
  paths : SlD ByteArray
  looked : SlD ByteArray
instance : Inhabited TestReads := ⟨⟨ByteArray.empty, ⟨none, 0, 0, []⟩, ⟨none, 0, 0, []⟩⟩⟩
def RTestReads : Rd TestReads :=
  ⟨3, fun x => [.string x.test, .slice x.paths.A x.paths.n x.paths.cap, .slice x.looked.A x.looked.n x.looked.cap],
    fun w x => RStr.ok w x.test ∧ (RSl RStr).ok w x.paths ∧ (RSl RStr).ok w x.looked,
    fun x => RStr.bulk x.test + (RSl RStr).bulk x.paths + (RSl RStr).bulk x.looked, fun _ => rfl, fun _ u h => by simp only [List.mem_cons, List.not_mem_nil, or_false] at h; rcases h with rfl | rfl | rfl <;> rfl,
    fun _ _ _ hb h => ⟨RStr.mono _ _ _ hb (h.1), (RSl RStr).mono _ _ _ hb (h.2.1), (RSl RStr).mono _ _ _ hb (h.2.2)⟩⟩
set_option maxRecDepth 100000 in
theorem opens_TestReads : Opens Tryd.prog 80 RTestReads := by
  refine ⟨by kernel_rfl, fun H enc w fuel cs x hx => ?_⟩
  obtain ⟨xs, n, _, hxe, hlen, hxl, hf⟩ := DataW.trod_struct Tryd.underlying80 hx
  rw [show Tryd.prog.cellsOf 80 = 3 by kernel_rfl] at hlen
  match cs, hlen, xs, hxl with
  | [c0, c1, c2], _, [y0, y1, y2], _ =>
    have g0 : DataW.trod enc Tryd.prog w 0 (fun _ => true) true n 9 [c0] = some y0 := by
      have this : DataW.trod enc Tryd.prog w 0 (fun _ => true) true n 9 (([c0, c1, c2].drop 0).take (Tryd.prog.cellsOf 9)) = some y0 := hf 0 _ rfl
      rwa [show ([c0, c1, c2].drop 0).take (Tryd.prog.cellsOf 9) = [c0] by rw [show Tryd.prog.cellsOf 9 = 1 by kernel_rfl]; rfl] at this
    obtain ⟨a0, e0, k0, b0⟩ := opens_t_str.2 H enc w n _ _ g0
    have g1 : DataW.trod enc Tryd.prog w 0 (fun _ => true) true n 24 [c1] = some y1 := by
      have this : DataW.trod enc Tryd.prog w 0 (fun _ => true) true n 24 (([c0, c1, c2].drop 1).take (Tryd.prog.cellsOf 24)) = some y1 := hf 1 _ rfl
      rwa [show ([c0, c1, c2].drop 1).take (Tryd.prog.cellsOf 24) = [c1] by rw [show Tryd.prog.cellsOf 24 = 1 by kernel_rfl]; rfl] at this
    obtain ⟨a1, e1, k1, b1⟩ := opens_t_sl_Str.2 H enc w n _ _ g1
    have g2 : DataW.trod enc Tryd.prog w 0 (fun _ => true) true n 24 [c2] = some y2 := by
      have this : DataW.trod enc Tryd.prog w 0 (fun _ => true) true n 24 (([c0, c1, c2].drop 2).take (Tryd.prog.cellsOf 24)) = some y2 := hf 2 _ rfl
      rwa [show ([c0, c1, c2].drop 2).take (Tryd.prog.cellsOf 24) = [c2] by rw [show Tryd.prog.cellsOf 24 = 1 by kernel_rfl]; rfl] at this
    obtain ⟨a2, e2, k2, b2⟩ := opens_t_sl_Str.2 H enc w n _ _ g2
    refine ⟨⟨a0, a1, a2⟩, ?_, ⟨k0, k1, k2⟩, ?_⟩
    · obtain rfl : c0 = .string a0 := by have := List.cons.inj e0; exact this.1
      obtain rfl : c1 = .slice a1.A a1.n a1.cap := by have := List.cons.inj e1; exact this.1
      obtain rfl : c2 = .slice a2.A a2.n a2.cap := by have := List.cons.inj e2; exact this.1
      rfl
    · subst hxe
      simp only [RTestReads, Rows.uptoBulk, Rows.uptoBulkAll, List.map_cons, List.map_nil]
      omega
theorem cells_TestReads {w : World} {b off m k : Nat} {l : List TestReads} {x : TestReads} (h : SlAt RTestReads w (some ⟨b, off, none⟩) m l) (hx : l[k]? = some x) :
    w.cell? ⟨b, off + k * 3, none⟩ = some (.string x.test) ∧ w.cell? ⟨b, off + k * 3 + 1, none⟩ = some (.slice x.paths.A x.paths.n x.paths.cap) ∧ w.cell? ⟨b, off + k * 3 + 2, none⟩ = some (.slice x.looked.A x.looked.n x.looked.cap) := by
  have hk := (List.getElem?_eq_some_iff.1 hx).1
  obtain ⟨b', off', hA, hc⟩ := h.2.1 (by have := h.1; omega)
  obtain ⟨rfl, rfl⟩ : b = b' ∧ off = off' := by simpa using hA
  exact ⟨hc k x hx 0 _ rfl, hc k x hx 1 _ rfl, hc k x hx 2 _ rfl⟩

theorem opens_t_sl_TestReads : Opens Tryd.prog 22 (RSl RTestReads) := opens_slice Tryd.underlying22 (by kernel_rfl) (by decide) opens_TestReads
/-! ### api.TreeChange -/
structure TreeChange where
  path : ByteArray
  kind : Int
deriving DecidableEq
instance : Inhabited TreeChange := ⟨⟨ByteArray.empty, 0⟩⟩
def RTreeChange : Rd TreeChange :=
  ⟨2, fun x => [.string x.path, .int .i64 x.kind],
    fun w x => RStr.ok w x.path ∧ RInt.ok w x.kind,
    fun x => RStr.bulk x.path + RInt.bulk x.kind, fun _ => rfl, fun _ u h => by simp only [List.mem_cons, List.not_mem_nil, or_false] at h; rcases h with rfl | rfl <;> rfl,
    fun _ _ _ hb h => ⟨RStr.mono _ _ _ hb (h.1), RInt.mono _ _ _ hb (h.2)⟩⟩
set_option maxRecDepth 100000 in
theorem opens_TreeChange : Opens Tryd.prog 84 RTreeChange := by
  refine ⟨by kernel_rfl, fun H enc w fuel cs x hx => ?_⟩
  obtain ⟨xs, n, _, hxe, hlen, hxl, hf⟩ := DataW.trod_struct Tryd.underlying84 hx
  rw [show Tryd.prog.cellsOf 84 = 2 by kernel_rfl] at hlen
  match cs, hlen, xs, hxl with
  | [c0, c1], _, [y0, y1], _ =>
    have g0 : DataW.trod enc Tryd.prog w 0 (fun _ => true) true n 9 [c0] = some y0 := by
      have this : DataW.trod enc Tryd.prog w 0 (fun _ => true) true n 9 (([c0, c1].drop 0).take (Tryd.prog.cellsOf 9)) = some y0 := hf 0 _ rfl
      rwa [show ([c0, c1].drop 0).take (Tryd.prog.cellsOf 9) = [c0] by rw [show Tryd.prog.cellsOf 9 = 1 by kernel_rfl]; rfl] at this
    obtain ⟨a0, e0, k0, b0⟩ := opens_t_str.2 H enc w n _ _ g0
    have g1 : DataW.trod enc Tryd.prog w 0 (fun _ => true) true n 3 [c1] = some y1 := by
      have this : DataW.trod enc Tryd.prog w 0 (fun _ => true) true n 3 (([c0, c1].drop 1).take (Tryd.prog.cellsOf 3)) = some y1 := hf 1 _ rfl
      rwa [show ([c0, c1].drop 1).take (Tryd.prog.cellsOf 3) = [c1] by rw [show Tryd.prog.cellsOf 3 = 1 by kernel_rfl]; rfl] at this
    obtain ⟨a1, e1, k1, b1⟩ := opens_t_int.2 H enc w n _ _ g1
    refine ⟨⟨a0, a1⟩, ?_, ⟨k0, k1⟩, ?_⟩
    · obtain rfl : c0 = .string a0 := by have := List.cons.inj e0; exact this.1
      obtain rfl : c1 = .int .i64 a1 := by have := List.cons.inj e1; exact this.1
      rfl
    · subst hxe
      simp only [RTreeChange, Rows.uptoBulk, Rows.uptoBulkAll, List.map_cons, List.map_nil]
      omega
theorem cells_TreeChange {w : World} {b off m k : Nat} {l : List TreeChange} {x : TreeChange} (h : SlAt RTreeChange w (some ⟨b, off, none⟩) m l) (hx : l[k]? = some x) :
    w.cell? ⟨b, off + k * 2, none⟩ = some (.string x.path) ∧ w.cell? ⟨b, off + k * 2 + 1, none⟩ = some (.int .i64 x.kind) := by
  have hk := (List.getElem?_eq_some_iff.1 hx).1
  obtain ⟨b', off', hA, hc⟩ := h.2.1 (by have := h.1; omega)
  obtain ⟨rfl, rfl⟩ : b = b' ∧ off = off' := by simpa using hA
  exact ⟨hc k x hx 0 _ rfl, hc k x hx 1 _ rfl⟩

theorem opens_t_sl_TreeChange : Opens Tryd.prog 23 (RSl RTreeChange) := opens_slice Tryd.underlying23 (by kernel_rfl) (by decide) opens_TreeChange
end Go.Proofs.YtgalaeeppalljaaDoor
