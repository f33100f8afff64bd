/-
  The structs of package api that this seat's laws read, as Lean's: printed by a program of mine (structs.py).
-/
import Derived.Test.YtbapkhkklglbaaaDoorRead
namespace Go.Proofs.YtbapkhkklglbaaaDoor
open Go.ChangeShapes Go.WideShapes Go.Deep Go.RowKit
theorem opens_t_int : Opens Tryd.prog 3 RInt := opens_int Tryd.underlying3 (by kernel_rfl)
theorem opens_t_bool : Opens Tryd.prog 4 RBool := opens_bool Tryd.underlying4 (by kernel_rfl)
theorem opens_t_str : Opens Tryd.prog 9 RStr := opens_str Tryd.underlying9 (by kernel_rfl)
/-! ### api.TestRun -/
structure TestRun where
  test : ByteArray
  key : ByteArray
  at_ : Int
  pass : Bool
  seconds : Int
deriving DecidableEq
instance : Inhabited TestRun := ⟨⟨ByteArray.empty, ByteArray.empty, 0, false, 0⟩⟩
def RTestRun : Rd TestRun :=
  ⟨5, fun x => [.string x.test, .string x.key, .int .i64 x.at_, .bool x.pass, .int .i64 x.seconds],
    fun w x => RStr.ok w x.test ∧ RStr.ok w x.key ∧ RInt.ok w x.at_ ∧ RBool.ok w x.pass ∧ RInt.ok w x.seconds,
    fun x => RStr.bulk x.test + RStr.bulk x.key + RInt.bulk x.at_ + RBool.bulk x.pass + RInt.bulk x.seconds, fun _ => rfl, fun _ u h => by simp only [List.mem_cons, List.not_mem_nil, or_false] at h; rcases h with rfl | rfl | rfl | rfl | rfl <;> rfl,
    fun _ _ _ hb h => ⟨RStr.mono _ _ _ hb (h.1), RStr.mono _ _ _ hb (h.2.1), RInt.mono _ _ _ hb (h.2.2.1), RBool.mono _ _ _ hb (h.2.2.2.1), RInt.mono _ _ _ hb (h.2.2.2.2)⟩⟩
theorem cells_TestRun {w : World} {b off m k : Nat} {l : List TestRun} {x : TestRun} (h : SlAt RTestRun w (some ⟨b, off, none⟩) m l) (hx : l[k]? = some x) :
    w.cell? ⟨b, off + k * 5, none⟩ = some (.string x.test) ∧ w.cell? ⟨b, off + k * 5 + 1, none⟩ = some (.string x.key) ∧ w.cell? ⟨b, off + k * 5 + 2, none⟩ = some (.int .i64 x.at_) ∧ w.cell? ⟨b, off + k * 5 + 3, none⟩ = some (.bool x.pass) ∧ w.cell? ⟨b, off + k * 5 + 4, none⟩ = some (.int .i64 x.seconds) := by
  have hk := (List.getElem?_eq_some_iff.1 hx).1
  obtain ⟨b', off', hA, hc⟩ := h.2.1 (by have := h.1; omega)
  obtain ⟨rfl, rfl⟩ : b = b' ∧ off = off' := by simpa using hA
  exact ⟨hc k x hx 0 _ rfl, hc k x hx 1 _ rfl, hc k x hx 2 _ rfl, hc k x hx 3 _ rfl, hc k x hx 4 _ rfl⟩

/-! ### api.TestCase -/
structure TestCase where
  name : ByteArray
  seconds : Int
deriving DecidableEq
instance : Inhabited TestCase := ⟨⟨ByteArray.empty, 0⟩⟩
def RTestCase : Rd TestCase :=
  ⟨2, fun x => [.string x.name, .int .i64 x.seconds],
    fun w x => RStr.ok w x.name ∧ RInt.ok w x.seconds,
    fun x => RStr.bulk x.name + RInt.bulk x.seconds, fun _ => rfl, fun _ u h => by simp only [List.mem_cons, List.not_mem_nil, or_false] at h; rcases h with rfl | rfl <;> rfl,
    fun _ _ _ hb h => ⟨RStr.mono _ _ _ hb (h.1), RInt.mono _ _ _ hb (h.2)⟩⟩
theorem cells_TestCase {w : World} {b off m k : Nat} {l : List TestCase} {x : TestCase} (h : SlAt RTestCase w (some ⟨b, off, none⟩) m l) (hx : l[k]? = some x) :
    w.cell? ⟨b, off + k * 2, none⟩ = some (.string x.name) ∧ w.cell? ⟨b, off + k * 2 + 1, none⟩ = some (.int .i64 x.seconds) := by
  have hk := (List.getElem?_eq_some_iff.1 hx).1
  obtain ⟨b', off', hA, hc⟩ := h.2.1 (by have := h.1; omega)
  obtain ⟨rfl, rfl⟩ : b = b' ∧ off = off' := by simpa using hA
  exact ⟨hc k x hx 0 _ rfl, hc k x hx 1 _ rfl⟩

/-! ### api.Test -/
structure Test where
  name : ByteArray
  cases : SlD TestCase
instance : Inhabited Test := ⟨⟨ByteArray.empty, ⟨none, 0, 0, []⟩⟩⟩
def RTest : Rd Test :=
  ⟨2, fun x => [.string x.name, .slice x.cases.A x.cases.n x.cases.cap],
    fun w x => RStr.ok w x.name ∧ (RSl RTestCase).ok w x.cases,
    fun x => RStr.bulk x.name + (RSl RTestCase).bulk x.cases, fun _ => rfl, fun _ u h => by simp only [List.mem_cons, List.not_mem_nil, or_false] at h; rcases h with rfl | rfl <;> rfl,
    fun _ _ _ hb h => ⟨RStr.mono _ _ _ hb (h.1), (RSl RTestCase).mono _ _ _ hb (h.2)⟩⟩
theorem cells_Test {w : World} {b off m k : Nat} {l : List Test} {x : Test} (h : SlAt RTest w (some ⟨b, off, none⟩) m l) (hx : l[k]? = some x) :
    w.cell? ⟨b, off + k * 2, none⟩ = some (.string x.name) ∧ w.cell? ⟨b, off + k * 2 + 1, none⟩ = some (.slice x.cases.A x.cases.n x.cases.cap) := by
  have hk := (List.getElem?_eq_some_iff.1 hx).1
  obtain ⟨b', off', hA, hc⟩ := h.2.1 (by have := h.1; omega)
  obtain ⟨rfl, rfl⟩ : b = b' ∧ off = off' := by simpa using hA
  exact ⟨hc k x hx 0 _ rfl, hc k x hx 1 _ rfl⟩

/-! ### api.Pair -/
structure Pair where
  name : ByteArray
  value : ByteArray
deriving DecidableEq
instance : Inhabited Pair := ⟨⟨ByteArray.empty, ByteArray.empty⟩⟩
def RPair : Rd Pair :=
  ⟨2, fun x => [.string x.name, .string x.value],
    fun w x => RStr.ok w x.name ∧ RStr.ok w x.value,
    fun x => RStr.bulk x.name + RStr.bulk x.value, fun _ => rfl, fun _ u h => by simp only [List.mem_cons, List.not_mem_nil, or_false] at h; rcases h with rfl | rfl <;> rfl,
    fun _ _ _ hb h => ⟨RStr.mono _ _ _ hb (h.1), RStr.mono _ _ _ hb (h.2)⟩⟩
set_option maxRecDepth 100000 in
theorem opens_Pair : Opens Tryd.prog 80 RPair := by
  refine ⟨by kernel_rfl, fun H enc w fuel cs x hx => ?_⟩
  obtain ⟨xs, n, _, hxe, hlen, hxl, hf⟩ := DataW.trod_struct Tryd.underlying80 hx
  rw [show Tryd.prog.cellsOf 80 = 2 by kernel_rfl] at hlen
  match cs, hlen, xs, hxl with
  | [c0, c1], _, [y0, y1], _ =>
    have g0 : DataW.trod enc Tryd.prog w 0 (fun _ => true) true n 9 [c0] = some y0 := by
      have this : DataW.trod enc Tryd.prog w 0 (fun _ => true) true n 9 (([c0, c1].drop 0).take (Tryd.prog.cellsOf 9)) = some y0 := hf 0 _ rfl
      rwa [show ([c0, c1].drop 0).take (Tryd.prog.cellsOf 9) = [c0] by rw [show Tryd.prog.cellsOf 9 = 1 by kernel_rfl]; rfl] at this
    obtain ⟨a0, e0, k0, b0⟩ := opens_t_str.2 H enc w n _ _ g0
    have g1 : DataW.trod enc Tryd.prog w 0 (fun _ => true) true n 9 [c1] = some y1 := by
      have this : DataW.trod enc Tryd.prog w 0 (fun _ => true) true n 9 (([c0, c1].drop 1).take (Tryd.prog.cellsOf 9)) = some y1 := hf 1 _ rfl
      rwa [show ([c0, c1].drop 1).take (Tryd.prog.cellsOf 9) = [c1] by rw [show Tryd.prog.cellsOf 9 = 1 by kernel_rfl]; rfl] at this
    obtain ⟨a1, e1, k1, b1⟩ := opens_t_str.2 H enc w n _ _ g1
    refine ⟨⟨a0, a1⟩, ?_, ⟨k0, k1⟩, ?_⟩
    · obtain rfl : c0 = .string a0 := by have := List.cons.inj e0; exact this.1
      obtain rfl : c1 = .string a1 := by have := List.cons.inj e1; exact this.1
      rfl
    · subst hxe
      simp only [RPair, Rows.uptoBulk, Rows.uptoBulkAll, List.map_cons, List.map_nil]
      omega
theorem cells_Pair {w : World} {b off m k : Nat} {l : List Pair} {x : Pair} (h : SlAt RPair w (some ⟨b, off, none⟩) m l) (hx : l[k]? = some x) :
    w.cell? ⟨b, off + k * 2, none⟩ = some (.string x.name) ∧ w.cell? ⟨b, off + k * 2 + 1, none⟩ = some (.string x.value) := by
  have hk := (List.getElem?_eq_some_iff.1 hx).1
  obtain ⟨b', off', hA, hc⟩ := h.2.1 (by have := h.1; omega)
  obtain ⟨rfl, rfl⟩ : b = b' ∧ off = off' := by simpa using hA
  exact ⟨hc k x hx 0 _ rfl, hc k x hx 1 _ rfl⟩

theorem opens_t_sl_Pair : Opens Tryd.prog 42 (RSl RPair) := opens_slice Tryd.underlying42 (by kernel_rfl) (by decide) opens_Pair
/-! ### api.Span -/
structure Span where
  from_ : Int
  to_ : Int
deriving DecidableEq
instance : Inhabited Span := ⟨⟨0, 0⟩⟩
def RSpan : Rd Span :=
  ⟨2, fun x => [.int .i64 x.from_, .int .i64 x.to_],
    fun w x => RInt.ok w x.from_ ∧ RInt.ok w x.to_,
    fun x => RInt.bulk x.from_ + RInt.bulk x.to_, fun _ => rfl, fun _ u h => by simp only [List.mem_cons, List.not_mem_nil, or_false] at h; rcases h with rfl | rfl <;> rfl,
    fun _ _ _ hb h => ⟨RInt.mono _ _ _ hb (h.1), RInt.mono _ _ _ hb (h.2)⟩⟩
set_option maxRecDepth 100000 in
theorem opens_Span : Opens Tryd.prog 93 RSpan := by
  refine ⟨by kernel_rfl, fun H enc w fuel cs x hx => ?_⟩
  obtain ⟨xs, n, _, hxe, hlen, hxl, hf⟩ := DataW.trod_struct Tryd.underlying93 hx
  rw [show Tryd.prog.cellsOf 93 = 2 by kernel_rfl] at hlen
  match cs, hlen, xs, hxl with
  | [c0, c1], _, [y0, y1], _ =>
    have g0 : DataW.trod enc Tryd.prog w 0 (fun _ => true) true n 3 [c0] = some y0 := by
      have this : DataW.trod enc Tryd.prog w 0 (fun _ => true) true n 3 (([c0, c1].drop 0).take (Tryd.prog.cellsOf 3)) = some y0 := hf 0 _ rfl
      rwa [show ([c0, c1].drop 0).take (Tryd.prog.cellsOf 3) = [c0] by rw [show Tryd.prog.cellsOf 3 = 1 by kernel_rfl]; rfl] at this
    obtain ⟨a0, e0, k0, b0⟩ := opens_t_int.2 H enc w n _ _ g0
    have g1 : DataW.trod enc Tryd.prog w 0 (fun _ => true) true n 3 [c1] = some y1 := by
      have this : DataW.trod enc Tryd.prog w 0 (fun _ => true) true n 3 (([c0, c1].drop 1).take (Tryd.prog.cellsOf 3)) = some y1 := hf 1 _ rfl
      rwa [show ([c0, c1].drop 1).take (Tryd.prog.cellsOf 3) = [c1] by rw [show Tryd.prog.cellsOf 3 = 1 by kernel_rfl]; rfl] at this
    obtain ⟨a1, e1, k1, b1⟩ := opens_t_int.2 H enc w n _ _ g1
    refine ⟨⟨a0, a1⟩, ?_, ⟨k0, k1⟩, ?_⟩
    · obtain rfl : c0 = .int .i64 a0 := by have := List.cons.inj e0; exact this.1
      obtain rfl : c1 = .int .i64 a1 := by have := List.cons.inj e1; exact this.1
      rfl
    · subst hxe
      simp only [RSpan, Rows.uptoBulk, Rows.uptoBulkAll, List.map_cons, List.map_nil]
      omega
theorem cells_Span {w : World} {b off m k : Nat} {l : List Span} {x : Span} (h : SlAt RSpan w (some ⟨b, off, none⟩) m l) (hx : l[k]? = some x) :
    w.cell? ⟨b, off + k * 2, none⟩ = some (.int .i64 x.from_) ∧ w.cell? ⟨b, off + k * 2 + 1, none⟩ = some (.int .i64 x.to_) := by
  have hk := (List.getElem?_eq_some_iff.1 hx).1
  obtain ⟨b', off', hA, hc⟩ := h.2.1 (by have := h.1; omega)
  obtain ⟨rfl, rfl⟩ : b = b' ∧ off = off' := by simpa using hA
  exact ⟨hc k x hx 0 _ rfl, hc k x hx 1 _ rfl⟩

theorem opens_t_sl_Span : Opens Tryd.prog 49 (RSl RSpan) := opens_slice Tryd.underlying49 (by kernel_rfl) (by decide) opens_Span
/-! ### api.Worker -/
structure Worker where
  name : ByteArray
  has : SlD Pair
  slots : Int
  speed : Int
  from_ : Int
  to_ : Int
  stands : SlD Span
instance : Inhabited Worker := ⟨⟨ByteArray.empty, ⟨none, 0, 0, []⟩, 0, 0, 0, 0, ⟨none, 0, 0, []⟩⟩⟩
def RWorker : Rd Worker :=
  ⟨7, fun x => [.string x.name, .slice x.has.A x.has.n x.has.cap, .int .i64 x.slots, .int .i64 x.speed, .int .i64 x.from_, .int .i64 x.to_, .slice x.stands.A x.stands.n x.stands.cap],
    fun w x => RStr.ok w x.name ∧ (RSl RPair).ok w x.has ∧ RInt.ok w x.slots ∧ RInt.ok w x.speed ∧ RInt.ok w x.from_ ∧ RInt.ok w x.to_ ∧ (RSl RSpan).ok w x.stands,
    fun x => RStr.bulk x.name + (RSl RPair).bulk x.has + RInt.bulk x.slots + RInt.bulk x.speed + RInt.bulk x.from_ + RInt.bulk x.to_ + (RSl RSpan).bulk x.stands, fun _ => rfl, fun _ u h => by simp only [List.mem_cons, List.not_mem_nil, or_false] at h; rcases h with rfl | rfl | rfl | rfl | rfl | rfl | rfl <;> rfl,
    fun _ _ _ hb h => ⟨RStr.mono _ _ _ hb (h.1), (RSl RPair).mono _ _ _ hb (h.2.1), RInt.mono _ _ _ hb (h.2.2.1), RInt.mono _ _ _ hb (h.2.2.2.1), RInt.mono _ _ _ hb (h.2.2.2.2.1), RInt.mono _ _ _ hb (h.2.2.2.2.2.1), (RSl RSpan).mono _ _ _ hb (h.2.2.2.2.2.2)⟩⟩
set_option maxRecDepth 100000 in
theorem opens_Worker : Opens Tryd.prog 51 RWorker := by
  refine ⟨by kernel_rfl, fun H enc w fuel cs x hx => ?_⟩
  obtain ⟨xs, n, _, hxe, hlen, hxl, hf⟩ := DataW.trod_struct Tryd.underlying51 hx
  rw [show Tryd.prog.cellsOf 51 = 7 by kernel_rfl] at hlen
  match cs, hlen, xs, hxl with
  | [c0, c1, c2, c3, c4, c5, c6], _, [y0, y1, y2, y3, y4, y5, y6], _ =>
    have g0 : DataW.trod enc Tryd.prog w 0 (fun _ => true) true n 9 [c0] = some y0 := by
      have this : DataW.trod enc Tryd.prog w 0 (fun _ => true) true n 9 (([c0, c1, c2, c3, c4, c5, c6].drop 0).take (Tryd.prog.cellsOf 9)) = some y0 := hf 0 _ rfl
      rwa [show ([c0, c1, c2, c3, c4, c5, c6].drop 0).take (Tryd.prog.cellsOf 9) = [c0] by rw [show Tryd.prog.cellsOf 9 = 1 by kernel_rfl]; rfl] at this
    obtain ⟨a0, e0, k0, b0⟩ := opens_t_str.2 H enc w n _ _ g0
    have g1 : DataW.trod enc Tryd.prog w 0 (fun _ => true) true n 42 [c1] = some y1 := by
      have this : DataW.trod enc Tryd.prog w 0 (fun _ => true) true n 42 (([c0, c1, c2, c3, c4, c5, c6].drop 1).take (Tryd.prog.cellsOf 42)) = some y1 := hf 1 _ rfl
      rwa [show ([c0, c1, c2, c3, c4, c5, c6].drop 1).take (Tryd.prog.cellsOf 42) = [c1] by rw [show Tryd.prog.cellsOf 42 = 1 by kernel_rfl]; rfl] at this
    obtain ⟨a1, e1, k1, b1⟩ := opens_t_sl_Pair.2 H enc w n _ _ g1
    have g2 : DataW.trod enc Tryd.prog w 0 (fun _ => true) true n 3 [c2] = some y2 := by
      have this : DataW.trod enc Tryd.prog w 0 (fun _ => true) true n 3 (([c0, c1, c2, c3, c4, c5, c6].drop 2).take (Tryd.prog.cellsOf 3)) = some y2 := hf 2 _ rfl
      rwa [show ([c0, c1, c2, c3, c4, c5, c6].drop 2).take (Tryd.prog.cellsOf 3) = [c2] by rw [show Tryd.prog.cellsOf 3 = 1 by kernel_rfl]; rfl] at this
    obtain ⟨a2, e2, k2, b2⟩ := opens_t_int.2 H enc w n _ _ g2
    have g3 : DataW.trod enc Tryd.prog w 0 (fun _ => true) true n 3 [c3] = some y3 := by
      have this : DataW.trod enc Tryd.prog w 0 (fun _ => true) true n 3 (([c0, c1, c2, c3, c4, c5, c6].drop 3).take (Tryd.prog.cellsOf 3)) = some y3 := hf 3 _ rfl
      rwa [show ([c0, c1, c2, c3, c4, c5, c6].drop 3).take (Tryd.prog.cellsOf 3) = [c3] by rw [show Tryd.prog.cellsOf 3 = 1 by kernel_rfl]; rfl] at this
    obtain ⟨a3, e3, k3, b3⟩ := opens_t_int.2 H enc w n _ _ g3
    have g4 : DataW.trod enc Tryd.prog w 0 (fun _ => true) true n 3 [c4] = some y4 := by
      have this : DataW.trod enc Tryd.prog w 0 (fun _ => true) true n 3 (([c0, c1, c2, c3, c4, c5, c6].drop 4).take (Tryd.prog.cellsOf 3)) = some y4 := hf 4 _ rfl
      rwa [show ([c0, c1, c2, c3, c4, c5, c6].drop 4).take (Tryd.prog.cellsOf 3) = [c4] by rw [show Tryd.prog.cellsOf 3 = 1 by kernel_rfl]; rfl] at this
    obtain ⟨a4, e4, k4, b4⟩ := opens_t_int.2 H enc w n _ _ g4
    have g5 : DataW.trod enc Tryd.prog w 0 (fun _ => true) true n 3 [c5] = some y5 := by
      have this : DataW.trod enc Tryd.prog w 0 (fun _ => true) true n 3 (([c0, c1, c2, c3, c4, c5, c6].drop 5).take (Tryd.prog.cellsOf 3)) = some y5 := hf 5 _ rfl
      rwa [show ([c0, c1, c2, c3, c4, c5, c6].drop 5).take (Tryd.prog.cellsOf 3) = [c5] by rw [show Tryd.prog.cellsOf 3 = 1 by kernel_rfl]; rfl] at this
    obtain ⟨a5, e5, k5, b5⟩ := opens_t_int.2 H enc w n _ _ g5
    have g6 : DataW.trod enc Tryd.prog w 0 (fun _ => true) true n 49 [c6] = some y6 := by
      have this : DataW.trod enc Tryd.prog w 0 (fun _ => true) true n 49 (([c0, c1, c2, c3, c4, c5, c6].drop 6).take (Tryd.prog.cellsOf 49)) = some y6 := hf 6 _ rfl
      rwa [show ([c0, c1, c2, c3, c4, c5, c6].drop 6).take (Tryd.prog.cellsOf 49) = [c6] by rw [show Tryd.prog.cellsOf 49 = 1 by kernel_rfl]; rfl] at this
    obtain ⟨a6, e6, k6, b6⟩ := opens_t_sl_Span.2 H enc w n _ _ g6
    refine ⟨⟨a0, a1, a2, a3, a4, a5, a6⟩, ?_, ⟨k0, k1, k2, k3, k4, k5, k6⟩, ?_⟩
    · obtain rfl : c0 = .string a0 := by have := List.cons.inj e0; exact this.1
      obtain rfl : c1 = .slice a1.A a1.n a1.cap := by have := List.cons.inj e1; exact this.1
      obtain rfl : c2 = .int .i64 a2 := by have := List.cons.inj e2; exact this.1
      obtain rfl : c3 = .int .i64 a3 := by have := List.cons.inj e3; exact this.1
      obtain rfl : c4 = .int .i64 a4 := by have := List.cons.inj e4; exact this.1
      obtain rfl : c5 = .int .i64 a5 := by have := List.cons.inj e5; exact this.1
      obtain rfl : c6 = .slice a6.A a6.n a6.cap := by have := List.cons.inj e6; exact this.1
      rfl
    · subst hxe
      simp only [RWorker, Rows.uptoBulk, Rows.uptoBulkAll, List.map_cons, List.map_nil]
      omega
theorem cells_Worker {w : World} {b off m k : Nat} {l : List Worker} {x : Worker} (h : SlAt RWorker w (some ⟨b, off, none⟩) m l) (hx : l[k]? = some x) :
    w.cell? ⟨b, off + k * 7, none⟩ = some (.string x.name) ∧ w.cell? ⟨b, off + k * 7 + 1, none⟩ = some (.slice x.has.A x.has.n x.has.cap) ∧ w.cell? ⟨b, off + k * 7 + 2, none⟩ = some (.int .i64 x.slots) ∧ w.cell? ⟨b, off + k * 7 + 3, none⟩ = some (.int .i64 x.speed) ∧ w.cell? ⟨b, off + k * 7 + 4, none⟩ = some (.int .i64 x.from_) ∧ w.cell? ⟨b, off + k * 7 + 5, none⟩ = some (.int .i64 x.to_) ∧ w.cell? ⟨b, off + k * 7 + 6, none⟩ = some (.slice x.stands.A x.stands.n x.stands.cap) := by
  have hk := (List.getElem?_eq_some_iff.1 hx).1
  obtain ⟨b', off', hA, hc⟩ := h.2.1 (by have := h.1; omega)
  obtain ⟨rfl, rfl⟩ : b = b' ∧ off = off' := by simpa using hA
  exact ⟨hc k x hx 0 _ rfl, hc k x hx 1 _ rfl, hc k x hx 2 _ rfl, hc k x hx 3 _ rfl, hc k x hx 4 _ rfl, hc k x hx 5 _ rfl, hc k x hx 6 _ rfl⟩

theorem opens_t_sl_Str : Opens Tryd.prog 23 (RSl RStr) := opens_slice Tryd.underlying23 (by kernel_rfl) (by decide) opens_t_str
/-! ### api.Work -/
structure Work where
  id_ : ByteArray
  needs : SlD Pair
  size : Int
  after : SlD ByteArray
instance : Inhabited Work := ⟨⟨ByteArray.empty, ⟨none, 0, 0, []⟩, 0, ⟨none, 0, 0, []⟩⟩⟩
def RWork : Rd Work :=
  ⟨4, fun x => [.string x.id_, .slice x.needs.A x.needs.n x.needs.cap, .int .i64 x.size, .slice x.after.A x.after.n x.after.cap],
    fun w x => RStr.ok w x.id_ ∧ (RSl RPair).ok w x.needs ∧ RInt.ok w x.size ∧ (RSl RStr).ok w x.after,
    fun x => RStr.bulk x.id_ + (RSl RPair).bulk x.needs + RInt.bulk x.size + (RSl RStr).bulk x.after, fun _ => rfl, fun _ u h => by simp only [List.mem_cons, List.not_mem_nil, or_false] at h; rcases h with rfl | rfl | rfl | rfl <;> rfl,
    fun _ _ _ hb h => ⟨RStr.mono _ _ _ hb (h.1), (RSl RPair).mono _ _ _ hb (h.2.1), RInt.mono _ _ _ hb (h.2.2.1), (RSl RStr).mono _ _ _ hb (h.2.2.2)⟩⟩
set_option maxRecDepth 100000 in
theorem opens_Work : Opens Tryd.prog 44 RWork := by
  refine ⟨by kernel_rfl, fun H enc w fuel cs x hx => ?_⟩
  obtain ⟨xs, n, _, hxe, hlen, hxl, hf⟩ := DataW.trod_struct Tryd.underlying44 hx
  rw [show Tryd.prog.cellsOf 44 = 4 by kernel_rfl] at hlen
  match cs, hlen, xs, hxl with
  | [c0, c1, c2, c3], _, [y0, y1, y2, y3], _ =>
    have g0 : DataW.trod enc Tryd.prog w 0 (fun _ => true) true n 9 [c0] = some y0 := by
      have this : DataW.trod enc Tryd.prog w 0 (fun _ => true) true n 9 (([c0, c1, c2, c3].drop 0).take (Tryd.prog.cellsOf 9)) = some y0 := hf 0 _ rfl
      rwa [show ([c0, c1, c2, c3].drop 0).take (Tryd.prog.cellsOf 9) = [c0] by rw [show Tryd.prog.cellsOf 9 = 1 by kernel_rfl]; rfl] at this
    obtain ⟨a0, e0, k0, b0⟩ := opens_t_str.2 H enc w n _ _ g0
    have g1 : DataW.trod enc Tryd.prog w 0 (fun _ => true) true n 42 [c1] = some y1 := by
      have this : DataW.trod enc Tryd.prog w 0 (fun _ => true) true n 42 (([c0, c1, c2, c3].drop 1).take (Tryd.prog.cellsOf 42)) = some y1 := hf 1 _ rfl
      rwa [show ([c0, c1, c2, c3].drop 1).take (Tryd.prog.cellsOf 42) = [c1] by rw [show Tryd.prog.cellsOf 42 = 1 by kernel_rfl]; rfl] at this
    obtain ⟨a1, e1, k1, b1⟩ := opens_t_sl_Pair.2 H enc w n _ _ g1
    have g2 : DataW.trod enc Tryd.prog w 0 (fun _ => true) true n 3 [c2] = some y2 := by
      have this : DataW.trod enc Tryd.prog w 0 (fun _ => true) true n 3 (([c0, c1, c2, c3].drop 2).take (Tryd.prog.cellsOf 3)) = some y2 := hf 2 _ rfl
      rwa [show ([c0, c1, c2, c3].drop 2).take (Tryd.prog.cellsOf 3) = [c2] by rw [show Tryd.prog.cellsOf 3 = 1 by kernel_rfl]; rfl] at this
    obtain ⟨a2, e2, k2, b2⟩ := opens_t_int.2 H enc w n _ _ g2
    have g3 : DataW.trod enc Tryd.prog w 0 (fun _ => true) true n 23 [c3] = some y3 := by
      have this : DataW.trod enc Tryd.prog w 0 (fun _ => true) true n 23 (([c0, c1, c2, c3].drop 3).take (Tryd.prog.cellsOf 23)) = some y3 := hf 3 _ rfl
      rwa [show ([c0, c1, c2, c3].drop 3).take (Tryd.prog.cellsOf 23) = [c3] by rw [show Tryd.prog.cellsOf 23 = 1 by kernel_rfl]; rfl] at this
    obtain ⟨a3, e3, k3, b3⟩ := opens_t_sl_Str.2 H enc w n _ _ g3
    refine ⟨⟨a0, a1, a2, a3⟩, ?_, ⟨k0, k1, k2, k3⟩, ?_⟩
    · obtain rfl : c0 = .string a0 := by have := List.cons.inj e0; exact this.1
      obtain rfl : c1 = .slice a1.A a1.n a1.cap := by have := List.cons.inj e1; exact this.1
      obtain rfl : c2 = .int .i64 a2 := by have := List.cons.inj e2; exact this.1
      obtain rfl : c3 = .slice a3.A a3.n a3.cap := by have := List.cons.inj e3; exact this.1
      rfl
    · subst hxe
      simp only [RWork, Rows.uptoBulk, Rows.uptoBulkAll, List.map_cons, List.map_nil]
      omega
theorem cells_Work {w : World} {b off m k : Nat} {l : List Work} {x : Work} (h : SlAt RWork w (some ⟨b, off, none⟩) m l) (hx : l[k]? = some x) :
    w.cell? ⟨b, off + k * 4, none⟩ = some (.string x.id_) ∧ w.cell? ⟨b, off + k * 4 + 1, none⟩ = some (.slice x.needs.A x.needs.n x.needs.cap) ∧ w.cell? ⟨b, off + k * 4 + 2, none⟩ = some (.int .i64 x.size) ∧ w.cell? ⟨b, off + k * 4 + 3, none⟩ = some (.slice x.after.A x.after.n x.after.cap) := by
  have hk := (List.getElem?_eq_some_iff.1 hx).1
  obtain ⟨b', off', hA, hc⟩ := h.2.1 (by have := h.1; omega)
  obtain ⟨rfl, rfl⟩ : b = b' ∧ off = off' := by simpa using hA
  exact ⟨hc k x hx 0 _ rfl, hc k x hx 1 _ rfl, hc k x hx 2 _ rfl, hc k x hx 3 _ rfl⟩

/-! ### api.Writer -/
structure Writer where
  name : ByteArray
  secret : ByteArray
  prefixes : SlD ByteArray
  from_ : Int
  to_ : Int
instance : Inhabited Writer := ⟨⟨ByteArray.empty, ByteArray.empty, ⟨none, 0, 0, []⟩, 0, 0⟩⟩
def RWriter : Rd Writer :=
  ⟨5, fun x => [.string x.name, .string x.secret, .slice x.prefixes.A x.prefixes.n x.prefixes.cap, .int .i64 x.from_, .int .i64 x.to_],
    fun w x => RStr.ok w x.name ∧ RStr.ok w x.secret ∧ (RSl RStr).ok w x.prefixes ∧ RInt.ok w x.from_ ∧ RInt.ok w x.to_,
    fun x => RStr.bulk x.name + RStr.bulk x.secret + (RSl RStr).bulk x.prefixes + RInt.bulk x.from_ + RInt.bulk x.to_, fun _ => rfl, fun _ u h => by simp only [List.mem_cons, List.not_mem_nil, or_false] at h; rcases h with rfl | rfl | rfl | rfl | rfl <;> rfl,
    fun _ _ _ hb h => ⟨RStr.mono _ _ _ hb (h.1), RStr.mono _ _ _ hb (h.2.1), (RSl RStr).mono _ _ _ hb (h.2.2.1), RInt.mono _ _ _ hb (h.2.2.2.1), RInt.mono _ _ _ hb (h.2.2.2.2)⟩⟩
theorem cells_Writer {w : World} {b off m k : Nat} {l : List Writer} {x : Writer} (h : SlAt RWriter w (some ⟨b, off, none⟩) m l) (hx : l[k]? = some x) :
    w.cell? ⟨b, off + k * 5, none⟩ = some (.string x.name) ∧ w.cell? ⟨b, off + k * 5 + 1, none⟩ = some (.string x.secret) ∧ w.cell? ⟨b, off + k * 5 + 2, none⟩ = some (.slice x.prefixes.A x.prefixes.n x.prefixes.cap) ∧ w.cell? ⟨b, off + k * 5 + 3, none⟩ = some (.int .i64 x.from_) ∧ w.cell? ⟨b, off + k * 5 + 4, none⟩ = some (.int .i64 x.to_) := by
  have hk := (List.getElem?_eq_some_iff.1 hx).1
  obtain ⟨b', off', hA, hc⟩ := h.2.1 (by have := h.1; omega)
  obtain ⟨rfl, rfl⟩ : b = b' ∧ off = off' := by simpa using hA
  exact ⟨hc k x hx 0 _ rfl, hc k x hx 1 _ rfl, hc k x hx 2 _ rfl, hc k x hx 3 _ rfl, hc k x hx 4 _ rfl⟩

/-! ### api.Claimed -/
structure Claimed where
  key : ByteArray
  label : ByteArray
  result : ByteArray
  writer : ByteArray
  at_ : Int
  uses : SlD ByteArray
  sign : ByteArray
instance : Inhabited Claimed := ⟨⟨ByteArray.empty, ByteArray.empty, ByteArray.empty, ByteArray.empty, 0, ⟨none, 0, 0, []⟩, ByteArray.empty⟩⟩
def RClaimed : Rd Claimed :=
  ⟨7, fun x => [.string x.key, .string x.label, .string x.result, .string x.writer, .int .i64 x.at_, .slice x.uses.A x.uses.n x.uses.cap, .string x.sign],
    fun w x => RStr.ok w x.key ∧ RStr.ok w x.label ∧ RStr.ok w x.result ∧ RStr.ok w x.writer ∧ RInt.ok w x.at_ ∧ (RSl RStr).ok w x.uses ∧ RStr.ok w x.sign,
    fun x => RStr.bulk x.key + RStr.bulk x.label + RStr.bulk x.result + RStr.bulk x.writer + RInt.bulk x.at_ + (RSl RStr).bulk x.uses + RStr.bulk x.sign, fun _ => rfl, fun _ u h => by simp only [List.mem_cons, List.not_mem_nil, or_false] at h; rcases h with rfl | rfl | rfl | rfl | rfl | rfl | rfl <;> rfl,
    fun _ _ _ hb h => ⟨RStr.mono _ _ _ hb (h.1), RStr.mono _ _ _ hb (h.2.1), RStr.mono _ _ _ hb (h.2.2.1), RStr.mono _ _ _ hb (h.2.2.2.1), RInt.mono _ _ _ hb (h.2.2.2.2.1), (RSl RStr).mono _ _ _ hb (h.2.2.2.2.2.1), RStr.mono _ _ _ hb (h.2.2.2.2.2.2)⟩⟩
theorem cells_Claimed {w : World} {b off m k : Nat} {l : List Claimed} {x : Claimed} (h : SlAt RClaimed w (some ⟨b, off, none⟩) m l) (hx : l[k]? = some x) :
    w.cell? ⟨b, off + k * 7, none⟩ = some (.string x.key) ∧ w.cell? ⟨b, off + k * 7 + 1, none⟩ = some (.string x.label) ∧ w.cell? ⟨b, off + k * 7 + 2, none⟩ = some (.string x.result) ∧ w.cell? ⟨b, off + k * 7 + 3, none⟩ = some (.string x.writer) ∧ w.cell? ⟨b, off + k * 7 + 4, none⟩ = some (.int .i64 x.at_) ∧ w.cell? ⟨b, off + k * 7 + 5, none⟩ = some (.slice x.uses.A x.uses.n x.uses.cap) ∧ w.cell? ⟨b, off + k * 7 + 6, none⟩ = some (.string x.sign) := by
  have hk := (List.getElem?_eq_some_iff.1 hx).1
  obtain ⟨b', off', hA, hc⟩ := h.2.1 (by have := h.1; omega)
  obtain ⟨rfl, rfl⟩ : b = b' ∧ off = off' := by simpa using hA
  exact ⟨hc k x hx 0 _ rfl, hc k x hx 1 _ rfl, hc k x hx 2 _ rfl, hc k x hx 3 _ rfl, hc k x hx 4 _ rfl, hc k x hx 5 _ rfl, hc k x hx 6 _ rfl⟩

/-! ### api.Audit -/
structure Audit where
  number : Int
  result : ByteArray
  at_ : Int
deriving DecidableEq
instance : Inhabited Audit := ⟨⟨0, ByteArray.empty, 0⟩⟩
def RAudit : Rd Audit :=
  ⟨3, fun x => [.int .i64 x.number, .string x.result, .int .i64 x.at_],
    fun w x => RInt.ok w x.number ∧ RStr.ok w x.result ∧ RInt.ok w x.at_,
    fun x => RInt.bulk x.number + RStr.bulk x.result + RInt.bulk x.at_, fun _ => rfl, fun _ u h => by simp only [List.mem_cons, List.not_mem_nil, or_false] at h; rcases h with rfl | rfl | rfl <;> rfl,
    fun _ _ _ hb h => ⟨RInt.mono _ _ _ hb (h.1), RStr.mono _ _ _ hb (h.2.1), RInt.mono _ _ _ hb (h.2.2)⟩⟩
theorem cells_Audit {w : World} {b off m k : Nat} {l : List Audit} {x : Audit} (h : SlAt RAudit w (some ⟨b, off, none⟩) m l) (hx : l[k]? = some x) :
    w.cell? ⟨b, off + k * 3, none⟩ = some (.int .i64 x.number) ∧ w.cell? ⟨b, off + k * 3 + 1, none⟩ = some (.string x.result) ∧ w.cell? ⟨b, off + k * 3 + 2, none⟩ = some (.int .i64 x.at_) := by
  have hk := (List.getElem?_eq_some_iff.1 hx).1
  obtain ⟨b', off', hA, hc⟩ := h.2.1 (by have := h.1; omega)
  obtain ⟨rfl, rfl⟩ : b = b' ∧ off = off' := by simpa using hA
  exact ⟨hc k x hx 0 _ rfl, hc k x hx 1 _ rfl, hc k x hx 2 _ rfl⟩

/-! ### api.Score -/
structure Score where
  writer : ByteArray
  audited : Int
  wrong : Int
deriving DecidableEq
instance : Inhabited Score := ⟨⟨ByteArray.empty, 0, 0⟩⟩
def RScore : Rd Score :=
  ⟨3, fun x => [.string x.writer, .int .i64 x.audited, .int .i64 x.wrong],
    fun w x => RStr.ok w x.writer ∧ RInt.ok w x.audited ∧ RInt.ok w x.wrong,
    fun x => RStr.bulk x.writer + RInt.bulk x.audited + RInt.bulk x.wrong, fun _ => rfl, fun _ u h => by simp only [List.mem_cons, List.not_mem_nil, or_false] at h; rcases h with rfl | rfl | rfl <;> rfl,
    fun _ _ _ hb h => ⟨RStr.mono _ _ _ hb (h.1), RInt.mono _ _ _ hb (h.2.1), RInt.mono _ _ _ hb (h.2.2)⟩⟩
theorem cells_Score {w : World} {b off m k : Nat} {l : List Score} {x : Score} (h : SlAt RScore w (some ⟨b, off, none⟩) m l) (hx : l[k]? = some x) :
    w.cell? ⟨b, off + k * 3, none⟩ = some (.string x.writer) ∧ w.cell? ⟨b, off + k * 3 + 1, none⟩ = some (.int .i64 x.audited) ∧ w.cell? ⟨b, off + k * 3 + 2, none⟩ = some (.int .i64 x.wrong) := by
  have hk := (List.getElem?_eq_some_iff.1 hx).1
  obtain ⟨b', off', hA, hc⟩ := h.2.1 (by have := h.1; omega)
  obtain ⟨rfl, rfl⟩ : b = b' ∧ off = off' := by simpa using hA
  exact ⟨hc k x hx 0 _ rfl, hc k x hx 1 _ rfl, hc k x hx 2 _ rfl⟩

/-! ### api.Run -/
structure Run where
  id_ : ByteArray
  worker : ByteArray
  from_ : Int
  to_ : Int
  end_ : Int
deriving DecidableEq
instance : Inhabited Run := ⟨⟨ByteArray.empty, ByteArray.empty, 0, 0, 0⟩⟩
def RRun : Rd Run :=
  ⟨5, fun x => [.string x.id_, .string x.worker, .int .i64 x.from_, .int .i64 x.to_, .int .i64 x.end_],
    fun w x => RStr.ok w x.id_ ∧ RStr.ok w x.worker ∧ RInt.ok w x.from_ ∧ RInt.ok w x.to_ ∧ RInt.ok w x.end_,
    fun x => RStr.bulk x.id_ + RStr.bulk x.worker + RInt.bulk x.from_ + RInt.bulk x.to_ + RInt.bulk x.end_, fun _ => rfl, fun _ u h => by simp only [List.mem_cons, List.not_mem_nil, or_false] at h; rcases h with rfl | rfl | rfl | rfl | rfl <;> rfl,
    fun _ _ _ hb h => ⟨RStr.mono _ _ _ hb (h.1), RStr.mono _ _ _ hb (h.2.1), RInt.mono _ _ _ hb (h.2.2.1), RInt.mono _ _ _ hb (h.2.2.2.1), RInt.mono _ _ _ hb (h.2.2.2.2)⟩⟩
theorem cells_Run {w : World} {b off m k : Nat} {l : List Run} {x : Run} (h : SlAt RRun w (some ⟨b, off, none⟩) m l) (hx : l[k]? = some x) :
    w.cell? ⟨b, off + k * 5, none⟩ = some (.string x.id_) ∧ w.cell? ⟨b, off + k * 5 + 1, none⟩ = some (.string x.worker) ∧ w.cell? ⟨b, off + k * 5 + 2, none⟩ = some (.int .i64 x.from_) ∧ w.cell? ⟨b, off + k * 5 + 3, none⟩ = some (.int .i64 x.to_) ∧ w.cell? ⟨b, off + k * 5 + 4, none⟩ = some (.int .i64 x.end_) := by
  have hk := (List.getElem?_eq_some_iff.1 hx).1
  obtain ⟨b', off', hA, hc⟩ := h.2.1 (by have := h.1; omega)
  obtain ⟨rfl, rfl⟩ : b = b' ∧ off = off' := by simpa using hA
  exact ⟨hc k x hx 0 _ rfl, hc k x hx 1 _ rfl, hc k x hx 2 _ rfl, hc k x hx 3 _ rfl, hc k x hx 4 _ rfl⟩

theorem opens_t_sl_Work : Opens Tryd.prog 22 (RSl RWork) := opens_slice Tryd.underlying22 (by kernel_rfl) (by decide) opens_Work
theorem opens_t_sl_Int : Opens Tryd.prog 24 (RSl RInt) := opens_slice Tryd.underlying24 (by kernel_rfl) (by decide) opens_t_int
theorem opens_t_sl_Bool : Opens Tryd.prog 36 (RSl RBool) := opens_slice Tryd.underlying36 (by kernel_rfl) (by decide) opens_t_bool
end Go.Proofs.YtbapkhkklglbaaaDoor
