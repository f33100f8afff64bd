/-
  Several texts of mine as one, without what is not wanted here: XTypesF, XWord, XWordP, XIn, XPairs, XWorksD, XMoment, XStands, XWorker, XCWork, XFit, XEnds, XBsf, XFunc9, XOrdered.
-/
import Derived.Test.YtbnkoefljcekbaaGreatDoorOaG
import Derived.Test.YtbnkoefljcekbaaGreatDoorOaGB
import Derived.Test.YtbnkoefljcekbaaGreatDoorShelf
import Derived.Shelf.Strings.SlTrimAscii
import Derived.Deep.QuietTactic
import Derived.BigQuiet
import Derived.Shelf.SlicesQ.Contains
import Derived.Laws.StructEq
import Derived.Test.YtbnkoefljcekbaaGreatDoorOaGC
namespace Go.Proofs.YtbnkoefljcekbaaGreatDoor.C9
open Go.ChangeShapes Go.WideShapes Go.Deep Go.RowKit
/-! ### api.Loss -/
structure Loss where
  worker : ByteArray
  at_ : Int
deriving DecidableEq
instance : Inhabited Loss := ⟨⟨ByteArray.empty, 0⟩⟩
def RLoss : Rd Loss :=
  ⟨2, fun x => [.string x.worker, .int .i64 x.at_],
    fun w x => RStr.ok w x.worker ∧ RInt.ok w x.at_,
    fun x => RStr.bulk x.worker + RInt.bulk x.at_, fun _ => rfl, fun _ u h => by simp only [List.mem_cons, List.not_mem_nil, or_false] at h; rcases h with rfl | rfl <;> rfl,
    fun _ _ _ hb h => ⟨RStr.mono _ _ _ hb (h.1), RInt.mono _ _ _ hb (h.2)⟩⟩
set_option maxRecDepth 100000 in
theorem opens_Loss : Opens Tryz.prog 71 RLoss := by
  refine ⟨by kernel_rfl, fun H enc w fuel cs x hx => ?_⟩
  obtain ⟨xs, n, _, hxe, hlen, hxl, hf⟩ := DataW.trod_struct Tryz.underlying71 hx
  rw [show Tryz.prog.cellsOf 71 = 2 by kernel_rfl] at hlen
  match cs, hlen, xs, hxl with
  | [c0, c1], _, [y0, y1], _ =>
    have g0 : DataW.trod enc Tryz.prog w 0 (fun _ => true) true n 9 [c0] = some y0 := by
      have this : DataW.trod enc Tryz.prog w 0 (fun _ => true) true n 9 (([c0, c1].drop 0).take (Tryz.prog.cellsOf 9)) = some y0 := hf 0 _ rfl
      rwa [show ([c0, c1].drop 0).take (Tryz.prog.cellsOf 9) = [c0] by rw [show Tryz.prog.cellsOf 9 = 1 by kernel_rfl]; rfl] at this
    obtain ⟨a0, e0, k0, b0⟩ := opens_t_str.2 H enc w n _ _ g0
    have g1 : DataW.trod enc Tryz.prog w 0 (fun _ => true) true n 3 [c1] = some y1 := by
      have this : DataW.trod enc Tryz.prog w 0 (fun _ => true) true n 3 (([c0, c1].drop 1).take (Tryz.prog.cellsOf 3)) = some y1 := hf 1 _ rfl
      rwa [show ([c0, c1].drop 1).take (Tryz.prog.cellsOf 3) = [c1] by rw [show Tryz.prog.cellsOf 3 = 1 by kernel_rfl]; rfl] at this
    obtain ⟨a1, e1, k1, b1⟩ := opens_t_int.2 H enc w n _ _ g1
    refine ⟨⟨a0, a1⟩, ?_, ⟨k0, k1⟩, ?_⟩
    · obtain rfl : c0 = .string a0 := by have := List.cons.inj e0; exact this.1
      obtain rfl : c1 = .int .i64 a1 := by have := List.cons.inj e1; exact this.1
      rfl
    · subst hxe
      simp only [RLoss, Rows.uptoBulk, Rows.uptoBulkAll, List.map_cons, List.map_nil]
      omega
theorem cells_Loss {w : World} {b off m k : Nat} {l : List Loss} {x : Loss} (h : SlAt RLoss w (some ⟨b, off, none⟩) m l) (hx : l[k]? = some x) :
    w.cell? ⟨b, off + k * 2, none⟩ = some (.string x.worker) ∧ w.cell? ⟨b, off + k * 2 + 1, none⟩ = some (.int .i64 x.at_) := by
  have hk := (List.getElem?_eq_some_iff.1 hx).1
  obtain ⟨b', off', hA, hc⟩ := h.2.1 (by have := h.1; omega)
  obtain ⟨rfl, rfl⟩ : b = b' ∧ off = off' := by simpa using hA
  exact ⟨hc k x hx 0 _ rfl, hc k x hx 1 _ rfl⟩

theorem opens_t_sl_Loss : Opens Tryz.prog 24 (RSl RLoss) := opens_slice Tryz.underlying24 (by kernel_rfl) (by decide) opens_Loss
/-! ### api.Farm -/
structure Farm where
  workers : SlD Worker
  works : SlD Work
  lost : SlD Loss
  tries : Int
  doubles : Bool
instance : Inhabited Farm := ⟨⟨⟨none, 0, 0, []⟩, ⟨none, 0, 0, []⟩, ⟨none, 0, 0, []⟩, 0, false⟩⟩
def RFarm : Rd Farm :=
  ⟨5, fun x => [.slice x.workers.A x.workers.n x.workers.cap, .slice x.works.A x.works.n x.works.cap, .slice x.lost.A x.lost.n x.lost.cap, .int .i64 x.tries, .bool x.doubles],
    fun w x => (RSl RWorker).ok w x.workers ∧ (RSl RWork).ok w x.works ∧ (RSl RLoss).ok w x.lost ∧ RInt.ok w x.tries ∧ RBool.ok w x.doubles,
    fun x => (RSl RWorker).bulk x.workers + (RSl RWork).bulk x.works + (RSl RLoss).bulk x.lost + RInt.bulk x.tries + RBool.bulk x.doubles, fun _ => rfl, fun _ u h => by simp only [List.mem_cons, List.not_mem_nil, or_false] at h; rcases h with rfl | rfl | rfl | rfl | rfl <;> rfl,
    fun _ _ _ hb h => ⟨(RSl RWorker).mono _ _ _ hb (h.1), (RSl RWork).mono _ _ _ hb (h.2.1), (RSl RLoss).mono _ _ _ hb (h.2.2.1), RInt.mono _ _ _ hb (h.2.2.2.1), RBool.mono _ _ _ hb (h.2.2.2.2)⟩⟩
set_option maxRecDepth 100000 in
theorem opens_Farm : Opens Tryz.prog 26 RFarm := by
  refine ⟨by kernel_rfl, fun H enc w fuel cs x hx => ?_⟩
  obtain ⟨xs, n, _, hxe, hlen, hxl, hf⟩ := DataW.trod_struct Tryz.underlying26 hx
  rw [show Tryz.prog.cellsOf 26 = 5 by kernel_rfl] at hlen
  match cs, hlen, xs, hxl with
  | [c0, c1, c2, c3, c4], _, [y0, y1, y2, y3, y4], _ =>
    have g0 : DataW.trod enc Tryz.prog w 0 (fun _ => true) true n 22 [c0] = some y0 := by
      have this : DataW.trod enc Tryz.prog w 0 (fun _ => true) true n 22 (([c0, c1, c2, c3, c4].drop 0).take (Tryz.prog.cellsOf 22)) = some y0 := hf 0 _ rfl
      rwa [show ([c0, c1, c2, c3, c4].drop 0).take (Tryz.prog.cellsOf 22) = [c0] by rw [show Tryz.prog.cellsOf 22 = 1 by kernel_rfl]; rfl] at this
    obtain ⟨a0, e0, k0, b0⟩ := opens_t_sl_Worker.2 H enc w n _ _ g0
    have g1 : DataW.trod enc Tryz.prog w 0 (fun _ => true) true n 23 [c1] = some y1 := by
      have this : DataW.trod enc Tryz.prog w 0 (fun _ => true) true n 23 (([c0, c1, c2, c3, c4].drop 1).take (Tryz.prog.cellsOf 23)) = some y1 := hf 1 _ rfl
      rwa [show ([c0, c1, c2, c3, c4].drop 1).take (Tryz.prog.cellsOf 23) = [c1] by rw [show Tryz.prog.cellsOf 23 = 1 by kernel_rfl]; rfl] at this
    obtain ⟨a1, e1, k1, b1⟩ := opens_t_sl_Work.2 H enc w n _ _ g1
    have g2 : DataW.trod enc Tryz.prog w 0 (fun _ => true) true n 24 [c2] = some y2 := by
      have this : DataW.trod enc Tryz.prog w 0 (fun _ => true) true n 24 (([c0, c1, c2, c3, c4].drop 2).take (Tryz.prog.cellsOf 24)) = some y2 := hf 2 _ rfl
      rwa [show ([c0, c1, c2, c3, c4].drop 2).take (Tryz.prog.cellsOf 24) = [c2] by rw [show Tryz.prog.cellsOf 24 = 1 by kernel_rfl]; rfl] at this
    obtain ⟨a2, e2, k2, b2⟩ := opens_t_sl_Loss.2 H enc w n _ _ g2
    have g3 : DataW.trod enc Tryz.prog w 0 (fun _ => true) true n 3 [c3] = some y3 := by
      have this : DataW.trod enc Tryz.prog w 0 (fun _ => true) true n 3 (([c0, c1, c2, c3, c4].drop 3).take (Tryz.prog.cellsOf 3)) = some y3 := hf 3 _ rfl
      rwa [show ([c0, c1, c2, c3, c4].drop 3).take (Tryz.prog.cellsOf 3) = [c3] by rw [show Tryz.prog.cellsOf 3 = 1 by kernel_rfl]; rfl] at this
    obtain ⟨a3, e3, k3, b3⟩ := opens_t_int.2 H enc w n _ _ g3
    have g4 : DataW.trod enc Tryz.prog w 0 (fun _ => true) true n 4 [c4] = some y4 := by
      have this : DataW.trod enc Tryz.prog w 0 (fun _ => true) true n 4 (([c0, c1, c2, c3, c4].drop 4).take (Tryz.prog.cellsOf 4)) = some y4 := hf 4 _ rfl
      rwa [show ([c0, c1, c2, c3, c4].drop 4).take (Tryz.prog.cellsOf 4) = [c4] by rw [show Tryz.prog.cellsOf 4 = 1 by kernel_rfl]; rfl] at this
    obtain ⟨a4, e4, k4, b4⟩ := opens_t_bool.2 H enc w n _ _ g4
    refine ⟨⟨a0, a1, a2, a3, a4⟩, ?_, ⟨k0, k1, k2, k3, k4⟩, ?_⟩
    · obtain rfl : c0 = .slice a0.A a0.n a0.cap := by have := List.cons.inj e0; exact this.1
      obtain rfl : c1 = .slice a1.A a1.n a1.cap := by have := List.cons.inj e1; exact this.1
      obtain rfl : c2 = .slice a2.A a2.n a2.cap := by have := List.cons.inj e2; exact this.1
      obtain rfl : c3 = .int .i64 a3 := by have := List.cons.inj e3; exact this.1
      obtain rfl : c4 = .bool a4 := by have := List.cons.inj e4; exact this.1
      rfl
    · subst hxe
      simp only [RFarm, Rows.uptoBulk, Rows.uptoBulkAll, List.map_cons, List.map_nil]
      omega
/-! ### api.Outcome -/
structure Outcome where
  id_ : ByteArray
  state : Int
  at_ : Int
  tries : Int
deriving DecidableEq
instance : Inhabited Outcome := ⟨⟨ByteArray.empty, 0, 0, 0⟩⟩
def ROutcome : Rd Outcome :=
  ⟨4, fun x => [.string x.id_, .int .i64 x.state, .int .i64 x.at_, .int .i64 x.tries],
    fun w x => RStr.ok w x.id_ ∧ RInt.ok w x.state ∧ RInt.ok w x.at_ ∧ RInt.ok w x.tries,
    fun x => RStr.bulk x.id_ + RInt.bulk x.state + RInt.bulk x.at_ + RInt.bulk x.tries, fun _ => rfl, fun _ u h => by simp only [List.mem_cons, List.not_mem_nil, or_false] at h; rcases h with rfl | rfl | rfl | rfl <;> rfl,
    fun _ _ _ hb h => ⟨RStr.mono _ _ _ hb (h.1), RInt.mono _ _ _ hb (h.2.1), RInt.mono _ _ _ hb (h.2.2.1), RInt.mono _ _ _ hb (h.2.2.2)⟩⟩
theorem cells_Outcome {w : World} {b off m k : Nat} {l : List Outcome} {x : Outcome} (h : SlAt ROutcome w (some ⟨b, off, none⟩) m l) (hx : l[k]? = some x) :
    w.cell? ⟨b, off + k * 4, none⟩ = some (.string x.id_) ∧ w.cell? ⟨b, off + k * 4 + 1, none⟩ = some (.int .i64 x.state) ∧ w.cell? ⟨b, off + k * 4 + 2, none⟩ = some (.int .i64 x.at_) ∧ w.cell? ⟨b, off + k * 4 + 3, none⟩ = some (.int .i64 x.tries) := by
  have hk := (List.getElem?_eq_some_iff.1 hx).1
  obtain ⟨b', off', hA, hc⟩ := h.2.1 (by have := h.1; omega)
  obtain ⟨rfl, rfl⟩ : b = b' ∧ off = off' := by simpa using hA
  exact ⟨hc k x hx 0 _ rfl, hc k x hx 1 _ rfl, hc k x hx 2 _ rfl, hc k x hx 3 _ rfl⟩

/-! ### workers.run -/
structure GRun where
  work : Int
  worker : Int
  from_ : Int
  end_ : Int
deriving DecidableEq
instance : Inhabited GRun := ⟨⟨0, 0, 0, 0⟩⟩
def RGRun : Rd GRun :=
  ⟨4, fun x => [.int .i64 x.work, .int .i64 x.worker, .int .i64 x.from_, .int .i64 x.end_],
    fun w x => RInt.ok w x.work ∧ RInt.ok w x.worker ∧ RInt.ok w x.from_ ∧ RInt.ok w x.end_,
    fun x => RInt.bulk x.work + RInt.bulk x.worker + RInt.bulk x.from_ + RInt.bulk x.end_, fun _ => rfl, fun _ u h => by simp only [List.mem_cons, List.not_mem_nil, or_false] at h; rcases h with rfl | rfl | rfl | rfl <;> rfl,
    fun _ _ _ hb h => ⟨RInt.mono _ _ _ hb (h.1), RInt.mono _ _ _ hb (h.2.1), RInt.mono _ _ _ hb (h.2.2.1), RInt.mono _ _ _ hb (h.2.2.2)⟩⟩
theorem cells_GRun {w : World} {b off m k : Nat} {l : List GRun} {x : GRun} (h : SlAt RGRun w (some ⟨b, off, none⟩) m l) (hx : l[k]? = some x) :
    w.cell? ⟨b, off + k * 4, none⟩ = some (.int .i64 x.work) ∧ w.cell? ⟨b, off + k * 4 + 1, none⟩ = some (.int .i64 x.worker) ∧ w.cell? ⟨b, off + k * 4 + 2, none⟩ = some (.int .i64 x.from_) ∧ w.cell? ⟨b, off + k * 4 + 3, none⟩ = some (.int .i64 x.end_) := by
  have hk := (List.getElem?_eq_some_iff.1 hx).1
  obtain ⟨b', off', hA, hc⟩ := h.2.1 (by have := h.1; omega)
  obtain ⟨rfl, rfl⟩ : b = b' ∧ off = off' := by simpa using hA
  exact ⟨hc k x hx 0 _ rfl, hc k x hx 1 _ rfl, hc k x hx 2 _ rfl, hc k x hx 3 _ rfl⟩

end Go.Proofs.YtbnkoefljcekbaaGreatDoor.C9

namespace Go.Proofs.YtbnkoefljcekbaaGreatDoor.C9
open Go.RowKit
set_option linter.unusedVariables false

/-- a byte that a word can hold -/
def wch (b : UInt8) : Bool := decide ((97 ≤ b.toNat ∧ b.toNat ≤ 122) ∨ (48 ≤ b.toNat ∧ b.toNat ≤ 57) ∨ b.toNat = 45 ∨ b.toNat = 95)
def wordL : List UInt8 → Bool
  | [] => false
  | c :: r => decide (97 ≤ c.toNat ∧ c.toNat ≤ 122) && decide (r.length < 40) && (c :: r).all wch
/-- whether a string is a word -/
def wordB (s : ByteArray) : Bool := wordL s.data.toList

theorem str_get {s : ByteArray} {k : Nat} (h : k < s.size) : s.data.toList[k]? = some s[k] := by
  rw [List.getElem?_eq_getElem (by simpa using h)]
  rfl

theorem word_of {s : ByteArray} (h : 1 ≤ s.size) : wordB s = (decide (97 ≤ (s[0]'(by omega)).toNat ∧ (s[0]'(by omega)).toNat ≤ 122) && decide (s.size ≤ 40) && s.data.toList.all wch) := by
  unfold wordB
  have h0 := str_get (s := s) (k := 0) (by omega)
  have hl : s.data.toList.length = s.size := by simp
  cases hd : s.data.toList with
  | nil => rw [hd] at hl; simp at hl; omega
  | cons c r =>
    rw [hd] at h0 hl
    simp only [List.getElem?_cons_zero, Option.some.injEq] at h0
    simp only [List.length_cons] at hl
    have e : decide (r.length < 40) = decide (s.size ≤ 40) := decide_eq_decide.2 (by omega)
    rw [← h0]
    show (decide (97 ≤ c.toNat ∧ c.toNat ≤ 122) && decide (r.length < 40) && (c :: r).all wch) = _
    rw [e]
theorem word_empty {s : ByteArray} (h : ¬ 1 ≤ s.size) : wordB s = false := by
  unfold wordB
  have hl : s.data.toList.length = s.size := by simp
  cases hd : s.data.toList with
  | nil => rfl
  | cons c r => rw [hd] at hl; simp only [List.length_cons] at hl; omega

end Go.Proofs.YtbnkoefljcekbaaGreatDoor.C9

namespace Go.Proofs.YtbnkoefljcekbaaGreatDoor.C9
open Go.RowKit Go.Shelf
set_option linter.unusedVariables false

def wcut : List UInt8 := [97, 98, 99, 100, 101, 102, 103, 104, 105, 106, 107, 108, 109, 110, 111, 112, 113, 114, 115, 116, 117, 118, 119, 120, 121, 122, 48, 49, 50, 51, 52, 53, 54, 55, 56, 57, 95, 45]
theorem wcut_wch (b : UInt8) : wcut.contains b = wch b := by
  have := byte_all (p := fun b => wcut.contains b == wch b) (by decide +kernel) b
  simpa using this
theorem wcut_all (l : List UInt8) : l.all (wcut.contains ·) = l.all wch := by
  congr 1
  funext b
  exact wcut_wch b

theorem trim_word (s : ByteArray) (w : World) (hs : s.size ≤ 9223372036854775807) :
    Calls Tryz.prog 99 #[.string s, .string ⟨#[97, 98, 99, 100, 101, 102, 103, 104, 105, 106, 107, 108, 109, 110, 111, 112, 113, 114, 115, 116, 117, 118, 119, 120, 121, 122, 48, 49, 50, 51, 52, 53, 54, 55, 56, 57, 95, 45]⟩] w fun e w' =>
      e = .returned (.string ⟨(Lib.trimS s.data.toList wcut).toArray⟩) ∧ Below w.heap.size w w' :=
  Any.strings_Trim_laid Tryz.lays160 (by kernel_rfl) s ⟨#[97, 98, 99, 100, 101, 102, 103, 104, 105, 106, 107, 108, 109, 110, 111, 112, 113, 114, 115, 116, 117, 118, 119, 120, 121, 122, 48, 49, 50, 51, 52, 53, 54, 55, 56, 57, 95, 45]⟩ w hs (by decide) (ascii_of_all (by decide))

theorem trim_nil {s : ByteArray} {cs : List UInt8} (h : s.data.toList.all (cs.contains ·) = true) : (⟨(Lib.trimS s.data.toList cs).toArray⟩ : ByteArray) = ⟨#[]⟩ := by
  rw [(trimS_nil _ _).2 h]
theorem trim_some {s : ByteArray} {cs : List UInt8} (h : s.data.toList.all (cs.contains ·) = false) : ∃ c r, (⟨(Lib.trimS s.data.toList cs).toArray⟩ : ByteArray) = ⟨(c :: r).toArray⟩ := by
  cases hd : Lib.trimS s.data.toList cs with
  | nil => rw [trimS_nil] at hd; rw [hd] at h; cases h
  | cons c r => exact ⟨c, r, rfl⟩

theorem word_any (s : ByteArray) (b : Bool) (w : World) (hs : s.size ≤ maxLen) (hb : wordB s = b) :
    Calls Tryz.prog 58 #[.string s] w fun e w' => e = .returned (.bool b) ∧ Below w.heap.size w w' := by
  unfold maxLen at hs
  by_cases h0 : 1 ≤ s.size
  · by_cases h1 : s.size ≤ 40
    · rw [word_of h0, decide_eq_true h1, Bool.and_true] at hb
      by_cases c0 : 97 ≤ (s[0]'(by omega)).toNat
      · by_cases c1 : (s[0]'(by omega)).toNat ≤ 122
        · rw [decide_eq_true ⟨c0, c1⟩, Bool.true_and, ← wcut_all] at hb
          cases b
          · obtain ⟨c, r, hcr⟩ := trim_some hb
            have hbH := Lib.hid hb
            clear hb
            have hcrH := Lib.hid hcr
            clear hcr
            go_enter Tryz.func58, Tryz.ntmps58
            go_wp2_with fail
            refine (trim_word s _ hs).mono ?_
            rw [hcrH.out]
            rintro e w1 ⟨rfl, hb1⟩
            have hb1H := Lib.hid hb1
            clear hb1
            go_wp2
            go_ret
            exact ⟨rfl, hb1H.out⟩
          · have hcr := trim_nil hb
            have hbH := Lib.hid hb
            clear hb
            have hcrH := Lib.hid hcr
            clear hcr
            go_enter Tryz.func58, Tryz.ntmps58
            go_wp2_with fail
            refine (trim_word s _ hs).mono ?_
            rw [hcrH.out]
            rintro e w1 ⟨rfl, hb1⟩
            have hb1H := Lib.hid hb1
            clear hb1
            go_wp2
            go_ret
            exact ⟨rfl, hb1H.out⟩
        · rw [decide_eq_false (fun h => c1 h.2), Bool.false_and] at hb
          subst hb
          go_enter Tryz.func58, Tryz.ntmps58
          go_wp2
          go_ret
          exact ⟨rfl, Below.refl _ _⟩
      · rw [decide_eq_false (fun h => c0 h.1), Bool.false_and] at hb
        subst hb
        go_enter Tryz.func58, Tryz.ntmps58
        go_wp2
        go_ret
        exact ⟨rfl, Below.refl _ _⟩
    · rw [word_of h0, decide_eq_false h1, Bool.and_false, Bool.false_and] at hb
      subst hb
      go_enter Tryz.func58, Tryz.ntmps58
      go_wp2
      go_ret
      exact ⟨rfl, Below.refl _ _⟩
  · rw [word_empty h0] at hb
    subst hb
    go_enter Tryz.func58, Tryz.ntmps58
    go_wp2
    go_ret
    exact ⟨rfl, Below.refl _ _⟩
end Go.Proofs.YtbnkoefljcekbaaGreatDoor.C9

namespace Go.Proofs.YtbnkoefljcekbaaGreatDoor.C9
open Go.RowKit
set_option linter.unusedVariables false

theorem bel_drewN {B : Nat} {a w : World} (h : Below B a w) (n : Nat) : Below B a (w.drewN n) := h.trans ⟨rfl, rfl, rfl, Nat.le_refl _, fun _ _ => rfl⟩
/-- a number in a range -/
def inR (lo hi n : Int) : Bool := decide (lo ≤ n) && decide (n ≤ hi)
theorem inR_true {lo hi n : Int} (h : inR lo hi n = true) : lo ≤ n ∧ n ≤ hi := by simpa [inR] using h
theorem within_p (n lo hi : Int) (w : World) :
    Calls Tryz.prog 43 #[.int .i64 n, .int .i64 lo, .int .i64 hi] w fun e w' => e = .returned (.bool (inR lo hi n)) ∧ w' = w := by
  unfold inR
  by_cases h1 : lo ≤ n
  · by_cases h2 : n ≤ hi
    · go_enter Tryz.func43, Tryz.ntmps43
      go_wp2
      go_ret
      first | (simp; done) | (simp; omega) | (exact ⟨by simp; omega, rfl⟩)
    · go_enter Tryz.func43, Tryz.ntmps43
      go_wp2
      go_ret
      first | (simp; done) | (simp; omega) | (exact ⟨by simp; omega, rfl⟩)
  · go_enter Tryz.func43, Tryz.ntmps43
    go_wp2
    go_ret
    first | (simp; done) | (simp; omega) | (exact ⟨by simp; omega, rfl⟩)
end Go.Proofs.YtbnkoefljcekbaaGreatDoor.C9

namespace Go.Proofs.YtbnkoefljcekbaaGreatDoor.C9
open Go.RowKit
set_option linter.unusedVariables false

/-- the fault of pairs behind one of that name -/
def pairsErr : Option ByteArray → List Pair → Int
  | _, [] => 0
  | pr, p :: r => if wordB p.name = true then (if wordB p.value = true then (if (pr.map (sle p.name ·)) = some true then 8 else pairsErr (some p.name) r) else 1) else 5
def prevName (l : List Pair) (k : Nat) : Option ByteArray := if k = 0 then none else (l[k - 1]?).map (·.name)
def pairsF (l : List Pair) : Int := if l.length ≤ 30 then pairsErr none l else 2

def PairsRel (l : List Pair) (c : Int) (w0 : World) (i : Value) (wr : World) : Prop :=
  ∃ k : Nat, k ≤ l.length ∧ i = .int .i64 k ∧ pairsErr (prevName l k) (l.drop k) = c ∧ Below w0.heap.size w0 wr

set_option maxHeartbeats 1000000 in
theorem pairs_ok (A : Option Addr) (len cap : Nat) (l : List Pair) (w : World) (hlen : len ≤ 30) (hl : SlAt RPair w A len l) (c : Int) (hF : pairsErr none l = c) :
    Calls Tryz.prog 135 #[.slice A len cap] w fun e w' => e = .returned (.int .i64 c) ∧ Below w.heap.size w w' := by
  have hll := hl.1
  have hllH := Lib.hid hll
  clear hll
  have hFH := Lib.hid hF
  clear hF
  have hlH := Lib.hid hl
  clear hl
  go_enter Tryz.func135, Tryz.ntmps135
  go_wp2
  go_loopw [10] (fun i wr => PairsRel l c w i wr) (fun i _ => len - (intOf i).toNat)
  case atStart => exact ⟨0, Nat.zero_le _, rfl, hFH.out, Below.refl _ _⟩
  case round =>
    obtain ⟨k, hk, rfl, hck, hb⟩ := hrel
    have hkl : k ≤ len := by have := hllH.out; omega
    have hbs := hb.size
    by_cases hlt : k < len
    · obtain ⟨b, off, hA, _⟩ := hlH.out.2.1 (by omega)
      subst hA
      obtain ⟨x, hx⟩ : ∃ x, l[k]? = some x := ⟨l[k]'(by have := hllH.out; omega), List.getElem?_eq_getElem _⟩
      obtain ⟨c0, c1⟩ := cells_Pair (hlH.out.below hb) hx
      have hok := hlH.out.2.2 x (List.mem_of_getElem? hx)
      rw [drop_cons hx] at hck
      obtain ⟨nm, vl⟩ := x
      simp only at c0 c1
      obtain ⟨b1, hb1⟩ : ∃ b, wordB nm = b := ⟨_, rfl⟩
      obtain ⟨b2, hb2⟩ : ∃ b, wordB vl = b := ⟨_, rfl⟩
      have hba := hb.alloc hbs (.cells #[.string nm, .string vl] 120)
      have hbas := hba.size
      have hxH := Lib.hid hx
      clear hx
      have hckH := Lib.hid hck
      clear hck
      have hbH := Lib.hid hb
      clear hb
      have hbaH := Lib.hid hba
      clear hba
      have hokH := Lib.hid hok
      clear hok
      have hb1H := Lib.hid hb1
      clear hb1
      have hb2H := Lib.hid hb2
      clear hb2
      go_wp2_with fail
      refine (word_any nm b1 _ hokH.out.1 hb1H.out).mono ?_
      rintro e w1 ⟨rfl, hw1⟩
      have q0 : w1.cell? ⟨wr.heap.size, 0, none⟩ = some (.string nm) := (hw1.cell (by simp)).trans (cell_new _ _ _ 0)
      have q1 : w1.cell? ⟨wr.heap.size, 1, none⟩ = some (.string vl) := (hw1.cell (by simp)).trans (cell_new _ _ _ 1)
      have hbw1 := hbaH.out.trans (hw1.mono hbas)
      have hz1 : wr.heap.size < w1.heap.size := by have := hw1.size; simp at this; omega
      have hw1H := Lib.hid hw1
      clear hw1
      have hbw1H := Lib.hid hbw1
      clear hbw1
      cases b1
      · go_wp2
        go_ret
        refine ⟨?_, hbw1H.out⟩
        have := hckH.out
        rw [pairsErr, if_neg (by rw [hb1H.out]; decide)] at this
        exact ret1_int this
      · go_wp2_with fail
        refine (word_any vl b2 _ hokH.out.2 hb2H.out).mono ?_
        rintro e w2 ⟨rfl, hw2⟩
        have p0 : w2.cell? ⟨wr.heap.size, 0, none⟩ = some (.string nm) := (hw2.cell (by omega)).trans q0
        have hbw2 := hbw1H.out.trans (hw2.mono hbw1H.out.size)
        clear q0 q1
        cases b2
        · have hw2H := Lib.hid hw2
          clear hw2
          have hbw2H := Lib.hid hbw2
          clear hbw2
          go_wp2
          go_ret
          refine ⟨?_, hbw2H.out⟩
          have := hckH.out
          rw [pairsErr, if_pos hb1H.out, if_neg (by rw [hb2H.out]; decide)] at this
          exact ret1_int this
        · by_cases hk0 : k = 0
          · subst hk0
            have R : ∀ nq, PairsRel l c w (.int .i64 1) (w2.drewN nq) := by
              refine fun nq => ⟨1, by have := hllH.out; omega, by go_num, ?_, bel_drewN hbw2 nq⟩
              have := hckH.out
              rw [pairsErr, if_pos hb1H.out, if_pos hb2H.out, prevName, if_pos rfl, Option.map_none, if_neg (by decide)] at this
              rw [prevName, if_neg (by decide), show l[1 - 1]? = l[0]? from rfl, hxH.out]
              exact this
            have hw2H := Lib.hid hw2
            clear hw2
            have hbw2H := Lib.hid hbw2
            clear hbw2
            have RH := Lib.hid R
            clear R
            go_wp2_with fail
            go_quiet (fail)
            go_wp2
            refine ⟨?rel, ?measure⟩
            case measure => (simp [intOf]; omega)
            case rel => first | exact (RH.out _) | exact ⟨rfl, (RH.out _)⟩ | ((try refine ⟨rfl, ?_⟩); (repeat apply Exists.intro); refine ⟨(RH.out _), ?_⟩; ((repeat' apply And.intro) <;> rfl))
          · obtain ⟨j, rfl⟩ : ∃ j, k = j + 1 := ⟨k - 1, by omega⟩
            obtain ⟨y, hy⟩ : ∃ y, l[j]? = some y := ⟨l[j]'(by have := hllH.out; omega), List.getElem?_eq_getElem _⟩
            obtain ⟨d0, _⟩ := cells_Pair (hlH.out.below hbw2) hy
            obtain ⟨yn, yv⟩ := y
            simp only at d0
            have hpr : prevName l (j + 1) = some yn := by rw [prevName, if_neg (by omega), show j + 1 - 1 = j from rfl, hy]; rfl
            have hck := hckH.out
            rw [hpr, pairsErr, if_pos hb1H.out, if_pos hb2H.out, Option.map_some] at hck
            cases hle : sle nm yn
            · have hle' : (Op.bytesLess nm.toList yn.toList || nm.toList == yn.toList) = false := hle
              rw [hle, if_neg (by decide)] at hck
              have R : ∀ nq, PairsRel l c w (.int .i64 (j + 1 + 1)) (w2.drewN nq) := by
                refine fun nq => ⟨j + 1 + 1, by have := hllH.out; omega, by go_num, ?_, bel_drewN hbw2 nq⟩
                rw [prevName, if_neg (by omega), show j + 1 + 1 - 1 = j + 1 from rfl, hxH.out]
                exact hck
              have hw2H := Lib.hid hw2
              clear hw2
              have hbw2H := Lib.hid hbw2
              clear hbw2
              have hleH := Lib.hid hle
              clear hle
              have hckH := Lib.hid hck
              clear hck
              have hprH := Lib.hid hpr
              clear hpr
              have hyH := Lib.hid hy
              clear hy
              have RH := Lib.hid R
              clear R
              go_wp2_with fail
              go_quiet (fail)
              go_wp2
              refine ⟨?rel, ?measure⟩
              case measure => (simp [intOf]; omega)
              case rel => first | exact (RH.out _) | exact ⟨rfl, (RH.out _)⟩ | ((try refine ⟨rfl, ?_⟩); (repeat apply Exists.intro); refine ⟨(RH.out _), ?_⟩; ((repeat' apply And.intro) <;> rfl))
            · have hle' : (Op.bytesLess nm.toList yn.toList || nm.toList == yn.toList) = true := hle
              rw [hle, if_pos rfl] at hck
              have hw2H := Lib.hid hw2
              clear hw2
              have hbw2H := Lib.hid hbw2
              clear hbw2
              have hleH := Lib.hid hle
              clear hle
              have hckH := Lib.hid hck
              clear hck
              have hprH := Lib.hid hpr
              clear hpr
              have hyH := Lib.hid hy
              clear hy
              go_wp2_with fail
              go_quiet (fail)
              go_wp2
              go_ret
              exact ⟨ret1_int hckH.out, bel_drewN hbw2H.out _⟩
    · have e : l.drop k = [] := List.drop_eq_nil_of_le (by have := hllH.out; omega)
      rw [e] at hck
      have hc0 : 0 = c := by rw [← hck]; unfold pairsErr; rfl
      have hckH := Lib.hid hck
      clear hck
      have hbH := Lib.hid hb
      clear hb
      have eH := Lib.hid e
      clear e
      have hc0H := Lib.hid hc0
      clear hc0
      go_wp2
      go_ret
      exact ⟨ret1_int hc0H.out, hbH.out⟩

theorem pairs_any (A : Option Addr) (len cap : Nat) (l : List Pair) (w : World) (hl : SlAt RPair w A len l) (c : Int) (hF : pairsF l = c) :
    Calls Tryz.prog 135 #[.slice A len cap] w fun e w' => e = .returned (.int .i64 c) ∧ Below w.heap.size w w' := by
  unfold pairsF at hF
  rw [hl.1] at hF
  by_cases h : len ≤ 30
  · rw [if_pos h] at hF
    exact pairs_ok A len cap l w h hl c hF
  · rw [if_neg h] at hF
    subst hF
    clear hl
    go_enter Tryz.func135, Tryz.ntmps135
    go_wp2
    go_ret
    exact ⟨rfl, Below.refl _ _⟩
end Go.Proofs.YtbnkoefljcekbaaGreatDoor.C9

namespace Go.Proofs.YtbnkoefljcekbaaGreatDoor.C9
open Go.RowKit
set_option linter.unusedVariables false

def afterErr : Option ByteArray → List ByteArray → Int
  | _, [] => 0
  | p, s :: r => if wordB s = true then (if p.map (sle s ·) = some true then 8 else afterErr (some s) r) else 5
def prevS (l : List ByteArray) (k : Nat) : Option ByteArray := if k = 0 then none else l[k - 1]?
def workF (x : Work) : Int := if wordB x.id_ = true then (if pairsF x.needs.l = 0 then (if inR 1 1000000 x.size = true then afterErr none x.after.l else 1) else pairsF x.needs.l) else 5
def worksErr : Option ByteArray → List Work → Int
  | _, [] => 0
  | p, x :: r => if workF x = 0 then (if p.map (sle x.id_ ·) = some true then 8 else worksErr (some x.id_) r) else workF x
def prevId (l : List Work) (k : Nat) : Option ByteArray := if k = 0 then none else (l[k - 1]?).map (·.id_)

def hasId (l : List Work) (s : ByteArray) : Bool := l.any (fun x => decide (x.id_ = s))
def ixOf (l : List Work) (s : ByteArray) : Nat := l.findIdx (fun x => decide (x.id_ = s))
def gOf (l : List Work) (i : Nat) : List Nat := match l[i]? with | some x => x.after.l.map (ixOf l) | none => []
/-- whether there are all those that must be done before one of the first k -/
def allThere (l : List Work) (k : Nat) : Bool := (l.take k).all (fun x => x.after.l.all (hasId l))
noncomputable def loopB (l : List Work) : Bool := open Classical in decide (Cyc (gOf l) l.length)
noncomputable def worksF (l : List Work) : Int := if l.length ≤ 200 then (if worksErr none l = 0 then (if allThere l l.length = true then (if loopB l = true then 17 else 0) else 9) else worksErr none l) else 2

theorem ltS_of_sle {a b : ByteArray} (h : sle b a = false) : cmpS a b = -1 := by
  rw [sle_cmp, decide_eq_false_iff_not] at h
  have := cmpS_range b a
  rw [cmpS_swap b a]; omega
theorem works_rise : ∀ (l : List Work) (p : Option ByteArray), worksErr p l = 0 → (l.Pairwise fun a b => cmpS a.id_ b.id_ = -1) ∧ ∀ q, p = some q → ∀ a ∈ l, cmpS q a.id_ = -1
  | [], p, _ => ⟨List.Pairwise.nil, fun q _ a ha => by cases ha⟩
  | s :: r, p, h => by
    rw [worksErr] at h
    by_cases hb : workF s = 0
    · rw [if_pos hb] at h
      by_cases hp : p.map (sle s.id_ ·) = some true
      · rw [if_pos hp] at h; cases h
      · rw [if_neg hp] at h
        obtain ⟨h1, h2⟩ := works_rise r _ h
        refine ⟨List.pairwise_cons.2 ⟨h2 s.id_ rfl, h1⟩, fun q hq a ha => ?_⟩
        subst hq
        have hs : cmpS q s.id_ = -1 := by
          cases hs : sle s.id_ q
          · exact ltS_of_sle hs
          · rw [Option.map_some, hs] at hp; exact absurd rfl hp
        rcases List.mem_cons.1 ha with rfl | ha
        · exact hs
        · exact cmpS_trans hs (h2 s.id_ rfl a ha)
    · rw [if_neg hb] at h; exact absurd h hb
theorem works_each : ∀ (l : List Work) (p : Option ByteArray), worksErr p l = 0 → ∀ x ∈ l, workF x = 0
  | [], p, _ => fun x hx => by cases hx
  | s :: r, p, h => by
    rw [worksErr] at h
    by_cases hb : workF s = 0
    · rw [if_pos hb] at h
      by_cases hp : p.map (sle s.id_ ·) = some true
      · rw [if_pos hp] at h; cases h
      · rw [if_neg hp] at h
        intro x hx
        rcases List.mem_cons.1 hx with rfl | hx
        · exact hb
        · exact works_each r _ h x hx
    · rw [if_neg hb] at h; exact absurd h hb

theorem ixOf_get {l : List Work} {s : ByteArray} (h : hasId l s = true) : ∃ x, l[ixOf l s]? = some x ∧ x.id_ = s := by
  have hlt : ixOf l s < l.length := by
    rw [hasId, List.any_eq_true] at h
    exact List.findIdx_lt_length_of_exists h
  refine ⟨l[ixOf l s], List.getElem?_eq_getElem hlt, ?_⟩
  have := List.findIdx_getElem (w := hlt)
  exact of_decide_eq_true this
theorem ixOf_lt {l : List Work} {s : ByteArray} (h : hasId l s = true) : ixOf l s < l.length := by
  obtain ⟨x, hx, _⟩ := ixOf_get h
  exact (List.getElem?_eq_some_iff.1 hx).1
/-- in a rising list the number is what any search finds -/
theorem ixOf_eq {l : List Work} (hr : l.Pairwise fun a b => cmpS a.id_ b.id_ = -1) {k : Nat} {x : Work} (hx : l[k]? = some x) : ixOf l x.id_ = k ∧ hasId l x.id_ = true := by
  have hin : hasId l x.id_ = true := by
    rw [hasId, List.any_eq_true]
    exact ⟨x, List.mem_of_getElem? hx, decide_eq_true rfl⟩
  refine ⟨?_, hin⟩
  obtain ⟨y, hy, hyx⟩ := ixOf_get hin
  obtain ⟨h1, e1⟩ := List.getElem?_eq_some_iff.1 hx
  obtain ⟨h2, e2⟩ := List.getElem?_eq_some_iff.1 hy
  have hp := List.pairwise_iff_getElem.1 hr
  rcases Nat.lt_trichotomy (ixOf l x.id_) k with h | h | h
  · have := hp _ _ h2 h1 h
    rw [e1, e2, hyx, (cmpS_zero _ _).2 rfl] at this
    cases this
  · exact h
  · have := hp _ _ h1 h2 h
    rw [e1, e2, hyx, (cmpS_zero _ _).2 rfl] at this
    cases this
theorem gOf_get {l : List Work} {i : Nat} {x : Work} (hx : l[i]? = some x) : gOf l i = x.after.l.map (ixOf l) := by rw [gOf, hx]
theorem allThere_get {l : List Work} (h : allThere l l.length = true) {i : Nat} {x : Work} (hx : l[i]? = some x) {s : ByteArray} (hs : s ∈ x.after.l) : hasId l s = true := by
  rw [allThere, List.take_length, List.all_eq_true] at h
  have := h x (List.mem_of_getElem? hx)
  rw [List.all_eq_true] at this
  exact this s hs
theorem gOf_lt {l : List Work} (h : allThere l l.length = true) : ∀ i, i < l.length → ∀ k ∈ gOf l i, k < l.length := by
  intro i hi k hk
  rw [gOf_get (List.getElem?_eq_getElem hi)] at hk
  obtain ⟨s, hs, rfl⟩ := List.mem_map.1 hk
  exact ixOf_lt (allThere_get h (List.getElem?_eq_getElem hi) hs)
theorem allThere_snoc {l : List Work} {k : Nat} {x : Work} (hx : l[k]? = some x) : allThere l (k + 1) = (allThere l k && x.after.l.all (hasId l)) := by
  rw [allThere, List.take_add_one, hx]
  simp [allThere, List.all_append]
theorem allThere_le {l : List Work} {j : Nat} (h : allThere l j = false) : ∀ k, j ≤ k → allThere l k = false := by
  intro k hk
  rw [allThere, List.all_eq_false] at h ⊢
  obtain ⟨x, hx, hb⟩ := h
  exact ⟨x, (List.take_subset_take_left l hk) hx, hb⟩
end Go.Proofs.YtbnkoefljcekbaaGreatDoor.C9

namespace Go.Proofs.YtbnkoefljcekbaaGreatDoor.C9
open Go.RowKit
set_option linter.unusedVariables false
theorem moment_p (n : Int) (w : World) :
    Calls Tryz.prog 39 #[.int .i64 n] w fun e w' => e = .returned (.bool (inR 0 1000000000 n)) ∧ w' = w := by
  go_enter Tryz.func39, Tryz.ntmps39
  go_wp2_with (go_at_call 43; refine (within_p _ _ _ _).mono ?_; rintro e wz ⟨rfl, rfl⟩)
  go_ret
  exact ⟨rfl, rfl⟩
end Go.Proofs.YtbnkoefljcekbaaGreatDoor.C9

namespace Go.Proofs.YtbnkoefljcekbaaGreatDoor.C9
open Go.RowKit
set_option linter.unusedVariables false

/-- the fault of spans behind one that ends then -/
def standsErr : Option Int → List Span → Int
  | _, [] => 0
  | p, s :: r => if inR 0 1000000000 s.from_ = true then (if inR 0 1000000000 s.to_ = true then (if s.to_ ≤ s.from_ then 8 else if p.map (fun t => decide (s.from_ < t)) = some true then 8 else standsErr (some s.to_) r) else 1) else 1
def prevTo (l : List Span) (k : Nat) : Option Int := if k = 0 then none else (l[k - 1]?).map (·.to_)
def standsF (l : List Span) : Int := if l.length ≤ 20 then standsErr none l else 2

def StandsRel (l : List Span) (c : Int) (w0 : World) (i : Value) (wr : World) : Prop :=
  ∃ k : Nat, k ≤ l.length ∧ i = .int .i64 k ∧ standsErr (prevTo l k) (l.drop k) = c ∧ Below w0.heap.size w0 wr

set_option maxHeartbeats 400000 in
theorem stands_ok (A : Option Addr) (len cap : Nat) (l : List Span) (w : World) (hlen : len ≤ 20) (hl : SlAt RSpan w A len l) (c : Int) (hF : standsErr none l = c) :
    Calls Tryz.prog 136 #[.slice A len cap] w fun e w' => e = .returned (.int .i64 c) ∧ Below w.heap.size w w' := by
  have hll := hl.1
  have hllH := Lib.hid hll
  clear hll
  have hFH := Lib.hid hF
  clear hF
  have hlH := Lib.hid hl
  clear hl
  go_enter Tryz.func136, Tryz.ntmps136
  go_wp2
  go_loopw [10] (fun i wr => StandsRel l c w i wr) (fun i _ => len - (intOf i).toNat)
  case atStart => exact ⟨0, Nat.zero_le _, rfl, hFH.out, Below.refl _ _⟩
  case round =>
    obtain ⟨k, hk, rfl, hck, hb⟩ := hrel
    have hkl : k ≤ len := by have := hllH.out; omega
    have hbs := hb.size
    by_cases hlt : k < len
    · obtain ⟨b, off, hA, _⟩ := hlH.out.2.1 (by omega)
      subst hA
      obtain ⟨x, hx⟩ : ∃ x, l[k]? = some x := ⟨l[k]'(by have := hllH.out; omega), List.getElem?_eq_getElem _⟩
      obtain ⟨c0, c1⟩ := cells_Span (hlH.out.below hb) hx
      have hok := hlH.out.2.2 x (List.mem_of_getElem? hx)
      rw [drop_cons hx, standsErr] at hck
      obtain ⟨fr, tz⟩ := x
      simp only at c0 c1 hck
      have hba := hb.alloc hbs (.cells #[.int .i64 fr, .int .i64 tz] 202)
      have hbH := Lib.hid hb
      clear hb
      have hbaH := Lib.hid hba
      clear hba
      have hokH := Lib.hid hok
      clear hok
      by_cases i0 : inR 0 1000000000 fr = true
      · rw [if_pos i0] at hck
        by_cases i1 : inR 0 1000000000 tz = true
        · rw [if_pos i1] at hck
          by_cases hle : tz ≤ fr
          · rw [if_pos hle] at hck
            have hckH := Lib.hid hck
            clear hck
            have hxH := Lib.hid hx
            clear hx
            go_wp2_with (go_at_call 39; refine (moment_p _ _).mono ?_; rintro e wz ⟨rfl, rfl⟩)
            go_quiet (fail)
            go_wp2
            go_ret
            exact ⟨ret1_int hckH.out, bel_drewN hbaH.out _⟩
          · rw [if_neg hle] at hck
            have hle2 : decide (tz ≤ fr) = false := decide_eq_false hle
            have hle3 : fr < tz := by omega
            clear hle
            by_cases hk0 : k = 0
            · subst hk0
              rw [Nat.zero_mul, Nat.add_zero] at c0 c1
              have R : ∀ nq, StandsRel l c w (.int .i64 1) ((wr.alloc (.cells #[.int .i64 fr, .int .i64 tz] 202)).drewN nq) := by
                refine fun nq => ⟨1, by have := hllH.out; omega, by go_num, ?_, bel_drewN hbaH.out nq⟩
                rw [prevTo, if_pos rfl, Option.map_none, if_neg (by decide)] at hck
                rw [prevTo, if_neg (by decide), show l[1 - 1]? = l[0]? from rfl, hx]
                exact hck
              have hckH := Lib.hid hck
              clear hck
              have hxH := Lib.hid hx
              clear hx
              have RH := Lib.hid R
              clear R
              go_wp2_with (go_at_call 39; refine (moment_p _ _).mono ?_; rintro e wz ⟨rfl, rfl⟩)
              go_quiet (fail)
              go_wp2
              refine ⟨?rel, ?measure⟩
              case measure => (simp [intOf]; omega)
              case rel => first | exact (RH.out _) | exact ⟨rfl, (RH.out _)⟩ | ((try refine ⟨rfl, ?_⟩); (repeat apply Exists.intro); refine ⟨(RH.out _), ?_⟩; ((repeat' apply And.intro) <;> rfl))
            · obtain ⟨j, rfl⟩ : ∃ j, k = j + 1 := ⟨k - 1, by omega⟩
              obtain ⟨y, hy⟩ : ∃ y, l[j]? = some y := ⟨l[j]'(by have := hllH.out; omega), List.getElem?_eq_getElem _⟩
              obtain ⟨_, d1⟩ := cells_Span (hlH.out.below hbaH.out) hy
              have hoky := hlH.out.2.2 y (List.mem_of_getElem? hy)
              obtain ⟨yf, yt⟩ := y
              simp only at d1
              have hpr : prevTo l (j + 1) = some yt := by rw [prevTo, if_neg (by omega), show j + 1 - 1 = j from rfl, hy]; rfl
              rw [hpr, Option.map_some] at hck
              by_cases hlt2 : fr < yt
              · rw [if_pos (by rw [decide_eq_true hlt2])] at hck
                have hckH := Lib.hid hck
                clear hck
                have hprH := Lib.hid hpr
                clear hpr
                have hxH := Lib.hid hx
                clear hx
                have hyH := Lib.hid hy
                clear hy
                have hokyH := Lib.hid hoky
                clear hoky
                go_wp2_with (go_at_call 39; refine (moment_p _ _).mono ?_; rintro e wz ⟨rfl, rfl⟩)
                go_quiet (fail)
                go_wp2
                go_ret
                exact ⟨ret1_int hckH.out, bel_drewN hbaH.out _⟩
              · rw [if_neg (by rw [decide_eq_false hlt2]; decide)] at hck
                have hlt3 : decide (fr < yt) = false := decide_eq_false hlt2
                have hlt4 : yt ≤ fr := by omega
                clear hlt2
                have R : ∀ nq, StandsRel l c w (.int .i64 (j + 1 + 1)) ((wr.alloc (.cells #[.int .i64 fr, .int .i64 tz] 202)).drewN nq) := by
                  refine fun nq => ⟨j + 1 + 1, by have := hllH.out; omega, by go_num, ?_, bel_drewN hbaH.out nq⟩
                  rw [prevTo, if_neg (by omega), show j + 1 + 1 - 1 = j + 1 from rfl, hx]
                  exact hck
                have hckH := Lib.hid hck
                clear hck
                have hprH := Lib.hid hpr
                clear hpr
                have hxH := Lib.hid hx
                clear hx
                have hyH := Lib.hid hy
                clear hy
                have RH := Lib.hid R
                clear R
                have hokyH := Lib.hid hoky
                clear hoky
                go_wp2_with (go_at_call 39; refine (moment_p _ _).mono ?_; rintro e wz ⟨rfl, rfl⟩)
                go_quiet (fail)
                go_wp2
                refine ⟨?rel, ?measure⟩
                case measure => (simp [intOf]; omega)
                case rel => first | exact (RH.out _) | exact ⟨rfl, (RH.out _)⟩ | ((try refine ⟨rfl, ?_⟩); (repeat apply Exists.intro); refine ⟨(RH.out _), ?_⟩; ((repeat' apply And.intro) <;> rfl))
        · rw [if_neg i1] at hck
          have i1 : inR 0 1000000000 tz = false := by simpa using i1
          have hckH := Lib.hid hck
          clear hck
          have hxH := Lib.hid hx
          clear hx
          go_wp2_with (go_at_call 39; refine (moment_p _ _).mono ?_; rintro e wz ⟨rfl, rfl⟩)
          go_ret
          exact ⟨ret1_int hckH.out, hbaH.out⟩
      · rw [if_neg i0] at hck
        have i0 : inR 0 1000000000 fr = false := by simpa using i0
        have hckH := Lib.hid hck
        clear hck
        have hxH := Lib.hid hx
        clear hx
        go_wp2_with (go_at_call 39; refine (moment_p _ _).mono ?_; rintro e wz ⟨rfl, rfl⟩)
        go_ret
        exact ⟨ret1_int hckH.out, hbaH.out⟩
    · have e : l.drop k = [] := List.drop_eq_nil_of_le (by have := hllH.out; omega)
      rw [e] at hck
      have hc0 : 0 = c := by rw [← hck]; unfold standsErr; rfl
      have hckH := Lib.hid hck
      clear hck
      have hbH := Lib.hid hb
      clear hb
      have eH := Lib.hid e
      clear e
      have hc0H := Lib.hid hc0
      clear hc0
      go_wp2
      go_ret
      exact ⟨ret1_int hc0H.out, hbH.out⟩

theorem stands_any (A : Option Addr) (len cap : Nat) (l : List Span) (w : World) (hl : SlAt RSpan w A len l) (c : Int) (hF : standsF l = c) :
    Calls Tryz.prog 136 #[.slice A len cap] w fun e w' => e = .returned (.int .i64 c) ∧ Below w.heap.size w w' := by
  unfold standsF at hF
  rw [hl.1] at hF
  by_cases h : len ≤ 20
  · rw [if_pos h] at hF
    exact stands_ok A len cap l w h hl c hF
  · rw [if_neg h] at hF
    subst hF
    clear hl
    go_enter Tryz.func136, Tryz.ntmps136
    go_wp2
    go_ret
    exact ⟨rfl, Below.refl _ _⟩

end Go.Proofs.YtbnkoefljcekbaaGreatDoor.C9

namespace Go.Proofs.YtbnkoefljcekbaaGreatDoor.C9
open Go.RowKit
set_option linter.unusedVariables false

/-- the fault of a worker by itself -/
def workerF (x : Worker) : Int :=
  if wordB x.name = true then
    if pairsF x.has.l = 0 then
      if inR 1 20 x.slots = true ∧ inR 1 1000 x.speed = true ∧ inR 0 1000000000 x.from_ = true ∧ inR 0 1000000000 x.to_ = true then
        if x.to_ ≤ x.from_ then 8 else standsF x.stands.l
      else 1
    else pairsF x.has.l
  else 5

set_option maxHeartbeats 1000000 in
theorem worker_any (x : Worker) (w : World) (hok : RWorker.ok w x) (c : Int) (hF : workerF x = c) :
    Calls Tryz.prog 83 #[.agg #[.string x.name, .slice x.has.A x.has.n x.has.cap, .int .i64 x.slots, .int .i64 x.speed, .int .i64 x.from_, .int .i64 x.to_, .slice x.stands.A x.stands.n x.stands.cap]] w fun e w' =>
      e = .returned (.int .i64 c) ∧ Below w.heap.size w w' := by
  obtain ⟨nm, has, sl, sp, fr, tz, st⟩ := x
  obtain ⟨o0, o1, o2, o3, o4, o5, o6⟩ := hok
  simp only at o0 o1 o2 o3 o4 o5 o6 hF ⊢
  unfold workerF at hF
  simp only at hF
  obtain ⟨b1, hb1⟩ : ∃ b, wordB nm = b := ⟨_, rfl⟩
  obtain ⟨c2, hc2⟩ : ∃ c, pairsF has.l = c := ⟨_, rfl⟩
  obtain ⟨c3, hc3⟩ : ∃ c, standsF st.l = c := ⟨_, rfl⟩
  rw [hb1, hc2, hc3] at hF
  have hba := (Below.refl w.heap.size w).alloc (Nat.le_refl _) (.cells #[.string nm, .slice has.A has.n has.cap, .int .i64 sl, .int .i64 sp, .int .i64 fr, .int .i64 tz, .slice st.A st.n st.cap] 84)
  have hbas := hba.size
  have o0H := Lib.hid o0
  clear o0
  have o1H := Lib.hid o1
  clear o1
  have o2H := Lib.hid o2
  clear o2
  have o3H := Lib.hid o3
  clear o3
  have o4H := Lib.hid o4
  clear o4
  have o5H := Lib.hid o5
  clear o5
  have o6H := Lib.hid o6
  clear o6
  have hFH := Lib.hid hF
  clear hF
  have hb1H := Lib.hid hb1
  clear hb1
  have hc2H := Lib.hid hc2
  clear hc2
  have hc3H := Lib.hid hc3
  clear hc3
  have hbaH := Lib.hid hba
  clear hba
  have hbasH := Lib.hid hbas
  clear hbas
  go_enter Tryz.func83, Tryz.ntmps83
  go_wp2_with fail
  refine (word_any nm b1 _ o0H.out hb1H.out).mono ?_
  rintro e w1 ⟨rfl, hw1⟩
  have q1 := (hw1.cell (by simp)).trans (cell_new w _ _ 1)
  have q2 := (hw1.cell (by simp)).trans (cell_new w _ _ 2)
  have q3 := (hw1.cell (by simp)).trans (cell_new w _ _ 3)
  have q4 := (hw1.cell (by simp)).trans (cell_new w _ _ 4)
  have q5 := (hw1.cell (by simp)).trans (cell_new w _ _ 5)
  have q6 := (hw1.cell (by simp)).trans (cell_new w _ _ 6)
  have hbw1 := hbaH.out.trans (hw1.mono hbasH.out)
  have hz1 : w.heap.size < w1.heap.size := by have := hw1.size; simp at this; omega
  simp only [List.getElem?_toArray, List.getElem?_cons_succ, List.getElem?_cons_zero] at q1 q2 q3 q4 q5 q6
  have hw1H := Lib.hid hw1
  clear hw1
  have hbw1H := Lib.hid hbw1
  clear hbw1
  cases b1
  · clear q2 q3 q4 q5 q6
    go_wp2
    go_ret
    exact ⟨ret1_int hFH.out, hbw1H.out⟩
  · have hF := hFH.out
    clear hFH
    simp only [if_true] at hF
    have hFH := Lib.hid hF
    clear hF
    go_wp2_with fail
    refine (pairs_any has.A has.n has.cap has.l _ (o1H.out.1.below hbw1H.out) c2 hc2H.out).mono ?_
    rintro e w2 ⟨rfl, hw2⟩
    replace q2 := (hw2.cell (by omega)).trans q2
    replace q3 := (hw2.cell (by omega)).trans q3
    replace q4 := (hw2.cell (by omega)).trans q4
    replace q5 := (hw2.cell (by omega)).trans q5
    replace q6 := (hw2.cell (by omega)).trans q6
    have hbw2 := hbw1H.out.trans (hw2.mono hbw1H.out.size)
    have hz2 : w.heap.size < w2.heap.size := by have := hw2.size; omega
    clear q1
    have hw2H := Lib.hid hw2
    clear hw2
    have hbw2H := Lib.hid hbw2
    clear hbw2
    by_cases e2 : c2 = 0
    · subst e2
      have hF := hFH.out
      clear hFH
      simp only [if_true] at hF
      by_cases i2 : inR 1 20 sl = true
      · by_cases i3 : inR 1 1000 sp = true
        · by_cases i4 : inR 0 1000000000 fr = true
          · by_cases i5 : inR 0 1000000000 tz = true
            · rw [if_pos ⟨i2, i3, i4, i5⟩] at hF
              by_cases hle : tz ≤ fr
              · rw [if_pos hle] at hF
                have hFH := Lib.hid hF
                clear hF
                go_wp2_with (first | (go_at_call 43; refine (within_p _ _ _ _).mono ?_; rintro e wz ⟨rfl, rfl⟩) | (go_at_call 39; refine (moment_p _ _).mono ?_; rintro e wz ⟨rfl, rfl⟩))
                go_ret
                exact ⟨ret1_int hFH.out, hbw2H.out⟩
              · rw [if_neg hle] at hF
                have hle2 : decide (tz ≤ fr) = false := decide_eq_false hle
                have hFH := Lib.hid hF
                clear hF
                go_wp2_with (first | (go_at_call 43; refine (within_p _ _ _ _).mono ?_; rintro e wz ⟨rfl, rfl⟩) | (go_at_call 39; refine (moment_p _ _).mono ?_; rintro e wz ⟨rfl, rfl⟩))
                refine (stands_any st.A st.n st.cap st.l _ (o6H.out.1.below hbw2H.out) c3 hc3H.out).mono ?_
                rintro e w3 ⟨rfl, hw3⟩
                have hbw3 := hbw2H.out.trans (hw3.mono hbw2H.out.size)
                have hw3H := Lib.hid hw3
                clear hw3
                have hbw3H := Lib.hid hbw3
                clear hbw3
                clear q2 q3 q4 q5 q6
                go_wp2
                go_ret
                exact ⟨ret1_int hFH.out, hbw3H.out⟩
            · rw [if_neg (fun h => i5 h.2.2.2)] at hF
              have i5 : inR 0 1000000000 tz = false := by simpa using i5
              have hFH := Lib.hid hF
              clear hF
              go_wp2_with (first | (go_at_call 43; refine (within_p _ _ _ _).mono ?_; rintro e wz ⟨rfl, rfl⟩) | (go_at_call 39; refine (moment_p _ _).mono ?_; rintro e wz ⟨rfl, rfl⟩))
              go_ret
              exact ⟨ret1_int hFH.out, hbw2H.out⟩
          · rw [if_neg (fun h => i4 h.2.2.1)] at hF
            have i4 : inR 0 1000000000 fr = false := by simpa using i4
            have hFH := Lib.hid hF
            clear hF
            go_wp2_with (first | (go_at_call 43; refine (within_p _ _ _ _).mono ?_; rintro e wz ⟨rfl, rfl⟩) | (go_at_call 39; refine (moment_p _ _).mono ?_; rintro e wz ⟨rfl, rfl⟩))
            go_ret
            exact ⟨ret1_int hFH.out, hbw2H.out⟩
        · rw [if_neg (fun h => i3 h.2.1)] at hF
          have i3 : inR 1 1000 sp = false := by simpa using i3
          have hFH := Lib.hid hF
          clear hF
          go_wp2_with (first | (go_at_call 43; refine (within_p _ _ _ _).mono ?_; rintro e wz ⟨rfl, rfl⟩) | (go_at_call 39; refine (moment_p _ _).mono ?_; rintro e wz ⟨rfl, rfl⟩))
          go_ret
          exact ⟨ret1_int hFH.out, hbw2H.out⟩
      · rw [if_neg (fun h => i2 h.1)] at hF
        have i2 : inR 1 20 sl = false := by simpa using i2
        have hFH := Lib.hid hF
        clear hF
        go_wp2_with (first | (go_at_call 43; refine (within_p _ _ _ _).mono ?_; rintro e wz ⟨rfl, rfl⟩) | (go_at_call 39; refine (moment_p _ _).mono ?_; rintro e wz ⟨rfl, rfl⟩))
        go_ret
        exact ⟨ret1_int hFH.out, hbw2H.out⟩
    · have hF := hFH.out
      clear hFH
      rw [if_neg e2] at hF
      have e3 : (c2 != 0) = true := by simpa using e2
      clear q2 q3 q4 q5 q6
      have hFH := Lib.hid hF
      clear hF
      go_wp2
      go_ret
      exact ⟨ret1_int hFH.out, hbw2H.out⟩

end Go.Proofs.YtbnkoefljcekbaaGreatDoor.C9

namespace Go.Proofs.YtbnkoefljcekbaaGreatDoor.C9
open Go.RowKit
set_option linter.unusedVariables false

def AftRel (l : List ByteArray) (c : Int) (w0 : World) (i : Value) (wr : World) : Prop :=
  ∃ k : Nat, k ≤ l.length ∧ i = .int .i64 k ∧ afterErr (prevS l k) (l.drop k) = c ∧ Below w0.heap.size w0 wr


theorem cell_StrW {w : World} {b off m k : Nat} {l : List ByteArray} {x : ByteArray} (h : SlAt RStr w (some ⟨b, off, none⟩) m l) (hx : l[k]? = some x) : w.cell? ⟨b, off + k, none⟩ = some (.string x) := by
  obtain ⟨b', off', hA, hc⟩ := h.2.1 (by have := h.1; have := (List.getElem?_eq_some_iff.1 hx).1; omega)
  obtain ⟨rfl, rfl⟩ : b = b' ∧ off = off' := by simpa using hA
  have := hc k x hx 0 _ rfl
  simpa [RStr] using this

set_option maxHeartbeats 2000000 in
theorem work_any (x : Work) (w : World) (hok : RWork.ok w x) (c : Int) (hF : workF x = c) :
    Calls Tryz.prog 84 #[.agg #[.string x.id_, .slice x.needs.A x.needs.n x.needs.cap, .int .i64 x.size, .slice x.after.A x.after.n x.after.cap]] w fun e w' =>
      e = .returned (.int .i64 c) ∧ Below w.heap.size w w' := by
  obtain ⟨id, nd, sz, af⟩ := x
  obtain ⟨o0, o1, o2, o3⟩ := hok
  simp only at o0 o1 o2 o3 hF ⊢
  unfold workF at hF
  simp only at hF
  obtain ⟨b1, hb1⟩ : ∃ b, wordB id = b := ⟨_, rfl⟩
  obtain ⟨c2, hc2⟩ : ∃ c, pairsF nd.l = c := ⟨_, rfl⟩
  rw [hb1, hc2] at hF
  have hba := (Below.refl w.heap.size w).alloc (Nat.le_refl _) (.cells #[.string id, .slice nd.A nd.n nd.cap, .int .i64 sz, .slice af.A af.n af.cap] 86)
  have hbas := hba.size
  have hal := o3.1.1
  have han9 : af.n ≤ 9223372036854775807 := Nat.le_trans o3.2.1 o3.2.2.1
  have o0H := Lib.hid o0
  clear o0
  have o1H := Lib.hid o1
  clear o1
  have o2H := Lib.hid o2
  clear o2
  have o3H := Lib.hid o3
  clear o3
  have hFH := Lib.hid hF
  clear hF
  have hb1H := Lib.hid hb1
  clear hb1
  have hc2H := Lib.hid hc2
  clear hc2
  have hbaH := Lib.hid hba
  clear hba
  have hbasH := Lib.hid hbas
  clear hbas
  have halH := Lib.hid hal
  clear hal
  go_enter Tryz.func84, Tryz.ntmps84
  go_wp2_with fail
  refine (word_any id b1 _ o0H.out hb1H.out).mono ?_
  rintro e w1 ⟨rfl, hw1⟩
  have q1 := (hw1.cell (by simp)).trans (cell_new w _ _ 1)
  have q2 := (hw1.cell (by simp)).trans (cell_new w _ _ 2)
  have q3 := (hw1.cell (by simp)).trans (cell_new w _ _ 3)
  have hbw1 := hbaH.out.trans (hw1.mono hbasH.out)
  have hz1 : w.heap.size < w1.heap.size := by have := hw1.size; simp at this; omega
  simp only [List.getElem?_toArray, List.getElem?_cons_succ, List.getElem?_cons_zero] at q1 q2 q3
  have hw1H := Lib.hid hw1
  clear hw1
  have hbw1H := Lib.hid hbw1
  clear hbw1
  cases b1
  · clear q2 q3 q1
    go_wp2
    go_ret
    exact ⟨ret1_int hFH.out, hbw1H.out⟩
  · have hF := hFH.out
    clear hFH
    simp only [if_true] at hF
    have hFH := Lib.hid hF
    clear hF
    go_wp2_with fail
    refine (pairs_any nd.A nd.n nd.cap nd.l _ (o1H.out.1.below hbw1H.out) c2 hc2H.out).mono ?_
    rintro e w2 ⟨rfl, hw2⟩
    replace q2 := (hw2.cell (by omega)).trans q2
    replace q3 := (hw2.cell (by omega)).trans q3
    have hbw2 := hbw1H.out.trans (hw2.mono hbw1H.out.size)
    have hz2 : w.heap.size < w2.heap.size := by have := hw2.size; omega
    clear q1
    have hw2H := Lib.hid hw2
    clear hw2
    have hbw2H := Lib.hid hbw2
    clear hbw2
    by_cases e2 : c2 = 0
    · subst e2
      have hF := hFH.out
      clear hFH
      simp only [if_true] at hF
      by_cases i2 : inR 1 1000000 sz = true
      · rw [if_pos i2] at hF
        have hFH := Lib.hid hF
        clear hF
        go_wp2_with (go_at_call 43; refine (within_p _ _ _ _).mono ?_; rintro e wz ⟨rfl, rfl⟩)
        obtain ⟨w2, rfl⟩ : ∃ W, W = wz := ⟨_, rfl⟩
        go_loopw [23] (fun i wr => AftRel af.l c w2 i wr) (fun i _ => af.n - (intOf i).toNat)
        case atStart => exact ⟨0, Nat.zero_le _, rfl, hFH.out, Below.refl _ _⟩
        case round =>
          obtain ⟨k, hk, rfl, hck, hb⟩ := hrel
          have hkl : k ≤ af.n := by have := halH.out; omega
          have hbs := hb.size
          have q3r := (hb.cell hz2).trans q3
          have hbw := hbw2H.out.trans (hb.mono hbw2H.out.size)
          clear q2 i2
          by_cases hlt : k < af.n
          · obtain ⟨b, off, hA, _⟩ := o3H.out.1.2.1 (by omega)
            obtain ⟨s, hx⟩ : ∃ x, af.l[k]? = some x := ⟨af.l[k]'(by have := halH.out; omega), List.getElem?_eq_getElem _⟩
            have hsl := o3H.out.1
            rw [hA] at hsl
            have c0 := cell_StrW (hsl.below hbw) hx
            have hos : s.size ≤ maxLen := hsl.2.2 s (List.mem_of_getElem? hx)
            rw [drop_cons hx, afterErr] at hck
            have hkl2 : k + 1 ≤ af.l.length := by have := halH.out; omega
            have hpn : prevS af.l (k + 1) = some s := by rw [prevS, if_neg (by omega), show k + 1 - 1 = k from rfl, hx]
            obtain ⟨bs, hbs'⟩ : ∃ b, wordB s = b := ⟨_, rfl⟩
            rw [hbs'] at hck
            rw [hA] at q3r ⊢
            have hxH := Lib.hid hx
            clear hx
            have hckH := Lib.hid hck
            clear hck
            have hbH := Lib.hid hb
            clear hb
            have hbwH := Lib.hid hbw
            clear hbw
            have hosH := Lib.hid hos
            clear hos
            have hbs'H := Lib.hid hbs'
            clear hbs'
            have hpnH := Lib.hid hpn
            clear hpn
            have hkl2H := Lib.hid hkl2
            clear hkl2
            have hslH := Lib.hid hsl
            clear hsl
            have hAH := Lib.hid hA
            clear hA
            go_wp2_with fail
            refine (word_any s bs _ hosH.out hbs'H.out).mono ?_
            rintro e w3 ⟨rfl, hw3⟩
            have hb3 := hbH.out.trans (hw3.mono hbs)
            have hbw3 := hbwH.out.trans (hw3.mono hbwH.out.size)
            replace q3r := (hw3.cell (show w.heap.size < wr.heap.size by omega)).trans q3r
            clear hw3 c0
            have hck := hckH.out
            clear hckH
            cases bs
            · rw [if_neg (by decide)] at hck
              have hckH := Lib.hid hck
              clear hck
              have hb3H := Lib.hid hb3
              clear hb3
              have hbw3H := Lib.hid hbw3
              clear hbw3
              go_wp2
              go_ret
              exact ⟨ret1_int hckH.out, hbw3H.out⟩
            · rw [if_pos rfl] at hck
              by_cases hk0 : k = 0
              · subst hk0
                have R : ∀ nq, AftRel af.l c w2 (.int .i64 1) (w3.drewN nq) := by
                  refine fun nq => ⟨1, hkl2H.out, by go_num, ?_, bel_drewN hb3 nq⟩
                  rw [prevS, if_pos rfl, Option.map_none, if_neg (by decide)] at hck
                  rw [hpnH.out]
                  exact hck
                clear hck
                have RH := Lib.hid R
                clear R
                have hb3H := Lib.hid hb3
                clear hb3
                have hbw3H := Lib.hid hbw3
                clear hbw3
                go_wp2
                refine ⟨?rel, ?measure⟩
                case measure => (simp [intOf]; omega)
                case rel => first | exact (RH.out 0) | exact ⟨rfl, (RH.out 0)⟩ | ((try refine ⟨rfl, ?_⟩); (repeat apply Exists.intro); refine ⟨(RH.out 0), ?_⟩; ((repeat' apply And.intro) <;> rfl))
              · obtain ⟨j, rfl⟩ : ∃ j, k = j + 1 := ⟨k - 1, by omega⟩
                obtain ⟨y, hy⟩ : ∃ y, af.l[j]? = some y := ⟨af.l[j]'(by have := halH.out; omega), List.getElem?_eq_getElem _⟩
                have d0 := cell_StrW (hslH.out.below hbw3) hy
                have hpr : prevS af.l (j + 1) = some y := by rw [prevS, if_neg (by omega), show j + 1 - 1 = j from rfl, hy]
                rw [hpr, Option.map_some] at hck
                clear hpr
                cases hle : sle s y
                · have hle' : (Op.bytesLess s.toList y.toList || s.toList == y.toList) = false := hle
                  rw [hle, if_neg (by decide)] at hck
                  have R : ∀ nq, AftRel af.l c w2 (.int .i64 (j + 1 + 1)) (w3.drewN nq) := by
                    refine fun nq => ⟨j + 1 + 1, hkl2H.out, by go_num, ?_, bel_drewN hb3 nq⟩
                    rw [hpnH.out]
                    exact hck
                  clear hck
                  have hleH := Lib.hid hle
                  clear hle
                  have hyH := Lib.hid hy
                  clear hy
                  have RH := Lib.hid R
                  clear R
                  have hb3H := Lib.hid hb3
                  clear hb3
                  have hbw3H := Lib.hid hbw3
                  clear hbw3
                  go_wp2
                  refine ⟨?rel, ?measure⟩
                  case measure => (simp [intOf]; omega)
                  case rel => first | exact (RH.out 0) | exact ⟨rfl, (RH.out 0)⟩ | ((try refine ⟨rfl, ?_⟩); (repeat apply Exists.intro); refine ⟨(RH.out 0), ?_⟩; ((repeat' apply And.intro) <;> rfl))
                · have hle' : (Op.bytesLess s.toList y.toList || s.toList == y.toList) = true := hle
                  rw [hle, if_pos rfl] at hck
                  have hleH := Lib.hid hle
                  clear hle
                  have hckH := Lib.hid hck
                  clear hck
                  have hyH := Lib.hid hy
                  clear hy
                  have hb3H := Lib.hid hb3
                  clear hb3
                  have hbw3H := Lib.hid hbw3
                  clear hbw3
                  go_wp2
                  go_ret
                  exact ⟨ret1_int hckH.out, hbw3H.out⟩
          · have e : af.l.drop k = [] := List.drop_eq_nil_of_le (by have := halH.out; omega)
            rw [e] at hck
            have hc0 : 0 = c := by rw [← hck]; unfold afterErr; rfl
            have hckH := Lib.hid hck
            clear hck
            have hbH := Lib.hid hb
            clear hb
            have hbwH := Lib.hid hbw
            clear hbw
            have eH := Lib.hid e
            clear e
            have hc0H := Lib.hid hc0
            clear hc0
            go_wp2
            go_ret
            exact ⟨ret1_int hc0H.out, hbwH.out⟩
      · rw [if_neg i2] at hF
        have i2 : inR 1 1000000 sz = false := by simpa using i2
        have hFH := Lib.hid hF
        clear hF
        go_wp2_with (go_at_call 43; refine (within_p _ _ _ _).mono ?_; rintro e wz ⟨rfl, rfl⟩)
        go_ret
        exact ⟨ret1_int hFH.out, hbw2H.out⟩
    · have hF := hFH.out
      clear hFH
      rw [if_neg e2] at hF
      have e3 : (c2 != 0) = true := by simpa using e2
      clear q2 q3
      have hFH := Lib.hid hF
      clear hF
      go_wp2
      go_ret
      exact ⟨ret1_int hFH.out, hbw2H.out⟩
end Go.Proofs.YtbnkoefljcekbaaGreatDoor.C9

namespace Go.Proofs.YtbnkoefljcekbaaGreatDoor.C9
open Go.RowKit Go.Shelf Go.Lib
set_option linter.unusedVariables false

def peq (x y : Pair) : Bool := decide (x.name = y.name) && decide (x.value = y.value)
def encP (x : Pair) : List Value := [.string x.name, .string x.value]
theorem eqPair : EqlAt Tryz.prog 120 (fun x => .agg (encP x).toArray) peq := by
  refine ⟨fun x y w => ?_, GuardAt.agg _ (by kernel_rfl)⟩
  have u9 := Tryz.underlying9
  have a9 := Tryz.isAgg9
  have z9 := Tryz.sizeOf9
  have hS : Tryz.prog.underlying 120 = some (.struct (Tryz.prog.fieldsOf 120)) := by kernel_rfl
  have hp : Tryz.prog.stoodInHeld 120 = false := by kernel_rfl
  simp only [encP]
  rw [run_eql_struct, show (10000 : Nat) = 9999 + 1 from rfl, run_equalIn_agg w 9999 120 _ _ hS hp]
  simp only [Program.fieldsOf, Tryz.underlying120]
  go_simp
  unfold peq
  have hne : ∀ a b : ByteArray, ¬ a = b → ¬ a.toList = b.toList := fun a b h e => h (by
    have := beq_data a b
    rw [e, beq_self_eq_true] at this
    exact of_decide_eq_true this.symm)
  by_cases h1 : x.name = y.name
  · by_cases h2 : x.value = y.value
    · simp [h1, h2]
    · simp [h1, h2, hne _ _ h2]
  · by_cases h2 : x.value = y.value
    · simp [h1, h2, hne _ _ h1]
    · simp [h1, h2, hne _ _ h1]

set_option maxHeartbeats 1000000 in
theorem idxP_empty (A : Option Addr) (c : Nat) (p : Pair) (w : World) :
    Calls Tryz.prog 142 #[.slice A 0 c, .agg #[.string p.name, .string p.value]] w fun e w' => e = .returned (.int .i64 (-1)) ∧ Below w.heap.size w w' := by
  have hba := (Below.refl w.heap.size w).alloc (Nat.le_refl _) (.cells #[.string p.name, .string p.value] 120)
  obtain ⟨W, hW⟩ : ∃ X, w.alloc (.cells #[.string p.name, .string p.value] 120) = X := ⟨_, rfl⟩
  rw [hW] at hba
  have hbaH := Lib.hid hba
  clear hba
  have hWH := Lib.hid hW
  clear hW
  go_enter Tryz.func142, Tryz.ntmps142
  go_wp2_with fail
  rw [hWH.out]
  go_loopw [8] (fun i wr => i = .int .i64 0 ∧ W = wr) (fun i _ => 0)
  case atStart => exact ⟨rfl, rfl⟩
  case round =>
    obtain ⟨rfl, rfl⟩ := hrel
    go_wp2
    go_ret
    exact ⟨rfl, hbaH.out⟩
set_option maxHeartbeats 1000000 in
theorem contP_any (A : Option Addr) (n c : Nat) (l : List Pair) (p : Pair) (w : World) (hl : SlAt RPair w A n l) (hn : n ≤ 9223372036854775807) :
    Calls Tryz.prog 96 #[.slice A n c, .agg #[.string p.name, .string p.value]] w fun e w' => e = .returned (.bool (l.any (peq p))) ∧ Below w.heap.size w w' := by
  by_cases h0 : n = 0
  · subst h0
    obtain rfl : l = [] := List.eq_nil_of_length_eq_zero hl.1
    have hba := (Below.refl w.heap.size w).alloc (Nat.le_refl _) (.cells #[.string p.name, .string p.value] 120)
    have hbaH := Lib.hid hba
    clear hba
    have hlH := Lib.hid hl
    clear hl
    go_enter Tryz.func96, Tryz.ntmps96
    go_wp2_with fail
    refine (idxP_empty A c p _).mono ?_
    rintro e w1 ⟨rfl, hw1⟩
    have hb1 := hbaH.out.trans (hw1.mono hbaH.out.size)
    have hb1H := Lib.hid hb1
    clear hb1
    go_wp2
    go_ret
    exact ⟨rfl, hb1H.out⟩
  · obtain ⟨b, off, rfl, hc⟩ := hl.2.1 (by omega)
    have h := AnyQ.slices_Contains Tryz.containsQ 2 Tryz.isAgg120 Tryz.sizeOf120 encP (fun _ => rfl) peq eqPair b off n c l p w (by rw [hl.1]; exact Nat.le_refl _) hn (fun j hj i v hi => by
      rw [getElem!_pos l j hj] at hi
      exact hc j _ (List.getElem?_eq_getElem hj) i v hi)
    rw [List.take_of_length_le (by rw [hl.1]; exact Nat.le_refl _)] at h
    exact h

def fitF (nd has : List Pair) : Bool := nd.all (fun p => has.any (peq p))
def FitRel (nd has : List Pair) (b : Bool) (w0 : World) (i : Value) (wr : World) : Prop := ∃ k : Nat, k ≤ nd.length ∧ i = .int .i64 k ∧ fitF (nd.drop k) has = b ∧ Below w0.heap.size w0 wr


set_option maxHeartbeats 2000000 in
theorem fit_any (A : Option Addr) (n c : Nat) (nd : List Pair) (B : Option Addr) (m mc : Nat) (has : List Pair) (w : World) (hl : SlAt RPair w A n nd) (hn : n ≤ 9223372036854775807) (hh : SlAt RPair w B m has) (hm : m ≤ 9223372036854775807) (b : Bool) (hb : fitF nd has = b) :
    Calls Tryz.prog 51 #[.slice A n c, .slice B m mc] w fun e w' => e = .returned (.bool b) ∧ Below w.heap.size w w' := by
  have hll := hl.1
  have hlH := Lib.hid hl
  clear hl
  have hhH := Lib.hid hh
  clear hh
  have hbH := Lib.hid hb
  clear hb
  go_enter Tryz.func51, Tryz.ntmps51
  go_wp2
  go_loopw [9] (fun i wr => FitRel nd has b w i wr) (fun i _ => n - (intOf i).toNat)
  case atStart => exact ⟨0, Nat.zero_le _, rfl, hbH.out, Below.refl _ _⟩
  case round =>
    obtain ⟨k, hk, rfl, hck, hb⟩ := hrel
    have hbs := hb.size
    have hkl : k ≤ n := by have := hll; omega
    skip
    by_cases hlt : k < n
    · obtain ⟨b0, off, hA, _⟩ := hlH.out.2.1 (by omega)
      subst hA
      obtain ⟨x, hx⟩ : ∃ x, nd[k]? = some x := ⟨nd[k]'(by have := hll; omega), List.getElem?_eq_getElem _⟩
      obtain ⟨c0, c1⟩ := cells_Pair (hlH.out.below hb) hx
      rw [drop_cons hx, fitF, List.all_cons] at hck
      have hkl2 : k + 1 ≤ nd.length := by have := hll; omega
      have hba := hb.alloc hbs (.cells #[.string x.name, .string x.value] 120)
      obtain ⟨t, ht⟩ : ∃ t, has.any (peq x) = t := ⟨_, rfl⟩
      rw [ht] at hck
      have hxH := Lib.hid hx
      clear hx
      have hckH := Lib.hid hck
      clear hck
      have hbH := Lib.hid hb
      clear hb
      have hbaH := Lib.hid hba
      clear hba
      have htH := Lib.hid ht
      clear ht
      have hkl2H := Lib.hid hkl2
      clear hkl2
      go_wp2_with fail
      refine (contP_any B m mc has x _ (hhH.out.below hbaH.out) hm).mono ?_
      rintro e w5 ⟨rfl, hw5⟩
      rw [htH.out]
      have hb5 := hbaH.out.trans (hw5.mono hbaH.out.size)
      clear hw5 c0 c1
      have hck := hckH.out
      clear hckH
      cases t
      · have hbf : false = b := hck
        subst hbf
        clear hck
        have hb5H := Lib.hid hb5
        clear hb5
        go_wp2
        go_ret
        exact ⟨rfl, hb5H.out⟩
      · have R : FitRel nd has b w (.int .i64 (k + 1)) w5 := ⟨k + 1, hkl2H.out, by go_num, hck, hb5⟩
        clear hck
        have hb5H := Lib.hid hb5
        clear hb5
        have RH := Lib.hid R
        clear R
        go_wp2
        refine ⟨?rel, ?measure⟩
        case measure => (simp [intOf]; omega)
        case rel => first | exact RH.out | exact ⟨rfl, RH.out⟩ | ((try refine ⟨rfl, ?_⟩); (repeat apply Exists.intro); refine ⟨RH.out, ?_⟩; ((repeat' apply And.intro) <;> rfl))
    · have e : nd.drop k = [] := List.drop_eq_nil_of_le (by have := hll; omega)
      rw [e] at hck
      have hbt : true = b := hck
      subst hbt
      clear hck
      have hb5 := hb
      have hbH := Lib.hid hb
      clear hb
      have hb5H := Lib.hid hb5
      clear hb5
      have eH := Lib.hid e
      clear e
      go_wp2
      go_ret
      exact ⟨rfl, hb5H.out⟩

/-! ### Fits -/
end Go.Proofs.YtbnkoefljcekbaaGreatDoor.C9

namespace Go.Proofs.YtbnkoefljcekbaaGreatDoor.C9
open Go.RowKit
set_option linter.unusedVariables false

def secsF (x : Worker) (sz : Int) : Int := (sz + x.speed - 1) / x.speed
theorem secs_in (sz sp : Int) (h0 : 1 ≤ sz) (h1 : sz ≤ 1000000) (h2 : 1 ≤ sp) (h3 : sp ≤ 1000) : 1 ≤ (sz + sp - 1) / sp ∧ (sz + sp - 1) / sp ≤ 1000000 := by
  constructor
  · exact (Int.le_ediv_iff_mul_le (by omega)).2 (by omega)
  · have : (sz + sp - 1) / sp ≤ sz := by
      have h : (sz + sp - 1) < (sz + 1) * sp := by
        have : sz * 1 ≤ sz * sp := Int.mul_le_mul_of_nonneg_left h2 (by omega)
        rw [Int.add_mul]; omega
      have := (Int.ediv_lt_iff_lt_mul (a := sz + sp - 1) (b := sz + 1) (c := sp) (by omega)).2 h
      omega
    omega

/-- when a work ends that is begun then and takes so long -/
def endsGo : Int → Int → List Span → Int
  | L, T, [] => T + L
  | L, T, s :: r => if s.to_ ≤ T then endsGo L T r else if T < s.from_ then (if L ≤ s.from_ - T then T + L else endsGo (L - (s.from_ - T)) s.to_ r) else endsGo L s.to_ r
def endsF (x : Worker) (sz fm : Int) : Int × Bool := if fm < x.from_ then (0, false) else if x.to_ < endsGo (secsF x sz) fm x.stands.l then (0, false) else (endsGo (secsF x sz) fm x.stands.l, true)
def SpansIn (l : List Span) : Prop := ∀ s ∈ l, (0 ≤ s.from_ ∧ s.from_ ≤ 1000000000) ∧ 0 ≤ s.to_ ∧ s.to_ ≤ 1000000000

def EndsRel (l : List Span) (c fm : Int) (w0 : World) (lf tm i : Value) (wr : World) : Prop :=
  ∃ (L T : Int) (k : Nat), lf = .int .i64 L ∧ tm = .int .i64 T ∧ i = .int .i64 k ∧ k ≤ l.length ∧ 1 ≤ L ∧ L ≤ 1000000 ∧ 0 ≤ T ∧ T ≤ 1000000000 ∧ endsGo L T (l.drop k) = endsGo c fm l ∧ Below w0.heap.size w0 wr

set_option maxHeartbeats 1000000 in
theorem secs (x : Worker) (sz : Int) (w : World) (h0 : 1 ≤ sz) (h1 : sz ≤ 1000000) (h2 : 1 ≤ x.speed) (h3 : x.speed ≤ 1000) (c : Int) (hc : secsF x sz = c) :
    Calls Tryz.prog 94 #[.agg #[.string x.name, .slice x.has.A x.has.n x.has.cap, .int .i64 x.slots, .int .i64 x.speed, .int .i64 x.from_, .int .i64 x.to_, .slice x.stands.A x.stands.n x.stands.cap], .int .i64 sz] w fun e w' =>
      e = .returned (.int .i64 c) ∧ Below w.heap.size w w' := by
  obtain ⟨nm, has, sl, sp, fr, tz, st⟩ := x
  simp only [secsF] at h2 h3 hc ⊢
  have hba := (Below.refl w.heap.size w).alloc (Nat.le_refl _) (.cells #[.string nm, .slice has.A has.n has.cap, .int .i64 sl, .int .i64 sp, .int .i64 fr, .int .i64 tz, .slice st.A st.n st.cap] 84)
  have hbaH := Lib.hid hba
  clear hba
  have hcH := Lib.hid hc
  clear hc
  go_enter Tryz.func94, Tryz.ntmps94
  go_wp2
  go_ret
  exact ⟨ret1_int (by have := hcH.out; omega), hbaH.out⟩

set_option maxRecDepth 100000 in
set_option maxHeartbeats 2000000 in
theorem ends_any (x : Worker) (sz fm : Int) (w : World) (hok : RWorker.ok w x) (h0 : 1 ≤ sz) (h1 : sz ≤ 1000000) (h2 : 1 ≤ x.speed) (h3 : x.speed ≤ 1000) (h4 : 0 ≤ fm) (h5 : fm ≤ 1000000000) (hs : SpansIn x.stands.l) (a : Int) (b : Bool) (hE : endsF x sz fm = (a, b)) :
    Calls Tryz.prog 163 #[.agg #[.string x.name, .slice x.has.A x.has.n x.has.cap, .int .i64 x.slots, .int .i64 x.speed, .int .i64 x.from_, .int .i64 x.to_, .slice x.stands.A x.stands.n x.stands.cap], .int .i64 sz, .int .i64 fm] w fun e w' =>
      e = .returned (.tuple #[.int .i64 a, .bool b]) ∧ Below w.heap.size w w' := by
  obtain ⟨nm, has, sl, sp, fr, tz, st⟩ := x
  obtain ⟨o0, o1, o2, o3, o4, o5, o6⟩ := hok
  simp only at o0 o1 o2 o3 o4 o5 o6 hE h2 h3 hs ⊢
  obtain ⟨A, len, cap, l⟩ := st
  obtain ⟨hl, hcp, hcm, _⟩ := o6
  simp only at hl hs hcp hcm ⊢
  have hlen : len ≤ 9223372036854775807 := by unfold maxLen at hcm; omega
  clear hcp hcm
  have hll := hl.1
  have hba := (Below.refl w.heap.size w).alloc (Nat.le_refl _) (.cells #[.string nm, .slice has.A has.n has.cap, .int .i64 sl, .int .i64 sp, .int .i64 fr, .int .i64 tz, .slice A len cap] 84)
  have hbas := hba.size
  obtain ⟨o4a, o4b⟩ := o4
  obtain ⟨o5a, o5b⟩ := o5
  have o0H := Lib.hid o0
  clear o0
  have o1H := Lib.hid o1
  clear o1
  have o2H := Lib.hid o2
  clear o2
  have o3H := Lib.hid o3
  clear o3
  have hlH := Lib.hid hl
  clear hl
  have hllH := Lib.hid hll
  clear hll
  have hEH := Lib.hid hE
  clear hE
  have hsH := Lib.hid hs
  clear hs
  have hbaH := Lib.hid hba
  clear hba
  have hbasH := Lib.hid hbas
  clear hbas
  by_cases hf : fm < fr
  · have hE := hEH.out
    simp only [endsF, if_pos hf, Prod.mk.injEq] at hE
    obtain ⟨rfl, rfl⟩ := hE
    clear hEH
    go_enter Tryz.func163, Tryz.ntmps163
    go_wp2
    go_ret2
    exact ⟨rfl, hbaH.out⟩
  · obtain ⟨c, hc⟩ : ∃ c, secsF ⟨nm, has, sl, sp, fr, tz, ⟨A, len, cap, l⟩⟩ sz = c := ⟨_, rfl⟩
    have hE := hEH.out
    simp only [endsF, if_neg hf, hc] at hE
    obtain ⟨c1, c2⟩ := secs_in sz sp h0 h1 h2 h3
    have hcc : (sz + sp - 1) / sp = c := hc
    rw [hcc] at c1 c2
    clear hEH
    have hEH := Lib.hid hE
    clear hE
    have hccH := Lib.hid hcc
    clear hcc
    go_enter Tryz.func163, Tryz.ntmps163
    go_wp2_with fail
    refine (secs ⟨nm, has, sl, sp, fr, tz, ⟨A, len, cap, l⟩⟩ sz _ h0 h1 h2 h3 c hc).mono ?_
    rintro e w1 ⟨rfl, hw1⟩
    have q4 := (hw1.cell (by simp)).trans (cell_new w _ _ 4)
    have q5 := (hw1.cell (by simp)).trans (cell_new w _ _ 5)
    have q6 := (hw1.cell (by simp)).trans (cell_new w _ _ 6)
    have hbw1 := hbaH.out.trans (hw1.mono hbasH.out)
    have hz1 : w.heap.size < w1.heap.size := by have := hw1.size; simp at this; omega
    simp only [List.getElem?_toArray, List.getElem?_cons_succ, List.getElem?_cons_zero] at q4 q5 q6
    have hb11 := Below.refl w1.heap.size w1
    have hw1H := Lib.hid hw1
    clear hw1
    have hbw1H := Lib.hid hbw1
    clear hbw1
    have hcH := Lib.hid hc
    clear hc
    have hb11H := Lib.hid hb11
    clear hb11
    have q4H := Lib.hid q4
    clear q4
    have q5H := Lib.hid q5
    clear q5
    go_wp2_with fail
    clear q6
    go_loopw [8, 9, 23] (fun lf tm i wr => EndsRel l c fm w1 lf tm i wr) (fun _ _ i _ => len - (intOf i).toNat)
    case atStart => exact ⟨c, fm, 0, rfl, rfl, rfl, Nat.zero_le _, c1, c2, h4, h5, rfl, hb11H.out⟩
    case round =>
      obtain ⟨L, T, k, rfl, rfl, rfl, hk, hL0, hL1, hT0, hT1, hgo, hb⟩ := hrel
      have hkl : k ≤ len := by have := hllH.out; omega
      have hbs := hb.size
      have q4 := (hb.cell hz1).trans q4H.out
      have q5 := (hb.cell hz1).trans q5H.out
      by_cases hlt : k < len
      · obtain ⟨b0, off, hA, _⟩ := hlH.out.2.1 (by omega)
        subst hA
        obtain ⟨y, hy⟩ : ∃ y, l[k]? = some y := ⟨l[k]'(by have := hllH.out; omega), List.getElem?_eq_getElem _⟩
        have hbw := hbw1H.out.trans (hb.mono hbw1H.out.size)
        obtain ⟨d0, d1⟩ := cells_Span (hlH.out.below hbw) hy
        obtain ⟨⟨i0, i1⟩, i2, i3⟩ := hsH.out y (List.mem_of_getElem? hy)
        rw [drop_cons hy, endsGo] at hgo
        obtain ⟨yf, yt⟩ := y
        simp only at d0 d1 hgo i0 i1 i2 i3
        have hba2 := hb.alloc hbs (.cells #[.int .i64 yf, .int .i64 yt] 202)
        have hkl2 : k + 1 ≤ l.length := by have := hllH.out; omega
        clear q4 q5
        have hbH := Lib.hid hb
        clear hb
        have hbwH := Lib.hid hbw
        clear hbw
        have hba2H := Lib.hid hba2
        clear hba2
        have hyH := Lib.hid hy
        clear hy
        by_cases e1 : yt ≤ T
        · rw [if_pos e1] at hgo
          have R : EndsRel l c fm w1 (.int .i64 L) (.int .i64 T) (.int .i64 (k + 1)) (wr.alloc (.cells #[.int .i64 yf, .int .i64 yt] 202)) :=
            ⟨L, T, k + 1, rfl, rfl, by go_num, hkl2, hL0, hL1, hT0, hT1, hgo, hba2H.out⟩
          have hgoH := Lib.hid hgo
          clear hgo
          have RH := Lib.hid R
          clear R
          go_wp2
          refine ⟨?rel, ?measure⟩
          case measure => (simp [intOf]; omega)
          case rel => first | exact RH.out | exact ⟨rfl, RH.out⟩ | ((try refine ⟨rfl, ?_⟩); (repeat apply Exists.intro); refine ⟨RH.out, ?_⟩; ((repeat' apply And.intro) <;> rfl))
        · rw [if_neg e1] at hgo
          have e1' : decide (yt ≤ T) = false := decide_eq_false e1
          by_cases e2 : T < yf
          · rw [if_pos e2] at hgo
            by_cases e3 : L ≤ yf - T
            · rw [if_pos e3] at hgo
              have hgoH := Lib.hid hgo
              clear hgo
              have q5 := (hba2H.out.cell hz1).trans q5H.out
              have hE := hEH.out
              rw [← hgoH.out] at hE
              clear hEH hgoH
              by_cases hto : tz < T + L
              · rw [if_pos hto, Prod.mk.injEq] at hE
                obtain ⟨rfl, rfl⟩ := hE
                go_wp2
                go_ret2
                exact ⟨rfl, hbw1H.out.trans (hba2H.out.mono hbw1H.out.size)⟩
              · rw [if_neg hto, Prod.mk.injEq] at hE
                obtain ⟨rfl, rfl⟩ := hE
                have hto2 : decide (tz < T + L) = false := decide_eq_false hto
                go_wp2
                go_ret2
                exact ⟨rfl, hbw1H.out.trans (hba2H.out.mono hbw1H.out.size)⟩
            · rw [if_neg e3] at hgo
              have e3' : decide (L ≤ yf - T) = false := decide_eq_false e3
              have R : ∀ L' : Int, L' = L - (yf - T) → EndsRel l c fm w1 (.int .i64 L') (.int .i64 yt) (.int .i64 (k + 1)) (wr.alloc (.cells #[.int .i64 yf, .int .i64 yt] 202)) :=
                fun L' h => ⟨L', yt, k + 1, rfl, rfl, by go_num, hkl2, by omega, by omega, i2, i3, h ▸ hgo, hba2H.out⟩
              have hgoH := Lib.hid hgo
              clear hgo
              have RH := Lib.hid R
              clear R
              go_wp2
              refine ⟨?rel, ?measure⟩
              case measure => (simp [intOf]; omega)
              case rel => first | exact (RH.out _ (by omega)) | exact ⟨rfl, (RH.out _ (by omega))⟩ | ((try refine ⟨rfl, ?_⟩); (repeat apply Exists.intro); refine ⟨(RH.out _ (by omega)), ?_⟩; ((repeat' apply And.intro) <;> rfl))
          · rw [if_neg e2] at hgo
            have e2' : decide (T < yf) = false := decide_eq_false e2
            have R : ∀ L' : Int, L' = L → EndsRel l c fm w1 (.int .i64 L') (.int .i64 yt) (.int .i64 (k + 1)) (wr.alloc (.cells #[.int .i64 yf, .int .i64 yt] 202)) :=
              fun L' h => ⟨L', yt, k + 1, rfl, rfl, by go_num, hkl2, by omega, by omega, i2, i3, h ▸ hgo, hba2H.out⟩
            have hgoH := Lib.hid hgo
            clear hgo
            have RH := Lib.hid R
            clear R
            go_wp2
            refine ⟨?rel, ?measure⟩
            case measure => (simp [intOf]; omega)
            case rel => first | exact (RH.out _ (by omega)) | exact ⟨rfl, (RH.out _ (by omega))⟩ | ((try refine ⟨rfl, ?_⟩); (repeat apply Exists.intro); refine ⟨(RH.out _ (by omega)), ?_⟩; ((repeat' apply And.intro) <;> rfl))
      · have e : l.drop k = [] := List.drop_eq_nil_of_le (by have := hllH.out; omega)
        rw [e, endsGo] at hgo
        have hbw := hbw1H.out.trans (hb.mono hbw1H.out.size)
        clear q4
        have hbH := Lib.hid hb
        clear hb
        have eH := Lib.hid e
        clear e
        have hgoH := Lib.hid hgo
        clear hgo
        have hbwH := Lib.hid hbw
        clear hbw
        have q5 := q5
        have hE := hEH.out
        rw [← hgoH.out] at hE
        clear hEH hgoH
        by_cases hto : tz < T + L
        · rw [if_pos hto, Prod.mk.injEq] at hE
          obtain ⟨rfl, rfl⟩ := hE
          go_wp2
          go_ret2
          exact ⟨rfl, hbwH.out⟩
        · rw [if_neg hto, Prod.mk.injEq] at hE
          obtain ⟨rfl, rfl⟩ := hE
          have hto2 : decide (tz < T + L) = false := decide_eq_false hto
          go_wp2
          go_ret2
          exact ⟨rfl, hbwH.out⟩
end Go.Proofs.YtbnkoefljcekbaaGreatDoor.C9

namespace Go.Proofs.YtbnkoefljcekbaaGreatDoor.C9
open Go.RowKit
set_option linter.unusedVariables false

set_option maxHeartbeats 1000000 in
theorem workAt1_any (x : Work) (s : ByteArray) (w : World) :
    Calls Tryz.prog 101 #[.agg #[.string x.id_, .slice x.needs.A x.needs.n x.needs.cap, .int .i64 x.size, .slice x.after.A x.after.n x.after.cap], .string s] w fun e w' => e = .returned (.int .i64 (cmpS x.id_ s)) ∧ Below w.heap.size w w' := by
  have hba := (Below.refl w.heap.size w).alloc (Nat.le_refl _) (.cells #[.string x.id_, .slice x.needs.A x.needs.n x.needs.cap, .int .i64 x.size, .slice x.after.A x.after.n x.after.cap] 86)
  have hbaH := Lib.hid hba
  clear hba
  go_enter Tryz.func101, Tryz.ntmps101
  go_wp2_with (go_at_call 42; refine (Tryz.strings_Compare _ _ _).mono ?_; rintro e w1 ⟨rfl, rfl⟩)
  go_ret
  exact ⟨rfl, hbaH.out⟩

theorem split_lt (s : ByteArray) : ∀ (l : List Work), (l.Pairwise fun a b => cmpS a.id_ b.id_ = -1) → ∃ k0, k0 ≤ l.length ∧ (∀ t x, l[t]? = some x → t < k0 → cmpS x.id_ s = -1) ∧ (∀ t x, l[t]? = some x → k0 ≤ t → cmpS x.id_ s ≠ -1)
  | [], _ => ⟨0, Nat.le_refl _, fun t x h => by simp at h, fun t x h => by simp at h⟩
  | y :: r, h => by
    rw [List.pairwise_cons] at h
    by_cases hy : cmpS y.id_ s = -1
    · obtain ⟨k, hk, h1, h2⟩ := split_lt s r h.2
      refine ⟨k + 1, by rw [List.length_cons]; omega, fun t x hx ht => ?_, fun t x hx ht => ?_⟩
      · cases t with
        | zero => simp at hx; subst hx; exact hy
        | succ t => exact h1 t x (by simpa using hx) (by omega)
      · cases t with
        | zero => omega
        | succ t => exact h2 t x (by simpa using hx) (by omega)
    · refine ⟨0, Nat.zero_le _, fun t x _ ht => by omega, fun t x hx _ => ?_⟩
      cases t with
      | zero => simp at hx; subst hx; exact hy
      | succ t =>
        intro hc
        exact hy (cmpS_trans (h.1 x (List.mem_of_getElem? (by simpa using hx))) hc)

def BsRel (k0 n : Nat) (w0 : World) (vi vj : Value) (wr : World) : Prop := ∃ i j : Nat, vi = .int .i64 i ∧ vj = .int .i64 j ∧ i ≤ k0 ∧ k0 ≤ j ∧ j ≤ n ∧ Below w0.heap.size w0 wr

set_option maxHeartbeats 4000000 in
theorem bsf_work (A : Option Addr) (n c : Nat) (l : List Work) (s : ByteArray) (w : World) (hn : n ≤ 1000) (hl : SlAt RWork w A n l) (hr : l.Pairwise fun a b => cmpS a.id_ b.id_ = -1) :
    Calls Tryz.prog 100 #[.slice A n c, .string s, .func (.func 101) #[] #[]] w fun e w' =>
      ∃ i : Nat, e = .returned (.tuple #[.int .i64 i, .bool (hasId l s)]) ∧ (hasId l s = true → i = ixOf l s) ∧ Below w.heap.size w w' := by
  have hll := hl.1
  have eg : ∀ args w, (callFunc 101 args).run Tryz.prog w = .ok (.enter 101 args) w := enters_of Tryz.func101 (by kernel_rfl) rfl
  obtain ⟨k0, hk0, hlo, hhi⟩ := split_lt s l hr
  have hno : (∀ (t : Nat) (x : Work), l[t]? = some x → x.id_ ≠ s) → hasId l s = false := fun h => by
    rw [hasId, List.any_eq_false]
    intro x hx
    obtain ⟨t, ht, rfl⟩ := List.getElem_of_mem hx
    simpa using h t _ (List.getElem?_eq_getElem ht)
  obtain ⟨f, hf⟩ : ∃ f, hasId l s = f := ⟨_, rfl⟩
  rw [hf]
  have hlH := Lib.hid hl
  clear hl
  have hllH := Lib.hid hll
  clear hll
  have hrH := Lib.hid hr
  clear hr
  have hloH := Lib.hid hlo
  clear hlo
  have hhiH := Lib.hid hhi
  clear hhi
  have hnoH := Lib.hid hno
  clear hno
  have hfH := Lib.hid hf
  clear hf
  go_enter Tryz.func100, Tryz.ntmps100
  go_wp2
  go_loopw [9, 10] (fun vi vj wr => BsRel k0 n w vi vj wr) (fun vi vj _ => (intOf vj).toNat - (intOf vi).toNat)
  case atStart => exact ⟨0, n, rfl, rfl, Nat.zero_le _, by have := hllH.out; omega, Nat.le_refl _, Below.refl _ _⟩
  case round =>
    obtain ⟨i, j, rfl, rfl, hi, hj, hjn, hb⟩ := hrel
    have hbs := hb.size
    by_cases hlt : i < j
    · obtain ⟨b, off, hA, _⟩ := hlH.out.2.1 (by omega)
      subst hA
      obtain ⟨x, hx⟩ : ∃ x, l[(i + j) / 2]? = some x := ⟨l[(i + j) / 2]'(by have := hllH.out; omega), List.getElem?_eq_getElem _⟩
      obtain ⟨c0, c1, c2, c3⟩ := cells_Work (hlH.out.below hb) hx
      have e1 : ((i : Int) + (j : Int)) / 2 = (((i + j) / 2 : Nat) : Int) := by omega
      by_cases hc : cmpS x.id_ s = -1
      · have hneg : (cmpS x.id_ s < 0) = True := by rw [hc]; decide
        have hik : (i + j) / 2 < k0 := by
          rcases Nat.lt_or_ge ((i + j) / 2) k0 with h | h
          · exact h
          · exact absurd hc (hhiH.out _ x hx h)
        have R : ∀ w', Below wr.heap.size wr w' → BsRel k0 n w (.int .i64 (((i : Int) + (j : Int)) / 2 + 1)) (.int .i64 j) w' := fun w' h => ⟨(i + j) / 2 + 1, j, by rw [e1]; rfl, rfl, by omega, hj, hjn, hb.trans (h.mono hbs)⟩
        obtain ⟨cx, hcx⟩ : ∃ c, cmpS x.id_ s = c := ⟨_, rfl⟩
        rw [hcx] at hc
        subst hc
        clear hneg
        have hxH := Lib.hid hx
        clear hx
        have hbH := Lib.hid hb
        clear hb
        have e1H := Lib.hid e1
        clear e1
        have RH := Lib.hid R
        clear R
        have hikH := Lib.hid hik
        clear hik
        have hcxH := Lib.hid hcx
        clear hcx
        go_wp2_with (go_at_fn 101; refine (workAt1_any x s _).mono ?_; rintro e w' ⟨rfl, hb'⟩; rw [hcxH.out]; have hb'H := Lib.hid hb'; clear hb')
        refine ⟨?rel, ?measure⟩
        case measure => simp [intOf]; omega
        case rel => exact RH.out _ hb'H.out
      · have hik : k0 ≤ (i + j) / 2 := by
          rcases Nat.lt_or_ge ((i + j) / 2) k0 with h | h
          · exact absurd (hloH.out _ x hx h) hc
          · exact h
        obtain ⟨cx, hcx⟩ : ∃ c, cmpS x.id_ s = c := ⟨_, rfl⟩
        have hcr := cmpS_range x.id_ s
        rw [hcx] at hc hcr
        have hnn : decide (cx < 0) = false := decide_eq_false (by omega)
        have R : ∀ w', Below wr.heap.size wr w' → BsRel k0 n w (.int .i64 i) (.int .i64 (((i : Int) + (j : Int)) / 2)) w' := fun w' h => ⟨i, (i + j) / 2, rfl, by rw [e1], hi, hik, by omega, hb.trans (h.mono hbs)⟩
        clear hcr hc
        have hxH := Lib.hid hx
        clear hx
        have hbH := Lib.hid hb
        clear hb
        have e1H := Lib.hid e1
        clear e1
        have RH := Lib.hid R
        clear R
        have hikH := Lib.hid hik
        clear hik
        have hcxH := Lib.hid hcx
        clear hcx
        go_wp2_with (go_at_fn 101; refine (workAt1_any x s _).mono ?_; rintro e w' ⟨rfl, hb'⟩; rw [hcxH.out]; have hb'H := Lib.hid hb'; clear hb')
        refine ⟨?rel, ?measure⟩
        case measure => simp [intOf]; omega
        case rel => exact RH.out _ hb'H.out
    · have hij : i = k0 := by omega
      have hjk : j = k0 := by omega
      subst hij
      subst hjk
      by_cases hkn : j < n
      · obtain ⟨b, off, hA, _⟩ := hlH.out.2.1 (by omega)
        subst hA
        obtain ⟨x, hx⟩ : ∃ x, l[j]? = some x := ⟨l[j]'(by have := hllH.out; omega), List.getElem?_eq_getElem _⟩
        obtain ⟨c0, c1, c2, c3⟩ := cells_Work (hlH.out.below hb) hx
        have hf := hfH.out
        clear hfH
        have hfx : f = decide (x.id_ = s) ∧ (f = true → j = ixOf l s) := by
          by_cases hxs : x.id_ = s
          · have := ixOf_eq hrH.out hx
            rw [hxs] at this
            rw [← hf]
            exact ⟨by rw [this.2, decide_eq_true hxs], fun _ => this.1.symm⟩
          · have h0 : hasId l s = false := hnoH.out fun t y hy hys => by
              rcases Nat.lt_or_ge t j with h | h
              · have := hloH.out t y hy h
                rw [hys, (cmpS_zero _ _).2 rfl] at this; cases this
              · rcases Nat.eq_or_lt_of_le h with h | h
                · subst h; rw [hx] at hy; injection hy with hy; exact hxs (by rw [hy]; exact hys)
                · obtain ⟨h1, e1⟩ := List.getElem?_eq_some_iff.1 hx
                  obtain ⟨h2, e2⟩ := List.getElem?_eq_some_iff.1 hy
                  have := List.pairwise_iff_getElem.1 hrH.out j t h1 h2 h
                  rw [e1, e2, hys] at this
                  exact hhiH.out j x hx (Nat.le_refl _) this
            rw [h0] at hf
            subst hf
            exact ⟨by rw [decide_eq_false hxs], fun h => by cases h⟩
        obtain ⟨cx, hcx⟩ : ∃ c, cmpS x.id_ s = c := ⟨_, rfl⟩
        have hcf : (cx == 0) = f := by
          rw [hfx.1, ← hcx, Bool.eq_iff_iff, beq_iff_eq, decide_eq_true_iff]
          exact cmpS_zero _ _
        have hfx2 := hfx.2
        clear hfx
        have hxH := Lib.hid hx
        clear hx
        have hbH := Lib.hid hb
        clear hb
        have hfH := Lib.hid hf
        clear hf
        have hcxH := Lib.hid hcx
        clear hcx
        have hfx2H := Lib.hid hfx2
        clear hfx2
        cases f
        all_goals
          go_wp2_with (go_at_fn 101; refine (workAt1_any x s _).mono ?_; rintro e w' ⟨rfl, hb'⟩; rw [hcxH.out]; have hb'H := Lib.hid hb'; clear hb')
          go_ret2
          first
            | exact ⟨j, rfl, (fun h => hfx2H.out h), hbH.out.trans (hb'H.out.mono hbH.out.size)⟩
            | exact ⟨j, rfl, hfx2H.out trivial, hbH.out.trans (hb'H.out.mono hbH.out.size)⟩
      · have h0 : hasId l s = false := hnoH.out fun t y hy hys => by
          have h1 := (List.getElem?_eq_some_iff.1 hy).1
          have := hloH.out t y hy (by have := hllH.out; omega)
          rw [hys, (cmpS_zero _ _).2 rfl] at this; cases this
        obtain rfl : false = f := by rw [← h0, hfH.out]
        have hbH := Lib.hid hb
        clear hb
        have h0H := Lib.hid h0
        clear h0
        go_wp2_with fail
        go_ret2
        exact ⟨j, rfl, (fun h => nomatch h), hbH.out⟩

theorem workAt_any (A : Option Addr) (n c : Nat) (l : List Work) (s : ByteArray) (w : World) (hn : n ≤ 1000) (hl : SlAt RWork w A n l) (hr : l.Pairwise fun a b => cmpS a.id_ b.id_ = -1) :
    Calls Tryz.prog 62 #[.slice A n c, .string s] w fun e w' =>
      ∃ i : Nat, e = .returned (.tuple #[.int .i64 i, .bool (hasId l s)]) ∧ (hasId l s = true → i = ixOf l s) ∧ Below w.heap.size w w' := by
  have hlH := Lib.hid hl
  clear hl
  have hrH := Lib.hid hr
  clear hr
  go_enter Tryz.func62, Tryz.ntmps62
  go_wp2_with fail
  refine (bsf_work A n c l s _ hn hlH.out hrH.out).mono ?_
  rintro e w1 ⟨i, rfl, hi, hb⟩
  have hiH := Lib.hid hi
  clear hi
  have hbH := Lib.hid hb
  clear hb
  go_wp2
  go_ret2
  exact ⟨i, rfl, hiH.out, hbH.out⟩

end Go.Proofs.YtbnkoefljcekbaaGreatDoor.C9

namespace Go.Proofs.YtbnkoefljcekbaaGreatDoor.C9
open Go.RowKit
set_option linter.unusedVariables false

/-- what is asked of the predicate -/
def PredL (g : Nat) (lb : Array Value) (p : ByteArray → Bool) (l : List ByteArray) (w : World) : Prop :=
  ∀ (W : World) (x : ByteArray), x ∈ l → Below w.heap.size w W → Calls Tryz.prog g (#[.string x] ++ lb) W fun e w' => e = .returned (.bool (p x)) ∧ Below W.heap.size W w'
def AnyRel (p : ByteArray → Bool) (l : List ByteArray) (b : Bool) (w0 : World) (i : Value) (wr : World) : Prop := ∃ k : Nat, k ≤ l.length ∧ i = .int .i64 k ∧ (l.drop k).any p = b ∧ Below w0.heap.size w0 wr

set_option maxHeartbeats 2000000 in
theorem indexFunc_any (g : Nat) (lb : Array Value) (eg : ∀ args w, (callFunc g args).run Tryz.prog w = .ok (.enter g args) w) (p : ByteArray → Bool) (A : Option Addr) (n c : Nat) (l : List ByteArray) (w : World)
    (hl : SlAt RStr w A n l) (hn : n ≤ 9223372036854775807) (hp : PredL g lb p l w) (b : Bool) (hb : l.any p = b) :
    Calls Tryz.prog 181 #[.slice A n c, .func (.func g) #[] lb] w fun e w' => ∃ i : Int, e = .returned (.int .i64 i) ∧ (if b = true then 0 ≤ i else i = -1) ∧ Below w.heap.size w w' := by
  have hll := hl.1
  have hlH := Lib.hid hl
  clear hl
  have hbH := Lib.hid hb
  clear hb
  have hpH := Lib.hid hp
  clear hp
  have hllH := Lib.hid hll
  clear hll
  go_enter Tryz.func181, Tryz.ntmps181
  go_wp2
  go_loopw [5, 8] (fun s5 i wr => AnyRel p l b w i wr) (fun _ i _ => n - (intOf i).toNat)
  case atStart => exact ⟨0, Nat.zero_le _, rfl, hbH.out, Below.refl _ _⟩
  case round =>
    obtain ⟨k, hk, rfl, hr, hbw⟩ := hrel
    have hkl : k ≤ n := by have := hllH.out; omega
    by_cases hlt : k < n
    · obtain ⟨b0, off, hA, _⟩ := hlH.out.2.1 (by omega)
      subst hA
      obtain ⟨x, hx⟩ : ∃ x, l[k]? = some x := ⟨l[k]'(by have := hllH.out; omega), List.getElem?_eq_getElem _⟩
      have c0 := cell_StrW (hlH.out.below hbw) hx
      have hcall := hpH.out wr x (List.mem_of_getElem? hx) hbw
      rw [drop_cons hx, List.any_cons] at hr
      have hkl2 : k + 1 ≤ l.length := by have := hllH.out; omega
      cases hq : p x
      · rw [hq] at hcall hr
        rw [Bool.false_or] at hr
        have R : ∀ w', Below wr.heap.size wr w' → AnyRel p l b w (.int .i64 (k + 1)) w' := fun w' h => ⟨k + 1, hkl2, by go_num, hr, hbw.trans (h.mono hbw.size)⟩
        clear hr
        have RH := Lib.hid R
        clear R
        have hxH := Lib.hid hx
        clear hx
        have hbwH := Lib.hid hbw
        clear hbw
        have hqH := Lib.hid hq
        clear hq
        have hcallH := Lib.hid hcall
        clear hcall
        go_wp2_with (go_at_fn g; refine hcallH.out.mono ?_; rintro e w' ⟨rfl, hb'⟩; have hb'H := Lib.hid hb'; clear hb')
        refine ⟨?rel, ?measure⟩
        case measure => (simp [intOf]; omega)
        case rel => first | exact (RH.out _ hb'H.out) | exact ⟨rfl, (RH.out _ hb'H.out)⟩ | ((try refine ⟨rfl, ?_⟩); (repeat apply Exists.intro); refine ⟨(RH.out _ hb'H.out), ?_⟩; ((repeat' apply And.intro) <;> rfl))
      · rw [hq] at hcall hr
        rw [Bool.true_or] at hr
        subst hr
        have hxH := Lib.hid hx
        clear hx
        have hbwH := Lib.hid hbw
        clear hbw
        have hqH := Lib.hid hq
        clear hq
        have hcallH := Lib.hid hcall
        clear hcall
        go_wp2_with (go_at_fn g; refine hcallH.out.mono ?_; rintro e w' ⟨rfl, hb'⟩; have hb'H := Lib.hid hb'; clear hb')
        go_ret
        exact ⟨k, rfl, by first | omega | (rw [if_pos rfl]; omega), hbwH.out.trans (hb'H.out.mono hbwH.out.size)⟩
    · have e : l.drop k = [] := List.drop_eq_nil_of_le (by have := hllH.out; omega)
      rw [e] at hr
      subst hr
      have hbwH := Lib.hid hbw
      clear hbw
      have eH := Lib.hid e
      clear e
      go_wp2
      go_ret
      exact ⟨-1, rfl, by simp, hbwH.out⟩

set_option maxHeartbeats 1000000 in
theorem containsFunc_any (g : Nat) (lb : Array Value) (eg : ∀ args w, (callFunc g args).run Tryz.prog w = .ok (.enter g args) w) (p : ByteArray → Bool) (A : Option Addr) (n c : Nat) (l : List ByteArray) (w : World)
    (hl : SlAt RStr w A n l) (hn : n ≤ 9223372036854775807) (hp : PredL g lb p l w) (b : Bool) (hb : l.any p = b) :
    Calls Tryz.prog 137 #[.slice A n c, .func (.func g) #[] lb] w fun e w' => e = .returned (.bool b) ∧ Below w.heap.size w w' := by
  have hlH := Lib.hid hl
  clear hl
  have hbH := Lib.hid hb
  clear hb
  have hpH := Lib.hid hp
  clear hp
  go_enter Tryz.func137, Tryz.ntmps137
  go_wp2_with fail
  refine (indexFunc_any g lb eg p A n c l _ hlH.out hn hpH.out b hbH.out).mono ?_
  rintro e w1 ⟨i, rfl, hi, hw1⟩
  have hw1H := Lib.hid hw1
  clear hw1
  cases b
  · rw [if_neg (by simp)] at hi
    subst hi
    go_wp2
    go_ret
    exact ⟨rfl, hw1H.out⟩
  · rw [if_pos rfl] at hi
    go_wp2
    go_ret
    exact ⟨rfl, hw1H.out⟩
end Go.Proofs.YtbnkoefljcekbaaGreatDoor.C9

namespace Go.Proofs.YtbnkoefljcekbaaGreatDoor.C9
open Go.RowKit Go.Deep
set_option linter.unusedVariables false

def nz (l : List Nat) : List Int := l.map (fun (k : Nat) => (k : Int))
def lenV : Value → Nat | .slice _ n _ => n | _ => 0
def bN : Value → Nat | .bool true => 1 | _ => 0

/-- the boxes of l and done, and done itself -/
structure OF (B N c : Nat) (A : Option Addr) (f : Nat → Bool) (W : World) : Prop where
  c0 : W.cell? ⟨B, 0, none⟩ = some (.slice A N c)
  cD : W.cell? ⟨B + 1 + 1, 0, none⟩ = some (.slice (some ⟨B + 1, 0, none⟩) N N)
  row : BRow W (B + 1) N f
theorem OF.below {B N c K : Nat} {A : Option Addr} {f : Nat → Bool} {W W' : World} (h : OF B N c A f W) (hb : Below K W W') (hK : B + 3 ≤ K) : OF B N c A f W' :=
  ⟨(hb.cell (show B < K by omega)).trans h.c0, (hb.cell (show B + 1 + 1 < K by omega)).trans h.cD, h.row.below hb (by omega)⟩
theorem OF.set {B N c k : Nat} {A : Option Addr} {f : Nat → Bool} {W : World} (h : OF B N c A f W) : OF B N c A (fun j => if j = k then true else f j) (W.setCell ⟨B + 1, k, none⟩ (.bool true)) :=
  ⟨by rw [World.cell?_setCell_other _ _ _ _ (by simp)]; exact h.c0, by rw [World.cell?_setCell_other _ _ _ _ (by simp)]; exact h.cD, h.row.set true⟩

set_option maxHeartbeats 1000000 in
theorem ord1_any (B N c : Nat) (A : Option Addr) (f : Nat → Bool) (l : List Work) (s : ByteArray) (W : World) (hN : N ≤ 1000) (hF : OF B N c A f W) (hl : SlAt RWork W A N l) (hr : l.Pairwise fun a b => cmpS a.id_ b.id_ = -1) (hs : hasId l s = true) :
    Calls Tryz.prog 138 #[.string s, .pointer (some ⟨B, 0, none⟩), .pointer (some ⟨B + 1 + 1, 0, none⟩)] W fun e w' => e = .returned (.bool (!f (ixOf l s))) ∧ Below W.heap.size W w' := by
  have c0 := hF.c0
  have hll := hl.1
  obtain ⟨k, hk⟩ : ∃ k, ixOf l s = k := ⟨_, rfl⟩
  have hkl : k < N := by rw [← hk, ← hll]; exact ixOf_lt hs
  rw [hk]
  obtain ⟨u, hu⟩ : ∃ u, f k = u := ⟨_, rfl⟩
  rw [hu]
  have hlt2 : B + 1 + 1 < W.heap.size := cell?_lt hF.cD
  have hFH := Lib.hid hF
  clear hF
  have hlH := Lib.hid hl
  clear hl
  have hrH := Lib.hid hr
  clear hr
  have hsH := Lib.hid hs
  clear hs
  have hkH := Lib.hid hk
  clear hk
  have huH := Lib.hid hu
  clear hu
  go_enter Tryz.func138, Tryz.ntmps138
  go_wp2_with fail
  refine (workAt_any A N c l s _ hN hlH.out hrH.out).mono ?_
  rintro e w1 ⟨i, rfl, hi, hb⟩
  rw [hsH.out]
  obtain rfl : i = k := (hi hsH.out).trans hkH.out
  have hF1 := hFH.out.below hb (by omega)
  have cD := hF1.cD
  have cR := (hF1.row i hkl).1
  rw [huH.out] at cR
  clear hi c0
  have hF1H := Lib.hid hF1
  clear hF1
  have hbH := Lib.hid hb
  clear hb
  go_wp2
  go_ret
  exact ⟨rfl, hbH.out⟩

def OrdRel (l : List Work) (B N c : Nat) (A : Option Addr) (w0 : World) (v m : Value) (wr : World) : Prop :=
  ∃ (f : Nat → Bool) (out : List Nat) (A2 : Option Addr) (n cap : Nat) (b : Bool), v = .slice A2 n cap ∧ m = .bool b ∧ OF B N c A f wr ∧ Own RInt 3 wr (B + 3) v (nz out) ∧ Topo (gOf l) N out ∧ (∀ i, i < N → (f i = true ↔ i ∈ out)) ∧ (b = false → Most (gOf l) N out) ∧ Below w0.heap.size w0 wr ∧ B + 3 ≤ wr.heap.size
/-- within a pass, its first k works gone over; n0: how many were there at its beginning -/
def OrdIn (l : List Work) (B N c n0 : Nat) (A : Option Addr) (w0 : World) (v m i : Value) (wr : World) : Prop :=
  ∃ (k : Nat) (f : Nat → Bool) (out : List Nat) (A2 : Option Addr) (n cap : Nat) (b : Bool), k ≤ N ∧ i = .int .i64 k ∧ v = .slice A2 n cap ∧ m = .bool b ∧ OF B N c A f wr ∧ Own RInt 3 wr (B + 3) v (nz out) ∧ Topo (gOf l) N out ∧ (∀ i, i < N → (f i = true ↔ i ∈ out)) ∧
    (b = false → n = n0 ∧ ∀ i, i < k → i ∉ out → ∃ p ∈ gOf l i, p ∉ out) ∧ (b = true → n0 < n) ∧ Below w0.heap.size w0 wr ∧ B + 3 ≤ wr.heap.size

theorem nz_len (l : List Nat) : (nz l).length = l.length := by simp [nz]
theorem nz_snoc (l : List Nat) (k : Nat) : nz (l ++ [k]) = nz l ++ [(k : Int)] := by simp [nz]

def OrdAns (l : List Work) (N : Nat) (w : World) (e : Ending) (w' : World) : Prop := ∃ (A : Option Addr) (n cap : Nat) (out : List Nat) (ok : Bool), e = .returned (.tuple #[.slice A n cap, .bool ok]) ∧ SlAt RInt w' A n (nz out) ∧ n = out.length ∧ ok = decide (n = N) ∧ Topo (gOf l) N out ∧ Most (gOf l) N out ∧ Below w.heap.size w w'

def OrdOwn (l : List Work) (N : Nat) (w : World) (e : Ending) (w' : World) : Prop := OrdAns l N w e w' ∧ ∀ (b off n cap : Nat) (ok : Bool), e = .returned (.tuple #[.slice (some ⟨b, off, none⟩) n cap, .bool ok]) → w.heap.size ≤ b
set_option maxRecDepth 100000 in
set_option maxHeartbeats 4000000 in
theorem ordered_own (A : Option Addr) (N c : Nat) (l : List Work) (w : World) (hN : N ≤ 1000) (hl : SlAt RWork w A N l) (hr : l.Pairwise fun a b => cmpS a.id_ b.id_ = -1) (hall : allThere l l.length = true) :
    Calls Tryz.prog 85 #[.slice A N c] w (OrdOwn l N w) := by
  have hll := hl.1
  have hmk := run_makeB N (by omega)
  obtain ⟨B, hB⟩ : ∃ B, w.heap.size = B := ⟨_, rfl⟩
  have hg := gOf_lt hall
  rw [hll] at hg
  have eg : ∀ args w, (callFunc 138 args).run Tryz.prog w = .ok (.enter 138 args) w := enters_of Tryz.func138 (by kernel_rfl) rfl
  have hgl : ∀ (i : Nat) (x : Work), l[i]? = some x → ∀ s ∈ x.after.l, hasId l s = true := fun i x hx s hs => allThere_get hall hx hs
  have hlH := Lib.hid hl
  clear hl
  have hrH := Lib.hid hr
  clear hr
  have hallH := Lib.hid hall
  clear hall
  have hgH := Lib.hid hg
  clear hg
  have hglH := Lib.hid hgl
  clear hgl
  go_enter Tryz.func85, Tryz.ntmps85
  go_wp2_with fail
  obtain ⟨W1, hW1⟩ : ∃ X, w.alloc (.cells #[.slice A N c] 23) = X := ⟨_, rfl⟩
  have hb1 : Below w.heap.size w W1 := by rw [← hW1]; exact (Below.refl _ _).alloc (Nat.le_refl _) _
  have hs1 : W1.heap.size = B + 1 := by rw [← hW1, ← hB]; simp
  have k1 : W1.cell? ⟨B, 0, none⟩ = some (.slice A N c) := by rw [← hW1, ← hB]; exact cell_new w _ _ 0
  rw [hW1]
  obtain ⟨W2, hW2⟩ : ∃ X, W1.alloc (.cells (madeB N) 4) = X := ⟨_, rfl⟩
  have hb2 : Below w.heap.size w W2 := by rw [← hW2]; exact hb1.alloc hb1.size _
  have hb12 : Below W1.heap.size W1 W2 := by rw [← hW2]; exact (Below.refl _ _).alloc (Nat.le_refl _) _
  have hs2 : W2.heap.size = B + 1 + 1 := by rw [← hW2, ← hs1]; simp
  have k2 : BRow W2 (B + 1) N (fun _ => false) := by rw [← hW2, ← hs1]; exact BRow.made W1 N
  rw [hW2]
  obtain ⟨W3, hW3⟩ : ∃ X, W2.alloc (.cells #[.slice (some ⟨B + 1, 0, none⟩) N N] 59) = X := ⟨_, rfl⟩
  have hb3 : Below w.heap.size w W3 := by rw [← hW3]; exact hb2.alloc hb2.size _
  have hb23 : Below W2.heap.size W2 W3 := by rw [← hW3]; exact (Below.refl _ _).alloc (Nat.le_refl _) _
  have hs3 : W3.heap.size = B + 3 := by rw [← hW3]; simp; omega
  have hF3 : OF B N c A (fun _ => false) W3 := by
    refine ⟨(hb23.cell (show B < W2.heap.size by omega)).trans ((hb12.cell (show B < W1.heap.size by omega)).trans k1), ?_, k2.below hb23 (by omega)⟩
    rw [← hW3, ← hs2]
    exact cell_new W2 _ _ 0
  rw [hW3]
  clear k1 k2 hb1 hb2 hb12 hb23 hs1 hs2 hW1 hW2 hW3
  have hF3H := Lib.hid hF3
  clear hF3
  have hb3H := Lib.hid hb3
  clear hb3
  go_loopw [5, 6] (fun v m wr => OrdRel l B N c A w v m wr) (fun v m _ => 2 * (N - lenV v) + bN m)
  case atStart => exact ⟨fun _ => false, [], none, 0, 0, true, rfl, rfl, hF3H.out, Own.nil _ _, Topo.nil _ _, by simp, (fun h => nomatch h), hb3H.out, by omega⟩
  case round =>
    obtain ⟨f, out, A2, n, cap, b, rfl, rfl, hF, hown, htopo, hio, hmost, hb, hsz⟩ := hrel
    obtain ⟨wa, rfl⟩ : ∃ W, W = wr := ⟨_, rfl⟩
    have c0 := hF.c0
    have hnl := hown.len
    rw [nz_len] at hnl
    have hnN : n ≤ N := by rw [← hnl]; exact nodup_lt htopo.nodup htopo.lt
    cases b
    · have hmost := hmost rfl
      have fin : ∀ nq, ∀ ok : Bool, ok = decide (n = N) → OrdOwn l N w (.returned (.tuple #[.slice A2 n cap, .bool ok])) (wa.drewN nq) := fun nq ok hok =>
        ⟨⟨A2, n, cap, out, ok, rfl, (hown.below (bel_drewN (Below.refl _ _) nq)).slAt, hnl.symm, hok, htopo, hmost, bel_drewN hb nq⟩, fun b off n2 cap2 ok2 e => by
          simp only [Ending.returned.injEq, Value.tuple.injEq, Array.mk.injEq, List.cons.injEq, Value.slice.injEq] at e
          obtain ⟨⟨rfl, _, _⟩, _⟩ := e
          have := (hown.1.lt b rfl).1
          omega⟩
      have hFH := Lib.hid hF
      clear hF
      have hownH := Lib.hid hown
      clear hown
      have htopoH := Lib.hid htopo
      clear htopo
      have hioH := Lib.hid hio
      clear hio
      have hmostH := Lib.hid hmost
      clear hmost
      have hbH := Lib.hid hb
      clear hb
      have finH := Lib.hid fin
      clear fin
      obtain ⟨ok, hok⟩ : ∃ ok, decide (n = N) = ok := ⟨_, rfl⟩
      have e1 : ((n : Int) == (N : Int)) = ok := by rw [← hok, Bool.eq_iff_iff, beq_iff_eq, decide_eq_true_iff]; omega
      have hokH := Lib.hid hok
      clear hok
      go_wp2_with fail
      go_quiet (fail)
      go_wp2
      go_ret2
      exact finH.out _ _ hokH.out.symm
    · clear hmost
      have hFH := Lib.hid hF
      clear hF
      have hownH := Lib.hid hown
      clear hown
      have htopoH := Lib.hid htopo
      clear htopo
      have hioH := Lib.hid hio
      clear hio
      have hbH := Lib.hid hb
      clear hb
      go_wp2_with fail
      go_loopw [5, 6, 15] (fun v m i wr => OrdIn l B N c n A w v m i wr) (fun _ _ i _ => N - (intOf i).toNat)
      case atStart => exact ⟨0, f, out, A2, n, cap, false, Nat.zero_le _, rfl, rfl, rfl, hFH.out, hownH.out, htopoH.out, hioH.out, fun _ => ⟨rfl, fun i hi => by omega⟩, (fun h => nomatch h), hbH.out, hsz⟩
      case round =>
        obtain ⟨k, f2, out2, A3, n3, cap3, b2, hk, rfl, rfl, rfl, hF2, hown2, htopo2, hio2, hno, hyes, hb2, hsz2⟩ := hrel
        have hnl2 := hown2.len
        rw [nz_len] at hnl2
        have hnN2 : n3 ≤ N := by rw [← hnl2]; exact nodup_lt htopo2.nodup htopo2.lt
        clear c0
        by_cases hlt : k < N
        · obtain ⟨bb, off, hA, _⟩ := hlH.out.2.1 (by omega)
          subst hA
          obtain ⟨x, hx⟩ : ∃ x, l[k]? = some x := ⟨l[k]'(by have := hll; omega), List.getElem?_eq_getElem _⟩
          have hbs2 := hb2.size
          obtain ⟨d0, d1, d2, d3⟩ := cells_Work (hlH.out.below hb2) hx
          have cD := hF2.cD
          have cR := (hF2.row k hlt).1
          have hl1 : B + 1 < wr.heap.size := by omega
          have hl2 : B + 1 + 1 < wr.heap.size := by omega
          have hgk := gOf_get hx
          have hok := (hlH.out.2.2 x (List.mem_of_getElem? hx)).2.2.2
          have hgx := hglH.out k x hx
          have hba := hb2.alloc hbs2 (.cells #[.string x.id_, .slice x.needs.A x.needs.n x.needs.cap, .int .i64 x.size, .slice x.after.A x.after.n x.after.cap] 86)
          have hbr : Below wr.heap.size wr (wr.alloc (.cells #[.string x.id_, .slice x.needs.A x.needs.n x.needs.cap, .int .i64 x.size, .slice x.after.A x.after.n x.after.cap] 86)) := (Below.refl _ _).alloc (Nat.le_refl _) _
          obtain ⟨fk, hfk⟩ : ∃ b, f2 k = b := ⟨_, rfl⟩
          rw [hfk] at cR
          cases fk
          · have hkn : k ∉ out2 := fun h => by rw [(hio2 k hlt).2 h] at hfk; cases hfk
            obtain ⟨pb, hpb⟩ : ∃ b, x.after.l.any (fun s => !f2 (ixOf l s)) = b := ⟨_, rfl⟩
            have hxn : x.after.n ≤ 9223372036854775807 := Nat.le_trans hok.2.1 hok.2.2.1
            obtain ⟨Wc, hWc⟩ : ∃ X, wr.alloc (.cells #[.string x.id_, .slice x.needs.A x.needs.n x.needs.cap, .int .i64 x.size, .slice x.after.A x.after.n x.after.cap] 86) = X := ⟨_, rfl⟩
            rw [hWc] at hba hbr
            have hFc := hF2.below hbr (by omega)
            have hownc := hown2.below hbr
            have hWcs : B + 3 ≤ Wc.heap.size := by have := hbr.size; omega
            have hpred : PredL 138 #[.pointer (some ⟨B, 0, none⟩), .pointer (some ⟨B + 1 + 1, 0, none⟩)] (fun s => !f2 (ixOf l s)) x.after.l Wc := fun W s hs hW =>
              ord1_any B N c _ f2 l s W hN (hFc.below hW hWcs) ((hlH.out.below hba).below hW) hrH.out (hgx s hs)
            have hsl := hok.1.below hba
            have hxH := Lib.hid hx
            clear hx
            have hF2H := Lib.hid hF2
            clear hF2
            have hown2H := Lib.hid hown2
            clear hown2
            have htopo2H := Lib.hid htopo2
            clear htopo2
            have hio2H := Lib.hid hio2
            clear hio2
            have hnoH := Lib.hid hno
            clear hno
            have hyesH := Lib.hid hyes
            clear hyes
            have hb2H := Lib.hid hb2
            clear hb2
            have hgkH := Lib.hid hgk
            clear hgk
            have hokH := Lib.hid hok
            clear hok
            have hgxH := Lib.hid hgx
            clear hgx
            have hbaH := Lib.hid hba
            clear hba
            have hbrH := Lib.hid hbr
            clear hbr
            have hfkH := Lib.hid hfk
            clear hfk
            have hknH := Lib.hid hkn
            clear hkn
            have hpbH := Lib.hid hpb
            clear hpb
            have hFcH := Lib.hid hFc
            clear hFc
            have howncH := Lib.hid hownc
            clear hownc
            have hpredH := Lib.hid hpred
            clear hpred
            have hslH := Lib.hid hsl
            clear hsl
            have hWcH := Lib.hid hWc
            clear hWc
            go_wp2_with fail
            rw [hWcH.out]
            refine (containsFunc_any 138 #[.pointer (some ⟨B, 0, none⟩), .pointer (some ⟨B + 1 + 1, 0, none⟩)] eg (fun s => !f2 (ixOf l s)) x.after.A x.after.n x.after.cap x.after.l _ hslH.out hxn hpredH.out pb hpbH.out).mono ?_
            rintro e w5 ⟨rfl, hw5⟩
            have hF5 := hFcH.out.below hw5 hWcs
            have hown5 := howncH.out.below hw5
            have hb5 := hbaH.out.trans (hw5.mono hbaH.out.size)
            have hs5 : B + 3 ≤ w5.heap.size := by have := hw5.size; omega
            clear d0 d1 d2 d3 cD cR hFcH howncH hpredH hslH hbrH
            cases pb
            · have hall2 : ∀ q ∈ gOf l k, q ∈ out2 := by
                intro q hq
                rw [hgkH.out] at hq
                obtain ⟨s, hs, rfl⟩ := List.mem_map.1 hq
                have h1 := hpbH.out
                rw [List.any_eq_false] at h1
                have h2 := h1 s hs
                simp only [Bool.not_eq_true', Bool.not_eq_false] at h2
                exact (hio2H.out _ (by rw [← hll]; exact ixOf_lt (hgxH.out s hs))).1 h2
              have cD5 := hF5.cD
              have cR5 := (hF5.row k hlt).1
              have fR5 := (hF5.row k hlt).2
              have hne5 : (Value.slice A3 n3 cap3).ownBlock = none ∨ (Value.slice A3 n3 cap3).ownBlock ≠ some (B + 1) := by
                cases hv : (Value.slice A3 n3 cap3).ownBlock with
                | none => exact .inl rfl
                | some g => exact .inr (fun e => by injection e with e; have := (hown5.1.lt g hv).1; omega)
              have hown6 : Own RInt 3 (w5.setCell ⟨B + 1, k, none⟩ (.bool true)) (B + 3) (.slice A3 n3 cap3) (nz out2) := hown5.kept (grown_setc w5 ⟨B + 1, k, none⟩ (.bool true)) hne5 (fun _ _ h => h)
              have hF6 := hF5.set (k := k)
              have hb6 : Below w.heap.size w (w5.setCell ⟨B + 1, k, none⟩ (.bool true)) := hb5.trans (grown_below (grown_setc w5 ⟨B + 1, k, none⟩ (.bool true)) (by show w.heap.size ≤ B + 1; omega) hb5.size)
              have hs6 : B + 3 ≤ (w5.setCell ⟨B + 1, k, none⟩ (.bool true)).heap.size := by rw [World.size_setCell]; exact hs5
              have hI : I64 (k : Int) := by unfold I64; omega
              have hnew : SlAt RInt ((w5.setCell ⟨B + 1, k, none⟩ (.bool true)).alloc (.cells #[.int .i64 k] 3)) (some ⟨w5.heap.size, 0, none⟩) 1 [(k : Int)] := by
                have := slAt_new (R := RInt) (w5.setCell ⟨B + 1, k, none⟩ (.bool true)) 3 (k : Int) hI
                rwa [World.size_setCell] at this
              have hown7 := hown6.alloc (.cells #[.int .i64 k] 3)
              have hF7 : OF B N c (some ⟨bb, off, none⟩) (fun j => if j = k then true else f2 j) ((w5.setCell ⟨B + 1, k, none⟩ (.bool true)).alloc (.cells #[.int .i64 k] 3)) := hF6.below ((Below.refl _ _).alloc (Nat.le_refl _) _) hs6
              have hb7 : Below w.heap.size w ((w5.setCell ⟨B + 1, k, none⟩ (.bool true)).alloc (.cells #[.int .i64 k] 3)) := hb6.alloc hb6.size _
              clear hown5 hown6 hF5 hF6 hb6 hw5
              have hown7H := Lib.hid hown7
              clear hown7
              have hF7H := Lib.hid hF7
              clear hF7
              have hb7H := Lib.hid hb7
              clear hb7
              have hnewH := Lib.hid hnew
              clear hnew
              have hall2H := Lib.hid hall2
              clear hall2
              have hb5H := Lib.hid hb5
              clear hb5
              have hs6H := Lib.hid hs6
              clear hs6
              go_wp2_with (at_builtin; go_loud (refine wpList_app rfl (.tmp 33) (.tmp 35) 56 rfl Tryz.underlying56 elem_IntQ (by decide) rfl hown7H.out (some ⟨w5.heap.size, 0, none⟩) 1 1 [(k : Int)] rfl hnewH.out ?nn ?ok ?c1 ?c2 ?c3 (n3 + 1) ?c4 ?_))
              case nn => intro h; cases h
              case ok => exact fun _ _ _ _ h => h
              case c1 => rw [nz_len]; simp [maxLen] <;> omega
              case c2 => rw [nz_len]; omega
              case c3 => simp <;> omega
              case c4 => rw [nz_len]; omega
              intro A' c' w8 hown8 hg8 hat8 hb8
              have R : OrdIn l B N c n (some ⟨bb, off, none⟩) w (.slice A' (n3 + 1) c') (.bool true) (.int .i64 (k + 1)) w8 := by
                refine ⟨k + 1, (fun j => if j = k then true else f2 j), out2 ++ [k], A', n3 + 1, c', true, by omega, by go_num, rfl, rfl, hF7H.out.below hb8 (Nat.le_refl _), by rw [nz_snoc]; exact hown8, htopo2H.out.snoc hlt hknH.out hall2H.out, fun i hi => ?_, (fun h => nomatch h), fun _ => ?_, hb7H.out.trans (hb8.mono (by omega)), ?_⟩
                · by_cases e : i = k
                  · subst e; simp
                  · simp only [if_neg e, List.mem_append, List.mem_singleton]
                    rw [hio2H.out i hi]
                    exact ⟨.inl, fun h => h.resolve_right e⟩
                · cases b2
                  · have := (hnoH.out rfl).1; omega
                  · have := hyesH.out rfl; omega
                · have := hg8.size
                  simp at this; omega
              clear hg8 hat8 hb8 hown8
              have RH := Lib.hid R
              clear R
              go_wp2
              refine ⟨?rel, ?measure⟩
              case measure => (simp [intOf]; omega)
              case rel => first | exact RH.out | exact ⟨rfl, RH.out⟩ | ((try refine ⟨rfl, ?_⟩); (repeat apply Exists.intro); refine ⟨RH.out, ?_⟩; ((repeat' apply And.intro) <;> rfl))
            · have hex : ∃ q ∈ gOf l k, q ∉ out2 := by
                have h1 := hpbH.out
                rw [List.any_eq_true] at h1
                obtain ⟨s, hs, h2⟩ := h1
                refine ⟨ixOf l s, by rw [hgkH.out]; exact List.mem_map.2 ⟨s, hs, rfl⟩, fun h => ?_⟩
                rw [(hio2H.out _ (by rw [← hll]; exact ixOf_lt (hgxH.out s hs))).2 h] at h2
                cases h2
              have R : OrdIn l B N c n (some ⟨bb, off, none⟩) w (.slice A3 n3 cap3) (.bool b2) (.int .i64 (k + 1)) w5 := by
                refine ⟨k + 1, f2, out2, A3, n3, cap3, b2, by omega, by go_num, rfl, rfl, hF5, hown5, htopo2H.out, hio2H.out, fun h => ⟨(hnoH.out h).1, fun i hi hin => ?_⟩, hyesH.out, hb5, hs5⟩
                by_cases e : i = k
                · subst e; exact hex
                · exact (hnoH.out h).2 i (by omega) hin
              clear hF5 hown5 hb5 hw5
              have RH := Lib.hid R
              clear R
              have hexH := Lib.hid hex
              clear hex
              go_wp2
              refine ⟨?rel, ?measure⟩
              case measure => (simp [intOf]; omega)
              case rel => first | exact RH.out | exact ⟨rfl, RH.out⟩ | ((try refine ⟨rfl, ?_⟩); (repeat apply Exists.intro); refine ⟨RH.out, ?_⟩; ((repeat' apply And.intro) <;> rfl))
          · have hki : k ∈ out2 := (hio2 k hlt).1 hfk
            have R : OrdIn l B N c n (some ⟨bb, off, none⟩) w (.slice A3 n3 cap3) (.bool b2) (.int .i64 (k + 1)) (wr.alloc (.cells #[.string x.id_, .slice x.needs.A x.needs.n x.needs.cap, .int .i64 x.size, .slice x.after.A x.after.n x.after.cap] 86)) := by
              refine ⟨k + 1, f2, out2, A3, n3, cap3, b2, by omega, by go_num, rfl, rfl, hF2.below hbr (by omega), hown2.below hbr, htopo2, hio2, fun h => ⟨(hno h).1, fun i hi hin => ?_⟩, hyes, hba, by have := hbr.size; omega⟩
              by_cases e : i = k
              · subst e; exact absurd hki hin
              · exact (hno h).2 i (by omega) hin
            have hxH := Lib.hid hx
            clear hx
            have hF2H := Lib.hid hF2
            clear hF2
            have hown2H := Lib.hid hown2
            clear hown2
            have htopo2H := Lib.hid htopo2
            clear htopo2
            have hio2H := Lib.hid hio2
            clear hio2
            have hnoH := Lib.hid hno
            clear hno
            have hyesH := Lib.hid hyes
            clear hyes
            have hb2H := Lib.hid hb2
            clear hb2
            have hgkH := Lib.hid hgk
            clear hgk
            have hokH := Lib.hid hok
            clear hok
            have hgxH := Lib.hid hgx
            clear hgx
            have hbaH := Lib.hid hba
            clear hba
            have hbrH := Lib.hid hbr
            clear hbr
            have hfkH := Lib.hid hfk
            clear hfk
            have hkiH := Lib.hid hki
            clear hki
            have RH := Lib.hid R
            clear R
            go_wp2
            refine ⟨?rel, ?measure⟩
            case measure => (simp [intOf]; omega)
            case rel => first | exact RH.out | exact ⟨rfl, RH.out⟩ | ((try refine ⟨rfl, ?_⟩); (repeat apply Exists.intro); refine ⟨RH.out, ?_⟩; ((repeat' apply And.intro) <;> rfl))
        · have hkN : k = N := by omega
          have R : OrdRel l B N c A w (.slice A3 n3 cap3) (.bool b2) wr := ⟨f2, out2, A3, n3, cap3, b2, rfl, rfl, hF2, hown2, htopo2, hio2, fun h i hi hin => (hno h).2 i (by omega) hin, hb2, hsz2⟩
          have hme : 2 * (N - lenV (.slice A3 n3 cap3)) + bN (.bool b2) < 2 * (N - lenV (.slice A2 n cap)) + bN (.bool true) := by
            cases b2
            · have := (hno rfl).1
              simp only [lenV, bN]; omega
            · have := hyes rfl
              simp only [lenV, bN]; omega
          have hF2H := Lib.hid hF2
          clear hF2
          have hown2H := Lib.hid hown2
          clear hown2
          have htopo2H := Lib.hid htopo2
          clear htopo2
          have hio2H := Lib.hid hio2
          clear hio2
          have hnoH := Lib.hid hno
          clear hno
          have hyesH := Lib.hid hyes
          clear hyes
          have hb2H := Lib.hid hb2
          clear hb2
          have RH := Lib.hid R
          clear R
          have hmeH := Lib.hid hme
          clear hme
          go_wp2
          refine ⟨?rel, ?measure⟩
          case measure => exact hmeH.out
          case rel => first | exact RH.out | exact ⟨rfl, RH.out⟩ | ((try refine ⟨rfl, ?_⟩); (repeat apply Exists.intro); refine ⟨RH.out, ?_⟩; ((repeat' apply And.intro) <;> rfl))
theorem ordered_any (A : Option Addr) (N c : Nat) (l : List Work) (w : World) (hN : N ≤ 1000) (hl : SlAt RWork w A N l) (hr : l.Pairwise fun a b => cmpS a.id_ b.id_ = -1) (hall : allThere l l.length = true) :
    Calls Tryz.prog 85 #[.slice A N c] w (OrdAns l N w) := (ordered_own A N c l w hN hl hr hall).mono fun _ _ h => h.1
end Go.Proofs.YtbnkoefljcekbaaGreatDoor.C9
