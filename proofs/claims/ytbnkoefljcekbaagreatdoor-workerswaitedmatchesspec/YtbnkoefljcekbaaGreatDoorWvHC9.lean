/-
 Several texts of mine as one, without what is not wanted here: XOr, XRuns, XCheckRuns, XRunsD.
-/
import Derived.Test.YtbnkoefljcekbaaGreatDoorWvGe
import Derived.Test.YtbnkoefljcekbaaGreatDoorWvAC9
import Derived.Test.YtbnkoefljcekbaaGreatDoorWvGa
import Derived.Test.YtbnkoefljcekbaaGreatDoorShelf
import Derived.Deep.RegionHeld3
import Derived.Test.YtbnkoefljcekbaaGreatDoorWvBC9
import Derived.IntWalk
import Derived.Test.YtbnkoefljcekbaaGreatDoorWvFC9
import Derived.Test.YtbnkoefljcekbaaGreatDoorWvGf
namespace Go.Proofs.YtbnkoefljcekbaaGreatDoor.C9
open Go.RowKit
set_option linter.unusedVariables false
def orF : List Int → Int
 | [] => 0
 | x :: r => if x = 0 then orF r else x
def OrRel (l : List Int) (c : Int) (i : Value) : Prop := ∃ k : Nat, k ≤ l.length ∧ i = .int .i64 k ∧ orF (l.drop k) = c

theorem cell_Int {w : World} {b off m k : Nat} {l : List Int} {x : Int} (h : SlAt RInt w (some ⟨b, off, none⟩) m l) (hx : l[k]? = some x) : w.cell? ⟨b, off + k, none⟩ = some (.int .i64 x) := by
 have hk := (List.getElem?_eq_some_iff.1 hx).1
 obtain ⟨b', off', hA, hc⟩ := h.2.1 (by have := h.1; omega)
 obtain ⟨rfl, rfl⟩ : b = b' ∧ off = off' := by simpa using hA
 have := hc k x hx 0 _ rfl
 simpa [RInt] using this

theorem or_any (A : Option Addr) (len cap : Nat) (l : List Int) (w : World) (hlen : len ≤ 1000) (hl : SlAt RInt w A len l) (c : Int) (hF : orF l = c) :
  Calls Tryz.prog 40 #[.slice A len cap] w fun e w' => e = .returned (.int .i64 c) ∧ w = w' := by
 have hll := hl.1
 have hllH := Lib.hid hll
 clear hll
 have hFH := Lib.hid hF
 clear hF
 have hlH := Lib.hid hl
 clear hl
 go_enter Tryz.func40, Tryz.ntmps40
 go_wp2
 go_loop [8] (fun i => OrRel l c i) (fun i => len - (intOf i).toNat)
 case atStart => exact ⟨0, Nat.zero_le _, rfl, hFH.out⟩
 case round =>
  obtain ⟨k, hk, rfl, hck⟩ := hrel
  have hkl : k ≤ len := by have := hllH.out; omega
  by_cases hlt : k < len
  ·obtain ⟨b, off, hA, _⟩ := hlH.out.2.1 (by omega)
   subst hA
   obtain ⟨x, hx⟩ : ∃ x, l[k]? = some x := ⟨l[k]'(by have := hllH.out; omega), List.getElem?_eq_getElem _⟩
   have c0 := cell_Int hlH.out hx
   have hkl2 : k + 1 ≤ l.length := by have := hllH.out; omega
   rw [drop_cons hx, orF] at hck
   by_cases h0 : x = 0
   ·rw [if_pos h0] at hck
    subst h0
    have R : OrRel l c (.int .i64 (k + 1)) := ⟨k + 1, hkl2, by go_num, hck⟩
    have hckH := Lib.hid hck
    clear hck
    have hxH := Lib.hid hx
    clear hx
    have RH := Lib.hid R
    clear R
    go_wp2
    refine ⟨?rel, ?measure⟩
    case measure => (simp [intOf]; omega)
    case rel => first | exact RH.out | exact ⟨rfl, RH.out⟩ | ((try refine ⟨rfl, ?_⟩); (repeat apply Exists.intro); refine ⟨RH.out, ?_⟩; ((repeat' apply And.intro) <;> rfl))
   ·rw [if_neg h0] at hck
    subst hck
    have h1 : (x != 0) = true := by simpa using h0
    have hxH := Lib.hid hx
    clear hx
    go_wp2
    go_ret
    exact ⟨rfl, rfl⟩
  ·have e : l.drop k = [] := List.drop_eq_nil_of_le (by have := hllH.out; omega)
   rw [e, orF] at hck
   subst hck
   clear e
   go_wp2
   go_ret
   exact ⟨rfl, rfl⟩
end Go.Proofs.YtbnkoefljcekbaaGreatDoor.C9

namespace Go.Proofs.YtbnkoefljcekbaaGreatDoor.C9
open Go.RowKit
set_option linter.unusedVariables false

def runLt (a b : Run) : Bool := if a.from_ = b.from_ then (if a.id_ = b.id_ then ltS a.worker b.worker else ltS a.id_ b.id_) else decide (a.from_ < b.from_)
def runCmp (a b : Run) : Int := orF [Lib.compareInt a.from_ b.from_, cmpS a.id_ b.id_, cmpS a.worker b.worker]

theorem runCmp_eq (a b : Run) : runCmp a b = if a.from_ = b.from_ then (if a.id_ = b.id_ then cmpS a.worker b.worker else cmpS a.id_ b.id_) else if a.from_ < b.from_ then -1 else 1 := by
 unfold runCmp
 simp only [orF]
 by_cases h : a.from_ = b.from_
 ·have h0 : Lib.compareInt a.from_ b.from_ = 0 := by
   unfold Lib.compareInt
   rw [if_neg (by omega), if_neg (by omega)]
  rw [if_pos h0, if_pos h]
  by_cases h2 : a.id_ = b.id_
  ·rw [if_pos ((cmpS_zero _ _).2 h2), if_pos h2]
   split
   ·rename_i h3; exact h3.symm
   ·rfl
  ·rw [if_neg (fun e => h2 ((cmpS_zero _ _).1 e)), if_neg h2]
 ·rw [if_neg h]
  by_cases h2 : a.from_ < b.from_
  ·have h0 : Lib.compareInt a.from_ b.from_ = -1 := by
    unfold Lib.compareInt
    rw [if_pos h2]
   rw [h0, if_pos h2]; rfl
  ·have h0 : Lib.compareInt a.from_ b.from_ = 1 := by
    unfold Lib.compareInt
    rw [if_neg h2, if_pos (by omega)]
   rw [h0, if_neg h2]; rfl
theorem runCmp_le {a b : Run} (h : runLt b a = false) : runCmp a b ≤ 0 := by
 rw [runCmp_eq]
 unfold runLt at h
 by_cases h1 : a.from_ = b.from_
 ·rw [if_pos h1]
  rw [if_pos h1.symm] at h
  by_cases h2 : a.id_ = b.id_
  ·rw [if_pos h2]
   rw [if_pos h2.symm, ltS_cmp, cmpS_swap a.worker b.worker] at h
   have := of_decide_eq_false h
   rcases cmpS_range a.worker b.worker with h3 | h3 | h3 <;> omega
  ·rw [if_neg h2]
   rw [if_neg (fun e => h2 e.symm), ltS_cmp, cmpS_swap a.id_ b.id_] at h
   have := of_decide_eq_false h
   rcases cmpS_range a.id_ b.id_ with h3 | h3 | h3 <;> omega
 ·rw [if_neg h1]
  rw [if_neg (fun e => h1 e.symm)] at h
  have := of_decide_eq_false h
  rw [if_pos (by omega)]
  decide
theorem runCmp_gt {a b : Run} (h : runLt b a = true) : 0 < runCmp a b := by
 rw [runCmp_eq]
 unfold runLt at h
 by_cases h1 : a.from_ = b.from_
 ·rw [if_pos h1]
  rw [if_pos h1.symm] at h
  by_cases h2 : a.id_ = b.id_
  ·rw [if_pos h2]
   rw [if_pos h2.symm, ltS_cmp, cmpS_swap a.worker b.worker] at h
   have := of_decide_eq_true h
   omega
  ·rw [if_neg h2]
   rw [if_neg (fun e => h2 e.symm), ltS_cmp, cmpS_swap a.id_ b.id_] at h
   have := of_decide_eq_true h
   omega
 ·rw [if_neg h1]
  rw [if_neg (fun e => h1 e.symm)] at h
  have := of_decide_eq_true h
  rw [if_neg (by omega)]
  decide
theorem before_any (a b : Run) (w : World) (c : Bool) (hF : runLt a b = c) :
  Calls Tryz.prog 34 #[.agg #[.string a.id_, .string a.worker, .int .i64 a.from_, .int .i64 a.to_, .int .i64 a.end_], .agg #[.string b.id_, .string b.worker, .int .i64 b.from_, .int .i64 b.to_, .int .i64 b.end_]] w fun e w' => e = .returned (.bool c) ∧ Below w.heap.size w w' := by
 have hba := ((Below.refl w.heap.size w).alloc (Nat.le_refl _) (.cells #[.string a.id_, .string a.worker, .int .i64 a.from_, .int .i64 a.to_, .int .i64 a.end_] 34)).alloc (by simp) (.cells #[.string b.id_, .string b.worker, .int .i64 b.from_, .int .i64 b.to_, .int .i64 b.end_] 34)
 unfold runLt at hF
 have hbaH := Lib.hid hba
 clear hba
 by_cases h1 : a.from_ = b.from_
 ·rw [if_pos h1] at hF
  have h1' : (a.from_ != b.from_) = false := by simpa using h1
  clear h1
  by_cases h2 : a.id_ = b.id_
  ·rw [if_pos h2] at hF
   have h3 := nbne_data h2
   clear h2
   have hFH := Lib.hid hF
   clear hF
   go_enter Tryz.func34, Tryz.ntmps34
   go_wp2
   go_ret
   exact ⟨ret_bool hFH.out, hbaH.out⟩
  ·rw [if_neg h2] at hF
   have h3 := bne_data h2
   clear h2
   have hFH := Lib.hid hF
   clear hF
   go_enter Tryz.func34, Tryz.ntmps34
   go_wp2
   go_ret
   exact ⟨ret_bool hFH.out, hbaH.out⟩
 ·rw [if_neg h1] at hF
  have h2 : (a.from_ != b.from_) = true := by simpa using h1
  clear h1
  have hFH := Lib.hid hF
  clear hF
  go_enter Tryz.func34, Tryz.ntmps34
  go_wp2
  go_ret
  exact ⟨ret_bool hFH.out, hbaH.out⟩

theorem or_cells {w : World} {A : Option Addr} {b : Nat} {x y z : Int} (hA : A = some ⟨b, 0, none⟩) (h0 : w.cell? ⟨b, 0, none⟩ = some (.int .i64 x)) (h1 : w.cell? ⟨b, 1, none⟩ = some (.int .i64 y)) (h2 : w.cell? ⟨b, 2, none⟩ = some (.int .i64 z)) (hx : I64 x := by trivial) (hy : I64 y := by trivial) (hz : I64 z := by trivial) :
  SlAt RInt w A 3 [x, y, z] := by
 refine ⟨rfl, fun _ => ⟨b, 0, hA, fun i v hv j u hu => ?_⟩, ?_⟩
 ·match j, hu with
  | 0, hu =>
   simp only [RInt, List.getElem?_cons_zero, Option.some.injEq] at hu
   subst hu
   match i, hv with
   | 0, hv => simp only [List.getElem?_cons_zero, Option.some.injEq] at hv; subst hv; exact h0
   | 1, hv => simp only [List.getElem?_cons_succ, List.getElem?_cons_zero, Option.some.injEq] at hv; subst hv; exact h1
   | 2, hv => simp only [List.getElem?_cons_succ, List.getElem?_cons_zero, Option.some.injEq] at hv; subst hv; exact h2
   | n + 3, hv => simp at hv
  | n + 1, hu => simp [RInt] at hu
 ·intro v hv
  simp only [List.mem_cons, List.not_mem_nil, or_false] at hv
  rcases hv with rfl | rfl | rfl
  ·exact hx
  ·exact hy
  ·exact hz
theorem I64_of {x : Int} (h : x = -1 ∨ x = 0 ∨ x = 1) : I64 x := by unfold I64; omega
theorem cmpI_range (x y : Int) : Lib.compareInt x y = -1 ∨ Lib.compareInt x y = 0 ∨ Lib.compareInt x y = 1 := by
 unfold Lib.compareInt
 split
 ·exact Or.inl rfl
 ·split
  ·exact Or.inr (Or.inr rfl)
  ·exact Or.inr (Or.inl rfl)

theorem compareRuns_any (a b : Run) (w : World) (c : Int) (hF : runCmp a b = c) :
  Calls Tryz.prog 59 #[.agg #[.string a.id_, .string a.worker, .int .i64 a.from_, .int .i64 a.to_, .int .i64 a.end_], .agg #[.string b.id_, .string b.worker, .int .i64 b.from_, .int .i64 b.to_, .int .i64 b.end_]] w fun e w' => e = .returned (.int .i64 c) ∧ Below w.heap.size w w' := by
 have hba := ((Below.refl w.heap.size w).alloc (Nat.le_refl _) (.cells #[.string a.id_, .string a.worker, .int .i64 a.from_, .int .i64 a.to_, .int .i64 a.end_] 34)).alloc (by simp) (.cells #[.string b.id_, .string b.worker, .int .i64 b.from_, .int .i64 b.to_, .int .i64 b.end_] 34)
 obtain ⟨w0, hw0⟩ : ∃ w0, w0 = (w.alloc (.cells #[.string a.id_, .string a.worker, .int .i64 a.from_, .int .i64 a.to_, .int .i64 a.end_] 34)).alloc (.cells #[.string b.id_, .string b.worker, .int .i64 b.from_, .int .i64 b.to_, .int .i64 b.end_] 34) := ⟨_, rfl⟩
 rw [← hw0] at hba
 have hbaH := Lib.hid hba
 clear hba
 have hFH := Lib.hid hF
 clear hF
 have hw0H := Lib.hid hw0
 clear hw0
 go_enter Tryz.func59, Tryz.ntmps59
 go_wp2_with fail
 go_region_held3 (fun w' => w'.cell? ⟨w.heap.size, 2, none⟩ = some (.int .i64 a.from_) ∧ w'.cell? ⟨w.heap.size + 1, 2, none⟩ = some (.int .i64 b.from_) ∧ w'.cell? ⟨w.heap.size, 0, none⟩ = some (.string a.id_) ∧ w'.cell? ⟨w.heap.size + 1, 0, none⟩ = some (.string b.id_) ∧ w'.cell? ⟨w.heap.size, 1, none⟩ = some (.string a.worker) ∧ w'.cell? ⟨w.heap.size + 1, 1, none⟩ = some (.string b.worker)) (go_keep)
  (first
   | (go_at_call 41; refine (Tryz.cmp_Compare_int _ _ _).mono ?_; rintro e w1 ⟨rfl, rfl⟩)
   | (go_at_call 42; refine (Tryz.strings_Compare _ _ _).mono ?_; rintro e w1 ⟨rfl, rfl⟩)
   | (go_at_call 40; refine (or_any _ 3 _ [Lib.compareInt a.from_ b.from_, cmpS a.id_ b.id_, cmpS a.worker b.worker] _ (by omega) (or_cells rfl ?_ ?_ ?_ (I64_of (cmpI_range _ _)) (I64_of (cmpS_range _ _)) (I64_of (cmpS_range _ _))) c (by exact hFH.out)).mono ?_; (simp [go_sem]); (simp [go_sem]; rfl); (simp [go_sem]; rfl); rintro e w1 ⟨rfl, rfl⟩))
 go_wp2
 go_ret
 obtain rfl := hw0H.out
 exact ⟨rfl, by first | exact bel_drewN (Below.alloc hbaH.out (by have := hbaH.out.size; omega) _) _ | exact (Below.alloc hbaH.out (by have := hbaH.out.size; omega) _).drew⟩
end Go.Proofs.YtbnkoefljcekbaaGreatDoor.C9

namespace Go.Proofs.YtbnkoefljcekbaaGreatDoor.C9
open Go.RowKit
set_option linter.unusedVariables false

def runsErr : Option Run → List Run → Int
 | _, [] => 0
 | p, r :: s => if wordB r.id_ = true ∧ wordB r.worker = true then (if inR 0 1000000000 r.from_ = true ∧ inR 0 1000000000 r.to_ = true then (if r.to_ < r.from_ then 8 else if inR 1 3 r.end_ = true then (if p.map (fun q => runLt q r) = some false then 8 else runsErr (some r) s) else 4) else 1) else 5
def prevRun (l : List Run) (k : Nat) : Option Run := if k = 0 then none else l[k - 1]?
def runsF (l : List Run) : Int := if l.length ≤ 4000 then runsErr none l else 2
def RunsRel (l : List Run) (c : Int) (w0 : World) (i : Value) (wr : World) : Prop :=
 ∃ k : Nat, k ≤ l.length ∧ i = .int .i64 k ∧ runsErr (prevRun l k) (l.drop k) = c ∧ Below w0.heap.size w0 wr

theorem five_below {w w' : World} {a0 a1 a2 a3 a4 : Addr} {v0 v1 v2 v3 v4 : Value} (hb : Below w.heap.size w w') (h : w.cell? a0 = some v0 ∧ w.cell? a1 = some v1 ∧ w.cell? a2 = some v2 ∧ w.cell? a3 = some v3 ∧ w.cell? a4 = some v4) :
  w'.cell? a0 = some v0 ∧ w'.cell? a1 = some v1 ∧ w'.cell? a2 = some v2 ∧ w'.cell? a3 = some v3 ∧ w'.cell? a4 = some v4 :=
 ⟨(hb.cell (cell?_lt h.1)).trans h.1, (hb.cell (cell?_lt h.2.1)).trans h.2.1, (hb.cell (cell?_lt h.2.2.1)).trans h.2.2.1, (hb.cell (cell?_lt h.2.2.2.1)).trans h.2.2.2.1, (hb.cell (cell?_lt h.2.2.2.2)).trans h.2.2.2.2⟩
theorem ten_below {w w' : World} {a0 a1 a2 a3 a4 a5 a6 a7 a8 a9 : Addr} {v0 v1 v2 v3 v4 v5 v6 v7 v8 v9 : Value} (hb : Below w.heap.size w w') (h : w.cell? a0 = some v0 ∧ w.cell? a1 = some v1 ∧ w.cell? a2 = some v2 ∧ w.cell? a3 = some v3 ∧ w.cell? a4 = some v4 ∧ w.cell? a5 = some v5 ∧ w.cell? a6 = some v6 ∧ w.cell? a7 = some v7 ∧ w.cell? a8 = some v8 ∧ w.cell? a9 = some v9) :
  w'.cell? a0 = some v0 ∧ w'.cell? a1 = some v1 ∧ w'.cell? a2 = some v2 ∧ w'.cell? a3 = some v3 ∧ w'.cell? a4 = some v4 ∧ w'.cell? a5 = some v5 ∧ w'.cell? a6 = some v6 ∧ w'.cell? a7 = some v7 ∧ w'.cell? a8 = some v8 ∧ w'.cell? a9 = some v9 := by
 obtain ⟨h0, h1, h2, h3, h4, h5⟩ := h
 obtain ⟨g0, g1, g2, g3, g4⟩ := five_below hb h5
 exact ⟨(hb.cell (cell?_lt h0)).trans h0, (hb.cell (cell?_lt h1)).trans h1, (hb.cell (cell?_lt h2)).trans h2, (hb.cell (cell?_lt h3)).trans h3, (hb.cell (cell?_lt h4)).trans h4, g0, g1, g2, g3, g4⟩

set_option maxRecDepth 100000 in
set_option maxHeartbeats 2000000 in
theorem runs_ok (A : Option Addr) (len cap : Nat) (l : List Run) (w : World) (hlen : len ≤ 4000) (hl : SlAt RRun w A len l) (c : Int) (hF : runsErr none l = c) :
  Calls Tryz.prog 26 #[.slice A len cap] w fun e w' => e = .returned (.int .i64 c) ∧ Below w.heap.size w w' := by
 have hll := hl.1
 have hllH := Lib.hid hll
 clear hll
 have hFH := Lib.hid hF
 clear hF
 have hlH := Lib.hid hl
 clear hl
 go_enter Tryz.func26, Tryz.ntmps26
 go_wp2
 go_loopw [10] (fun i wr => RunsRel l c w i wr) (fun i _ => len - (intOf i).toNat)
 case atStart => exact ⟨0, Nat.zero_le _, rfl, hFH.out, Below.refl _ _⟩
 case round =>
  obtain ⟨k, hk, rfl, hck, hb⟩ := hrel
  have hkl : k ≤ len := by have := hllH.out; omega
  have hbs := hb.size
  by_cases hlt : k < len
  ·obtain ⟨b, off, hA, _⟩ := hlH.out.2.1 (by omega)
   subst hA
   obtain ⟨x, hx⟩ : ∃ x, l[k]? = some x := ⟨l[k]'(by have := hllH.out; omega), List.getElem?_eq_getElem _⟩
   obtain ⟨c0, c1, c2, c3, c4⟩ := cells_Run (hlH.out.below hb) hx
   obtain ⟨o0, o1, _⟩ := hlH.out.2.2 x (List.mem_of_getElem? hx)
   have hkl2 : k + 1 ≤ l.length := by have := hllH.out; omega
   have hpn : prevRun l (k + 1) = some x := by rw [prevRun, if_neg (by omega), show k + 1 - 1 = k from rfl, hx]
   rw [drop_cons hx, runsErr] at hck
   obtain ⟨id, wk, fr, tz, en⟩ := x
   simp only at c0 c1 c2 c3 c4 hck o0 o1
   obtain ⟨b1, hb1⟩ : ∃ b, wordB id = b := ⟨_, rfl⟩
   obtain ⟨b2, hb2⟩ : ∃ b, wordB wk = b := ⟨_, rfl⟩
   have hba := hb.alloc hbs (.cells #[.string id, .string wk, .int .i64 fr, .int .i64 tz, .int .i64 en] 34)
   have hbas := hba.size
   have hxH := Lib.hid hx
   clear hx
   have hbH := Lib.hid hb
   clear hb
   have hbaH := Lib.hid hba
   clear hba
   have hbasH := Lib.hid hbas
   clear hbas
   have o0H := Lib.hid o0
   clear o0
   have o1H := Lib.hid o1
   clear o1
   have hb1H := Lib.hid hb1
   clear hb1
   have hb2H := Lib.hid hb2
   clear hb2
   have hpnH := Lib.hid hpn
   clear hpn
   have hckH := Lib.hid hck
   clear hck
   have hkl2H := Lib.hid hkl2
   clear hkl2
   go_wp2_with fail
   refine (word_any id b1 _ o0H.out hb1H.out).mono ?_
   rintro e w1 ⟨rfl, hw1⟩
   obtain ⟨q0, q1, q2, q3, q4⟩ := five_below hw1 ⟨cell_new _ _ _ 0, cell_new _ _ _ 1, cell_new _ _ _ 2, cell_new _ _ _ 3, cell_new _ _ _ 4⟩
   have hbw1 := hbaH.out.trans (hw1.mono hbasH.out)
   clear c0 c1 c2 c3 c4
   have hw1H := Lib.hid hw1
   clear hw1
   have hbw1H := Lib.hid hbw1
   clear hbw1
   cases b1
   ·have hck := hckH.out
    clear hckH
    rw [if_neg (by rw [hb1H.out]; simp)] at hck
    clear q0 q1 q2 q3 q4
    have hckH := Lib.hid hck
    clear hck
    go_wp2
    go_ret
    exact ⟨ret1_int hckH.out, hbw1H.out⟩
   ·go_wp2_with fail
    refine (word_any wk b2 _ o1H.out hb2H.out).mono ?_
    rintro e w2 ⟨rfl, hw2⟩
    obtain ⟨q0, q1, q2, q3, q4⟩ := five_below hw2 ⟨q0, q1, q2, q3, q4⟩
    have hbw2 := hbw1H.out.trans (hw2.mono hbw1H.out.size)
    have hw2H := Lib.hid hw2
    clear hw2
    have hbw2H := Lib.hid hbw2
    clear hbw2
    cases b2
    ·have hck := hckH.out
     clear hckH
     rw [if_neg (by rw [hb2H.out]; simp)] at hck
     clear q0 q1 q2 q3 q4
     have hckH := Lib.hid hck
     clear hck
     go_wp2
     go_ret
     exact ⟨ret1_int hckH.out, hbw2H.out⟩
    ·have hck := hckH.out
     clear hckH
     rw [if_pos ⟨hb1H.out, hb2H.out⟩] at hck
     by_cases i2 : inR 0 1000000000 fr = true
     ·by_cases i3 : inR 0 1000000000 tz = true
      ·rw [if_pos ⟨i2, i3⟩] at hck
       by_cases hle : tz < fr
       ·rw [if_pos hle] at hck
        have hckH := Lib.hid hck
        clear hck
        go_wp2_with (first | (go_at_call 43; refine (within_p _ _ _ _).mono ?_; rintro e wz ⟨rfl, rfl⟩) | (go_at_call 39; refine (moment_p _ _).mono ?_; rintro e wz ⟨rfl, rfl⟩))
        go_ret
        exact ⟨ret1_int hckH.out, hbw2H.out⟩
       ·rw [if_neg hle] at hck
        have hle2 : decide (tz < fr) = false := decide_eq_false hle
        by_cases i4 : inR 1 3 en = true
        ·rw [if_pos i4] at hck
         by_cases hk0 : k = 0
         ·subst hk0
          have R : ∀ nq, RunsRel l c w (.int .i64 1) (w2.drewN nq) := by
           refine fun nq => ⟨1, hkl2H.out, by go_num, ?_, bel_drewN hbw2H.out nq⟩
           rw [prevRun, if_pos rfl, Option.map_none, if_neg (by decide)] at hck
           rw [show prevRun l 1 = _ from hpnH.out]
           exact hck
          have RH := Lib.hid R
          clear R
          have hckH := Lib.hid hck
          clear hck
          go_wp2_with (first | (go_at_call 43; refine (within_p _ _ _ _).mono ?_; rintro e wz ⟨rfl, rfl⟩) | (go_at_call 39; refine (moment_p _ _).mono ?_; rintro e wz ⟨rfl, rfl⟩))
          go_quiet (fail)
          go_wp2
          refine ⟨?rel, ?measure⟩
          case measure => (simp [intOf]; omega)
          case rel => first | exact (RH.out _) | exact ⟨rfl, (RH.out _)⟩ | ((try refine ⟨rfl, ?_⟩); (repeat apply Exists.intro); refine ⟨(RH.out _), ?_⟩; ((repeat' apply And.intro) <;> rfl))
         ·obtain ⟨j, rfl⟩ : ∃ j, k = j + 1 := ⟨k - 1, by omega⟩
          obtain ⟨y, hy⟩ : ∃ y, l[j]? = some y := ⟨l[j]'(by have := hllH.out; omega), List.getElem?_eq_getElem _⟩
          obtain ⟨d0, d1, d2, d3, d4⟩ := cells_Run (hlH.out.below hbw2H.out) hy
          have hpr : prevRun l (j + 1) = some y := by rw [prevRun, if_neg (by omega), show j + 1 - 1 = j from rfl, hy]
          rw [hpr, Option.map_some] at hck
          clear hpr
          have hyH := Lib.hid hy
          clear hy
          have f0 : (0 : Int) ≤ (j : Int) := by omega
          have f1 : (j : Int) < (len : Int) := by omega
          have f2 : IntKind.i64.wrap ((j : Int) + 1 - 1) = (j : Int) := by rw [show (j : Int) + 1 - 1 = (j : Int) by omega]; exact IntWalk.i64_in _ (by omega)
          have f3 : (j : Int).toNat = j := by omega
          have f4 : IntKind.i64.wrap (j : Int) = (j : Int) := IntWalk.i64_in _ (by omega)
          have f5 : IntKind.i64.wrap (((j + 1 : Nat) : Int) - 1) = (j : Int) := by rw [show ((j + 1 : Nat) : Int) - 1 = (j : Int) by omega]; exact f4
          have R0 : runsErr (some ⟨id, wk, fr, tz, en⟩) (l.drop (j + 1 + 1)) = c → ∀ wx, Below w.heap.size w wx → RunsRel l c w (.int .i64 (j + 1 + 1)) wx := by
           refine fun hc wx hbx => ⟨j + 1 + 1, hkl2H.out, by go_num, ?_, hbx⟩
           rw [hpnH.out]
           exact hc
          cases hlt3 : runLt y ⟨id, wk, fr, tz, en⟩
          ·obtain ⟨cc, hcc⟩ : ∃ cc, runCmp ⟨id, wk, fr, tz, en⟩ y = cc := ⟨_, rfl⟩
           have hcc0 : cc ≤ 0 := by rw [← hcc]; exact runCmp_le hlt3
           rw [hlt3, if_pos rfl] at hck
           clear R0
           have hckH := Lib.hid hck
           clear hck
           have hccH := Lib.hid hcc
           clear hcc
           have hlt3H := Lib.hid hlt3
           clear hlt3
           go_wp2_with (first | (go_at_call 43; refine (within_p _ _ _ _).mono ?_; rintro e wz ⟨rfl, rfl⟩) | (go_at_call 39; refine (moment_p _ _).mono ?_; rintro e wz ⟨rfl, rfl⟩))
           go_region_held3 (fun w' => w'.cell? ⟨wr.heap.size, 0, none⟩ = some (.string id) ∧ w'.cell? ⟨wr.heap.size, 1, none⟩ = some (.string wk) ∧ w'.cell? ⟨wr.heap.size, 2, none⟩ = some (.int .i64 fr) ∧ w'.cell? ⟨wr.heap.size, 3, none⟩ = some (.int .i64 tz) ∧ w'.cell? ⟨wr.heap.size, 4, none⟩ = some (.int .i64 en) ∧ w'.cell? ⟨b, off + j * 5, none⟩ = some (.string y.id_) ∧ w'.cell? ⟨b, off + j * 5 + 1, none⟩ = some (.string y.worker) ∧ w'.cell? ⟨b, off + j * 5 + 2, none⟩ = some (.int .i64 y.from_) ∧ w'.cell? ⟨b, off + j * 5 + 3, none⟩ = some (.int .i64 y.to_) ∧ w'.cell? ⟨b, off + j * 5 + 4, none⟩ = some (.int .i64 y.end_)) (first | go_keep | exact ten_below (by assumption) (by assumption))
            (first | (go_at_call 59; refine (compareRuns_any ⟨id, wk, fr, tz, en⟩ y _ cc (by exact hccH.out)).mono ?_; rintro e w3 ⟨rfl, hw3⟩))
           go_wp2
           go_ret
           exact ⟨ret1_int hckH.out, hbw2H.out.drew.trans (Below.mono hw3 hbw2H.out.drew.size)⟩
          ·obtain ⟨cc, hcc⟩ : ∃ cc, runCmp ⟨id, wk, fr, tz, en⟩ y = cc := ⟨_, rfl⟩
           have hcc0 : 0 < cc := by rw [← hcc]; exact runCmp_gt hlt3
           have hcc1 : decide (cc ≤ 0) = false := decide_eq_false (by omega)
           rw [hlt3, if_neg (by decide)] at hck
           have R := R0 hck
           clear R0
           have hckH := Lib.hid hck
           clear hck
           have hccH := Lib.hid hcc
           clear hcc
           have hlt3H := Lib.hid hlt3
           clear hlt3
           have RH := Lib.hid R
           clear R
           go_wp2_with (first | (go_at_call 43; refine (within_p _ _ _ _).mono ?_; rintro e wz ⟨rfl, rfl⟩) | (go_at_call 39; refine (moment_p _ _).mono ?_; rintro e wz ⟨rfl, rfl⟩))
           go_region_held3 (fun w' => w'.cell? ⟨wr.heap.size, 0, none⟩ = some (.string id) ∧ w'.cell? ⟨wr.heap.size, 1, none⟩ = some (.string wk) ∧ w'.cell? ⟨wr.heap.size, 2, none⟩ = some (.int .i64 fr) ∧ w'.cell? ⟨wr.heap.size, 3, none⟩ = some (.int .i64 tz) ∧ w'.cell? ⟨wr.heap.size, 4, none⟩ = some (.int .i64 en) ∧ w'.cell? ⟨b, off + j * 5, none⟩ = some (.string y.id_) ∧ w'.cell? ⟨b, off + j * 5 + 1, none⟩ = some (.string y.worker) ∧ w'.cell? ⟨b, off + j * 5 + 2, none⟩ = some (.int .i64 y.from_) ∧ w'.cell? ⟨b, off + j * 5 + 3, none⟩ = some (.int .i64 y.to_) ∧ w'.cell? ⟨b, off + j * 5 + 4, none⟩ = some (.int .i64 y.end_)) (first | go_keep | exact ten_below (by assumption) (by assumption))
            (first | (go_at_call 59; refine (compareRuns_any ⟨id, wk, fr, tz, en⟩ y _ cc (by exact hccH.out)).mono ?_; rintro e w3 ⟨rfl, hw3⟩))
           go_wp2
           have R3 := RH.out w3 (hbw2H.out.drew.trans (Below.mono hw3 hbw2H.out.drew.size))
           refine ⟨?rel, ?measure⟩
           case measure => (simp [intOf]; omega)
           case rel => first | exact R3 | exact ⟨rfl, R3⟩ | ((try refine ⟨rfl, ?_⟩); (repeat apply Exists.intro); refine ⟨R3, ?_⟩; ((repeat' apply And.intro) <;> rfl))
        ·rw [if_neg i4] at hck
         have i4 : inR 1 3 en = false := by simpa using i4
         have hckH := Lib.hid hck
         clear hck
         go_wp2_with (first | (go_at_call 43; refine (within_p _ _ _ _).mono ?_; rintro e wz ⟨rfl, rfl⟩) | (go_at_call 39; refine (moment_p _ _).mono ?_; rintro e wz ⟨rfl, rfl⟩))
         go_ret
         exact ⟨ret1_int hckH.out, hbw2H.out⟩
      ·rw [if_neg (fun h => i3 h.2)] at hck
       have i3 : inR 0 1000000000 tz = false := by simpa using i3
       have hckH := Lib.hid hck
       clear hck
       go_wp2_with (first | (go_at_call 43; refine (within_p _ _ _ _).mono ?_; rintro e wz ⟨rfl, rfl⟩) | (go_at_call 39; refine (moment_p _ _).mono ?_; rintro e wz ⟨rfl, rfl⟩))
       go_ret
       exact ⟨ret1_int hckH.out, hbw2H.out⟩
     ·rw [if_neg (fun h => i2 h.1)] at hck
      have i2 : inR 0 1000000000 fr = false := by simpa using i2
      have hckH := Lib.hid hck
      clear hck
      go_wp2_with (first | (go_at_call 43; refine (within_p _ _ _ _).mono ?_; rintro e wz ⟨rfl, rfl⟩) | (go_at_call 39; refine (moment_p _ _).mono ?_; rintro e wz ⟨rfl, rfl⟩))
      go_ret
      exact ⟨ret1_int hckH.out, hbw2H.out⟩
  ·have e : l.drop k = [] := List.drop_eq_nil_of_le (by have := hllH.out; omega)
   rw [e] at hck
   have hc0 : 0 = c := by rw [← hck]; unfold runsErr; rfl
   have hckH := Lib.hid hck
   clear hck
   have hbH := Lib.hid hb
   clear hb
   have eH := Lib.hid e
   clear e
   have hc0H := Lib.hid hc0
   clear hc0
   go_wp2
   go_ret
   exact ⟨ret1_int hc0H.out, hbH.out⟩

theorem runs_any (A : Option Addr) (len cap : Nat) (l : List Run) (w : World) (hl : SlAt RRun w A len l) (c : Int) (hF : runsF l = c) :
  Calls Tryz.prog 26 #[.slice A len cap] w fun e w' => e = .returned (.int .i64 c) ∧ Below w.heap.size w w' := by
 unfold runsF at hF
 rw [hl.1] at hF
 by_cases h : len ≤ 4000
 ·rw [if_pos h] at hF
  exact runs_ok A len cap l w h hl c hF
 ·rw [if_neg h] at hF
  subst hF
  clear hl
  go_enter Tryz.func26, Tryz.ntmps26
  go_wp2
  go_ret
  exact ⟨rfl, Below.refl _ _⟩
end Go.Proofs.YtbnkoefljcekbaaGreatDoor.C9

namespace Go.Proofs.YtbnkoefljcekbaaGreatDoor.C9
open Go.ChangeShapes Go.WideShapes Go.Deep Go.RowKit Go.Maps
set_option linter.unusedVariables false
set_option linter.unusedSimpArgs false

theorem rise_inj {α : Type} {f : α → ByteArray} {l : List α} (hr : l.Pairwise fun a b => cmpS (f a) (f b) = -1) {i j : Nat} {a b : α} (hi : l[i]? = some a) (hj : l[j]? = some b) (e : f a = f b) : i = j := by
 obtain ⟨hi1, hi2⟩ := List.getElem?_eq_some_iff.1 hi
 obtain ⟨hj1, hj2⟩ := List.getElem?_eq_some_iff.1 hj
 have hp := List.pairwise_iff_getElem.1 hr
 have z : ∀ s : ByteArray, cmpS s s = 0 := fun s => (cmpS_zero s s).2 rfl
 rcases Nat.lt_trichotomy i j with h | h | h
 ·have := hp _ _ hi1 hj1 h
  rw [hi2, hj2, e, z] at this; cases this
 ·exact h
 ·have := hp _ _ hj1 hi1 h
  rw [hi2, hj2, e, z] at this; cases this
theorem idInj {x : Farm} (h : FarmOk x) {i j : Nat} (hi : i < x.works.l.length) (hj : j < x.works.l.length) (e : (woOf x i).id_ = (woOf x j).id_) : i = j := by
 rw [woOf_get (List.getElem?_eq_getElem hi), woOf_get (List.getElem?_eq_getElem hj)] at e
 exact rise_inj (f := Work.id_) h.wo.rise (List.getElem?_eq_getElem hi) (List.getElem?_eq_getElem hj) e
theorem nmInj {x : Farm} (h : FarmOk x) {i j : Nat} (hi : i < x.workers.l.length) (hj : j < x.workers.l.length) (e : (wkOf x i).name = (wkOf x j).name) : i = j := by
 rw [wkOf_get (List.getElem?_eq_getElem hi), wkOf_get (List.getElem?_eq_getElem hj)] at e
 exact rise_inj (f := Worker.name) h.wkr (List.getElem?_eq_getElem hi) (List.getElem?_eq_getElem hj) e
theorem worksErr_word : ∀ (l : List Work) (p : Option ByteArray), worksErr p l = 0 → ∀ x ∈ l, wordB x.id_ = true
 | [], _, _, x, hx => by cases hx
 | y :: l, p, h, x, hx => by
  unfold worksErr at h
  by_cases h1 : workF y = 0
  ·rw [if_pos h1] at h
   by_cases h2 : p.map (sle y.id_ ·) = some true
   ·rw [if_pos h2] at h; exact absurd h (by decide)
   ·rw [if_neg h2] at h
    rcases List.mem_cons.1 hx with rfl | hx
    ·unfold workF at h1
     by_cases h3 : wordB x.id_ = true
     ·exact h3
     ·rw [if_neg h3] at h1; exact absurd h1 (by decide)
    ·exact worksErr_word l _ h x hx
  ·rw [if_neg h1] at h; exact absurd h h1
theorem farm_words {x : Farm} (h : farmF x = 0) : (∀ w ∈ x.workers.l, wordB w.name = true) ∧ ∀ w ∈ x.works.l, wordB w.id_ = true := by
 have hok := farmOk_of h
 refine ⟨fun w hw => ?_, ?_⟩
 ·have := hok.wk w hw
  unfold workerF at this
  by_cases h3 : wordB w.name = true
  ·exact h3
  ·rw [if_neg h3] at this; exact absurd this (by decide)
 ·unfold farmF at h
  by_cases h1 : workersF x.workers.l = 0
  ·rw [if_pos h1] at h
   by_cases h2 : worksF x.works.l = 0
   ·unfold worksF at h2
    by_cases h3 : x.works.l.length ≤ 200
    ·rw [if_pos h3] at h2
     by_cases h4 : worksErr none x.works.l = 0
     ·exact worksErr_word _ _ h4
     ·rw [if_neg h4] at h2; exact absurd h2 h4
    ·rw [if_neg h3] at h2; exact absurd h2 (by decide)
   ·rw [if_neg h2] at h; exact absurd h h2
  ·rw [if_neg h1] at h; exact absurd h h1
theorem runLt_of {a b : Run} (h : runCmp a b ≤ 0) (hne : ¬ (a.from_ = b.from_ ∧ a.id_ = b.id_ ∧ a.worker = b.worker)) : runLt a b = true := by
 rw [runCmp_eq] at h
 unfold runLt
 by_cases h1 : a.from_ = b.from_
 ·rw [if_pos h1] at h ⊢
  by_cases h2 : a.id_ = b.id_
  ·rw [if_pos h2] at h ⊢
   rw [ltS_cmp]
   have := cmpS_range a.worker b.worker
   have h3 : cmpS a.worker b.worker ≠ 0 := fun e => hne ⟨h1, h2, (cmpS_zero _ _).1 e⟩
   exact decide_eq_true (by omega)
  ·rw [if_neg h2] at h ⊢
   rw [ltS_cmp]
   have := cmpS_range a.id_ b.id_
   have h3 : cmpS a.id_ b.id_ ≠ 0 := fun e => h2 ((cmpS_zero _ _).1 e)
   exact decide_eq_true (by omega)
 ·rw [if_neg h1] at h ⊢
  by_cases h2 : a.from_ < b.from_
  ·exact decide_eq_true h2
  ·rw [if_neg h2] at h; omega
theorem runsErr_zero : ∀ (l : List Run) (p : Option Run), (∀ r ∈ l, (wordB r.id_ = true ∧ wordB r.worker = true) ∧ (inR 0 1000000000 r.from_ = true ∧ inR 0 1000000000 r.to_ = true) ∧ ¬ r.to_ < r.from_ ∧ inR 1 3 r.end_ = true) → (l.Pairwise fun a b => runLt a b = true) → (∀ q, p = some q → ∀ r ∈ l, runLt q r = true) → runsErr p l = 0
 | [], _, _, _, _ => rfl
 | r :: l, p, h1, h2, h3 => by
  obtain ⟨a, b, c, d⟩ := h1 r List.mem_cons_self
  obtain ⟨e, f⟩ := List.pairwise_cons.1 h2
  unfold runsErr
  rw [if_pos a, if_pos b, if_neg c, if_pos d, if_neg]
  ·exact runsErr_zero l _ (fun s hs => h1 s (List.mem_cons_of_mem _ hs)) f (fun q hq s hs => by injection hq with hq; subst hq; exact e s hs)
  ·cases p with
   | none => simp
   | some q => rw [Option.map_some, h3 q rfl r List.mem_cons_self]; simp
theorem len_runs {F : FP} (hF : FFine F) {q : QS} (h : Inv F q.at_ (q.at_ + 1) q) : ((q.runs.length : Nat) : Int) ≤ F.nX * (F.tries + 1) := by
 have ht := hF.tri
 have := cnt_len (m := (F.tries + 1).toNat) F.nX q.runs (fun r hr => (h.named r hr).2) (fun k => by have := h.cnt k; omega)
 have h2 : ((F.nX * (F.tries + 1).toNat : Nat) : Int) = F.nX * (F.tries + 1) := by rw [Int.natCast_mul, Int.toNat_of_nonneg (by omega)]
 omega
/-- what the runs of a right farm are -/
structure Done (x : Farm) (q : QS) (L : List RR) : Prop where
 ok : farmF x = 0
 fin : FinQ (fpx x) q
 fine : FFine (fpx x)
 perm : L.Perm q.runs
 sort : L.Pairwise fun a b => runCmp (toRun x a) (toRun x b) ≤ 0
section
variable {x : Farm} {q : QS} {L : List RR}
theorem Done.mem (h : Done x q L) {r : RR} (hr : r ∈ L) : r ∈ q.runs := h.perm.mem_iff.1 hr
theorem Done.lt (h : Done x q L) {r : RR} (hr : r ∈ L) : r.worker < x.workers.l.length ∧ r.work < x.works.l.length := h.fin.inv.named r (h.mem hr)
theorem Done.len (h : Done x q L) : L.length ≤ 2200 := by
 have hok := farmOk_of h.ok
 have h1 := len_runs h.fine h.fin.inv
 have h2 : ((fpx x).nX : Int) ≤ 200 := by have : (fpx x).nX = x.works.l.length := rfl; have := hok.wo.len; omega
 have h3 : (fpx x).tries ≤ 10 := hok.tri.2
 have h4 : 1 ≤ (fpx x).tries := hok.tri.1
 have h5 : ((fpx x).nX : Int) * ((fpx x).tries + 1) ≤ 200 * 11 := Int.mul_le_mul h2 (by omega) (by omega) (by omega)
 have := h.perm.length_eq
 omega
theorem Done.ends (h : Done x q L) {r : RR} (hr : r ∈ L) : (wkOf x r.worker).from_ ≤ r.from_ ∧ 0 ≤ r.from_ ∧ r.from_ < r.to_ ∧ r.to_ ≤ (wkOf x r.worker).to_ ∧ r.to_ ≤ 1000000000 ∧ 1 ≤ r.end_ ∧ r.end_ ≤ 3 ∧ fitF (woOf x r.work).needs.l (wkOf x r.worker).has.l = true := by
 have hm := h.mem hr
 obtain ⟨a1, a2, a3, a4, a5⟩ := h.fin.inv.en r hm (h.fin.ended r hm)
 obtain ⟨b1, b2, b3, b4⟩ := h.fin.inv.fr r hm
 have hlt := (h.lt hr).1
 have c : (wkOf x r.worker).to_ ≤ 1000000000 := by
  rw [wkOf_get (List.getElem?_eq_getElem hlt)]
  exact (worker_times ((farmOk_of h.ok).wk _ (List.getElem_mem hlt))).2.2.2
 have a3' : r.to_ ≤ (wkOf x r.worker).to_ := a3
 exact ⟨b1, b2, a1, a3', by omega, a4, a5, b4⟩
theorem Done.lt_run (h : Done x q L) : (L.map (toRun x)).Pairwise fun a b => runLt a b = true := by
 rw [List.pairwise_map]
 have hd : L.Pairwise fun a b => ¬ (a.from_ = b.from_ ∧ a.work = b.work ∧ a.worker = b.worker) :=
  (h.perm.pairwise_iff (fun {a b} hab e => hab ⟨e.1.symm, e.2.1.symm, e.2.2.symm⟩)).2 h.fin.inv.dis
 have hall : L.Pairwise fun a b => runCmp (toRun x a) (toRun x b) ≤ 0 ∧ ¬ (a.from_ = b.from_ ∧ a.work = b.work ∧ a.worker = b.worker) := List.Pairwise.and h.sort hd
 refine List.Pairwise.imp_of_mem (fun {a b} ha hb hc => ?_) hall
 have hok := farmOk_of h.ok
 exact runLt_of hc.1 (fun e => hc.2 ⟨e.1, idInj hok (h.lt ha).2 (h.lt hb).2 e.2.1, nmInj hok (h.lt ha).1 (h.lt hb).1 e.2.2⟩)
theorem Done.runs (h : Done x q L) : runsF (L.map (toRun x)) = 0 := by
 have hl := h.len
 unfold runsF
 rw [if_pos (by rw [List.length_map]; omega)]
 refine runsErr_zero _ _ (fun r hr => ?_) h.lt_run (fun q hq => by cases hq)
 obtain ⟨s, hs, rfl⟩ := List.mem_map.1 hr
 obtain ⟨a1, a2, a3, a4, a5, a6, a7, a8⟩ := h.ends hs
 obtain ⟨w1, w2⟩ := farm_words h.ok
 obtain ⟨l1, l2⟩ := h.lt hs
 refine ⟨⟨?_, ?_⟩, ⟨?_, ?_⟩, ?_, ?_⟩
 ·show wordB (woOf x s.work).id_ = true
  rw [woOf_get (List.getElem?_eq_getElem l2)]
  exact w2 _ (List.getElem_mem l2)
 ·show wordB (wkOf x s.worker).name = true
  rw [wkOf_get (List.getElem?_eq_getElem l1)]
  exact w1 _ (List.getElem_mem l1)
 ·show inR 0 1000000000 s.from_ = true
  simp only [inR, Bool.and_eq_true, decide_eq_true_eq]; omega
 ·show inR 0 1000000000 s.to_ = true
  simp only [inR, Bool.and_eq_true, decide_eq_true_eq]; omega
 ·show ¬ s.to_ < s.from_
  omega
 ·show inR 1 3 s.end_ = true
  simp only [inR, Bool.and_eq_true, decide_eq_true_eq]; omega
end
theorem wo_ix {x : Farm} (hok : FarmOk x) {i : Nat} (hi : i < x.works.l.length) : ixOf x.works.l (woOf x i).id_ = i ∧ hasId x.works.l (woOf x i).id_ = true := by
 rw [woOf_get (List.getElem?_eq_getElem hi)]
 exact ixOf_eq hok.wo.rise (List.getElem?_eq_getElem hi)
end Go.Proofs.YtbnkoefljcekbaaGreatDoor.C9
