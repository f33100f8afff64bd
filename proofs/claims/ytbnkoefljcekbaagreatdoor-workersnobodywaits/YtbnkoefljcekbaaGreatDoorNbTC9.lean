/-
 Several texts of mine as one, without what is not wanted here: XCheckRuns, XRunsD, XPlayW, XWtD.
-/
import Derived.Test.YtbnkoefljcekbaaGreatDoorNbEC9
import Derived.Test.YtbnkoefljcekbaaGreatDoorNbBC9
import Derived.IntWalk
import Derived.Test.YtbnkoefljcekbaaGreatDoorNbSC9
import Derived.Test.YtbnkoefljcekbaaGreatDoorNbGh
import Derived.Test.YtbnkoefljcekbaaGreatDoorNbDC9
import Derived.Test.YtbnkoefljcekbaaGreatDoorNbIC9
namespace Go.Proofs.YtbnkoefljcekbaaGreatDoor.C9
open Go.RowKit
set_option linter.unusedVariables false

def runsErr : Option Run → List Run → Int
 | _, [] => 0
 | p, r :: s => if wordB r.id_ = true ∧ wordB r.worker = true then (if inR 0 1000000000 r.from_ = true ∧ inR 0 1000000000 r.to_ = true then (if r.to_ < r.from_ then 8 else if inR 1 3 r.end_ = true then (if p.map (fun q => runLt q r) = some false then 8 else runsErr (some r) s) else 4) else 1) else 5
def prevRun (l : List Run) (k : Nat) : Option Run := if k = 0 then none else l[k - 1]?
def runsF (l : List Run) : Int := if l.length ≤ 4000 then runsErr none l else 2
def RunsRel (l : List Run) (c : Int) (w0 : World) (i : Value) (wr : World) : Prop :=
 ∃ k : Nat, k ≤ l.length ∧ i = .int .i64 k ∧ runsErr (prevRun l k) (l.drop k) = c ∧ Below w0.heap.size w0 wr

theorem five_below {w w' : World} {a0 a1 a2 a3 a4 : Addr} {v0 v1 v2 v3 v4 : Value} (hb : Below w.heap.size w w') (h : w.cell? a0 = some v0 ∧ w.cell? a1 = some v1 ∧ w.cell? a2 = some v2 ∧ w.cell? a3 = some v3 ∧ w.cell? a4 = some v4) :
  w'.cell? a0 = some v0 ∧ w'.cell? a1 = some v1 ∧ w'.cell? a2 = some v2 ∧ w'.cell? a3 = some v3 ∧ w'.cell? a4 = some v4 :=
 ⟨(hb.cell (cell?_lt h.1)).trans h.1, (hb.cell (cell?_lt h.2.1)).trans h.2.1, (hb.cell (cell?_lt h.2.2.1)).trans h.2.2.1, (hb.cell (cell?_lt h.2.2.2.1)).trans h.2.2.2.1, (hb.cell (cell?_lt h.2.2.2.2)).trans h.2.2.2.2⟩
theorem ten_below {w w' : World} {a0 a1 a2 a3 a4 a5 a6 a7 a8 a9 : Addr} {v0 v1 v2 v3 v4 v5 v6 v7 v8 v9 : Value} (hb : Below w.heap.size w w') (h : w.cell? a0 = some v0 ∧ w.cell? a1 = some v1 ∧ w.cell? a2 = some v2 ∧ w.cell? a3 = some v3 ∧ w.cell? a4 = some v4 ∧ w.cell? a5 = some v5 ∧ w.cell? a6 = some v6 ∧ w.cell? a7 = some v7 ∧ w.cell? a8 = some v8 ∧ w.cell? a9 = some v9) :
  w'.cell? a0 = some v0 ∧ w'.cell? a1 = some v1 ∧ w'.cell? a2 = some v2 ∧ w'.cell? a3 = some v3 ∧ w'.cell? a4 = some v4 ∧ w'.cell? a5 = some v5 ∧ w'.cell? a6 = some v6 ∧ w'.cell? a7 = some v7 ∧ w'.cell? a8 = some v8 ∧ w'.cell? a9 = some v9 := by
 obtain ⟨h0, h1, h2, h3, h4, h5⟩ := h
 obtain ⟨g0, g1, g2, g3, g4⟩ := five_below hb h5
 exact ⟨(hb.cell (cell?_lt h0)).trans h0, (hb.cell (cell?_lt h1)).trans h1, (hb.cell (cell?_lt h2)).trans h2, (hb.cell (cell?_lt h3)).trans h3, (hb.cell (cell?_lt h4)).trans h4, g0, g1, g2, g3, g4⟩

set_option maxRecDepth 100000 in
set_option maxHeartbeats 2000000 in
theorem runs_ok (A : Option Addr) (len cap : Nat) (l : List Run) (w : World) (hlen : len ≤ 4000) (hl : SlAt RRun w A len l) (c : Int) (hF : runsErr none l = c) :
  Calls Tryz.prog 26 #[.slice A len cap] w fun e w' => e = .returned (.int .i64 c) ∧ Below w.heap.size w w' := by
 have hll := hl.1
 have hllH := Lib.hid hll; have hFH := Lib.hid hF; have hlH := Lib.hid hl; clear hll hF hl
 go_enter Tryz.func26, Tryz.ntmps26
 go_wp2
 go_loopw [10] (fun i wr => RunsRel l c w i wr) (fun i _ => len - (intOf i).toNat)
 case atStart => exact ⟨0, Nat.zero_le _, rfl, hFH.out, Below.refl _ _⟩
 case round =>
  obtain ⟨k, hk, rfl, hck, hb⟩ := hrel
  have hkl : k ≤ len := by have := hllH.out; omega
  have hbs := hb.size
  by_cases hlt : k < len
  ·obtain ⟨b, off, hA, _⟩ := hlH.out.2.1 (by omega)
   subst hA
   obtain ⟨x, hx⟩ : ∃ x, l[k]? = some x := ⟨l[k]'(by have := hllH.out; omega), List.getElem?_eq_getElem _⟩
   obtain ⟨c0, c1, c2, c3, c4⟩ := cells_Run (hlH.out.below hb) hx
   obtain ⟨o0, o1, _⟩ := hlH.out.2.2 x (List.mem_of_getElem? hx)
   have hkl2 : k + 1 ≤ l.length := by have := hllH.out; omega
   have hpn : prevRun l (k + 1) = some x := by rw [prevRun, if_neg (by omega), show k + 1 - 1 = k from rfl, hx]
   rw [drop_cons hx, runsErr] at hck
   obtain ⟨id, wk, fr, tz, en⟩ := x
   simp only at c0 c1 c2 c3 c4 hck o0 o1
   obtain ⟨b1, hb1⟩ : ∃ b, wordB id = b := ⟨_, rfl⟩
   obtain ⟨b2, hb2⟩ : ∃ b, wordB wk = b := ⟨_, rfl⟩
   have hba := hb.alloc hbs (.cells #[.string id, .string wk, .int .i64 fr, .int .i64 tz, .int .i64 en] 34)
   have hbas := hba.size
   have hxH := Lib.hid hx; have hbH := Lib.hid hb; have hbaH := Lib.hid hba; have hbasH := Lib.hid hbas; have o0H := Lib.hid o0; have o1H := Lib.hid o1; have hb1H := Lib.hid hb1; have hb2H := Lib.hid hb2; have hpnH := Lib.hid hpn; have hckH := Lib.hid hck; have hkl2H := Lib.hid hkl2; clear hx hb hba hbas o0 o1 hb1 hb2 hpn hck hkl2
   go_wp2_with fail
   refine (word_any id b1 _ o0H.out hb1H.out).mono ?_
   rintro e w1 ⟨rfl, hw1⟩
   obtain ⟨q0, q1, q2, q3, q4⟩ := five_below hw1 ⟨cell_new _ _ _ 0, cell_new _ _ _ 1, cell_new _ _ _ 2, cell_new _ _ _ 3, cell_new _ _ _ 4⟩
   have hbw1 := hbaH.out.trans (hw1.mono hbasH.out)
   clear c0 c1 c2 c3 c4
   have hw1H := Lib.hid hw1; have hbw1H := Lib.hid hbw1; clear hw1 hbw1
   cases b1
   ·have hck := hckH.out
    clear hckH
    rw [if_neg (by rw [hb1H.out]; simp)] at hck
    clear q0 q1 q2 q3 q4
    have hckH := Lib.hid hck; clear hck
    go_wp2
    go_ret
    exact ⟨ret1_int hckH.out, hbw1H.out⟩
   ·go_wp2_with fail
    refine (word_any wk b2 _ o1H.out hb2H.out).mono ?_
    rintro e w2 ⟨rfl, hw2⟩
    obtain ⟨q0, q1, q2, q3, q4⟩ := five_below hw2 ⟨q0, q1, q2, q3, q4⟩
    have hbw2 := hbw1H.out.trans (hw2.mono hbw1H.out.size)
    have hw2H := Lib.hid hw2; have hbw2H := Lib.hid hbw2; clear hw2 hbw2
    cases b2
    ·have hck := hckH.out
     clear hckH
     rw [if_neg (by rw [hb2H.out]; simp)] at hck
     clear q0 q1 q2 q3 q4
     have hckH := Lib.hid hck; clear hck
     go_wp2
     go_ret
     exact ⟨ret1_int hckH.out, hbw2H.out⟩
    ·have hck := hckH.out
     clear hckH
     rw [if_pos ⟨hb1H.out, hb2H.out⟩] at hck
     by_cases i2 : inR 0 1000000000 fr = true
     ·by_cases i3 : inR 0 1000000000 tz = true
      ·rw [if_pos ⟨i2, i3⟩] at hck
       by_cases hle : tz < fr
       ·rw [if_pos hle] at hck
        have hckH := Lib.hid hck; clear hck
        go_wp2_with (first | (go_at_call 43; refine (within_p _ _ _ _).mono ?_; rintro e wz ⟨rfl, rfl⟩) | (go_at_call 39; refine (moment_p _ _).mono ?_; rintro e wz ⟨rfl, rfl⟩))
        go_ret
        exact ⟨ret1_int hckH.out, hbw2H.out⟩
       ·rw [if_neg hle] at hck
        have hle2 : decide (tz < fr) = false := decide_eq_false hle
        by_cases i4 : inR 1 3 en = true
        ·rw [if_pos i4] at hck
         by_cases hk0 : k = 0
         ·subst hk0
          have R : ∀ nq, RunsRel l c w (.int .i64 1) (w2.drewN nq) := by
           refine fun nq => ⟨1, hkl2H.out, by go_num, ?_, bel_drewN hbw2H.out nq⟩
           rw [prevRun, if_pos rfl, Option.map_none, if_neg (by decide)] at hck
           rw [show prevRun l 1 = _ from hpnH.out]
           exact hck
          have RH := Lib.hid R; have hckH := Lib.hid hck; clear R hck
          go_wp2_with (first | (go_at_call 43; refine (within_p _ _ _ _).mono ?_; rintro e wz ⟨rfl, rfl⟩) | (go_at_call 39; refine (moment_p _ _).mono ?_; rintro e wz ⟨rfl, rfl⟩))
          go_quiet (fail)
          go_wp2
          refine ⟨?rel, ?measure⟩
          case measure => (simp [intOf]; omega)
          case rel => first | exact (RH.out _) | exact ⟨rfl, (RH.out _)⟩ | ((try refine ⟨rfl, ?_⟩); (repeat apply Exists.intro); refine ⟨(RH.out _), ?_⟩; ((repeat' apply And.intro) <;> rfl))
         ·obtain ⟨j, rfl⟩ : ∃ j, k = j + 1 := ⟨k - 1, by omega⟩
          obtain ⟨y, hy⟩ : ∃ y, l[j]? = some y := ⟨l[j]'(by have := hllH.out; omega), List.getElem?_eq_getElem _⟩
          obtain ⟨d0, d1, d2, d3, d4⟩ := cells_Run (hlH.out.below hbw2H.out) hy
          have hpr : prevRun l (j + 1) = some y := by rw [prevRun, if_neg (by omega), show j + 1 - 1 = j from rfl, hy]
          rw [hpr, Option.map_some] at hck
          clear hpr
          have hyH := Lib.hid hy; clear hy
          have f0 : (0 : Int) ≤ (j : Int) := by omega
          have f1 : (j : Int) < (len : Int) := by omega
          have f2 : IntKind.i64.wrap ((j : Int) + 1 - 1) = (j : Int) := by rw [show (j : Int) + 1 - 1 = (j : Int) by omega]; exact IntWalk.i64_in _ (by omega)
          have f3 : (j : Int).toNat = j := by omega
          have f4 : IntKind.i64.wrap (j : Int) = (j : Int) := IntWalk.i64_in _ (by omega)
          have f5 : IntKind.i64.wrap (((j + 1 : Nat) : Int) - 1) = (j : Int) := by rw [show ((j + 1 : Nat) : Int) - 1 = (j : Int) by omega]; exact f4
          have R0 : runsErr (some ⟨id, wk, fr, tz, en⟩) (l.drop (j + 1 + 1)) = c → ∀ wx, Below w.heap.size w wx → RunsRel l c w (.int .i64 (j + 1 + 1)) wx := by
           refine fun hc wx hbx => ⟨j + 1 + 1, hkl2H.out, by go_num, ?_, hbx⟩
           rw [hpnH.out]
           exact hc
          cases hlt3 : runLt y ⟨id, wk, fr, tz, en⟩
          ·obtain ⟨cc, hcc⟩ : ∃ cc, runCmp ⟨id, wk, fr, tz, en⟩ y = cc := ⟨_, rfl⟩
           have hcc0 : cc ≤ 0 := by rw [← hcc]; exact runCmp_le hlt3
           rw [hlt3, if_pos rfl] at hck
           clear R0
           have hckH := Lib.hid hck; have hccH := Lib.hid hcc; have hlt3H := Lib.hid hlt3; clear hck hcc hlt3
           go_wp2_with (first | (go_at_call 43; refine (within_p _ _ _ _).mono ?_; rintro e wz ⟨rfl, rfl⟩) | (go_at_call 39; refine (moment_p _ _).mono ?_; rintro e wz ⟨rfl, rfl⟩))
           go_region_held3 (fun w' => w'.cell? ⟨wr.heap.size, 0, none⟩ = some (.string id) ∧ w'.cell? ⟨wr.heap.size, 1, none⟩ = some (.string wk) ∧ w'.cell? ⟨wr.heap.size, 2, none⟩ = some (.int .i64 fr) ∧ w'.cell? ⟨wr.heap.size, 3, none⟩ = some (.int .i64 tz) ∧ w'.cell? ⟨wr.heap.size, 4, none⟩ = some (.int .i64 en) ∧ w'.cell? ⟨b, off + j * 5, none⟩ = some (.string y.id_) ∧ w'.cell? ⟨b, off + j * 5 + 1, none⟩ = some (.string y.worker) ∧ w'.cell? ⟨b, off + j * 5 + 2, none⟩ = some (.int .i64 y.from_) ∧ w'.cell? ⟨b, off + j * 5 + 3, none⟩ = some (.int .i64 y.to_) ∧ w'.cell? ⟨b, off + j * 5 + 4, none⟩ = some (.int .i64 y.end_)) (first | go_keep | exact ten_below (by assumption) (by assumption))
            (first | (go_at_call 59; refine (compareRuns_any ⟨id, wk, fr, tz, en⟩ y _ cc (by exact hccH.out)).mono ?_; rintro e w3 ⟨rfl, hw3⟩))
           go_wp2
           go_ret
           exact ⟨ret1_int hckH.out, hbw2H.out.drew.trans (Below.mono hw3 hbw2H.out.drew.size)⟩
          ·obtain ⟨cc, hcc⟩ : ∃ cc, runCmp ⟨id, wk, fr, tz, en⟩ y = cc := ⟨_, rfl⟩
           have hcc0 : 0 < cc := by rw [← hcc]; exact runCmp_gt hlt3
           have hcc1 : decide (cc ≤ 0) = false := decide_eq_false (by omega)
           rw [hlt3, if_neg (by decide)] at hck
           have R := R0 hck
           clear R0
           have hckH := Lib.hid hck; have hccH := Lib.hid hcc; have hlt3H := Lib.hid hlt3; have RH := Lib.hid R; clear hck hcc hlt3 R
           go_wp2_with (first | (go_at_call 43; refine (within_p _ _ _ _).mono ?_; rintro e wz ⟨rfl, rfl⟩) | (go_at_call 39; refine (moment_p _ _).mono ?_; rintro e wz ⟨rfl, rfl⟩))
           go_region_held3 (fun w' => w'.cell? ⟨wr.heap.size, 0, none⟩ = some (.string id) ∧ w'.cell? ⟨wr.heap.size, 1, none⟩ = some (.string wk) ∧ w'.cell? ⟨wr.heap.size, 2, none⟩ = some (.int .i64 fr) ∧ w'.cell? ⟨wr.heap.size, 3, none⟩ = some (.int .i64 tz) ∧ w'.cell? ⟨wr.heap.size, 4, none⟩ = some (.int .i64 en) ∧ w'.cell? ⟨b, off + j * 5, none⟩ = some (.string y.id_) ∧ w'.cell? ⟨b, off + j * 5 + 1, none⟩ = some (.string y.worker) ∧ w'.cell? ⟨b, off + j * 5 + 2, none⟩ = some (.int .i64 y.from_) ∧ w'.cell? ⟨b, off + j * 5 + 3, none⟩ = some (.int .i64 y.to_) ∧ w'.cell? ⟨b, off + j * 5 + 4, none⟩ = some (.int .i64 y.end_)) (first | go_keep | exact ten_below (by assumption) (by assumption))
            (first | (go_at_call 59; refine (compareRuns_any ⟨id, wk, fr, tz, en⟩ y _ cc (by exact hccH.out)).mono ?_; rintro e w3 ⟨rfl, hw3⟩))
           go_wp2
           have R3 := RH.out w3 (hbw2H.out.drew.trans (Below.mono hw3 hbw2H.out.drew.size))
           refine ⟨?rel, ?measure⟩
           case measure => (simp [intOf]; omega)
           case rel => first | exact R3 | exact ⟨rfl, R3⟩ | ((try refine ⟨rfl, ?_⟩); (repeat apply Exists.intro); refine ⟨R3, ?_⟩; ((repeat' apply And.intro) <;> rfl))
        ·rw [if_neg i4] at hck
         have i4 : inR 1 3 en = false := by simpa using i4
         have hckH := Lib.hid hck; clear hck
         go_wp2_with (first | (go_at_call 43; refine (within_p _ _ _ _).mono ?_; rintro e wz ⟨rfl, rfl⟩) | (go_at_call 39; refine (moment_p _ _).mono ?_; rintro e wz ⟨rfl, rfl⟩))
         go_ret
         exact ⟨ret1_int hckH.out, hbw2H.out⟩
      ·rw [if_neg (fun h => i3 h.2)] at hck
       have i3 : inR 0 1000000000 tz = false := by simpa using i3
       have hckH := Lib.hid hck; clear hck
       go_wp2_with (first | (go_at_call 43; refine (within_p _ _ _ _).mono ?_; rintro e wz ⟨rfl, rfl⟩) | (go_at_call 39; refine (moment_p _ _).mono ?_; rintro e wz ⟨rfl, rfl⟩))
       go_ret
       exact ⟨ret1_int hckH.out, hbw2H.out⟩
     ·rw [if_neg (fun h => i2 h.1)] at hck
      have i2 : inR 0 1000000000 fr = false := by simpa using i2
      have hckH := Lib.hid hck; clear hck
      go_wp2_with (first | (go_at_call 43; refine (within_p _ _ _ _).mono ?_; rintro e wz ⟨rfl, rfl⟩) | (go_at_call 39; refine (moment_p _ _).mono ?_; rintro e wz ⟨rfl, rfl⟩))
      go_ret
      exact ⟨ret1_int hckH.out, hbw2H.out⟩
  ·have e : l.drop k = [] := List.drop_eq_nil_of_le (by have := hllH.out; omega)
   rw [e] at hck
   have hc0 : 0 = c := by rw [← hck]; unfold runsErr; rfl
   have hckH := Lib.hid hck; have hbH := Lib.hid hb; have eH := Lib.hid e; have hc0H := Lib.hid hc0; clear hck hb e hc0
   go_wp2
   go_ret
   exact ⟨ret1_int hc0H.out, hbH.out⟩

theorem runs_any (A : Option Addr) (len cap : Nat) (l : List Run) (w : World) (hl : SlAt RRun w A len l) (c : Int) (hF : runsF l = c) :
  Calls Tryz.prog 26 #[.slice A len cap] w fun e w' => e = .returned (.int .i64 c) ∧ Below w.heap.size w w' := by
 unfold runsF at hF
 rw [hl.1] at hF
 by_cases h : len ≤ 4000
 ·rw [if_pos h] at hF
  exact runs_ok A len cap l w h hl c hF
 ·rw [if_neg h] at hF
  subst hF
  clear hl
  go_enter Tryz.func26, Tryz.ntmps26
  go_wp2
  go_ret
  exact ⟨rfl, Below.refl _ _⟩
end Go.Proofs.YtbnkoefljcekbaaGreatDoor.C9

namespace Go.Proofs.YtbnkoefljcekbaaGreatDoor.C9
open Go.ChangeShapes Go.WideShapes Go.Deep Go.RowKit Go.Maps
set_option linter.unusedVariables false
set_option linter.unusedSimpArgs false

theorem rise_inj {α : Type} {f : α → ByteArray} {l : List α} (hr : l.Pairwise fun a b => cmpS (f a) (f b) = -1) {i j : Nat} {a b : α} (hi : l[i]? = some a) (hj : l[j]? = some b) (e : f a = f b) : i = j := by
 obtain ⟨hi1, hi2⟩ := List.getElem?_eq_some_iff.1 hi
 obtain ⟨hj1, hj2⟩ := List.getElem?_eq_some_iff.1 hj
 have hp := List.pairwise_iff_getElem.1 hr
 have z : ∀ s : ByteArray, cmpS s s = 0 := fun s => (cmpS_zero s s).2 rfl
 rcases Nat.lt_trichotomy i j with h | h | h
 ·have := hp _ _ hi1 hj1 h
  rw [hi2, hj2, e, z] at this; cases this
 ·exact h
 ·have := hp _ _ hj1 hi1 h
  rw [hi2, hj2, e, z] at this; cases this
theorem idInj {x : Farm} (h : FarmOk x) {i j : Nat} (hi : i < x.works.l.length) (hj : j < x.works.l.length) (e : (woOf x i).id_ = (woOf x j).id_) : i = j := by
 rw [woOf_get (List.getElem?_eq_getElem hi), woOf_get (List.getElem?_eq_getElem hj)] at e
 exact rise_inj (f := Work.id_) h.wo.rise (List.getElem?_eq_getElem hi) (List.getElem?_eq_getElem hj) e
theorem nmInj {x : Farm} (h : FarmOk x) {i j : Nat} (hi : i < x.workers.l.length) (hj : j < x.workers.l.length) (e : (wkOf x i).name = (wkOf x j).name) : i = j := by
 rw [wkOf_get (List.getElem?_eq_getElem hi), wkOf_get (List.getElem?_eq_getElem hj)] at e
 exact rise_inj (f := Worker.name) h.wkr (List.getElem?_eq_getElem hi) (List.getElem?_eq_getElem hj) e
theorem worksErr_word : ∀ (l : List Work) (p : Option ByteArray), worksErr p l = 0 → ∀ x ∈ l, wordB x.id_ = true
 | [], _, _, x, hx => by cases hx
 | y :: l, p, h, x, hx => by
  unfold worksErr at h
  by_cases h1 : workF y = 0
  ·rw [if_pos h1] at h
   by_cases h2 : p.map (sle y.id_ ·) = some true
   ·rw [if_pos h2] at h; exact absurd h (by decide)
   ·rw [if_neg h2] at h
    rcases List.mem_cons.1 hx with rfl | hx
    ·unfold workF at h1
     by_cases h3 : wordB x.id_ = true
     ·exact h3
     ·rw [if_neg h3] at h1; exact absurd h1 (by decide)
    ·exact worksErr_word l _ h x hx
  ·rw [if_neg h1] at h; exact absurd h h1
theorem farm_words {x : Farm} (h : farmF x = 0) : (∀ w ∈ x.workers.l, wordB w.name = true) ∧ ∀ w ∈ x.works.l, wordB w.id_ = true := by
 have hok := farmOk_of h
 refine ⟨fun w hw => ?_, ?_⟩
 ·have := hok.wk w hw
  unfold workerF at this
  by_cases h3 : wordB w.name = true
  ·exact h3
  ·rw [if_neg h3] at this; exact absurd this (by decide)
 ·unfold farmF at h
  by_cases h1 : workersF x.workers.l = 0
  ·rw [if_pos h1] at h
   by_cases h2 : worksF x.works.l = 0
   ·unfold worksF at h2
    by_cases h3 : x.works.l.length ≤ 200
    ·rw [if_pos h3] at h2
     by_cases h4 : worksErr none x.works.l = 0
     ·exact worksErr_word _ _ h4
     ·rw [if_neg h4] at h2; exact absurd h2 h4
    ·rw [if_neg h3] at h2; exact absurd h2 (by decide)
   ·rw [if_neg h2] at h; exact absurd h h2
  ·rw [if_neg h1] at h; exact absurd h h1
theorem runLt_of {a b : Run} (h : runCmp a b ≤ 0) (hne : ¬ (a.from_ = b.from_ ∧ a.id_ = b.id_ ∧ a.worker = b.worker)) : runLt a b = true := by
 rw [runCmp_eq] at h
 unfold runLt
 by_cases h1 : a.from_ = b.from_
 ·rw [if_pos h1] at h ⊢
  by_cases h2 : a.id_ = b.id_
  ·rw [if_pos h2] at h ⊢
   rw [ltS_cmp]
   have := cmpS_range a.worker b.worker
   have h3 : cmpS a.worker b.worker ≠ 0 := fun e => hne ⟨h1, h2, (cmpS_zero _ _).1 e⟩
   exact decide_eq_true (by omega)
  ·rw [if_neg h2] at h ⊢
   rw [ltS_cmp]
   have := cmpS_range a.id_ b.id_
   have h3 : cmpS a.id_ b.id_ ≠ 0 := fun e => h2 ((cmpS_zero _ _).1 e)
   exact decide_eq_true (by omega)
 ·rw [if_neg h1] at h ⊢
  by_cases h2 : a.from_ < b.from_
  ·exact decide_eq_true h2
  ·rw [if_neg h2] at h; omega
theorem runsErr_zero : ∀ (l : List Run) (p : Option Run), (∀ r ∈ l, (wordB r.id_ = true ∧ wordB r.worker = true) ∧ (inR 0 1000000000 r.from_ = true ∧ inR 0 1000000000 r.to_ = true) ∧ ¬ r.to_ < r.from_ ∧ inR 1 3 r.end_ = true) → (l.Pairwise fun a b => runLt a b = true) → (∀ q, p = some q → ∀ r ∈ l, runLt q r = true) → runsErr p l = 0
 | [], _, _, _, _ => rfl
 | r :: l, p, h1, h2, h3 => by
  obtain ⟨a, b, c, d⟩ := h1 r List.mem_cons_self
  obtain ⟨e, f⟩ := List.pairwise_cons.1 h2
  unfold runsErr
  rw [if_pos a, if_pos b, if_neg c, if_pos d, if_neg]
  ·exact runsErr_zero l _ (fun s hs => h1 s (List.mem_cons_of_mem _ hs)) f (fun q hq s hs => by injection hq with hq; subst hq; exact e s hs)
  ·cases p with
   | none => simp
   | some q => rw [Option.map_some, h3 q rfl r List.mem_cons_self]; simp
theorem len_runs {F : FP} (hF : FFine F) {q : QS} (h : Inv F q.at_ (q.at_ + 1) q) : ((q.runs.length : Nat) : Int) ≤ F.nX * (F.tries + 1) := by
 have ht := hF.tri
 have := cnt_len (m := (F.tries + 1).toNat) F.nX q.runs (fun r hr => (h.named r hr).2) (fun k => by have := h.cnt k; omega)
 have h2 : ((F.nX * (F.tries + 1).toNat : Nat) : Int) = F.nX * (F.tries + 1) := by rw [Int.natCast_mul, Int.toNat_of_nonneg (by omega)]
 omega
/-- what the runs of a right farm are -/
structure Done (x : Farm) (q : QS) (L : List RR) : Prop where
 ok : farmF x = 0
 fin : FinQ (fpx x) q
 fine : FFine (fpx x)
 perm : L.Perm q.runs
 sort : L.Pairwise fun a b => runCmp (toRun x a) (toRun x b) ≤ 0
section
variable {x : Farm} {q : QS} {L : List RR}
theorem Done.mem (h : Done x q L) {r : RR} (hr : r ∈ L) : r ∈ q.runs := h.perm.mem_iff.1 hr
theorem Done.lt (h : Done x q L) {r : RR} (hr : r ∈ L) : r.worker < x.workers.l.length ∧ r.work < x.works.l.length := h.fin.inv.named r (h.mem hr)
theorem Done.len (h : Done x q L) : L.length ≤ 2200 := by
 have hok := farmOk_of h.ok
 have h1 := len_runs h.fine h.fin.inv
 have h2 : ((fpx x).nX : Int) ≤ 200 := by have : (fpx x).nX = x.works.l.length := rfl; have := hok.wo.len; omega
 have h3 : (fpx x).tries ≤ 10 := hok.tri.2
 have h4 : 1 ≤ (fpx x).tries := hok.tri.1
 have h5 : ((fpx x).nX : Int) * ((fpx x).tries + 1) ≤ 200 * 11 := Int.mul_le_mul h2 (by omega) (by omega) (by omega)
 have := h.perm.length_eq
 omega
theorem Done.ends (h : Done x q L) {r : RR} (hr : r ∈ L) : (wkOf x r.worker).from_ ≤ r.from_ ∧ 0 ≤ r.from_ ∧ r.from_ < r.to_ ∧ r.to_ ≤ (wkOf x r.worker).to_ ∧ r.to_ ≤ 1000000000 ∧ 1 ≤ r.end_ ∧ r.end_ ≤ 3 ∧ fitF (woOf x r.work).needs.l (wkOf x r.worker).has.l = true := by
 have hm := h.mem hr
 obtain ⟨a1, a2, a3, a4, a5⟩ := h.fin.inv.en r hm (h.fin.ended r hm)
 obtain ⟨b1, b2, b3, b4⟩ := h.fin.inv.fr r hm
 have hlt := (h.lt hr).1
 have c : (wkOf x r.worker).to_ ≤ 1000000000 := by
  rw [wkOf_get (List.getElem?_eq_getElem hlt)]
  exact (worker_times ((farmOk_of h.ok).wk _ (List.getElem_mem hlt))).2.2.2
 have a3' : r.to_ ≤ (wkOf x r.worker).to_ := a3
 exact ⟨b1, b2, a1, a3', by omega, a4, a5, b4⟩
theorem Done.lt_run (h : Done x q L) : (L.map (toRun x)).Pairwise fun a b => runLt a b = true := by
 rw [List.pairwise_map]
 have hd : L.Pairwise fun a b => ¬ (a.from_ = b.from_ ∧ a.work = b.work ∧ a.worker = b.worker) :=
  (h.perm.pairwise_iff (fun {a b} hab e => hab ⟨e.1.symm, e.2.1.symm, e.2.2.symm⟩)).2 h.fin.inv.dis
 have hall : L.Pairwise fun a b => runCmp (toRun x a) (toRun x b) ≤ 0 ∧ ¬ (a.from_ = b.from_ ∧ a.work = b.work ∧ a.worker = b.worker) := List.Pairwise.and h.sort hd
 refine List.Pairwise.imp_of_mem (fun {a b} ha hb hc => ?_) hall
 have hok := farmOk_of h.ok
 exact runLt_of hc.1 (fun e => hc.2 ⟨e.1, idInj hok (h.lt ha).2 (h.lt hb).2 e.2.1, nmInj hok (h.lt ha).1 (h.lt hb).1 e.2.2⟩)
theorem Done.runs (h : Done x q L) : runsF (L.map (toRun x)) = 0 := by
 have hl := h.len
 unfold runsF
 rw [if_pos (by rw [List.length_map]; omega)]
 refine runsErr_zero _ _ (fun r hr => ?_) h.lt_run (fun q hq => by cases hq)
 obtain ⟨s, hs, rfl⟩ := List.mem_map.1 hr
 obtain ⟨a1, a2, a3, a4, a5, a6, a7, a8⟩ := h.ends hs
 obtain ⟨w1, w2⟩ := farm_words h.ok
 obtain ⟨l1, l2⟩ := h.lt hs
 refine ⟨⟨?_, ?_⟩, ⟨?_, ?_⟩, ?_, ?_⟩
 ·show wordB (woOf x s.work).id_ = true
  rw [woOf_get (List.getElem?_eq_getElem l2)]
  exact w2 _ (List.getElem_mem l2)
 ·show wordB (wkOf x s.worker).name = true
  rw [wkOf_get (List.getElem?_eq_getElem l1)]
  exact w1 _ (List.getElem_mem l1)
 ·show inR 0 1000000000 s.from_ = true
  simp only [inR, Bool.and_eq_true, decide_eq_true_eq]; omega
 ·show inR 0 1000000000 s.to_ = true
  simp only [inR, Bool.and_eq_true, decide_eq_true_eq]; omega
 ·show ¬ s.to_ < s.from_
  omega
 ·show inR 1 3 s.end_ = true
  simp only [inR, Bool.and_eq_true, decide_eq_true_eq]; omega
end
theorem wo_ix {x : Farm} (hok : FarmOk x) {i : Nat} (hi : i < x.works.l.length) : ixOf x.works.l (woOf x i).id_ = i ∧ hasId x.works.l (woOf x i).id_ = true := by
 rw [woOf_get (List.getElem?_eq_getElem hi)]
 exact ixOf_eq hok.wo.rise (List.getElem?_eq_getElem hi)
theorem wk_ix {x : Farm} (hok : FarmOk x) {i : Nat} (hi : i < x.workers.l.length) : ixNm x.workers.l (wkOf x i).name = i ∧ hasNm x.workers.l (wkOf x i).name = true := by
 rw [wkOf_get (List.getElem?_eq_getElem hi)]
 exact ixNm_eq hok.wkr (List.getElem?_eq_getElem hi)
end Go.Proofs.YtbnkoefljcekbaaGreatDoor.C9

namespace Go.Proofs.YtbnkoefljcekbaaGreatDoor.C9
open Go.ChangeShapes Go.WideShapes Go.Deep Go.RowKit Go.Maps
set_option linter.unusedVariables false
set_option linter.unusedSimpArgs false

/-- what a farm that was followed has come to -/
theorem farm_done {x : Farm} (h0 : farmF x = 0) {X : FX} (hx : X.x = x) (hF : X.F = fpOf x (ordOf X.S X.N)) (hN : X.N = x.works.l.length) (hC : Crit (gOf x.works.l) (szOf x.works.l) X.N (gt X.S)) {p' : PS} (hp : PTrace X.F p0 p') :
  X.F = fpx x ∧ FFine X.F ∧ ∃ q, QTrace (fpx x) q0 q ∧ EndP (fpx x) p' q ∧ ∀ L : List RR, L.Perm p'.out → (L.Pairwise fun a b => runCmp (toRun x a) (toRun x b) ≤ 0) → Done x q L := by
 have hok := farmOk_of h0
 rw [hN] at hC hF
 have e := fpx_of hok hC
 rw [← hF] at e
 obtain ⟨f1, f2⟩ := fpx_fine hok hC
 obtain ⟨q, hq⟩ := farm_ends hok hC
 rw [e] at hp ⊢
 have hE := end_of f1 f2 hp hq
 exact ⟨rfl, f1, q, hq, hE, fun L hL hs => ⟨h0, hE.fin, f1, hL.trans hE.out, hs⟩⟩
theorem farm_fine {x : Farm} (h0 : farmF x = 0) {X : FX} (hF : X.F = fpOf x (ordOf X.S X.N)) (hN : X.N = x.works.l.length) (hC : Crit (gOf x.works.l) (szOf x.works.l) X.N (gt X.S)) : FFine X.F := by
 have hok := farmOk_of h0
 rw [hN] at hC hF
 have e := fpx_of hok hC
 rw [← hF] at e
 rw [e]
 exact (fpx_fine hok hC).1
theorem fs_start {x : Farm} {w : World} (h0 : farmF x = 0) (hx : RFarm.ok w x) {X : FX} (hX : X.x = x) (hF : X.F = fpOf x (ordOf X.S X.N)) : FS X p0 w := by
 subst hX
 obtain ⟨a, b, c, _, _⟩ := hx
 exact ⟨farmOk_of h0, ⟨_, hF⟩, a, b, c, Int.le_refl _, by decide, fun r hr => by cases hr⟩
def PlAns (x : Farm) (c : Int) (w : World) (e : Ending) (w' : World) : Prop :=
 (c ≠ 0 ∧ e = .returned (.tuple #[.slice none 0 0, .int .i64 c]) ∧ Below w.heap.size w w') ∨
 (c = 0 ∧ ∃ (A : Option Addr) (n cap : Nat) (q : QS) (L : List RR), e = .returned (.tuple #[.slice A n cap, .int .i64 0]) ∧ SlAt RRun w' A n (L.map (toRun x)) ∧ QTrace (fpx x) q0 q ∧ Done x q L ∧ Below w.heap.size w w')
set_option maxRecDepth 100000 in
set_option maxHeartbeats 8000000 in
theorem Play_any (x : Farm) (w : World) (hx : RFarm.ok w x) (c : Int) (hF : farmF x = c) :
  Calls Tryz.prog 10 #[farmV x] w (PlAns x c w) := by
 unfold farmV
 have hN : x.works.n = x.works.l.length := hx.2.1.1.1.symm
 obtain ⟨W1, hW1⟩ : ∃ Y, w.alloc (.cells #[.slice x.workers.A x.workers.n x.workers.cap, .slice x.works.A x.works.n x.works.cap, .slice x.lost.A x.lost.n x.lost.cap, .int .i64 x.tries, .bool x.doubles] 26) = Y := ⟨_, rfl⟩
 obtain ⟨xb, hxb⟩ : ∃ b, w.heap.size = b := ⟨_, rfl⟩
 have hba : Below w.heap.size w W1 := by rw [← hW1]; exact (Below.refl _ _).alloc (Nat.le_refl _) _
 have hx1 := RFarm.mono _ _ _ hba hx
 have c0 : W1.cell? ⟨xb, 0, none⟩ = some (.slice x.workers.A x.workers.n x.workers.cap) := by rw [← hW1, ← hxb]; exact cell_new _ _ _ 0
 have c1 : W1.cell? ⟨xb, 1, none⟩ = some (.slice x.works.A x.works.n x.works.cap) := by rw [← hW1, ← hxb]; exact cell_new _ _ _ 1
 have c2 : W1.cell? ⟨xb, 2, none⟩ = some (.slice x.lost.A x.lost.n x.lost.cap) := by rw [← hW1, ← hxb]; exact cell_new _ _ _ 2
 have c3 : W1.cell? ⟨xb, 3, none⟩ = some (.int .i64 x.tries) := by rw [← hW1, ← hxb]; exact cell_new _ _ _ 3
 have c4 : W1.cell? ⟨xb, 4, none⟩ = some (.bool x.doubles) := by rw [← hW1, ← hxb]; exact cell_new _ _ _ 4
 obtain ⟨Z, hZ⟩ : ∃ Z, PlAns x c w = Z := ⟨_, rfl⟩
 rw [hZ]
 have hZH := Lib.hid hZ; have hxH := Lib.hid hx; have hx1H := Lib.hid hx1; have hW1H := Lib.hid hW1; have hxbH := Lib.hid hxb; have hbaH := Lib.hid hba; have hFH := Lib.hid hF; have hNH := Lib.hid hN; clear hZ hx hx1 hW1 hxb hba hF hN
 go_enter Tryz.func10, Tryz.ntmps10
 go_wp2_with fail
 rw [hW1H.out, hxbH.out]
 refine (farm_any x _ hx1H.out c hFH.out).mono ?_
 rintro e w1 ⟨rfl, hb1⟩
 have c0 := keepC hb1 c0
 have c1 := keepC hb1 c1
 have c2 := keepC hb1 c2
 have c3 := keepC hb1 c3
 have c4 := keepC hb1 c4
 have hx2 := RFarm.mono _ _ _ hb1 hx1H.out
 have hbb := hbaH.out.trans (hb1.mono hbaH.out.size)
 by_cases h1 : c = 0
 ·subst h1
  have hb1H := Lib.hid hb1; have hx2H := Lib.hid hx2; have hbbH := Lib.hid hbb; clear hb1 hx2 hbb
  go_wp2_with fail
  refine (open_any x _ hx2H.out (farmOk_of hFH.out)).mono ?_
  rintro e w2 ⟨X, rv, ov, rfl, hXx, hXF, hC, hA⟩
  have hXN : X.N = x.works.l.length := by unfold FX.N; rw [hXx]; exact hNH.out
  have hfin := farm_fine hFH.out hXF hXN hC
  have hp := play_any hA (fs_start hFH.out hx2H.out hXx hXF) hfin (ordX_of (by rw [hXx]; exact hXF))
  clear c0 c1 c2 c3 c4 hA
  have hXxH := Lib.hid hXx; have hXFH := Lib.hid hXF; have hCH := Lib.hid hC; have hXNH := Lib.hid hXN; have hfinH := Lib.hid hfin; have hpH := Lib.hid hp; clear hXx hXF hC hXN hfin hp
  go_wp2_with fail
  go_at_call 32
  refine hpH.out.mono ?_
  rintro e w3 ⟨rfl, rv2, ov2, p', L, hT, hL, hs, hA3⟩
  have c11 := (hA3.core.blk 11 _ rfl).1
  have hown := hA3.core.out
  have hbe := hA3.core.bel
  obtain ⟨A, cap, rfl⟩ := hown.form
  obtain ⟨_, _, q, hq, hE, hD⟩ := farm_done hFH.out hXxH.out hXFH.out hXNH.out hCH.out hT
  have hs' : L.Pairwise fun a b => runCmp (toRun x a) (toRun x b) ≤ 0 := by rw [← hXxH.out]; exact hs
  have hD2 := hD L hL hs'
  have hsl := hown.slAt
  rw [hXxH.out] at hsl c11
  have R : Z (.returned (.tuple #[.slice A (L.map (toRun x)).length cap, .int .i64 0])) w3 := by
   rw [← hZH.out]
   exact .inr ⟨rfl, A, _, cap, q, L, rfl, hsl, hq, hD2, hbbH.out.trans (hbe.mono hbbH.out.size)⟩
  obtain ⟨n, hn⟩ : ∃ n, (L.map (toRun x)).length = n := ⟨_, rfl⟩
  have c11' : w3.cell? ⟨X.f, 11, none⟩ = some (.slice A n cap) := by rw [← hn]; exact c11
  rw [hn] at R
  clear c11 hown hA3 hsl hs hs' hD hD2 hE hT hbe
  have RH := Lib.hid R; clear R
  go_wp2
  exact RH.out
 ·have R : Z (.returned (.tuple #[.slice none 0 0, .int .i64 c])) w1 := by
   rw [← hZH.out]; exact .inl ⟨h1, rfl, hbb⟩
  have h1' : (c != 0) = true := by simpa using h1
  clear h1
  have RH := Lib.hid R; have hb1H := Lib.hid hb1; have hx2H := Lib.hid hx2; have hbbH := Lib.hid hbb; clear R hb1 hx2 hbb
  go_wp2
  exact RH.out
end Go.Proofs.YtbnkoefljcekbaaGreatDoor.C9

namespace Go.Proofs.YtbnkoefljcekbaaGreatDoor.C9
open Go.ChangeShapes Go.WideShapes Go.Deep Go.RowKit Go.Maps
set_option linter.unusedVariables false
set_option linter.unusedSimpArgs false

def dnB (l : List Run) (s : ByteArray) (t : Int) : Bool := l.any fun r => decide (r.id_ = s) && (decide (r.end_ = 1) && decide (r.to_ ≤ t))
def rnB (l : List Run) (s : ByteArray) (t : Int) : Bool := l.any fun r => decide (r.id_ = s) && (decide (r.from_ ≤ t) && decide (t < r.to_))
def lsN (l : List Run) (s : ByteArray) (t : Int) : Nat := l.countP fun r => decide (r.id_ = s) && (decide (r.end_ = 2) && decide (r.to_ ≤ t))
def bsN (l : List Run) (s : ByteArray) (t : Int) : Nat := l.countP fun r => decide (r.worker = s) && (decide (r.from_ ≤ t) && decide (t < r.to_))
def frB (l : List Run) (t : Int) (y : Worker) : Bool := decide (y.from_ ≤ t) && (decide (t < y.to_) && decide ((bsN l y.name t : Int) < y.slots))
def wtB (tries : Int) (l : List Run) (z : Work) (t : Int) : Bool := !dnB l z.id_ t && (!rnB l z.id_ t && (decide ((lsN l z.id_ t : Int) < tries) && z.after.l.all fun s => dnB l s t))
def waitB (x : Farm) (l : List Run) (z : Work) (t : Int) : Bool := wtB x.tries l z t && x.workers.l.any fun y => frB l t y && fitF z.needs.l y.has.l
def momP (x : Farm) (l : List Run) : List Int := 0 :: (l.flatMap fun r => [r.from_, r.to_]) ++ (x.workers.l.flatMap fun y => [y.from_, y.to_])
def waitedF (M : List Int) (x : Farm) (l : List Run) : List ByteArray := (x.works.l.filter fun z => M.any (waitB x l z)).map (·.id_)

theorem mem_momP {x : Farm} {l : List Run} {t : Int} : t ∈ momP x l ↔ t = 0 ∨ (∃ r ∈ l, t = r.from_ ∨ t = r.to_) ∨ ∃ y ∈ x.workers.l, t = y.from_ ∨ t = y.to_ := by
 unfold momP
 simp only [List.cons_append, List.mem_cons, List.mem_append, List.mem_flatMap, List.not_mem_nil, or_false]
theorem any_congr2 {α : Type} {l : List α} {p q : α → Bool} (h : ∀ x ∈ l, p x = q x) : l.any p = l.any q := by
 rw [Bool.eq_iff_iff, List.any_eq_true, List.any_eq_true]
 exact ⟨fun ⟨x, hx, e⟩ => ⟨x, hx, by rw [← h x hx]; exact e⟩, fun ⟨x, hx, e⟩ => ⟨x, hx, by rw [h x hx]; exact e⟩⟩
section
variable {x : Farm} {q : QS} {L : List RR}
theorem Done.idEq (h : Done x q L) {r : RR} (hr : r ∈ L) {i : Nat} (hi : i < x.works.l.length) : ((toRun x r).id_ = (woOf x i).id_) ↔ r.work = i :=
 ⟨fun e => idInj (farmOk_of h.ok) (h.lt hr).2 hi e, fun e => by rw [← e]; rfl⟩
theorem Done.nmEq (h : Done x q L) {r : RR} (hr : r ∈ L) {k : Nat} (hk : k < x.workers.l.length) : ((toRun x r).worker = (wkOf x k).name) ↔ r.worker = k :=
 ⟨fun e => nmInj (farmOk_of h.ok) (h.lt hr).1 hk e, fun e => by rw [← e]; rfl⟩
theorem Done.dn (h : Done x q L) {i : Nat} (hi : i < x.works.l.length) {t : Int} : dnB (L.map (toRun x)) (woOf x i).id_ t = true ↔ DoneBy q.runs t i := by
 unfold dnB
 rw [List.any_map, List.any_eq_true]
 constructor
 ·rintro ⟨r, hr, e⟩
  simp only [Function.comp, Bool.and_eq_true, decide_eq_true_eq] at e
  exact ⟨r, h.mem hr, (h.idEq hr hi).1 e.1, e.2.1, e.2.2⟩
 ·rintro ⟨r, hr, e1, e2, e3⟩
  have hr' := h.perm.mem_iff.2 hr
  refine ⟨r, hr', ?_⟩
  simp only [Function.comp, Bool.and_eq_true, decide_eq_true_eq]
  exact ⟨(h.idEq hr' hi).2 e1, e2, e3⟩
/-- of what is played nobody waits -/
theorem Done.none (h : Done x q L) (hN : NA (fpx x) q.at_ q.runs ∧ ∀ k, k < (fpx x).nW → (fpx x).wto k ≤ q.at_) : waitedF (momP x (L.map (toRun x))) x (L.map (toRun x)) = [] := by
 have hok := farmOk_of h.ok
 unfold waitedF
 rw [List.map_eq_nil_iff, List.filter_eq_nil_iff]
 intro z hz hw
 obtain ⟨i, hi, hzi⟩ := List.mem_iff_getElem.1 hz
 have hzw : woOf x i = z := woOf_get (by rw [List.getElem?_eq_getElem hi, hzi])
 rw [List.any_eq_true] at hw
 obtain ⟨t, ht, hw⟩ := hw
 have ht0 : 0 ≤ t ∧ t ≤ q.at_ := by
  rcases mem_momP.1 ht with e | ⟨r', hr', e⟩ | ⟨y, hy, e⟩
  ·have := h.fin.inv.t0; omega
  ·obtain ⟨r, hr, rfl⟩ := List.mem_map.1 hr'
   have a := h.ends hr
   have b := h.fin.inv.en r (h.mem hr) (h.fin.ended r (h.mem hr))
   have e' : t = r.from_ ∨ t = r.to_ := e
   omega
  ·obtain ⟨k, hk, hky⟩ := List.mem_iff_getElem.1 hy
   have hyk : wkOf x k = y := wkOf_get (by rw [List.getElem?_eq_getElem hk, hky])
   have a : y.to_ ≤ q.at_ := by have := hN.2 k hk; rw [← hyk]; exact this
   have b : y.from_ ≤ q.at_ := by have := h.fin.from_ k hk; rw [← hyk]; exact this
   have c := worker_times (hok.wk y hy)
   omega
 unfold waitB at hw
 rw [Bool.and_eq_true] at hw
 obtain ⟨a, c⟩ := hw
 unfold wtB at a
 simp only [Bool.and_eq_true, Bool.not_eq_true', decide_eq_true_eq] at a
 obtain ⟨a1, a2, a3, a4⟩ := a
 rw [List.any_eq_true] at c
 obtain ⟨y, hy, hc⟩ := c
 rw [Bool.and_eq_true] at hc
 obtain ⟨hf, hfit⟩ := hc
 obtain ⟨k, hk, hky⟩ := List.mem_iff_getElem.1 hy
 have hyk : wkOf x k = y := wkOf_get (by rw [List.getElem?_eq_getElem hk, hky])
 unfold frB at hf
 simp only [Bool.and_eq_true, decide_eq_true_eq] at hf
 have hWa : WaitsAt (fpx x) q.runs t i := by
  refine ⟨fun s hs => ?_, fun hd => ?_, fun hr => ?_, ?_⟩
  ·have hs' : s ∈ gOf x.works.l i := hs
   rw [gOf_get (List.getElem?_eq_getElem hi), hzi] at hs'
   obtain ⟨u, hu, rfl⟩ := List.mem_map.1 hs'
   obtain ⟨v, hv, hvu⟩ := ixOf_get (allThere_get hok.wo.all (by rw [List.getElem?_eq_getElem hi, hzi]) hu)
   have := List.all_eq_true.1 a4 u hu
   have hlt := (List.getElem?_eq_some_iff.1 hv).1
   refine (h.dn hlt).1 ?_
   rw [woOf_get hv, hvu]; exact this
  ·have := (h.dn hi).2 hd
   rw [hzw] at this
   rw [this] at a1; cases a1
  ·obtain ⟨r, hr, e1, e2, e3⟩ := hr
   have hr' := h.perm.mem_iff.2 hr
   have e4 : t < r.to_ := by
    rcases e3 with e3 | e3
    ·rw [h.fin.ended r hr] at e3; cases e3
    ·exact e3
   unfold rnB at a2
   rw [List.any_eq_false] at a2
   refine a2 (toRun x r) (List.mem_map_of_mem hr') ?_
   simp only [Bool.and_eq_true, decide_eq_true_eq]
   refine ⟨?_, e2, e4⟩
   rw [← hzw]
   exact (h.idEq hr' hi).2 e1
  ·have e1 : LostBy q.runs t i = lsN (L.map (toRun x)) z.id_ t := by
    unfold LostBy lsN
    rw [List.countP_map, ← h.perm.countP_eq]
    refine countP_eq_of fun r hr => ?_
    have := h.idEq hr hi
    rw [hzw] at this
    simp only [Function.comp, isEnd]
    rw [show (decide ((toRun x r).id_ = z.id_)) = (r.work == i) from by rw [Bool.eq_iff_iff, decide_eq_true_eq, beq_iff_eq]; exact this]
    rw [Bool.and_assoc]
    rfl
   rw [e1]; exact a3
 have hFr : FreeAt (fpx x) q.runs t k := by
  refine ⟨?_, ?_, ?_⟩
  ·show (wkOf x k).from_ ≤ t
   rw [hyk]; exact hf.1
  ·show t < (wkOf x k).to_
   rw [hyk]; exact hf.2.1
  ·show (cntAt q.runs t k : Int) < (wkOf x k).slots
   have e1 : cntAt q.runs t k = bsN (L.map (toRun x)) y.name t := by
    unfold cntAt bsN
    rw [List.countP_map, ← h.perm.countP_eq]
    refine countP_eq_of fun r hr => ?_
    have h2 := h.nmEq hr hk
    rw [hyk] at h2
    simp only [Function.comp]
    rw [show (decide ((toRun x r).worker = y.name)) = (r.worker == k) from by rw [Bool.eq_iff_iff, decide_eq_true_eq, beq_iff_eq]; exact h2]
    rw [h.fin.ended r (h.mem hr), Bool.false_or]
    rfl
   rw [e1, hyk]; exact hf.2.2
 have := hN.1 t ht0.1 ht0.2 i hi hWa k hk hFr
 have e2 : (fpx x).fit k i = fitF (woOf x i).needs.l (wkOf x k).has.l := rfl
 rw [e2, hzw, hyk, hfit] at this
 cases this
end
end Go.Proofs.YtbnkoefljcekbaaGreatDoor.C9
