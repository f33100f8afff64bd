/-
 Several texts of mine as one, without what is not wanted here: XWtA, XDnBy, XRgt, XWtF.
-/
import Derived.Test.YtbnkoefljcekbaaGreatDoorNbTC9
import Derived.Test.YtbnkoefljcekbaaGreatDoorNbGi
import Derived.Test.YtbnkoefljcekbaaGreatDoorNbIC9
import Derived.Test.YtbnkoefljcekbaaGreatDoorNbJC9
import Derived.Test.YtbnkoefljcekbaaGreatDoorNbGg
namespace Go.Proofs.YtbnkoefljcekbaaGreatDoor.C9
open Go.ChangeShapes Go.WideShapes Go.Deep Go.RowKit Go.Maps
set_option linter.unusedVariables false
set_option linter.unusedSimpArgs false

def atD (l : List Run) (t : Int) : Bool := l.any fun r => decide (r.from_ ≤ t) && (decide (r.to_ ≤ t) && decide (r.end_ = 1))
def atR (l : List Run) (t : Int) : Bool := l.any fun r => decide (r.from_ ≤ t) && decide (t < r.to_)
def atL (l : List Run) (t : Int) : Nat := l.countP fun r => decide (r.from_ ≤ t) && (decide (r.to_ ≤ t) && decide (r.end_ = 2))
/-- a waiter in memory, to be read -/
structure WtH (x : Farm) (wtb rb N : Nat) (Rs : List (List Run)) (W : World) : Prop where
 c0 : W.cell? ⟨wtb, 0, none⟩ = some (.slice x.workers.A x.workers.n x.workers.cap)
 c1 : W.cell? ⟨wtb, 1, none⟩ = some (.slice x.works.A x.works.n x.works.cap)
 c3 : W.cell? ⟨wtb, 3, none⟩ = some (.int .i64 x.tries)
 c5 : W.cell? ⟨wtb, 5, none⟩ = some (.slice (some ⟨rb, 0, none⟩) N N)
 len : Rs.length = N
 rows : ∀ k r, Rs[k]? = some r → ∃ A n c, W.cell? ⟨rb, k, none⟩ = some (.slice A n c) ∧ SlAt RRun W A n r
 ws : SlAt RWorker W x.workers.A x.workers.n x.workers.l
 xs : SlAt RWork W x.works.A x.works.n x.works.l
theorem WtH.below {x : Farm} {wtb rb N : Nat} {Rs : List (List Run)} {W W' : World} (h : WtH x wtb rb N Rs W) (hb : Below W.heap.size W W') : WtH x wtb rb N Rs W' :=
 ⟨keepC hb h.c0, keepC hb h.c1, keepC hb h.c3, keepC hb h.c5, h.len, fun k r hr => by obtain ⟨A, n, c, h1, h2⟩ := h.rows k r hr; exact ⟨A, n, c, keepC hb h1, h2.below hb⟩, h.ws.below hb, h.xs.below hb⟩
def AtRel (l : List Run) (t : Int) (n b : Nat) (w : World) (i : Value) (wr : World) : Prop :=
 ∃ j : Nat, j ≤ n ∧ i = .int .i64 j ∧ Blk wr (b + 1) [.bool (atD (l.take j) t), .bool (atR (l.take j) t), .int .i64 (atL (l.take j) t)] ∧ Blk wr b [.bool false, .bool false, .int .i64 0] ∧ atL (l.take j) t ≤ j ∧ Below w.heap.size w wr
def AtAns (l : List Run) (t : Int) (w : World) (e : Ending) (w' : World) : Prop := e = .returned (.agg #[.bool (atD l t), .bool (atR l t), .int .i64 (atL l t)]) ∧ Below w.heap.size w w'
theorem at_take {l : List Run} {j : Nat} {r : Run} (h : l[j]? = some r) (t : Int) :
  atD (l.take (j + 1)) t = (atD (l.take j) t || (decide (r.from_ ≤ t) && (decide (r.to_ ≤ t) && decide (r.end_ = 1)))) ∧ atR (l.take (j + 1)) t = (atR (l.take j) t || (decide (r.from_ ≤ t) && decide (t < r.to_))) ∧
  atL (l.take (j + 1)) t = atL (l.take j) t + (if (decide (r.from_ ≤ t) && (decide (r.to_ ≤ t) && decide (r.end_ = 2))) = true then 1 else 0) := by
 unfold atD atR atL
 rw [List.take_add_one, h, Option.toList_some, List.any_append, List.any_append, List.countP_append, List.countP_singleton]
 simp
theorem Blk.bel {w w' : World} {b : Nat} {vs : List Value} (h : Blk w b vs) (hv : vs ≠ []) (hb : Below w.heap.size w w') : Blk w' b vs := h.keep (hb.block b (h.lt hv))
set_option maxRecDepth 100000 in
set_option maxHeartbeats 8000000 in
theorem at_any {x : Farm} {wtb rb N : Nat} {Rs : List (List Run)} (w : World) (hH : WtH x wtb rb N Rs w) (k : Nat) (l : List Run) (hr : Rs[k]? = some l) (t : Int) (hlen : l.length ≤ 4000) (hN : N ≤ 1000) :
  Calls Tryz.prog 105 #[.pointer (some ⟨wtb, 0, none⟩), .int .i64 k, .int .i64 t] w (AtAns l t w) := by
 have hk : k < N := by have := (List.getElem?_eq_some_iff.1 hr).1; have := hH.len; omega
 obtain ⟨A, n, c, g0, hsl⟩ := hH.rows k l hr
 have hll := hsl.1
 have c5 := hH.c5
 obtain ⟨W1, hW1⟩ : ∃ Y, w.alloc (.cells #[.bool false, .bool false, .int .i64 0] 137) = Y := ⟨_, rfl⟩
 obtain ⟨W2, hW2⟩ : ∃ Y, W1.alloc (.cells #[.bool false, .bool false, .int .i64 0] 137) = Y := ⟨_, rfl⟩
 have hb1 : Below w.heap.size w W1 := by rw [← hW1]; exact (Below.refl _ _).alloc (Nat.le_refl _) _
 have hb12 : Below W1.heap.size W1 W2 := by rw [← hW2]; exact (Below.refl _ _).alloc (Nat.le_refl _) _
 have hb2 := hb1.trans (hb12.mono hb1.size)
 obtain ⟨b, hbw⟩ : ∃ b, w.heap.size = b := ⟨_, rfl⟩
 have hs1 : W1.heap.size = b + 1 := by rw [← hW1, ← hbw]; simp
 have hB1 : Blk W1 b [.bool false, .bool false, .int .i64 0] := by rw [← hW1, ← hbw]; exact blk_new w [.bool false, .bool false, .int .i64 0] _
 have hB2 : Blk W2 (b + 1) [.bool false, .bool false, .int .i64 0] := by rw [← hs1, ← hW2]; exact blk_new W1 [.bool false, .bool false, .int .i64 0] _
 have hst : AtRel l t n b w (.int .i64 0) W2 := ⟨0, Nat.zero_le _, rfl, hB2, hB1.bel (by simp) hb12, Nat.le_refl _, hb2⟩
 have c5 := keepC hb2 c5
 have g0 := keepC hb2 g0
 have hk0 : (0 : Int) ≤ (k : Int) := by omega
 have hk1 : (k : Int) < (N : Int) := by omega
 have hn4 : n ≤ 4000 := by omega
 have c5 : ((w.alloc (.cells #[.bool false, .bool false, .int .i64 0] 137)).alloc (.cells #[.bool false, .bool false, .int .i64 0] 137)).cell? ⟨wtb, 5, none⟩ = some (.slice (some ⟨rb, 0, none⟩) N N) := by rw [hW1, hW2]; exact c5
 have g0 : ((w.alloc (.cells #[.bool false, .bool false, .int .i64 0] 137)).alloc (.cells #[.bool false, .bool false, .int .i64 0] 137)).cell? ⟨rb, k, none⟩ = some (.slice A n c) := by rw [hW1, hW2]; exact g0
 have RZ0 : ∀ W, Below w.heap.size w W → AtAns l t w (.returned (.agg #[.bool (atD l t), .bool (atR l t), .int .i64 (atL l t)])) W := fun W h => ⟨rfl, h⟩
 have RZ0H := Lib.hid RZ0; have hHH := Lib.hid hH; have hrH := Lib.hid hr; have hslH := Lib.hid hsl; have hllH := Lib.hid hll; have hW1H := Lib.hid hW1; have hW2H := Lib.hid hW2; have hb1H := Lib.hid hb1; have hb12H := Lib.hid hb12; have hb2H := Lib.hid hb2; have hbwH := Lib.hid hbw; have hs1H := Lib.hid hs1; have hB1H := Lib.hid hB1; have hB2H := Lib.hid hB2; have hstH := Lib.hid hst; clear RZ0 hH hr hsl hll hW1 hW2 hb1 hb12 hb2 hbw hs1 hB1 hB2 hst
 go_enter Tryz.func105, Tryz.ntmps105
 go_wp2_with fail
 clear c5 g0
 rw [hW1H.out, hW2H.out, hbwH.out]
 go_loopw [18] (fun i wr => AtRel l t n b w i wr) (fun i _ => n - (intOf i).toNat)
 case atStart => exact hstH.out
 case round =>
  clear hstH
  obtain ⟨j, hj, rfl, hP, hQ, hcj, hb⟩ := hrel
  have hbs := hb.size
  by_cases hlt : j < n
  ·have hslr := hslH.out.below hb
   obtain ⟨bl, ol, hA8, _⟩ := hslr.2.1 (by omega)
   subst hA8
   obtain ⟨s, hs⟩ : ∃ s, l[j]? = some s := ⟨l[j]'(by have := hllH.out; omega), List.getElem?_eq_getElem _⟩
   obtain ⟨e0, e1, e2, e3, e4⟩ := cells_Run hslr hs
   obtain ⟨a1, a2, a3⟩ := at_take hs t
   obtain ⟨vd, hvd⟩ : ∃ v, atD (l.take j) t = v := ⟨_, rfl⟩
   obtain ⟨vr, hvr⟩ : ∃ v, atR (l.take j) t = v := ⟨_, rfl⟩
   obtain ⟨vl, hvl⟩ : ∃ v, atL (l.take j) t = v := ⟨_, rfl⟩
   rw [hvd] at a1 hP
   rw [hvr] at a2 hP
   rw [hvl] at a3 hP hcj
   obtain ⟨sid, swk, sfm, sto, sen⟩ := s
   simp only at e0 e1 e2 e3 e4 a1 a2 a3
   have hbz := (Below.refl wr.heap.size wr).alloc (Nat.le_refl _) (.cells #[.string sid, .string swk, .int .i64 sfm, .int .i64 sto, .int .i64 sen] 34)
   have hb5 := hb.trans (hbz.mono hbs)
   have hP5 := hP.bel (by simp) hbz
   have hQ5 := hQ.bel (by simp) hbz
   have p0 := (hP5 0 _ rfl).1
   have p1 := (hP5 1 _ rfl).1
   have p2 := (hP5 2 _ rfl).1
   have z0 := (hP5 0 _ rfl).2
   have z1 := (hP5 1 _ rfl).2
   have z2 := (hP5 2 _ rfl).2
   have hwsz : w.heap.size ≤ b + 1 := by rw [hbwH.out]; omega
   have R : ∀ (vd' vr' : Bool) (vl' : Nat) (wx : World), atD (l.take (j + 1)) t = vd' → atR (l.take (j + 1)) t = vr' → atL (l.take (j + 1)) t = vl' → vl' ≤ j + 1 → Blk wx (b + 1) [.bool vd', .bool vr', .int .i64 vl'] → Blk wx b [.bool false, .bool false, .int .i64 0] → Below w.heap.size w wx → AtRel l t n b w (.int .i64 ((j : Int) + 1)) wx := by
    intro vd' vr' vl' wx h1 h2 h3 h4 h5 h6 h7
    exact ⟨j + 1, hlt, by go_num, by rw [h1, h2, h3]; exact h5, h6, by rw [h3]; exact h4, h7⟩
   have hset : ∀ (k : Nat) (u : Value) (W : World), Blk W b [.bool false, .bool false, .int .i64 0] → Blk (W.setCell ⟨b + 1, k, none⟩ u) b [.bool false, .bool false, .int .i64 0] := fun k u W h => h.keep ((grown_setc W ⟨b + 1, k, none⟩ u).block b (h.lt (by simp)) (by simp))
   clear hP hQ hvd hvr hvl
   by_cases hA : sfm ≤ t
   ·have dA : decide (sfm > t) = false := decide_eq_false (by omega)
    rw [decide_eq_true hA, Bool.true_and] at a1 a2 a3
    by_cases hB : t < sto
    ·have dB : decide (sto > t) = true := decide_eq_true hB
     rw [decide_eq_false (by omega : ¬ sto ≤ t), Bool.false_and, Bool.or_false] at a1
     rw [decide_eq_true hB, Bool.or_true] at a2
     rw [decide_eq_false (by omega : ¬ sto ≤ t), Bool.false_and, if_neg (by decide), Nat.add_zero] at a3
     have R9 := R vd true vl _ a1 a2 a3 (by omega) ((hP5.set (k := 1) (by simp) (.bool true))) (hset 1 (.bool true) _ hQ5) (hb5.setCell (p := ⟨b + 1, 1, none⟩) hwsz _)
     clear R hset a1 a2 a3 hA hB
     have R9H := Lib.hid R9; have hbH := Lib.hid hb; have hbzH := Lib.hid hbz; have hb5H := Lib.hid hb5; have hP5H := Lib.hid hP5; have hQ5H := Lib.hid hQ5; have hsH := Lib.hid hs; have hslrH := Lib.hid hslr; have hwszH := Lib.hid hwsz; clear R9 hb hbz hb5 hP5 hQ5 hs hslr hwsz
     go_wp2
     refine ⟨?rel, ?measure⟩
     case measure => (simp [intOf]; omega)
     case rel => first | exact R9H.out | exact ⟨rfl, R9H.out⟩ | ((try refine ⟨rfl, ?_⟩); (repeat apply Exists.intro); refine ⟨R9H.out, ?_⟩; ((repeat' apply And.intro) <;> rfl))
    ·have dB : decide (sto > t) = false := decide_eq_false hB
     rw [decide_eq_true (by omega : sto ≤ t), Bool.true_and] at a1 a3
     rw [decide_eq_false hB, Bool.or_false] at a2
     by_cases hD : sen = 1
     ·subst hD
      rw [decide_eq_true rfl, Bool.or_true] at a1
      rw [decide_eq_false (by decide), if_neg (by decide), Nat.add_zero] at a3
      have R9 := R true vr vl _ a1 a2 a3 (by omega) ((hP5.set (k := 0) (by simp) (.bool true))) (hset 0 (.bool true) _ hQ5) (hb5.setCell (p := ⟨b + 1, 0, none⟩) hwsz _)
      clear R hset a1 a2 a3 hA hB
      have R9H := Lib.hid R9; have hbH := Lib.hid hb; have hbzH := Lib.hid hbz; have hb5H := Lib.hid hb5; have hP5H := Lib.hid hP5; have hQ5H := Lib.hid hQ5; have hsH := Lib.hid hs; have hslrH := Lib.hid hslr; have hwszH := Lib.hid hwsz; clear R9 hb hbz hb5 hP5 hQ5 hs hslr hwsz
      go_wp2
      refine ⟨?rel, ?measure⟩
      case measure => (simp [intOf]; omega)
      case rel => first | exact R9H.out | exact ⟨rfl, R9H.out⟩ | ((try refine ⟨rfl, ?_⟩); (repeat apply Exists.intro); refine ⟨R9H.out, ?_⟩; ((repeat' apply And.intro) <;> rfl))
     ·rw [decide_eq_false hD, Bool.or_false] at a1
      have dD : (sen == 1) = false := by simpa using hD
      by_cases hE : sen = 2
      ·subst hE
       rw [decide_eq_true rfl, if_pos rfl] at a3
       have hvl0 : (vl : Int) + 1 ≤ 4001 := by have := hllH.out; omega
       have R9 := R vd vr (vl + 1) _ a1 a2 a3 (by omega) ((hP5.set (k := 2) (by simp) (.int .i64 ((vl : Int) + 1)))) (hset 2 (.int .i64 ((vl : Int) + 1)) _ hQ5) (hb5.setCell (p := ⟨b + 1, 2, none⟩) hwsz _)
       clear R hset a1 a2 a3 hA hB hD
       have R9H := Lib.hid R9; have hbH := Lib.hid hb; have hbzH := Lib.hid hbz; have hb5H := Lib.hid hb5; have hP5H := Lib.hid hP5; have hQ5H := Lib.hid hQ5; have hsH := Lib.hid hs; have hslrH := Lib.hid hslr; have hwszH := Lib.hid hwsz; clear R9 hb hbz hb5 hP5 hQ5 hs hslr hwsz
       go_wp2
       refine ⟨?rel, ?measure⟩
       case measure => (simp [intOf]; omega)
       case rel => first | exact R9H.out | exact ⟨rfl, R9H.out⟩ | ((try refine ⟨rfl, ?_⟩); (repeat apply Exists.intro); refine ⟨R9H.out, ?_⟩; ((repeat' apply And.intro) <;> rfl))
      ·rw [decide_eq_false hE, if_neg (by decide), Nat.add_zero] at a3
       have dE : (sen == 2) = false := by simpa using hE
       have R9 := R vd vr vl _ a1 a2 a3 (by omega) hP5 hQ5 hb5
       clear R hset a1 a2 a3 hA hB hD hE
       have R9H := Lib.hid R9; have hbH := Lib.hid hb; have hbzH := Lib.hid hbz; have hb5H := Lib.hid hb5; have hP5H := Lib.hid hP5; have hQ5H := Lib.hid hQ5; have hsH := Lib.hid hs; have hslrH := Lib.hid hslr; have hwszH := Lib.hid hwsz; clear R9 hb hbz hb5 hP5 hQ5 hs hslr hwsz
       go_wp2
       refine ⟨?rel, ?measure⟩
       case measure => (simp [intOf]; omega)
       case rel => first | exact R9H.out | exact ⟨rfl, R9H.out⟩ | ((try refine ⟨rfl, ?_⟩); (repeat apply Exists.intro); refine ⟨R9H.out, ?_⟩; ((repeat' apply And.intro) <;> rfl))
   ·have dA : decide (sfm > t) = true := decide_eq_true (by omega)
    rw [decide_eq_false hA, Bool.false_and, Bool.or_false] at a1 a2
    rw [decide_eq_false hA, Bool.false_and, if_neg (by decide), Nat.add_zero] at a3
    have R9 := R vd vr vl _ a1 a2 a3 (by omega) hP5 hQ5 hb5
    clear R hset a1 a2 a3 hA
    have R9H := Lib.hid R9; have hbH := Lib.hid hb; have hbzH := Lib.hid hbz; have hb5H := Lib.hid hb5; have hP5H := Lib.hid hP5; have hQ5H := Lib.hid hQ5; have hsH := Lib.hid hs; have hslrH := Lib.hid hslr; have hwszH := Lib.hid hwsz; clear R9 hb hbz hb5 hP5 hQ5 hs hslr hwsz
    go_wp2
    refine ⟨?rel, ?measure⟩
    case measure => (simp [intOf]; omega)
    case rel => first | exact R9H.out | exact ⟨rfl, R9H.out⟩ | ((try refine ⟨rfl, ?_⟩); (repeat apply Exists.intro); refine ⟨R9H.out, ?_⟩; ((repeat' apply And.intro) <;> rfl))
  ·obtain rfl : j = n := by omega
   have e : l.take j = l := List.take_of_length_le (by have := hllH.out; omega)
   rw [e] at hP
   have p0 := (hP 0 _ rfl).1
   have p1 := (hP 1 _ rfl).1
   have p2 := (hP 2 _ rfl).1
   have q0 := (hQ 0 _ rfl).1
   have q1 := (hQ 1 _ rfl).1
   have q2 := (hQ 2 _ rfl).1
   have z0 := (hQ 0 _ rfl).2
   have z1 := (hQ 1 _ rfl).2
   have z2 := (hQ 2 _ rfl).2
   have hwsz : w.heap.size ≤ b := by rw [hbwH.out]; omega
   have R9 := ((hb.setCell (p := ⟨b, 0, none⟩) hwsz (.bool (atD l t))).setCell (p := ⟨b, 1, none⟩) hwsz (.bool (atR l t))).setCell (p := ⟨b, 2, none⟩) hwsz (.int .i64 (atL l t))
   obtain ⟨vd, hvd⟩ : ∃ v, atD l t = v := ⟨_, rfl⟩
   obtain ⟨vr, hvr⟩ : ∃ v, atR l t = v := ⟨_, rfl⟩
   obtain ⟨vl, hvl⟩ : ∃ v, atL l t = v := ⟨_, rfl⟩
   rw [hvd] at p0 R9
   rw [hvr] at p1 R9
   rw [hvl] at p2 R9
   clear hP hQ e
   have R9H := Lib.hid R9; have hbH := Lib.hid hb; have hvdH := Lib.hid hvd; have hvrH := Lib.hid hvr; have hvlH := Lib.hid hvl; have hwszH := Lib.hid hwsz; clear R9 hb hvd hvr hvl hwsz
   go_wp2_with fail
   exact bodyPost_ret (v := .agg #[.bool vd, .bool vr, .int .i64 vl]) (by simp [results, Tryz.results105, go_sem, q0, q1, q2]) rfl ⟨by rw [hvdH.out, hvrH.out, hvlH.out], R9H.out⟩
end Go.Proofs.YtbnkoefljcekbaaGreatDoor.C9

namespace Go.Proofs.YtbnkoefljcekbaaGreatDoor.C9
open Go.ChangeShapes Go.WideShapes Go.Deep Go.RowKit Go.Maps
set_option linter.unusedVariables false
set_option linter.unusedSimpArgs false

theorem IRow.bel {w w' : World} {b n : Nat} {f : Nat → Int} (h : IRow w b n f) (hb : Below w.heap.size w w') : IRow w' b n f := fun j hj => by
 have hlt := cell?_lt (h j hj).1
 exact ⟨(World.cell?_of_block (a := ⟨b, j, none⟩) (hb.block b hlt)).trans (h j hj).1, (World.frozen?_of_block (a := ⟨b, j, none⟩) (hb.block b hlt)).trans (h j hj).2⟩
end Go.Proofs.YtbnkoefljcekbaaGreatDoor.C9

namespace Go.Proofs.YtbnkoefljcekbaaGreatDoor.C9
open Go.ChangeShapes Go.WideShapes Go.Deep Go.RowKit Go.Maps
set_option linter.unusedVariables false
set_option linter.unusedSimpArgs false

theorem bsN_take {l : List Run} {j : Nat} {r : Run} (h : l[j]? = some r) (nm : ByteArray) (fm : Int) : bsN (l.take (j + 1)) nm fm = bsN (l.take j) nm fm + (if (decide (r.worker = nm) && (decide (r.from_ ≤ fm) && decide (fm < r.to_))) = true then 1 else 0) := by
 unfold bsN
 rw [List.take_add_one, h, Option.toList_some, List.countP_append, List.countP_singleton]
end Go.Proofs.YtbnkoefljcekbaaGreatDoor.C9

namespace Go.Proofs.YtbnkoefljcekbaaGreatDoor.C9
open Go.ChangeShapes Go.WideShapes Go.Deep Go.RowKit Go.Maps
set_option linter.unusedVariables false
set_option linter.unusedSimpArgs false

theorem elem_Wk : Elem Tryz.prog 84 RWorker.size 96 := elem_of (z := .agg #[.string ByteArray.empty, .slice none 0 0, .int .i64 0, .int .i64 0, .int .i64 0, .int .i64 0, .slice none 0 0]) (by kernel_rfl) (by decide)
def pfx (Rs : List (List Run)) (i : Nat) : List Run := (Rs.take i).flatten
theorem pfx_next {Rs : List (List Run)} {i : Nat} {r : List Run} (h : Rs[i]? = some r) : pfx Rs (i + 1) = pfx Rs i ++ r := by
 unfold pfx
 rw [List.take_add_one, h, Option.toList_some, List.flatten_append]
 simp
theorem pfx_all {Rs : List (List Run)} {i : Nat} (h : Rs.length ≤ i) : pfx Rs i = Rs.flatten := by
 unfold pfx
 rw [List.take_of_length_le h]
theorem bsN_app (l m : List Run) (s : ByteArray) (t : Int) : bsN (l ++ m) s t = bsN l s t + bsN m s t := List.countP_append
def F1 (x : Farm) (Rs : List (List Run)) (t : Int) (N M bb : Nat) (W1 : World) (i : Value) (wr : World) : Prop :=
 ∃ k : Nat, k ≤ N ∧ i = .int .i64 k ∧ IRow wr bb M (fun j => bsN (pfx Rs k) (wkOf x j).name t) ∧ Below W1.heap.size W1 wr
def F2 (x : Farm) (P r : List Run) (t : Int) (n M bb : Nat) (W1 : World) (i : Value) (wr : World) : Prop :=
 ∃ k : Nat, k ≤ n ∧ i = .int .i64 k ∧ IRow wr bb M (fun j => bsN (P ++ r.take k) (wkOf x j).name t) ∧ Below W1.heap.size W1 wr
def F3 (x : Farm) (F : List Run) (t : Int) (M : Nat) (W2 : World) (v i : Value) (wr : World) : Prop :=
 ∃ (k n c : Nat) (A : Option Addr), k ≤ M ∧ i = .int .i64 k ∧ v = .slice A n c ∧ Own RWorker 84 wr W2.heap.size (.slice A n c) ((x.workers.l.take k).filter (frB F t)) ∧ n ≤ k ∧ Below W2.heap.size W2 wr
def FrAns (x : Farm) (F : List Run) (t : Int) (w : World) (e : Ending) (w' : World) : Prop :=
 ∃ (A : Option Addr) (n c base : Nat), e = .returned (.slice A n c) ∧ w.heap.size ≤ base ∧ Own RWorker 84 w' base (.slice A n c) (x.workers.l.filter (frB F t)) ∧ n ≤ 1000 ∧ Below w.heap.size w w'
theorem wkOf_name {x : Farm} (hok : FarmOk x) {j : Nat} (hj : j < x.workers.l.length) {s : ByteArray} (hs : hasNm x.workers.l s = true) : (wkOf x j).name = s ↔ j = ixNm x.workers.l s := by
 obtain ⟨y, hy, hyi⟩ := ixNm_get hs
 have hl := (List.getElem?_eq_some_iff.1 hy).1
 constructor
 ·intro e
  refine nmInj hok hj hl ?_
  rw [e, wkOf_get hy, hyi]
 ·intro e; rw [e, wkOf_get hy, hyi]
set_option maxRecDepth 100000 in
set_option maxHeartbeats 8000000 in
theorem free_any {x : Farm} {wtb rb N : Nat} {Rs : List (List Run)} (w : World) (hH : WtH x wtb rb N Rs w) (t : Int) (hok : FarmOk x) (hN : N ≤ 1000) (hlen : Rs.flatten.length ≤ 4000) (hM : x.workers.n ≤ 50) (hnm : ∀ r ∈ Rs.flatten, hasNm x.workers.l r.worker = true) :
  Calls Tryz.prog 104 #[.pointer (some ⟨wtb, 0, none⟩), .int .i64 t] w (FrAns x Rs.flatten t w) := by
 have hwl : x.workers.l.length = x.workers.n := hH.ws.1
 have c0 := hH.c0
 have c5 := hH.c5
 obtain ⟨M, hMe⟩ : ∃ m, x.workers.n = m := ⟨_, rfl⟩
 obtain ⟨wA, hwA⟩ : ∃ m, x.workers.A = m := ⟨_, rfl⟩
 obtain ⟨wc, hwc⟩ : ∃ m, x.workers.cap = m := ⟨_, rfl⟩
 have hws := hH.ws
 rw [hMe] at hM hwl c0 hws
 rw [hwA] at c0 hws
 rw [hwc] at c0
 have hm := run_makeInts M (by omega)
 obtain ⟨W1, hW1⟩ : ∃ Y, w.alloc (.cells (madeI M) 3) = Y := ⟨_, rfl⟩
 have hb1 : Below w.heap.size w W1 := by rw [← hW1]; exact (Below.refl _ _).alloc (Nat.le_refl _) _
 obtain ⟨bb, hbb⟩ : ∃ b, w.heap.size = b := ⟨_, rfl⟩
 have hst : F1 x Rs t N M bb w (.int .i64 0) W1 := by
  refine ⟨0, Nat.zero_le _, rfl, ?_, hb1⟩
  rw [← hW1, ← hbb]
  exact (irow_made _ _).congr (fun j _ => by simp [pfx, bsN])
 have hK : ∀ W, Below w.heap.size w W → W.cell? ⟨wtb, 0, none⟩ = some (.slice wA M wc) ∧ W.cell? ⟨wtb, 5, none⟩ = some (.slice (some ⟨rb, 0, none⟩) N N) := fun W h => ⟨keepC h c0, keepC h c5⟩
 have hbbl : w.heap.size ≤ bb := Nat.le_of_eq hbb
 have c0 : (w.alloc (.cells (madeI M) 3)).cell? ⟨wtb, 0, none⟩ = some (.slice wA M wc) := by rw [hW1]; exact (hK W1 hb1).1
 have c5 : (w.alloc (.cells (madeI M) 3)).cell? ⟨wtb, 5, none⟩ = some (.slice (some ⟨rb, 0, none⟩) N N) := by rw [hW1]; exact (hK W1 hb1).2
 have c0w := hH.c0
 rw [hMe, hwA, hwc] at c0w
 obtain ⟨Z, hZ⟩ : ∃ Z, FrAns x Rs.flatten t w = Z := ⟨_, rfl⟩
 rw [hZ]
 have hHH := Lib.hid hH; have hokH := Lib.hid hok; have hlenH := Lib.hid hlen; have hnmH := Lib.hid hnm; have hwlH := Lib.hid hwl; have hMeH := Lib.hid hMe; have hwAH := Lib.hid hwA; have hwcH := Lib.hid hwc; have hwsH := Lib.hid hws; have hW1H := Lib.hid hW1; have hb1H := Lib.hid hb1; have hbbH := Lib.hid hbb; have hstH := Lib.hid hst; have hKH := Lib.hid hK; have hbblH := Lib.hid hbbl; have hZH := Lib.hid hZ; clear hH hok hlen hnm hwl hMe hwA hwc hws hW1 hb1 hbb hst hK hbbl hZ
 go_enter Tryz.func104, Tryz.ntmps104
 go_wp2_with fail
 rw [hW1H.out, hbbH.out]
 clear c0 c5 c0w
 go_loopw [27] (fun i wr => F1 x Rs t N M bb w i wr) (fun i _ => N - (intOf i).toNat)
 case atStart => exact hstH.out
 case round =>
  clear hstH
  obtain ⟨k, hk, rfl, hrow, hb⟩ := hrel
  have hbs := hb.size
  obtain ⟨c0, c5⟩ := hKH.out wr hb
  by_cases hlt : k < N
  ·obtain ⟨r, hr⟩ : ∃ r, Rs[k]? = some r := ⟨Rs[k]'(by have := hHH.out.len; omega), List.getElem?_eq_getElem _⟩
   obtain ⟨A, n, c, g0w, hsl0⟩ := hHH.out.rows k r hr
   have g0 := keepC hb g0w
   have hsl := hsl0.below hb
   have hll := hsl.1
   have hsub : ∀ s ∈ r, s ∈ Rs.flatten := fun s hs => List.mem_flatten.2 ⟨r, List.mem_of_getElem? hr, hs⟩
   have hn4 : n ≤ 4000 := by
    have h1 := hlenH.out
    have h2 : r.length ≤ Rs.flatten.length := (List.sublist_flatten_of_mem (List.mem_of_getElem? hr)).length_le
    omega
   obtain ⟨P, hP⟩ : ∃ P, pfx Rs k = P := ⟨_, rfl⟩
   have hPn : pfx Rs (k + 1) = P ++ r := by rw [pfx_next hr, hP]
   rw [hP] at hrow
   have hst2 : F2 x P r t n M bb w (.int .i64 0) wr := ⟨0, Nat.zero_le _, rfl, hrow.congr (fun j _ => by simp), hb⟩
   have hend : ∀ wx, IRow wx bb M (fun j => bsN (P ++ r) (wkOf x j).name t) → Below w.heap.size w wx → F1 x Rs t N M bb w (.int .i64 ((k : Int) + 1)) wx := fun wx h1 h2 => ⟨k + 1, hlt, by go_num, by rw [hPn]; exact h1, h2⟩
   have hPl : P.length ≤ 4000 := by
    rw [← hP]
    have h1 := hlenH.out
    have h2 : (pfx Rs k).length ≤ Rs.flatten.length := by
     have h3 : Rs.flatten = pfx Rs k ++ (Rs.drop k).flatten := by unfold pfx; rw [← List.flatten_append, List.take_append_drop]
     rw [h3, List.length_append]; omega
    omega
   clear hrow c0 g0w
   have hrH := Lib.hid hr; have hsl0H := Lib.hid hsl0; have hslH := Lib.hid hsl; have hllH := Lib.hid hll; have hsubH := Lib.hid hsub; have hPH := Lib.hid hP; have hPnH := Lib.hid hPn; have hst2H := Lib.hid hst2; have hendH := Lib.hid hend; have hbH := Lib.hid hb; have hPlH := Lib.hid hPl; clear hr hsl0 hsl hll hsub hP hPn hst2 hend hb hPl
   go_wp2_with fail
   clear c5 g0
   obtain ⟨wa, rfl⟩ : ∃ W, W = wr := ⟨_, rfl⟩
   go_loopw [33] (fun i wq => F2 x P r t n M bb w i wq) (fun i _ => n - (intOf i).toNat)
   case atStart => exact hst2H.out
   case round =>
    clear hst2H
    obtain ⟨q, hq, rfl, hrow, hbq⟩ := hrel
    have hbqs := hbq.size
    by_cases hlt2 : q < n
    ·have hslq := hsl0H.out.below hbq
     obtain ⟨bl, ol, hA8, _⟩ := hslq.2.1 (by omega)
     subst hA8
     obtain ⟨s, hs⟩ : ∃ s, r[q]? = some s := ⟨r[q]'(by have := hllH.out; omega), List.getElem?_eq_getElem _⟩
     obtain ⟨e0, e1, e2, e3, e4⟩ := cells_Run hslq hs
     have hnms := hnmH.out s (hsubH.out s (List.mem_of_getElem? hs))
     have hbt : ∀ nm, bsN (P ++ r.take (q + 1)) nm t = bsN (P ++ r.take q) nm t + (if (decide (s.worker = nm) && (decide (s.from_ ≤ t) && decide (t < s.to_))) = true then 1 else 0) := fun nm => by
      rw [bsN_app, bsN_app, bsN_take hs, Nat.add_assoc]
     obtain ⟨sid, swk, sfm, sto, sen⟩ := s
     simp only at e0 e1 e2 e3 e4 hnms hbt
     obtain ⟨W5, hW5⟩ : ∃ Y, wr.alloc (.cells #[.string sid, .string swk, .int .i64 sfm, .int .i64 sto, .int .i64 sen] 34) = Y := ⟨_, rfl⟩
     obtain ⟨sb, hsb⟩ : ∃ b, wr.heap.size = b := ⟨_, rfl⟩
     have hbz : Below wr.heap.size wr W5 := by rw [← hW5]; exact (Below.refl _ _).alloc (Nat.le_refl _) _
     have y1 : W5.cell? ⟨sb, 1, none⟩ = some (.string swk) := by rw [← hW5, ← hsb]; exact cell_new _ _ _ 1
     have hb5 := hbq.trans (hbz.mono hbqs)
     obtain ⟨c0, c5⟩ := hKH.out W5 hb5
     have hrow5 := hrow.bel hbz
     have hno : ¬ (sfm ≤ t ∧ t < sto) → F2 x P r t n M bb w (.int .i64 ((q : Int) + 1)) W5 := fun hh => by
      refine ⟨q + 1, hlt2, by go_num, hrow5.congr (fun j hj => ?_), hb5⟩
      rw [hbt]
      have : (decide (sfm ≤ t) && decide (t < sto)) = false := by
       cases h : (decide (sfm ≤ t) && decide (t < sto))
       ·rfl
       ·simp only [Bool.and_eq_true, decide_eq_true_eq] at h; exact absurd h hh
      rw [this, Bool.and_false, if_neg (by decide), Nat.add_zero]
     by_cases hA : sfm ≤ t
     ·by_cases hB : t < sto
      ·have hws5 := hwsH.out.below hb5
       have hS0 : (fun W : World => Below W5.heap.size W5 W ∧ W.cell? ⟨wtb, 0, none⟩ = some (.slice wA M wc) ∧ W.cell? ⟨sb, 1, none⟩ = some (.string swk)) W5 := ⟨Below.refl _ _, c0, y1⟩
       have hkS : ∀ W W' : World, Below W.heap.size W W' → (Below W5.heap.size W5 W ∧ W.cell? ⟨wtb, 0, none⟩ = some (.slice wA M wc) ∧ W.cell? ⟨sb, 1, none⟩ = some (.string swk)) → (Below W5.heap.size W5 W' ∧ W'.cell? ⟨wtb, 0, none⟩ = some (.slice wA M wc) ∧ W'.cell? ⟨sb, 1, none⟩ = some (.string swk)) := fun W W' hb h => ⟨h.1.trans (hb.mono h.1.size), keepC hb h.2.1, keepC hb h.2.2⟩
       have hSd := hkS _ _ (Below.refl W5.heap.size W5).drew hS0
       obtain ⟨ix, hixe⟩ : ∃ j, ixNm x.workers.l swk = j := ⟨_, rfl⟩
       obtain ⟨y, hy, hyi⟩ := ixNm_get hnms
       have hixl : ix < M := by have h1 := (List.getElem?_eq_some_iff.1 hy).1; rw [hixe] at h1; have := hwlH.out; omega
       have g1 := (hrow5 ix hixl).1
       have g2 := (hrow5 ix hixl).2
       have hbv : bsN (P ++ r.take q) (wkOf x ix).name t ≤ 8000 := by
        have h1 : bsN (P ++ r.take q) (wkOf x ix).name t ≤ (P ++ r.take q).length := List.countP_le_length
        have h2 : (P ++ r.take q).length ≤ P.length + r.length := by rw [List.length_append, List.length_take]; omega
        have h3 := hllH.out
        have h4 := hPlH.out
        omega
       obtain ⟨bv, hbve⟩ : ∃ v, bsN (P ++ r.take q) (wkOf x ix).name t = v := ⟨_, rfl⟩
       dsimp only at g1
       rw [hbve] at g1 hbv
       have hyes : ∀ wx, Below W5.heap.size W5 wx → F2 x P r t n M bb w (.int .i64 ((q : Int) + 1)) (wx.setCell ⟨bb, ix, none⟩ (.int .i64 ((bv : Int) + 1))) := fun wx hbx => by
        refine ⟨q + 1, hlt2, by go_num, ((hrow5.bel hbx).set ((bv : Int) + 1)).congr (fun j hj => ?_), (hb5.trans (hbx.mono hb5.size)).setCell (p := ⟨bb, ix, none⟩) hbblH.out _⟩
        have hj2 : j < x.workers.l.length := by have := hwlH.out; omega
        have hnj := wkOf_name hokH.out hj2 hnms
        rw [hixe] at hnj
        rw [hbt, decide_eq_true hA, decide_eq_true hB]
        by_cases e : j = ix
        ·subst e
         rw [if_pos rfl, hbve, decide_eq_true (hnj.2 rfl).symm]; rfl
        ·rw [if_neg e, decide_eq_false (fun h => e (hnj.1 h.symm))]; rfl
       have hbw5 := hb5.size
       have hrise := hokH.out.wkr
       clear c0 c5 y1 hno hbt
       have hbqH := Lib.hid hbq; have hrowH := Lib.hid hrow; have hnmsH := Lib.hid hnms; have hW5H := Lib.hid hW5; have hsbH := Lib.hid hsb; have hbzH := Lib.hid hbz; have hb5H := Lib.hid hb5; have hrow5H := Lib.hid hrow5; have hws5H := Lib.hid hws5; have hS0H := Lib.hid hS0; have hkSH := Lib.hid hkS; have hSdH := Lib.hid hSd; have hixeH := Lib.hid hixe; have hyH := Lib.hid hy; have hyiH := Lib.hid hyi; have hbveH := Lib.hid hbve; have hyesH := Lib.hid hyes; have hsH := Lib.hid hs; have hslqH := Lib.hid hslq; have hbw5H := Lib.hid hbw5; have hriseH := Lib.hid hrise; clear hbq hrow hnms hW5 hsb hbz hb5 hrow5 hws5 hS0 hkS hSd hixe hy hyi hbve hyes hs hslq hbw5 hrise
       go_wp2_with fail
       rw [hW5H.out, hsbH.out]
       clear e0 e1 e2 e3 e4
       refine wp_region_held_drew (S := fun W : World => Below W5.heap.size W5 W ∧ W.cell? ⟨wtb, 0, none⟩ = some (.slice wA M wc) ∧ W.cell? ⟨sb, 1, none⟩ = some (.string swk)) (by kernel_rfl) hSdH.out (fun hHeld => ?_)
       refine tkH (i := 0) (d := some 48) (v := ?_) (hy := Or.inl ⟨by rfl, ?_⟩) (h := ?_)
       rotate_left
       ·(intro w hSw; (try dsimp only at hSw); go_simp; (try with_reducible rfl))
       (try simp only [Act.put, tkA, tkB, tkC])
       refine tkH (i := 1) (d := some 49) (v := ?_) (hy := Or.inl ⟨by rfl, ?_⟩) (h := ?_)
       rotate_left
       ·(intro w hSw; (try dsimp only at hSw); go_simp; (try with_reducible rfl))
       (try simp only [Act.put, tkA, tkB, tkC])
       refine tkH (i := 2) (d := some 50) (v := ?_) (hy := Or.inl ⟨by rfl, ?_⟩) (h := ?_)
       rotate_left
       ·(intro w hSw; (try dsimp only at hSw); go_simp; (try with_reducible rfl))
       (try simp only [Act.put, tkA, tkB, tkC])
       refine tkH (i := 3) (d := some 51) (v := ?_) (hy := Or.inl ⟨by rfl, ?_⟩) (h := ?_)
       rotate_left
       ·(intro w hSw; (try dsimp only at hSw); go_simp; (try with_reducible rfl))
       (try simp only [Act.put, tkA, tkB, tkC])
       refine tkH (i := 4) (d := some 52) (v := ?_) (hy := Or.inl ⟨by rfl, ?_⟩) (h := ?_)
       rotate_left
       ·(intro w hSw; (try dsimp only at hSw); go_simp; (try with_reducible rfl))
       (try simp only [Act.put, tkA, tkB, tkC])
       refine tkH (i := 5) (d := some 53) (v := ?_) (hy := Or.inl ⟨by rfl, ?_⟩) (h := ?_)
       rotate_left
       ·(intro w hSw; (try dsimp only at hSw); go_simp; (try with_reducible rfl))
       (try simp only [Act.put, tkA, tkB, tkC])
       refine tkH (i := 6) (d := some 54) (v := ?_) (hy := Or.inl ⟨by rfl, ?_⟩) (h := ?_)
       rotate_left
       ·(intro w hSw; (try dsimp only at hSw); go_simp; (try with_reducible rfl))
       (try simp only [Act.put, tkA, tkB, tkC])
       refine wpAnyH_ready (rs := [7]) (by kernel_rfl) (by simp) ?_
       refine AllReadyH.cons (i := 7) rfl (fun K hK => ?_) AllReadyH.nil
       go_simp
       go_at_call 38
       refine (workerAt_any wA M wc x.workers.l swk _ (by omega) (hws5H.out.below hHeld.1) hriseH.out).mono ?_
       rintro e w7 ⟨iv, rfl, hiv, hb7⟩
       obtain rfl := hiv hnmsH.out
       rw [hixeH.out, hnmsH.out]
       have hS7 := hkSH.out _ _ hb7 hHeld
       clear hb7
       refine hK.out _ _ hS7 (fun hHeld => ?_)
       clear hK K
       (try simp only [Act.put, List.setIfInBounds_toArray, List.set_cons_zero, List.set_cons_succ])
       refine tkH (i := 8) (d := some 47) (v := ?_) (hy := Or.inl ⟨by rfl, ?_⟩) (h := ?_)
       rotate_left
       ·(intro w hSw; (try dsimp only at hSw); go_simp; (try with_reducible rfl))
       (try simp only [Act.put, tkA, tkB, tkC])
       refine tkH (i := 9) (d := some 56) (v := ?_) (hy := Or.inl ⟨by rfl, ?_⟩) (h := ?_)
       rotate_left
       ·(intro w hSw; (try dsimp only at hSw); go_simp; (try with_reducible rfl))
       (try simp only [Act.put, tkA, tkB, tkC])
       refine tkH (i := 10) (d := some 57) (v := ?_) (hy := Or.inl ⟨by rfl, ?_⟩) (h := ?_)
       rotate_left
       ·(intro w hSw; (try dsimp only at hSw); go_simp; (try with_reducible rfl))
       (try simp only [Act.put, tkA, tkB, tkC])
       refine tkH (i := 11) (d := some 10) (v := ?_) (hy := Or.inl ⟨by rfl, ?_⟩) (h := ?_)
       rotate_left
       ·(intro w hSw; (try dsimp only at hSw); go_simp; (try with_reducible rfl))
       (try simp only [Act.put, tkA, tkB, tkC])
       refine tkH (i := 12) (d := some 11) (v := ?_) (hy := Or.inl ⟨by rfl, ?_⟩) (h := ?_)
       rotate_left
       ·(intro w hSw; (try dsimp only at hSw); go_simp; (try with_reducible rfl))
       (try simp only [Act.put, tkA, tkB, tkC])
       refine wpAnyH_done (by kernel_rfl) ?_ _
       have hb7 := hHeld.1
       have R := hyesH.out _ hb7
       have g1 := keepC hb7 g1
       have g2 := ((hrow5H.out.bel hb7) ix hixl).2
       have hix0 : (0 : Int) ≤ (ix : Int) := by omega
       have hix1 : (ix : Int) < (M : Int) := by omega
       have hbv0 : (0 : Int) ≤ (bv : Int) := by omega
       have hbv1 : (bv : Int) + 1 ≤ 9000 := by omega
       clear hHeld hbv
       have hb7H := Lib.hid hb7; have RH := Lib.hid R; clear hb7 R
       go_wp2
       refine ⟨?rel, ?measure⟩
       case measure => (simp [intOf]; omega)
       case rel => first | exact RH.out | exact ⟨rfl, RH.out⟩ | ((try refine ⟨rfl, ?_⟩); (repeat apply Exists.intro); refine ⟨RH.out, ?_⟩; ((repeat' apply And.intro) <;> rfl))
      ·have R := hno (fun h => hB h.2)
       rw [← hW5] at R
       clear hno c0 c5 y1 hbt
       have hbqH := Lib.hid hbq; have hrowH := Lib.hid hrow; have hnmsH := Lib.hid hnms; have hW5H := Lib.hid hW5; have hsbH := Lib.hid hsb; have hbzH := Lib.hid hbz; have hb5H := Lib.hid hb5; have hrow5H := Lib.hid hrow5; have RH := Lib.hid R; have hsH := Lib.hid hs; have hslqH := Lib.hid hslq; clear hbq hrow hnms hW5 hsb hbz hb5 hrow5 R hs hslq
       go_wp2
       refine ⟨?rel, ?measure⟩
       case measure => (simp [intOf]; omega)
       case rel => first | exact RH.out | exact ⟨rfl, RH.out⟩ | ((try refine ⟨rfl, ?_⟩); (repeat apply Exists.intro); refine ⟨RH.out, ?_⟩; ((repeat' apply And.intro) <;> rfl))
     ·have R := hno (fun h => hA h.1)
      rw [← hW5] at R
      clear hno c0 c5 y1 hbt
      have hbqH := Lib.hid hbq; have hrowH := Lib.hid hrow; have hnmsH := Lib.hid hnms; have hW5H := Lib.hid hW5; have hsbH := Lib.hid hsb; have hbzH := Lib.hid hbz; have hb5H := Lib.hid hb5; have hrow5H := Lib.hid hrow5; have RH := Lib.hid R; have hsH := Lib.hid hs; have hslqH := Lib.hid hslq; clear hbq hrow hnms hW5 hsb hbz hb5 hrow5 R hs hslq
      go_wp2
      refine ⟨?rel, ?measure⟩
      case measure => (simp [intOf]; omega)
      case rel => first | exact RH.out | exact ⟨rfl, RH.out⟩ | ((try refine ⟨rfl, ?_⟩); (repeat apply Exists.intro); refine ⟨RH.out, ?_⟩; ((repeat' apply And.intro) <;> rfl))
    ·obtain rfl : q = n := by omega
     have e : r.take q = r := List.take_of_length_le (by have := hllH.out; omega)
     rw [e] at hrow
     have R := hendH.out _ hrow hbq
     clear e hrow
     have RH := Lib.hid R; have hbqH := Lib.hid hbq; clear R hbq
     go_wp2
     refine ⟨?rel, ?measure⟩
     case measure => (simp [intOf]; omega)
     case rel => first | exact RH.out | exact ⟨rfl, RH.out⟩ | ((try refine ⟨rfl, ?_⟩); (repeat apply Exists.intro); refine ⟨RH.out, ?_⟩; ((repeat' apply And.intro) <;> rfl))
  ·obtain rfl : k = N := by omega
   have hpa : pfx Rs k = Rs.flatten := pfx_all (by have := hHH.out.len; omega)
   rw [hpa] at hrow
   have hws2 := hwsH.out.below hb
   have hst3 : F3 x Rs.flatten t M wr (.slice none 0 0) (.int .i64 0) wr := ⟨0, 0, 0, none, Nat.zero_le _, rfl, rfl, by rw [List.take_zero, List.filter_nil]; exact Own.nil _ _, Nat.le_refl _, Below.refl _ _⟩
   have hRZ : ∀ (A : Option Addr) (n c : Nat) (W : World), Own RWorker 84 W wr.heap.size (.slice A n c) (x.workers.l.filter (frB Rs.flatten t)) → n ≤ M → Below wr.heap.size wr W → Z (.returned (.slice A n c)) W := fun A n c W h1 h2 h3 => by
    rw [← hZH.out]
    exact ⟨A, n, c, wr.heap.size, rfl, hbs, h1, by omega, hb.trans (h3.mono hbs)⟩
   obtain ⟨W2, hW2e⟩ : ∃ W, W = wr := ⟨_, rfl⟩
   rw [← hW2e] at hst3 hRZ hws2 hrow hbs c0 c5 hb
   clear c5
   have hbH := Lib.hid hb; have hrowH := Lib.hid hrow; have hws2H := Lib.hid hws2; have hst3H := Lib.hid hst3; have hRZH := Lib.hid hRZ; have hpaH := Lib.hid hpa; have hW2eH := Lib.hid hW2e; clear hb hrow hws2 hst3 hRZ hpa hW2e
   rw [← hW2eH.out]
   go_wp2_with fail
   clear c0
   go_loopw [12, 72] (fun v i wq => F3 x Rs.flatten t M W2 v i wq) (fun _ i _ => M - (intOf i).toNat)
   case atStart => exact hst3H.out
   case round =>
    clear hst3H
    obtain ⟨q, n3, c3, A3, hq, rfl, rfl, hown, hn3, hbq⟩ := hrel
    have hbqs := hbq.size
    by_cases hlt2 : q < M
    ·have hwsq := hws2H.out.below hbq
     obtain ⟨bw, ow, hA8, _⟩ := hwsq.2.1 (by omega)
     subst hA8
     obtain ⟨y, hy⟩ : ∃ y, x.workers.l[q]? = some y := ⟨x.workers.l[q]'(by have := hwlH.out; omega), List.getElem?_eq_getElem _⟩
     obtain ⟨e0, e1, e2, e3, e4, e5, e6⟩ := cells_Worker hwsq hy
     have hyw := wkOf_get hy
     have hfl : (x.workers.l.take (q + 1)).filter (frB Rs.flatten t) = (x.workers.l.take q).filter (frB Rs.flatten t) ++ (if frB Rs.flatten t y = true then [y] else []) := by
      rw [List.take_add_one, hy, Option.toList_some, List.filter_append]
      congr 1
      by_cases h : frB Rs.flatten t y = true
      ·rw [if_pos h, List.filter_cons_of_pos h]; rfl
      ·rw [if_neg h, List.filter_cons_of_neg h]; rfl
     have hmem : ∀ z ∈ (x.workers.l.take q).filter (frB Rs.flatten t) ++ [y], z ∈ x.workers.l := fun z hz => by
      rcases List.mem_append.1 hz with hz | hz
      ·exact List.mem_of_mem_take (List.mem_filter.1 hz).1
      ·rw [List.mem_singleton.1 hz]; exact List.mem_of_getElem? hy
     have hwok : ∀ W, Below W2.heap.size W2 W → ∀ z ∈ x.workers.l, RWorker.ok W z := fun W h z hz => RWorker.mono _ _ _ h (hws2H.out.2.2 z hz)
     have hbl := hbq.alloc hbqs (.cells #[.string y.name, .slice y.has.A y.has.n y.has.cap, .int .i64 y.slots, .int .i64 y.speed, .int .i64 y.from_, .int .i64 y.to_, .slice y.stands.A y.stands.n y.stands.cap] 84)
     have g1 := ((hrowH.out.bel hbl) q hlt2).1
     (try dsimp only at g1)
     rw [hyw] at g1
     obtain ⟨l3, hl3⟩ : ∃ l, (x.workers.l.take q).filter (frB Rs.flatten t) = l := ⟨_, rfl⟩
     rw [hl3] at hown hfl hmem
     have hl3n : l3.length = n3 := hown.len
     obtain ⟨bv, hbv⟩ : ∃ v, bsN Rs.flatten y.name t = v := ⟨_, rfl⟩
     rw [hbv] at g1
     have hfr : frB Rs.flatten t y = (decide (y.from_ ≤ t) && (decide (t < y.to_) && decide ((bv : Int) < y.slots))) := by unfold frB; rw [hbv]
     have hno : frB Rs.flatten t y = false → ∀ W, Below W2.heap.size W2 W → Own RWorker 84 W W2.heap.size (.slice A3 n3 c3) l3 → F3 x Rs.flatten t M W2 (.slice A3 n3 c3) (.int .i64 ((q : Int) + 1)) W := fun h W hW ho =>
      ⟨q + 1, n3, c3, A3, hlt2, by go_num, rfl, by rw [hfl, h, if_neg (by decide), List.append_nil]; exact ho, by omega, hW⟩
     have hyes : frB Rs.flatten t y = true → ∀ (A' : Option Addr) (c' : Nat) (W : World), Below W2.heap.size W2 W → Own RWorker 84 W W2.heap.size (.slice A' (n3 + 1) c') (l3 ++ [y]) → F3 x Rs.flatten t M W2 (.slice A' (n3 + 1) c') (.int .i64 ((q : Int) + 1)) W := fun h A' c' W hW ho =>
      ⟨q + 1, n3 + 1, c', A', hlt2, by go_num, rfl, by rw [hfl, if_pos h]; exact ho, by omega, hW⟩
     obtain ⟨ynm, yh, ysl, ysp, yfr, yto, yst⟩ := y
     simp only at e0 e1 e2 e3 e4 e5 e6 hfr hbl g1
     obtain ⟨W5, hW5⟩ : ∃ Y, wr.alloc (.cells #[.string ynm, .slice yh.A yh.n yh.cap, .int .i64 ysl, .int .i64 ysp, .int .i64 yfr, .int .i64 yto, .slice yst.A yst.n yst.cap] 84) = Y := ⟨_, rfl⟩
     obtain ⟨wb, hwb⟩ : ∃ b, wr.heap.size = b := ⟨_, rfl⟩
     have hB5 : Blk W5 wb [.string ynm, .slice yh.A yh.n yh.cap, .int .i64 ysl, .int .i64 ysp, .int .i64 yfr, .int .i64 yto, .slice yst.A yst.n yst.cap] := by rw [← hW5, ← hwb]; exact blk_new wr [.string ynm, .slice yh.A yh.n yh.cap, .int .i64 ysl, .int .i64 ysp, .int .i64 yfr, .int .i64 yto, .slice yst.A yst.n yst.cap] _
     rw [hW5] at hbl g1
     have hown5 : Own RWorker 84 W5 W2.heap.size (.slice A3 n3 c3) l3 := by rw [← hW5]; exact hown.alloc _
     have hb0 : (0 : Int) ≤ (q : Int) := by omega
     have hb1 : (q : Int) < (M : Int) := by omega
     have hbqH := Lib.hid hbq; have hyH := Lib.hid hy; have hywH := Lib.hid hyw; have hflH := Lib.hid hfl; have hmemH := Lib.hid hmem; have hwokH := Lib.hid hwok; have hblH := Lib.hid hbl; have hl3H := Lib.hid hl3; have hl3nH := Lib.hid hl3n; have hbvH := Lib.hid hbv; have hnoH := Lib.hid hno; have hyesH := Lib.hid hyes; have hW5H := Lib.hid hW5; have hwbH := Lib.hid hwb; have hB5H := Lib.hid hB5; have hown5H := Lib.hid hown5; have hownH := Lib.hid hown; have hwsqH := Lib.hid hwsq; have hfrH := Lib.hid hfr; clear hbq hy hyw hfl hmem hwok hbl hl3 hl3n hbv hno hyes hW5 hwb hB5 hown5 hown hwsq hfr
     go_wp2_with fail
     rw [hW5H.out, hwbH.out]
     clear e0 e1 e2 e3 e4 e5 e6
     have v0 := (hB5H.out 0 _ rfl).1
     have v1 := (hB5H.out 1 _ rfl).1
     have v2 := (hB5H.out 2 _ rfl).1
     have v3 := (hB5H.out 3 _ rfl).1
     have v4 := (hB5H.out 4 _ rfl).1
     have v5 := (hB5H.out 5 _ rfl).1
     have v6 := (hB5H.out 6 _ rfl).1
     have hfr := hfrH.out
     have hno := hnoH.out
     have hyes := hyesH.out
     clear hfrH hnoH hyesH
     by_cases hA : yfr ≤ t
     ·have dA : decide (yfr ≤ t) = true := decide_eq_true hA
      by_cases hB : t < yto
      ·have dB : decide (yto > t) = true := decide_eq_true hB
       by_cases hC : (bv : Int) < ysl
       ·have dC : decide ((bv : Int) < ysl) = true := decide_eq_true hC
        rw [decide_eq_true hA, decide_eq_true hB, decide_eq_true hC] at hfr
        replace hyes := hyes hfr
        clear hno hfr
        have hyesH := Lib.hid hyes; clear hyes
        go_quiet (fail)
        obtain ⟨W6, hW6⟩ : ∃ Y, W5.drewN nq = Y := ⟨_, rfl⟩
        have hb6 : Below W5.heap.size W5 W6 := by rw [← hW6]; exact bel_drewN (Below.refl _ _) nq
        rw [hW6]
        have v0 := keepC hb6 v0
        have v1 := keepC hb6 v1
        have v2 := keepC hb6 v2
        have v3 := keepC hb6 v3
        have v4 := keepC hb6 v4
        have v5 := keepC hb6 v5
        have v6 := keepC hb6 v6
        have hown6 := hown5H.out.below hb6
        have hbl6 := hblH.out.trans (hb6.mono hblH.out.size)
        have hyok := hwokH.out W6 hbl6 _ (List.mem_of_getElem? hyH.out)
        have hnw := slAt_new (R := RWorker) W6 84 (⟨ynm, yh, ysl, ysp, yfr, yto, yst⟩ : Worker) hyok
        have hsz6 := hbl6.size
        clear hyok g1
        have hW6H := Lib.hid hW6; have hb6H := Lib.hid hb6; have hown6H := Lib.hid hown6; have hbl6H := Lib.hid hbl6; have hnwH := Lib.hid hnw; have hsz6H := Lib.hid hsz6; clear hW6 hb6 hown6 hbl6 hnw hsz6
        go_wp2_with (at_builtin; go_loud (refine wpList_app rfl (.tmp 96) (.tmp 98) 22 rfl Tryz.underlying22 elem_Wk (by decide) rfl (hown6H.out.alloc _) (some ⟨W6.heap.size, 0, none⟩) 1 1 [(⟨ynm, yh, ysl, ysp, yfr, yto, yst⟩ : Worker)] rfl hnwH.out ?nn ?ok ?c1 ?c2 ?c3 (n3 + 1) ?c4 ?_))
        case nn => intro h; cases h
        case ok =>
         intro w' hg z hz _
         have hba := (hbl6H.out.alloc hsz6H.out (.cells #[.string ynm, .slice yh.A yh.n yh.cap, .int .i64 ysl, .int .i64 ysp, .int .i64 yfr, .int .i64 yto, .slice yst.A yst.n yst.cap] 84))
         exact hwokH.out w' (hba.grown hg hba.size (fun b hb => (hown6H.out.1.lt b hb).1)) z (hmemH.out z hz)
        case c1 => rw [hl3nH.out]; simp [maxLen]; omega
        case c2 => rw [hl3nH.out]; omega
        case c3 => have := hsz6H.out; simp; omega
        case c4 => rw [hl3nH.out]
        intro A' c' w9 hown9 hg9 hat9 hb9
        have R := hyesH.out A' c' w9 ((hbl6H.out.alloc hsz6H.out _).trans hb9) hown9
        clear hg9 hat9 hb9 hown9
        have RH := Lib.hid R; clear R
        go_wp2
        refine ⟨?rel, ?measure⟩
        case measure => (simp [intOf]; omega)
        case rel => first | exact RH.out | exact ⟨rfl, RH.out⟩ | ((try refine ⟨rfl, ?_⟩); (repeat apply Exists.intro); refine ⟨RH.out, ?_⟩; ((repeat' apply And.intro) <;> rfl))
       ·have dC : decide ((bv : Int) < ysl) = false := decide_eq_false hC
        rw [decide_eq_false hC, Bool.and_false, Bool.and_false] at hfr
        have R := fun nq => hno hfr (W5.drewN nq) (bel_drewN hblH.out nq) (hown5H.out.below (bel_drewN (Below.refl _ _) nq))
        clear hno hyes hfr
        have RH := Lib.hid R; clear R
        go_quiet (fail)
        go_wp2
        refine ⟨?rel, ?measure⟩
        case measure => (simp [intOf]; omega)
        case rel => first | exact (RH.out _) | exact ⟨rfl, (RH.out _)⟩ | ((try refine ⟨rfl, ?_⟩); (repeat apply Exists.intro); refine ⟨(RH.out _), ?_⟩; ((repeat' apply And.intro) <;> rfl))
      ·have dB : decide (yto > t) = false := decide_eq_false hB
       rw [decide_eq_false hB, Bool.false_and, Bool.and_false] at hfr
       have R := fun nq => hno hfr (W5.drewN nq) (bel_drewN hblH.out nq) (hown5H.out.below (bel_drewN (Below.refl _ _) nq))
       clear hno hyes hfr
       have RH := Lib.hid R; clear R
       go_quiet (fail)
       go_wp2
       refine ⟨?rel, ?measure⟩
       case measure => (simp [intOf]; omega)
       case rel => first | exact (RH.out _) | exact ⟨rfl, (RH.out _)⟩ | ((try refine ⟨rfl, ?_⟩); (repeat apply Exists.intro); refine ⟨(RH.out _), ?_⟩; ((repeat' apply And.intro) <;> rfl))
     ·have dA : decide (yfr ≤ t) = false := decide_eq_false hA
      rw [decide_eq_false hA, Bool.false_and] at hfr
      have R := fun nq => hno hfr (W5.drewN nq) (bel_drewN hblH.out nq) (hown5H.out.below (bel_drewN (Below.refl _ _) nq))
      clear hno hyes hfr
      have RH := Lib.hid R; clear R
      go_quiet (fail)
      go_wp2
      refine ⟨?rel, ?measure⟩
      case measure => (simp [intOf]; omega)
      case rel => first | exact (RH.out _) | exact ⟨rfl, (RH.out _)⟩ | ((try refine ⟨rfl, ?_⟩); (repeat apply Exists.intro); refine ⟨(RH.out _), ?_⟩; ((repeat' apply And.intro) <;> rfl))
    ·obtain rfl : q = M := by omega
     have e : x.workers.l.take q = x.workers.l := List.take_of_length_le (by have := hwlH.out; omega)
     rw [e] at hown
     have R := hRZH.out A3 n3 c3 wr hown hn3 hbq
     clear e hown
     have RH := Lib.hid R; have hbqH := Lib.hid hbq; clear R hbq
     go_wp2
     exact RH.out
end Go.Proofs.YtbnkoefljcekbaaGreatDoor.C9
