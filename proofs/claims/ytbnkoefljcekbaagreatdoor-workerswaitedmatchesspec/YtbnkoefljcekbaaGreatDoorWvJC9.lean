/-
 Several texts of mine as one, without what is not wanted here: XWtA, XDnBy, XRgt.
-/
import Derived.Test.YtbnkoefljcekbaaGreatDoorWvIC9
import Derived.Test.YtbnkoefljcekbaaGreatDoorWvGg
import Derived.Test.YtbnkoefljcekbaaGreatDoorWvGf
namespace Go.Proofs.YtbnkoefljcekbaaGreatDoor.C9
open Go.ChangeShapes Go.WideShapes Go.Deep Go.RowKit Go.Maps
set_option linter.unusedVariables false
set_option linter.unusedSimpArgs false

def atD (l : List Run) (t : Int) : Bool := l.any fun r => decide (r.from_ ≤ t) && (decide (r.to_ ≤ t) && decide (r.end_ = 1))
def atR (l : List Run) (t : Int) : Bool := l.any fun r => decide (r.from_ ≤ t) && decide (t < r.to_)
def atL (l : List Run) (t : Int) : Nat := l.countP fun r => decide (r.from_ ≤ t) && (decide (r.to_ ≤ t) && decide (r.end_ = 2))
/-- a waiter in memory, to be read -/
structure WtH (x : Farm) (wtb rb N : Nat) (Rs : List (List Run)) (W : World) : Prop where
 c0 : W.cell? ⟨wtb, 0, none⟩ = some (.slice x.workers.A x.workers.n x.workers.cap)
 c1 : W.cell? ⟨wtb, 1, none⟩ = some (.slice x.works.A x.works.n x.works.cap)
 c3 : W.cell? ⟨wtb, 3, none⟩ = some (.int .i64 x.tries)
 c5 : W.cell? ⟨wtb, 5, none⟩ = some (.slice (some ⟨rb, 0, none⟩) N N)
 len : Rs.length = N
 rows : ∀ k r, Rs[k]? = some r → ∃ A n c, W.cell? ⟨rb, k, none⟩ = some (.slice A n c) ∧ SlAt RRun W A n r
 ws : SlAt RWorker W x.workers.A x.workers.n x.workers.l
 xs : SlAt RWork W x.works.A x.works.n x.works.l
theorem WtH.below {x : Farm} {wtb rb N : Nat} {Rs : List (List Run)} {W W' : World} (h : WtH x wtb rb N Rs W) (hb : Below W.heap.size W W') : WtH x wtb rb N Rs W' :=
 ⟨keepC hb h.c0, keepC hb h.c1, keepC hb h.c3, keepC hb h.c5, h.len, fun k r hr => by obtain ⟨A, n, c, h1, h2⟩ := h.rows k r hr; exact ⟨A, n, c, keepC hb h1, h2.below hb⟩, h.ws.below hb, h.xs.below hb⟩
def AtRel (l : List Run) (t : Int) (n b : Nat) (w : World) (i : Value) (wr : World) : Prop :=
 ∃ j : Nat, j ≤ n ∧ i = .int .i64 j ∧ Blk wr (b + 1) [.bool (atD (l.take j) t), .bool (atR (l.take j) t), .int .i64 (atL (l.take j) t)] ∧ Blk wr b [.bool false, .bool false, .int .i64 0] ∧ atL (l.take j) t ≤ j ∧ Below w.heap.size w wr
def AtAns (l : List Run) (t : Int) (w : World) (e : Ending) (w' : World) : Prop := e = .returned (.agg #[.bool (atD l t), .bool (atR l t), .int .i64 (atL l t)]) ∧ Below w.heap.size w w'
theorem at_take {l : List Run} {j : Nat} {r : Run} (h : l[j]? = some r) (t : Int) :
  atD (l.take (j + 1)) t = (atD (l.take j) t || (decide (r.from_ ≤ t) && (decide (r.to_ ≤ t) && decide (r.end_ = 1)))) ∧ atR (l.take (j + 1)) t = (atR (l.take j) t || (decide (r.from_ ≤ t) && decide (t < r.to_))) ∧
  atL (l.take (j + 1)) t = atL (l.take j) t + (if (decide (r.from_ ≤ t) && (decide (r.to_ ≤ t) && decide (r.end_ = 2))) = true then 1 else 0) := by
 unfold atD atR atL
 rw [List.take_add_one, h, Option.toList_some, List.any_append, List.any_append, List.countP_append, List.countP_singleton]
 simp
theorem Blk.bel {w w' : World} {b : Nat} {vs : List Value} (h : Blk w b vs) (hv : vs ≠ []) (hb : Below w.heap.size w w') : Blk w' b vs := h.keep (hb.block b (h.lt hv))
set_option maxRecDepth 100000 in
set_option maxHeartbeats 8000000 in
theorem at_any {x : Farm} {wtb rb N : Nat} {Rs : List (List Run)} (w : World) (hH : WtH x wtb rb N Rs w) (k : Nat) (l : List Run) (hr : Rs[k]? = some l) (t : Int) (hlen : l.length ≤ 4000) (hN : N ≤ 1000) :
  Calls Tryz.prog 105 #[.pointer (some ⟨wtb, 0, none⟩), .int .i64 k, .int .i64 t] w (AtAns l t w) := by
 have hk : k < N := by have := (List.getElem?_eq_some_iff.1 hr).1; have := hH.len; omega
 obtain ⟨A, n, c, g0, hsl⟩ := hH.rows k l hr
 have hll := hsl.1
 have c5 := hH.c5
 obtain ⟨W1, hW1⟩ : ∃ Y, w.alloc (.cells #[.bool false, .bool false, .int .i64 0] 137) = Y := ⟨_, rfl⟩
 obtain ⟨W2, hW2⟩ : ∃ Y, W1.alloc (.cells #[.bool false, .bool false, .int .i64 0] 137) = Y := ⟨_, rfl⟩
 have hb1 : Below w.heap.size w W1 := by rw [← hW1]; exact (Below.refl _ _).alloc (Nat.le_refl _) _
 have hb12 : Below W1.heap.size W1 W2 := by rw [← hW2]; exact (Below.refl _ _).alloc (Nat.le_refl _) _
 have hb2 := hb1.trans (hb12.mono hb1.size)
 obtain ⟨b, hbw⟩ : ∃ b, w.heap.size = b := ⟨_, rfl⟩
 have hs1 : W1.heap.size = b + 1 := by rw [← hW1, ← hbw]; simp
 have hB1 : Blk W1 b [.bool false, .bool false, .int .i64 0] := by rw [← hW1, ← hbw]; exact blk_new w [.bool false, .bool false, .int .i64 0] _
 have hB2 : Blk W2 (b + 1) [.bool false, .bool false, .int .i64 0] := by rw [← hs1, ← hW2]; exact blk_new W1 [.bool false, .bool false, .int .i64 0] _
 have hst : AtRel l t n b w (.int .i64 0) W2 := ⟨0, Nat.zero_le _, rfl, hB2, hB1.bel (by simp) hb12, Nat.le_refl _, hb2⟩
 have c5 := keepC hb2 c5
 have g0 := keepC hb2 g0
 have hk0 : (0 : Int) ≤ (k : Int) := by omega
 have hk1 : (k : Int) < (N : Int) := by omega
 have hn4 : n ≤ 4000 := by omega
 have c5 : ((w.alloc (.cells #[.bool false, .bool false, .int .i64 0] 137)).alloc (.cells #[.bool false, .bool false, .int .i64 0] 137)).cell? ⟨wtb, 5, none⟩ = some (.slice (some ⟨rb, 0, none⟩) N N) := by rw [hW1, hW2]; exact c5
 have g0 : ((w.alloc (.cells #[.bool false, .bool false, .int .i64 0] 137)).alloc (.cells #[.bool false, .bool false, .int .i64 0] 137)).cell? ⟨rb, k, none⟩ = some (.slice A n c) := by rw [hW1, hW2]; exact g0
 have RZ0 : ∀ W, Below w.heap.size w W → AtAns l t w (.returned (.agg #[.bool (atD l t), .bool (atR l t), .int .i64 (atL l t)])) W := fun W h => ⟨rfl, h⟩
 have RZ0H := Lib.hid RZ0
 clear RZ0
 have hHH := Lib.hid hH
 clear hH
 have hrH := Lib.hid hr
 clear hr
 have hslH := Lib.hid hsl
 clear hsl
 have hllH := Lib.hid hll
 clear hll
 have hW1H := Lib.hid hW1
 clear hW1
 have hW2H := Lib.hid hW2
 clear hW2
 have hb1H := Lib.hid hb1
 clear hb1
 have hb12H := Lib.hid hb12
 clear hb12
 have hb2H := Lib.hid hb2
 clear hb2
 have hbwH := Lib.hid hbw
 clear hbw
 have hs1H := Lib.hid hs1
 clear hs1
 have hB1H := Lib.hid hB1
 clear hB1
 have hB2H := Lib.hid hB2
 clear hB2
 have hstH := Lib.hid hst
 clear hst
 go_enter Tryz.func105, Tryz.ntmps105
 go_wp2_with fail
 clear c5 g0
 rw [hW1H.out, hW2H.out, hbwH.out]
 go_loopw [18] (fun i wr => AtRel l t n b w i wr) (fun i _ => n - (intOf i).toNat)
 case atStart => exact hstH.out
 case round =>
  clear hstH
  obtain ⟨j, hj, rfl, hP, hQ, hcj, hb⟩ := hrel
  have hbs := hb.size
  by_cases hlt : j < n
  ·have hslr := hslH.out.below hb
   obtain ⟨bl, ol, hA8, _⟩ := hslr.2.1 (by omega)
   subst hA8
   obtain ⟨s, hs⟩ : ∃ s, l[j]? = some s := ⟨l[j]'(by have := hllH.out; omega), List.getElem?_eq_getElem _⟩
   obtain ⟨e0, e1, e2, e3, e4⟩ := cells_Run hslr hs
   obtain ⟨a1, a2, a3⟩ := at_take hs t
   obtain ⟨vd, hvd⟩ : ∃ v, atD (l.take j) t = v := ⟨_, rfl⟩
   obtain ⟨vr, hvr⟩ : ∃ v, atR (l.take j) t = v := ⟨_, rfl⟩
   obtain ⟨vl, hvl⟩ : ∃ v, atL (l.take j) t = v := ⟨_, rfl⟩
   rw [hvd] at a1 hP
   rw [hvr] at a2 hP
   rw [hvl] at a3 hP hcj
   obtain ⟨sid, swk, sfm, sto, sen⟩ := s
   simp only at e0 e1 e2 e3 e4 a1 a2 a3
   have hbz := (Below.refl wr.heap.size wr).alloc (Nat.le_refl _) (.cells #[.string sid, .string swk, .int .i64 sfm, .int .i64 sto, .int .i64 sen] 34)
   have hb5 := hb.trans (hbz.mono hbs)
   have hP5 := hP.bel (by simp) hbz
   have hQ5 := hQ.bel (by simp) hbz
   have p0 := (hP5 0 _ rfl).1
   have p1 := (hP5 1 _ rfl).1
   have p2 := (hP5 2 _ rfl).1
   have z0 := (hP5 0 _ rfl).2
   have z1 := (hP5 1 _ rfl).2
   have z2 := (hP5 2 _ rfl).2
   have hwsz : w.heap.size ≤ b + 1 := by rw [hbwH.out]; omega
   have R : ∀ (vd' vr' : Bool) (vl' : Nat) (wx : World), atD (l.take (j + 1)) t = vd' → atR (l.take (j + 1)) t = vr' → atL (l.take (j + 1)) t = vl' → vl' ≤ j + 1 → Blk wx (b + 1) [.bool vd', .bool vr', .int .i64 vl'] → Blk wx b [.bool false, .bool false, .int .i64 0] → Below w.heap.size w wx → AtRel l t n b w (.int .i64 ((j : Int) + 1)) wx := by
    intro vd' vr' vl' wx h1 h2 h3 h4 h5 h6 h7
    exact ⟨j + 1, hlt, by go_num, by rw [h1, h2, h3]; exact h5, h6, by rw [h3]; exact h4, h7⟩
   have hset : ∀ (k : Nat) (u : Value) (W : World), Blk W b [.bool false, .bool false, .int .i64 0] → Blk (W.setCell ⟨b + 1, k, none⟩ u) b [.bool false, .bool false, .int .i64 0] := fun k u W h => h.keep ((grown_setc W ⟨b + 1, k, none⟩ u).block b (h.lt (by simp)) (by simp))
   clear hP hQ hvd hvr hvl
   by_cases hA : sfm ≤ t
   ·have dA : decide (sfm > t) = false := decide_eq_false (by omega)
    rw [decide_eq_true hA, Bool.true_and] at a1 a2 a3
    by_cases hB : t < sto
    ·have dB : decide (sto > t) = true := decide_eq_true hB
     rw [decide_eq_false (by omega : ¬ sto ≤ t), Bool.false_and, Bool.or_false] at a1
     rw [decide_eq_true hB, Bool.or_true] at a2
     rw [decide_eq_false (by omega : ¬ sto ≤ t), Bool.false_and, if_neg (by decide), Nat.add_zero] at a3
     have R9 := R vd true vl _ a1 a2 a3 (by omega) ((hP5.set (k := 1) (by simp) (.bool true))) (hset 1 (.bool true) _ hQ5) (hb5.setCell (p := ⟨b + 1, 1, none⟩) hwsz _)
     clear R hset a1 a2 a3 hA hB
     have R9H := Lib.hid R9
     clear R9
     have hbH := Lib.hid hb
     clear hb
     have hbzH := Lib.hid hbz
     clear hbz
     have hb5H := Lib.hid hb5
     clear hb5
     have hP5H := Lib.hid hP5
     clear hP5
     have hQ5H := Lib.hid hQ5
     clear hQ5
     have hsH := Lib.hid hs
     clear hs
     have hslrH := Lib.hid hslr
     clear hslr
     have hwszH := Lib.hid hwsz
     clear hwsz
     go_wp2
     refine ⟨?rel, ?measure⟩
     case measure => (simp [intOf]; omega)
     case rel => first | exact R9H.out | exact ⟨rfl, R9H.out⟩ | ((try refine ⟨rfl, ?_⟩); (repeat apply Exists.intro); refine ⟨R9H.out, ?_⟩; ((repeat' apply And.intro) <;> rfl))
    ·have dB : decide (sto > t) = false := decide_eq_false hB
     rw [decide_eq_true (by omega : sto ≤ t), Bool.true_and] at a1 a3
     rw [decide_eq_false hB, Bool.or_false] at a2
     by_cases hD : sen = 1
     ·subst hD
      rw [decide_eq_true rfl, Bool.or_true] at a1
      rw [decide_eq_false (by decide), if_neg (by decide), Nat.add_zero] at a3
      have R9 := R true vr vl _ a1 a2 a3 (by omega) ((hP5.set (k := 0) (by simp) (.bool true))) (hset 0 (.bool true) _ hQ5) (hb5.setCell (p := ⟨b + 1, 0, none⟩) hwsz _)
      clear R hset a1 a2 a3 hA hB
      have R9H := Lib.hid R9
      clear R9
      have hbH := Lib.hid hb
      clear hb
      have hbzH := Lib.hid hbz
      clear hbz
      have hb5H := Lib.hid hb5
      clear hb5
      have hP5H := Lib.hid hP5
      clear hP5
      have hQ5H := Lib.hid hQ5
      clear hQ5
      have hsH := Lib.hid hs
      clear hs
      have hslrH := Lib.hid hslr
      clear hslr
      have hwszH := Lib.hid hwsz
      clear hwsz
      go_wp2
      refine ⟨?rel, ?measure⟩
      case measure => (simp [intOf]; omega)
      case rel => first | exact R9H.out | exact ⟨rfl, R9H.out⟩ | ((try refine ⟨rfl, ?_⟩); (repeat apply Exists.intro); refine ⟨R9H.out, ?_⟩; ((repeat' apply And.intro) <;> rfl))
     ·rw [decide_eq_false hD, Bool.or_false] at a1
      have dD : (sen == 1) = false := by simpa using hD
      by_cases hE : sen = 2
      ·subst hE
       rw [decide_eq_true rfl, if_pos rfl] at a3
       have hvl0 : (vl : Int) + 1 ≤ 4001 := by have := hllH.out; omega
       have R9 := R vd vr (vl + 1) _ a1 a2 a3 (by omega) ((hP5.set (k := 2) (by simp) (.int .i64 ((vl : Int) + 1)))) (hset 2 (.int .i64 ((vl : Int) + 1)) _ hQ5) (hb5.setCell (p := ⟨b + 1, 2, none⟩) hwsz _)
       clear R hset a1 a2 a3 hA hB hD
       have R9H := Lib.hid R9
       clear R9
       have hbH := Lib.hid hb
       clear hb
       have hbzH := Lib.hid hbz
       clear hbz
       have hb5H := Lib.hid hb5
       clear hb5
       have hP5H := Lib.hid hP5
       clear hP5
       have hQ5H := Lib.hid hQ5
       clear hQ5
       have hsH := Lib.hid hs
       clear hs
       have hslrH := Lib.hid hslr
       clear hslr
       have hwszH := Lib.hid hwsz
       clear hwsz
       go_wp2
       refine ⟨?rel, ?measure⟩
       case measure => (simp [intOf]; omega)
       case rel => first | exact R9H.out | exact ⟨rfl, R9H.out⟩ | ((try refine ⟨rfl, ?_⟩); (repeat apply Exists.intro); refine ⟨R9H.out, ?_⟩; ((repeat' apply And.intro) <;> rfl))
      ·rw [decide_eq_false hE, if_neg (by decide), Nat.add_zero] at a3
       have dE : (sen == 2) = false := by simpa using hE
       have R9 := R vd vr vl _ a1 a2 a3 (by omega) hP5 hQ5 hb5
       clear R hset a1 a2 a3 hA hB hD hE
       have R9H := Lib.hid R9
       clear R9
       have hbH := Lib.hid hb
       clear hb
       have hbzH := Lib.hid hbz
       clear hbz
       have hb5H := Lib.hid hb5
       clear hb5
       have hP5H := Lib.hid hP5
       clear hP5
       have hQ5H := Lib.hid hQ5
       clear hQ5
       have hsH := Lib.hid hs
       clear hs
       have hslrH := Lib.hid hslr
       clear hslr
       have hwszH := Lib.hid hwsz
       clear hwsz
       go_wp2
       refine ⟨?rel, ?measure⟩
       case measure => (simp [intOf]; omega)
       case rel => first | exact R9H.out | exact ⟨rfl, R9H.out⟩ | ((try refine ⟨rfl, ?_⟩); (repeat apply Exists.intro); refine ⟨R9H.out, ?_⟩; ((repeat' apply And.intro) <;> rfl))
   ·have dA : decide (sfm > t) = true := decide_eq_true (by omega)
    rw [decide_eq_false hA, Bool.false_and, Bool.or_false] at a1 a2
    rw [decide_eq_false hA, Bool.false_and, if_neg (by decide), Nat.add_zero] at a3
    have R9 := R vd vr vl _ a1 a2 a3 (by omega) hP5 hQ5 hb5
    clear R hset a1 a2 a3 hA
    have R9H := Lib.hid R9
    clear R9
    have hbH := Lib.hid hb
    clear hb
    have hbzH := Lib.hid hbz
    clear hbz
    have hb5H := Lib.hid hb5
    clear hb5
    have hP5H := Lib.hid hP5
    clear hP5
    have hQ5H := Lib.hid hQ5
    clear hQ5
    have hsH := Lib.hid hs
    clear hs
    have hslrH := Lib.hid hslr
    clear hslr
    have hwszH := Lib.hid hwsz
    clear hwsz
    go_wp2
    refine ⟨?rel, ?measure⟩
    case measure => (simp [intOf]; omega)
    case rel => first | exact R9H.out | exact ⟨rfl, R9H.out⟩ | ((try refine ⟨rfl, ?_⟩); (repeat apply Exists.intro); refine ⟨R9H.out, ?_⟩; ((repeat' apply And.intro) <;> rfl))
  ·obtain rfl : j = n := by omega
   have e : l.take j = l := List.take_of_length_le (by have := hllH.out; omega)
   rw [e] at hP
   have p0 := (hP 0 _ rfl).1
   have p1 := (hP 1 _ rfl).1
   have p2 := (hP 2 _ rfl).1
   have q0 := (hQ 0 _ rfl).1
   have q1 := (hQ 1 _ rfl).1
   have q2 := (hQ 2 _ rfl).1
   have z0 := (hQ 0 _ rfl).2
   have z1 := (hQ 1 _ rfl).2
   have z2 := (hQ 2 _ rfl).2
   have hwsz : w.heap.size ≤ b := by rw [hbwH.out]; omega
   have R9 := ((hb.setCell (p := ⟨b, 0, none⟩) hwsz (.bool (atD l t))).setCell (p := ⟨b, 1, none⟩) hwsz (.bool (atR l t))).setCell (p := ⟨b, 2, none⟩) hwsz (.int .i64 (atL l t))
   obtain ⟨vd, hvd⟩ : ∃ v, atD l t = v := ⟨_, rfl⟩
   obtain ⟨vr, hvr⟩ : ∃ v, atR l t = v := ⟨_, rfl⟩
   obtain ⟨vl, hvl⟩ : ∃ v, atL l t = v := ⟨_, rfl⟩
   rw [hvd] at p0 R9
   rw [hvr] at p1 R9
   rw [hvl] at p2 R9
   clear hP hQ e
   have R9H := Lib.hid R9
   clear R9
   have hbH := Lib.hid hb
   clear hb
   have hvdH := Lib.hid hvd
   clear hvd
   have hvrH := Lib.hid hvr
   clear hvr
   have hvlH := Lib.hid hvl
   clear hvl
   have hwszH := Lib.hid hwsz
   clear hwsz
   go_wp2_with fail
   exact bodyPost_ret (v := .agg #[.bool vd, .bool vr, .int .i64 vl]) (by simp [results, Tryz.results105, go_sem, q0, q1, q2]) rfl ⟨by rw [hvdH.out, hvrH.out, hvlH.out], R9H.out⟩
end Go.Proofs.YtbnkoefljcekbaaGreatDoor.C9

namespace Go.Proofs.YtbnkoefljcekbaaGreatDoor.C9
open Go.ChangeShapes Go.WideShapes Go.Deep Go.RowKit Go.Maps
set_option linter.unusedVariables false
set_option linter.unusedSimpArgs false

def dmF (s : ByteArray) (m : Int) (r : Run) : Int := if r.id_ = s ∧ r.end_ = 1 ∧ (m < 0 ∨ r.to_ < m) then r.to_ else m
def dmL (l : List Run) (s : ByteArray) : Int := l.foldl (dmF s) (-1)
theorem dm_go (s : ByteArray) (t : Int) : ∀ (l : List Run) (m : Int), (∀ r ∈ l, 0 ≤ r.to_) → ((0 ≤ l.foldl (dmF s) m ∧ l.foldl (dmF s) m ≤ t) ↔ ((0 ≤ m ∧ m ≤ t) ∨ dnB l s t = true))
 | [], m, _ => by simp [dnB]
 | r :: l, m, h => by
  rw [List.foldl_cons, dm_go s t l _ (fun y hy => h y (List.mem_cons_of_mem _ hy))]
  have h0 := h r List.mem_cons_self
  have e : dnB (r :: l) s t = ((decide (r.id_ = s) && (decide (r.end_ = 1) && decide (r.to_ ≤ t))) || dnB l s t) := rfl
  rw [e, Bool.or_eq_true]
  unfold dmF
  generalize (dnB l s t = true) = P
  by_cases h1 : r.id_ = s
  ·by_cases h2 : r.end_ = 1
   ·have h4 : ((decide (r.id_ = s) && (decide (r.end_ = 1) && decide (r.to_ ≤ t))) = true) ↔ r.to_ ≤ t := by simp [h1, h2]
    rw [h4]
    by_cases h3 : m < 0 ∨ r.to_ < m
    ·rw [if_pos ⟨h1, h2, h3⟩]
     by_cases hP : P
     ·simp only [hP, or_true]
     ·simp only [hP, or_false]; omega
    ·rw [if_neg (fun hh => h3 hh.2.2)]
     by_cases hP : P
     ·simp only [hP, or_true]
     ·simp only [hP, or_false]; omega
   ·rw [if_neg (fun hh => h2 hh.2.1), decide_eq_false h2, Bool.false_and, Bool.and_false]
    simp
  ·rw [if_neg (fun hh => h1 hh.1), decide_eq_false h1, Bool.false_and]
   simp
theorem dm_ok {l : List Run} (h : ∀ r ∈ l, 0 ≤ r.to_) (s : ByteArray) (t : Int) : (0 ≤ dmL l s ∧ dmL l s ≤ t) ↔ dnB l s t = true := by
 unfold dmL
 rw [dm_go s t l _ h]
 constructor
 ·rintro (h | h)
  ·omega
  ·exact h
 ·exact .inr
theorem dm_take {l : List Run} {k : Nat} {r : Run} (h : l[k]? = some r) (s : ByteArray) : dmL (l.take (k + 1)) s = dmF s (dmL (l.take k) s) r := by
 unfold dmL
 rw [List.take_add_one, h, Option.toList_some, List.foldl_append]; rfl
theorem IRow.bel {w w' : World} {b n : Nat} {f : Nat → Int} (h : IRow w b n f) (hb : Below w.heap.size w w') : IRow w' b n f := fun j hj => by
 have hlt := cell?_lt (h j hj).1
 exact ⟨(World.cell?_of_block (a := ⟨b, j, none⟩) (hb.block b hlt)).trans (h j hj).1, (World.frozen?_of_block (a := ⟨b, j, none⟩) (hb.block b hlt)).trans (h j hj).2⟩
def Dn1 (N B : Nat) (W1 : World) (i : Value) (wr : World) : Prop := ∃ k : Nat, k ≤ N ∧ i = .int .i64 k ∧ IRow wr B N (fun j => if j < k then -1 else 0) ∧ Below W1.heap.size W1 wr
def Dn2 (x : Farm) (l : List Run) (N B n : Nat) (W1 : World) (i : Value) (wr : World) : Prop := ∃ k : Nat, k ≤ n ∧ i = .int .i64 k ∧ IRow wr B N (fun j => dmL (l.take k) (woOf x j).id_) ∧ Below W1.heap.size W1 wr
def DnAns (x : Farm) (l : List Run) (w : World) (e : Ending) (w' : World) : Prop :=
 ∃ B, e = .returned (.slice (some ⟨B, 0, none⟩) x.works.n x.works.n) ∧ IRow w' B x.works.n (fun k => dmL l (woOf x k).id_) ∧ w.heap.size ≤ B ∧ Below w.heap.size w w'
set_option maxRecDepth 100000 in
set_option maxHeartbeats 8000000 in
theorem doneBy_any (x : Farm) (A : Option Addr) (n cap : Nat) (l : List Run) (w : World) (hx : RFarm.ok w x) (hl : SlAt RRun w A n l) (hn : n ≤ 4000) (hok : FarmOk x) (hid : ∀ r ∈ l, hasId x.works.l r.id_ = true) (hto : ∀ r ∈ l, 0 ≤ r.to_ ∧ r.to_ ≤ 1000000000) :
  Calls Tryz.prog 61 #[farmV x, .slice A n cap] w (DnAns x l w) := by
 unfold farmV
 have hN : x.works.n = x.works.l.length := hx.2.1.1.1.symm
 have hN2 : x.works.n ≤ 200 := by have := hok.wo.len; omega
 have hxs := hx.2.1.1
 have RZ : ∀ W1 B W, Below w.heap.size w W1 → W1.heap.size = B → IRow W B x.works.n (fun k => dmL l (woOf x k).id_) → Below W1.heap.size W1 W → DnAns x l w (.returned (.slice (some ⟨B, 0, none⟩) x.works.n x.works.n)) W := fun W1 B W hba hB h hb =>
  ⟨B, rfl, h, by rw [← hB]; exact hba.size, hba.trans (hb.mono hba.size)⟩
 obtain ⟨N, hNe⟩ : ∃ m, x.works.n = m := ⟨_, rfl⟩
 obtain ⟨xA, hxA⟩ : ∃ m, x.works.A = m := ⟨_, rfl⟩
 obtain ⟨xc, hxc⟩ : ∃ m, x.works.cap = m := ⟨_, rfl⟩
 obtain ⟨Z, hZ⟩ : ∃ Z, DnAns x l w = Z := ⟨_, rfl⟩
 rw [hZ] at RZ ⊢
 have hNl : x.works.l.length = N := by rw [← hNe]; exact hN.symm
 clear hN hZ
 rw [hNe] at hN2 hxs RZ ⊢
 rw [hxA] at hxs ⊢
 rw [hxc]
 obtain ⟨W1, hW1⟩ : ∃ Y, w.alloc (.cells #[.slice x.workers.A x.workers.n x.workers.cap, .slice xA N xc, .slice x.lost.A x.lost.n x.lost.cap, .int .i64 x.tries, .bool x.doubles] 26) = Y := ⟨_, rfl⟩
 obtain ⟨xb, hxb⟩ : ∃ b, w.heap.size = b := ⟨_, rfl⟩
 have hba : Below w.heap.size w W1 := by rw [← hW1]; exact (Below.refl _ _).alloc (Nat.le_refl _) _
 have c1 : W1.cell? ⟨xb, 1, none⟩ = some (.slice xA N xc) := by rw [← hW1, ← hxb]; exact cell_new _ _ _ 1
 have hxs := hxs.below hba
 have hl1 := hl.below hba
 have hC1 : ∀ W, Below W1.heap.size W1 W → W.cell? ⟨xb, 1, none⟩ = some (.slice xA N xc) := fun W h => keepC h c1
 have hm := run_makeInts N (by omega)
 have hll := hl1.1
 have hbA : ∀ W : World, Below W.heap.size W (W.alloc (.cells (madeI N) 3)) := fun W => (Below.refl _ _).alloc (Nat.le_refl _) _
 have hB : W1.heap.size = xb + 1 := by rw [← hW1, ← hxb]; simp
 obtain ⟨W2, hW2⟩ : ∃ Y, W1.alloc (.cells (madeI N) 3) = Y := ⟨_, rfl⟩
 have hst : Dn1 N (xb + 1) W1 (.int .i64 0) W2 := by
  rw [← hW2, ← hB]
  exact ⟨0, Nat.zero_le _, rfl, (irow_made _ _).congr (fun j _ => by rw [if_neg (by omega)]), hbA W1⟩
 have RZ := fun W => RZ W1 (xb + 1) W hba hB
 have hrise := hok.wo.rise
 have hBle : W1.heap.size ≤ xb + 1 := Nat.le_of_eq hB
 have RZH := Lib.hid RZ
 clear RZ
 have hxH := Lib.hid hx
 clear hx
 have hW1H := Lib.hid hW1
 clear hW1
 have hxbH := Lib.hid hxb
 clear hxb
 have hbaH := Lib.hid hba
 clear hba
 have hstH := Lib.hid hst
 clear hst
 have hxsH := Lib.hid hxs
 clear hxs
 have hl1H := Lib.hid hl1
 clear hl1
 have hNeH := Lib.hid hNe
 clear hNe
 have hxAH := Lib.hid hxA
 clear hxA
 have hxcH := Lib.hid hxc
 clear hxc
 have hNlH := Lib.hid hNl
 clear hNl
 have hC1H := Lib.hid hC1
 clear hC1
 have hllH := Lib.hid hll
 clear hll
 have hbAH := Lib.hid hbA
 clear hbA
 have hlH := Lib.hid hl
 clear hl
 have hokH := Lib.hid hok
 clear hok
 have hidH := Lib.hid hid
 clear hid
 have htoH := Lib.hid hto
 clear hto
 have hBH := Lib.hid hB
 clear hB
 have hriseH := Lib.hid hrise
 clear hrise
 have hW2H := Lib.hid hW2
 clear hW2
 have hBleH := Lib.hid hBle
 clear hBle
 go_enter Tryz.func61, Tryz.ntmps61
 go_wp2_with fail
 rw [hW1H.out, hxbH.out]
 have c1 := hC1H.out W1 (Below.refl _ _)
 go_wp2_with fail
 simp only [hW2H.out, hBH.out]
 go_loopw [16] (fun i wr => Dn1 N (xb + 1) W1 i wr) (fun i _ => N - (intOf i).toNat)
 case atStart => exact hstH.out
 case round =>
  clear hstH
  obtain ⟨k, hk, rfl, hrow, hb⟩ := hrel
  by_cases hlt : k < N
  ·have f0 := (hrow k hlt).1
   have f1 := (hrow k hlt).2
   have R : Dn1 N (xb + 1) W1 (.int .i64 ((k : Int) + 1)) (wr.setCell ⟨xb + 1, k, none⟩ (.int .i64 (-1))) := by
    refine ⟨k + 1, hlt, by go_num, (hrow.set (-1)).congr (fun j hj => ?_), hb.setCell (p := ⟨xb + 1, k, none⟩) hBleH.out _⟩
    by_cases e : j = k
    ·subst e; rw [if_pos rfl, if_pos (by omega)]
    ·rw [if_neg e]
     by_cases e2 : j < k
     ·rw [if_pos e2, if_pos (by omega)]
     ·rw [if_neg e2, if_neg (by omega)]
   clear hrow
   have RH := Lib.hid R
   clear R
   have hbH := Lib.hid hb
   clear hb
   go_wp2
   refine ⟨?rel, ?measure⟩
   case measure => (simp [intOf]; omega)
   case rel => first | exact RH.out | exact ⟨rfl, RH.out⟩ | ((try refine ⟨rfl, ?_⟩); (repeat apply Exists.intro); refine ⟨RH.out, ?_⟩; ((repeat' apply And.intro) <;> rfl))
  ·obtain rfl : k = N := by omega
   have hst2 : Dn2 x l k (xb + 1) n W1 (.int .i64 0) wr := by
    refine ⟨0, Nat.zero_le _, rfl, hrow.congr (fun j hj => ?_), hb⟩
    rw [if_pos hj]; rfl
   clear hrow hb
   have hst2H := Lib.hid hst2
   clear hst2
   go_wp2_with fail
   obtain ⟨wa, rfl⟩ : ∃ W, W = wr := ⟨_, rfl⟩
   go_loopw [25] (fun i wq => Dn2 x l k (xb + 1) n W1 i wq) (fun i _ => n - (intOf i).toNat)
   case atStart => exact hst2H.out
   case round =>
    clear hst2H
    obtain ⟨q, hq, rfl, hrow, hb⟩ := hrel
    have hbs := hb.size
    by_cases hlt2 : q < n
    ·have hsl := hl1H.out.below hb
     obtain ⟨bl, ol, hA8, _⟩ := hsl.2.1 (by omega)
     subst hA8
     obtain ⟨r, hr⟩ : ∃ r, l[q]? = some r := ⟨l[q]'(by have := hllH.out; omega), List.getElem?_eq_getElem _⟩
     obtain ⟨e0, e1, e2, e3, e4⟩ := cells_Run hsl hr
     have hrm := List.mem_of_getElem? hr
     have hrid := hidH.out r hrm
     have hrto := htoH.out r hrm
     have hdm := fun s => dm_take hr s
     have hix := ixOf_get hrid
     obtain ⟨rid, rwk, rfm, rto, ren⟩ := r
     simp only at e0 e1 e2 e3 e4 hrid hrto hix
     obtain ⟨W5, hW5⟩ : ∃ Y, wr.alloc (.cells #[.string rid, .string rwk, .int .i64 rfm, .int .i64 rto, .int .i64 ren] 34) = Y := ⟨_, rfl⟩
     obtain ⟨rb, hrb⟩ : ∃ b, wr.heap.size = b := ⟨_, rfl⟩
     have hbz : Below wr.heap.size wr W5 := by rw [← hW5]; exact (Below.refl _ _).alloc (Nat.le_refl _) _
     have y0 : W5.cell? ⟨rb, 0, none⟩ = some (.string rid) := by rw [← hW5, ← hrb]; exact cell_new _ _ _ 0
     have y3 : W5.cell? ⟨rb, 3, none⟩ = some (.int .i64 rto) := by rw [← hW5, ← hrb]; exact cell_new _ _ _ 3
     have y4 : W5.cell? ⟨rb, 4, none⟩ = some (.int .i64 ren) := by rw [← hW5, ← hrb]; exact cell_new _ _ _ 4
     have hb5 := hb.trans (hbz.mono hbs)
     have c1 := hC1H.out _ (hb.alloc hbs (.cells #[.string rid, .string rwk, .int .i64 rfm, .int .i64 rto, .int .i64 ren] 34))
     have hrow5 := hrow.bel hbz
     have hxs5 := hxsH.out.below hb5
     have hbH := Lib.hid hb
     clear hb
     have hrH := Lib.hid hr
     clear hr
     have hrmH := Lib.hid hrm
     clear hrm
     have hridH := Lib.hid hrid
     clear hrid
     have hrtoH := Lib.hid hrto
     clear hrto
     have hdmH := Lib.hid hdm
     clear hdm
     have hW5H := Lib.hid hW5
     clear hW5
     have hrbH := Lib.hid hrb
     clear hrb
     have hbzH := Lib.hid hbz
     clear hbz
     have hb5H := Lib.hid hb5
     clear hb5
     have hrow5H := Lib.hid hrow5
     clear hrow5
     have hxs5H := Lib.hid hxs5
     clear hxs5
     have hslH := Lib.hid hsl
     clear hsl
     have hixH := Lib.hid hix
     clear hix
     clear hrow
     go_wp2_with fail
     rw [hW5H.out, hrbH.out]
     clear e0 e1 e2 e3 e4 c1
     refine (workOf_any xA k xc x.works.l rid W5 (by omega) hxs5H.out).mono ?_
     rintro e w6 ⟨rfl, hb6⟩
     have hwo : woF x.works.l rid = ((ixOf x.works.l rid : Nat) : Int) := by unfold woF; rw [if_pos hridH.out]
     rw [hwo]
     obtain ⟨ix, hixe⟩ : ∃ j, ixOf x.works.l rid = j := ⟨_, rfl⟩
     rw [hixe]
     obtain ⟨z, hz, hzi⟩ := hixH.out
     rw [hixe] at hz
     have hixl : ix < k := by have := (List.getElem?_eq_some_iff.1 hz).1; have := hNlH.out; omega
     have y3 := keepC hb6 y3
     have y4 := keepC hb6 y4
     have hb7 := hb5H.out.trans (hb6.mono hb5H.out.size)
     have hrow6 := hrow5H.out.bel hb6
     have g0 := (hrow6 ix hixl).1
     dsimp only at g0
     have g1 := (hrow6 ix hixl).2
     have hid : ∀ j, j < k → ((woOf x j).id_ = rid ↔ j = ix) := fun j hj => by
      have e1 : woOf x ix = z := woOf_get hz
      constructor
      ·intro e
       exact idInj hokH.out (by have := hNlH.out; omega) (by have := hNlH.out; omega) (by rw [e, e1, hzi])
      ·intro e; rw [e, e1, hzi]
     clear y0 hwo
     have hdm := hdmH.out
     have hsame : (ren = 1 → ¬ (dmL (l.take q) (woOf x ix).id_ < 0 ∨ rto < dmL (l.take q) (woOf x ix).id_)) → ∀ wx, Below w6.heap.size w6 wx → Dn2 x l k (xb + 1) n W1 (.int .i64 ((q : Int) + 1)) wx := by
      intro hno wx hbx
      refine ⟨q + 1, hlt2, by go_num, (hrow6.bel hbx).congr (fun j hj => ?_), hb7.trans (hbx.mono hb7.size)⟩
      rw [hdm, dmF]
      by_cases e : j = ix
      ·subst e
       rw [if_neg (fun h => hno h.2.1 h.2.2)]
      ·rw [if_neg (fun h => e ((hid j hj).1 h.1.symm))]
     have hput : ren = 1 → (dmL (l.take q) (woOf x ix).id_ < 0 ∨ rto < dmL (l.take q) (woOf x ix).id_) → ∀ nq, Dn2 x l k (xb + 1) n W1 (.int .i64 ((q : Int) + 1)) ((w6.drewN nq).setCell ⟨xb + 1, ix, none⟩ (.int .i64 rto)) := by
      intro h1 h2 nq
      have hbn := bel_drewN (Below.refl w6.heap.size w6) nq
      refine ⟨q + 1, hlt2, by go_num, ((hrow6.bel hbn).set rto).congr (fun j hj => ?_), (hb7.trans (hbn.mono hb7.size)).setCell (p := ⟨xb + 1, ix, none⟩) hBleH.out _⟩
      rw [hdm, dmF]
      by_cases e : j = ix
      ·subst e
       rw [if_pos rfl, if_pos ⟨((hid j hj).2 rfl).symm, h1, h2⟩]
      ·rw [if_neg e, if_neg (fun h => e ((hid j hj).1 h.1.symm))]
     obtain ⟨dm, hdme⟩ : ∃ v, dmL (l.take q) (woOf x ix).id_ = v := ⟨_, rfl⟩
     rw [hdme] at hsame hput g0
     have hixi : (ix : Int) < (k : Int) := by omega
     clear hdm hdmH hid hzi hz hixH
     by_cases h1 : ren = 1
     ·subst h1
      by_cases h2 : dm < 0
      ·have hd : decide (dm < 0) = true := decide_eq_true h2
       have R := hput rfl (.inl h2)
       clear hsame hput
       have hb6H := Lib.hid hb6
       clear hb6
       have hb7H := Lib.hid hb7
       clear hb7
       have hrow6H := Lib.hid hrow6
       clear hrow6
       have hixeH := Lib.hid hixe
       clear hixe
       have hdmeH := Lib.hid hdme
       clear hdme
       have RH := Lib.hid R
       clear R
       go_wp2_with fail
       go_quiet (fail)
       have R := RH.out nq
       clear RH
       generalize hw8 : w6.drewN nq = w8 at R
       have hb8 : Below w6.heap.size w6 w8 := by rw [← hw8]; exact bel_drewN (Below.refl w6.heap.size w6) nq
       have y3 := keepC hb8 y3
       have g0 := keepC hb8 g0
       have g1 := ((hrow6H.out.bel hb8) ix hixl).2
       (try rw [hw8])
       have hb8H := Lib.hid hb8
       clear hb8
       have hw8H := Lib.hid hw8
       clear hw8
       have RH := Lib.hid R
       clear R
       go_wp2
       refine ⟨?rel, ?measure⟩
       case measure => (simp [intOf]; omega)
       case rel => first | exact RH.out | exact ⟨rfl, RH.out⟩ | ((try refine ⟨rfl, ?_⟩); (repeat apply Exists.intro); refine ⟨RH.out, ?_⟩; ((repeat' apply And.intro) <;> rfl))
      ·by_cases h3 : rto < dm
       ·have hd : decide (dm < 0) = false := decide_eq_false h2
        have hd3 : decide (rto < dm) = true := decide_eq_true h3
        have R := hput rfl (.inr h3)
        clear hsame hput
        have hb6H := Lib.hid hb6
        clear hb6
        have hb7H := Lib.hid hb7
        clear hb7
        have hrow6H := Lib.hid hrow6
        clear hrow6
        have hixeH := Lib.hid hixe
        clear hixe
        have hdmeH := Lib.hid hdme
        clear hdme
        have RH := Lib.hid R
        clear R
        go_wp2_with fail
        go_quiet (fail)
        have R := RH.out nq
        clear RH
        generalize hw8 : w6.drewN nq = w8 at R
        have hb8 : Below w6.heap.size w6 w8 := by rw [← hw8]; exact bel_drewN (Below.refl w6.heap.size w6) nq
        have y3 := keepC hb8 y3
        have g0 := keepC hb8 g0
        have g1 := ((hrow6H.out.bel hb8) ix hixl).2
        (try rw [hw8])
        have hb8H := Lib.hid hb8
        clear hb8
        have hw8H := Lib.hid hw8
        clear hw8
        have RH := Lib.hid R
        clear R
        go_wp2
        refine ⟨?rel, ?measure⟩
        case measure => (simp [intOf]; omega)
        case rel => first | exact RH.out | exact ⟨rfl, RH.out⟩ | ((try refine ⟨rfl, ?_⟩); (repeat apply Exists.intro); refine ⟨RH.out, ?_⟩; ((repeat' apply And.intro) <;> rfl))
       ·have hd : decide (dm < 0) = false := decide_eq_false h2
        have hd3 : decide (rto < dm) = false := decide_eq_false h3
        have R := fun nq => hsame (fun _ h => h.elim h2 h3) _ (bel_drewN (Below.refl w6.heap.size w6) nq)
        clear hsame hput
        have hb6H := Lib.hid hb6
        clear hb6
        have hb7H := Lib.hid hb7
        clear hb7
        have hrow6H := Lib.hid hrow6
        clear hrow6
        have hixeH := Lib.hid hixe
        clear hixe
        have hdmeH := Lib.hid hdme
        clear hdme
        have RH := Lib.hid R
        clear R
        go_wp2_with fail
        go_quiet (fail)
        go_wp2
        refine ⟨?rel, ?measure⟩
        case measure => (simp [intOf]; omega)
        case rel => first | exact (RH.out _) | exact ⟨rfl, (RH.out _)⟩ | ((try refine ⟨rfl, ?_⟩); (repeat apply Exists.intro); refine ⟨(RH.out _), ?_⟩; ((repeat' apply And.intro) <;> rfl))
     ·have h1' : (ren == 1) = false := by simpa using h1
      have R := fun nq => hsame (fun h => absurd h h1) _ (bel_drewN (Below.refl w6.heap.size w6) nq)
      clear hsame hput h1
      have hb6H := Lib.hid hb6
      clear hb6
      have hb7H := Lib.hid hb7
      clear hb7
      have hrow6H := Lib.hid hrow6
      clear hrow6
      have hixeH := Lib.hid hixe
      clear hixe
      have hdmeH := Lib.hid hdme
      clear hdme
      have RH := Lib.hid R
      clear R
      go_wp2_with fail
      go_quiet (fail)
      go_wp2
      refine ⟨?rel, ?measure⟩
      case measure => (simp [intOf]; omega)
      case rel => first | exact (RH.out _) | exact ⟨rfl, (RH.out _)⟩ | ((try refine ⟨rfl, ?_⟩); (repeat apply Exists.intro); refine ⟨(RH.out _), ?_⟩; ((repeat' apply And.intro) <;> rfl))
    ·obtain rfl : q = n := by omega
     have e : l.take q = l := List.take_of_length_le (by have := hllH.out; omega)
     rw [e] at hrow
     have R := RZH.out _ hrow hb
     clear e hrow hb
     have RH := Lib.hid R
     clear R
     go_wp2
     exact RH.out
end Go.Proofs.YtbnkoefljcekbaaGreatDoor.C9

namespace Go.Proofs.YtbnkoefljcekbaaGreatDoor.C9
open Go.ChangeShapes Go.WideShapes Go.Deep Go.RowKit Go.Maps
set_option linter.unusedVariables false
set_option linter.unusedSimpArgs false

def RgIn (l : List Run) (nm : ByteArray) (fm : Int) (n : Nat) (W1 : World) (c i : Value) (wr : World) : Prop := ∃ j c0 : Nat, j ≤ n ∧ i = .int .i64 j ∧ c = .int .i64 c0 ∧ bsN (l.take j) nm fm = c0 ∧ c0 ≤ j ∧ Below W1.heap.size W1 wr
theorem bsN_take {l : List Run} {j : Nat} {r : Run} (h : l[j]? = some r) (nm : ByteArray) (fm : Int) : bsN (l.take (j + 1)) nm fm = bsN (l.take j) nm fm + (if (decide (r.worker = nm) && (decide (r.from_ ≤ fm) && decide (fm < r.to_))) = true then 1 else 0) := by
 unfold bsN
 rw [List.take_add_one, h, Option.toList_some, List.countP_append, List.countP_singleton]
end Go.Proofs.YtbnkoefljcekbaaGreatDoor.C9
