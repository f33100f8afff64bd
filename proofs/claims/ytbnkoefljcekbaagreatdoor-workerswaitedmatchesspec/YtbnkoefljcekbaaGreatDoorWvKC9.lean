/-
 Several texts of mine as one, without what is not wanted here: XWtF, XFmB, XSeconds, XFmC, XFmD, XDelG.
-/
import Derived.Test.YtbnkoefljcekbaaGreatDoorWvJC9
import Derived.Test.YtbnkoefljcekbaaGreatDoorWvEC9
import Derived.Test.YtbnkoefljcekbaaGreatDoorWvAC9
import Derived.Test.YtbnkoefljcekbaaGreatDoorWvGf
import Derived.Test.YtbnkoefljcekbaaGreatDoorWvFC9
import Derived.Test.YtbnkoefljcekbaaGreatDoorWvCC9
import Derived.Test.YtbnkoefljcekbaaGreatDoorWvGg
import Derived.StillTailTactics
import Derived.Lib.SliceRun
namespace Go.Proofs.YtbnkoefljcekbaaGreatDoor.C9
open Go.ChangeShapes Go.WideShapes Go.Deep Go.RowKit Go.Maps
set_option linter.unusedVariables false
set_option linter.unusedSimpArgs false

theorem elem_Wk : Elem Tryz.prog 84 RWorker.size 96 := elem_of (z := .agg #[.string ByteArray.empty, .slice none 0 0, .int .i64 0, .int .i64 0, .int .i64 0, .int .i64 0, .slice none 0 0]) (by kernel_rfl) (by decide)
def pfx (Rs : List (List Run)) (i : Nat) : List Run := (Rs.take i).flatten
theorem pfx_next {Rs : List (List Run)} {i : Nat} {r : List Run} (h : Rs[i]? = some r) : pfx Rs (i + 1) = pfx Rs i ++ r := by
 unfold pfx
 rw [List.take_add_one, h, Option.toList_some, List.flatten_append]
 simp
theorem pfx_all {Rs : List (List Run)} {i : Nat} (h : Rs.length ≤ i) : pfx Rs i = Rs.flatten := by
 unfold pfx
 rw [List.take_of_length_le h]
theorem bsN_app (l m : List Run) (s : ByteArray) (t : Int) : bsN (l ++ m) s t = bsN l s t + bsN m s t := List.countP_append
def F1 (x : Farm) (Rs : List (List Run)) (t : Int) (N M bb : Nat) (W1 : World) (i : Value) (wr : World) : Prop :=
 ∃ k : Nat, k ≤ N ∧ i = .int .i64 k ∧ IRow wr bb M (fun j => bsN (pfx Rs k) (wkOf x j).name t) ∧ Below W1.heap.size W1 wr
def F2 (x : Farm) (P r : List Run) (t : Int) (n M bb : Nat) (W1 : World) (i : Value) (wr : World) : Prop :=
 ∃ k : Nat, k ≤ n ∧ i = .int .i64 k ∧ IRow wr bb M (fun j => bsN (P ++ r.take k) (wkOf x j).name t) ∧ Below W1.heap.size W1 wr
def F3 (x : Farm) (F : List Run) (t : Int) (M : Nat) (W2 : World) (v i : Value) (wr : World) : Prop :=
 ∃ (k n c : Nat) (A : Option Addr), k ≤ M ∧ i = .int .i64 k ∧ v = .slice A n c ∧ Own RWorker 84 wr W2.heap.size (.slice A n c) ((x.workers.l.take k).filter (frB F t)) ∧ n ≤ k ∧ Below W2.heap.size W2 wr
def FrAns (x : Farm) (F : List Run) (t : Int) (w : World) (e : Ending) (w' : World) : Prop :=
 ∃ (A : Option Addr) (n c base : Nat), e = .returned (.slice A n c) ∧ w.heap.size ≤ base ∧ Own RWorker 84 w' base (.slice A n c) (x.workers.l.filter (frB F t)) ∧ n ≤ 1000 ∧ Below w.heap.size w w'
theorem wkOf_name {x : Farm} (hok : FarmOk x) {j : Nat} (hj : j < x.workers.l.length) {s : ByteArray} (hs : hasNm x.workers.l s = true) : (wkOf x j).name = s ↔ j = ixNm x.workers.l s := by
 obtain ⟨y, hy, hyi⟩ := ixNm_get hs
 have hl := (List.getElem?_eq_some_iff.1 hy).1
 constructor
 ·intro e
  refine nmInj hok hj hl ?_
  rw [e, wkOf_get hy, hyi]
 ·intro e; rw [e, wkOf_get hy, hyi]
set_option maxRecDepth 100000 in
set_option maxHeartbeats 8000000 in
theorem free_any {x : Farm} {wtb rb N : Nat} {Rs : List (List Run)} (w : World) (hH : WtH x wtb rb N Rs w) (t : Int) (hok : FarmOk x) (hN : N ≤ 1000) (hlen : Rs.flatten.length ≤ 4000) (hM : x.workers.n ≤ 50) (hnm : ∀ r ∈ Rs.flatten, hasNm x.workers.l r.worker = true) :
  Calls Tryz.prog 104 #[.pointer (some ⟨wtb, 0, none⟩), .int .i64 t] w (FrAns x Rs.flatten t w) := by
 have hwl : x.workers.l.length = x.workers.n := hH.ws.1
 have c0 := hH.c0
 have c5 := hH.c5
 obtain ⟨M, hMe⟩ : ∃ m, x.workers.n = m := ⟨_, rfl⟩
 obtain ⟨wA, hwA⟩ : ∃ m, x.workers.A = m := ⟨_, rfl⟩
 obtain ⟨wc, hwc⟩ : ∃ m, x.workers.cap = m := ⟨_, rfl⟩
 have hws := hH.ws
 rw [hMe] at hM hwl c0 hws
 rw [hwA] at c0 hws
 rw [hwc] at c0
 have hm := run_makeInts M (by omega)
 obtain ⟨W1, hW1⟩ : ∃ Y, w.alloc (.cells (madeI M) 3) = Y := ⟨_, rfl⟩
 have hb1 : Below w.heap.size w W1 := by rw [← hW1]; exact (Below.refl _ _).alloc (Nat.le_refl _) _
 obtain ⟨bb, hbb⟩ : ∃ b, w.heap.size = b := ⟨_, rfl⟩
 have hst : F1 x Rs t N M bb w (.int .i64 0) W1 := by
  refine ⟨0, Nat.zero_le _, rfl, ?_, hb1⟩
  rw [← hW1, ← hbb]
  exact (irow_made _ _).congr (fun j _ => by simp [pfx, bsN])
 have hK : ∀ W, Below w.heap.size w W → W.cell? ⟨wtb, 0, none⟩ = some (.slice wA M wc) ∧ W.cell? ⟨wtb, 5, none⟩ = some (.slice (some ⟨rb, 0, none⟩) N N) := fun W h => ⟨keepC h c0, keepC h c5⟩
 have hbbl : w.heap.size ≤ bb := Nat.le_of_eq hbb
 have c0 : (w.alloc (.cells (madeI M) 3)).cell? ⟨wtb, 0, none⟩ = some (.slice wA M wc) := by rw [hW1]; exact (hK W1 hb1).1
 have c5 : (w.alloc (.cells (madeI M) 3)).cell? ⟨wtb, 5, none⟩ = some (.slice (some ⟨rb, 0, none⟩) N N) := by rw [hW1]; exact (hK W1 hb1).2
 have c0w := hH.c0
 rw [hMe, hwA, hwc] at c0w
 obtain ⟨Z, hZ⟩ : ∃ Z, FrAns x Rs.flatten t w = Z := ⟨_, rfl⟩
 rw [hZ]
 have hHH := Lib.hid hH
 clear hH
 have hokH := Lib.hid hok
 clear hok
 have hlenH := Lib.hid hlen
 clear hlen
 have hnmH := Lib.hid hnm
 clear hnm
 have hwlH := Lib.hid hwl
 clear hwl
 have hMeH := Lib.hid hMe
 clear hMe
 have hwAH := Lib.hid hwA
 clear hwA
 have hwcH := Lib.hid hwc
 clear hwc
 have hwsH := Lib.hid hws
 clear hws
 have hW1H := Lib.hid hW1
 clear hW1
 have hb1H := Lib.hid hb1
 clear hb1
 have hbbH := Lib.hid hbb
 clear hbb
 have hstH := Lib.hid hst
 clear hst
 have hKH := Lib.hid hK
 clear hK
 have hbblH := Lib.hid hbbl
 clear hbbl
 have hZH := Lib.hid hZ
 clear hZ
 go_enter Tryz.func104, Tryz.ntmps104
 go_wp2_with fail
 rw [hW1H.out, hbbH.out]
 clear c0 c5 c0w
 go_loopw [27] (fun i wr => F1 x Rs t N M bb w i wr) (fun i _ => N - (intOf i).toNat)
 case atStart => exact hstH.out
 case round =>
  clear hstH
  obtain ⟨k, hk, rfl, hrow, hb⟩ := hrel
  have hbs := hb.size
  obtain ⟨c0, c5⟩ := hKH.out wr hb
  by_cases hlt : k < N
  ·obtain ⟨r, hr⟩ : ∃ r, Rs[k]? = some r := ⟨Rs[k]'(by have := hHH.out.len; omega), List.getElem?_eq_getElem _⟩
   obtain ⟨A, n, c, g0w, hsl0⟩ := hHH.out.rows k r hr
   have g0 := keepC hb g0w
   have hsl := hsl0.below hb
   have hll := hsl.1
   have hsub : ∀ s ∈ r, s ∈ Rs.flatten := fun s hs => List.mem_flatten.2 ⟨r, List.mem_of_getElem? hr, hs⟩
   have hn4 : n ≤ 4000 := by
    have h1 := hlenH.out
    have h2 : r.length ≤ Rs.flatten.length := (List.sublist_flatten_of_mem (List.mem_of_getElem? hr)).length_le
    omega
   obtain ⟨P, hP⟩ : ∃ P, pfx Rs k = P := ⟨_, rfl⟩
   have hPn : pfx Rs (k + 1) = P ++ r := by rw [pfx_next hr, hP]
   rw [hP] at hrow
   have hst2 : F2 x P r t n M bb w (.int .i64 0) wr := ⟨0, Nat.zero_le _, rfl, hrow.congr (fun j _ => by simp), hb⟩
   have hend : ∀ wx, IRow wx bb M (fun j => bsN (P ++ r) (wkOf x j).name t) → Below w.heap.size w wx → F1 x Rs t N M bb w (.int .i64 ((k : Int) + 1)) wx := fun wx h1 h2 => ⟨k + 1, hlt, by go_num, by rw [hPn]; exact h1, h2⟩
   have hPl : P.length ≤ 4000 := by
    rw [← hP]
    have h1 := hlenH.out
    have h2 : (pfx Rs k).length ≤ Rs.flatten.length := by
     have h3 : Rs.flatten = pfx Rs k ++ (Rs.drop k).flatten := by unfold pfx; rw [← List.flatten_append, List.take_append_drop]
     rw [h3, List.length_append]; omega
    omega
   clear hrow c0 g0w
   have hrH := Lib.hid hr
   clear hr
   have hsl0H := Lib.hid hsl0
   clear hsl0
   have hslH := Lib.hid hsl
   clear hsl
   have hllH := Lib.hid hll
   clear hll
   have hsubH := Lib.hid hsub
   clear hsub
   have hPH := Lib.hid hP
   clear hP
   have hPnH := Lib.hid hPn
   clear hPn
   have hst2H := Lib.hid hst2
   clear hst2
   have hendH := Lib.hid hend
   clear hend
   have hbH := Lib.hid hb
   clear hb
   have hPlH := Lib.hid hPl
   clear hPl
   go_wp2_with fail
   clear c5 g0
   obtain ⟨wa, rfl⟩ : ∃ W, W = wr := ⟨_, rfl⟩
   go_loopw [33] (fun i wq => F2 x P r t n M bb w i wq) (fun i _ => n - (intOf i).toNat)
   case atStart => exact hst2H.out
   case round =>
    clear hst2H
    obtain ⟨q, hq, rfl, hrow, hbq⟩ := hrel
    have hbqs := hbq.size
    by_cases hlt2 : q < n
    ·have hslq := hsl0H.out.below hbq
     obtain ⟨bl, ol, hA8, _⟩ := hslq.2.1 (by omega)
     subst hA8
     obtain ⟨s, hs⟩ : ∃ s, r[q]? = some s := ⟨r[q]'(by have := hllH.out; omega), List.getElem?_eq_getElem _⟩
     obtain ⟨e0, e1, e2, e3, e4⟩ := cells_Run hslq hs
     have hnms := hnmH.out s (hsubH.out s (List.mem_of_getElem? hs))
     have hbt : ∀ nm, bsN (P ++ r.take (q + 1)) nm t = bsN (P ++ r.take q) nm t + (if (decide (s.worker = nm) && (decide (s.from_ ≤ t) && decide (t < s.to_))) = true then 1 else 0) := fun nm => by
      rw [bsN_app, bsN_app, bsN_take hs, Nat.add_assoc]
     obtain ⟨sid, swk, sfm, sto, sen⟩ := s
     simp only at e0 e1 e2 e3 e4 hnms hbt
     obtain ⟨W5, hW5⟩ : ∃ Y, wr.alloc (.cells #[.string sid, .string swk, .int .i64 sfm, .int .i64 sto, .int .i64 sen] 34) = Y := ⟨_, rfl⟩
     obtain ⟨sb, hsb⟩ : ∃ b, wr.heap.size = b := ⟨_, rfl⟩
     have hbz : Below wr.heap.size wr W5 := by rw [← hW5]; exact (Below.refl _ _).alloc (Nat.le_refl _) _
     have y1 : W5.cell? ⟨sb, 1, none⟩ = some (.string swk) := by rw [← hW5, ← hsb]; exact cell_new _ _ _ 1
     have hb5 := hbq.trans (hbz.mono hbqs)
     obtain ⟨c0, c5⟩ := hKH.out W5 hb5
     have hrow5 := hrow.bel hbz
     have hno : ¬ (sfm ≤ t ∧ t < sto) → F2 x P r t n M bb w (.int .i64 ((q : Int) + 1)) W5 := fun hh => by
      refine ⟨q + 1, hlt2, by go_num, hrow5.congr (fun j hj => ?_), hb5⟩
      rw [hbt]
      have : (decide (sfm ≤ t) && decide (t < sto)) = false := by
       cases h : (decide (sfm ≤ t) && decide (t < sto))
       ·rfl
       ·simp only [Bool.and_eq_true, decide_eq_true_eq] at h; exact absurd h hh
      rw [this, Bool.and_false, if_neg (by decide), Nat.add_zero]
     by_cases hA : sfm ≤ t
     ·by_cases hB : t < sto
      ·have hws5 := hwsH.out.below hb5
       have hS0 : (fun W : World => Below W5.heap.size W5 W ∧ W.cell? ⟨wtb, 0, none⟩ = some (.slice wA M wc) ∧ W.cell? ⟨sb, 1, none⟩ = some (.string swk)) W5 := ⟨Below.refl _ _, c0, y1⟩
       have hkS : ∀ W W' : World, Below W.heap.size W W' → (Below W5.heap.size W5 W ∧ W.cell? ⟨wtb, 0, none⟩ = some (.slice wA M wc) ∧ W.cell? ⟨sb, 1, none⟩ = some (.string swk)) → (Below W5.heap.size W5 W' ∧ W'.cell? ⟨wtb, 0, none⟩ = some (.slice wA M wc) ∧ W'.cell? ⟨sb, 1, none⟩ = some (.string swk)) := fun W W' hb h => ⟨h.1.trans (hb.mono h.1.size), keepC hb h.2.1, keepC hb h.2.2⟩
       have hSd := hkS _ _ (Below.refl W5.heap.size W5).drew hS0
       obtain ⟨ix, hixe⟩ : ∃ j, ixNm x.workers.l swk = j := ⟨_, rfl⟩
       obtain ⟨y, hy, hyi⟩ := ixNm_get hnms
       have hixl : ix < M := by have h1 := (List.getElem?_eq_some_iff.1 hy).1; rw [hixe] at h1; have := hwlH.out; omega
       have g1 := (hrow5 ix hixl).1
       have g2 := (hrow5 ix hixl).2
       have hbv : bsN (P ++ r.take q) (wkOf x ix).name t ≤ 8000 := by
        have h1 : bsN (P ++ r.take q) (wkOf x ix).name t ≤ (P ++ r.take q).length := List.countP_le_length
        have h2 : (P ++ r.take q).length ≤ P.length + r.length := by rw [List.length_append, List.length_take]; omega
        have h3 := hllH.out
        have h4 := hPlH.out
        omega
       obtain ⟨bv, hbve⟩ : ∃ v, bsN (P ++ r.take q) (wkOf x ix).name t = v := ⟨_, rfl⟩
       dsimp only at g1
       rw [hbve] at g1 hbv
       have hyes : ∀ wx, Below W5.heap.size W5 wx → F2 x P r t n M bb w (.int .i64 ((q : Int) + 1)) (wx.setCell ⟨bb, ix, none⟩ (.int .i64 ((bv : Int) + 1))) := fun wx hbx => by
        refine ⟨q + 1, hlt2, by go_num, ((hrow5.bel hbx).set ((bv : Int) + 1)).congr (fun j hj => ?_), (hb5.trans (hbx.mono hb5.size)).setCell (p := ⟨bb, ix, none⟩) hbblH.out _⟩
        have hj2 : j < x.workers.l.length := by have := hwlH.out; omega
        have hnj := wkOf_name hokH.out hj2 hnms
        rw [hixe] at hnj
        rw [hbt, decide_eq_true hA, decide_eq_true hB]
        by_cases e : j = ix
        ·subst e
         rw [if_pos rfl, hbve, decide_eq_true (hnj.2 rfl).symm]; rfl
        ·rw [if_neg e, decide_eq_false (fun h => e (hnj.1 h.symm))]; rfl
       have hbw5 := hb5.size
       have hrise := hokH.out.wkr
       clear c0 c5 y1 hno hbt
       have hbqH := Lib.hid hbq
       clear hbq
       have hrowH := Lib.hid hrow
       clear hrow
       have hnmsH := Lib.hid hnms
       clear hnms
       have hW5H := Lib.hid hW5
       clear hW5
       have hsbH := Lib.hid hsb
       clear hsb
       have hbzH := Lib.hid hbz
       clear hbz
       have hb5H := Lib.hid hb5
       clear hb5
       have hrow5H := Lib.hid hrow5
       clear hrow5
       have hws5H := Lib.hid hws5
       clear hws5
       have hS0H := Lib.hid hS0
       clear hS0
       have hkSH := Lib.hid hkS
       clear hkS
       have hSdH := Lib.hid hSd
       clear hSd
       have hixeH := Lib.hid hixe
       clear hixe
       have hyH := Lib.hid hy
       clear hy
       have hyiH := Lib.hid hyi
       clear hyi
       have hbveH := Lib.hid hbve
       clear hbve
       have hyesH := Lib.hid hyes
       clear hyes
       have hsH := Lib.hid hs
       clear hs
       have hslqH := Lib.hid hslq
       clear hslq
       have hbw5H := Lib.hid hbw5
       clear hbw5
       have hriseH := Lib.hid hrise
       clear hrise
       go_wp2_with fail
       rw [hW5H.out, hsbH.out]
       clear e0 e1 e2 e3 e4
       refine wp_region_held_drew (S := fun W : World => Below W5.heap.size W5 W ∧ W.cell? ⟨wtb, 0, none⟩ = some (.slice wA M wc) ∧ W.cell? ⟨sb, 1, none⟩ = some (.string swk)) (by kernel_rfl) hSdH.out (fun hHeld => ?_)
       refine tkH (i := 0) (d := some 48) (v := ?_) (hy := Or.inl ⟨by rfl, ?_⟩) (h := ?_)
       rotate_left
       ·(intro w hSw; (try dsimp only at hSw); go_simp; (try with_reducible rfl))
       (try simp only [Act.put, tkA, tkB, tkC])
       refine tkH (i := 1) (d := some 49) (v := ?_) (hy := Or.inl ⟨by rfl, ?_⟩) (h := ?_)
       rotate_left
       ·(intro w hSw; (try dsimp only at hSw); go_simp; (try with_reducible rfl))
       (try simp only [Act.put, tkA, tkB, tkC])
       refine tkH (i := 2) (d := some 50) (v := ?_) (hy := Or.inl ⟨by rfl, ?_⟩) (h := ?_)
       rotate_left
       ·(intro w hSw; (try dsimp only at hSw); go_simp; (try with_reducible rfl))
       (try simp only [Act.put, tkA, tkB, tkC])
       refine tkH (i := 3) (d := some 51) (v := ?_) (hy := Or.inl ⟨by rfl, ?_⟩) (h := ?_)
       rotate_left
       ·(intro w hSw; (try dsimp only at hSw); go_simp; (try with_reducible rfl))
       (try simp only [Act.put, tkA, tkB, tkC])
       refine tkH (i := 4) (d := some 52) (v := ?_) (hy := Or.inl ⟨by rfl, ?_⟩) (h := ?_)
       rotate_left
       ·(intro w hSw; (try dsimp only at hSw); go_simp; (try with_reducible rfl))
       (try simp only [Act.put, tkA, tkB, tkC])
       refine tkH (i := 5) (d := some 53) (v := ?_) (hy := Or.inl ⟨by rfl, ?_⟩) (h := ?_)
       rotate_left
       ·(intro w hSw; (try dsimp only at hSw); go_simp; (try with_reducible rfl))
       (try simp only [Act.put, tkA, tkB, tkC])
       refine tkH (i := 6) (d := some 54) (v := ?_) (hy := Or.inl ⟨by rfl, ?_⟩) (h := ?_)
       rotate_left
       ·(intro w hSw; (try dsimp only at hSw); go_simp; (try with_reducible rfl))
       (try simp only [Act.put, tkA, tkB, tkC])
       refine wpAnyH_ready (rs := [7]) (by kernel_rfl) (by simp) ?_
       refine AllReadyH.cons (i := 7) rfl (fun K hK => ?_) AllReadyH.nil
       go_simp
       go_at_call 38
       refine (workerAt_any wA M wc x.workers.l swk _ (by omega) (hws5H.out.below hHeld.1) hriseH.out).mono ?_
       rintro e w7 ⟨iv, rfl, hiv, hb7⟩
       obtain rfl := hiv hnmsH.out
       rw [hixeH.out, hnmsH.out]
       have hS7 := hkSH.out _ _ hb7 hHeld
       clear hb7
       refine hK.out _ _ hS7 (fun hHeld => ?_)
       clear hK K
       (try simp only [Act.put, List.setIfInBounds_toArray, List.set_cons_zero, List.set_cons_succ])
       refine tkH (i := 8) (d := some 47) (v := ?_) (hy := Or.inl ⟨by rfl, ?_⟩) (h := ?_)
       rotate_left
       ·(intro w hSw; (try dsimp only at hSw); go_simp; (try with_reducible rfl))
       (try simp only [Act.put, tkA, tkB, tkC])
       refine tkH (i := 9) (d := some 56) (v := ?_) (hy := Or.inl ⟨by rfl, ?_⟩) (h := ?_)
       rotate_left
       ·(intro w hSw; (try dsimp only at hSw); go_simp; (try with_reducible rfl))
       (try simp only [Act.put, tkA, tkB, tkC])
       refine tkH (i := 10) (d := some 57) (v := ?_) (hy := Or.inl ⟨by rfl, ?_⟩) (h := ?_)
       rotate_left
       ·(intro w hSw; (try dsimp only at hSw); go_simp; (try with_reducible rfl))
       (try simp only [Act.put, tkA, tkB, tkC])
       refine tkH (i := 11) (d := some 10) (v := ?_) (hy := Or.inl ⟨by rfl, ?_⟩) (h := ?_)
       rotate_left
       ·(intro w hSw; (try dsimp only at hSw); go_simp; (try with_reducible rfl))
       (try simp only [Act.put, tkA, tkB, tkC])
       refine tkH (i := 12) (d := some 11) (v := ?_) (hy := Or.inl ⟨by rfl, ?_⟩) (h := ?_)
       rotate_left
       ·(intro w hSw; (try dsimp only at hSw); go_simp; (try with_reducible rfl))
       (try simp only [Act.put, tkA, tkB, tkC])
       refine wpAnyH_done (by kernel_rfl) ?_ _
       have hb7 := hHeld.1
       have R := hyesH.out _ hb7
       have g1 := keepC hb7 g1
       have g2 := ((hrow5H.out.bel hb7) ix hixl).2
       have hix0 : (0 : Int) ≤ (ix : Int) := by omega
       have hix1 : (ix : Int) < (M : Int) := by omega
       have hbv0 : (0 : Int) ≤ (bv : Int) := by omega
       have hbv1 : (bv : Int) + 1 ≤ 9000 := by omega
       clear hHeld hbv
       have hb7H := Lib.hid hb7
       clear hb7
       have RH := Lib.hid R
       clear R
       go_wp2
       refine ⟨?rel, ?measure⟩
       case measure => (simp [intOf]; omega)
       case rel => first | exact RH.out | exact ⟨rfl, RH.out⟩ | ((try refine ⟨rfl, ?_⟩); (repeat apply Exists.intro); refine ⟨RH.out, ?_⟩; ((repeat' apply And.intro) <;> rfl))
      ·have R := hno (fun h => hB h.2)
       rw [← hW5] at R
       clear hno c0 c5 y1 hbt
       have hbqH := Lib.hid hbq
       clear hbq
       have hrowH := Lib.hid hrow
       clear hrow
       have hnmsH := Lib.hid hnms
       clear hnms
       have hW5H := Lib.hid hW5
       clear hW5
       have hsbH := Lib.hid hsb
       clear hsb
       have hbzH := Lib.hid hbz
       clear hbz
       have hb5H := Lib.hid hb5
       clear hb5
       have hrow5H := Lib.hid hrow5
       clear hrow5
       have RH := Lib.hid R
       clear R
       have hsH := Lib.hid hs
       clear hs
       have hslqH := Lib.hid hslq
       clear hslq
       go_wp2
       refine ⟨?rel, ?measure⟩
       case measure => (simp [intOf]; omega)
       case rel => first | exact RH.out | exact ⟨rfl, RH.out⟩ | ((try refine ⟨rfl, ?_⟩); (repeat apply Exists.intro); refine ⟨RH.out, ?_⟩; ((repeat' apply And.intro) <;> rfl))
     ·have R := hno (fun h => hA h.1)
      rw [← hW5] at R
      clear hno c0 c5 y1 hbt
      have hbqH := Lib.hid hbq
      clear hbq
      have hrowH := Lib.hid hrow
      clear hrow
      have hnmsH := Lib.hid hnms
      clear hnms
      have hW5H := Lib.hid hW5
      clear hW5
      have hsbH := Lib.hid hsb
      clear hsb
      have hbzH := Lib.hid hbz
      clear hbz
      have hb5H := Lib.hid hb5
      clear hb5
      have hrow5H := Lib.hid hrow5
      clear hrow5
      have RH := Lib.hid R
      clear R
      have hsH := Lib.hid hs
      clear hs
      have hslqH := Lib.hid hslq
      clear hslq
      go_wp2
      refine ⟨?rel, ?measure⟩
      case measure => (simp [intOf]; omega)
      case rel => first | exact RH.out | exact ⟨rfl, RH.out⟩ | ((try refine ⟨rfl, ?_⟩); (repeat apply Exists.intro); refine ⟨RH.out, ?_⟩; ((repeat' apply And.intro) <;> rfl))
    ·obtain rfl : q = n := by omega
     have e : r.take q = r := List.take_of_length_le (by have := hllH.out; omega)
     rw [e] at hrow
     have R := hendH.out _ hrow hbq
     clear e hrow
     have RH := Lib.hid R
     clear R
     have hbqH := Lib.hid hbq
     clear hbq
     go_wp2
     refine ⟨?rel, ?measure⟩
     case measure => (simp [intOf]; omega)
     case rel => first | exact RH.out | exact ⟨rfl, RH.out⟩ | ((try refine ⟨rfl, ?_⟩); (repeat apply Exists.intro); refine ⟨RH.out, ?_⟩; ((repeat' apply And.intro) <;> rfl))
  ·obtain rfl : k = N := by omega
   have hpa : pfx Rs k = Rs.flatten := pfx_all (by have := hHH.out.len; omega)
   rw [hpa] at hrow
   have hws2 := hwsH.out.below hb
   have hst3 : F3 x Rs.flatten t M wr (.slice none 0 0) (.int .i64 0) wr := ⟨0, 0, 0, none, Nat.zero_le _, rfl, rfl, by rw [List.take_zero, List.filter_nil]; exact Own.nil _ _, Nat.le_refl _, Below.refl _ _⟩
   have hRZ : ∀ (A : Option Addr) (n c : Nat) (W : World), Own RWorker 84 W wr.heap.size (.slice A n c) (x.workers.l.filter (frB Rs.flatten t)) → n ≤ M → Below wr.heap.size wr W → Z (.returned (.slice A n c)) W := fun A n c W h1 h2 h3 => by
    rw [← hZH.out]
    exact ⟨A, n, c, wr.heap.size, rfl, hbs, h1, by omega, hb.trans (h3.mono hbs)⟩
   obtain ⟨W2, hW2e⟩ : ∃ W, W = wr := ⟨_, rfl⟩
   rw [← hW2e] at hst3 hRZ hws2 hrow hbs c0 c5 hb
   clear c5
   have hbH := Lib.hid hb
   clear hb
   have hrowH := Lib.hid hrow
   clear hrow
   have hws2H := Lib.hid hws2
   clear hws2
   have hst3H := Lib.hid hst3
   clear hst3
   have hRZH := Lib.hid hRZ
   clear hRZ
   have hpaH := Lib.hid hpa
   clear hpa
   have hW2eH := Lib.hid hW2e
   clear hW2e
   rw [← hW2eH.out]
   go_wp2_with fail
   clear c0
   go_loopw [12, 72] (fun v i wq => F3 x Rs.flatten t M W2 v i wq) (fun _ i _ => M - (intOf i).toNat)
   case atStart => exact hst3H.out
   case round =>
    clear hst3H
    obtain ⟨q, n3, c3, A3, hq, rfl, rfl, hown, hn3, hbq⟩ := hrel
    have hbqs := hbq.size
    by_cases hlt2 : q < M
    ·have hwsq := hws2H.out.below hbq
     obtain ⟨bw, ow, hA8, _⟩ := hwsq.2.1 (by omega)
     subst hA8
     obtain ⟨y, hy⟩ : ∃ y, x.workers.l[q]? = some y := ⟨x.workers.l[q]'(by have := hwlH.out; omega), List.getElem?_eq_getElem _⟩
     obtain ⟨e0, e1, e2, e3, e4, e5, e6⟩ := cells_Worker hwsq hy
     have hyw := wkOf_get hy
     have hfl : (x.workers.l.take (q + 1)).filter (frB Rs.flatten t) = (x.workers.l.take q).filter (frB Rs.flatten t) ++ (if frB Rs.flatten t y = true then [y] else []) := by
      rw [List.take_add_one, hy, Option.toList_some, List.filter_append]
      congr 1
      by_cases h : frB Rs.flatten t y = true
      ·rw [if_pos h, List.filter_cons_of_pos h]; rfl
      ·rw [if_neg h, List.filter_cons_of_neg h]; rfl
     have hmem : ∀ z ∈ (x.workers.l.take q).filter (frB Rs.flatten t) ++ [y], z ∈ x.workers.l := fun z hz => by
      rcases List.mem_append.1 hz with hz | hz
      ·exact List.mem_of_mem_take (List.mem_filter.1 hz).1
      ·rw [List.mem_singleton.1 hz]; exact List.mem_of_getElem? hy
     have hwok : ∀ W, Below W2.heap.size W2 W → ∀ z ∈ x.workers.l, RWorker.ok W z := fun W h z hz => RWorker.mono _ _ _ h (hws2H.out.2.2 z hz)
     have hbl := hbq.alloc hbqs (.cells #[.string y.name, .slice y.has.A y.has.n y.has.cap, .int .i64 y.slots, .int .i64 y.speed, .int .i64 y.from_, .int .i64 y.to_, .slice y.stands.A y.stands.n y.stands.cap] 84)
     have g1 := ((hrowH.out.bel hbl) q hlt2).1
     (try dsimp only at g1)
     rw [hyw] at g1
     obtain ⟨l3, hl3⟩ : ∃ l, (x.workers.l.take q).filter (frB Rs.flatten t) = l := ⟨_, rfl⟩
     rw [hl3] at hown hfl hmem
     have hl3n : l3.length = n3 := hown.len
     obtain ⟨bv, hbv⟩ : ∃ v, bsN Rs.flatten y.name t = v := ⟨_, rfl⟩
     rw [hbv] at g1
     have hfr : frB Rs.flatten t y = (decide (y.from_ ≤ t) && (decide (t < y.to_) && decide ((bv : Int) < y.slots))) := by unfold frB; rw [hbv]
     have hno : frB Rs.flatten t y = false → ∀ W, Below W2.heap.size W2 W → Own RWorker 84 W W2.heap.size (.slice A3 n3 c3) l3 → F3 x Rs.flatten t M W2 (.slice A3 n3 c3) (.int .i64 ((q : Int) + 1)) W := fun h W hW ho =>
      ⟨q + 1, n3, c3, A3, hlt2, by go_num, rfl, by rw [hfl, h, if_neg (by decide), List.append_nil]; exact ho, by omega, hW⟩
     have hyes : frB Rs.flatten t y = true → ∀ (A' : Option Addr) (c' : Nat) (W : World), Below W2.heap.size W2 W → Own RWorker 84 W W2.heap.size (.slice A' (n3 + 1) c') (l3 ++ [y]) → F3 x Rs.flatten t M W2 (.slice A' (n3 + 1) c') (.int .i64 ((q : Int) + 1)) W := fun h A' c' W hW ho =>
      ⟨q + 1, n3 + 1, c', A', hlt2, by go_num, rfl, by rw [hfl, if_pos h]; exact ho, by omega, hW⟩
     obtain ⟨ynm, yh, ysl, ysp, yfr, yto, yst⟩ := y
     simp only at e0 e1 e2 e3 e4 e5 e6 hfr hbl g1
     obtain ⟨W5, hW5⟩ : ∃ Y, wr.alloc (.cells #[.string ynm, .slice yh.A yh.n yh.cap, .int .i64 ysl, .int .i64 ysp, .int .i64 yfr, .int .i64 yto, .slice yst.A yst.n yst.cap] 84) = Y := ⟨_, rfl⟩
     obtain ⟨wb, hwb⟩ : ∃ b, wr.heap.size = b := ⟨_, rfl⟩
     have hB5 : Blk W5 wb [.string ynm, .slice yh.A yh.n yh.cap, .int .i64 ysl, .int .i64 ysp, .int .i64 yfr, .int .i64 yto, .slice yst.A yst.n yst.cap] := by rw [← hW5, ← hwb]; exact blk_new wr [.string ynm, .slice yh.A yh.n yh.cap, .int .i64 ysl, .int .i64 ysp, .int .i64 yfr, .int .i64 yto, .slice yst.A yst.n yst.cap] _
     rw [hW5] at hbl g1
     have hown5 : Own RWorker 84 W5 W2.heap.size (.slice A3 n3 c3) l3 := by rw [← hW5]; exact hown.alloc _
     have hb0 : (0 : Int) ≤ (q : Int) := by omega
     have hb1 : (q : Int) < (M : Int) := by omega
     have hbqH := Lib.hid hbq
     clear hbq
     have hyH := Lib.hid hy
     clear hy
     have hywH := Lib.hid hyw
     clear hyw
     have hflH := Lib.hid hfl
     clear hfl
     have hmemH := Lib.hid hmem
     clear hmem
     have hwokH := Lib.hid hwok
     clear hwok
     have hblH := Lib.hid hbl
     clear hbl
     have hl3H := Lib.hid hl3
     clear hl3
     have hl3nH := Lib.hid hl3n
     clear hl3n
     have hbvH := Lib.hid hbv
     clear hbv
     have hnoH := Lib.hid hno
     clear hno
     have hyesH := Lib.hid hyes
     clear hyes
     have hW5H := Lib.hid hW5
     clear hW5
     have hwbH := Lib.hid hwb
     clear hwb
     have hB5H := Lib.hid hB5
     clear hB5
     have hown5H := Lib.hid hown5
     clear hown5
     have hownH := Lib.hid hown
     clear hown
     have hwsqH := Lib.hid hwsq
     clear hwsq
     have hfrH := Lib.hid hfr
     clear hfr
     go_wp2_with fail
     rw [hW5H.out, hwbH.out]
     clear e0 e1 e2 e3 e4 e5 e6
     have v0 := (hB5H.out 0 _ rfl).1
     have v1 := (hB5H.out 1 _ rfl).1
     have v2 := (hB5H.out 2 _ rfl).1
     have v3 := (hB5H.out 3 _ rfl).1
     have v4 := (hB5H.out 4 _ rfl).1
     have v5 := (hB5H.out 5 _ rfl).1
     have v6 := (hB5H.out 6 _ rfl).1
     have hfr := hfrH.out
     have hno := hnoH.out
     have hyes := hyesH.out
     clear hfrH hnoH hyesH
     by_cases hA : yfr ≤ t
     ·have dA : decide (yfr ≤ t) = true := decide_eq_true hA
      by_cases hB : t < yto
      ·have dB : decide (yto > t) = true := decide_eq_true hB
       by_cases hC : (bv : Int) < ysl
       ·have dC : decide ((bv : Int) < ysl) = true := decide_eq_true hC
        rw [decide_eq_true hA, decide_eq_true hB, decide_eq_true hC] at hfr
        replace hyes := hyes hfr
        clear hno hfr
        have hyesH := Lib.hid hyes
        clear hyes
        go_quiet (fail)
        obtain ⟨W6, hW6⟩ : ∃ Y, W5.drewN nq = Y := ⟨_, rfl⟩
        have hb6 : Below W5.heap.size W5 W6 := by rw [← hW6]; exact bel_drewN (Below.refl _ _) nq
        rw [hW6]
        have v0 := keepC hb6 v0
        have v1 := keepC hb6 v1
        have v2 := keepC hb6 v2
        have v3 := keepC hb6 v3
        have v4 := keepC hb6 v4
        have v5 := keepC hb6 v5
        have v6 := keepC hb6 v6
        have hown6 := hown5H.out.below hb6
        have hbl6 := hblH.out.trans (hb6.mono hblH.out.size)
        have hyok := hwokH.out W6 hbl6 _ (List.mem_of_getElem? hyH.out)
        have hnw := slAt_new (R := RWorker) W6 84 (⟨ynm, yh, ysl, ysp, yfr, yto, yst⟩ : Worker) hyok
        have hsz6 := hbl6.size
        clear hyok g1
        have hW6H := Lib.hid hW6
        clear hW6
        have hb6H := Lib.hid hb6
        clear hb6
        have hown6H := Lib.hid hown6
        clear hown6
        have hbl6H := Lib.hid hbl6
        clear hbl6
        have hnwH := Lib.hid hnw
        clear hnw
        have hsz6H := Lib.hid hsz6
        clear hsz6
        go_wp2_with (at_builtin; go_loud (refine wpList_app rfl (.tmp 96) (.tmp 98) 22 rfl Tryz.underlying22 elem_Wk (by decide) rfl (hown6H.out.alloc _) (some ⟨W6.heap.size, 0, none⟩) 1 1 [(⟨ynm, yh, ysl, ysp, yfr, yto, yst⟩ : Worker)] rfl hnwH.out ?nn ?ok ?c1 ?c2 ?c3 (n3 + 1) ?c4 ?_))
        case nn => intro h; cases h
        case ok =>
         intro w' hg z hz _
         have hba := (hbl6H.out.alloc hsz6H.out (.cells #[.string ynm, .slice yh.A yh.n yh.cap, .int .i64 ysl, .int .i64 ysp, .int .i64 yfr, .int .i64 yto, .slice yst.A yst.n yst.cap] 84))
         exact hwokH.out w' (hba.grown hg hba.size (fun b hb => (hown6H.out.1.lt b hb).1)) z (hmemH.out z hz)
        case c1 => rw [hl3nH.out]; simp [maxLen]; omega
        case c2 => rw [hl3nH.out]; omega
        case c3 => have := hsz6H.out; simp; omega
        case c4 => rw [hl3nH.out]
        intro A' c' w9 hown9 hg9 hat9 hb9
        have R := hyesH.out A' c' w9 ((hbl6H.out.alloc hsz6H.out _).trans hb9) hown9
        clear hg9 hat9 hb9 hown9
        have RH := Lib.hid R
        clear R
        go_wp2
        refine ⟨?rel, ?measure⟩
        case measure => (simp [intOf]; omega)
        case rel => first | exact RH.out | exact ⟨rfl, RH.out⟩ | ((try refine ⟨rfl, ?_⟩); (repeat apply Exists.intro); refine ⟨RH.out, ?_⟩; ((repeat' apply And.intro) <;> rfl))
       ·have dC : decide ((bv : Int) < ysl) = false := decide_eq_false hC
        rw [decide_eq_false hC, Bool.and_false, Bool.and_false] at hfr
        have R := fun nq => hno hfr (W5.drewN nq) (bel_drewN hblH.out nq) (hown5H.out.below (bel_drewN (Below.refl _ _) nq))
        clear hno hyes hfr
        have RH := Lib.hid R
        clear R
        go_quiet (fail)
        go_wp2
        refine ⟨?rel, ?measure⟩
        case measure => (simp [intOf]; omega)
        case rel => first | exact (RH.out _) | exact ⟨rfl, (RH.out _)⟩ | ((try refine ⟨rfl, ?_⟩); (repeat apply Exists.intro); refine ⟨(RH.out _), ?_⟩; ((repeat' apply And.intro) <;> rfl))
      ·have dB : decide (yto > t) = false := decide_eq_false hB
       rw [decide_eq_false hB, Bool.false_and, Bool.and_false] at hfr
       have R := fun nq => hno hfr (W5.drewN nq) (bel_drewN hblH.out nq) (hown5H.out.below (bel_drewN (Below.refl _ _) nq))
       clear hno hyes hfr
       have RH := Lib.hid R
       clear R
       go_quiet (fail)
       go_wp2
       refine ⟨?rel, ?measure⟩
       case measure => (simp [intOf]; omega)
       case rel => first | exact (RH.out _) | exact ⟨rfl, (RH.out _)⟩ | ((try refine ⟨rfl, ?_⟩); (repeat apply Exists.intro); refine ⟨(RH.out _), ?_⟩; ((repeat' apply And.intro) <;> rfl))
     ·have dA : decide (yfr ≤ t) = false := decide_eq_false hA
      rw [decide_eq_false hA, Bool.false_and] at hfr
      have R := fun nq => hno hfr (W5.drewN nq) (bel_drewN hblH.out nq) (hown5H.out.below (bel_drewN (Below.refl _ _) nq))
      clear hno hyes hfr
      have RH := Lib.hid R
      clear R
      go_quiet (fail)
      go_wp2
      refine ⟨?rel, ?measure⟩
      case measure => (simp [intOf]; omega)
      case rel => first | exact (RH.out _) | exact ⟨rfl, (RH.out _)⟩ | ((try refine ⟨rfl, ?_⟩); (repeat apply Exists.intro); refine ⟨(RH.out _), ?_⟩; ((repeat' apply And.intro) <;> rfl))
    ·obtain rfl : q = M := by omega
     have e : x.workers.l.take q = x.workers.l := List.take_of_length_le (by have := hwlH.out; omega)
     rw [e] at hown
     have R := hRZH.out A3 n3 c3 wr hown hn3 hbq
     clear e hown
     have RH := Lib.hid R
     clear R
     have hbqH := Lib.hid hbq
     clear hbq
     go_wp2
     exact RH.out
end Go.Proofs.YtbnkoefljcekbaaGreatDoor.C9

namespace Go.Proofs.YtbnkoefljcekbaaGreatDoor.C9
open Go.ChangeShapes Go.WideShapes Go.Deep Go.RowKit
set_option linter.unusedVariables false
set_option linter.unusedSimpArgs false

theorem FS.wk {X : FX} {s : PS} {w0 : World} (h : FS X s w0) {k : Nat} {y : Worker} (hy : X.x.workers.l[k]? = some y) : X.F.wfrom k = y.from_ ∧ X.F.wto k = y.to_ ∧ X.F.slots k = y.slots ∧ X.F.speed k = y.speed ∧ (∀ i, X.F.fit k i = fitF (woOf X.x i).needs.l y.has.l) := by
 obtain ⟨o, e⟩ := h.F
 rw [e]
 simp only [fpOf]
 rw [wkOf_get hy]
 exact ⟨rfl, rfl, rfl, rfl, fun _ => rfl⟩
theorem FS.nW {X : FX} {s : PS} {w0 : World} (h : FS X s w0) : X.F.nW = X.x.workers.n ∧ X.F.nX = X.x.works.n ∧ X.x.workers.l.length = X.x.workers.n ∧ X.x.works.l.length = X.x.works.n ∧ X.x.workers.n ≤ 50 ∧ X.x.works.n ≤ 200 := by
 obtain ⟨o, e⟩ := h.F
 have h1 : X.x.workers.l.length = X.x.workers.n := h.ws.1.1
 have h2 : X.x.works.l.length = X.x.works.n := h.xs.1.1
 have h3 := h.ok.wkn
 have h4 := h.ok.wo.len
 rw [e]
 exact ⟨h1, h2, h1, h2, by omega, by omega⟩
end Go.Proofs.YtbnkoefljcekbaaGreatDoor.C9

namespace Go.Proofs.YtbnkoefljcekbaaGreatDoor.C9
open Go.RowKit
set_option linter.unusedVariables false

def sizeF (x : Worker) (sz : Int) : Int := if workerF x = 0 then (if inR 1 1000000 sz = true then 0 else 1) else workerF x
def secondsR (x : Worker) (sz : Int) : Int × Int := if sizeF x sz = 0 then (secsF x sz, 0) else (0, sizeF x sz)
theorem standsErr_in : ∀ (l : List Span) (p : Option Int), standsErr p l = 0 → SpansIn l
 | [], _, _ => fun s h => by cases h
 | s :: r, p, h => by
  rw [standsErr] at h
  by_cases h0 : inR 0 1000000000 s.from_ = true
  ·by_cases h1 : inR 0 1000000000 s.to_ = true
   ·rw [if_pos h0, if_pos h1] at h
    split at h
    ·cases h
    ·split at h
     ·cases h
     ·intro y hy
      rcases List.mem_cons.1 hy with rfl | hy
      ·exact ⟨inR_true h0, inR_true h1⟩
      ·exact standsErr_in r _ h y hy
   ·rw [if_pos h0, if_neg h1] at h; cases h
  ·rw [if_neg h0] at h; cases h
theorem worker_good {x : Worker} (h : workerF x = 0) : (1 ≤ x.speed ∧ x.speed ≤ 1000) ∧ (0 ≤ x.from_ ∧ x.from_ ≤ 1000000000) ∧ (0 ≤ x.to_ ∧ x.to_ ≤ 1000000000) ∧ SpansIn x.stands.l := by
 unfold workerF at h
 split at h
 ·split at h
  ·split at h
   ·rename_i h3
    split at h
    ·cases h
    ·unfold standsF at h
     split at h
     ·exact ⟨inR_true h3.2.1, inR_true h3.2.2.1, inR_true h3.2.2.2, standsErr_in _ _ h⟩
     ·cases h
   ·cases h
  ·rename_i h2
   exact absurd h h2
 ·cases h
theorem size_good {x : Worker} {sz : Int} (h : sizeF x sz = 0) : workerF x = 0 ∧ 1 ≤ sz ∧ sz ≤ 1000000 := by
 unfold sizeF at h
 split at h
 ·rename_i h0
  split at h
  ·rename_i h1
   exact ⟨h0, inR_true h1⟩
  ·cases h
 ·rename_i h0
  exact absurd h h0

theorem ok_below {w w' : World} {x : Worker} (hb : Below w.heap.size w w') (h : RWorker.ok w x) : RWorker.ok w' x := RWorker.mono _ _ _ hb h

theorem wcells {w w1 : World} (x : Worker) (hb : Below (w.alloc (.cells #[.string x.name, .slice x.has.A x.has.n x.has.cap, .int .i64 x.slots, .int .i64 x.speed, .int .i64 x.from_, .int .i64 x.to_, .slice x.stands.A x.stands.n x.stands.cap] 84)).heap.size (w.alloc (.cells #[.string x.name, .slice x.has.A x.has.n x.has.cap, .int .i64 x.slots, .int .i64 x.speed, .int .i64 x.from_, .int .i64 x.to_, .slice x.stands.A x.stands.n x.stands.cap] 84)) w1) :
  w1.cell? ⟨w.heap.size, 0, none⟩ = some (.string x.name) ∧ w1.cell? ⟨w.heap.size, 1, none⟩ = some (.slice x.has.A x.has.n x.has.cap) ∧ w1.cell? ⟨w.heap.size, 2, none⟩ = some (.int .i64 x.slots) ∧
  w1.cell? ⟨w.heap.size, 3, none⟩ = some (.int .i64 x.speed) ∧ w1.cell? ⟨w.heap.size, 4, none⟩ = some (.int .i64 x.from_) ∧ w1.cell? ⟨w.heap.size, 5, none⟩ = some (.int .i64 x.to_) ∧ w1.cell? ⟨w.heap.size, 6, none⟩ = some (.slice x.stands.A x.stands.n x.stands.cap) :=
 ⟨(hb.cell (by simp)).trans (cell_new w _ _ 0), (hb.cell (by simp)).trans (cell_new w _ _ 1), (hb.cell (by simp)).trans (cell_new w _ _ 2), (hb.cell (by simp)).trans (cell_new w _ _ 3), (hb.cell (by simp)).trans (cell_new w _ _ 4), (hb.cell (by simp)).trans (cell_new w _ _ 5), (hb.cell (by simp)).trans (cell_new w _ _ 6)⟩

set_option maxHeartbeats 1000000 in
theorem size_any (x : Worker) (sz : Int) (w : World) (hok : RWorker.ok w x) (c : Int) (hF : sizeF x sz = c) :
  Calls Tryz.prog 93 #[.agg #[.string x.name, .slice x.has.A x.has.n x.has.cap, .int .i64 x.slots, .int .i64 x.speed, .int .i64 x.from_, .int .i64 x.to_, .slice x.stands.A x.stands.n x.stands.cap], .int .i64 sz] w fun e w' => e = .returned (.int .i64 c) ∧ Below w.heap.size w w' := by
 unfold sizeF at hF
 obtain ⟨d, hd⟩ : ∃ d, workerF x = d := ⟨_, rfl⟩
 rw [hd] at hF
 have hba := (Below.refl w.heap.size w).alloc (Nat.le_refl _) (.cells #[.string x.name, .slice x.has.A x.has.n x.has.cap, .int .i64 x.slots, .int .i64 x.speed, .int .i64 x.from_, .int .i64 x.to_, .slice x.stands.A x.stands.n x.stands.cap] 84)
 have hok0 := ok_below hba hok
 have hokH := Lib.hid hok
 clear hok
 have hdH := Lib.hid hd
 clear hd
 have hFH := Lib.hid hF
 clear hF
 have hbaH := Lib.hid hba
 clear hba
 have hok0H := Lib.hid hok0
 clear hok0
 go_enter Tryz.func93, Tryz.ntmps93
 go_wp2_with fail
 refine (worker_any x _ hok0H.out d hdH.out).mono ?_
 rintro e w1 ⟨rfl, hw1⟩
 obtain ⟨q0, q1, q2, q3, q4, q5, q6⟩ := wcells x hw1
 have hb1 := hbaH.out.trans (hw1.mono hbaH.out.size)
 clear hw1
 have hb1H := Lib.hid hb1
 clear hb1
 by_cases e0 : d = 0
 ·subst e0
  have hF := hFH.out
  clear hFH
  by_cases i0 : inR 1 1000000 sz = true
  ·rw [if_pos rfl, if_pos i0] at hF
   subst hF
   go_wp2_with (go_at_call 43; refine (within_p _ _ _ _).mono ?_; rintro e wz ⟨rfl, rfl⟩)
   go_ret
   exact ⟨rfl, hb1H.out⟩
  ·rw [if_pos rfl, if_neg i0] at hF
   subst hF
   have i0 : inR 1 1000000 sz = false := by simpa using i0
   go_wp2_with (go_at_call 43; refine (within_p _ _ _ _).mono ?_; rintro e wz ⟨rfl, rfl⟩)
   go_ret
   exact ⟨rfl, hb1H.out⟩
 ·have hF := hFH.out
  clear hFH
  rw [if_neg e0] at hF
  subst hF
  have e1 : (d != 0) = true := by simpa using e0
  go_wp2
  go_ret
  exact ⟨rfl, hb1H.out⟩

set_option maxHeartbeats 1000000 in
theorem seconds_any (x : Worker) (sz : Int) (w : World) (hok : RWorker.ok w x) (a b : Int) (hF : secondsR x sz = (a, b)) :
  Calls Tryz.prog 48 #[.agg #[.string x.name, .slice x.has.A x.has.n x.has.cap, .int .i64 x.slots, .int .i64 x.speed, .int .i64 x.from_, .int .i64 x.to_, .slice x.stands.A x.stands.n x.stands.cap], .int .i64 sz] w fun e w' => e = .returned (.tuple #[.int .i64 a, .int .i64 b]) ∧ Below w.heap.size w w' := by
 unfold secondsR at hF
 obtain ⟨d, hd⟩ : ∃ d, sizeF x sz = d := ⟨_, rfl⟩
 rw [hd] at hF
 have hba := (Below.refl w.heap.size w).alloc (Nat.le_refl _) (.cells #[.string x.name, .slice x.has.A x.has.n x.has.cap, .int .i64 x.slots, .int .i64 x.speed, .int .i64 x.from_, .int .i64 x.to_, .slice x.stands.A x.stands.n x.stands.cap] 84)
 have hok0 := ok_below hba hok
 have hokH := Lib.hid hok
 clear hok
 have hdH := Lib.hid hd
 clear hd
 have hFH := Lib.hid hF
 clear hF
 have hbaH := Lib.hid hba
 clear hba
 have hok0H := Lib.hid hok0
 clear hok0
 go_enter Tryz.func48, Tryz.ntmps48
 go_wp2_with fail
 refine (size_any x sz _ hok0H.out d hdH.out).mono ?_
 rintro e w1 ⟨rfl, hw1⟩
 obtain ⟨q0, q1, q2, q3, q4, q5, q6⟩ := wcells x hw1
 have hb1 := hbaH.out.trans (hw1.mono hbaH.out.size)
 clear hw1
 have hb1H := Lib.hid hb1
 clear hb1
 have hF := hFH.out
 clear hFH
 by_cases e0 : d = 0
 ·subst e0
  obtain ⟨g0, g1, g2⟩ := size_good hdH.out
  obtain ⟨⟨g3, g4⟩, _⟩ := worker_good g0
  rw [if_pos rfl, Prod.mk.injEq] at hF
  obtain ⟨hs, rfl⟩ := hF
  clear g0
  have hsH := Lib.hid hs
  clear hs
  go_wp2_with fail
  refine (secs x sz _ g1 g2 g3 g4 a hsH.out).mono ?_
  rintro e w2 ⟨rfl, hb2⟩
  have hbb := hb1H.out.trans (hb2.mono hb1H.out.size)
  have hb2H := Lib.hid hb2
  clear hb2
  have hbbH := Lib.hid hbb
  clear hbb
  go_wp2
  go_ret2
  exact ⟨rfl, hbbH.out⟩
 ·rw [if_neg e0, Prod.mk.injEq] at hF
  obtain ⟨rfl, rfl⟩ := hF
  have e1 : (d != 0) = true := by simpa using e0
  go_wp2
  go_ret2
  exact ⟨rfl, hb1H.out⟩

def wAwake : Worker := ⟨⟨#[97]⟩, ⟨none, 0, 0, []⟩, 1, 2, 0, 1, ⟨none, 0, 0, []⟩⟩
theorem slAt_nil {α : Type} (R : Rd α) (w : World) : (RSl R).ok w ⟨none, 0, 0, []⟩ :=
 ⟨⟨rfl, fun h => absurd h (Nat.lt_irrefl 0), fun x hx => by cases hx⟩, Nat.le_refl _, Nat.zero_le _, fun _ => rfl⟩
theorem wAwake_ok (w : World) : RWorker.ok w wAwake := by
 refine ⟨?_, slAt_nil _ w, ?_, ?_, ?_, ?_, slAt_nil _ w⟩
 ·show ByteArray.size ⟨#[97]⟩ ≤ maxLen
  decide +kernel
 all_goals exact ⟨by decide, by decide⟩
theorem wAwake_F : secondsR wAwake 3 = (2, 0) := by decide +kernel

theorem awake_any (w : World) : Calls Tryz.prog 15 #[] w fun e w' => e = .returned (.bool true) ∧ Below w.heap.size w w' := by
 go_enter Tryz.func15, Tryz.ntmps15
 go_wp2_with fail
 refine (seconds_any wAwake 3 _ (wAwake_ok _) 2 0 wAwake_F).mono ?_
 rintro e w' ⟨rfl, hb⟩
 go_wp2
 go_ret
 exact ⟨rfl, by first | exact hb | exact (Below.refl _ _).alloc (Nat.le_refl _) _ |>.trans (hb.mono (by simp))⟩
end Go.Proofs.YtbnkoefljcekbaaGreatDoor.C9

namespace Go.Proofs.YtbnkoefljcekbaaGreatDoor.C9
open Go.ChangeShapes Go.WideShapes Go.Deep Go.RowKit
set_option linter.unusedVariables false
set_option linter.unusedSimpArgs false

section
variable {X : FX} {K : KD Tryz.prog 71 Loss} {rv ov : Value} {s : PS} {w0 W W' : World}
theorem FA.cell (h : FA X K rv ov s w0 W) {b o : Nat} {u : Value} (hb : b ∈ X.bl) {s' : PS} (hc : FC X K rv ov s' w0 (W.setCell ⟨b, o, none⟩ u)) (hr : s'.runs = s.runs) : FA X K rv ov s' w0 (W.setCell ⟨b, o, none⟩ u) :=
 ⟨hc, by rw [hr]; exact own_kp h.runs (grown_setc W ⟨b, o, none⟩ u) (fun c hc e => h.rap b hb (by rw [hc]; exact e.symm)) (fun x _ hx => grun_ok_any _ _ x hx), h.rap, h.rov⟩
theorem FA.own_lt (h : FA X K rv ov s w0 W) : (∀ b, rv.ownBlock = some b → b < W.heap.size) ∧ (∀ b, ov.ownBlock = some b → b < W.heap.size) := ⟨fun b hb => (h.runs.1.lt b hb).2, fun b hb => (h.core.out.1.lt b hb).2⟩
theorem FA.far (h : FA X K rv ov s w0 W) {b o : Nat} {u : Value} (h1 : b ∉ X.bl) (h2 : ov.ownBlock ≠ some b) (h3 : rv.ownBlock ≠ some b) (h4 : X.base ≤ b) : FA X K rv ov s w0 (W.setCell ⟨b, o, none⟩ u) := by
 have hg := grown_setc W ⟨b, o, none⟩ u
 exact ⟨h.core.far hg (fun c hc => by injection hc with hc; subst hc; exact ⟨h1, h2, h4⟩), own_kp h.runs hg (fun c hc e => h3 (by rw [hc]; exact e.symm)) (fun x _ hx => grun_ok_any _ _ x hx), h.rap, h.rov⟩
theorem FA.mid (h : FA X K rv ov s w0 W) (hg : W.grownBy W' rv.ownBlock) : FC X K rv ov s w0 W' := h.core.far hg (fun b hb => ⟨fun hm => h.rap b hm hb, h.rov b hb, (h.runs.1.lt b hb).1⟩)
/-- a block that is newer than the farm -/
theorem FA.new (h : FA X K rv ov s w0 W) : W.heap.size ∉ X.bl ∧ ov.ownBlock ≠ some W.heap.size ∧ rv.ownBlock ≠ some W.heap.size ∧ X.base ≤ W.heap.size :=
 ⟨fun hm => Nat.lt_irrefl _ (h.core.lt _ hm), fun e => Nat.lt_irrefl _ (h.own_lt.2 _ e), fun e => Nat.lt_irrefl _ (h.own_lt.1 _ e), by rw [h.core.base]; exact h.core.bel.size⟩
theorem FA.fr (h : FA X K rv ov s w0 W) {r : Nat} (hb : X.f < W.heap.size) : True := trivial
end
/-- the state behind a beginning -/
def begS (F : FP) (s : PS) (i : Nat) (bo : Option Nat) : PS := { s with runs := (beginP F s.now i bo (s.runs, s.begun)).1, begun := (beginP F s.now i bo (s.runs, s.begun)).2 }
theorem begS_none {F : FP} {s : PS} {i : Nat} {bo : Option Nat} (h : bestW (canW F s.now s.runs i bo) F.speed F.nW = none) : begS F s i bo = s := by
 unfold begS beginP; simp only [h]
theorem begS_some {F : FP} {s : PS} {i k : Nat} {bo : Option Nat} (h : bestW (canW F s.now s.runs i bo) F.speed F.nW = some k) :
  begS F s i bo = { s with runs := s.runs ++ [⟨i, k, s.now, 0, 0⟩], begun := fun j => if j = i then s.begun j + 1 else s.begun j } := by
 unfold begS beginP; simp only [h]
theorem FS.beg {X : FX} {s : PS} {w0 : World} (h : FS X s w0) {i : Nat} (hi : i < X.F.nX) (bo : Option Nat) : FS X (begS X.F s i bo) w0 := by
 cases hb : bestW (canW X.F s.now s.runs i bo) X.F.speed X.F.nW with
 | none => rw [begS_none hb]; exact h
 | some k =>
  rw [begS_some hb]
  refine ⟨h.ok, h.F, h.ws, h.xs, h.ls, h.t0, h.t1, fun r hr => ?_⟩
  rcases List.mem_append.1 hr with hr | hr
  ·exact h.rn r hr
  ·rw [List.mem_singleton.1 hr]
   exact ⟨rfl, rfl, (bestW_some hb).1, hi, h.t0, Int.le_refl _⟩
theorem FS.wo {X : FX} {s : PS} {w0 : World} (h : FS X s w0) {i : Nat} {z : Work} (hz : X.x.works.l[i]? = some z) : 1 ≤ z.size ∧ z.size ≤ 1000000 := h.ok.wo.size z (List.mem_of_getElem? hz)
theorem FS.ends {X : FX} {s : PS} {w0 : World} (h : FS X s w0) {k i : Nat} {y : Worker} {z : Work} (hy : X.x.workers.l[k]? = some y) (hz : X.x.works.l[i]? = some z) (t : Int) :
  X.F.endAt k i t = if (endsF y z.size t).2 = true then some (endsF y z.size t).1 else none := by
 obtain ⟨o, e⟩ := h.F
 rw [e]
 simp only [fpOf]
 rw [wkOf_get hy, woOf_get hz]
end Go.Proofs.YtbnkoefljcekbaaGreatDoor.C9

namespace Go.Proofs.YtbnkoefljcekbaaGreatDoor.C9
open Go.ChangeShapes Go.WideShapes Go.Deep Go.RowKit
set_option linter.unusedVariables false
set_option linter.unusedSimpArgs false

theorem elem_Run : Elem Tryz.prog 34 RRun.size 56 := elem_of (z := .agg #[.string ByteArray.empty, .string ByteArray.empty, .int .i64 0, .int .i64 0, .int .i64 0]) (by kernel_rfl) (by decide)
end Go.Proofs.YtbnkoefljcekbaaGreatDoor.C9

namespace Go.Proofs.YtbnkoefljcekbaaGreatDoor.C9
open Go.ChangeShapes Go.WideShapes Go.Deep Go.RowKit
set_option linter.unusedVariables false
set_option linter.unusedSimpArgs false

section
variable {α : Type} {R : Rd α} {e : TypeId} {w w' : World} {base g n cap : Nat} {l : List α}
theorem own_open (h : Own R e w base (.slice (some ⟨g, 0, none⟩) n cap) l) : ∃ cur, base ≤ g ∧ w.heap[g]? = some (.cells cur e (0, 0)) ∧ n ≤ cap ∧ cap ≤ maxLen ∧ cur.size = cap * R.size ∧ cur.toList.take (n * R.size) = l.flatMap R.vals ∧ l.length = n := by
 have hl := h.len
 rcases h.1.2 with ⟨hv, _⟩ | ⟨g', cap', cur, hv, a, b, c, d, e1, f⟩
 ·cases hv
 ·injection hv with h1 h2 h3
  injection h1 with h1
  injection h1 with h1
  subst h1 h3
  rw [hl] at c f
  exact ⟨cur, a, b, c, d, e1, f, hl⟩
theorem own_make {cur : Array Value} (a : base ≤ g) (b : w.heap[g]? = some (.cells cur e (0, 0))) (c : n ≤ cap) (d : cap ≤ maxLen) (e1 : cur.size = cap * R.size) (f : cur.toList.take (n * R.size) = l.flatMap R.vals) (hl : l.length = n) (hok : ∀ x ∈ l, R.ok w x) :
  Own R e w base (.slice (some ⟨g, 0, none⟩) n cap) l := by
 subst hl
 exact ⟨⟨flatMap_vals_length l, .inr ⟨g, cap, cur, rfl, a, b, c, d, e1, f⟩⟩, hok⟩
theorem flatMap_take (l : List α) (i : Nat) : (l.take i).flatMap R.vals = (l.flatMap R.vals).take (i * R.size) := by
 induction l generalizing i with
 | nil => simp
 | cons x l ih =>
  cases i with
  | zero => simp
  | succ i =>
   have hx : (R.vals x).length ≤ (i + 1) * R.size := by rw [R.len, Nat.add_mul]; omega
   have e1 : (i + 1) * R.size - R.size = i * R.size := by rw [Nat.add_mul]; omega
   rw [List.take_succ_cons, List.flatMap_cons, List.flatMap_cons, ih, List.take_append, List.take_of_length_le hx, R.len, e1]
theorem own_cut (h : Own R e w base (.slice (some ⟨g, 0, none⟩) n cap) l) {k : Nat} (hk : k ≤ n) : Own R e w base (.slice (some ⟨g, 0, none⟩) k cap) (l.take k) := by
 obtain ⟨cur, a, b, c, d, e1, f, hl⟩ := own_open h
 refine own_make a b (by omega) d e1 ?_ (by rw [List.length_take]; omega) (fun x hx => h.2 x (List.mem_of_mem_take hx))
 rw [flatMap_take, ← f, List.take_take]
 congr 1
 exact (Nat.min_eq_left (Nat.mul_le_mul_right _ hk)).symm
end

end Go.Proofs.YtbnkoefljcekbaaGreatDoor.C9
