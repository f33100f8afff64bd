/-
 Several texts of mine as one, without what is not wanted here: XWtM.
-/
import Derived.Test.YtbnkoefljcekbaaGreatDoorNbUC9
import Derived.Test.YtbnkoefljcekbaaGreatDoorNbGi
import Derived.Test.YtbnkoefljcekbaaGreatDoorNbOC9
namespace Go.Proofs.YtbnkoefljcekbaaGreatDoor.C9
open Go.ChangeShapes Go.WideShapes Go.Deep Go.RowKit Go.Maps
set_option linter.unusedVariables false
set_option linter.unusedSimpArgs false

theorem mv4 {a b c d : Prop} : (d ∨ c ∨ a ∨ b) ↔ (a ∨ b ∨ c ∨ d) := by
 constructor
 ·rintro (h | h | h | h) <;> simp [h]
 ·rintro (h | h | h | h) <;> simp [h]
theorem mv5 {a b c d e : Prop} : (d ∨ c ∨ a ∨ b ∨ e) ↔ (a ∨ b ∨ e ∨ c ∨ d) := by
 constructor
 ·rintro (h | h | h | h | h) <;> simp [h]
 ·rintro (h | h | h | h | h) <;> simp [h]
/-- a set of moments in memory -/
def SetM (W : World) (mb : Nat) (S : List Int) (n : Nat) : Prop := ∃ c, TMap KZ valZ W mb (fun z => if z ∈ S then some true else none) c ∧ c ≤ n
theorem SetM.put {W : World} {mb n : Nat} {S : List Int} (h : SetM W mb S n) {x : Int} (hx : KZ.good x) (hn : n ≤ 100000) :
  ∃ w', (Instr.mapUpdate 129 (.map (some mb)) (.int .i64 x) (.bool true)).run Tryz.prog W = .ok () w' ∧ SetM w' mb (x :: S) (n + 1) ∧ W.grownBy w' (some mb) := by
 obtain ⟨c, hm, hc⟩ := h
 obtain ⟨w', hr, hm2, ht⟩ := hm.store (t := 129) (e := 4) Tryz.underlying129 injZ (by unfold maxLen; omega) hx true
 refine ⟨w', hr, ⟨_, hm2.congr (fun z _ => ?_), ?_⟩, World.mapTurned.grown ht⟩
 ·unfold upd
  by_cases e : z = x
  ·subst e; simp
  ·simp [e]
 ·exact Nat.le_trans (ite_le_succ _ c) (by omega)
theorem SetM.below {W W' : World} {mb n : Nat} {S : List Int} (h : SetM W mb S n) (hb : Below W.heap.size W W') : SetM W' mb S n := by
 obtain ⟨c, hm, hc⟩ := h
 exact ⟨c, hm.below hb hm.lt, hc⟩
theorem SetM.congr {W : World} {mb n m : Nat} {S S' : List Int} (h : SetM W mb S n) (e : ∀ z, z ∈ S ↔ z ∈ S') (hn : n ≤ m) : SetM W mb S' m := by
 obtain ⟨c, hm, hc⟩ := h
 refine ⟨c, hm.congr (fun z _ => ?_), by omega⟩
 by_cases hz : z ∈ S
 ·rw [if_pos hz, if_pos ((e z).1 hz)]
 ·rw [if_neg hz, if_neg (fun h2 => hz ((e z).2 h2))]
theorem SetM.lt {W : World} {mb n : Nat} {S : List Int} (h : SetM W mb S n) : mb < W.heap.size := by
 obtain ⟨c, hm, _⟩ := h
 exact hm.lt
def momL (l : List Run) : List Int := l.flatMap fun r => [r.from_, r.to_]
def momW (l : List Worker) : List Int := l.flatMap fun y => [y.from_, y.to_]
def M1 (Rs : List (List Run)) (N mb : Nat) (w : World) (i : Value) (wr : World) : Prop := ∃ k : Nat, k ≤ N ∧ i = .int .i64 k ∧ SetM wr mb (0 :: momL (pfx Rs k)) (1 + 2 * (pfx Rs k).length) ∧ Below w.heap.size w wr
def M2 (P r : List Run) (n mb : Nat) (w : World) (i : Value) (wr : World) : Prop := ∃ k : Nat, k ≤ n ∧ i = .int .i64 k ∧ SetM wr mb (0 :: momL (P ++ r.take k)) (1 + 2 * (P ++ r.take k).length) ∧ Below w.heap.size w wr
def M3 (F : List Run) (ws : List Worker) (M mb : Nat) (w : World) (i : Value) (wr : World) : Prop := ∃ k : Nat, k ≤ M ∧ i = .int .i64 k ∧ SetM wr mb (0 :: momL F ++ momW (ws.take k)) (1 + 2 * F.length + 2 * k) ∧ Below w.heap.size w wr
def MoAns (F : List Run) (ws : List Worker) (w : World) (e : Ending) (w' : World) : Prop :=
 ∃ (A : Option Addr) (n c base : Nat) (L : List Int), e = .returned (.slice A n c) ∧ w.heap.size ≤ base ∧ Own RInt 3 w' base (.slice A n c) L ∧ (∀ z, KZ.good z → (z ∈ L ↔ z ∈ 0 :: momL F ++ momW ws)) ∧ n ≤ 10000 ∧ Below w.heap.size w w'
theorem good_of {z : Int} (h : I64 z) : KZ.good z := by
 show (Lit.int .i64 z).wf = true
 simpa [I64, Lit.wf, IntKind.min, IntKind.max, IntKind.signed, IntKind.bits] using h
theorem momL_snoc (l : List Run) (r : Run) : momL (l ++ [r]) = momL l ++ [r.from_, r.to_] := by unfold momL; rw [List.flatMap_append]; rfl
theorem momW_take {l : List Worker} {k : Nat} {y : Worker} (h : l[k]? = some y) : momW (l.take (k + 1)) = momW (l.take k) ++ [y.from_, y.to_] := by
 unfold momW
 rw [List.take_add_one, h, Option.toList_some, List.flatMap_append]; rfl
set_option maxRecDepth 100000 in
set_option maxHeartbeats 8000000 in
theorem moments_any {x : Farm} {wtb rb N : Nat} {Rs : List (List Run)} (w : World) (hH : WtH x wtb rb N Rs w) (hN : N ≤ 1000) (hlen : Rs.flatten.length ≤ 4000) (hM : x.workers.n ≤ 50) :
  Calls Tryz.prog 63 #[.pointer (some ⟨wtb, 0, none⟩)] w (MoAns Rs.flatten x.workers.l w) := by
 have hwl : x.workers.l.length = x.workers.n := hH.ws.1
 have c0 := hH.c0
 have c5 := hH.c5
 obtain ⟨M, hMe⟩ : ∃ m, x.workers.n = m := ⟨_, rfl⟩
 obtain ⟨wA, hwA⟩ : ∃ m, x.workers.A = m := ⟨_, rfl⟩
 obtain ⟨wc, hwc⟩ : ∃ m, x.workers.cap = m := ⟨_, rfl⟩
 have hws := hH.ws
 rw [hMe] at hM hwl c0 hws
 rw [hwA] at c0 hws
 rw [hwc] at c0
 have hmk := @run_makeMap Tryz.prog
 have hS1 : SetM (w.alloc (.map #[] 0)) w.heap.size [] 0 := ⟨0, (TMap.made w KZ valZ).congr (fun z _ => by simp), Nat.le_refl _⟩
 obtain ⟨w2, hrun, hS2, hg2⟩ := hS1.put (x := 0) (good_of (by unfold I64; omega)) (by omega)
 have hb2 : Below w.heap.size w w2 := ((Below.refl w.heap.size w).alloc (Nat.le_refl _) (.map #[] 0)).grown hg2 (by simp) (fun b hb => by injection hb with hb; omega)
 obtain ⟨mb, hmb⟩ : ∃ b, w.heap.size = b := ⟨_, rfl⟩
 rw [hmb] at hS2
 have hst : M1 Rs N mb w (.int .i64 0) w2 := ⟨0, Nat.zero_le _, rfl, hS2.congr (fun z => by simp [pfx, momL]) (by simp), hb2⟩
 have hK : ∀ W, Below w.heap.size w W → W.cell? ⟨wtb, 0, none⟩ = some (.slice wA M wc) ∧ W.cell? ⟨wtb, 5, none⟩ = some (.slice (some ⟨rb, 0, none⟩) N N) := fun W h => ⟨keepC h c0, keepC h c5⟩
 obtain ⟨c0, c5⟩ := hK w2 hb2
 have hmbl : w.heap.size ≤ mb := Nat.le_of_eq hmb
 obtain ⟨Z, hZ⟩ : ∃ Z, MoAns Rs.flatten x.workers.l w = Z := ⟨_, rfl⟩
 rw [hZ]
 obtain ⟨W1, hW1⟩ : ∃ Y, w.alloc (.map #[] 0) = Y := ⟨_, rfl⟩
 have hHH := Lib.hid hH; have hlenH := Lib.hid hlen; have hwlH := Lib.hid hwl; have hMeH := Lib.hid hMe; have hwAH := Lib.hid hwA; have hwcH := Lib.hid hwc; have hwsH := Lib.hid hws; have hS1H := Lib.hid hS1; have hS2H := Lib.hid hS2; have hg2H := Lib.hid hg2; have hb2H := Lib.hid hb2; have hmbH := Lib.hid hmb; have hstH := Lib.hid hst; have hKH := Lib.hid hK; have hmblH := Lib.hid hmbl; have hZH := Lib.hid hZ; have hW1H := Lib.hid hW1; clear hH hlen hwl hMe hwA hwc hws hS1 hS2 hg2 hb2 hmb hst hK hmbl hZ hW1
 go_enter Tryz.func63, Tryz.ntmps63
 go_wp2_with fail
 rw [hmbH.out]
 clear hrun c0 c5 hmk
 go_loopw [17] (fun i wr => M1 Rs N mb w i wr) (fun i _ => N - (intOf i).toNat)
 case atStart => exact hstH.out
 case round =>
  clear hstH
  obtain ⟨k, hk, rfl, hS, hb⟩ := hrel
  have hbs := hb.size
  obtain ⟨c0, c5⟩ := hKH.out wr hb
  by_cases hlt : k < N
  ·obtain ⟨r, hr⟩ : ∃ r, Rs[k]? = some r := ⟨Rs[k]'(by have := hHH.out.len; omega), List.getElem?_eq_getElem _⟩
   obtain ⟨A, n, c, g0w, hsl0⟩ := hHH.out.rows k r hr
   have g0 := keepC hb g0w
   have hll := hsl0.1
   have hn4 : n ≤ 4000 := by
    have h1 := hlenH.out
    have h2 : r.length ≤ Rs.flatten.length := (List.sublist_flatten_of_mem (List.mem_of_getElem? hr)).length_le
    omega
   obtain ⟨P, hP⟩ : ∃ P, pfx Rs k = P := ⟨_, rfl⟩
   have hPn : pfx Rs (k + 1) = P ++ r := by rw [pfx_next hr, hP]
   have hPl : P.length ≤ 4000 := by
    rw [← hP]
    have h1 := hlenH.out
    have h2 : (pfx Rs k).length ≤ Rs.flatten.length := by
     have h3 : Rs.flatten = pfx Rs k ++ (Rs.drop k).flatten := by unfold pfx; rw [← List.flatten_append, List.take_append_drop]
     rw [h3, List.length_append]; omega
    omega
   rw [hP] at hS
   have hst2 : M2 P r n mb w (.int .i64 0) wr := ⟨0, Nat.zero_le _, rfl, hS.congr (fun z => by simp) (by simp), hb⟩
   have hend : ∀ wx, SetM wx mb (0 :: momL (P ++ r)) (1 + 2 * (P ++ r).length) → Below w.heap.size w wx → M1 Rs N mb w (.int .i64 ((k : Int) + 1)) wx := fun wx h1 h2 => ⟨k + 1, hlt, by go_num, by rw [hPn]; exact h1, h2⟩
   clear hS c0 g0w
   have hrH := Lib.hid hr; have hsl0H := Lib.hid hsl0; have hllH := Lib.hid hll; have hPH := Lib.hid hP; have hPnH := Lib.hid hPn; have hst2H := Lib.hid hst2; have hendH := Lib.hid hend; have hbH := Lib.hid hb; have hPlH := Lib.hid hPl; clear hr hsl0 hll hP hPn hst2 hend hb hPl
   go_wp2_with fail
   clear c5 g0
   obtain ⟨wa, rfl⟩ : ∃ W, W = wr := ⟨_, rfl⟩
   go_loopw [23] (fun i wq => M2 P r n mb w i wq) (fun i _ => n - (intOf i).toNat)
   case atStart => exact hst2H.out
   case round =>
    clear hst2H
    obtain ⟨q, hq, rfl, hS, hbq⟩ := hrel
    have hbqs := hbq.size
    by_cases hlt2 : q < n
    ·have hslq := hsl0H.out.below hbq
     obtain ⟨bl, ol, hA8, _⟩ := hslq.2.1 (by omega)
     subst hA8
     obtain ⟨s, hs⟩ : ∃ s, r[q]? = some s := ⟨r[q]'(by have := hllH.out; omega), List.getElem?_eq_getElem _⟩
     obtain ⟨e0, e1, e2, e3, e4⟩ := cells_Run hslq hs
     have hso := hslq.2.2 s (List.mem_of_getElem? hs)
     have hg1 : KZ.good s.from_ := good_of hso.2.2.1
     have hg2 : KZ.good s.to_ := good_of hso.2.2.2.1
     have hnx : momL (P ++ r.take (q + 1)) = momL (P ++ r.take q) ++ [s.from_, s.to_] := by
      rw [List.take_add_one, hs, Option.toList_some, ← List.append_assoc, momL_snoc]
     have hlx : (P ++ r.take (q + 1)).length = (P ++ r.take q).length + 1 := by
      rw [List.take_add_one, hs, Option.toList_some, ← List.append_assoc, List.length_append]; rfl
     have hll9 : (P ++ r.take q).length ≤ 8000 := by
      have h2 : (P ++ r.take q).length ≤ P.length + r.length := by rw [List.length_append, List.length_take]; omega
      have h3 := hPlH.out
      have h4 := hllH.out
      omega
     obtain ⟨sid, swk, sfm, sto, sen⟩ := s
     simp only at e0 e1 e2 e3 e4 hg1 hg2 hnx
     obtain ⟨W5, hW5⟩ : ∃ Y, wr.alloc (.cells #[.string sid, .string swk, .int .i64 sfm, .int .i64 sto, .int .i64 sen] 34) = Y := ⟨_, rfl⟩
     obtain ⟨sb, hsb⟩ : ∃ b, wr.heap.size = b := ⟨_, rfl⟩
     have hbz : Below wr.heap.size wr W5 := by rw [← hW5]; exact (Below.refl _ _).alloc (Nat.le_refl _) _
     have y2 : W5.cell? ⟨sb, 2, none⟩ = some (.int .i64 sfm) := by rw [← hW5, ← hsb]; exact cell_new _ _ _ 2
     have y3 : W5.cell? ⟨sb, 3, none⟩ = some (.int .i64 sto) := by rw [← hW5, ← hsb]; exact cell_new _ _ _ 3
     have hb5 := hbq.trans (hbz.mono hbqs)
     have hmlt : mb < sb := by have := hS.lt; omega
     have hSd := (hS.below hbz).below (Below.refl W5.heap.size W5).drew
     obtain ⟨w6, hrun1, hS6, hg6⟩ := hSd.put hg1 (by omega)
     obtain ⟨w7, hrun2, hS7, hg7⟩ := hS6.put hg2 (by omega)
     have hne : some sb ≠ some mb := fun e => by injection e with e; omega
     have hq5 : W5.cell? ⟨sb, 2, none⟩ = some (.int .i64 sfm) ∧ W5.cell? ⟨sb, 3, none⟩ = some (.int .i64 sto) := ⟨y2, y3⟩
     have hq6 : w6.cell? ⟨sb, 2, none⟩ = some (.int .i64 sfm) ∧ w6.cell? ⟨sb, 3, none⟩ = some (.int .i64 sto) := ⟨hg6.cell y2 hne, hg6.cell y3 hne⟩
     have hq7 : w7.cell? ⟨sb, 2, none⟩ = some (.int .i64 sfm) ∧ w7.cell? ⟨sb, 3, none⟩ = some (.int .i64 sto) := ⟨hg7.cell hq6.1 hne, hg7.cell hq6.2 hne⟩
     have hb6 : Below w.heap.size w w6 := (hb5.drew).grown hg6 (by have := hb5.size; simpa using this) (fun b hb => by injection hb with hb; have := hmblH.out; omega)
     have hb7 : Below w.heap.size w w7 := hb6.grown hg7 hb6.size (fun b hb => by injection hb with hb; have := hmblH.out; omega)
     have R : M2 P r n mb w (.int .i64 ((q : Int) + 1)) w7 := ⟨q + 1, hlt2, by go_num, hS7.congr (fun z => by rw [hnx]; simp only [List.mem_cons, List.mem_append, List.not_mem_nil, or_false]; exact mv4) (by rw [hlx]; omega), hb7⟩
     clear hSd hS hnx hlx hll9 hso
     have hbqH := Lib.hid hbq; have hsH := Lib.hid hs; have hW5H := Lib.hid hW5; have hsbH := Lib.hid hsb; have hbzH := Lib.hid hbz; have hb5H := Lib.hid hb5; have hg1H := Lib.hid hg1; have hg2H := Lib.hid hg2; have hS6H := Lib.hid hS6; have hg6H := Lib.hid hg6; have hS7H := Lib.hid hS7; have hg7H := Lib.hid hg7; have hq7H := Lib.hid hq7; have hb6H := Lib.hid hb6; have hb7H := Lib.hid hb7; have RH := Lib.hid R; have hslqH := Lib.hid hslq; clear hbq hs hW5 hsb hbz hb5 hg1 hg2 hS6 hg6 hS7 hg7 hq7 hb6 hb7 R hslq
     go_wp2_with fail
     rw [hW5H.out, hsbH.out]
     clear e0 e1 e2 e3 e4 y2 y3
     refine wp_region_held_drew (S := fun W : World => W.cell? ⟨sb, 2, none⟩ = some (.int .i64 sfm) ∧ W.cell? ⟨sb, 3, none⟩ = some (.int .i64 sto)) (by kernel_rfl) hq5 (fun hHeld => ?_)
     refine tkH (i := 0) (d := some 27) (v := ?_) (hy := Or.inl ⟨by rfl, ?_⟩) (h := ?_)
     rotate_left
     ·(intro w hSw; (try dsimp only at hSw); go_simp; (try with_reducible rfl))
     (try simp only [Act.put, tkA, tkB, tkC])
     refine tkH (i := 1) (d := some 28) (v := ?_) (hy := Or.inl ⟨by rfl, ?_⟩) (h := ?_)
     rotate_left
     ·(intro w hSw; (try dsimp only at hSw); go_simp; (try with_reducible rfl))
     (try simp only [Act.put, tkA, tkB, tkC])
     refine tkH (i := 2) (d := some 29) (v := ?_) (hy := Or.inl ⟨by rfl, ?_⟩) (h := ?_)
     rotate_left
     ·(intro w hSw; (try dsimp only at hSw); go_simp; (try with_reducible rfl))
     (try simp only [Act.put, tkA, tkB, tkC])
     refine tkH (i := 3) (d := some 30) (v := ?_) (hy := Or.inl ⟨by rfl, ?_⟩) (h := ?_)
     rotate_left
     ·(intro w hSw; (try dsimp only at hSw); go_simp; (try with_reducible rfl))
     (try simp only [Act.put, tkA, tkB, tkC])
     refine tkH (i := 4) (d := some 31) (v := ?_) (hy := Or.inl ⟨by rfl, ?_⟩) (h := ?_)
     rotate_left
     ·(intro w hSw; (try dsimp only at hSw); go_simp; (try with_reducible rfl))
     (try simp only [Act.put, tkA, tkB, tkC])
     refine tkH (i := 5) (d := some 32) (v := ?_) (hy := Or.inl ⟨by rfl, ?_⟩) (h := ?_)
     rotate_left
     ·(intro w hSw; (try dsimp only at hSw); go_simp; (try with_reducible rfl))
     (try simp only [Act.put, tkA, tkB, tkC])
     refine wpAnyH_ready (rs := [6]) (by kernel_rfl) (by simp) ?_
     refine AllReadyH.cons (i := 6) rfl (fun K hK => ?_) AllReadyH.nil
     go_simp
     (try simp only [hrun1])
     refine hK.out _ _ hq6 (fun hHeld => ?_)
     clear hK K
     (try simp only [Act.put, List.setIfInBounds_toArray, List.set_cons_zero, List.set_cons_succ])
     refine wpAnyH_ready (rs := [7]) (by kernel_rfl) (by simp) ?_
     refine AllReadyH.cons (i := 7) rfl (fun K hK => ?_) AllReadyH.nil
     go_simp
     (try simp only [hrun2])
     refine hK.out _ _ hq7H.out (fun hHeld => ?_)
     clear hK K
     (try simp only [Act.put, List.setIfInBounds_toArray, List.set_cons_zero, List.set_cons_succ])
     refine wpAnyH_done (by kernel_rfl) ?_ _
     clear hHeld hq5 hq6 hrun1 hrun2
     go_wp2
     refine ⟨?rel, ?measure⟩
     case measure => (simp [intOf]; omega)
     case rel => first | exact RH.out | exact ⟨rfl, RH.out⟩ | ((try refine ⟨rfl, ?_⟩); (repeat apply Exists.intro); refine ⟨RH.out, ?_⟩; ((repeat' apply And.intro) <;> rfl))
    ·obtain rfl : q = n := by omega
     have e : r.take q = r := List.take_of_length_le (by have := hllH.out; omega)
     rw [e] at hS
     have R := hendH.out _ hS hbq
     clear e hS
     have RH := Lib.hid R; have hbqH := Lib.hid hbq; clear R hbq
     go_wp2
     refine ⟨?rel, ?measure⟩
     case measure => (simp [intOf]; omega)
     case rel => first | exact RH.out | exact ⟨rfl, RH.out⟩ | ((try refine ⟨rfl, ?_⟩); (repeat apply Exists.intro); refine ⟨RH.out, ?_⟩; ((repeat' apply And.intro) <;> rfl))
  ·obtain rfl : k = N := by omega
   have hpa : pfx Rs k = Rs.flatten := pfx_all (by have := hHH.out.len; omega)
   rw [hpa] at hS
   have hst3 : M3 Rs.flatten x.workers.l M mb w (.int .i64 0) wr := ⟨0, Nat.zero_le _, rfl, hS.congr (fun z => by simp [momW]) (by omega), hb⟩
   clear hS c5
   have hbH := Lib.hid hb; have hpaH := Lib.hid hpa; have hst3H := Lib.hid hst3; clear hb hpa hst3
   go_wp2_with fail
   clear c0
   obtain ⟨wa, rfl⟩ : ∃ W, W = wr := ⟨_, rfl⟩
   go_loopw [41] (fun i wq => M3 Rs.flatten x.workers.l M mb w i wq) (fun i _ => M - (intOf i).toNat)
   case atStart => exact hst3H.out
   case round =>
    clear hst3H
    obtain ⟨q, hq, rfl, hS, hbq⟩ := hrel
    have hbqs := hbq.size
    by_cases hlt2 : q < M
    ·have hwsq := hwsH.out.below hbq
     obtain ⟨bw, ow, hA8, _⟩ := hwsq.2.1 (by omega)
     subst hA8
     obtain ⟨y, hy⟩ : ∃ y, x.workers.l[q]? = some y := ⟨x.workers.l[q]'(by have := hwlH.out; omega), List.getElem?_eq_getElem _⟩
     obtain ⟨e0, e1, e2, e3, e4, e5, e6⟩ := cells_Worker hwsq hy
     have hyo := hwsq.2.2 y (List.mem_of_getElem? hy)
     have hg1 : KZ.good y.from_ := good_of hyo.2.2.2.2.1
     have hg2 : KZ.good y.to_ := good_of hyo.2.2.2.2.2.1
     have hnx := momW_take hy
     have hfl := hlenH.out
     obtain ⟨ynm, yh, ysl, ysp, yfr, yto, yst⟩ := y
     simp only at e0 e1 e2 e3 e4 e5 e6 hg1 hg2 hnx
     obtain ⟨W5, hW5⟩ : ∃ Y, wr.alloc (.cells #[.string ynm, .slice yh.A yh.n yh.cap, .int .i64 ysl, .int .i64 ysp, .int .i64 yfr, .int .i64 yto, .slice yst.A yst.n yst.cap] 84) = Y := ⟨_, rfl⟩
     obtain ⟨vb, hvb⟩ : ∃ b, wr.heap.size = b := ⟨_, rfl⟩
     have hbz : Below wr.heap.size wr W5 := by rw [← hW5]; exact (Below.refl _ _).alloc (Nat.le_refl _) _
     have y2 : W5.cell? ⟨vb, 4, none⟩ = some (.int .i64 yfr) := by rw [← hW5, ← hvb]; exact cell_new _ _ _ 4
     have y3 : W5.cell? ⟨vb, 5, none⟩ = some (.int .i64 yto) := by rw [← hW5, ← hvb]; exact cell_new _ _ _ 5
     have hb5 := hbq.trans (hbz.mono hbqs)
     have hmlt : mb < vb := by have := hS.lt; omega
     have hSd := (hS.below hbz).below (Below.refl W5.heap.size W5).drew
     obtain ⟨w6, hrun1, hS6, hg6⟩ := hSd.put hg1 (by omega)
     obtain ⟨w7, hrun2, hS7, hg7⟩ := hS6.put hg2 (by omega)
     have hne : some vb ≠ some mb := fun e => by injection e with e; omega
     have hq5 : W5.cell? ⟨vb, 4, none⟩ = some (.int .i64 yfr) ∧ W5.cell? ⟨vb, 5, none⟩ = some (.int .i64 yto) := ⟨y2, y3⟩
     have hq6 : w6.cell? ⟨vb, 4, none⟩ = some (.int .i64 yfr) ∧ w6.cell? ⟨vb, 5, none⟩ = some (.int .i64 yto) := ⟨hg6.cell y2 hne, hg6.cell y3 hne⟩
     have hq7 : w7.cell? ⟨vb, 4, none⟩ = some (.int .i64 yfr) ∧ w7.cell? ⟨vb, 5, none⟩ = some (.int .i64 yto) := ⟨hg7.cell hq6.1 hne, hg7.cell hq6.2 hne⟩
     have hb6 : Below w.heap.size w w6 := (hb5.drew).grown hg6 (by have := hb5.size; simpa using this) (fun b hb => by injection hb with hb; have := hmblH.out; omega)
     have hb7 : Below w.heap.size w w7 := hb6.grown hg7 hb6.size (fun b hb => by injection hb with hb; have := hmblH.out; omega)
     have R : M3 Rs.flatten x.workers.l M mb w (.int .i64 ((q : Int) + 1)) w7 := ⟨q + 1, hlt2, by go_num, hS7.congr (fun z => by rw [hnx]; simp only [List.cons_append, List.mem_cons, List.mem_append, List.not_mem_nil, or_false]; exact mv5) (by omega), hb7⟩
     clear hSd hS hnx hfl hyo
     have hbqH := Lib.hid hbq; have hyH := Lib.hid hy; have hW5H := Lib.hid hW5; have hvbH := Lib.hid hvb; have hbzH := Lib.hid hbz; have hb5H := Lib.hid hb5; have hg1H := Lib.hid hg1; have hg2H := Lib.hid hg2; have hS6H := Lib.hid hS6; have hg6H := Lib.hid hg6; have hS7H := Lib.hid hS7; have hg7H := Lib.hid hg7; have hq7H := Lib.hid hq7; have hb6H := Lib.hid hb6; have hb7H := Lib.hid hb7; have RH := Lib.hid R; have hwsqH := Lib.hid hwsq; clear hbq hy hW5 hvb hbz hb5 hg1 hg2 hS6 hg6 hS7 hg7 hq7 hb6 hb7 R hwsq
     go_wp2_with fail
     rw [hW5H.out, hvbH.out]
     clear e0 e1 e2 e3 e4 e5 e6 y2 y3
     refine wp_region_held_drew (S := fun W : World => W.cell? ⟨vb, 4, none⟩ = some (.int .i64 yfr) ∧ W.cell? ⟨vb, 5, none⟩ = some (.int .i64 yto)) (by kernel_rfl) hq5 (fun hHeld => ?_)
     refine tkH (i := 0) (d := some 45) (v := ?_) (hy := Or.inl ⟨by rfl, ?_⟩) (h := ?_)
     rotate_left
     ·(intro w hSw; (try dsimp only at hSw); go_simp; (try with_reducible rfl))
     (try simp only [Act.put, tkA, tkB, tkC])
     refine tkH (i := 1) (d := some 46) (v := ?_) (hy := Or.inl ⟨by rfl, ?_⟩) (h := ?_)
     rotate_left
     ·(intro w hSw; (try dsimp only at hSw); go_simp; (try with_reducible rfl))
     (try simp only [Act.put, tkA, tkB, tkC])
     refine tkH (i := 2) (d := some 47) (v := ?_) (hy := Or.inl ⟨by rfl, ?_⟩) (h := ?_)
     rotate_left
     ·(intro w hSw; (try dsimp only at hSw); go_simp; (try with_reducible rfl))
     (try simp only [Act.put, tkA, tkB, tkC])
     refine tkH (i := 3) (d := some 48) (v := ?_) (hy := Or.inl ⟨by rfl, ?_⟩) (h := ?_)
     rotate_left
     ·(intro w hSw; (try dsimp only at hSw); go_simp; (try with_reducible rfl))
     (try simp only [Act.put, tkA, tkB, tkC])
     refine tkH (i := 4) (d := some 49) (v := ?_) (hy := Or.inl ⟨by rfl, ?_⟩) (h := ?_)
     rotate_left
     ·(intro w hSw; (try dsimp only at hSw); go_simp; (try with_reducible rfl))
     (try simp only [Act.put, tkA, tkB, tkC])
     refine tkH (i := 5) (d := some 50) (v := ?_) (hy := Or.inl ⟨by rfl, ?_⟩) (h := ?_)
     rotate_left
     ·(intro w hSw; (try dsimp only at hSw); go_simp; (try with_reducible rfl))
     (try simp only [Act.put, tkA, tkB, tkC])
     refine wpAnyH_ready (rs := [6]) (by kernel_rfl) (by simp) ?_
     refine AllReadyH.cons (i := 6) rfl (fun K hK => ?_) AllReadyH.nil
     go_simp
     (try simp only [hrun1])
     refine hK.out _ _ hq6 (fun hHeld => ?_)
     clear hK K
     (try simp only [Act.put, List.setIfInBounds_toArray, List.set_cons_zero, List.set_cons_succ])
     refine wpAnyH_ready (rs := [7]) (by kernel_rfl) (by simp) ?_
     refine AllReadyH.cons (i := 7) rfl (fun K hK => ?_) AllReadyH.nil
     go_simp
     (try simp only [hrun2])
     refine hK.out _ _ hq7H.out (fun hHeld => ?_)
     clear hK K
     (try simp only [Act.put, List.setIfInBounds_toArray, List.set_cons_zero, List.set_cons_succ])
     refine wpAnyH_done (by kernel_rfl) ?_ _
     clear hHeld hq5 hq6 hrun1 hrun2
     go_wp2
     refine ⟨?rel, ?measure⟩
     case measure => (simp [intOf]; omega)
     case rel => first | exact RH.out | exact ⟨rfl, RH.out⟩ | ((try refine ⟨rfl, ?_⟩); (repeat apply Exists.intro); refine ⟨RH.out, ?_⟩; ((repeat' apply And.intro) <;> rfl))
    ·obtain rfl : q = M := by omega
     have e : x.workers.l.take q = x.workers.l := List.take_of_length_le (by have := hwlH.out; omega)
     rw [e] at hS
     obtain ⟨cc, hm, hcc⟩ := hS
     have hfl := hlenH.out
     have hks := sorted_z mb cc wr hm (by omega)
     clear e hm
     have hbqH := Lib.hid hbq; have hksH := Lib.hid hks; have hflH := Lib.hid hfl; clear hbq hks hfl
     go_wp2_with fail
     refine (keys_z (some mb) wr).mono ?_
     rintro e w8 ⟨rfl, rfl⟩
     go_wp2_with fail
     refine hksH.out.mono ?_
     rintro e w9 ⟨A, n, cap, L, rfl, hown, hmem, hn, hb9⟩
     subst hn
     have R : Z (.returned (.slice A n cap)) w9 := by
      rw [← hZH.out]
      refine ⟨A, n, cap, wr.heap.size + 1, L, rfl, by omega, hown, fun z hz => ?_, by have := hflH.out; omega, hbqH.out.trans (hb9.mono hbqs)⟩
      have h3 := hmem z hz
      rw [h3]
      by_cases h : z ∈ 0 :: momL Rs.flatten ++ momW x.workers.l
      ·rw [if_pos h]; exact ⟨fun _ => h, fun _ => rfl⟩
      ·rw [if_neg h]; exact ⟨fun e => (by cases e), fun e => absurd e h⟩
     clear hown hmem
     have RH := Lib.hid R; clear R
     go_wp2
     exact RH.out
end Go.Proofs.YtbnkoefljcekbaaGreatDoor.C9
