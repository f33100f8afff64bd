/-
 Several texts of mine as one, without what is not wanted here: XWtS, XWtE.
-/
import Derived.Test.YtbnkoefljcekbaaGreatDoorNbVC9
namespace Go.Proofs.YtbnkoefljcekbaaGreatDoor.C9
open Go.ChangeShapes Go.WideShapes Go.Deep Go.RowKit Go.Maps
set_option linter.unusedVariables false
set_option linter.unusedSimpArgs false

def rwo (Rs : List (List Run)) (i : Nat) : List Run := Rs.getD i []
theorem rwo_get {Rs : List (List Run)} {i : Nat} {r : List Run} (h : Rs[i]? = some r) : rwo Rs i = r := by unfold rwo; rw [List.getD_eq_getElem?_getD, h]; rfl
def wtQ (x : Farm) (Rs : List (List Run)) (t : Int) (i : Nat) : Bool := !atD (rwo Rs i) t && (!atR (rwo Rs i) t && (decide ((atL (rwo Rs i) t : Int) < x.tries) && rdP x.works.l (fun s => atD (rwo Rs s) t) i))
def seeB (x : Farm) (Rs : List (List Run)) (t : Int) (i : Nat) : Bool := wtQ x Rs t i && (x.workers.l.filter (frB Rs.flatten t)).any fun y => fitF (woOf x i).needs.l y.has.l
def SeAns (x : Farm) (Rs : List (List Run)) (N : Nat) (w0 w : World) (wd : Nat) (f : Nat → Bool) (t : Int) (e : Ending) (w' : World) : Prop :=
 e = .returned (.tuple #[]) ∧ BRow w' wd N (fun i => f i || seeB x Rs t i) ∧ Below w0.heap.size w0 w' ∧ wd < w'.heap.size ∧ w.grownBy w' (some wd)
def S1 (Rs : List (List Run)) (t : Int) (N stb dnb : Nat) (W4 : World) (i : Value) (wr : World) : Prop :=
 ∃ k : Nat, k ≤ N ∧ i = .int .i64 k ∧ PR wr stb N (fun j => if j < k then atD (rwo Rs j) t else false) (fun j => if j < k then atR (rwo Rs j) t else false) (fun j => if j < k then (atL (rwo Rs j) t : Int) else 0) ∧
  BRow wr dnb N (fun j => if j < k then atD (rwo Rs j) t else false) ∧ Below W4.heap.size W4 wr
def S2 (x : Farm) (Rs : List (List Run)) (t : Int) (N wd : Nat) (f : Nat → Bool) (W7 : World) (i : Value) (wr : World) : Prop :=
 ∃ k : Nat, k ≤ N ∧ i = .int .i64 k ∧ W7.grownBy wr (some wd) ∧ BRow wr wd N (fun j => if j < k then (f j || seeB x Rs t j) else f j)
theorem bel_g {w w' : World} {row : Option Nat} (h : Below w.heap.size w w') : w.grownBy w' row := ⟨h.os, h.tape, h.output, h.size, fun b hb _ => h.block b hb⟩
theorem brow_bel {w w' : World} {b n : Nat} {f : Nat → Bool} (h : BRow w b n f) (hb : Below w.heap.size w w') : BRow w' b n f := h.keep (fun hlt => hb.block b hlt)
set_option maxRecDepth 100000 in
set_option maxHeartbeats 8000000 in
theorem wsee_any {x : Farm} {wtb rb N : Nat} {Rs : List (List Run)} (w0 w : World) (hH0 : WtH x wtb rb N Rs w0) (hw : Below w0.heap.size w0 w) (wd : Nat) (f : Nat → Bool) (hwd : w0.heap.size ≤ wd) (hf : BRow w wd N f) (hwdl : wd < w.heap.size) (t : Int)
  (hok : FarmOk x) (hNx : x.works.n = N) (hN : N ≤ 200) (hlen : Rs.flatten.length ≤ 4000) (hM : x.workers.n ≤ 50) (hnm : ∀ r ∈ Rs.flatten, hasNm x.workers.l r.worker = true) :
  Calls Tryz.prog 64 #[.pointer (some ⟨wtb, 0, none⟩), .int .i64 t, .slice (some ⟨wd, 0, none⟩) N N] w (SeAns x Rs N w0 w wd f t) := by
 obtain ⟨W1, hW1⟩ : ∃ Y, w.alloc (.cells #[.pointer (some ⟨wtb, 0, none⟩)] 97) = Y := ⟨_, rfl⟩
 obtain ⟨vb, hvb⟩ : ∃ b, w.heap.size = b := ⟨_, rfl⟩
 have hb1 : Below w.heap.size w W1 := by rw [← hW1]; exact (Below.refl _ _).alloc (Nat.le_refl _) _
 have v0 : W1.cell? ⟨vb, 0, none⟩ = some (.pointer (some ⟨wtb, 0, none⟩)) := by rw [← hW1, ← hvb]; exact cell_new _ _ _ 0
 have hb01 := hw.trans (hb1.mono hw.size)
 have hf1 := brow_bel hf hb1
 have hwdv : wd < vb := by omega
 have hm1 := run_makeP N (by omega)
 have hm2 := run_makeB N (by omega)
 obtain ⟨Z, hZ⟩ : ∃ Z, SeAns x Rs N w0 w wd f t = Z := ⟨_, rfl⟩
 rw [hZ]
 have hH0H := Lib.hid hH0; have hwH := Lib.hid hw; have hfH := Lib.hid hf; have hb1H := Lib.hid hb1; have hb01H := Lib.hid hb01; have hf1H := Lib.hid hf1; have hW1H := Lib.hid hW1; have hvbH := Lib.hid hvb; have hokH := Lib.hid hok; have hlenH := Lib.hid hlen; have hnmH := Lib.hid hnm; have hZH := Lib.hid hZ; clear hH0 hw hf hb1 hb01 hf1 hW1 hvb hok hlen hnm hZ
 go_enter Tryz.func64, Tryz.ntmps64
 go_wp2_with fail
 rw [hW1H.out, hvbH.out]
 refine (free_any _ (hH0H.out.below hb01H.out) t hokH.out (by omega) hlenH.out hM hnmH.out).mono ?_
 rintro e w2 ⟨A, n, c, base, rfl, hbase, hfree, hn, hb2⟩
 have v0 := keepC hb2 v0
 have hb02 := hb01H.out.trans (hb2.mono hb01H.out.size)
 have hf2 := brow_bel hf1H.out hb2
 have hbs1 := hb1H.out.size
 have hbs2 := hb2.size
 have hvb2 := cell?_lt v0
 simp only at hvb2
 by_cases hn0 : n = 0
 ·have hl : x.workers.l.filter (frB Rs.flatten t) = [] := List.eq_nil_of_length_eq_zero (by rw [hfree.len]; exact hn0)
  have R : Z (.returned (.tuple #[])) w2 := by
   rw [← hZH.out]
   refine ⟨rfl, fun j hj => ?_, hb02, by omega, bel_g (hb1H.out.trans (hb2.mono hb1H.out.size))⟩
   have := hf2 j hj
   have e : (f j || seeB x Rs t j) = f j := by unfold seeB; rw [hl]; simp
   dsimp only
   rw [e]; exact this
  subst hn0
  clear hfree hl
  have RH := Lib.hid R; have hb2H := Lib.hid hb2; have hb02H := Lib.hid hb02; have hf2H := Lib.hid hf2; clear R hb2 hb02 hf2
  go_wp2
  go_end0
  exact RH.out
 ·have hn1 : ((n : Int) == 0) = false := by simpa using hn0
  have hH2 := hH0H.out.below hb02
  have c1 := hH2.c1
  rw [hNx] at c1
  obtain ⟨W3, hW3⟩ : ∃ Y, w2.alloc (.cells (madeP N) 137) = Y := ⟨_, rfl⟩
  obtain ⟨W4, hW4⟩ : ∃ Y, W3.alloc (.cells (madeB N) 4) = Y := ⟨_, rfl⟩
  obtain ⟨stb, hstb⟩ : ∃ b, w2.heap.size = b := ⟨_, rfl⟩
  have hs3 : W3.heap.size = stb + 1 := by rw [← hW3, ← hstb]; simp
  have hb3 : Below w2.heap.size w2 W3 := by rw [← hW3]; exact (Below.refl _ _).alloc (Nat.le_refl _) _
  have hb34 : Below W3.heap.size W3 W4 := by rw [← hW4]; exact (Below.refl _ _).alloc (Nat.le_refl _) _
  have hb4 := hb3.trans (hb34.mono hb3.size)
  have hP3 : PR W3 stb N (fun _ => false) (fun _ => false) (fun _ => 0) := by rw [← hW3, ← hstb]; exact PR.made _ _
  have hD4 : BRow W4 (stb + 1) N (fun _ => false) := by rw [← hW4, ← hs3]; exact BRow.made _ _
  have hst : S1 Rs t N stb (stb + 1) w2 (.int .i64 0) W4 := by
   refine ⟨0, Nat.zero_le _, rfl, (hP3.below hb34).congr (fun j _ => ?_), fun j hj => ?_, hb4⟩
   ·exact ⟨by rw [if_neg (by omega)], by rw [if_neg (by omega)], by rw [if_neg (by omega)]⟩
   ·have := hD4 j hj
    dsimp only
    rw [if_neg (by omega)]; exact this
  have hv4 : ∀ W, Below w2.heap.size w2 W → W.cell? ⟨vb, 0, none⟩ = some (.pointer (some ⟨wtb, 0, none⟩)) := fun W h => keepC h v0
  have hst2 : w2.heap.size ≤ stb := Nat.le_of_eq hstb
  have hfreeH := Lib.hid hfree; have hb2H := Lib.hid hb2; have hb02H := Lib.hid hb02; have hf2H := Lib.hid hf2; have hH2H := Lib.hid hH2; have hW3H := Lib.hid hW3; have hW4H := Lib.hid hW4; have hstbH := Lib.hid hstb; have hs3H := Lib.hid hs3; have hb3H := Lib.hid hb3; have hb34H := Lib.hid hb34; have hb4H := Lib.hid hb4; have hP3H := Lib.hid hP3; have hD4H := Lib.hid hD4; have hstH := Lib.hid hst; have hv4H := Lib.hid hv4; have hst2H := Lib.hid hst2; clear hfree hb2 hb02 hf2 hH2 hW3 hW4 hstb hs3 hb3 hb34 hb4 hP3 hD4 hst hv4 hst2
  go_wp2_with fail
  clear v0 c1
  rw [hW3H.out, hW4H.out, hstbH.out]
  go_loopw [30] (fun i wr => S1 Rs t N stb (stb + 1) w2 i wr) (fun i _ => N - (intOf i).toNat)
  case atStart => exact hstH.out
  case round =>
   clear hstH
   obtain ⟨k, hk, rfl, hP, hD, hb⟩ := hrel
   have hbs := hb.size
   by_cases hlt : k < N
   ·have v0 := hv4H.out wr hb
    obtain ⟨r, hr⟩ : ∃ r, Rs[k]? = some r := ⟨Rs[k]'(by have := hH2H.out.len; omega), List.getElem?_eq_getElem _⟩
    have hrl : r.length ≤ 4000 := by
     have h1 := hlenH.out
     have h2 : r.length ≤ Rs.flatten.length := (List.sublist_flatten_of_mem (List.mem_of_getElem? hr)).length_le
     omega
    have hcall := at_any wr (hH2H.out.below hb) k r hr t hrl (by omega)
    have hcallH := Lib.hid hcall; have hrH := Lib.hid hr; have hrlH := Lib.hid hrl; have hPH := Lib.hid hP; have hDH := Lib.hid hD; have hbH := Lib.hid hb; clear hcall hr hrl hP hD hb
    go_wp2_with fail
    refine hcallH.out.mono ?_
    rintro e w6 ⟨rfl, hb6⟩
    have hP6 := hPH.out.below hb6
    have hD6 := brow_bel hDH.out hb6
    obtain ⟨⟨p0, z0⟩, ⟨p1, z1⟩, p2, z2⟩ := hP6 k hlt
    obtain ⟨d0, d1⟩ := hD6 k hlt
    have hb26 := hbH.out.trans (hb6.mono hbs)
    have hrw := rwo_get hrH.out
    have R : S1 Rs t N stb (stb + 1) w2 (.int .i64 ((k : Int) + 1)) ((set3 w6 stb k (atD r t) (atR r t) (atL r t)).setCell ⟨stb + 1, k, none⟩ (.bool (atD r t))) := by
     refine ⟨k + 1, hlt, by go_num, ?_, ?_, (set3_below hb26 hst2H.out _ _ _ _).setCell (p := ⟨stb + 1, k, none⟩) (by have := hst2H.out; simp; omega) _⟩
     ·refine (((hP6.set hlt (atD r t) (atR r t) (atL r t)).keep ?_).congr fun j hj => ?_)
      ·exact (grown_setc _ ⟨stb + 1, k, none⟩ _).block stb (by have := cell?_lt p0; have := (set3_grown w6 stb k (atD r t) (atR r t) (atL r t)).size; simp at *; omega) (by simp)
      ·by_cases e : j = k
       ·subst e
        simp only [if_true, hrw]
        rw [if_pos (by omega), if_pos (by omega), if_pos (by omega)]
        exact ⟨rfl, rfl, rfl⟩
       ·simp only [if_neg e]
        by_cases e2 : j < k
        ·rw [if_pos e2, if_pos e2, if_pos e2, if_pos (by omega), if_pos (by omega), if_pos (by omega)]; exact ⟨rfl, rfl, rfl⟩
        ·rw [if_neg e2, if_neg e2, if_neg e2, if_neg (by omega), if_neg (by omega), if_neg (by omega)]; exact ⟨rfl, rfl, rfl⟩
     ·have h1 : BRow (set3 w6 stb k (atD r t) (atR r t) (atL r t)) (stb + 1) N (fun j => if j < k then atD (rwo Rs j) t else false) := hD6.keep (fun hl => (set3_grown w6 stb k (atD r t) (atR r t) (atL r t)).block (stb + 1) hl (by simp))
      intro j hj
      have h2 := h1.set (k := k) (atD r t) j hj
      dsimp only at h2 ⊢
      by_cases e : j = k
      ·subst e
       rw [if_pos rfl] at h2
       rw [if_pos (by omega), hrw]; exact h2
      ·rw [if_neg e] at h2
       by_cases e2 : j < k
       ·rw [if_pos e2] at h2; rw [if_pos (by omega)]; exact h2
       ·rw [if_neg e2] at h2; rw [if_neg (by omega)]; exact h2
    have hk0 : (0 : Int) ≤ (k : Int) := by omega
    have hk1 : (k : Int) < (N : Int) := by omega
    unfold set3 at R
    clear v0 hrw
    have hb6H := Lib.hid hb6; have hP6H := Lib.hid hP6; have hD6H := Lib.hid hD6; have hb26H := Lib.hid hb26; have RH := Lib.hid R; clear hb6 hP6 hD6 hb26 R
    go_wp2
    refine ⟨?rel, ?measure⟩
    case measure => (simp [intOf]; omega)
    case rel => first | exact RH.out | exact ⟨rfl, RH.out⟩ | ((try refine ⟨rfl, ?_⟩); (repeat apply Exists.intro); refine ⟨RH.out, ?_⟩; ((repeat' apply And.intro) <;> rfl))
   ·obtain rfl : k = N := by omega
    have hb7 := hb
    obtain ⟨W7, hW7⟩ : ∃ W, W = wr := ⟨_, rfl⟩
    have hP7 : PR wr stb k (fun j => atD (rwo Rs j) t) (fun j => atR (rwo Rs j) t) (fun j => (atL (rwo Rs j) t : Int)) := hP.congr (fun j hj => ⟨by rw [if_pos hj], by rw [if_pos hj], by rw [if_pos hj]⟩)
    have hD7 : BRow wr (stb + 1) k (fun j => atD (rwo Rs j) t) := fun j hj => by
     have := hD j hj
     dsimp only at this
     rw [if_pos hj] at this; exact this
    have hf7 := brow_bel hf2H.out hb
    have hst3 : S2 x Rs t k wd f wr (.int .i64 0) wr := ⟨0, Nat.zero_le _, rfl, World.grownBy.refl _ _, fun j hj => by
     have := hf7 j hj
     dsimp only
     rw [if_neg (by omega)]; exact this⟩
    have hbw0 := hb02H.out.trans (hb.mono hb02H.out.size)
    have v7 := hv4H.out wr hb
    have hfr7 := hfreeH.out.below hb
    have hfrb : ∀ b, (Value.slice A n c).ownBlock = some b → b ≠ wd := fun b hb' => by
     have h1 := (hfreeH.out.1.lt b hb').1
     omega
    have hsw : stb ≠ wd := by have := hst2H.out; omega
    have hsw2 : stb + 1 ≠ wd := by have := hst2H.out; omega
    have hvw : vb ≠ wd := by omega
    have hwk0 := hH0H.out.ws
    have hKeep : ∀ W, wr.grownBy W (some wd) → Below w0.heap.size w0 W ∧ WtH x wtb rb k Rs W ∧ PR W stb k (fun j => atD (rwo Rs j) t) (fun j => atR (rwo Rs j) t) (fun j => (atL (rwo Rs j) t : Int)) ∧ BRow W (stb + 1) k (fun j => atD (rwo Rs j) t) ∧ W.cell? ⟨vb, 0, none⟩ = some (.pointer (some ⟨wtb, 0, none⟩)) ∧ SlAt RWorker W A n (x.workers.l.filter (frB Rs.flatten t)) := by
     intro W hg
     have hbW := hbw0.grown hg hbw0.size (fun b hb' => by injection hb' with hb'; omega)
     have hHW := hH0H.out.below hbW
     refine ⟨hbW, hHW, ?_, hD7.keep (fun hl => hg.block _ hl (by simp; omega)), hg.cell v7 (by simp; omega), ?_⟩
     ·rcases Nat.eq_zero_or_pos k with h0 | h0
      ·intro j hj; omega
      ·exact hP7.keep (hg.block _ (cell?_lt (hP7 0 h0).1.1) (by simp; omega))
     ·refine (Own.kept hfr7 hg ?_ (fun z hz _ => RWorker.mono _ _ _ hbW (hwk0.2.2 z (List.mem_filter.1 hz).1))).slAt
      cases hob : (Value.slice A n c).ownBlock with
      | none => exact .inl rfl
      | some b => exact .inr (fun e => hfrb b hob (by injection e))
    have hRZ : ∀ W, wr.grownBy W (some wd) → BRow W wd k (fun j => f j || seeB x Rs t j) → Z (.returned (.tuple #[])) W := fun W hg hr => by
     rw [← hZH.out]
     refine ⟨rfl, hr, (hKeep W hg).1, ?_, grown_trans (bel_g (hb1H.out.trans ((hb2H.out.trans (hb.mono hb2H.out.size)).mono hb1H.out.size))) hg⟩
     have h1 := hg.size
     have h2 := hb.size
     omega
    have hfl0 : 0 < n := Nat.pos_of_ne_zero hn0
    have hkk := hP
    clear hP hD v7 hkk hn0
    have hbH := Lib.hid hb; have hb7H := Lib.hid hb7; have hW7H := Lib.hid hW7; have hP7H := Lib.hid hP7; have hD7H := Lib.hid hD7; have hf7H := Lib.hid hf7; have hst3H := Lib.hid hst3; have hbw0H := Lib.hid hbw0; have hfr7H := Lib.hid hfr7; have hfrbH := Lib.hid hfrb; have hwk0H := Lib.hid hwk0; have hKeepH := Lib.hid hKeep; have hRZH := Lib.hid hRZ; clear hb hb7 hW7 hP7 hD7 hf7 hst3 hbw0 hfr7 hfrb hwk0 hKeep hRZ
    go_wp2_with fail
    obtain ⟨wa, rfl⟩ : ∃ W, W = wr := ⟨_, rfl⟩
    go_loopw [51] (fun i wq => S2 x Rs t k wd f wa i wq) (fun i _ => k - (intOf i).toNat)
    case atStart => exact hst3H.out
    case round =>
     clear hst3H
     obtain ⟨q, hq, rfl, hg, hr⟩ := hrel
     obtain ⟨hbw, hHw, hPw, hDw, vw, hsw9⟩ := hKeepH.out wr hg
     by_cases hlt2 : q < k
     ·obtain ⟨⟨p0, _⟩, ⟨p1, _⟩, p2, _⟩ := hPw q hlt2
      have hfq := (hr q hlt2).1
      (try dsimp only at hfq p0 p1 p2)
      rw [if_neg (by omega)] at hfq
      obtain ⟨vd, hvd⟩ : ∃ v, atD (rwo Rs q) t = v := ⟨_, rfl⟩
      obtain ⟨vr, hvr⟩ : ∃ v, atR (rwo Rs q) t = v := ⟨_, rfl⟩
      obtain ⟨vl, hvl⟩ : ∃ v, atL (rwo Rs q) t = v := ⟨_, rfl⟩
      obtain ⟨vf, hvf⟩ : ∃ v, f q = v := ⟨_, rfl⟩
      obtain ⟨vy, hvy⟩ : ∃ v, rdP x.works.l (fun s => atD (rwo Rs s) t) q = v := ⟨_, rfl⟩
      obtain ⟨tries, htr⟩ : ∃ v, x.tries = v := ⟨_, rfl⟩
      have hwq : wtQ x Rs t q = (!vd && (!vr && (decide ((vl : Int) < tries) && vy))) := by unfold wtQ; rw [hvd, hvr, hvl, hvy, htr]
      rw [hvd] at p0
      rw [hvr] at p1
      rw [hvl] at p2
      rw [hvf] at hfq
      obtain ⟨W8, hW8⟩ : ∃ Y, (wr.alloc (.cells #[.int .i64 q] 3)).alloc (.cells #[.bool vd, .bool vr, .int .i64 vl] 137) = Y := ⟨_, rfl⟩
      obtain ⟨ib, hib⟩ : ∃ b, wr.heap.size = b := ⟨_, rfl⟩
      have hbi : Below wr.heap.size wr (wr.alloc (.cells #[.int .i64 q] 3)) := (Below.refl _ _).alloc (Nat.le_refl _) _
      have hbp : Below (wr.alloc (.cells #[.int .i64 q] 3)).heap.size (wr.alloc (.cells #[.int .i64 q] 3)) W8 := by rw [← hW8]; exact (Below.refl _ _).alloc (Nat.le_refl _) _
      have hb8 : Below wr.heap.size wr W8 := hbi.trans (hbp.mono hbi.size)
      have i0 : W8.cell? ⟨ib, 0, none⟩ = some (.int .i64 q) := keepC hbp (by rw [← hib]; exact cell_new wr #[.int .i64 q] 3 0)
      have hsz1 : (wr.alloc (.cells #[.int .i64 q] 3)).heap.size = ib + 1 := by rw [← hib]; simp
      have b0 : W8.cell? ⟨ib + 1, 0, none⟩ = some (.bool vd) := by rw [← hW8, ← hsz1]; exact cell_new _ #[.bool vd, .bool vr, .int .i64 vl] _ 0
      have b1 : W8.cell? ⟨ib + 1, 1, none⟩ = some (.bool vr) := by rw [← hW8, ← hsz1]; exact cell_new _ #[.bool vd, .bool vr, .int .i64 vl] _ 1
      have b2 : W8.cell? ⟨ib + 1, 2, none⟩ = some (.int .i64 vl) := by rw [← hW8, ← hsz1]; exact cell_new _ #[.bool vd, .bool vr, .int .i64 vl] _ 2
      have hg8 : wa.grownBy W8 (some wd) := by rw [← hW8]; exact grown_trans (grown_trans hg (World.grownBy_alloc _ _ _)) (World.grownBy_alloc _ _ _)
      obtain ⟨hbw8, hHw8, hPw8, hDw8, v8, hs8⟩ := hKeepH.out W8 hg8
      have hr8 := brow_bel hr hb8
      have f8 := keepC hb8 hfq
      have c3 := hHw8.c3
      have c1 := hHw8.c1
      rw [htr] at c3
      rw [hNx] at c1
      have hq0 : (0 : Int) ≤ (q : Int) := by omega
      have hq1 : (q : Int) < (k : Int) := by omega
      have hskip : (seeB x Rs t q = false ∨ vf = true) → ∀ W, Below W8.heap.size W8 W → S2 x Rs t k wd f wa (.int .i64 ((q : Int) + 1)) W := fun hs W hW => by
       refine ⟨q + 1, hlt2, by go_num, grown_trans hg8 (by
        have := below_g hW
        exact ⟨this.os, this.tape, this.output, this.size, fun b hb _ => hW.block b hb⟩), fun j hj => ?_⟩
       have h1 := (brow_bel hr8 hW) j hj
       dsimp only at h1 ⊢
       by_cases e : j = q
       ·subst e
        rw [if_neg (by omega)] at h1
        rw [if_pos (by omega)]
        rcases hs with hs | hs
        ·rw [hs, Bool.or_false]; exact h1
        ·rw [hvf, hs, Bool.true_or]; rw [hvf, hs] at h1; exact h1
       ·by_cases e2 : j < q
        ·rw [if_pos e2] at h1; rw [if_pos (by omega)]; exact h1
        ·rw [if_neg e2] at h1; rw [if_neg (by omega)]; exact h1
      have hsz8 := hbw8.size
      clear hHw hPw hDw vw hsw9 hr hbw
      have hgH := Lib.hid hg; have hb8H := Lib.hid hb8; have hbiH := Lib.hid hbi; have hbpH := Lib.hid hbp; have hsz1H := Lib.hid hsz1; have hg8H := Lib.hid hg8; have hbw8H := Lib.hid hbw8; have hHw8H := Lib.hid hHw8; have hPw8H := Lib.hid hPw8; have hDw8H := Lib.hid hDw8; have hs8H := Lib.hid hs8; have hr8H := Lib.hid hr8; have hW8H := Lib.hid hW8; have hibH := Lib.hid hib; have hvdH := Lib.hid hvd; have hvrH := Lib.hid hvr; have hvlH := Lib.hid hvl; have hvfH := Lib.hid hvf; have hvyH := Lib.hid hvy; have htrH := Lib.hid htr; have hwqH := Lib.hid hwq; have hskipH := Lib.hid hskip; have hsz8H := Lib.hid hsz8; clear hg hb8 hbi hbp hsz1 hg8 hbw8 hHw8 hPw8 hDw8 hs8 hr8 hW8 hib hvd hvr hvl hvf hvy htr hwq hskip hsz8
      go_wp2_with fail
      rw [hW8H.out, hibH.out]
      clear p0 p1 p2 hfq
      cases vd
      ·cases vr
       ·by_cases hlt3 : (vl : Int) < tries
        ·have hdec : decide ((vl : Int) ≥ tries) = false := decide_eq_false (by omega)
         cases vf
         ·have hS0 : (fun w' : World => Below W8.heap.size W8 w' ∧ w'.cell? ⟨ib + 1, 0, none⟩ = some (.bool false) ∧ w'.cell? ⟨ib + 1, 1, none⟩ = some (.bool false) ∧ w'.cell? ⟨ib + 1, 2, none⟩ = some (.int .i64 vl) ∧ w'.cell? ⟨vb, 0, none⟩ = some (.pointer (some ⟨wtb, 0, none⟩)) ∧ w'.cell? ⟨wtb, 3, none⟩ = some (.int .i64 tries) ∧ w'.cell? ⟨ib, 0, none⟩ = some (.int .i64 q) ∧ w'.cell? ⟨wd, q, none⟩ = some (.bool false) ∧ w'.cell? ⟨wtb, 1, none⟩ = some (.slice x.works.A k x.works.cap)) W8.drew := ⟨(Below.refl _ _).drew, b0, b1, b2, v8, c3, i0, f8, c1⟩
          have hkS : ∀ W W' : World, Below W.heap.size W W' → (Below W8.heap.size W8 W ∧ W.cell? ⟨ib + 1, 0, none⟩ = some (.bool false) ∧ W.cell? ⟨ib + 1, 1, none⟩ = some (.bool false) ∧ W.cell? ⟨ib + 1, 2, none⟩ = some (.int .i64 vl) ∧ W.cell? ⟨vb, 0, none⟩ = some (.pointer (some ⟨wtb, 0, none⟩)) ∧ W.cell? ⟨wtb, 3, none⟩ = some (.int .i64 tries) ∧ W.cell? ⟨ib, 0, none⟩ = some (.int .i64 q) ∧ W.cell? ⟨wd, q, none⟩ = some (.bool false) ∧ W.cell? ⟨wtb, 1, none⟩ = some (.slice x.works.A k x.works.cap)) → (Below W8.heap.size W8 W' ∧ W'.cell? ⟨ib + 1, 0, none⟩ = some (.bool false) ∧ W'.cell? ⟨ib + 1, 1, none⟩ = some (.bool false) ∧ W'.cell? ⟨ib + 1, 2, none⟩ = some (.int .i64 vl) ∧ W'.cell? ⟨vb, 0, none⟩ = some (.pointer (some ⟨wtb, 0, none⟩)) ∧ W'.cell? ⟨wtb, 3, none⟩ = some (.int .i64 tries) ∧ W'.cell? ⟨ib, 0, none⟩ = some (.int .i64 q) ∧ W'.cell? ⟨wd, q, none⟩ = some (.bool false) ∧ W'.cell? ⟨wtb, 1, none⟩ = some (.slice x.works.A k x.works.cap)) := fun W W' hb h => ⟨h.1.trans (hb.mono h.1.size), keepC hb h.2.1, keepC hb h.2.2.1, keepC hb h.2.2.2.1, keepC hb h.2.2.2.2.1, keepC hb h.2.2.2.2.2.1, keepC hb h.2.2.2.2.2.2.1, keepC hb h.2.2.2.2.2.2.2.1, keepC hb h.2.2.2.2.2.2.2.2⟩
          have hxs8 : SlAt RWork W8 x.works.A k x.works.l := by have := hHw8H.out.xs; rw [hNx] at this; exact this
          have hdl : stb + 1 < W8.heap.size := cell?_lt (hDw8H.out q hlt2).1
          have hwqt := hwqH.out
          rw [decide_eq_true hlt3] at hwqt
          clear hlt3 c3 c1 b0 b1 b2
          have hkSH := Lib.hid hkS; have hxs8H := Lib.hid hxs8; have hdlH := Lib.hid hdl; have hwqtH := Lib.hid hwqt; clear hkS hxs8 hdl hwqt
          refine wp_region_held_drew (S := fun w' : World => Below W8.heap.size W8 w' ∧ w'.cell? ⟨ib + 1, 0, none⟩ = some (.bool false) ∧ w'.cell? ⟨ib + 1, 1, none⟩ = some (.bool false) ∧ w'.cell? ⟨ib + 1, 2, none⟩ = some (.int .i64 vl) ∧ w'.cell? ⟨vb, 0, none⟩ = some (.pointer (some ⟨wtb, 0, none⟩)) ∧ w'.cell? ⟨wtb, 3, none⟩ = some (.int .i64 tries) ∧ w'.cell? ⟨ib, 0, none⟩ = some (.int .i64 q) ∧ w'.cell? ⟨wd, q, none⟩ = some (.bool false) ∧ w'.cell? ⟨wtb, 1, none⟩ = some (.slice x.works.A k x.works.cap)) (by kernel_rfl) hS0 (fun hHeld => ?_)
          refine tkH (i := 0) (d := some 56) (v := ?_) (hy := Or.inl ⟨by rfl, ?_⟩) (h := ?_)
          rotate_left
          ·(intro w hSw; (try dsimp only at hSw); go_simp; (try with_reducible rfl))
          (try simp only [Act.put, tkA, tkB, tkC])
          refine tkH (i := 1) (d := some 57) (v := ?_) (hy := Or.inl ⟨by rfl, ?_⟩) (h := ?_)
          rotate_left
          ·(intro w hSw; (try dsimp only at hSw); go_simp; (try with_reducible rfl))
          (try simp only [Act.put, tkA, tkB, tkC])
          refine tkH (i := 2) (d := some 58) (v := ?_) (hy := Or.inl ⟨by rfl, ?_⟩) (h := ?_)
          rotate_left
          ·(intro w hSw; (try dsimp only at hSw); go_simp; (try with_reducible rfl))
          (try simp only [Act.put, tkA, tkB, tkC])
          refine tkH (i := 3) (d := some 59) (v := ?_) (hy := Or.inl ⟨by rfl, ?_⟩) (h := ?_)
          rotate_left
          ·(intro w hSw; (try dsimp only at hSw); go_simp; (try with_reducible rfl))
          (try simp only [Act.put, tkA, tkB, tkC])
          refine tkH (i := 4) (d := some 60) (v := ?_) (hy := Or.inl ⟨by rfl, ?_⟩) (h := ?_)
          rotate_left
          ·(intro w hSw; (try dsimp only at hSw); go_simp; (try with_reducible rfl))
          (try simp only [Act.put, tkA, tkB, tkC])
          refine tkH (i := 5) (d := some 61) (v := ?_) (hy := Or.inl ⟨by rfl, ?_⟩) (h := ?_)
          rotate_left
          ·(intro w hSw; (try dsimp only at hSw); go_simp; (try with_reducible rfl))
          (try simp only [Act.put, tkA, tkB, tkC])
          refine tkH (i := 6) (d := some 62) (v := ?_) (hy := Or.inl ⟨by rfl, ?_⟩) (h := ?_)
          rotate_left
          ·(intro w hSw; (try dsimp only at hSw); go_simp; (try with_reducible rfl))
          (try simp only [Act.put, tkA, tkB, tkC])
          refine tkH (i := 7) (d := some 63) (v := ?_) (hy := Or.inl ⟨by rfl, ?_⟩) (h := ?_)
          rotate_left
          ·(intro w hSw; (try dsimp only at hSw); go_simp; (try with_reducible rfl))
          (try simp only [Act.put, tkA, tkB, tkC])
          refine tkH (i := 8) (d := some 64) (v := ?_) (hy := Or.inl ⟨by rfl, ?_⟩) (h := ?_)
          rotate_left
          ·(intro w hSw; (try dsimp only at hSw); go_simp; (try with_reducible rfl))
          (try simp only [Act.put, tkA, tkB, tkC])
          refine tkH (i := 9) (d := some 65) (v := ?_) (hy := Or.inl ⟨by rfl, ?_⟩) (h := ?_)
          rotate_left
          ·(intro w hSw; (try dsimp only at hSw); go_simp; (try with_reducible rfl))
          (try simp only [Act.put, tkA, tkB, tkC])
          refine tkH (i := 10) (d := some 66) (v := ?_) (hy := Or.inl ⟨by rfl, ?_⟩) (h := ?_)
          rotate_left
          ·(intro w hSw; (try dsimp only at hSw); go_simp; (try with_reducible rfl))
          (try simp only [Act.put, tkA, tkB, tkC])
          refine tkH (i := 11) (d := some 67) (v := ?_) (hy := Or.inl ⟨by rfl, ?_⟩) (h := ?_)
          rotate_left
          ·(intro w hSw; (try dsimp only at hSw); go_simp; (try with_reducible rfl))
          (try simp only [Act.put, tkA, tkB, tkC])
          refine tkH (i := 12) (d := some 68) (v := ?_) (hy := Or.inl ⟨by rfl, ?_⟩) (h := ?_)
          rotate_left
          ·(intro w hSw; (try dsimp only at hSw); go_simp; (try with_reducible rfl))
          (try simp only [Act.put, tkA, tkB, tkC])
          refine tkH (i := 13) (d := some 69) (v := ?_) (hy := Or.inl ⟨by rfl, ?_⟩) (h := ?_)
          rotate_left
          ·(intro w hSw; (try dsimp only at hSw); go_simp; (try with_reducible rfl))
          (try simp only [Act.put, tkA, tkB, tkC])
          refine tkH (i := 14) (d := some 70) (v := ?_) (hy := Or.inl ⟨by rfl, ?_⟩) (h := ?_)
          rotate_left
          ·(intro w hSw; (try dsimp only at hSw); go_simp; (try with_reducible rfl))
          (try simp only [Act.put, tkA, tkB, tkC])
          refine tkH (i := 15) (d := some 71) (v := ?_) (hy := Or.inl ⟨by rfl, ?_⟩) (h := ?_)
          rotate_left
          ·(intro w hSw; (try dsimp only at hSw); go_simp; (try with_reducible rfl))
          (try simp only [Act.put, tkA, tkB, tkC])
          refine tkH (i := 16) (d := some 72) (v := ?_) (hy := Or.inl ⟨by rfl, ?_⟩) (h := ?_)
          rotate_left
          ·(intro w hSw; (try dsimp only at hSw); go_simp; (try with_reducible rfl))
          (try simp only [Act.put, tkA, tkB, tkC])
          refine tkH (i := 17) (d := some 73) (v := ?_) (hy := Or.inl ⟨by rfl, ?_⟩) (h := ?_)
          rotate_left
          ·(intro w hSw; (try dsimp only at hSw); go_simp; (try with_reducible rfl))
          (try simp only [Act.put, tkA, tkB, tkC])
          refine tkH (i := 18) (d := some 74) (v := ?_) (hy := Or.inl ⟨by rfl, ?_⟩) (h := ?_)
          rotate_left
          ·(intro w hSw; (try dsimp only at hSw); go_simp; (try with_reducible rfl))
          (try simp only [Act.put, tkA, tkB, tkC])
          refine tkH (i := 19) (d := some 75) (v := ?_) (hy := Or.inl ⟨by rfl, ?_⟩) (h := ?_)
          rotate_left
          ·(intro w hSw; (try dsimp only at hSw); go_simp; (try with_reducible rfl))
          (try simp only [Act.put, tkA, tkB, tkC])
          refine tkH (i := 20) (d := some 76) (v := ?_) (hy := Or.inl ⟨by rfl, ?_⟩) (h := ?_)
          rotate_left
          ·(intro w hSw; (try dsimp only at hSw); go_simp; (try with_reducible rfl))
          (try simp only [Act.put, tkA, tkB, tkC])
          refine tkH (i := 21) (d := some 77) (v := ?_) (hy := Or.inl ⟨by rfl, ?_⟩) (h := ?_)
          rotate_left
          ·(intro w hSw; (try dsimp only at hSw); go_simp; (try with_reducible rfl))
          (try simp only [Act.put, tkA, tkB, tkC])
          refine tkH (i := 22) (d := some 78) (v := ?_) (hy := Or.inl ⟨by rfl, ?_⟩) (h := ?_)
          rotate_left
          ·(intro w hSw; (try dsimp only at hSw); go_simp; (try with_reducible rfl))
          (try simp only [Act.put, tkA, tkB, tkC])
          refine tkH (i := 23) (d := some 79) (v := ?_) (hy := Or.inl ⟨by rfl, ?_⟩) (h := ?_)
          rotate_left
          ·(intro w hSw; (try dsimp only at hSw); go_simp; (try with_reducible rfl))
          (try simp only [Act.put, tkA, tkB, tkC])
          refine tkH (i := 24) (d := some 80) (v := ?_) (hy := Or.inl ⟨by rfl, ?_⟩) (h := ?_)
          rotate_left
          ·(intro w hSw; (try dsimp only at hSw); go_simp; (try with_reducible rfl))
          (try simp only [Act.put, tkA, tkB, tkC])
          refine tkH (i := 25) (d := some 81) (v := ?_) (hy := Or.inl ⟨by rfl, ?_⟩) (h := ?_)
          rotate_left
          ·(intro w hSw; (try dsimp only at hSw); go_simp; (try with_reducible rfl))
          (try simp only [Act.put, tkA, tkB, tkC])
          refine tkH (i := 26) (d := some 82) (v := ?_) (hy := Or.inl ⟨by rfl, ?_⟩) (h := ?_)
          rotate_left
          ·(intro w hSw; (try dsimp only at hSw); go_simp; (try with_reducible rfl))
          (try simp only [Act.put, tkA, tkB, tkC])
          refine tkH (i := 27) (d := some 83) (v := ?_) (hy := Or.inl ⟨by rfl, ?_⟩) (h := ?_)
          rotate_left
          ·(intro w hSw; (try dsimp only at hSw); go_simp; (try with_reducible rfl))
          (try simp only [Act.put, tkA, tkB, tkC])
          refine tkH (i := 28) (d := some 84) (v := ?_) (hy := Or.inl ⟨by rfl, ?_⟩) (h := ?_)
          rotate_left
          ·(intro w hSw; (try dsimp only at hSw); go_simp; (try with_reducible rfl))
          (try simp only [Act.put, tkA, tkB, tkC])
          refine tkH (i := 29) (d := some 85) (v := ?_) (hy := Or.inl ⟨by rfl, ?_⟩) (h := ?_)
          rotate_left
          ·(intro w hSw; (try dsimp only at hSw); go_simp; (try with_reducible rfl))
          (try simp only [Act.put, tkA, tkB, tkC])
          refine wpAnyH_ready (rs := [30]) (by kernel_rfl) (by simp) ?_
          refine AllReadyH.cons (i := 30) rfl (fun K hK => ?_) AllReadyH.nil
          go_simp
          go_at_call 106
          refine (ready_any (stb + 1) k x.works.cap x.works.A _ x.works.l q _ (by omega) (brow_bel hDw8H.out hHeld.1) (Nat.lt_of_lt_of_le hdlH.out hHeld.1.size) (hxs8H.out.below hHeld.1) hokH.out.wo hlt2).mono ?_
          rintro e w9 ⟨rfl, hb9⟩
          rw [hvyH.out]
          have hS9 := hkSH.out _ _ hb9 hHeld
          clear hb9
          refine hK.out _ _ hS9 (fun hHeld => ?_)
          clear hK K
          (try simp only [Act.put, List.setIfInBounds_toArray, List.set_cons_zero, List.set_cons_succ])
          refine tkH (i := 31) (d := some 87) (v := ?_) (hy := Or.inl ⟨by rfl, ?_⟩) (h := ?_)
          rotate_left
          ·(intro w hSw; (try dsimp only at hSw); go_simp; (try with_reducible rfl))
          (try simp only [Act.put, tkA, tkB, tkC])
          refine tkH (i := 32) (d := some 88) (v := ?_) (hy := Or.inl ⟨by rfl, ?_⟩) (h := ?_)
          rotate_left
          ·(intro w hSw; (try dsimp only at hSw); go_simp; (try with_reducible rfl))
          (try simp only [Act.put, tkA, tkB, tkC])
          refine wpAnyH_done (by kernel_rfl) ?_ _
          obtain ⟨hb9, _, _, _, v9, _, i9, f9, _⟩ := hHeld
          clear hS0 hS9
          cases vy
          ·have R := hskipH.out (.inl (by unfold seeB; rw [hwqtH.out]; simp)) w9 hb9
           clear v9 i9 f9 v8 i0 f8
           have RH := Lib.hid R; have hb9H := Lib.hid hb9; clear R hb9
           go_wp2
           refine ⟨?rel, ?measure⟩
           case measure => (simp [intOf]; omega)
           case rel => first | exact RH.out | exact ⟨rfl, RH.out⟩ | ((try refine ⟨rfl, ?_⟩); (repeat apply Exists.intro); refine ⟨RH.out, ?_⟩; ((repeat' apply And.intro) <;> rfl))
          ·obtain ⟨z, hz⟩ : ∃ z, x.works.l[q]? = some z := ⟨x.works.l[q]'(by have h1 := hxs8H.out.1; omega), List.getElem?_eq_getElem _⟩
           have hzw := woOf_get hz
           obtain ⟨bb, hbb⟩ : ∃ v, (x.workers.l.filter (frB Rs.flatten t)).any (fun y => fitF z.needs.l y.has.l) = v := ⟨_, rfl⟩
           have hsee : seeB x Rs t q = bb := by
            unfold seeB
            rw [hwqtH.out, hzw, hbb]; simp
           have hg9 : wa.grownBy w9 (some wd) := grown_trans hg8H.out (by
            have := below_g hb9
            exact ⟨this.os, this.tape, this.output, this.size, fun b hb _ => hb9.block b hb⟩)
           obtain ⟨hbw9, hHw9, _, _, _, hs9⟩ := hKeepH.out w9 hg9
           have hr9 := brow_bel hr8H.out hb9
           have hpred : PredW 107 #[.pointer (some ⟨vb, 0, none⟩), .pointer (some ⟨ib, 0, none⟩)] (fun y => fitF z.needs.l y.has.l) (x.workers.l.filter (frB Rs.flatten t)) w9.drew := fun W y hy hW => by
            have hW9 : Below w9.heap.size w9 W := (Below.refl w9.heap.size w9).drew.trans (by simpa using hW)
            have hHW := hHw9.below hW9
            exact see1_any y W hHW (hHW.ws.2.2 y (List.mem_filter.1 hy).1) vb ib q z hz (keepC hW9 v9) (keepC hW9 i9) (by omega) _ rfl
           have eg : ∀ args w, (callFunc 107 args).run Tryz.prog w = .ok (.enter 107 args) w := enters_of Tryz.func107 (by kernel_rfl) rfl
           have hcf := containsFuncW_any 107 #[.pointer (some ⟨vb, 0, none⟩), .pointer (some ⟨ib, 0, none⟩)] eg (fun y => fitF z.needs.l y.has.l) A n c _ w9.drew (hs9.below (Below.refl _ _).drew) (by omega) hpred bb hbb
           have R : ∀ w10, Below w9.heap.size w9 w10 → S2 x Rs t k wd f wa (.int .i64 ((q : Int) + 1)) (w10.setCell ⟨wd, q, none⟩ (.bool bb)) := fun w10 hb10 => by
            refine ⟨q + 1, hlt2, by go_num, grown_trans (grown_trans hg9 (by
             have := below_g hb10
             exact ⟨this.os, this.tape, this.output, this.size, fun b hb _ => hb10.block b hb⟩)) (grown_setc _ ⟨wd, q, none⟩ _), fun j hj => ?_⟩
            have h1 := ((brow_bel hr9 hb10).set (k := q) bb) j hj
            dsimp only at h1 ⊢
            by_cases e : j = q
            ·subst e
             rw [if_pos rfl] at h1
             rw [if_pos (by omega), hvfH.out, hsee, Bool.false_or]; exact h1
            ·rw [if_neg e] at h1
             by_cases e2 : j < q
             ·rw [if_pos e2] at h1; rw [if_pos (by omega)]; exact h1
             ·rw [if_neg e2] at h1; rw [if_neg (by omega)]; exact h1
           have hz9 := (hr9 q hlt2).2
           have hiw : ib ≠ wd := by
            have h1 := hibH.out
            have h2 := hgH.out.size
            have h3 := hb7H.out.size
            omega
           clear v8 i0 f8 v9 hs9 hHw9 hpred
           have RH := Lib.hid R; have hb9H := Lib.hid hb9; have hg9H := Lib.hid hg9; have hbw9H := Lib.hid hbw9; have hr9H := Lib.hid hr9; have hzH := Lib.hid hz; have hzwH := Lib.hid hzw; have hbbH := Lib.hid hbb; have hseeH := Lib.hid hsee; have hcfH := Lib.hid hcf; have hz9H := Lib.hid hz9; clear R hb9 hg9 hbw9 hr9 hz hzw hbb hsee hcf hz9
           go_wp2_with fail
           have hT0 : (fun w' : World => w'.cell? ⟨ib, 0, none⟩ = some (.int .i64 q)) w9.drew := i9
           refine wp_region_held_drew (S := fun w' : World => w'.cell? ⟨ib, 0, none⟩ = some (.int .i64 q)) (by kernel_rfl) hT0 (fun hHeld => ?_)
           refine tkH (i := 0) (d := some 89) (v := ?_) (hy := Or.inl ⟨by rfl, ?_⟩) (h := ?_)
           rotate_left
           ·(intro w hSw; (try dsimp only at hSw); go_simp; (try with_reducible rfl))
           (try simp only [Act.put, tkA, tkB, tkC])
           refine tkH (i := 1) (d := some 90) (v := ?_) (hy := Or.inl ⟨by rfl, ?_⟩) (h := ?_)
           rotate_left
           ·(intro w hSw; (try dsimp only at hSw); go_simp; (try with_reducible rfl))
           (try simp only [Act.put, tkA, tkB, tkC])
           refine tkH (i := 2) (d := some 91) (v := ?_) (hy := Or.inl ⟨by rfl, ?_⟩) (h := ?_)
           rotate_left
           ·(intro w hSw; (try dsimp only at hSw); go_simp; (try with_reducible rfl))
           (try simp only [Act.put, tkA, tkB, tkC])
           refine tkH (i := 3) (d := some 92) (v := ?_) (hy := Or.inl ⟨by rfl, ?_⟩) (h := ?_)
           rotate_left
           ·(intro w hSw; (try dsimp only at hSw); go_simp; (try with_reducible rfl))
           (try simp only [Act.put, tkA, tkB, tkC])
           refine wpAnyH_ready (rs := [4]) (by kernel_rfl) (by simp) ?_
           refine AllReadyH.cons (i := 4) rfl (fun K hK => ?_) AllReadyH.nil
           go_simp
           go_at_call 49
           refine hcfH.out.mono ?_
           rintro e w10 ⟨rfl, hb10⟩
           have hb910 : Below w9.heap.size w9 w10 := (Below.refl w9.heap.size w9).drew.trans (by simpa using hb10)
           have i10 : w10.cell? ⟨ib, 0, none⟩ = some (.int .i64 q) := keepC hb910 i9
           have f10 := keepC hb910 f9
           have z10 := ((brow_bel hr9H.out hb910) q hlt2).2
           have R := RH.out w10 hb910
           clear hb10
           have RH := Lib.hid R; have hb910H := Lib.hid hb910; clear R hb910
           refine hK.out _ _ i10 (fun hHeld => ?_)
           clear hK K
           (try simp only [Act.put, List.setIfInBounds_toArray, List.set_cons_zero, List.set_cons_succ])
           refine tkH (i := 5) (d := some 94) (v := ?_) (hy := Or.inl ⟨by rfl, ?_⟩) (h := ?_)
           rotate_left
           ·(intro w hSw; (try dsimp only at hSw); go_simp; (try with_reducible rfl))
           (try simp only [Act.put, tkA, tkB, tkC])
           refine wpAnyH_ready (rs := [6]) (by kernel_rfl) (by simp) ?_
           refine AllReadyH.cons (i := 6) rfl (fun K hK => ?_) AllReadyH.nil
           go_simp
           refine hK.out _ _ ((World.cell?_setCell_other _ _ _ _ (by simp <;> omega)).trans i10) (fun hHeld => ?_)
           clear hK K
           (try simp only [Act.put, List.setIfInBounds_toArray, List.set_cons_zero, List.set_cons_succ])
           refine wpAnyH_done (by kernel_rfl) ?_ _
           clear hHeld i10 f10 z10 hT0 i9 f9
           go_wp2
           refine ⟨?rel, ?measure⟩
           case measure => (simp [intOf]; omega)
           case rel => first | exact RH.out | exact ⟨rfl, RH.out⟩ | ((try refine ⟨rfl, ?_⟩); (repeat apply Exists.intro); refine ⟨RH.out, ?_⟩; ((repeat' apply And.intro) <;> rfl))
         ·have hs := hskipH.out (.inr rfl)
          have R := fun nq => hs (W8.drewN nq) (bel_drewN (Below.refl _ _) nq)
          clear hs
          have RH := Lib.hid R; clear R
          go_quiet (fail)
          go_wp2
          refine ⟨?rel, ?measure⟩
          case measure => (simp [intOf]; omega)
          case rel => first | exact (RH.out _) | exact ⟨rfl, (RH.out _)⟩ | ((try refine ⟨rfl, ?_⟩); (repeat apply Exists.intro); refine ⟨(RH.out _), ?_⟩; ((repeat' apply And.intro) <;> rfl))
        ·have hdec : decide ((vl : Int) ≥ tries) = true := decide_eq_true (by omega)
         have hs := hskipH.out (.inl (by unfold seeB; rw [hwqH.out, decide_eq_false hlt3]; simp))
         have R := fun nq => hs (W8.drewN nq) (bel_drewN (Below.refl _ _) nq)
         clear hs
         have RH := Lib.hid R; clear R
         go_quiet (fail)
         go_wp2
         refine ⟨?rel, ?measure⟩
         case measure => (simp [intOf]; omega)
         case rel => first | exact (RH.out _) | exact ⟨rfl, (RH.out _)⟩ | ((try refine ⟨rfl, ?_⟩); (repeat apply Exists.intro); refine ⟨(RH.out _), ?_⟩; ((repeat' apply And.intro) <;> rfl))
       ·have hs := hskipH.out (.inl (by unfold seeB; rw [hwqH.out]; simp))
        have R := fun nq => hs (W8.drewN nq) (bel_drewN (Below.refl _ _) nq)
        clear hs
        have RH := Lib.hid R; clear R
        go_quiet (fail)
        go_wp2
        refine ⟨?rel, ?measure⟩
        case measure => (simp [intOf]; omega)
        case rel => first | exact (RH.out _) | exact ⟨rfl, (RH.out _)⟩ | ((try refine ⟨rfl, ?_⟩); (repeat apply Exists.intro); refine ⟨(RH.out _), ?_⟩; ((repeat' apply And.intro) <;> rfl))
      ·have hs := hskipH.out (.inl (by unfold seeB; rw [hwqH.out]; simp))
       have R := fun nq => hs (W8.drewN nq) (bel_drewN (Below.refl _ _) nq)
       clear hs
       have RH := Lib.hid R; clear R
       go_quiet (fail)
       go_wp2
       refine ⟨?rel, ?measure⟩
       case measure => (simp [intOf]; omega)
       case rel => first | exact (RH.out _) | exact ⟨rfl, (RH.out _)⟩ | ((try refine ⟨rfl, ?_⟩); (repeat apply Exists.intro); refine ⟨(RH.out _), ?_⟩; ((repeat' apply And.intro) <;> rfl))
     ·obtain rfl : q = k := by omega
      have R := hRZH.out wr hg (fun j hj => by
       have := hr j hj
       dsimp only at this
       rw [if_pos hj] at this; exact this)
      clear hr vw hsw9
      have RH := Lib.hid R; have hgH := Lib.hid hg; have hbwH := Lib.hid hbw; have hHwH := Lib.hid hHw; have hPwH := Lib.hid hPw; have hDwH := Lib.hid hDw; clear R hg hbw hHw hPw hDw
      go_wp2
      go_end0
      exact RH.out
end Go.Proofs.YtbnkoefljcekbaaGreatDoor.C9

namespace Go.Proofs.YtbnkoefljcekbaaGreatDoor.C9
open Go.ChangeShapes Go.WideShapes Go.Deep Go.RowKit Go.Maps
set_option linter.unusedVariables false
set_option linter.unusedSimpArgs false

/-- the runs by their works -/
def rowsF (x : Farm) (l : List Run) : List (List Run) := (List.range x.works.l.length).map fun i => l.filter fun r => decide (r.id_ = (woOf x i).id_)
theorem sum_ind (a : Nat → Nat) (k b : Nat) : ∀ N, ((List.range N).map fun i => a i + if i = k then b else 0).sum = ((List.range N).map a).sum + if k < N then b else 0
 | 0 => by simp
 | N + 1 => by
  rw [List.range_succ, List.map_append, List.map_append, List.sum_append, List.sum_append, sum_ind a k b N]
  simp only [List.map_cons, List.map_nil, List.sum_cons, List.sum_nil, Nat.add_zero]
  by_cases h1 : k < N
  ·rw [if_pos h1, if_neg (by omega : ¬ N = k), if_pos (by omega : k < N + 1)]; omega
  ·by_cases h2 : N = k
   ·rw [if_neg h1, if_pos h2, if_pos (by omega : k < N + 1)]; omega
   ·rw [if_neg h1, if_neg h2, if_neg (by omega : ¬ k < N + 1)]; omega
theorem count_rows {x : Farm} (hok : FarmOk x) (p : Run → Bool) : ∀ l : List Run, (∀ r ∈ l, hasId x.works.l r.id_ = true) → (rowsF x l).flatten.countP p = l.countP p
 | [], _ => by
  unfold rowsF
  rw [List.countP_flatten, List.map_map]
  have e : ∀ n : Nat, ((List.range n).map (List.countP p ∘ fun i => ([] : List Run).filter fun r => decide (r.id_ = (woOf x i).id_))).sum = 0 := fun n => by
   induction n with
   | zero => rfl
   | succ n ih => rw [List.range_succ, List.map_append, List.sum_append, ih]; rfl
  exact e _
 | r :: l, h => by
  have ih := count_rows hok p l (fun s hs => h s (List.mem_cons_of_mem _ hs))
  have hr := h r List.mem_cons_self
  obtain ⟨z, hz, hzi⟩ := ixOf_get hr
  have hlt := (List.getElem?_eq_some_iff.1 hz).1
  unfold rowsF at ih ⊢
  rw [List.countP_flatten, List.map_map] at ih ⊢
  have e : ((List.range x.works.l.length).map (List.countP p ∘ fun i => (r :: l).filter fun r => decide (r.id_ = (woOf x i).id_))) = (List.range x.works.l.length).map fun i => ((List.countP p ∘ fun i => l.filter fun r => decide (r.id_ = (woOf x i).id_)) i) + if i = ixOf x.works.l r.id_ then (if p r = true then 1 else 0) else 0 := by
   refine List.map_congr_left fun i hi => ?_
   have hil := List.mem_range.1 hi
   simp only [Function.comp]
   by_cases hq : i = ixOf x.works.l r.id_
   ·rw [if_pos hq]
    have hid : r.id_ = (woOf x i).id_ := by rw [hq, woOf_get hz, hzi]
    rw [List.filter_cons_of_pos (by rw [decide_eq_true hid]), List.countP_cons]
   ·rw [if_neg hq, List.filter_cons_of_neg, Nat.add_zero]
    intro hd
    have hid : r.id_ = (woOf x i).id_ := of_decide_eq_true hd
    apply hq
    rw [hid]
    exact (wo_ix hok hil).1.symm
  rw [e, sum_ind, ih, if_pos hlt, List.countP_cons]
theorem rowsF_get {x : Farm} (l : List Run) {i : Nat} (hi : i < x.works.l.length) : (rowsF x l)[i]? = some (l.filter fun r => decide (r.id_ = (woOf x i).id_)) := by
 unfold rowsF
 rw [List.getElem?_map, List.getElem?_range hi]; rfl
theorem rows_at {x : Farm} (l : List Run) {i : Nat} (hi : i < x.works.l.length) (hl : ∀ r ∈ l, r.from_ ≤ r.to_) (t : Int) :
  atD (rwo (rowsF x l) i) t = dnB l (woOf x i).id_ t ∧ atR (rwo (rowsF x l) i) t = rnB l (woOf x i).id_ t ∧ atL (rwo (rowsF x l) i) t = lsN l (woOf x i).id_ t := by
 rw [rwo_get (rowsF_get l hi)]
 unfold atD atR atL dnB rnB lsN
 refine ⟨?_, ?_, ?_⟩
 ·rw [List.any_filter]
  refine any_congr2 fun r hr => ?_
  have := hl r hr
  by_cases h1 : r.id_ = (woOf x i).id_
  ·rw [decide_eq_true h1, Bool.true_and, Bool.true_and]
   by_cases h2 : r.to_ ≤ t
   ·rw [decide_eq_true (by omega : r.from_ ≤ t), Bool.true_and, Bool.and_comm]
   ·rw [decide_eq_false h2]; simp
  ·rw [decide_eq_false h1]; simp
 ·rw [List.any_filter]
 ·rw [List.countP_filter]
  refine countP_eq_of fun r hr => ?_
  have := hl r hr
  by_cases h1 : r.id_ = (woOf x i).id_
  ·rw [decide_eq_true h1, Bool.true_and, Bool.and_true]
   by_cases h2 : r.to_ ≤ t
   ·rw [decide_eq_true (by omega : r.from_ ≤ t), Bool.true_and, Bool.and_comm]
   ·rw [decide_eq_false h2]; simp
  ·rw [decide_eq_false h1]; simp
theorem rows_see {x : Farm} (hok : FarmOk x) (l : List Run) {i : Nat} (hi : i < x.works.l.length) (hl : ∀ r ∈ l, r.from_ ≤ r.to_) (hid : ∀ r ∈ l, hasId x.works.l r.id_ = true) (t : Int) : seeB x (rowsF x l) t i = waitB x l (woOf x i) t := by
 obtain ⟨a1, a2, a3⟩ := rows_at l hi hl t
 have hz : x.works.l[i]? = some (woOf x i) := by rw [woOf_get (List.getElem?_eq_getElem hi)]; exact List.getElem?_eq_getElem hi
 have hrd : rdP x.works.l (fun s => atD (rwo (rowsF x l) s) t) i = (woOf x i).after.l.all fun s => dnB l s t := by
  unfold rdP
  rw [gOf_get hz, List.all_map]
  rw [Bool.eq_iff_iff, List.all_eq_true, List.all_eq_true]
  have key : ∀ s ∈ (woOf x i).after.l, ((fun s => atD (rwo (rowsF x l) s) t) ∘ ixOf x.works.l) s = dnB l s t := fun s hs => by
   obtain ⟨v, hv, hvs⟩ := ixOf_get (allThere_get hok.wo.all hz hs)
   have hlt := (List.getElem?_eq_some_iff.1 hv).1
   simp only [Function.comp]
   rw [(rows_at l hlt hl t).1, woOf_get hv, hvs]
  exact ⟨fun h s hs => by rw [← key s hs]; exact h s hs, fun h s hs => by rw [key s hs]; exact h s hs⟩
 have hfr : frB (rowsF x l).flatten t = frB l t := by
  funext y
  unfold frB bsN
  rw [count_rows hok _ l hid]
 unfold seeB waitB wtQ wtB
 rw [a1, a2, a3, hrd, hfr, List.any_filter]
/-- who waited, as the program finds it -/
theorem rows_waited {x : Farm} (hok : FarmOk x) (l : List Run) (hl : ∀ r ∈ l, r.from_ ≤ r.to_) (hid : ∀ r ∈ l, hasId x.works.l r.id_ = true) (M L : List Int) (hM : ∀ z, (z ∈ L ↔ z ∈ M)) :
  ((List.range x.works.l.length).filter fun i => L.any fun t => seeB x (rowsF x l) t i).map (fun i => (woOf x i).id_) = waitedF M x l := by
 have e : (List.range x.works.l.length).map (woOf x) = x.works.l := by
  refine List.ext_getElem? fun i => ?_
  rw [List.getElem?_map]
  by_cases hi : i < x.works.l.length
  ·rw [List.getElem?_range hi, List.getElem?_eq_getElem hi]
   show some (woOf x i) = _
   rw [woOf_get (List.getElem?_eq_getElem hi)]
  ·rw [List.getElem?_eq_none (by simp; omega), List.getElem?_eq_none (by omega)]; rfl
 unfold waitedF
 conv => rhs; rw [← e]
 rw [List.filter_map, List.map_map]
 have h2 : ((List.range x.works.l.length).filter fun i => L.any fun t => seeB x (rowsF x l) t i) = (List.range x.works.l.length).filter ((fun z => M.any (waitB x l z)) ∘ woOf x) := by
  refine List.filter_congr fun i hi => ?_
  have hil := List.mem_range.1 hi
  simp only [Function.comp]
  rw [Bool.eq_iff_iff, List.any_eq_true, List.any_eq_true]
  constructor
  ·rintro ⟨t, ht, hs⟩
   exact ⟨t, (hM t).1 ht, by rw [← rows_see hok l hil hl hid t]; exact hs⟩
  ·rintro ⟨t, ht, hs⟩
   exact ⟨t, (hM t).2 ht, by rw [rows_see hok l hil hl hid t]; exact hs⟩
 rw [h2]
 rfl
end Go.Proofs.YtbnkoefljcekbaaGreatDoor.C9
