/-
 Several texts of mine as one, without what is not wanted here: XVW.
-/
import Derived.Test.YtbnkoefljcekbaaGreatDoorWvMC9
import Derived.Test.YtbnkoefljcekbaaGreatDoorWvPC9
import Derived.Test.YtbnkoefljcekbaaGreatDoorWvQC9
namespace Go.Proofs.YtbnkoefljcekbaaGreatDoor.C9
open Go.ChangeShapes Go.WideShapes Go.Deep Go.RowKit Go.Maps
set_option linter.unusedVariables false
set_option linter.unusedSimpArgs false

def RwAns (x : Farm) (l : List Run) (c : Int) (w : World) (e : Ending) (w' : World) : Prop :=
 (c ≠ 0 ∧ e = .returned (.tuple #[.slice none 0 0, .int .i64 c]) ∧ Below w.heap.size w w') ∨
 (c = 0 ∧ ∃ (A : Option Addr) (n cap : Nat), e = .returned (.tuple #[.slice A n cap, .int .i64 0]) ∧ SlAt RStr w' A n (waitedF (momR x l) x l) ∧ n ≤ 1000 ∧ Below w.heap.size w w')
theorem hrows0 {x : Farm} {N : Nat} (h1 : x.works.n = N) (h2 : x.works.n = x.works.l.length) : rowsF x [] = List.replicate N [] := by
 unfold rowsF
 rw [show x.works.l.length = N by rw [← h1]; exact h2.symm]
 refine List.ext_getElem? fun i => ?_
 rw [List.getElem?_map]
 by_cases hi : i < N
 ·rw [List.getElem?_range hi, List.getElem?_replicate, if_pos hi]; rfl
 ·rw [List.getElem?_eq_none (by simp; omega), List.getElem?_eq_none (by simp; omega)]; rfl
def L1r (x : Farm) (l : List Run) (N rb : Nat) (w2 : World) (i : Value) (wr : World) : Prop :=
 ∃ (j : Nat) (vs : Nat → Value), j ≤ l.length ∧ i = .int .i64 j ∧ Rwr wr (rb + 1) rb N vs (rowsF x (l.take j)) ∧ okIds x (l.take j) = true ∧ Below w2.heap.size w2 wr
theorem keepF {w w' : World} {p : Addr} {u : Bool} (hb : Below w.heap.size w w') (hlt : p.block < w.heap.size) (h : w.frozen? p = u) : w'.frozen? p = u := (hb.frozen hlt).trans h
theorem waited_list {x : Farm} (l : List Run) (M L : List Int) (hM : ∀ z, (z ∈ L ↔ z ∈ M)) : ((List.range x.works.l.length).filter fun i => L.any fun t => waitB x l (woOf x i) t).map (fun i => (woOf x i).id_) = waitedF M x l := by
 have e : (List.range x.works.l.length).map (woOf x) = x.works.l := by
  refine List.ext_getElem? fun i => ?_
  rw [List.getElem?_map]
  by_cases hi : i < x.works.l.length
  ·rw [List.getElem?_range hi, List.getElem?_eq_getElem hi]
   show some (woOf x i) = _
   rw [woOf_get (List.getElem?_eq_getElem hi)]
  ·rw [List.getElem?_eq_none (by simp; omega), List.getElem?_eq_none (by omega)]; rfl
 unfold waitedF
 conv => rhs; rw [← e]
 rw [List.filter_map, List.map_map]
 have h2 : ((List.range x.works.l.length).filter fun i => L.any fun t => waitB x l (woOf x i) t) = (List.range x.works.l.length).filter ((fun z => M.any (waitB x l z)) ∘ woOf x) := by
  refine List.filter_congr fun i hi => ?_
  simp only [Function.comp]
  rw [Bool.eq_iff_iff, List.any_eq_true, List.any_eq_true]
  exact ⟨fun ⟨t, ht, hs⟩ => ⟨t, (hM t).1 ht, hs⟩, fun ⟨t, ht, hs⟩ => ⟨t, (hM t).2 ht, hs⟩⟩
 rw [h2]
 rfl
def V4 (nd : List Pair) (F : List Worker) (q1 : Nat → Bool) (ix N wd : Nat) (w5 w6 : World) (i : Value) (wq : World) : Prop :=
 ∃ k : Nat, k ≤ F.length ∧ i = .int .i64 k ∧ BRow wq wd N (fun i => if i = ix then (F.take k).any (fun y => fitF nd y.has.l) else q1 i) ∧ Below w5.heap.size w5 wq ∧ w6.grownBy wq (some wd) ∧ wd < wq.heap.size
theorem grown_of_below {w w' : World} (h : Below w.heap.size w w') (row : Option Nat) : w.grownBy w' row := ⟨h.os, h.tape, h.output, h.size, fun k hk _ => h.block k hk⟩
def V2 (x : Farm) (l : List Run) (L : List Int) (N wd : Nat) (w5 w7 : World) (i : Value) (wq : World) : Prop :=
 ∃ k : Nat, k ≤ L.length ∧ i = .int .i64 k ∧ BRow wq wd N (fun i => (L.take k).any fun t => waitB x l (woOf x i) t) ∧ Below w5.heap.size w5 wq ∧ w7.grownBy wq (some wd) ∧ wd < wq.heap.size
def V3 (x : Farm) (l : List Run) (q0 : Nat → Bool) (t : Int) (N wd : Nat) (w5 w7 w8 : World) (i : Value) (wq : World) : Prop :=
 ∃ k : Nat, k ≤ N ∧ i = .int .i64 k ∧ BRow wq wd N (fun i => q0 i || (decide (i < k) && waitB x l (woOf x i) t)) ∧ Below w5.heap.size w5 wq ∧ w7.grownBy wq (some wd) ∧ w8.grownBy wq (some wd) ∧ wd < wq.heap.size
set_option maxRecDepth 100000 in
set_option maxHeartbeats 8000000 in
theorem rWaited_any (x : Farm) (A : Option Addr) (n cap : Nat) (l : List Run) (w : World) (hx : RFarm.ok w x) (hl : SlAt RRun w A n l) (c : Int) (hc : waitC x l = c) :
  Calls Tryz.prog 30 #[farmV x, .slice A n cap] w (RwAns x l c w) := by
 unfold farmV
 have hN : x.works.n = x.works.l.length := hx.2.1.1.1.symm
 obtain ⟨W1, hW1⟩ : ∃ Y, w.alloc (.cells #[.slice x.workers.A x.workers.n x.workers.cap, .slice x.works.A x.works.n x.works.cap, .slice x.lost.A x.lost.n x.lost.cap, .int .i64 x.tries, .bool x.doubles] 26) = Y := ⟨_, rfl⟩
 obtain ⟨xb, hxb⟩ : ∃ b, w.heap.size = b := ⟨_, rfl⟩
 have hba : Below w.heap.size w W1 := by rw [← hW1]; exact (Below.refl _ _).alloc (Nat.le_refl _) _
 have hx1 := RFarm.mono _ _ _ hba hx
 have hl1 := hl.below hba
 have c0 : W1.cell? ⟨xb, 0, none⟩ = some (.slice x.workers.A x.workers.n x.workers.cap) := by rw [← hW1, ← hxb]; exact cell_new _ _ _ 0
 have c1 : W1.cell? ⟨xb, 1, none⟩ = some (.slice x.works.A x.works.n x.works.cap) := by rw [← hW1, ← hxb]; exact cell_new _ _ _ 1
 have c2 : W1.cell? ⟨xb, 2, none⟩ = some (.slice x.lost.A x.lost.n x.lost.cap) := by rw [← hW1, ← hxb]; exact cell_new _ _ _ 2
 have c3 : W1.cell? ⟨xb, 3, none⟩ = some (.int .i64 x.tries) := by rw [← hW1, ← hxb]; exact cell_new _ _ _ 3
 have c4 : W1.cell? ⟨xb, 4, none⟩ = some (.bool x.doubles) := by rw [← hW1, ← hxb]; exact cell_new _ _ _ 4
 obtain ⟨Z, hZ⟩ : ∃ Z, RwAns x l c w = Z := ⟨_, rfl⟩
 rw [hZ]
 unfold waitC at hc
 obtain ⟨f1, hf1⟩ : ∃ f, farmF x = f := ⟨_, rfl⟩
 obtain ⟨f2, hf2⟩ : ∃ f, runsF l = f := ⟨_, rfl⟩
 rw [hf1, hf2] at hc
 have hZH := Lib.hid hZ
 clear hZ
 have hxH := Lib.hid hx
 clear hx
 have hx1H := Lib.hid hx1
 clear hx1
 have hlH := Lib.hid hl
 clear hl
 have hl1H := Lib.hid hl1
 clear hl1
 have hW1H := Lib.hid hW1
 clear hW1
 have hxbH := Lib.hid hxb
 clear hxb
 have hbaH := Lib.hid hba
 clear hba
 have hcH := Lib.hid hc
 clear hc
 have hNH := Lib.hid hN
 clear hN
 have hf1H := Lib.hid hf1
 clear hf1
 have hf2H := Lib.hid hf2
 clear hf2
 go_enter Tryz.func30, Tryz.ntmps30
 go_wp2_with fail
 rw [hW1H.out, hxbH.out]
 refine (rfarm_any x _ hx1H.out f1 hf1H.out).mono ?_
 rintro e w1 ⟨rfl, hb1⟩
 have c0 := keepC hb1 c0
 have c1 := keepC hb1 c1
 have c2 := keepC hb1 c2
 have c3 := keepC hb1 c3
 have c4 := keepC hb1 c4
 have hx2 := RFarm.mono _ _ _ hb1 hx1H.out
 have hl2 := hl1H.out.below hb1
 have hbb := hbaH.out.trans (hb1.mono hbaH.out.size)
 have hc := hcH.out
 clear hcH
 by_cases h1 : f1 = 0
 ·subst h1
  rw [if_pos rfl] at hc
  have hb1H := Lib.hid hb1
  clear hb1
  have hx2H := Lib.hid hx2
  clear hx2
  have hl2H := Lib.hid hl2
  clear hl2
  have hbbH := Lib.hid hbb
  clear hbb
  have hcH := Lib.hid hc
  clear hc
  go_wp2_with fail
  refine (rruns_any A n cap l _ hl2H.out f2 hf2H.out).mono ?_
  rintro e w2 ⟨rfl, hb2⟩
  have c0 := keepC hb2 c0
  have c1 := keepC hb2 c1
  have c2 := keepC hb2 c2
  have c3 := keepC hb2 c3
  have c4 := keepC hb2 c4
  have hx3 := RFarm.mono _ _ _ hb2 hx2H.out
  have hl3 := hl2H.out.below hb2
  have hbb2 := hbbH.out.trans (hb2.mono hbbH.out.size)
  have hc := hcH.out
  clear hcH
  by_cases h2 : f2 = 0
  ·subst h2
   rw [if_pos rfl] at hc
   have hok := farmOk_of hf1H.out
   have hN2 : x.works.n ≤ 200 := by have := hok.wo.len; have := hNH.out; omega
   obtain ⟨N, hNe⟩ : ∃ m, x.works.n = m := ⟨_, rfl⟩
   have hm1 := run_makeRwr N (by omega)
   rw [hNe] at hN2
   have hl4 : n ≤ 4000 := by
    have h1 := hf2H.out
    unfold runsF at h1
    by_cases h3 : l.length ≤ 4000
    ·have := hl3.1; omega
    ·rw [if_neg h3] at h1; exact absurd h1 (by decide)
   rw [hNe] at c1
   have lt1 := cell?_lt c1
   simp only at lt1
   have hb2H := Lib.hid hb2
   clear hb2
   have hx3H := Lib.hid hx3
   clear hx3
   have hl3H := Lib.hid hl3
   clear hl3
   have hbb2H := Lib.hid hbb2
   clear hbb2
   have hcH := Lib.hid hc
   clear hc
   have hokH := Lib.hid hok
   clear hok
   have hNeH := Lib.hid hNe
   clear hNe
   obtain ⟨rb, hrb⟩ : ∃ b, w2.heap.size = b := ⟨_, rfl⟩
   have hR3 := Rwr.made w2 N
   obtain ⟨W3, hW3⟩ : ∃ Y, w2.alloc (.cells (madeS N) 27) = Y := ⟨_, rfl⟩
   rw [hW3, hrb] at hR3
   have hs3 : W3.heap.size = rb + 1 := by rw [← hW3, ← hrb]; simp
   have hb3 : Below w2.heap.size w2 W3 := by rw [← hW3]; exact (Below.refl _ _).alloc (Nat.le_refl _) _
   have hst : L1r x l N rb w2 (.int .i64 0) W3 := ⟨0, _, Nat.zero_le _, rfl, by rw [List.take_zero, hrows0 hNeH.out hNH.out]; exact hR3, by rw [List.take_zero]; rfl, hb3⟩
   have hK : ∀ W, Below w2.heap.size w2 W → W.cell? ⟨xb, 0, none⟩ = some (.slice x.workers.A x.workers.n x.workers.cap) ∧ W.cell? ⟨xb, 1, none⟩ = some (.slice x.works.A N x.works.cap) ∧ W.cell? ⟨xb, 2, none⟩ = some (.slice x.lost.A x.lost.n x.lost.cap) ∧ W.cell? ⟨xb, 3, none⟩ = some (.int .i64 x.tries) ∧ W.cell? ⟨xb, 4, none⟩ = some (.bool x.doubles) := fun W h => ⟨keepC h c0, keepC h c1, keepC h c2, keepC h c3, keepC h c4⟩
   have hll := hl3H.out.1
   clear c0 c2 c3 c4
   have hrbH := Lib.hid hrb
   clear hrb
   have hW3H := Lib.hid hW3
   clear hW3
   have hb3H := Lib.hid hb3
   clear hb3
   have hs3H := Lib.hid hs3
   clear hs3
   have hR3H := Lib.hid hR3
   clear hR3
   have hstH := Lib.hid hst
   clear hst
   have hKH := Lib.hid hK
   clear hK
   have hllH := Lib.hid hll
   clear hll
   go_wp2_with fail
   rw [hW3H.out, hrbH.out]
   clear c1 hm1
   go_loopw [40] (fun i wr => L1r x l N rb w2 i wr) (fun i _ => n - (intOf i).toNat)
   case atStart => exact hstH.out
   case round =>
    clear hstH
    obtain ⟨j, vs, hj, rfl, hR, hids, hb⟩ := hrel
    have hbs := hb.size
    by_cases hlt : j < n
    ·obtain ⟨c0, c1, _⟩ := hKH.out wr hb
     have hslr := hl3H.out.below hb
     obtain ⟨bl, ol, hA8, _⟩ := hslr.2.1 (by omega)
     subst hA8
     obtain ⟨r, hr⟩ : ∃ r, l[j]? = some r := ⟨l[j]'(by have := hllH.out; omega), List.getElem?_eq_getElem _⟩
     obtain ⟨e0, e1, e2, e3, e4⟩ := cells_Run hslr hr
     have hrm := List.mem_of_getElem? hr
     have hro := hslr.2.2 r hrm
     have htk : l.take (j + 1) = l.take j ++ [r] := by rw [List.take_add_one, hr]; rfl
     obtain ⟨ok1, hok1⟩ : ∃ v, hasId x.works.l r.id_ = v := ⟨_, rfl⟩
     obtain ⟨ok2, hok2⟩ : ∃ v, hasNm x.workers.l r.worker = v := ⟨_, rfl⟩
     have hbad : (ok1 && ok2) = false → c = 5 := fun hh => by
      have h9 : okIds x l = false := by
       unfold okIds
       rw [List.all_eq_false]
       exact ⟨r, hrm, by rw [hok1, hok2, hh]; simp⟩
      rw [← hcH.out, h9, if_neg (by decide)]
     have hz1 := hx3H.out.2.1.1.below hb
     have hz2 := hx3H.out.1.1.below hb
     rw [hNeH.out] at hz1
     have hlj := hllH.out
     obtain ⟨rid, rwk, rfm, rto, ren⟩ := r
     simp only at e0 e1 e2 e3 e4 hok1 hok2
     have hbl := (Below.refl wr.heap.size wr).alloc (Nat.le_refl _) (.cells #[.string rid, .string rwk, .int .i64 rfm, .int .i64 rto, .int .i64 ren] 34)
     obtain ⟨W5, hW5⟩ : ∃ Y, wr.alloc (.cells #[.string rid, .string rwk, .int .i64 rfm, .int .i64 rto, .int .i64 ren] 34) = Y := ⟨_, rfl⟩
     obtain ⟨sb, hsb⟩ : ∃ b, wr.heap.size = b := ⟨_, rfl⟩
     have hB5 := blk_new wr [.string rid, .string rwk, .int .i64 rfm, .int .i64 rto, .int .i64 ren] 34
     have c1a := keepC hbl c1
     have y1 := keepC hbl c0
     rw [hW5] at hbl
     replace hB5 : Blk W5 sb [.string rid, .string rwk, .int .i64 rfm, .int .i64 rto, .int .i64 ren] := by rw [← hW5, ← hsb]; exact hB5
     have hb5 := hb.trans (hbl.mono hbs)
     have hzz1 := hz1.below hbl
     have hzz2 := hz2.below hbl
     clear c0 c1 hz1 hz2
     have hRH := Lib.hid hR
     clear hR
     have hidsH := Lib.hid hids
     clear hids
     have hbH := Lib.hid hb
     clear hb
     have hrH := Lib.hid hr
     clear hr
     have hrmH := Lib.hid hrm
     clear hrm
     have hroH := Lib.hid hro
     clear hro
     have htkH := Lib.hid htk
     clear htk
     have hok1H := Lib.hid hok1
     clear hok1
     have hok2H := Lib.hid hok2
     clear hok2
     have hbadH := Lib.hid hbad
     clear hbad
     have hW5H := Lib.hid hW5
     clear hW5
     have hsbH := Lib.hid hsb
     clear hsb
     have hB5H := Lib.hid hB5
     clear hB5
     have hblH := Lib.hid hbl
     clear hbl
     have hb5H := Lib.hid hb5
     clear hb5
     have hzz1H := Lib.hid hzz1
     clear hzz1
     have hzz2H := Lib.hid hzz2
     clear hzz2
     have hslrH := Lib.hid hslr
     clear hslr
     have hljH := Lib.hid hlj
     clear hlj
     go_wp2_with fail
     rw [hW5H.out, hsbH.out]
     clear e0 e1 e2 e3 e4 c1a y1
     refine (workOf_any x.works.A N x.works.cap x.works.l rid W5 (by omega) hzz1H.out).mono ?_
     rintro e w6 ⟨rfl, hb6⟩
     have hwo : woF x.works.l rid = if ok1 = true then ((ixOf x.works.l rid : Nat) : Int) else -1 := by unfold woF; rw [hok1H.out]
     rw [hwo]
     clear hwo
     have hb26 := hb5H.out.trans (hb6.mono hb5H.out.size)
     have hB6 := hB5H.out.bel (by simp) hb6
     have c0 := (hKH.out w6 hb26).1
     have y1 := (hB6 1 _ rfl).1
     have hzz6 := hzz2H.out.below hb6
     have hbw6 := hblH.out.trans (hb6.mono hblH.out.size)
     have R5 : c = 5 → ∀ W, Below w6.heap.size w6 W → Z (.returned (.tuple #[.slice none 0 0, .int .i64 5])) W := fun h W hW => by
      rw [← hZH.out]
      exact .inl ⟨by omega, by rw [h], hbb2H.out.trans ((hb26.trans (hW.mono hb26.size)).mono hbb2H.out.size)⟩
     cases ok1
     ·have R := R5 (hbadH.out rfl) w6 (Below.refl _ _)
      rw [if_neg (by decide)]
      clear R5 c0 y1
      have RH := Lib.hid R
      clear R
      have hb6H := Lib.hid hb6
      clear hb6
      have hb26H := Lib.hid hb26
      clear hb26
      have hB6H := Lib.hid hB6
      clear hB6
      have hzz6H := Lib.hid hzz6
      clear hzz6
      have hbw6H := Lib.hid hbw6
      clear hbw6
      go_wp2
      exact RH.out
     ·rw [if_pos rfl]
      obtain ⟨i1, hix⟩ : ∃ q, ixOf x.works.l rid = q := ⟨_, rfl⟩
      rw [hix]
      have dix : decide ((i1 : Int) < 0) = false := decide_eq_false (by omega)
      have hixl : i1 < N := by have h1 := ixOf_lt hok1H.out; rw [hix] at h1; have := hNH.out; have := hNeH.out; omega
      have hM1 : x.workers.n ≤ 1000 := by have := hokH.out.wkn; have := hzz6.1; omega
      have R5H := Lib.hid R5
      clear R5
      have hb6H := Lib.hid hb6
      clear hb6
      have hb26H := Lib.hid hb26
      clear hb26
      have hB6H := Lib.hid hB6
      clear hB6
      have hzz6H := Lib.hid hzz6
      clear hzz6
      have hbw6H := Lib.hid hbw6
      clear hbw6
      have hixH := Lib.hid hix
      clear hix
      have hixlH := Lib.hid hixl
      clear hixl
      have hM1H := Lib.hid hM1
      clear hM1
      go_wp2_with fail
      refine (workerOf_any x.workers.A x.workers.n x.workers.cap x.workers.l rwk w6 hM1H.out hzz6H.out).mono ?_
      rintro e w7 ⟨rfl, hb7⟩
      have hwk : wkF x.workers.l rwk = if ok2 = true then ((ixNm x.workers.l rwk : Nat) : Int) else -1 := by unfold wkF; rw [hok2H.out]
      rw [hwk]
      have hb27 := hb26H.out.trans (hb7.mono hb26H.out.size)
      have hbw7 := hbw6H.out.trans (hb7.mono hbw6H.out.size)
      clear c0 y1 hwk
      cases ok2
      ·have R := R5H.out (hbadH.out rfl) w7 hb7
       rw [if_neg (by decide)]
       have RH := Lib.hid R
       clear R
       have hb7H := Lib.hid hb7
       clear hb7
       have hb27H := Lib.hid hb27
       clear hb27
       have hbw7H := Lib.hid hbw7
       clear hbw7
       go_wp2
       exact RH.out
      ·rw [if_pos rfl]
       obtain ⟨i2, hix2⟩ : ∃ q, ixNm x.workers.l rwk = q := ⟨_, rfl⟩
       rw [hix2]
       have dix2 : decide ((i2 : Int) < 0) = false := decide_eq_false (by omega)
       have hixl := hixlH.out
       have hix := hixH.out
       clear hix2 hixH
       have hR7 := hRH.out.below hbw7
       have hB7 := hB6H.out.bel (by simp) hb7
       obtain ⟨row, hrow⟩ : ∃ q, (rowsF x (l.take j))[i1]? = some q := ⟨(rowsF x (l.take j))[i1]'(by have := hR7.len; omega), List.getElem?_eq_getElem _⟩
       have hown := hR7.own i1 row hrow
       obtain ⟨A9, c9, hv9⟩ := hown.form
       obtain ⟨m9, hm9⟩ : ∃ q, row.length = q := ⟨_, rfl⟩
       rw [hm9] at hv9
       rw [hv9] at hown
       have hcell := (hR7.cells i1 hixl).1
       rw [hv9] at hcell
       have hm94 : m9 ≤ 4000 := by
        have h1 : row.length ≤ (l.take j).length := by
         have h2 : (rowsF x (l.take j))[i1]? = some _ := rowsF_get (l.take j) (by have := hNH.out; have := hNeH.out; omega)
         rw [hrow] at h2
         injection h2 with h2
         rw [h2]
         exact List.length_filter_le _ _
        rw [List.length_take] at h1
        omega
       have hF7 : w7.cell? ⟨rb, i1, none⟩ = some (.slice A9 m9 c9) ∧ w7.cell? ⟨sb, 0, none⟩ = some (.string rid) ∧ w7.cell? ⟨sb, 1, none⟩ = some (.string rwk) ∧ w7.cell? ⟨sb, 2, none⟩ = some (.int .i64 rfm) ∧ w7.cell? ⟨sb, 3, none⟩ = some (.int .i64 rto) ∧ w7.cell? ⟨sb, 4, none⟩ = some (.int .i64 ren) := ⟨hcell, (hB7 0 _ rfl).1, (hB7 1 _ rfl).1, (hB7 2 _ rfl).1, (hB7 3 _ rfl).1, (hB7 4 _ rfl).1⟩
       have kB : ∀ W W' : World, Below W.heap.size W W' → (W.cell? ⟨rb, i1, none⟩ = some (.slice A9 m9 c9) ∧ W.cell? ⟨sb, 0, none⟩ = some (.string rid) ∧ W.cell? ⟨sb, 1, none⟩ = some (.string rwk) ∧ W.cell? ⟨sb, 2, none⟩ = some (.int .i64 rfm) ∧ W.cell? ⟨sb, 3, none⟩ = some (.int .i64 rto) ∧ W.cell? ⟨sb, 4, none⟩ = some (.int .i64 ren)) → (W'.cell? ⟨rb, i1, none⟩ = some (.slice A9 m9 c9) ∧ W'.cell? ⟨sb, 0, none⟩ = some (.string rid) ∧ W'.cell? ⟨sb, 1, none⟩ = some (.string rwk) ∧ W'.cell? ⟨sb, 2, none⟩ = some (.int .i64 rfm) ∧ W'.cell? ⟨sb, 3, none⟩ = some (.int .i64 rto) ∧ W'.cell? ⟨sb, 4, none⟩ = some (.int .i64 ren)) := fun W W' hb h => ⟨keepC hb h.1, keepC hb h.2.1, keepC hb h.2.2.1, keepC hb h.2.2.2.1, keepC hb h.2.2.2.2.1, keepC hb h.2.2.2.2.2⟩
       have hownr := hRH.out.own i1 row hrow
       rw [hv9] at hownr
       have hblk : ∀ b, (Value.slice A9 m9 c9).ownBlock = some b → rb + 1 ≤ b ∧ b < sb := fun b hb' => by
        have := hownr.1.lt b hb'
        have h2 := hsbH.out
        omega
       have hrbs : rb + 1 ≤ sb := by have := hRH.out.le; have := hsbH.out; omega
       have kG : ∀ W W' : World, W.grownBy W' (Value.slice A9 m9 c9).ownBlock → (W.cell? ⟨rb, i1, none⟩ = some (.slice A9 m9 c9) ∧ W.cell? ⟨sb, 0, none⟩ = some (.string rid) ∧ W.cell? ⟨sb, 1, none⟩ = some (.string rwk) ∧ W.cell? ⟨sb, 2, none⟩ = some (.int .i64 rfm) ∧ W.cell? ⟨sb, 3, none⟩ = some (.int .i64 rto) ∧ W.cell? ⟨sb, 4, none⟩ = some (.int .i64 ren)) → (W'.cell? ⟨rb, i1, none⟩ = some (.slice A9 m9 c9) ∧ W'.cell? ⟨sb, 0, none⟩ = some (.string rid) ∧ W'.cell? ⟨sb, 1, none⟩ = some (.string rwk) ∧ W'.cell? ⟨sb, 2, none⟩ = some (.int .i64 rfm) ∧ W'.cell? ⟨sb, 3, none⟩ = some (.int .i64 rto) ∧ W'.cell? ⟨sb, 4, none⟩ = some (.int .i64 ren)) := fun W W' hg h => by
        have n2 : some rb ≠ (Value.slice A9 m9 c9).ownBlock := fun e => by have := (hblk _ e.symm).1; omega
        have n3 : some sb ≠ (Value.slice A9 m9 c9).ownBlock := fun e => by have := (hblk _ e.symm).2; omega
        exact ⟨hg.cell h.1 n2, hg.cell h.2.1 n3, hg.cell h.2.2.1 n3, hg.cell h.2.2.2.1 n3, hg.cell h.2.2.2.2.1 n3, hg.cell h.2.2.2.2.2 n3⟩
       have hix0 : (0 : Int) ≤ (i1 : Int) := by omega
       have hix1 : (i1 : Int) < (N : Int) := by omega
       have hb7s := hb27.size
       clear hcell
       have hb7H := Lib.hid hb7
       clear hb7
       have hb27H := Lib.hid hb27
       clear hb27
       have hbw7H := Lib.hid hbw7
       clear hbw7
       have hR7H := Lib.hid hR7
       clear hR7
       have hB7H := Lib.hid hB7
       clear hB7
       have hrowH := Lib.hid hrow
       clear hrow
       have hownH := Lib.hid hown
       clear hown
       have hv9H := Lib.hid hv9
       clear hv9
       have hm9H := Lib.hid hm9
       clear hm9
       have kBH := Lib.hid kB
       clear kB
       have hownrH := Lib.hid hownr
       clear hownr
       have hblkH := Lib.hid hblk
       clear hblk
       have kGH := Lib.hid kG
       clear kG
       have hb7sH := Lib.hid hb7s
       clear hb7s
       have hixH := Lib.hid hix
       clear hix
       go_wp2_with fail
       have hF := hF7
       clear hF7
       have hC : True := trivial
       refine startR (R := Rk (fun w' : World => w'.cell? ⟨rb, i1, none⟩ = some (.slice A9 m9 c9) ∧ w'.cell? ⟨sb, 0, none⟩ = some (.string rid) ∧ w'.cell? ⟨sb, 1, none⟩ = some (.string rwk) ∧ w'.cell? ⟨sb, 2, none⟩ = some (.int .i64 rfm) ∧ w'.cell? ⟨sb, 3, none⟩ = some (.int .i64 rto) ∧ w'.cell? ⟨sb, 4, none⟩ = some (.int .i64 ren)) (fun _ => True) 10 10) (by kernel_rfl) ?_
       refine takeF (i := 0) (d := some 59) (v := ?_) rfl rfl (by kernel_rfl) (by kernel_rfl) (by kernel_rfl) (by kernel_rfl) (by kernel_rfl) (fun _ _ _ h => h) (Or.inl ⟨by rfl, ?_⟩) hF ?_
       rotate_left
       ·(intro w hSw; (try dsimp only at hSw); go_simp; (try with_reducible rfl))
       (try simp only [Act.put, List.setIfInBounds_toArray, List.set_cons_zero, List.set_cons_succ])
       refine takeF (i := 1) (d := some 60) (v := ?_) rfl rfl (by kernel_rfl) (by kernel_rfl) (by kernel_rfl) (by kernel_rfl) (by kernel_rfl) (fun _ _ _ h => h) (Or.inl ⟨by rfl, ?_⟩) hF ?_
       rotate_left
       ·(intro w hSw; (try dsimp only at hSw); go_simp; (try with_reducible rfl))
       (try simp only [Act.put, List.setIfInBounds_toArray, List.set_cons_zero, List.set_cons_succ])
       refine takeF (i := 2) (d := some 61) (v := ?_) rfl rfl (by kernel_rfl) (by kernel_rfl) (by kernel_rfl) (by kernel_rfl) (by kernel_rfl) (fun _ _ _ h => h) (Or.inl ⟨by rfl, ?_⟩) hF ?_
       rotate_left
       ·(intro w hSw; (try dsimp only at hSw); go_simp; (try with_reducible rfl))
       (try simp only [Act.put, List.setIfInBounds_toArray, List.set_cons_zero, List.set_cons_succ])
       refine takeF (i := 3) (d := some 62) (v := ?_) rfl rfl (by kernel_rfl) (by kernel_rfl) (by kernel_rfl) (by kernel_rfl) (by kernel_rfl) (fun _ _ _ h => h) (Or.inl ⟨by rfl, ?_⟩) hF ?_
       rotate_left
       ·(intro w hSw; (try dsimp only at hSw); go_simp; (try with_reducible rfl))
       (try simp only [Act.put, List.setIfInBounds_toArray, List.set_cons_zero, List.set_cons_succ])
       refine takeF (i := 4) (d := some 63) (v := ?_) rfl rfl (by kernel_rfl) (by kernel_rfl) (by kernel_rfl) (by kernel_rfl) (by kernel_rfl) (fun _ _ _ h => h) (Or.inl ⟨by rfl, ?_⟩) hF ?_
       rotate_left
       ·(intro w hSw; (try dsimp only at hSw); go_simp; (try with_reducible rfl))
       (try simp only [Act.put, List.setIfInBounds_toArray, List.set_cons_zero, List.set_cons_succ])
       refine takeF (i := 5) (d := some 64) (v := ?_) rfl rfl (by kernel_rfl) (by kernel_rfl) (by kernel_rfl) (by kernel_rfl) (by kernel_rfl) (fun _ _ _ h => h) (Or.inl ⟨by rfl, ?_⟩) hF ?_
       rotate_left
       ·(intro w hSw; (try dsimp only at hSw); go_simp; (try with_reducible rfl))
       (try simp only [Act.put, List.setIfInBounds_toArray, List.set_cons_zero, List.set_cons_succ])
       refine takeF (i := 6) (d := some 65) (v := ?_) rfl rfl (by kernel_rfl) (by kernel_rfl) (by kernel_rfl) (by kernel_rfl) (by kernel_rfl) (fun _ _ _ h => h) (Or.inl ⟨by rfl, ?_⟩) hF ?_
       rotate_left
       ·(intro w hSw; (try dsimp only at hSw); go_simp; (try with_reducible rfl))
       (try simp only [Act.put, List.setIfInBounds_toArray, List.set_cons_zero, List.set_cons_succ])
       refine oneR (i := 7) (by kernel_rfl) rfl (fun K hK => ?_)
       go_simp
       have hbb : Below w7.heap.size w7 (w7.drew.alloc (.cells #[.string rid, .string rwk, .int .i64 rfm, .int .i64 rto, .int .i64 ren] 34)) := (Below.refl _ _).drew.alloc (by simp) _
       have hF2 := kBH.out _ _ hbb hF
       have hown8 := hownH.out.below hbb
       have hR8 := hR7H.out.below hbb
       have hb8 := hb27H.out.trans (hbb.mono hb27H.out.size)
       clear hF
       have hown8H := Lib.hid hown8
       clear hown8
       have hR8H := Lib.hid hR8
       clear hR8
       have hb8H := Lib.hid hb8
       clear hb8
       have hbbH := Lib.hid hbb
       clear hbb
       refine hK.out _ _ ⟨fun _ _ _ => hF2, fun _ _ => trivial⟩ ?_
       clear hK K
       (try simp only [Act.put, List.setIfInBounds_toArray, List.set_cons_zero, List.set_cons_succ])
       have hF := hF2
       refine oneR (i := 8) (by kernel_rfl) rfl (fun K hK => ?_)
       refine step_app1g (R := RRun) (base := rb + 1) (v := .slice A9 m9 c9) (l := row) ?g1 (.tmp 64) (.tmp 66) 27 ?g2 Tryz.underlying27 elem_Run (by decide) ?g3 ?own w7.heap.size (⟨rid, rwk, rfm, rto, ren⟩ : Run) ?g4 ?g5 (fun _ _ _ _ h => h) ?a4 ?a5 ?a6 (m9 + 1) ?a7 ?_
       case g1 => rfl
       case g2 => rfl
       case g3 => rfl
       case g4 => rfl
       case own => exact hown8H.out
       case g5 => exact slAt_new w7.drew _ _ (run_ok_any _ _ _ hroH.out)
       case a4 => rw [hm9H.out]; unfold maxLen; omega
       case a5 => rw [hm9H.out]; omega
       case a6 => have h1 := hR8H.out.le; exact h1
       case a7 => rw [hm9H.out]
       intro A8 c8 w8 hq8 hg8 hat8
       have hF3 := kGH.out _ _ hg8 hF2
       have R : L1r x l N rb w2 (.int .i64 ((j : Int) + 1)) (w8.setCell ⟨rb, i1, none⟩ (.slice A8 (m9 + 1) c8)) := by
        have hp := hR8H.out.put (k := i1) hixl (by rw [hv9H.out]; exact hg8) hq8 (by rw [hv9H.out]; exact hat8)
        have hsn := rowsF_snoc hokH.out (l.take j) ⟨rid, rwk, rfm, rto, ren⟩ hok1H.out
        rw [hixH.out, List.getD_eq_getElem?_getD, hrowH.out] at hsn
        have hrb2 : w2.heap.size ≤ rb := Nat.le_of_eq hrbH.out
        have hids2 : okIds x (l.take (j + 1)) = true := by
         rw [htkH.out]
         unfold okIds at *
         rw [List.all_append, hidsH.out]
         simp [hok1H.out, hok2H.out]
        refine ⟨j + 1, (fun q => if q = i1 then .slice A8 (m9 + 1) c8 else vs q), by have := hljH.out; omega, by go_num, ?_, hids2, ((hb8H.out.grown hg8 hb8H.out.size (fun b hb' => by have := (hblkH.out b hb').1; omega)).setCell (p := ⟨rb, i1, none⟩) hrb2 _)⟩
        rw [htkH.out, hsn]
        exact hp
       have z8 : w8.frozen? ⟨rb, i1, none⟩ = false := by
        have h1 := ((hR8H.out.cells i1 hixl)).2
        have h2 := hg8.block rb (hR8H.out.lt_heap) (fun e => by have := (hblkH.out _ e.symm).1; omega)
        exact (World.frozen?_of_block (a := ⟨rb, i1, none⟩) h2).trans h1
       clear hq8 hg8 hat8 hF hF2
       have RH := Lib.hid R
       clear R
       refine hK.out _ _ ⟨fun _ _ _ => hF3, fun _ _ => trivial⟩ ?_
       clear hK K
       (try simp only [Act.put, List.setIfInBounds_toArray, List.set_cons_zero, List.set_cons_succ])
       have hF := hF3
       refine oneR (i := 9) (by kernel_rfl) rfl (fun K hK => ?_)
       go_simp
       refine hK.out _ _ ⟨fun _ _ _ => hF, fun _ _ => trivial⟩ ?_
       clear hK K
       (try simp only [Act.put, List.setIfInBounds_toArray, List.set_cons_zero, List.set_cons_succ])
       refine oneR (i := 10) (by kernel_rfl) rfl (fun K hK => ?_)
       go_simp
       refine hK.out _ _ ⟨fun h => absurd rfl h, fun h => absurd rfl h⟩ ?_
       clear hK K
       (try simp only [Act.put, List.setIfInBounds_toArray, List.set_cons_zero, List.set_cons_succ])
       refine doneR (by kernel_rfl) ?_ _
       clear hF hF3 z8 hC
       go_wp2
       refine ⟨?rel, ?measure⟩
       case measure => (simp [intOf]; omega)
       case rel => first | exact RH.out | exact ⟨rfl, RH.out⟩ | ((try refine ⟨rfl, ?_⟩); (repeat apply Exists.intro); refine ⟨RH.out, ?_⟩; ((repeat' apply And.intro) <;> rfl))
    ·obtain rfl : j = n := by have := hllH.out; omega
     have e : l.take j = l := List.take_of_length_le (by have := hllH.out; omega)
     rw [e] at hR hids
     have hc0 : c = 0 := by rw [← hcH.out, hids, if_pos rfl]
     obtain ⟨c0, c1, c2, c3, c4⟩ := hKH.out wr hb
     have hids3 : ∀ r ∈ l, hasId x.works.l r.id_ = true := fun r hr => by
      unfold okIds at hids
      have := List.all_eq_true.1 hids r hr
      rw [Bool.and_eq_true] at this
      exact this.1
     have hto := (runsF_facts hf2H.out).2
     have hxw := RFarm.mono _ _ _ hb hx3H.out
     have hlw := hl3H.out.below hb
     have hM : x.workers.n ≤ 50 := by have := hokH.out.wkn; have := hxw.1.1.1; omega
     have hdone := doneBy_any x A j cap l wr hxw hlw (by omega) hokH.out hids3 (fun r hr => by have := hto r hr; omega)
     unfold farmV at hdone
     rw [hNeH.out] at hdone
     have hRs : ∀ i, i < N → ∃ (A' : Option Addr) (n' c' : Nat), ∀ W, Below wr.heap.size wr W → W.cell? ⟨rb, i, none⟩ = some (.slice A' n' c') ∧ SlAt RRun W A' n' (l.filter fun r => decide (r.id_ = (woOf x i).id_)) ∧ n' ≤ 4000 := fun i hi => by
      have hi' : i < x.works.l.length := by have := hNH.out; have := hNeH.out; omega
      have hown := hR.own i _ (rowsF_get l hi')
      obtain ⟨A', c', hv⟩ := hown.form
      have hc' := (hR.cells i hi).1
      rw [hv] at hc' hown
      refine ⟨A', _, c', fun W hW => ⟨keepC hW hc', (hown.below hW).slAt, ?_⟩⟩
      have h1 := List.length_filter_le (fun r : Run => decide (r.id_ = (woOf x i).id_)) l
      have h2 := hlw.1
      omega
     clear e hR
     have hidsH := Lib.hid hids
     clear hids
     have hc0H := Lib.hid hc0
     clear hc0
     have hids3H := Lib.hid hids3
     clear hids3
     have htoH := Lib.hid hto
     clear hto
     have hxwH := Lib.hid hxw
     clear hxw
     have hlwH := Lib.hid hlw
     clear hlw
     have hMH := Lib.hid hM
     clear hM
     have hbH := Lib.hid hb
     clear hb
     have hdoneH := Lib.hid hdone
     clear hdone
     have hRsH := Lib.hid hRs
     clear hRs
     go_wp2_with fail
     refine hdoneH.out.mono ?_
     rintro e w5 ⟨B, rfl, hD, hBge, hb5⟩
     rw [hNeH.out] at hD ⊢
     have hbw5 := hbH.out.trans (hb5.mono hbH.out.size)
     obtain ⟨c0, c1, c2, c3, c4⟩ := hKH.out w5 hbw5
     have hmb := run_makeB N (by omega)
     obtain ⟨W6, hW6⟩ : ∃ Y, w5.alloc (.cells (madeB N) 4) = Y := ⟨_, rfl⟩
     obtain ⟨wd, hwd⟩ : ∃ b, w5.heap.size = b := ⟨_, rfl⟩
     have hb6 : Below w5.heap.size w5 W6 := by rw [← hW6]; exact (Below.refl _ _).alloc (Nat.le_refl _) _
     have hs6 : W6.heap.size = wd + 1 := by rw [← hW6, ← hwd]; simp
     have hw6 : BRow W6 wd N (fun _ => false) := by rw [← hW6, ← hwd]; exact BRow.made _ _
     have hmom := rmoments_any x A j cap l W6 (RFarm.mono _ _ _ (hb5.trans (hb6.mono hb5.size)) hxwH.out) (hlwH.out.below (hb5.trans (hb6.mono hb5.size))) (by omega) hMH.out
     unfold farmV at hmom
     rw [hNeH.out] at hmom
     have c0a := keepC hb6 c0
     have c1a := keepC hb6 c1
     have c2a := keepC hb6 c2
     have c3a := keepC hb6 c3
     have c4a := keepC hb6 c4
     rw [← hW6] at c0a c1a c2a c3a c4a
     clear c0 c2 c3 c4
     have hDH := Lib.hid hD
     clear hD
     have hBgeH := Lib.hid hBge
     clear hBge
     have hb5H := Lib.hid hb5
     clear hb5
     have hbw5H := Lib.hid hbw5
     clear hbw5
     have hb6H := Lib.hid hb6
     clear hb6
     have hs6H := Lib.hid hs6
     clear hs6
     have hw6H := Lib.hid hw6
     clear hw6
     have hmomH := Lib.hid hmom
     clear hmom
     have hW6H := Lib.hid hW6
     clear hW6
     have hwdH := Lib.hid hwd
     clear hwd
     go_wp2_with fail
     rw [hW6H.out, hwdH.out]
     clear c0a c1a c2a c3a c4a c1 hmb
     refine hmomH.out.mono ?_
     rintro e w7 ⟨AL, nL, cL, L, rfl, hLo, hLm, hnL, hb7⟩
     have hLl := hLo.len
     have hst2 : V2 x l L N wd w5 w7 (.int .i64 0) w7 := ⟨0, Nat.zero_le _, rfl, fun q hq => by
      have := (brow_bel hw6H.out hb7) q hq
      dsimp only
      rw [List.take_zero]; exact this, hb6H.out.trans (hb7.mono hb6H.out.size), World.grownBy.refl _ _, by have := hb7.size; have := hs6H.out; omega⟩
     have hLb : ∀ W, w7.grownBy W (some wd) → SlAt RInt W AL nL L := fun W hg => (Own.kept hLo hg (by
      rcases hLo.1.2 with ⟨e, _⟩ | ⟨g, cp, cur, e, hg9, _⟩
      ·exact .inl (by rw [e]; rfl)
      ·refine .inr ?_
       rw [e]
       intro e2
       have e3 : g = wd := by simpa [Value.ownBlock] using e2
       have := hs6H.out
       omega) (fun z _ h => h)).slAt
     have hP : ∀ W, Below w5.heap.size w5 W → RFarm.ok W x ∧ SlAt RRun W A j l ∧ IRow W B N (fun k => dmL l (woOf x k).id_) ∧ (W.cell? ⟨xb, 0, none⟩ = some (.slice x.workers.A x.workers.n x.workers.cap) ∧ W.cell? ⟨xb, 1, none⟩ = some (.slice x.works.A N x.works.cap) ∧ W.cell? ⟨xb, 2, none⟩ = some (.slice x.lost.A x.lost.n x.lost.cap) ∧ W.cell? ⟨xb, 3, none⟩ = some (.int .i64 x.tries) ∧ W.cell? ⟨xb, 4, none⟩ = some (.bool x.doubles)) ∧ Below wr.heap.size wr W := fun W hW =>
      ⟨RFarm.mono _ _ _ (hb5H.out.trans (hW.mono hb5H.out.size)) hxwH.out, hlwH.out.below (hb5H.out.trans (hW.mono hb5H.out.size)), hDH.out.bel hW, hKH.out W (hbw5H.out.trans (hW.mono hbw5H.out.size)), hb5H.out.trans (hW.mono hb5H.out.size)⟩
     have hwd5 : w5.heap.size ≤ wd := Nat.le_of_eq hwdH.out
     have hbZ : ∀ W, Below w5.heap.size w5 W → Below w.heap.size w W := fun W hW => hbb2H.out.trans ((hbw5H.out.trans (hW.mono hbw5H.out.size)).mono hbb2H.out.size)
     have hLoH := Lib.hid hLo
     clear hLo
     have hLmH := Lib.hid hLm
     clear hLm
     have hb7H := Lib.hid hb7
     clear hb7
     have hLlH := Lib.hid hLl
     clear hLl
     have hst2H := Lib.hid hst2
     clear hst2
     have hLbH := Lib.hid hLb
     clear hLb
     have hPH := Lib.hid hP
     clear hP
     have hwd5H := Lib.hid hwd5
     clear hwd5
     have hbZH := Lib.hid hbZ
     clear hbZ
     go_wp2_with fail
     go_loopw [81] (fun i wq => V2 x l L N wd w5 w7 i wq) (fun i _ => nL - (intOf i).toNat)
     case atStart => exact hst2H.out
     case round =>
      clear hst2H
      obtain ⟨k, hk, rfl, hfk, hbk, hgk, hwk⟩ := hrel
      have hLl := hLlH.out
      by_cases hlt3 : k < nL
      ·obtain ⟨t, ht⟩ : ∃ t, L[k]? = some t := ⟨L[k]'(by omega), List.getElem?_eq_getElem _⟩
       have hLk := hLbH.out wr hgk
       obtain ⟨bt, ot, hAL, _⟩ := hLk.2.1 (by omega)
       rw [hAL] at hLk
       rw [hAL]
       have d0 := cell_IntW hLk ht
       obtain ⟨hxk, hlk, hDk, ⟨c0, c1, c2, c3, c4⟩, hwrk⟩ := hPH.out wr hbk
       have hfree := rfree_any x A j cap l t wr hxk hlk (by omega) hMH.out
       unfold farmV at hfree
       rw [hNeH.out] at hfree
       have htk : L.take (k + 1) = L.take k ++ [t] := by rw [List.take_add_one, ht]; rfl
       obtain ⟨q0, hq0⟩ : ∃ q0 : Nat → Bool, (fun i => (L.take k).any fun s => waitB x l (woOf x i) s) = q0 := ⟨_, rfl⟩
       rw [hq0] at hfk
       clear hxk hlk hDk
       have hfreeH := Lib.hid hfree
       clear hfree
       have htH := Lib.hid ht
       clear ht
       have hfkH := Lib.hid hfk
       clear hfk
       have hbkH := Lib.hid hbk
       clear hbk
       have hgkH := Lib.hid hgk
       clear hgk
       have hLkH := Lib.hid hLk
       clear hLk
       have htkH := Lib.hid htk
       clear htk
       have hq0H := Lib.hid hq0
       clear hq0
       have hALH := Lib.hid hAL
       clear hAL
       have hwrkH := Lib.hid hwrk
       clear hwrk
       go_wp2_with fail
       clear d0 c0 c1 c2 c3 c4
       refine hfreeH.out.mono ?_
       rintro e w8 ⟨AF, nF, cF, rfl, hFo, hnF, hb8⟩
       have hFl := hFo.len
       have hb58 := hbkH.out.trans (hb8.mono hbkH.out.size)
       obtain ⟨_, _, _, ⟨_, c1, _⟩, _⟩ := hPH.out w8 hb58
       have hst3 : V3 x l q0 t N wd w5 w7 w8 (.int .i64 0) w8 := ⟨0, Nat.zero_le _, rfl, fun i hi => by
        have := (brow_bel hfkH.out hb8) i hi
        dsimp only
        rw [decide_eq_false (by omega : ¬ i < 0), Bool.false_and, Bool.or_false]; exact this, hb58, grown_trans hgkH.out (grown_of_below hb8 _), World.grownBy.refl _ _, by have := hb8.size; omega⟩
       have hFb : ∀ W, Below w5.heap.size w5 W → w8.grownBy W (some wd) → SlAt RWorker W AF nF (x.workers.l.filter (frB l t)) := fun W hW hg => (Own.kept hFo hg (by
        cases hv : (Value.slice AF nF cF).ownBlock with
        | none => exact .inl rfl
        | some b =>
         refine .inr fun e2 => ?_
         injection e2 with e2
         have := (hFo.1.lt b hv).1
         omega) (fun z hz _ => (hPH.out W hW).1.1.1.2.2 z (List.mem_filter.1 hz).1)).slAt
       have hFoH := Lib.hid hFo
       clear hFo
       have hb8H := Lib.hid hb8
       clear hb8
       have hFlH := Lib.hid hFl
       clear hFl
       have hst3H := Lib.hid hst3
       clear hst3
       have hFbH := Lib.hid hFb
       clear hFb
       have hb58H := Lib.hid hb58
       clear hb58
       go_wp2_with fail
       clear c1
       go_loopw [92] (fun i wq => V3 x l q0 t N wd w5 w7 w8 i wq) (fun i _ => N - (intOf i).toNat)
       case atStart => exact hst3H.out
       case round =>
        clear hst3H
        obtain ⟨ix, hix, rfl, hfi, hbi, hg7, hg8, hwi⟩ := hrel
        have hbis := hbi.size
        by_cases hlt4 : ix < N
        ·obtain ⟨hxi, hli, hDi, ⟨c0, c1, c2, c3, c4⟩, hwri⟩ := hPH.out wr hbi
         have hxsi := hxi.2.1.1
         obtain ⟨bx, ox, hA6, _⟩ := hxsi.2.1 (by have := hNeH.out; omega)
         rw [hA6] at hxsi ⊢
         obtain ⟨z, hz⟩ : ∃ z, x.works.l[ix]? = some z := ⟨x.works.l[ix]'(by have := hNH.out; have := hNeH.out; omega), List.getElem?_eq_getElem _⟩
         obtain ⟨e0, e1, e2, e3⟩ := cells_Work hxsi hz
         have hzw := woOf_get hz
         have hzok := hxsi.2.2 z (List.mem_of_getElem? hz)
         obtain ⟨A', n', c', hrow⟩ := hRsH.out ix hlt4
         rw [hzw] at hrow
         have hwB : waitB x l z t = (wtB x.tries l z t && (x.workers.l.filter (frB l t)).any fun y => fitF z.needs.l y.has.l) := by unfold waitB; rw [List.any_filter]
         have hcall : ∀ W b, Below w5.heap.size w5 W → wtB x.tries l z t = b → Calls Tryz.prog 68 #[.agg #[.slice x.workers.A x.workers.n x.workers.cap, .slice x.works.A N x.works.cap, .slice x.lost.A x.lost.n x.lost.cap, .int .i64 x.tries, .bool x.doubles], .agg #[.string z.id_, .slice z.needs.A z.needs.n z.needs.cap, .int .i64 z.size, .slice z.after.A z.after.n z.after.cap], .slice A' n' c', .slice (some ⟨B, 0, none⟩) N N, .int .i64 t] W (YnAns b W) := fun W b hW hb' => by
          obtain ⟨p1, p2, p3, _, p5⟩ := hPH.out W hW
          obtain ⟨_, q2, q3⟩ := hrow W p5
          have h := rwaits_any x z ix A' n' c' l _ B t W p1 hz q2 q3 hokH.out rfl (fun r hr => by have := htoH.out r hr; omega) (by rw [hNeH.out]; exact p3) b hb'
          unfold farmV at h
          rw [hNeH.out] at h
          exact h
         have hnxt : ∀ W, BRow W wd N (fun i => q0 i || (decide (i < ix + 1) && waitB x l (woOf x i) t)) → Below w5.heap.size w5 W → wr.grownBy W (some wd) → V3 x l q0 t N wd w5 w7 w8 (.int .i64 ((ix : Int) + 1)) W := fun W h1 h2 h3 => ⟨ix + 1, hlt4, by go_num, h1, h2, grown_trans hg7 h3, grown_trans hg8 h3, Nat.lt_of_lt_of_le hwi h3.size⟩
         have hg0 := hfi ix hlt4
         obtain ⟨g0, g1⟩ := hg0
         (try dsimp only at g0)
         rw [decide_eq_false (by omega : ¬ ix < ix), Bool.false_and, Bool.or_false] at g0
         obtain ⟨wt, hwt⟩ : ∃ v, wtB x.tries l z t = v := ⟨_, rfl⟩
         have hrw := (hrow wr hwri).1
         have hstay : waitB x l z t = false ∨ q0 ix = true → BRow wr wd N (fun i => q0 i || (decide (i < ix + 1) && waitB x l (woOf x i) t)) := fun h => brow_congr hfi fun i hi => by
          by_cases e : i = ix
          ·subst e
           rw [decide_eq_false (by omega : ¬ i < i), decide_eq_true (by omega : i < i + 1), hzw, Bool.false_and, Bool.true_and, Bool.or_false]
           rcases h with h | h
           ·rw [h, Bool.or_false]
           ·rw [h, Bool.true_or]
          ·have : decide (i < ix) = decide (i < ix + 1) := by rw [decide_eq_decide]; omega
           rw [this]
         obtain ⟨qv, hqv⟩ : ∃ v, q0 ix = v := ⟨_, rfl⟩
         rw [hqv] at g0 hstay
         rw [hA6] at c1
         obtain ⟨zid, znd, zsz, zaf⟩ := z
         simp only at e0 e1 e2 e3 hcall
         obtain ⟨W9, hW9⟩ : ∃ Y, wr.alloc (.cells #[.string zid, .slice znd.A znd.n znd.cap, .int .i64 zsz, .slice zaf.A zaf.n zaf.cap] 86) = Y := ⟨_, rfl⟩
         obtain ⟨zb, hzb⟩ : ∃ b, wr.heap.size = b := ⟨_, rfl⟩
         have hbr9 : Below wr.heap.size wr W9 := by rw [← hW9]; exact (Below.refl _ _).alloc (Nat.le_refl _) _
         have hB9 : Blk W9 zb [.string zid, .slice znd.A znd.n znd.cap, .int .i64 zsz, .slice zaf.A zaf.n zaf.cap] := by rw [← hW9, ← hzb]; exact blk_new wr [.string zid, .slice znd.A znd.n znd.cap, .int .i64 zsz, .slice zaf.A zaf.n zaf.cap] 86
         have hb59 := hbi.trans (hbr9.mono hbis)
         have hzb9 : wd < zb := by rw [← hzb]; exact hwi
         have f0 := keepC hbr9 g0
         rw [← hA6] at c1
         have hS0 : (fun W : World => Below W9.heap.size W9 W ∧ W.cell? ⟨wd, ix, none⟩ = some (.bool qv) ∧ W.cell? ⟨rb, ix, none⟩ = some (.slice A' n' c') ∧ (W.cell? ⟨xb, 0, none⟩ = some (.slice x.workers.A x.workers.n x.workers.cap) ∧ W.cell? ⟨xb, 1, none⟩ = some (.slice x.works.A N x.works.cap) ∧ W.cell? ⟨xb, 2, none⟩ = some (.slice x.lost.A x.lost.n x.lost.cap) ∧ W.cell? ⟨xb, 3, none⟩ = some (.int .i64 x.tries) ∧ W.cell? ⟨xb, 4, none⟩ = some (.bool x.doubles)) ∧ W.cell? ⟨zb, 0, none⟩ = some (.string zid) ∧ W.cell? ⟨zb, 1, none⟩ = some (.slice znd.A znd.n znd.cap) ∧ W.cell? ⟨zb, 2, none⟩ = some (.int .i64 zsz) ∧ W.cell? ⟨zb, 3, none⟩ = some (.slice zaf.A zaf.n zaf.cap)) W9 :=
          ⟨Below.refl _ _, f0, keepC hbr9 hrw, ⟨keepC hbr9 c0, keepC hbr9 c1, keepC hbr9 c2, keepC hbr9 c3, keepC hbr9 c4⟩, (hB9 0 _ rfl).1, (hB9 1 _ rfl).1, (hB9 2 _ rfl).1, (hB9 3 _ rfl).1⟩
         have hkS : ∀ W W' : World, Below W.heap.size W W' → (Below W9.heap.size W9 W ∧ W.cell? ⟨wd, ix, none⟩ = some (.bool qv) ∧ W.cell? ⟨rb, ix, none⟩ = some (.slice A' n' c') ∧ (W.cell? ⟨xb, 0, none⟩ = some (.slice x.workers.A x.workers.n x.workers.cap) ∧ W.cell? ⟨xb, 1, none⟩ = some (.slice x.works.A N x.works.cap) ∧ W.cell? ⟨xb, 2, none⟩ = some (.slice x.lost.A x.lost.n x.lost.cap) ∧ W.cell? ⟨xb, 3, none⟩ = some (.int .i64 x.tries) ∧ W.cell? ⟨xb, 4, none⟩ = some (.bool x.doubles)) ∧ W.cell? ⟨zb, 0, none⟩ = some (.string zid) ∧ W.cell? ⟨zb, 1, none⟩ = some (.slice znd.A znd.n znd.cap) ∧ W.cell? ⟨zb, 2, none⟩ = some (.int .i64 zsz) ∧ W.cell? ⟨zb, 3, none⟩ = some (.slice zaf.A zaf.n zaf.cap)) → (Below W9.heap.size W9 W' ∧ W'.cell? ⟨wd, ix, none⟩ = some (.bool qv) ∧ W'.cell? ⟨rb, ix, none⟩ = some (.slice A' n' c') ∧ (W'.cell? ⟨xb, 0, none⟩ = some (.slice x.workers.A x.workers.n x.workers.cap) ∧ W'.cell? ⟨xb, 1, none⟩ = some (.slice x.works.A N x.works.cap) ∧ W'.cell? ⟨xb, 2, none⟩ = some (.slice x.lost.A x.lost.n x.lost.cap) ∧ W'.cell? ⟨xb, 3, none⟩ = some (.int .i64 x.tries) ∧ W'.cell? ⟨xb, 4, none⟩ = some (.bool x.doubles)) ∧ W'.cell? ⟨zb, 0, none⟩ = some (.string zid) ∧ W'.cell? ⟨zb, 1, none⟩ = some (.slice znd.A znd.n znd.cap) ∧ W'.cell? ⟨zb, 2, none⟩ = some (.int .i64 zsz) ∧ W'.cell? ⟨zb, 3, none⟩ = some (.slice zaf.A zaf.n zaf.cap)) := fun W W' hb h =>
          ⟨h.1.trans (hb.mono h.1.size), keepC hb h.2.1, keepC hb h.2.2.1, ⟨keepC hb h.2.2.2.1.1, keepC hb h.2.2.2.1.2.1, keepC hb h.2.2.2.1.2.2.1, keepC hb h.2.2.2.1.2.2.2.1, keepC hb h.2.2.2.1.2.2.2.2⟩, keepC hb h.2.2.2.2.1, keepC hb h.2.2.2.2.2.1, keepC hb h.2.2.2.2.2.2.1, keepC hb h.2.2.2.2.2.2.2⟩
         clear g0 g1 c0 c1 c2 c3 c4 hrw f0
         have hfiH := Lib.hid hfi
         clear hfi
         have hbiH := Lib.hid hbi
         clear hbi
         have hg7H := Lib.hid hg7
         clear hg7
         have hg8H := Lib.hid hg8
         clear hg8
         have hwiH := Lib.hid hwi
         clear hwi
         have hxiH := Lib.hid hxi
         clear hxi
         have hliH := Lib.hid hli
         clear hli
         have hDiH := Lib.hid hDi
         clear hDi
         have hwriH := Lib.hid hwri
         clear hwri
         have hxsiH := Lib.hid hxsi
         clear hxsi
         have hA6H := Lib.hid hA6
         clear hA6
         have hzH := Lib.hid hz
         clear hz
         have hzwH := Lib.hid hzw
         clear hzw
         have hzokH := Lib.hid hzok
         clear hzok
         have hrowH := Lib.hid hrow
         clear hrow
         have hwBH := Lib.hid hwB
         clear hwB
         have hcallH := Lib.hid hcall
         clear hcall
         have hnxtH := Lib.hid hnxt
         clear hnxt
         have hwtH := Lib.hid hwt
         clear hwt
         have hstayH := Lib.hid hstay
         clear hstay
         have hqvH := Lib.hid hqv
         clear hqv
         have hW9H := Lib.hid hW9
         clear hW9
         have hzbH := Lib.hid hzb
         clear hzb
         have hbr9H := Lib.hid hbr9
         clear hbr9
         have hB9H := Lib.hid hB9
         clear hB9
         have hb59H := Lib.hid hb59
         clear hb59
         have hzb9H := Lib.hid hzb9
         clear hzb9
         have hS0H := Lib.hid hS0
         clear hS0
         have hkSH := Lib.hid hkS
         clear hkS
         go_wp2_with fail
         simp only [hW9H.out, hzbH.out]
         clear e0 e1 e2 e3
         cases qv
         ·refine wp_region_held_drew (S := fun W : World => Below W9.heap.size W9 W ∧ W.cell? ⟨wd, ix, none⟩ = some (.bool false) ∧ W.cell? ⟨rb, ix, none⟩ = some (.slice A' n' c') ∧ (W.cell? ⟨xb, 0, none⟩ = some (.slice x.workers.A x.workers.n x.workers.cap) ∧ W.cell? ⟨xb, 1, none⟩ = some (.slice x.works.A N x.works.cap) ∧ W.cell? ⟨xb, 2, none⟩ = some (.slice x.lost.A x.lost.n x.lost.cap) ∧ W.cell? ⟨xb, 3, none⟩ = some (.int .i64 x.tries) ∧ W.cell? ⟨xb, 4, none⟩ = some (.bool x.doubles)) ∧ W.cell? ⟨zb, 0, none⟩ = some (.string zid) ∧ W.cell? ⟨zb, 1, none⟩ = some (.slice znd.A znd.n znd.cap) ∧ W.cell? ⟨zb, 2, none⟩ = some (.int .i64 zsz) ∧ W.cell? ⟨zb, 3, none⟩ = some (.slice zaf.A zaf.n zaf.cap)) (by kernel_rfl) (hkSH.out _ _ (Below.refl _ _).drew hS0H.out) (fun hHeld => ?_)
          refine tkH (i := 0) (d := some 97) (v := ?_) (hy := Or.inl ⟨by rfl, ?_⟩) (h := ?_)
          rotate_left
          ·(intro w hSw; (try dsimp only at hSw); go_simp; (try with_reducible rfl))
          (try simp only [Act.put, tkA, tkB, tkC])
          refine tkH (i := 1) (d := some 98) (v := ?_) (hy := Or.inl ⟨by rfl, ?_⟩) (h := ?_)
          rotate_left
          ·(intro w hSw; (try dsimp only at hSw); go_simp; (try with_reducible rfl))
          (try simp only [Act.put, tkA, tkB, tkC])
          refine tkH (i := 2) (d := some 99) (v := ?_) (hy := Or.inl ⟨by rfl, ?_⟩) (h := ?_)
          rotate_left
          ·(intro w hSw; (try dsimp only at hSw); go_simp; (try with_reducible rfl))
          (try simp only [Act.put, tkA, tkB, tkC])
          refine tkH (i := 3) (d := some 100) (v := ?_) (hy := Or.inl ⟨by rfl, ?_⟩) (h := ?_)
          rotate_left
          ·(intro w hSw; (try dsimp only at hSw); go_simp; (try with_reducible rfl))
          (try simp only [Act.put, tkA, tkB, tkC])
          refine tkH (i := 4) (d := some 101) (v := ?_) (hy := Or.inl ⟨by rfl, ?_⟩) (h := ?_)
          rotate_left
          ·(intro w hSw; (try dsimp only at hSw); go_simp; (try with_reducible rfl))
          (try simp only [Act.put, tkA, tkB, tkC])
          refine tkH (i := 5) (d := some 102) (v := ?_) (hy := Or.inl ⟨by rfl, ?_⟩) (h := ?_)
          rotate_left
          ·(intro w hSw; (try dsimp only at hSw); go_simp; (try with_reducible rfl))
          (try simp only [Act.put, tkA, tkB, tkC])
          refine tkH (i := 6) (d := some 103) (v := ?_) (hy := Or.inl ⟨by rfl, ?_⟩) (h := ?_)
          rotate_left
          ·(intro w hSw; (try dsimp only at hSw); go_simp; (try with_reducible rfl))
          (try simp only [Act.put, tkA, tkB, tkC])
          refine tkH (i := 7) (d := some 104) (v := ?_) (hy := Or.inl ⟨by rfl, ?_⟩) (h := ?_)
          rotate_left
          ·(intro w hSw; (try dsimp only at hSw); go_simp; (try with_reducible rfl))
          (try simp only [Act.put, tkA, tkB, tkC])
          refine tkH (i := 8) (d := some 105) (v := ?_) (hy := Or.inl ⟨by rfl, ?_⟩) (h := ?_)
          rotate_left
          ·(intro w hSw; (try dsimp only at hSw); go_simp; (try with_reducible rfl))
          (try simp only [Act.put, tkA, tkB, tkC])
          refine tkH (i := 9) (d := some 106) (v := ?_) (hy := Or.inl ⟨by rfl, ?_⟩) (h := ?_)
          rotate_left
          ·(intro w hSw; (try dsimp only at hSw); go_simp; (try with_reducible rfl))
          (try simp only [Act.put, tkA, tkB, tkC])
          refine tkH (i := 10) (d := some 107) (v := ?_) (hy := Or.inl ⟨by rfl, ?_⟩) (h := ?_)
          rotate_left
          ·(intro w hSw; (try dsimp only at hSw); go_simp; (try with_reducible rfl))
          (try simp only [Act.put, tkA, tkB, tkC])
          refine tkH (i := 11) (d := some 108) (v := ?_) (hy := Or.inl ⟨by rfl, ?_⟩) (h := ?_)
          rotate_left
          ·(intro w hSw; (try dsimp only at hSw); go_simp; (try with_reducible rfl))
          (try simp only [Act.put, tkA, tkB, tkC])
          refine tkH (i := 12) (d := some 109) (v := ?_) (hy := Or.inl ⟨by rfl, ?_⟩) (h := ?_)
          rotate_left
          ·(intro w hSw; (try dsimp only at hSw); go_simp; (try with_reducible rfl))
          (try simp only [Act.put, tkA, tkB, tkC])
          refine wpAnyH_ready (rs := [13]) (by kernel_rfl) (by simp) ?_
          refine AllReadyH.cons (i := 13) rfl (fun K hK => ?_) AllReadyH.nil
          go_simp
          go_at_call 68
          refine (hcallH.out _ wt (hb59H.out.trans (hHeld.1.mono hb59H.out.size)) hwtH.out).mono ?_
          rintro e w6 ⟨rfl, hb6⟩
          have hS6 := hkSH.out _ _ hb6 hHeld
          clear hb6
          refine hK.out _ _ hS6 (fun hHeld => ?_)
          clear hK K
          (try simp only [Act.put, List.setIfInBounds_toArray, List.set_cons_zero, List.set_cons_succ])
          refine tkH (i := 14) (d := some 111) (v := ?_) (hy := Or.inl ⟨by rfl, ?_⟩) (h := ?_)
          rotate_left
          ·(intro w hSw; (try dsimp only at hSw); go_simp; (try with_reducible rfl))
          (try simp only [Act.put, tkA, tkB, tkC])
          refine tkH (i := 15) (d := some 112) (v := ?_) (hy := Or.inl ⟨by rfl, ?_⟩) (h := ?_)
          rotate_left
          ·(intro w hSw; (try dsimp only at hSw); go_simp; (try with_reducible rfl))
          (try simp only [Act.put, tkA, tkB, tkC])
          refine wpAnyH_done (by kernel_rfl) ?_ _
          obtain ⟨hb96, f0, f1, _, z0, z1, z2, z3⟩ := hHeld
          have hbr6 := hbr9H.out.trans (hb96.mono hbr9H.out.size)
          have hb56 := hb59H.out.trans (hb96.mono hb59H.out.size)
          cases wt
          ·have hwf : waitB x l ⟨zid, znd, zsz, zaf⟩ t = false := by rw [hwBH.out, hwtH.out]; rfl
           have R : V3 x l q0 t N wd w5 w7 w8 (.int .i64 ((ix : Int) + 1)) w6 := hnxtH.out _ (brow_bel (hstayH.out (.inl hwf)) hbr6) hb56 (grown_of_below hbr6 _)
           clear f0 f1 z0 z1 z2 z3 hwf
           have RH := Lib.hid R
           clear R
           have hb96H := Lib.hid hb96
           clear hb96
           have hbr6H := Lib.hid hbr6
           clear hbr6
           have hb56H := Lib.hid hb56
           clear hb56
           go_wp2
           refine ⟨?rel, ?measure⟩
           case measure => (simp [intOf]; omega)
           case rel => first | exact RH.out | exact ⟨rfl, RH.out⟩ | ((try refine ⟨rfl, ?_⟩); (repeat apply Exists.intro); refine ⟨RH.out, ?_⟩; ((repeat' apply And.intro) <;> rfl))
          ·have hwf : waitB x l ⟨zid, znd, zsz, zaf⟩ t = (x.workers.l.filter (frB l t)).any (fun y => fitF znd.l y.has.l) := by rw [hwBH.out, hwtH.out]; rfl
           obtain ⟨F, hFe⟩ : ∃ F, x.workers.l.filter (frB l t) = F := ⟨_, rfl⟩
           have hFl4 : F.length = nF := by rw [← hFe]; exact hFlH.out
           have hFs : ∀ W, w6.grownBy W (some wd) → Below w5.heap.size w5 W → SlAt RWorker W AF nF F := fun W hg hW => by
            rw [← hFe]
            exact hFbH.out W hW (grown_trans hg8H.out (grown_trans (grown_of_below hbr6 _) hg))
           have hZ4 : ∀ W, w6.grownBy W (some wd) → W.cell? ⟨zb, 0, none⟩ = some (.string zid) ∧ W.cell? ⟨zb, 1, none⟩ = some (.slice znd.A znd.n znd.cap) ∧ W.cell? ⟨zb, 2, none⟩ = some (.int .i64 zsz) ∧ W.cell? ⟨zb, 3, none⟩ = some (.slice zaf.A zaf.n zaf.cap) := fun W hg => by
            have hne : some zb ≠ some wd := fun e => by injection e with e; have := hzb9H.out; omega
            exact ⟨hg.cell z0 hne, hg.cell z1 hne, hg.cell z2 hne, hg.cell z3 hne⟩
           rw [hFe] at hwf
           have hst4 : V4 znd.l F (fun i => q0 i || (decide (i < ix) && waitB x l (woOf x i) t)) ix N wd w5 w6 (.int .i64 0) w6 := ⟨0, Nat.zero_le _, rfl, brow_congr (brow_bel hfiH.out hbr6) (fun i hi => by
            by_cases e : i = ix
            ·subst e
             rw [if_pos rfl, List.take_zero, hqvH.out, decide_eq_false (by omega : ¬ i < i)]; rfl
            ·rw [if_neg e]), hb56, World.grownBy.refl _ _, by have := hbr6.size; have := hwiH.out; omega⟩
           clear f0 f1 z0 z1 z2 z3 hFe
           have hwfH := Lib.hid hwf
           clear hwf
           have hFsH := Lib.hid hFs
           clear hFs
           have hZ4H := Lib.hid hZ4
           clear hZ4
           have hst4H := Lib.hid hst4
           clear hst4
           have hb96H := Lib.hid hb96
           clear hb96
           have hbr6H := Lib.hid hbr6
           clear hbr6
           have hb56H := Lib.hid hb56
           clear hb56
           have hFl4H := Lib.hid hFl4
           clear hFl4
           go_wp2_with fail
           go_loopw [115] (fun i wq => V4 znd.l F (fun i => q0 i || (decide (i < ix) && waitB x l (woOf x i) t)) ix N wd w5 w6 i wq) (fun i _ => nF - (intOf i).toNat)
           case atStart => exact hst4H.out
           case round =>
            clear hst4H
            obtain ⟨j2, hj2, rfl, hf4, hb4, hg4, hw4⟩ := hrel
            have hb4s := hb4.size
            have hFl5 := hFl4H.out
            by_cases hlt5 : j2 < nF
            ·have hsF := hFsH.out wr hg4 hb4
             obtain ⟨bF, oF, hAF, _⟩ := hsF.2.1 (by omega)
             rw [hAF] at hsF ⊢
             obtain ⟨y, hy⟩ : ∃ y, F[j2]? = some y := ⟨F[j2]'(by omega), List.getElem?_eq_getElem _⟩
             obtain ⟨e0, e1, e2, e3, e4, e5, e6⟩ := cells_Worker hsF hy
             have hyok := hsF.2.2 y (List.mem_of_getElem? hy)
             have htk2 : (F.take (j2 + 1)).any (fun y => fitF znd.l y.has.l) = ((F.take j2).any (fun y => fitF znd.l y.has.l) || fitF znd.l y.has.l) := by rw [List.take_add_one, hy, Option.toList_some, List.any_append]; simp
             obtain ⟨bv, hbv⟩ : ∃ v, fitF znd.l y.has.l = v := ⟨_, rfl⟩
             obtain ⟨av, hav⟩ : ∃ v, (F.take j2).any (fun y => fitF znd.l y.has.l) = v := ⟨_, rfl⟩
             rw [hav, hbv] at htk2
             obtain ⟨ynm, yh, ysl, ysp, yfr, yto, yst⟩ := y
             simp only at e0 e1 e2 e3 e4 e5 e6 hbv
             obtain ⟨W10, hW10⟩ : ∃ Y, wr.alloc (.cells #[.string ynm, .slice yh.A yh.n yh.cap, .int .i64 ysl, .int .i64 ysp, .int .i64 yfr, .int .i64 yto, .slice yst.A yst.n yst.cap] 84) = Y := ⟨_, rfl⟩
             obtain ⟨yb, hyb⟩ : ∃ b, wr.heap.size = b := ⟨_, rfl⟩
             have hbr10 : Below wr.heap.size wr W10 := by rw [← hW10]; exact (Below.refl _ _).alloc (Nat.le_refl _) _
             have hB10 : Blk W10 yb [.string ynm, .slice yh.A yh.n yh.cap, .int .i64 ysl, .int .i64 ysp, .int .i64 yfr, .int .i64 yto, .slice yst.A yst.n yst.cap] := by rw [← hW10, ← hyb]; exact blk_new wr [.string ynm, .slice yh.A yh.n yh.cap, .int .i64 ysl, .int .i64 ysp, .int .i64 yfr, .int .i64 yto, .slice yst.A yst.n yst.cap] 84
             have hb10 := hb4.trans (hbr10.mono hb4s)
             have hf10 := brow_bel hf4 hbr10
             obtain ⟨z0, z1, z2, z3⟩ := hZ4H.out W10 (grown_trans hg4 (grown_of_below hbr10 _))
             obtain ⟨g0, g1⟩ := hf10 ix hlt4
             (try dsimp only at g0)
             rw [if_pos rfl, hav] at g0
             have hput : ∀ W v, Below W10.heap.size W10 W → (av || bv) = v → V4 znd.l F (fun i => q0 i || (decide (i < ix) && waitB x l (woOf x i) t)) ix N wd w5 w6 (.int .i64 ((j2 : Int) + 1)) (W.setCell ⟨wd, ix, none⟩ (.bool v)) := fun W v hW hv => by
              have hbW := hbr10.trans (hW.mono hbr10.size)
              refine ⟨j2 + 1, by omega, by go_num, brow_congr ((brow_bel hf10 hW).set v) (fun i hi => ?_), (hb10.trans (hW.mono hb10.size)).setCell (p := ⟨wd, ix, none⟩) hwd5H.out _, grown_trans hg4 (grown_trans (grown_of_below hbW _) (grown_setc W ⟨wd, ix, none⟩ _)), ?_⟩
              ·by_cases e : i = ix
               ·rw [if_pos e, if_pos e, htk2, hv]
               ·rw [if_neg e, if_neg e, if_neg e]
              ·have := hbW.size
               have := hw4
               simp
               omega
             have hyok10 := RWorker.mono _ _ _ hbr10 hyok
             have hzok10 : RWork.ok W10 ⟨zid, znd, zsz, zaf⟩ := (hPH.out W10 hb10).1.2.1.1.2.2 _ (List.mem_of_getElem? hzH.out)
             clear hav htk2 hf10
             subst hW10 hyb
             have hf4H := Lib.hid hf4
             clear hf4
             have hb4H := Lib.hid hb4
             clear hb4
             have hg4H := Lib.hid hg4
             clear hg4
             have hw4H := Lib.hid hw4
             clear hw4
             have hsFH := Lib.hid hsF
             clear hsF
             have hyH := Lib.hid hy
             clear hy
             have hyokH := Lib.hid hyok
             clear hyok
             have hbvH := Lib.hid hbv
             clear hbv
             have hbr10H := Lib.hid hbr10
             clear hbr10
             have hB10H := Lib.hid hB10
             clear hB10
             have hb10H := Lib.hid hb10
             clear hb10
             have hputH := Lib.hid hput
             clear hput
             have hyok10H := Lib.hid hyok10
             clear hyok10
             have hzok10H := Lib.hid hzok10
             clear hzok10
             have hAFH := Lib.hid hAF
             clear hAF
             cases av
             ·have hfit := rfits_any ⟨ynm, yh, ysl, ysp, yfr, yto, yst⟩ ⟨zid, znd, zsz, zaf⟩ _ hyok10H.out hzok10H.out bv hbvH.out
              have hfitH := Lib.hid hfit
              clear hfit
              go_wp2_with fail
              refine hfitH.out.mono ?_
              rintro e w11 ⟨rfl, hb11⟩
              have R := hputH.out w11 bv hb11 (by rfl)
              have f0 := keepC hb11 g0
              have f1 := keepF hb11 (cell?_lt g0) g1
              clear g0 g1 z0 z1 z2 z3 e0 e1 e2 e3 e4 e5 e6
              have RH := Lib.hid R
              clear R
              have hb11H := Lib.hid hb11
              clear hb11
              go_wp2
              refine ⟨?rel, ?measure⟩
              case measure => (simp [intOf]; omega)
              case rel => first | exact RH.out | exact ⟨rfl, RH.out⟩ | ((try refine ⟨rfl, ?_⟩); (repeat apply Exists.intro); refine ⟨RH.out, ?_⟩; ((repeat' apply And.intro) <;> rfl))
             ·have R := hputH.out _ true (Below.refl _ _) (by rfl)
              clear z0 z1 z2 z3
              have RH := Lib.hid R
              clear R
              go_wp2
              refine ⟨?rel, ?measure⟩
              case measure => (simp [intOf]; omega)
              case rel => first | exact RH.out | exact ⟨rfl, RH.out⟩ | ((try refine ⟨rfl, ?_⟩); (repeat apply Exists.intro); refine ⟨RH.out, ?_⟩; ((repeat' apply And.intro) <;> rfl))
            ·obtain rfl : j2 = nF := by omega
             have e : F.take j2 = F := List.take_of_length_le (by omega)
             rw [e] at hf4
             have R : V3 x l q0 t N wd w5 w7 w8 (.int .i64 ((ix : Int) + 1)) wr := hnxtH.out _ (brow_congr hf4 (fun i hi => by
              by_cases e : i = ix
              ·subst e
               rw [if_pos rfl, hqvH.out, decide_eq_true (by omega : i < i + 1), hzwH.out, hwfH.out]; simp
              ·rw [if_neg e]
               have : decide (i < ix) = decide (i < ix + 1) := by rw [decide_eq_decide]; omega
               show (q0 i || (decide (i < ix) && waitB x l (woOf x i) t)) = _
               rw [this])) hb4 (grown_trans (grown_of_below hbr6H.out _) hg4)
             clear e hf4
             have RH := Lib.hid R
             clear R
             have hb4H := Lib.hid hb4
             clear hb4
             have hg4H := Lib.hid hg4
             clear hg4
             have hw4H := Lib.hid hw4
             clear hw4
             go_wp2
             refine ⟨?rel, ?measure⟩
             case measure => (simp [intOf]; omega)
             case rel => first | exact RH.out | exact ⟨rfl, RH.out⟩ | ((try refine ⟨rfl, ?_⟩); (repeat apply Exists.intro); refine ⟨RH.out, ?_⟩; ((repeat' apply And.intro) <;> rfl))
         ·obtain ⟨_, f0, _⟩ := hS0H.out
          have R : ∀ nq, V3 x l q0 t N wd w5 w7 w8 (.int .i64 ((ix : Int) + 1)) (W9.drewN nq) := fun nq => by
           have hb' := hbr9H.out.trans ((bel_drewN (Below.refl _ _) nq).mono hbr9H.out.size)
           exact hnxtH.out _ (brow_bel (hstayH.out (.inr rfl)) hb') (hbiH.out.trans (hb'.mono hbiH.out.size)) (grown_of_below hb' _)
          have RH := Lib.hid R
          clear R
          go_quiet (fail)
          go_wp2
          refine ⟨?rel, ?measure⟩
          case measure => (simp [intOf]; omega)
          case rel => first | exact (RH.out _) | exact ⟨rfl, (RH.out _)⟩ | ((try refine ⟨rfl, ?_⟩); (repeat apply Exists.intro); refine ⟨(RH.out _), ?_⟩; ((repeat' apply And.intro) <;> rfl))
        ·obtain rfl : ix = N := by omega
         have R : V2 x l L ix wd w5 w7 (.int .i64 ((k : Int) + 1)) wr := ⟨k + 1, by omega, by go_num, brow_congr hfi (fun i hi => by
          rw [decide_eq_true hi, Bool.true_and, ← hq0H.out, htkH.out, List.any_append]; simp), hbi, hg7, hwi⟩
         clear hfi
         have RH := Lib.hid R
         clear R
         have hbiH := Lib.hid hbi
         clear hbi
         have hg7H := Lib.hid hg7
         clear hg7
         have hg8H := Lib.hid hg8
         clear hg8
         have hwiH := Lib.hid hwi
         clear hwi
         go_wp2
         refine ⟨?rel, ?measure⟩
         case measure => (simp [intOf]; omega)
         case rel => first | exact RH.out | exact ⟨rfl, RH.out⟩ | ((try refine ⟨rfl, ?_⟩); (repeat apply Exists.intro); refine ⟨RH.out, ?_⟩; ((repeat' apply And.intro) <;> rfl))
      ·obtain rfl : k = nL := by omega
       have e : L.take k = L := List.take_of_length_le (by omega)
       rw [e] at hfk
       have hwf := waited_list (x := x) l (momR x l) L (hLmH.out)
       clear e
       obtain ⟨q, hq⟩ : ∃ q : Nat → Bool, (fun i => L.any fun t => waitB x l (woOf x i) t) = q := ⟨_, rfl⟩
       rw [hq] at hfk hwf
       have hNl2 : x.works.l.length = N := by rw [← hNeH.out]; exact hNH.out.symm
       rw [hNl2] at hwf
       obtain ⟨_, _, _, ⟨_, c1, _⟩, _⟩ := hPH.out wr hbk
       have hst3 : L3 x q N wd _ w5 (.slice none 0 0) (.int .i64 0) _ := ⟨0, none, 0, 0, Nat.zero_le _, rfl, rfl, Nat.le_refl _, Own.nil _ _, hbk, hwk, Nat.le_refl _, hfk⟩
       have hbkh := hbk.size
       clear hq
       have hfkH := Lib.hid hfk
       clear hfk
       have hbkH := Lib.hid hbk
       clear hbk
       have hgkH := Lib.hid hgk
       clear hgk
       have hwkH := Lib.hid hwk
       clear hwk
       have hwfH := Lib.hid hwf
       clear hwf
       have hNl2H := Lib.hid hNl2
       clear hNl2
       have hst3H := Lib.hid hst3
       clear hst3
       go_wp2_with fail
       clear c1
       go_loopw [21, 137] (fun v i wv => L3 x q N wd _ w5 v i wv) (fun _ i _ => N - (intOf i).toNat)
       case atStart => exact hst3H.out
       case round =>
        clear hst3H
        obtain ⟨k3, A3, n3, c3, hk3, rfl, rfl, hn3, hown, hb3, hbw, hbl, hrow⟩ := hrel
        have hb3s := hb3.size
        have hnl := hown.len
        by_cases hlt4 : k3 < N
        ·obtain ⟨hxi, _, _, ⟨_, c1, _⟩, _⟩ := hPH.out wr hb3
         have hxs9 := hxi.2.1.1
         obtain ⟨bx, ox, hA6, _⟩ := hxs9.2.1 (by have := hNeH.out; omega)
         rw [hA6] at c1 hxs9 ⊢
         obtain ⟨y, hy⟩ : ∃ y, x.works.l[k3]? = some y := ⟨x.works.l[k3]'(by have := hNl2H.out; omega), List.getElem?_eq_getElem _⟩
         obtain ⟨e0, e1, e2, e3⟩ := cells_Work hxs9 hy
         have hokY := (hxs9.2.2 y (List.mem_of_getElem? hy)).1
         obtain ⟨bv, hbv⟩ : ∃ b, q k3 = b := ⟨_, rfl⟩
         have hrs : ((List.range (k3 + 1)).filter q).map (fun i => (woOf x i).id_) = ((List.range k3).filter q).map (fun i => (woOf x i).id_) ++ (if q k3 = true then [(woOf x k3).id_] else []) := by
          rw [List.range_succ, List.filter_append, List.map_append]
          congr 1
          by_cases h9 : q k3 = true
          ·rw [if_pos h9, List.filter_cons_of_pos h9]; rfl
          ·rw [if_neg h9, List.filter_cons_of_neg h9]; rfl
         rw [hbv, woOf_get hy] at hrs
         obtain ⟨yid, ynd, ysz, yaf⟩ := y
         simp only at e0 e1 e2 e3 hokY hrs
         obtain ⟨W5, hW5⟩ : ∃ Y, wr.alloc (.cells #[.string yid, .slice ynd.A ynd.n ynd.cap, .int .i64 ysz, .slice yaf.A yaf.n yaf.cap] 86) = Y := ⟨_, rfl⟩
         obtain ⟨yb, hyb⟩ : ∃ b, wr.heap.size = b := ⟨_, rfl⟩
         have hbr5 : Below wr.heap.size wr W5 := by rw [← hW5]; exact (Below.refl _ _).alloc (Nat.le_refl _) _
         have y0 : W5.cell? ⟨yb, 0, none⟩ = some (.string yid) := by rw [← hW5, ← hyb]; exact cell_new _ _ _ 0
         have hrow5 := brow_bel hrow hbr5
         have f0 := (hrow5 k3 hlt4).1
         (try dsimp only at f0)
         rw [hbv] at f0
         have hown5 := hown.below hbr5
         have hb5 := hb3.trans (hbr5.mono hb3s)
         have hbl5 := Nat.le_trans hbl hbr5.size
         clear hown c1
         cases bv
         ·rw [if_neg (by decide), List.append_nil] at hrs
          have R : L3 x q N wd _ w5 (.slice A3 n3 c3) (.int .i64 ((k3 : Int) + 1)) W5 := ⟨k3 + 1, A3, n3, c3, hlt4, by go_num, rfl, by omega, by rw [hrs]; exact hown5, hb5, hbw, hbl5, hrow5⟩
          clear hrs hown5 hbv
          subst hW5 hyb
          have RH := Lib.hid R
          clear R
          have hb3H := Lib.hid hb3
          clear hb3
          have hrowH := Lib.hid hrow
          clear hrow
          have hbr5H := Lib.hid hbr5
          clear hbr5
          have hrow5H := Lib.hid hrow5
          clear hrow5
          have hb5H := Lib.hid hb5
          clear hb5
          have hbl5H := Lib.hid hbl5
          clear hbl5
          have hyH := Lib.hid hy
          clear hy
          have hokYH := Lib.hid hokY
          clear hokY
          have hxiH := Lib.hid hxi
          clear hxi
          have hxs9H := Lib.hid hxs9
          clear hxs9
          have hA6H := Lib.hid hA6
          clear hA6
          go_wp2
          refine ⟨?rel, ?measure⟩
          case measure => (simp [intOf]; omega)
          case rel => first | exact RH.out | exact ⟨rfl, RH.out⟩ | ((try refine ⟨rfl, ?_⟩); (repeat apply Exists.intro); refine ⟨RH.out, ?_⟩; ((repeat' apply And.intro) <;> rfl))
         ·rw [if_pos rfl] at hrs
          have hnew := slAt_new (R := RStr) W5 9 yid hokY
          have hown7 := hown5.alloc (.cells #[.string yid] 9)
          have hb7 := hb5.alloc hb5.size (.cells #[.string yid] 9)
          obtain ⟨L9, hL9⟩ : ∃ q9, ((List.range k3).filter q).map (fun i => (woOf x i).id_) = q9 := ⟨_, rfl⟩
          rw [hL9] at hown7 hrs hnl
          have hbl7 : wd < W5.heap.size := by omega
          have hn3' : n3 ≤ 200 := by omega
          clear hown5 hL9 hbv
          have hW5s : W5.heap.size = wr.heap.size + 1 := by rw [← hW5]; simp
          rw [hW5s] at hnew hbl7
          subst hW5 hyb
          clear hW5s
          have hb3H := Lib.hid hb3
          clear hb3
          have hrowH := Lib.hid hrow
          clear hrow
          have hrsH := Lib.hid hrs
          clear hrs
          have hnewH := Lib.hid hnew
          clear hnew
          have hown7H := Lib.hid hown7
          clear hown7
          have hb7H := Lib.hid hb7
          clear hb7
          have hyH := Lib.hid hy
          clear hy
          have hokYH := Lib.hid hokY
          clear hokY
          have hnlH := Lib.hid hnl
          clear hnl
          have hbr5H := Lib.hid hbr5
          clear hbr5
          have hrow5H := Lib.hid hrow5
          clear hrow5
          have hb5H := Lib.hid hb5
          clear hb5
          have hbl5H := Lib.hid hbl5
          clear hbl5
          have hxiH := Lib.hid hxi
          clear hxi
          have hxs9H := Lib.hid hxs9
          clear hxs9
          have hA6H := Lib.hid hA6
          clear hA6
          go_wp2_with (at_builtin; go_loud (refine wpList_app rfl (.tmp 146) (.tmp 149) 43 rfl Tryz.underlying43 elem_StrR (by decide) rfl hown7H.out (some ⟨wr.heap.size + 1, 0, none⟩) 1 1 [yid] rfl hnewH.out ?nn ?ok ?c1 ?c2 ?c3 (n3 + 1) ?c4 ?_))
          case nn => intro h; cases h
          case ok => exact fun _ _ _ _ h => h
          case c1 => rw [hnlH.out]; simp [maxLen] <;> omega
          case c2 => rw [hnlH.out]; omega
          case c3 => have := hbl5H.out; simp at this ⊢; omega
          case c4 => rw [hnlH.out]
          intro A' c' w8 hown8 hg8 hat8 hb8
          have hlo8 : ∀ b, (Value.slice A3 n3 c3).ownBlock = some b → _ ≤ b := fun b hb' => (hown7H.out.1.lt b hb').1
          have hbb8 : Below w5.heap.size w5 w8 := hb7H.out.grown hg8 hb7H.out.size (fun b hb' => by have h1 := hlo8 b hb'; omega)
          have hrow8 : BRow w8 wd N q := (brow_bel hrow5H.out ((Below.refl _ _).alloc (Nat.le_refl _) (.cells #[.string yid] 9))).keep (fun _ => hg8.block wd (by simp; omega) (fun e => by have := hlo8 wd e.symm; omega))
          have R : L3 x q N wd _ w5 (.slice A' (n3 + 1) c') (.int .i64 ((k3 : Int) + 1)) w8 := ⟨k3 + 1, A', n3 + 1, c', hlt4, by go_num, rfl, by omega, by rw [hrsH.out]; exact hown8, hbb8, hbw, (by have h1 := hg8.size; have h2 := hbl5H.out; simp at h1 h2; omega), hrow8⟩
          clear hg8 hat8 hb8 hown8 hrow8 hbb8 hlo8
          have RH := Lib.hid R
          clear R
          go_wp2
          refine ⟨?rel, ?measure⟩
          case measure => (simp [intOf]; omega)
          case rel => first | exact RH.out | exact ⟨rfl, RH.out⟩ | ((try refine ⟨rfl, ?_⟩); (repeat apply Exists.intro); refine ⟨RH.out, ?_⟩; ((repeat' apply And.intro) <;> rfl))
        ·obtain rfl : k3 = N := by omega
         have hwf9 := hwfH.out
         rw [hwf9] at hown
         have R : Z (.returned (.tuple #[.slice A3 n3 c3, .int .i64 0])) wr := by
          rw [← hZH.out]
          exact .inr ⟨hc0H.out, A3, n3, c3, rfl, hown.slAt, by omega, hbZH.out wr hb3⟩
         clear hwf9 hown
         have RH := Lib.hid R
         clear R
         have hb3H := Lib.hid hb3
         clear hb3
         have hrowH := Lib.hid hrow
         clear hrow
         go_wp2
         exact RH.out
  ·rw [if_neg h2] at hc
   subst hc
   have R : Z (.returned (.tuple #[.slice none 0 0, .int .i64 f2])) w2 := by
    rw [← hZH.out]; exact .inl ⟨h2, rfl, hbb2⟩
   have h2' : (f2 != 0) = true := by simpa using h2
   clear h2
   have RH := Lib.hid R
   clear R
   have hb2H := Lib.hid hb2
   clear hb2
   have hx3H := Lib.hid hx3
   clear hx3
   have hl3H := Lib.hid hl3
   clear hl3
   have hbb2H := Lib.hid hbb2
   clear hbb2
   go_wp2
   exact RH.out
 ·rw [if_neg h1] at hc
  subst hc
  have R : Z (.returned (.tuple #[.slice none 0 0, .int .i64 f1])) w1 := by
   rw [← hZH.out]; exact .inl ⟨h1, rfl, hbb⟩
  have h1' : (f1 != 0) = true := by simpa using h1
  clear h1
  have RH := Lib.hid R
  clear R
  have hb1H := Lib.hid hb1
  clear hb1
  have hx2H := Lib.hid hx2
  clear hx2
  have hl2H := Lib.hid hl2
  clear hl2
  have hbbH := Lib.hid hbb
  clear hbb
  go_wp2
  exact RH.out
end Go.Proofs.YtbnkoefljcekbaaGreatDoor.C9
