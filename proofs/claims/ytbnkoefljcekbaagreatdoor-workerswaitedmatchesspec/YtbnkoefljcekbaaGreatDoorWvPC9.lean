/-
 Several texts of mine as one, without what is not wanted here: XWtW.
-/
import Derived.Test.YtbnkoefljcekbaaGreatDoorWvNC9
import Derived.Test.YtbnkoefljcekbaaGreatDoorWvOC9
import Derived.Test.YtbnkoefljcekbaaGreatDoorWvHC9
import Derived.Test.YtbnkoefljcekbaaGreatDoorWvKC9
namespace Go.Proofs.YtbnkoefljcekbaaGreatDoor.C9
open Go.ChangeShapes Go.WideShapes Go.Deep Go.RowKit Go.Maps
set_option linter.unusedVariables false
set_option linter.unusedSimpArgs false

def okIds (x : Farm) (l : List Run) : Bool := l.all fun r => hasId x.works.l r.id_ && hasNm x.workers.l r.worker
noncomputable def waitC (x : Farm) (l : List Run) : Int := if farmF x = 0 then (if runsF l = 0 then (if okIds x l = true then 0 else 5) else runsF l) else farmF x
theorem runsErr_facts : ∀ (l : List Run) (p : Option Run), runsErr p l = 0 → ∀ r ∈ l, 0 ≤ r.from_ ∧ r.from_ ≤ r.to_ ∧ r.to_ ≤ 1000000000 ∧ inR 1 3 r.end_ = true
 | [], _, _, r, hr => by cases hr
 | y :: l, p, h, r, hr => by
  unfold runsErr at h
  by_cases h1 : wordB y.id_ = true ∧ wordB y.worker = true
  ·rw [if_pos h1] at h
   by_cases h2 : inR 0 1000000000 y.from_ = true ∧ inR 0 1000000000 y.to_ = true
   ·rw [if_pos h2] at h
    by_cases h3 : y.to_ < y.from_
    ·rw [if_pos h3] at h; exact absurd h (by decide)
    ·rw [if_neg h3] at h
     by_cases h4 : inR 1 3 y.end_ = true
     ·rw [if_pos h4] at h
      by_cases h5 : p.map (fun q => runLt q y) = some false
      ·rw [if_pos h5] at h; exact absurd h (by decide)
      ·rw [if_neg h5] at h
       rcases List.mem_cons.1 hr with rfl | hr
       ·have a := inR_true h2.1
        have b := inR_true h2.2
        exact ⟨a.1, by omega, b.2, h4⟩
       ·exact runsErr_facts l _ h r hr
     ·rw [if_neg h4] at h; exact absurd h (by decide)
   ·rw [if_neg h2] at h; exact absurd h (by decide)
  ·rw [if_neg h1] at h; exact absurd h (by decide)
theorem runsF_facts {l : List Run} (h : runsF l = 0) : l.length ≤ 4000 ∧ ∀ r ∈ l, 0 ≤ r.from_ ∧ r.from_ ≤ r.to_ ∧ r.to_ ≤ 1000000000 ∧ inR 1 3 r.end_ = true := by
 unfold runsF at h
 by_cases h1 : l.length ≤ 4000
 ·rw [if_pos h1] at h; exact ⟨h1, runsErr_facts l _ h⟩
 ·rw [if_neg h1] at h; exact absurd h (by decide)
theorem mem_momL {l : List Run} {z : Int} : z ∈ momL l ↔ ∃ r ∈ l, z = r.from_ ∨ z = r.to_ := by
 unfold momL
 simp only [List.mem_flatMap, List.mem_cons, List.not_mem_nil, or_false]
theorem mem_momW {l : List Worker} {z : Int} : z ∈ momW l ↔ ∃ r ∈ l, z = r.from_ ∨ z = r.to_ := by
 unfold momW
 simp only [List.mem_flatMap, List.mem_cons, List.not_mem_nil, or_false]
theorem mom_same {x : Farm} {l F : List Run} {L : List Int} (hF : ∀ r, r ∈ F ↔ r ∈ l) (hL : ∀ z ∈ L, KZ.good z) (hm : ∀ z, KZ.good z → (z ∈ L ↔ z ∈ 0 :: momL F ++ momW x.workers.l)) (g1 : ∀ r ∈ l, KZ.good r.from_ ∧ KZ.good r.to_) (g2 : ∀ y ∈ x.workers.l, KZ.good y.from_ ∧ KZ.good y.to_) (z : Int) : z ∈ L ↔ z ∈ momP x l := by
 have e : z ∈ 0 :: momL F ++ momW x.workers.l ↔ z ∈ momP x l := by
  rw [mem_momP, List.cons_append, List.mem_cons, List.mem_append, mem_momL, mem_momW]
  constructor
  ·rintro (h | ⟨r, hr, h⟩ | h)
   ·exact .inl h
   ·exact .inr (.inl ⟨r, (hF r).1 hr, h⟩)
   ·exact .inr (.inr h)
  ·rintro (h | ⟨r, hr, h⟩ | h)
   ·exact .inl h
   ·exact .inr (.inl ⟨r, (hF r).2 hr, h⟩)
   ·exact .inr (.inr h)
 constructor
 ·intro h; exact e.1 ((hm z (hL z h)).1 h)
 ·intro h
  have hg : KZ.good z := by
   rcases mem_momP.1 h with rfl | ⟨r, hr, rfl | rfl⟩ | ⟨y, hy, rfl | rfl⟩
   ·exact good_of (by unfold I64; omega)
   ·exact (g1 r hr).1
   ·exact (g1 r hr).2
   ·exact (g2 y hy).1
   ·exact (g2 y hy).2
  exact (hm z hg).2 (e.2 h)
def WtAns (x : Farm) (l : List Run) (c : Int) (w : World) (e : Ending) (w' : World) : Prop :=
 (c ≠ 0 ∧ e = .returned (.tuple #[.slice none 0 0, .int .i64 c]) ∧ Below w.heap.size w w') ∨
 (c = 0 ∧ ∃ (A : Option Addr) (n cap : Nat), e = .returned (.tuple #[.slice A n cap, .int .i64 0]) ∧ SlAt RStr w' A n (waitedF (momP x l) x l) ∧ n ≤ 1000 ∧ Below w.heap.size w w')
theorem rowsF_snoc {x : Farm} (hok : FarmOk x) (l : List Run) (r : Run) (h : hasId x.works.l r.id_ = true) : rowsF x (l ++ [r]) = (rowsF x l).set (ixOf x.works.l r.id_) (((rowsF x l).getD (ixOf x.works.l r.id_) []) ++ [r]) := by
 obtain ⟨z, hz, hzi⟩ := ixOf_get h
 have hlt := (List.getElem?_eq_some_iff.1 hz).1
 have hln : (rowsF x l).length = x.works.l.length := by unfold rowsF; simp
 refine List.ext_getElem? fun i => ?_
 by_cases hi : i < x.works.l.length
 ·rw [rowsF_get _ hi, List.getElem?_set, List.filter_append]
  by_cases e : ixOf x.works.l r.id_ = i
  ·rw [if_pos e, if_pos (by omega)]
   have hid : r.id_ = (woOf x i).id_ := by rw [← e, woOf_get hz, hzi]
   rw [List.filter_cons_of_pos (by rw [decide_eq_true hid]), List.getD_eq_getElem?_getD, e, rowsF_get _ hi]; rfl
  ·rw [if_neg e, rowsF_get _ hi, List.filter_cons_of_neg]
   ·simp
   ·intro hd
    have hid : r.id_ = (woOf x i).id_ := of_decide_eq_true hd
    apply e
    rw [hid]
    exact (wo_ix hok hi).1
 ·rw [List.getElem?_eq_none (by unfold rowsF; simp; omega), List.getElem?_eq_none (by rw [List.length_set]; omega)]
/-- the waiter's own cells -/
def WtC (x : Farm) (N rb : Nat) (W : World) : Prop := W.cell? ⟨rb + 1, 0, none⟩ = some (.slice x.workers.A x.workers.n x.workers.cap) ∧ W.cell? ⟨rb + 1, 1, none⟩ = some (.slice x.works.A N x.works.cap) ∧ W.cell? ⟨rb + 1, 3, none⟩ = some (.int .i64 x.tries) ∧ W.cell? ⟨rb + 1, 5, none⟩ = some (.slice (some ⟨rb, 0, none⟩) N N)
theorem WtC.below {x : Farm} {N rb : Nat} {W W' : World} (h : WtC x N rb W) (hb : Below W.heap.size W W') : WtC x N rb W' := ⟨keepC hb h.1, keepC hb h.2.1, keepC hb h.2.2.1, keepC hb h.2.2.2⟩
theorem WtC.grown {x : Farm} {N rb : Nat} {W W' : World} {row : Option Nat} (h : WtC x N rb W) (hg : W.grownBy W' row) (hn : some (rb + 1) ≠ row) : WtC x N rb W' := ⟨hg.cell h.1 hn, hg.cell h.2.1 hn, hg.cell h.2.2.1 hn, hg.cell h.2.2.2 hn⟩
def L1 (x : Farm) (l : List Run) (N rb : Nat) (w2 : World) (i : Value) (wr : World) : Prop :=
 ∃ (j : Nat) (vs : Nat → Value), j ≤ l.length ∧ i = .int .i64 j ∧ Rwr wr (rb + 2) rb N vs (rowsF x (l.take j)) ∧ okIds x (l.take j) = true ∧ WtC x N rb wr ∧ Below w2.heap.size w2 wr
def L2 (x : Farm) (Rs : List (List Run)) (L : List Int) (N wd : Nat) (w0 w6 : World) (i : Value) (wq : World) : Prop :=
 ∃ k : Nat, k ≤ L.length ∧ i = .int .i64 k ∧ BRow wq wd N (fun i => (L.take k).any fun t => seeB x Rs t i) ∧ Below w0.heap.size w0 wq ∧ w6.grownBy wq (some wd) ∧ wd < wq.heap.size
def L3 (x : Farm) (q : Nat → Bool) (N wd base : Nat) (w0 : World) (v i : Value) (wr : World) : Prop :=
 ∃ (k : Nat) (A : Option Addr) (n c : Nat), k ≤ N ∧ i = .int .i64 k ∧ v = .slice A n c ∧ n ≤ k ∧ Own RStr 9 wr base v (((List.range k).filter q).map fun i => (woOf x i).id_) ∧ Below w0.heap.size w0 wr ∧ wd < base ∧ base ≤ wr.heap.size ∧ BRow wr wd N q
set_option maxRecDepth 100000 in
set_option maxHeartbeats 8000000 in
theorem Waited_any (x : Farm) (A : Option Addr) (n cap : Nat) (l : List Run) (w : World) (hx : RFarm.ok w x) (hl : SlAt RRun w A n l) (c : Int) (hc : waitC x l = c) :
  Calls Tryz.prog 29 #[farmV x, .slice A n cap] w (WtAns x l c w) := by
 unfold farmV
 have hN : x.works.n = x.works.l.length := hx.2.1.1.1.symm
 obtain ⟨W1, hW1⟩ : ∃ Y, w.alloc (.cells #[.slice x.workers.A x.workers.n x.workers.cap, .slice x.works.A x.works.n x.works.cap, .slice x.lost.A x.lost.n x.lost.cap, .int .i64 x.tries, .bool x.doubles] 26) = Y := ⟨_, rfl⟩
 obtain ⟨xb, hxb⟩ : ∃ b, w.heap.size = b := ⟨_, rfl⟩
 have hba : Below w.heap.size w W1 := by rw [← hW1]; exact (Below.refl _ _).alloc (Nat.le_refl _) _
 have hx1 := RFarm.mono _ _ _ hba hx
 have hl1 := hl.below hba
 have c0 : W1.cell? ⟨xb, 0, none⟩ = some (.slice x.workers.A x.workers.n x.workers.cap) := by rw [← hW1, ← hxb]; exact cell_new _ _ _ 0
 have c1 : W1.cell? ⟨xb, 1, none⟩ = some (.slice x.works.A x.works.n x.works.cap) := by rw [← hW1, ← hxb]; exact cell_new _ _ _ 1
 have c2 : W1.cell? ⟨xb, 2, none⟩ = some (.slice x.lost.A x.lost.n x.lost.cap) := by rw [← hW1, ← hxb]; exact cell_new _ _ _ 2
 have c3 : W1.cell? ⟨xb, 3, none⟩ = some (.int .i64 x.tries) := by rw [← hW1, ← hxb]; exact cell_new _ _ _ 3
 have c4 : W1.cell? ⟨xb, 4, none⟩ = some (.bool x.doubles) := by rw [← hW1, ← hxb]; exact cell_new _ _ _ 4
 obtain ⟨Z, hZ⟩ : ∃ Z, WtAns x l c w = Z := ⟨_, rfl⟩
 rw [hZ]
 unfold waitC at hc
 obtain ⟨f1, hf1⟩ : ∃ f, farmF x = f := ⟨_, rfl⟩
 obtain ⟨f2, hf2⟩ : ∃ f, runsF l = f := ⟨_, rfl⟩
 rw [hf1, hf2] at hc
 have hZH := Lib.hid hZ
 clear hZ
 have hxH := Lib.hid hx
 clear hx
 have hx1H := Lib.hid hx1
 clear hx1
 have hlH := Lib.hid hl
 clear hl
 have hl1H := Lib.hid hl1
 clear hl1
 have hW1H := Lib.hid hW1
 clear hW1
 have hxbH := Lib.hid hxb
 clear hxb
 have hbaH := Lib.hid hba
 clear hba
 have hcH := Lib.hid hc
 clear hc
 have hNH := Lib.hid hN
 clear hN
 have hf1H := Lib.hid hf1
 clear hf1
 have hf2H := Lib.hid hf2
 clear hf2
 go_enter Tryz.func29, Tryz.ntmps29
 go_wp2_with fail
 rw [hW1H.out, hxbH.out]
 refine (farm_any x _ hx1H.out f1 hf1H.out).mono ?_
 rintro e w1 ⟨rfl, hb1⟩
 have c0 := keepC hb1 c0
 have c1 := keepC hb1 c1
 have c2 := keepC hb1 c2
 have c3 := keepC hb1 c3
 have c4 := keepC hb1 c4
 have hx2 := RFarm.mono _ _ _ hb1 hx1H.out
 have hl2 := hl1H.out.below hb1
 have hbb := hbaH.out.trans (hb1.mono hbaH.out.size)
 have hc := hcH.out
 clear hcH
 by_cases h1 : f1 = 0
 ·subst h1
  rw [if_pos rfl] at hc
  have hb1H := Lib.hid hb1
  clear hb1
  have hx2H := Lib.hid hx2
  clear hx2
  have hl2H := Lib.hid hl2
  clear hl2
  have hbbH := Lib.hid hbb
  clear hbb
  have hcH := Lib.hid hc
  clear hc
  go_wp2_with fail
  refine (runs_any A n cap l _ hl2H.out f2 hf2H.out).mono ?_
  rintro e w2 ⟨rfl, hb2⟩
  have c0 := keepC hb2 c0
  have c1 := keepC hb2 c1
  have c2 := keepC hb2 c2
  have c3 := keepC hb2 c3
  have c4 := keepC hb2 c4
  have hx3 := RFarm.mono _ _ _ hb2 hx2H.out
  have hl3 := hl2H.out.below hb2
  have hbb2 := hbbH.out.trans (hb2.mono hbbH.out.size)
  have hc := hcH.out
  clear hcH
  by_cases h2 : f2 = 0
  ·subst h2
   rw [if_pos rfl] at hc
   have hok := farmOk_of hf1H.out
   have hN2 : x.works.n ≤ 200 := by have := hok.wo.len; have := hNH.out; omega
   obtain ⟨N, hNe⟩ : ∃ m, x.works.n = m := ⟨_, rfl⟩
   have hm1 := run_makeRwr N (by omega)
   rw [hNe] at hN2
   have hl4 : n ≤ 4000 := by
    have h1 := hf2H.out
    unfold runsF at h1
    by_cases h3 : l.length ≤ 4000
    ·have := hl3.1; omega
    ·rw [if_neg h3] at h1; exact absurd h1 (by decide)
   rw [hNe] at c1
   have lt1 := cell?_lt c1
   simp only at lt1
   have hb2H := Lib.hid hb2
   clear hb2
   have hx3H := Lib.hid hx3
   clear hx3
   have hl3H := Lib.hid hl3
   clear hl3
   have hbb2H := Lib.hid hbb2
   clear hbb2
   have hcH := Lib.hid hc
   clear hc
   have hokH := Lib.hid hok
   clear hok
   have hNeH := Lib.hid hNe
   clear hNe
   go_wp2_with fail
   go_region
   obtain ⟨rb, hrb⟩ : ∃ b, w2.heap.size = b := ⟨_, rfl⟩
   have hR2 := Rwr.made w2 N
   obtain ⟨Wm, hWm⟩ : ∃ Y, w2.alloc (.cells (madeS N) 27) = Y := ⟨_, rfl⟩
   rw [hWm, hrb] at hR2
   have hsm : Wm.heap.size = rb + 1 := by rw [← hWm, ← hrb]; simp
   have hbm : Below w2.heap.size w2 Wm := by rw [← hWm]; exact (Below.refl _ _).alloc (Nat.le_refl _) _
   obtain ⟨W3, hW3⟩ : ∃ Y, (Wm.alloc (.cells #[.slice x.workers.A x.workers.n x.workers.cap, .slice x.works.A N x.works.cap, .slice x.lost.A x.lost.n x.lost.cap, .int .i64 x.tries, .bool x.doubles, .slice (some ⟨rb, 0, none⟩) N N] 100)).drew = Y := ⟨_, rfl⟩
   have hbm3 : Below Wm.heap.size Wm W3 := by rw [← hW3]; exact ((Below.refl _ _).alloc (Nat.le_refl _) _).drew
   have hb3 := hbm.trans (hbm3.mono hbm.size)
   have hs3 : W3.heap.size = rb + 2 := by rw [← hW3]; simp [hsm]
   have hB3 := blk_new Wm [.slice x.workers.A x.workers.n x.workers.cap, .slice x.works.A N x.works.cap, .slice x.lost.A x.lost.n x.lost.cap, .int .i64 x.tries, .bool x.doubles, .slice (some ⟨rb, 0, none⟩) N N] 100
   rw [hsm] at hB3
   replace hB3 : Blk W3 (rb + 1) [.slice x.workers.A x.workers.n x.workers.cap, .slice x.works.A N x.works.cap, .slice x.lost.A x.lost.n x.lost.cap, .int .i64 x.tries, .bool x.doubles, .slice (some ⟨rb, 0, none⟩) N N] := by rw [← hW3]; exact hB3.keep rfl
   have hC3 : WtC x N rb W3 := ⟨(hB3 0 _ rfl).1, (hB3 1 _ rfl).1, (hB3 3 _ rfl).1, (hB3 5 _ rfl).1⟩
   have hR3 := (hR2.below hbm3).up (base' := rb + 2) (by omega) (by omega) rfl
   have hrows0 : rowsF x [] = List.replicate N [] := by
    unfold rowsF
    rw [show x.works.l.length = N by rw [← hNeH.out]; exact hNH.out.symm]
    refine List.ext_getElem? fun i => ?_
    rw [List.getElem?_map]
    by_cases hi : i < N
    ·rw [List.getElem?_range hi, List.getElem?_replicate, if_pos hi]; rfl
    ·rw [List.getElem?_eq_none (by simp; omega), List.getElem?_eq_none (by simp; omega)]; rfl
   have hst : L1 x l N rb w2 (.int .i64 0) W3 := ⟨0, _, Nat.zero_le _, rfl, by rw [List.take_zero, hrows0]; exact hR3, by rw [List.take_zero]; rfl, hC3, hb3⟩
   rw [hWm, hrb, hW3]
   have hK : ∀ W, Below w2.heap.size w2 W → W.cell? ⟨xb, 0, none⟩ = some (.slice x.workers.A x.workers.n x.workers.cap) ∧ W.cell? ⟨xb, 1, none⟩ = some (.slice x.works.A N x.works.cap) := fun W h => ⟨keepC h c0, keepC h c1⟩
   have hll := hl3H.out.1
   clear c0 c1 c2 c3 c4
   have hrbH := Lib.hid hrb
   clear hrb
   have hR2H := Lib.hid hR2
   clear hR2
   have hWmH := Lib.hid hWm
   clear hWm
   have hsmH := Lib.hid hsm
   clear hsm
   have hbmH := Lib.hid hbm
   clear hbm
   have hW3H := Lib.hid hW3
   clear hW3
   have hbm3H := Lib.hid hbm3
   clear hbm3
   have hb3H := Lib.hid hb3
   clear hb3
   have hs3H := Lib.hid hs3
   clear hs3
   have hB3H := Lib.hid hB3
   clear hB3
   have hC3H := Lib.hid hC3
   clear hC3
   have hR3H := Lib.hid hR3
   clear hR3
   have hrows0H := Lib.hid hrows0
   clear hrows0
   have hstH := Lib.hid hst
   clear hst
   have hKH := Lib.hid hK
   clear hK
   have hllH := Lib.hid hll
   clear hll
   go_wp2_with fail
   go_loopw [40] (fun i wr => L1 x l N rb w2 i wr) (fun i _ => n - (intOf i).toNat)
   case atStart => exact hstH.out
   case round =>
    clear hstH
    obtain ⟨j, vs, hj, rfl, hR, hids, hC, hb⟩ := hrel
    have hbs := hb.size
    by_cases hlt : j < n
    ·obtain ⟨c0, c1⟩ := hKH.out wr hb
     have hslr := hl3H.out.below hb
     obtain ⟨bl, ol, hA8, _⟩ := hslr.2.1 (by omega)
     subst hA8
     obtain ⟨r, hr⟩ : ∃ r, l[j]? = some r := ⟨l[j]'(by have := hllH.out; omega), List.getElem?_eq_getElem _⟩
     obtain ⟨e0, e1, e2, e3, e4⟩ := cells_Run hslr hr
     have hrm := List.mem_of_getElem? hr
     have hro := hslr.2.2 r hrm
     have htk : l.take (j + 1) = l.take j ++ [r] := by rw [List.take_add_one, hr]; rfl
     obtain ⟨ok1, hok1⟩ : ∃ v, hasId x.works.l r.id_ = v := ⟨_, rfl⟩
     obtain ⟨ok2, hok2⟩ : ∃ v, hasNm x.workers.l r.worker = v := ⟨_, rfl⟩
     have hbad : (ok1 && ok2) = false → c = 5 := fun hh => by
      have h9 : okIds x l = false := by
       unfold okIds
       rw [List.all_eq_false]
       exact ⟨r, hrm, by rw [hok1, hok2, hh]; simp⟩
      rw [← hcH.out, h9, if_neg (by decide)]
     have hz1 := hx3H.out.2.1.1.below hb
     have hz2 := hx3H.out.1.1.below hb
     rw [hNeH.out] at hz1
     have hlj := hllH.out
     obtain ⟨rid, rwk, rfm, rto, ren⟩ := r
     simp only at e0 e1 e2 e3 e4 hok1 hok2
     have hbl := (Below.refl wr.heap.size wr).alloc (Nat.le_refl _) (.cells #[.string rid, .string rwk, .int .i64 rfm, .int .i64 rto, .int .i64 ren] 34)
     obtain ⟨W5, hW5⟩ : ∃ Y, wr.alloc (.cells #[.string rid, .string rwk, .int .i64 rfm, .int .i64 rto, .int .i64 ren] 34) = Y := ⟨_, rfl⟩
     obtain ⟨sb, hsb⟩ : ∃ b, wr.heap.size = b := ⟨_, rfl⟩
     have hB5 := blk_new wr [.string rid, .string rwk, .int .i64 rfm, .int .i64 rto, .int .i64 ren] 34
     have c1a := keepC hbl c1
     have y1 := keepC hbl c0
     rw [hW5] at hbl
     replace hB5 : Blk W5 sb [.string rid, .string rwk, .int .i64 rfm, .int .i64 rto, .int .i64 ren] := by rw [← hW5, ← hsb]; exact hB5
     have hb5 := hb.trans (hbl.mono hbs)
     have hzz1 := hz1.below hbl
     have hzz2 := hz2.below hbl
     clear c0 c1 hz1 hz2
     have hRH := Lib.hid hR
     clear hR
     have hidsH := Lib.hid hids
     clear hids
     have hCH := Lib.hid hC
     clear hC
     have hbH := Lib.hid hb
     clear hb
     have hrH := Lib.hid hr
     clear hr
     have hrmH := Lib.hid hrm
     clear hrm
     have hroH := Lib.hid hro
     clear hro
     have htkH := Lib.hid htk
     clear htk
     have hok1H := Lib.hid hok1
     clear hok1
     have hok2H := Lib.hid hok2
     clear hok2
     have hbadH := Lib.hid hbad
     clear hbad
     have hW5H := Lib.hid hW5
     clear hW5
     have hsbH := Lib.hid hsb
     clear hsb
     have hB5H := Lib.hid hB5
     clear hB5
     have hblH := Lib.hid hbl
     clear hbl
     have hb5H := Lib.hid hb5
     clear hb5
     have hzz1H := Lib.hid hzz1
     clear hzz1
     have hzz2H := Lib.hid hzz2
     clear hzz2
     have hslrH := Lib.hid hslr
     clear hslr
     have hljH := Lib.hid hlj
     clear hlj
     go_wp2_with fail
     rw [hW5H.out, hsbH.out]
     clear e0 e1 e2 e3 e4 c1a y1
     go_at_call 62
     refine (workAt_any x.works.A N x.works.cap x.works.l rid W5 (by omega) hzz1H.out hokH.out.wo.rise).mono ?_
     rintro e w6 ⟨i1, rfl, hi1, hb6⟩
     rw [hok1H.out]
     have hb26 := hb5H.out.trans (hb6.mono hb5H.out.size)
     have hB6 := hB5H.out.bel (by simp) hb6
     have c0 := (hKH.out w6 hb26).1
     have y1 := (hB6 1 _ rfl).1
     have hzz6 := hzz2H.out.below hb6
     have hi1H := Lib.hid hi1
     clear hi1
     have hb6H := Lib.hid hb6
     clear hb6
     have hb26H := Lib.hid hb26
     clear hb26
     have hB6H := Lib.hid hB6
     clear hB6
     have hzz6H := Lib.hid hzz6
     clear hzz6
     go_wp2_with fail
     refine (workerAt_any x.workers.A x.workers.n x.workers.cap x.workers.l rwk w6 (by have := hokH.out.wkn; have := hzz6H.out.1; omega) hzz6H.out hokH.out.wkr).mono ?_
     rintro e w7 ⟨i2, rfl, _, hb7⟩
     rw [hok2H.out]
     have hb27 := hb26H.out.trans (hb7.mono hb26H.out.size)
     have hbw7 := hblH.out.trans ((hb6H.out.trans (hb7.mono hb6H.out.size)).mono hblH.out.size)
     have R5 : c = 5 → Z (.returned (.tuple #[.slice none 0 0, .int .i64 5])) w7 := fun h => by
      rw [← hZH.out]
      exact .inl ⟨by omega, by rw [h], hbb2H.out.trans (hb27.mono hbb2H.out.size)⟩
     clear c0 y1
     cases ok1
     ·have R := R5 (hbadH.out rfl)
      clear R5
      have RH := Lib.hid R
      clear R
      have hb7H := Lib.hid hb7
      clear hb7
      have hb27H := Lib.hid hb27
      clear hb27
      have hbw7H := Lib.hid hbw7
      clear hbw7
      go_wp2
      exact RH.out
     ·cases ok2
      ·have R := R5 (hbadH.out rfl)
       clear R5
       have RH := Lib.hid R
       clear R
       have hb7H := Lib.hid hb7
       clear hb7
       have hb27H := Lib.hid hb27
       clear hb27
       have hbw7H := Lib.hid hbw7
       clear hbw7
       go_wp2
       exact RH.out
      ·clear R5
       obtain ⟨ix, hix⟩ : ∃ q, ixOf x.works.l rid = q := ⟨_, rfl⟩
       have hi1x := hi1H.out hok1H.out
       rw [hix] at hi1x
       subst hi1x
       have hixl : i1 < N := by have h1 := ixOf_lt hok1H.out; rw [hix] at h1; have := hNH.out; have := hNeH.out; omega
       have hR7 := hRH.out.below hbw7
       have hB7 := hB6H.out.bel (by simp) hb7
       obtain ⟨row, hrow⟩ : ∃ q, (rowsF x (l.take j))[i1]? = some q := ⟨(rowsF x (l.take j))[i1]'(by have := hR7.len; omega), List.getElem?_eq_getElem _⟩
       have hown := hR7.own i1 row hrow
       obtain ⟨A9, c9, hv9⟩ := hown.form
       obtain ⟨m9, hm9⟩ : ∃ q, row.length = q := ⟨_, rfl⟩
       rw [hm9] at hv9
       rw [hv9] at hown
       have hcell := (hR7.cells i1 hixl).1
       rw [hv9] at hcell
       have hm94 : m9 ≤ 4000 := by
        have h1 : row.length ≤ (l.take j).length := by
         have h2 : (rowsF x (l.take j))[i1]? = some _ := rowsF_get (l.take j) (by have := hNH.out; have := hNeH.out; omega)
         rw [hrow] at h2
         injection h2 with h2
         rw [h2]
         exact List.length_filter_le _ _
        rw [List.length_take] at h1
        omega
       have hC7 := hCH.out.below hbw7
       have hF7 : w7.cell? ⟨rb + 1, 5, none⟩ = some (.slice (some ⟨rb, 0, none⟩) N N) ∧ w7.cell? ⟨rb, i1, none⟩ = some (.slice A9 m9 c9) ∧ w7.cell? ⟨sb, 0, none⟩ = some (.string rid) ∧ w7.cell? ⟨sb, 1, none⟩ = some (.string rwk) ∧ w7.cell? ⟨sb, 2, none⟩ = some (.int .i64 rfm) ∧ w7.cell? ⟨sb, 3, none⟩ = some (.int .i64 rto) ∧ w7.cell? ⟨sb, 4, none⟩ = some (.int .i64 ren) := ⟨hC7.2.2.2, hcell, (hB7 0 _ rfl).1, (hB7 1 _ rfl).1, (hB7 2 _ rfl).1, (hB7 3 _ rfl).1, (hB7 4 _ rfl).1⟩
       have kB : ∀ W W' : World, Below W.heap.size W W' → (W.cell? ⟨rb + 1, 5, none⟩ = some (.slice (some ⟨rb, 0, none⟩) N N) ∧ W.cell? ⟨rb, i1, none⟩ = some (.slice A9 m9 c9) ∧ W.cell? ⟨sb, 0, none⟩ = some (.string rid) ∧ W.cell? ⟨sb, 1, none⟩ = some (.string rwk) ∧ W.cell? ⟨sb, 2, none⟩ = some (.int .i64 rfm) ∧ W.cell? ⟨sb, 3, none⟩ = some (.int .i64 rto) ∧ W.cell? ⟨sb, 4, none⟩ = some (.int .i64 ren)) → (W'.cell? ⟨rb + 1, 5, none⟩ = some (.slice (some ⟨rb, 0, none⟩) N N) ∧ W'.cell? ⟨rb, i1, none⟩ = some (.slice A9 m9 c9) ∧ W'.cell? ⟨sb, 0, none⟩ = some (.string rid) ∧ W'.cell? ⟨sb, 1, none⟩ = some (.string rwk) ∧ W'.cell? ⟨sb, 2, none⟩ = some (.int .i64 rfm) ∧ W'.cell? ⟨sb, 3, none⟩ = some (.int .i64 rto) ∧ W'.cell? ⟨sb, 4, none⟩ = some (.int .i64 ren)) := fun W W' hb h => ⟨keepC hb h.1, keepC hb h.2.1, keepC hb h.2.2.1, keepC hb h.2.2.2.1, keepC hb h.2.2.2.2.1, keepC hb h.2.2.2.2.2.1, keepC hb h.2.2.2.2.2.2⟩
       have hownr := hRH.out.own i1 row hrow
       rw [hv9] at hownr
       have hblk : ∀ b, (Value.slice A9 m9 c9).ownBlock = some b → rb + 2 ≤ b ∧ b < sb := fun b hb' => by
        have := hownr.1.lt b hb'
        have h2 := hsbH.out
        omega
       have hrbs : rb + 2 ≤ sb := by have := hRH.out.le; have := hsbH.out; omega
       have kG : ∀ W W' : World, W.grownBy W' (Value.slice A9 m9 c9).ownBlock → (W.cell? ⟨rb + 1, 5, none⟩ = some (.slice (some ⟨rb, 0, none⟩) N N) ∧ W.cell? ⟨rb, i1, none⟩ = some (.slice A9 m9 c9) ∧ W.cell? ⟨sb, 0, none⟩ = some (.string rid) ∧ W.cell? ⟨sb, 1, none⟩ = some (.string rwk) ∧ W.cell? ⟨sb, 2, none⟩ = some (.int .i64 rfm) ∧ W.cell? ⟨sb, 3, none⟩ = some (.int .i64 rto) ∧ W.cell? ⟨sb, 4, none⟩ = some (.int .i64 ren)) → (W'.cell? ⟨rb + 1, 5, none⟩ = some (.slice (some ⟨rb, 0, none⟩) N N) ∧ W'.cell? ⟨rb, i1, none⟩ = some (.slice A9 m9 c9) ∧ W'.cell? ⟨sb, 0, none⟩ = some (.string rid) ∧ W'.cell? ⟨sb, 1, none⟩ = some (.string rwk) ∧ W'.cell? ⟨sb, 2, none⟩ = some (.int .i64 rfm) ∧ W'.cell? ⟨sb, 3, none⟩ = some (.int .i64 rto) ∧ W'.cell? ⟨sb, 4, none⟩ = some (.int .i64 ren)) := fun W W' hg h => by
        have n1 : some (rb + 1) ≠ (Value.slice A9 m9 c9).ownBlock := fun e => by have := (hblk _ e.symm).1; omega
        have n2 : some rb ≠ (Value.slice A9 m9 c9).ownBlock := fun e => by have := (hblk _ e.symm).1; omega
        have n3 : some sb ≠ (Value.slice A9 m9 c9).ownBlock := fun e => by have := (hblk _ e.symm).2; omega
        exact ⟨hg.cell h.1 n1, hg.cell h.2.1 n2, hg.cell h.2.2.1 n3, hg.cell h.2.2.2.1 n3, hg.cell h.2.2.2.2.1 n3, hg.cell h.2.2.2.2.2.1 n3, hg.cell h.2.2.2.2.2.2 n3⟩
       have hix0 : (0 : Int) ≤ (i1 : Int) := by omega
       have hix1 : (i1 : Int) < (N : Int) := by omega
       have hb7s := hb27.size
       clear hcell
       have hb7H := Lib.hid hb7
       clear hb7
       have hb27H := Lib.hid hb27
       clear hb27
       have hbw7H := Lib.hid hbw7
       clear hbw7
       have hR7H := Lib.hid hR7
       clear hR7
       have hB7H := Lib.hid hB7
       clear hB7
       have hrowH := Lib.hid hrow
       clear hrow
       have hownH := Lib.hid hown
       clear hown
       have hv9H := Lib.hid hv9
       clear hv9
       have hm9H := Lib.hid hm9
       clear hm9
       have hC7H := Lib.hid hC7
       clear hC7
       have kBH := Lib.hid kB
       clear kB
       have hownrH := Lib.hid hownr
       clear hownr
       have hblkH := Lib.hid hblk
       clear hblk
       have kGH := Lib.hid kG
       clear kG
       have hb7sH := Lib.hid hb7s
       clear hb7s
       have hixH := Lib.hid hix
       clear hix
       go_wp2_with fail
       have hF := hF7
       clear hF7
       have hC : True := trivial
       refine startR (R := Rk (fun w' : World => w'.cell? ⟨rb + 1, 5, none⟩ = some (.slice (some ⟨rb, 0, none⟩) N N) ∧ w'.cell? ⟨rb, i1, none⟩ = some (.slice A9 m9 c9) ∧ w'.cell? ⟨sb, 0, none⟩ = some (.string rid) ∧ w'.cell? ⟨sb, 1, none⟩ = some (.string rwk) ∧ w'.cell? ⟨sb, 2, none⟩ = some (.int .i64 rfm) ∧ w'.cell? ⟨sb, 3, none⟩ = some (.int .i64 rto) ∧ w'.cell? ⟨sb, 4, none⟩ = some (.int .i64 ren)) (fun _ => True) 16 16) (by kernel_rfl) ?_
       refine takeF (i := 0) (d := some 66) (v := ?_) rfl rfl (by kernel_rfl) (by kernel_rfl) (by kernel_rfl) (by kernel_rfl) (by kernel_rfl) (fun _ _ _ h => h) (Or.inl ⟨by rfl, ?_⟩) hF ?_
       rotate_left
       ·(intro w hSw; (try dsimp only at hSw); go_simp; (try with_reducible rfl))
       (try simp only [Act.put, List.setIfInBounds_toArray, List.set_cons_zero, List.set_cons_succ])
       refine takeF (i := 1) (d := some 67) (v := ?_) rfl rfl (by kernel_rfl) (by kernel_rfl) (by kernel_rfl) (by kernel_rfl) (by kernel_rfl) (fun _ _ _ h => h) (Or.inl ⟨by rfl, ?_⟩) hF ?_
       rotate_left
       ·(intro w hSw; (try dsimp only at hSw); go_simp; (try with_reducible rfl))
       (try simp only [Act.put, List.setIfInBounds_toArray, List.set_cons_zero, List.set_cons_succ])
       refine takeF (i := 2) (d := some 68) (v := ?_) rfl rfl (by kernel_rfl) (by kernel_rfl) (by kernel_rfl) (by kernel_rfl) (by kernel_rfl) (fun _ _ _ h => h) (Or.inl ⟨by rfl, ?_⟩) hF ?_
       rotate_left
       ·(intro w hSw; (try dsimp only at hSw); go_simp; (try with_reducible rfl))
       (try simp only [Act.put, List.setIfInBounds_toArray, List.set_cons_zero, List.set_cons_succ])
       refine takeF (i := 3) (d := some 69) (v := ?_) rfl rfl (by kernel_rfl) (by kernel_rfl) (by kernel_rfl) (by kernel_rfl) (by kernel_rfl) (fun _ _ _ h => h) (Or.inl ⟨by rfl, ?_⟩) hF ?_
       rotate_left
       ·(intro w hSw; (try dsimp only at hSw); go_simp; (try with_reducible rfl))
       (try simp only [Act.put, List.setIfInBounds_toArray, List.set_cons_zero, List.set_cons_succ])
       refine takeF (i := 4) (d := some 70) (v := ?_) rfl rfl (by kernel_rfl) (by kernel_rfl) (by kernel_rfl) (by kernel_rfl) (by kernel_rfl) (fun _ _ _ h => h) (Or.inl ⟨by rfl, ?_⟩) hF ?_
       rotate_left
       ·(intro w hSw; (try dsimp only at hSw); go_simp; (try with_reducible rfl))
       (try simp only [Act.put, List.setIfInBounds_toArray, List.set_cons_zero, List.set_cons_succ])
       refine takeF (i := 5) (d := some 71) (v := ?_) rfl rfl (by kernel_rfl) (by kernel_rfl) (by kernel_rfl) (by kernel_rfl) (by kernel_rfl) (fun _ _ _ h => h) (Or.inl ⟨by rfl, ?_⟩) hF ?_
       rotate_left
       ·(intro w hSw; (try dsimp only at hSw); go_simp; (try with_reducible rfl))
       (try simp only [Act.put, List.setIfInBounds_toArray, List.set_cons_zero, List.set_cons_succ])
       refine takeF (i := 6) (d := some 72) (v := ?_) rfl rfl (by kernel_rfl) (by kernel_rfl) (by kernel_rfl) (by kernel_rfl) (by kernel_rfl) (fun _ _ _ h => h) (Or.inl ⟨by rfl, ?_⟩) hF ?_
       rotate_left
       ·(intro w hSw; (try dsimp only at hSw); go_simp; (try with_reducible rfl))
       (try simp only [Act.put, List.setIfInBounds_toArray, List.set_cons_zero, List.set_cons_succ])
       refine takeF (i := 7) (d := some 73) (v := ?_) rfl rfl (by kernel_rfl) (by kernel_rfl) (by kernel_rfl) (by kernel_rfl) (by kernel_rfl) (fun _ _ _ h => h) (Or.inl ⟨by rfl, ?_⟩) hF ?_
       rotate_left
       ·(intro w hSw; (try dsimp only at hSw); go_simp; (try with_reducible rfl))
       (try simp only [Act.put, List.setIfInBounds_toArray, List.set_cons_zero, List.set_cons_succ])
       refine takeF (i := 8) (d := some 74) (v := ?_) rfl rfl (by kernel_rfl) (by kernel_rfl) (by kernel_rfl) (by kernel_rfl) (by kernel_rfl) (fun _ _ _ h => h) (Or.inl ⟨by rfl, ?_⟩) hF ?_
       rotate_left
       ·(intro w hSw; (try dsimp only at hSw); go_simp; (try with_reducible rfl))
       (try simp only [Act.put, List.setIfInBounds_toArray, List.set_cons_zero, List.set_cons_succ])
       refine takeF (i := 9) (d := some 75) (v := ?_) rfl rfl (by kernel_rfl) (by kernel_rfl) (by kernel_rfl) (by kernel_rfl) (by kernel_rfl) (fun _ _ _ h => h) (Or.inl ⟨by rfl, ?_⟩) hF ?_
       rotate_left
       ·(intro w hSw; (try dsimp only at hSw); go_simp; (try with_reducible rfl))
       (try simp only [Act.put, List.setIfInBounds_toArray, List.set_cons_zero, List.set_cons_succ])
       refine takeF (i := 10) (d := some 76) (v := ?_) rfl rfl (by kernel_rfl) (by kernel_rfl) (by kernel_rfl) (by kernel_rfl) (by kernel_rfl) (fun _ _ _ h => h) (Or.inl ⟨by rfl, ?_⟩) hF ?_
       rotate_left
       ·(intro w hSw; (try dsimp only at hSw); go_simp; (try with_reducible rfl))
       (try simp only [Act.put, List.setIfInBounds_toArray, List.set_cons_zero, List.set_cons_succ])
       refine takeF (i := 11) (d := some 77) (v := ?_) rfl rfl (by kernel_rfl) (by kernel_rfl) (by kernel_rfl) (by kernel_rfl) (by kernel_rfl) (fun _ _ _ h => h) (Or.inl ⟨by rfl, ?_⟩) hF ?_
       rotate_left
       ·(intro w hSw; (try dsimp only at hSw); go_simp; (try with_reducible rfl))
       (try simp only [Act.put, List.setIfInBounds_toArray, List.set_cons_zero, List.set_cons_succ])
       refine takeF (i := 12) (d := some 78) (v := ?_) rfl rfl (by kernel_rfl) (by kernel_rfl) (by kernel_rfl) (by kernel_rfl) (by kernel_rfl) (fun _ _ _ h => h) (Or.inl ⟨by rfl, ?_⟩) hF ?_
       rotate_left
       ·(intro w hSw; (try dsimp only at hSw); go_simp; (try with_reducible rfl))
       (try simp only [Act.put, List.setIfInBounds_toArray, List.set_cons_zero, List.set_cons_succ])
       refine oneR (i := 13) (by kernel_rfl) rfl (fun K hK => ?_)
       go_simp
       have hbb : Below w7.heap.size w7 (w7.drew.alloc (.cells #[.string rid, .string rwk, .int .i64 rfm, .int .i64 rto, .int .i64 ren] 34)) := (Below.refl _ _).drew.alloc (by simp) _
       have hF2 := kBH.out _ _ hbb hF
       have hown8 := hownH.out.below hbb
       have hR8 := hR7H.out.below hbb
       have hC8 := hC7H.out.below hbb
       have hb8 := hb27H.out.trans (hbb.mono hb27H.out.size)
       clear hF
       have hown8H := Lib.hid hown8
       clear hown8
       have hR8H := Lib.hid hR8
       clear hR8
       have hC8H := Lib.hid hC8
       clear hC8
       have hb8H := Lib.hid hb8
       clear hb8
       have hbbH := Lib.hid hbb
       clear hbb
       refine hK.out _ _ ⟨fun _ _ _ => hF2, fun _ _ => trivial⟩ ?_
       clear hK K
       (try simp only [Act.put, List.setIfInBounds_toArray, List.set_cons_zero, List.set_cons_succ])
       have hF := hF2
       refine oneR (i := 14) (by kernel_rfl) rfl (fun K hK => ?_)
       refine step_app1g (R := RRun) (base := rb + 2) (v := .slice A9 m9 c9) (l := row) ?g1 (.tmp 77) (.tmp 79) 27 ?g2 Tryz.underlying27 elem_Run (by decide) ?g3 ?own w7.heap.size (⟨rid, rwk, rfm, rto, ren⟩ : Run) ?g4 ?g5 (fun _ _ _ _ h => h) ?a4 ?a5 ?a6 (m9 + 1) ?a7 ?_
       case g1 => rfl
       case g2 => rfl
       case g3 => rfl
       case g4 => rfl
       case own => exact hown8H.out
       case g5 => exact slAt_new w7.drew _ _ (run_ok_any _ _ _ hroH.out)
       case a4 => rw [hm9H.out]; unfold maxLen; omega
       case a5 => rw [hm9H.out]; omega
       case a6 => have h1 := hR8H.out.le; exact h1
       case a7 => rw [hm9H.out]
       intro A8 c8 w8 hq8 hg8 hat8
       have hF3 := kGH.out _ _ hg8 hF2
       have R : L1 x l N rb w2 (.int .i64 ((j : Int) + 1)) (w8.setCell ⟨rb, i1, none⟩ (.slice A8 (m9 + 1) c8)) := by
        have hp := hR8H.out.put (k := i1) hixl (by rw [hv9H.out]; exact hg8) hq8 (by rw [hv9H.out]; exact hat8)
        have hsn := rowsF_snoc hokH.out (l.take j) ⟨rid, rwk, rfm, rto, ren⟩ hok1H.out
        rw [hixH.out, List.getD_eq_getElem?_getD, hrowH.out] at hsn
        have hgl : some (rb + 1) ≠ (Value.slice A9 m9 c9).ownBlock := fun e => by have := (hblkH.out _ e.symm).1; omega
        have hrb2 : w2.heap.size ≤ rb := Nat.le_of_eq hrbH.out
        have hC9 := hC8H.out.grown hg8 hgl
        have hC10 : WtC x N rb (w8.setCell ⟨rb, i1, none⟩ (.slice A8 (m9 + 1) c8)) := hC9.grown (grown_setc w8 ⟨rb, i1, none⟩ _) (by simp)
        have hids2 : okIds x (l.take (j + 1)) = true := by
         rw [htkH.out]
         unfold okIds at *
         rw [List.all_append, hidsH.out]
         simp [hok1H.out, hok2H.out]
        refine ⟨j + 1, (fun q => if q = i1 then .slice A8 (m9 + 1) c8 else vs q), by have := hljH.out; omega, by go_num, ?_, hids2, hC10, ((hb8H.out.grown hg8 hb8H.out.size (fun b hb' => by have := (hblkH.out b hb').1; omega)).setCell (p := ⟨rb, i1, none⟩) hrb2 _)⟩
        rw [htkH.out, hsn]
        exact hp
       have z8 : w8.frozen? ⟨rb, i1, none⟩ = false := by
        have h1 := ((hR8H.out.cells i1 hixl)).2
        have h2 := hg8.block rb (hR8H.out.lt_heap) (fun e => by have := (hblkH.out _ e.symm).1; omega)
        exact (World.frozen?_of_block (a := ⟨rb, i1, none⟩) h2).trans h1
       clear hq8 hg8 hat8 hF hF2
       have RH := Lib.hid R
       clear R
       refine hK.out _ _ ⟨fun _ _ _ => hF3, fun _ _ => trivial⟩ ?_
       clear hK K
       (try simp only [Act.put, List.setIfInBounds_toArray, List.set_cons_zero, List.set_cons_succ])
       have hF := hF3
       refine oneR (i := 15) (by kernel_rfl) rfl (fun K hK => ?_)
       go_simp
       refine hK.out _ _ ⟨fun _ _ _ => hF, fun _ _ => trivial⟩ ?_
       clear hK K
       (try simp only [Act.put, List.setIfInBounds_toArray, List.set_cons_zero, List.set_cons_succ])
       refine oneR (i := 16) (by kernel_rfl) rfl (fun K hK => ?_)
       go_simp
       refine hK.out _ _ ⟨fun h => absurd rfl h, fun h => absurd rfl h⟩ ?_
       clear hK K
       (try simp only [Act.put, List.setIfInBounds_toArray, List.set_cons_zero, List.set_cons_succ])
       refine doneR (by kernel_rfl) ?_ _
       clear hF hF3 z8 hC
       go_wp2
       refine ⟨?rel, ?measure⟩
       case measure => (simp [intOf]; omega)
       case rel => first | exact RH.out | exact ⟨rfl, RH.out⟩ | ((try refine ⟨rfl, ?_⟩); (repeat apply Exists.intro); refine ⟨RH.out, ?_⟩; ((repeat' apply And.intro) <;> rfl))
    ·obtain rfl : j = n := by have := hllH.out; omega
     have e : l.take j = l := List.take_of_length_le (by have := hllH.out; omega)
     rw [e] at hR hids
     have hc0 : c = 0 := by rw [← hcH.out, hids, if_pos rfl]
     obtain ⟨c0, c1⟩ := hKH.out wr hb
     have hzz1 := hx3H.out.2.1.1.below hb
     have hzz2 := hx3H.out.1.1.below hb
     have hH : WtH x (rb + 1) rb N (rowsF x l) wr := ⟨hC.1, by rw [hNeH.out]; exact hC.2.1, hC.2.2.1, hC.2.2.2, hR.len, fun k r hr => by
      have hown := hR.own k r hr
      obtain ⟨A', c', hv⟩ := hown.form
      have hk : k < N := by have := (List.getElem?_eq_some_iff.1 hr).1; have := hR.len; omega
      have hc' := (hR.cells k hk).1
      rw [hv] at hc' hown
      exact ⟨A', _, c', hc', hown.slAt⟩, hzz2, hzz1⟩
     have hids3 : ∀ r ∈ l, hasId x.works.l r.id_ = true ∧ hasNm x.workers.l r.worker = true := fun r hr => by
      unfold okIds at hids
      have := List.all_eq_true.1 hids r hr
      simpa using this
     have hlen : (rowsF x l).flatten.length ≤ 4000 := by
      have h1 := count_rows hokH.out (fun _ => true) l (fun r hr => (hids3 r hr).1)
      simp only [List.countP_true] at h1
      have := hllH.out
      omega
     have hmemR : ∀ r, r ∈ (rowsF x l).flatten ↔ r ∈ l := fun r => by
      constructor
      ·intro h
       obtain ⟨row, h1, h2⟩ := List.mem_flatten.1 h
       obtain ⟨i, _, rfl⟩ := List.mem_map.1 h1
       exact (List.mem_filter.1 h2).1
      ·intro h
       obtain ⟨z, hz, hzi⟩ := ixOf_get (hids3 r h).1
       have hlt := (List.getElem?_eq_some_iff.1 hz).1
       exact List.mem_flatten.2 ⟨_, List.mem_of_getElem? (rowsF_get l hlt), List.mem_filter.2 ⟨h, by rw [woOf_get hz, hzi]; simp⟩⟩
     have hnm : ∀ r ∈ (rowsF x l).flatten, hasNm x.workers.l r.worker = true := fun r hr => (hids3 r ((hmemR r).1 hr)).2
     have hM : x.workers.n ≤ 50 := by have := hokH.out.wkn; have := hzz2.1; omega
     have hmb := run_makeB N (by omega)
     obtain ⟨W5, hW5⟩ : ∃ Y, wr.alloc (.cells (madeB N) 4) = Y := ⟨_, rfl⟩
     obtain ⟨wd, hwd⟩ : ∃ b, wr.heap.size = b := ⟨_, rfl⟩
     have hb5 : Below wr.heap.size wr W5 := by rw [← hW5]; exact (Below.refl _ _).alloc (Nat.le_refl _) _
     have hs5 : W5.heap.size = wd + 1 := by rw [← hW5, ← hwd]; simp
     have hw5 : BRow W5 wd N (fun _ => false) := by rw [← hW5, ← hwd]; exact BRow.made _ _
     have hmom := moments_any W5 (hH.below hb5) (by omega) hlen hM
     clear c0
     have hRH := Lib.hid hR
     clear hR
     have hidsH := Lib.hid hids
     clear hids
     have hc0H := Lib.hid hc0
     clear hc0
     have hzz1H := Lib.hid hzz1
     clear hzz1
     have hzz2H := Lib.hid hzz2
     clear hzz2
     have hHH := Lib.hid hH
     clear hH
     have hids3H := Lib.hid hids3
     clear hids3
     have hlenH := Lib.hid hlen
     clear hlen
     have hmemRH := Lib.hid hmemR
     clear hmemR
     have hnmH := Lib.hid hnm
     clear hnm
     have hb5H := Lib.hid hb5
     clear hb5
     have hs5H := Lib.hid hs5
     clear hs5
     have hw5H := Lib.hid hw5
     clear hw5
     have hmomH := Lib.hid hmom
     clear hmom
     have hW5H := Lib.hid hW5
     clear hW5
     have hwdH := Lib.hid hwd
     clear hwd
     have hCH := Lib.hid hC
     clear hC
     have hbH := Lib.hid hb
     clear hb
     have eH := Lib.hid e
     clear e
     go_wp2_with fail
     rw [hW5H.out, hwdH.out]
     clear c1 hmb
     refine hmomH.out.mono ?_
     rintro e w6 ⟨AL, nL, cL, base, L, rfl, hbase, hLo, hLm, hnL, hb6⟩
     have hLl := hLo.len
     have hst2 : L2 x (rowsF x l) L N wd wr w6 (.int .i64 0) w6 := ⟨0, Nat.zero_le _, rfl, fun q hq => by
      have := (brow_bel hw5H.out hb6) q hq
      dsimp only
      rw [List.take_zero]; exact this, hb5H.out.trans (hb6.mono hb5H.out.size), World.grownBy.refl _ _, by have := hb6.size; have := hs5H.out; omega⟩
     have hbaseH := Lib.hid hbase
     clear hbase
     have hLoH := Lib.hid hLo
     clear hLo
     have hLmH := Lib.hid hLm
     clear hLm
     have hb6H := Lib.hid hb6
     clear hb6
     have hLlH := Lib.hid hLl
     clear hLl
     have hst2H := Lib.hid hst2
     clear hst2
     go_wp2_with fail
     go_loopw [90] (fun i wq => L2 x (rowsF x l) L N wd wr w6 i wq) (fun i _ => nL - (intOf i).toNat)
     case atStart => exact hst2H.out
     case round =>
      clear hst2H
      obtain ⟨k, hk, rfl, hfk, hbk, hgk, hwk⟩ := hrel
      have hLl := hLlH.out
      by_cases hlt3 : k < nL
      ·obtain ⟨t, ht⟩ : ∃ t, L[k]? = some t := ⟨L[k]'(by omega), List.getElem?_eq_getElem _⟩
       have hLk := (Own.kept hLoH.out hgk (by
        rcases hLoH.out.1.2 with ⟨e, _⟩ | ⟨g, cp, cur, e, hg9, _⟩
        ·exact .inl (by rw [e]; rfl)
        ·refine .inr ?_
         rw [e]
         intro e2
         have e3 : g = wd := by simpa [Value.ownBlock] using e2
         have := hbaseH.out
         have := hs5H.out
         omega) (fun z _ h => h)).slAt
       obtain ⟨bt, ot, hAL, _⟩ := hLk.2.1 (by omega)
       subst hAL
       have d0 := cell_IntW hLk ht
       have hcall := wsee_any _ wr hHH.out hbk wd _ (Nat.le_of_eq hwdH.out) hfk hwk t hokH.out hNeH.out (by omega) hlenH.out hM hnmH.out
       have htk : L.take (k + 1) = L.take k ++ [t] := by rw [List.take_add_one, ht]; rfl
       have hcallH := Lib.hid hcall
       clear hcall
       have htH := Lib.hid ht
       clear ht
       have hfkH := Lib.hid hfk
       clear hfk
       have hbkH := Lib.hid hbk
       clear hbk
       have hgkH := Lib.hid hgk
       clear hgk
       have hLkH := Lib.hid hLk
       clear hLk
       have htkH := Lib.hid htk
       clear htk
       go_wp2_with fail
       refine hcallH.out.mono ?_
       rintro e w7 ⟨rfl, hf7, hb7, hwd7, hg7⟩
       have R : L2 x (rowsF x l) L N wd _ w6 (.int .i64 ((k : Int) + 1)) w7 := ⟨k + 1, by omega, by go_num, (by
        have e9 : (fun i => (L.take (k + 1)).any fun s => seeB x (rowsF x l) s i) = (fun i => ((L.take k).any fun s => seeB x (rowsF x l) s i) || seeB x (rowsF x l) t i) := funext fun i => by rw [htkH.out, List.any_append]; simp
        rw [e9]; exact hf7), hb7, hgkH.out.trans hg7, hwd7⟩
       have RH := Lib.hid R
       clear R
       have hf7H := Lib.hid hf7
       clear hf7
       have hb7H := Lib.hid hb7
       clear hb7
       have hg7H := Lib.hid hg7
       clear hg7
       go_wp2
       refine ⟨?rel, ?measure⟩
       case measure => (simp [intOf]; omega)
       case rel => first | exact RH.out | exact ⟨rfl, RH.out⟩ | ((try refine ⟨rfl, ?_⟩); (repeat apply Exists.intro); refine ⟨RH.out, ?_⟩; ((repeat' apply And.intro) <;> rfl))
      ·obtain rfl : k = nL := by omega
       have e : L.take k = L := List.take_of_length_le (by omega)
       rw [e] at hfk
       have hwf := rows_waited hokH.out l (fun r hr => ((runsF_facts hf2H.out).2 r hr).2.1) (fun r hr => (hids3H.out r hr).1) (momP x l) L (mom_same hmemRH.out (fun z hz => good_of (hLoH.out.2 z hz)) hLmH.out (fun r hr => ⟨good_of (hl3H.out.2.2 r hr).2.2.1, good_of (hl3H.out.2.2 r hr).2.2.2.1⟩) (fun y hy => ⟨good_of (hx3H.out.1.1.2.2 y hy).2.2.2.2.1, good_of (hx3H.out.1.1.2.2 y hy).2.2.2.2.2.1⟩))
       clear e
       obtain ⟨q, hq⟩ : ∃ q : Nat → Bool, (fun i => L.any fun t => seeB x (rowsF x l) t i) = q := ⟨_, rfl⟩
       rw [hq] at hfk hwf
       have hbx := hbH.out.trans (hbk.mono hbH.out.size)
       have hNl2 : x.works.l.length = N := by rw [← hNeH.out]; exact hNH.out.symm
       rw [hNl2] at hwf
       have hst3 : L3 x q N wd _ w2 (.slice none 0 0) (.int .i64 0) _ := ⟨0, none, 0, 0, Nat.zero_le _, rfl, rfl, Nat.le_refl _, Own.nil _ _, hbx, hwk, Nat.le_refl _, hfk⟩
       clear hq
       have hfkH := Lib.hid hfk
       clear hfk
       have hbkH := Lib.hid hbk
       clear hbk
       have hgkH := Lib.hid hgk
       clear hgk
       have hwfH := Lib.hid hwf
       clear hwf
       have hbxH := Lib.hid hbx
       clear hbx
       have hNl2H := Lib.hid hNl2
       clear hNl2
       have hst3H := Lib.hid hst3
       clear hst3
       go_wp2_with fail
       go_loopw [18, 101] (fun v i wv => L3 x q N wd _ w2 v i wv) (fun _ i _ => N - (intOf i).toNat)
       case atStart => exact hst3H.out
       case round =>
        clear hst3H
        obtain ⟨k3, A3, n3, c3, hk3, rfl, rfl, hn3, hown, hb3, hbw, hbl, hrow⟩ := hrel
        have hnl := hown.len
        by_cases hlt4 : k3 < N
        ·have f0 := (hrow k3 hlt4).1
         (try dsimp only at f0)
         obtain ⟨bv, hbv⟩ : ∃ b, q k3 = b := ⟨_, rfl⟩
         rw [hbv] at f0
         obtain ⟨_, c1⟩ := hKH.out _ hb3
         have hrs : ((List.range (k3 + 1)).filter q).map (fun i => (woOf x i).id_) = ((List.range k3).filter q).map (fun i => (woOf x i).id_) ++ (if q k3 = true then [(woOf x k3).id_] else []) := by
          rw [List.range_succ, List.filter_append, List.map_append]
          congr 1
          by_cases h9 : q k3 = true
          ·rw [if_pos h9, List.filter_cons_of_pos h9]; rfl
          ·rw [if_neg h9, List.filter_cons_of_neg h9]; rfl
         rw [hbv] at hrs
         cases bv
         ·rw [if_neg (by decide), List.append_nil] at hrs
          have R : L3 x q N wd _ w2 (.slice A3 n3 c3) (.int .i64 ((k3 : Int) + 1)) _ := ⟨k3 + 1, A3, n3, c3, hlt4, by go_num, rfl, by omega, by rw [hrs]; exact hown, hb3, hbw, hbl, hrow⟩
          clear hrs hown c1 hbv
          have RH := Lib.hid R
          clear R
          have hb3H := Lib.hid hb3
          clear hb3
          have hrowH := Lib.hid hrow
          clear hrow
          go_wp2
          refine ⟨?rel, ?measure⟩
          case measure => (simp [intOf]; omega)
          case rel => first | exact RH.out | exact ⟨rfl, RH.out⟩ | ((try refine ⟨rfl, ?_⟩); (repeat apply Exists.intro); refine ⟨RH.out, ?_⟩; ((repeat' apply And.intro) <;> rfl))
         ·rw [if_pos rfl] at hrs
          have hxs9 := hx3H.out.2.1.1.below hb3
          obtain ⟨bx, ox, hA6, _⟩ := hxs9.2.1 (by have := hNeH.out; omega)
          rw [hA6] at c1 hxs9
          obtain ⟨y, hy⟩ : ∃ y, x.works.l[k3]? = some y := ⟨x.works.l[k3]'(by have := hNl2H.out; omega), List.getElem?_eq_getElem _⟩
          obtain ⟨e0, e1, e2, e3⟩ := cells_Work hxs9 hy
          have hokY := (hxs9.2.2 y (List.mem_of_getElem? hy)).1
          rw [woOf_get hy] at hrs
          obtain ⟨yid, ynd, ysz, yaf⟩ := y
          simp only at e0 e1 e2 e3 hokY hrs
          have hnew := slAt_new (R := RStr) wr 9 yid hokY
          have hown7 := hown.alloc (.cells #[.string yid] 9)
          have hb7 := hb3.alloc hb3.size (.cells #[.string yid] 9)
          obtain ⟨L9, hL9⟩ : ∃ q9, ((List.range k3).filter q).map (fun i => (woOf x i).id_) = q9 := ⟨_, rfl⟩
          rw [hL9] at hown7 hrs hnl
          have hbl7 : wd < wr.heap.size := by omega
          clear hown hA6 hxs9 hL9 hbv
          have hb3H := Lib.hid hb3
          clear hb3
          have hrowH := Lib.hid hrow
          clear hrow
          have hrsH := Lib.hid hrs
          clear hrs
          have hnewH := Lib.hid hnew
          clear hnew
          have hown7H := Lib.hid hown7
          clear hown7
          have hb7H := Lib.hid hb7
          clear hb7
          have hyH := Lib.hid hy
          clear hy
          have hokYH := Lib.hid hokY
          clear hokY
          have hnlH := Lib.hid hnl
          clear hnl
          go_wp2_with (at_builtin; go_loud (refine wpList_app rfl (.tmp 107) (.tmp 114) 43 rfl Tryz.underlying43 elem_StrR (by decide) rfl hown7H.out (some ⟨wr.heap.size, 0, none⟩) 1 1 [yid] rfl hnewH.out ?nn ?ok ?c1 ?c2 ?c3 (n3 + 1) ?c4 ?_))
          case nn => intro h; cases h
          case ok => exact fun _ _ _ _ h => h
          case c1 => rw [hnlH.out]; simp [maxLen] <;> omega
          case c2 => rw [hnlH.out]; omega
          case c3 => simp; omega
          case c4 => rw [hnlH.out]
          intro A' c' w8 hown8 hg8 hat8 hb8
          have hbb8 : Below w2.heap.size w2 w8 := hb7H.out.grown hg8 hb7H.out.size (fun b hb' => by have h1 := (hown7H.out.1.lt b hb').1; have h2 := hbxH.out.size; omega)
          have hrow8 : BRow w8 wd N q := (brow_bel hrowH.out ((Below.refl _ _).alloc (Nat.le_refl _) (.cells #[.string yid] 9))).keep (fun _ => hg8.block wd (by simp; omega) (fun e => by have := (hown7H.out.1.lt wd e.symm).1; omega))
          have R : L3 x q N wd _ w2 (.slice A' (n3 + 1) c') (.int .i64 ((k3 : Int) + 1)) w8 := ⟨k3 + 1, A', n3 + 1, c', hlt4, by go_num, rfl, by omega, by rw [hrsH.out]; exact hown8, hbb8, hbw, (by have := hg8.size; simp at this; omega), hrow8⟩
          clear hg8 hat8 hb8 hown8 hrow8 hbb8
          have RH := Lib.hid R
          clear R
          go_wp2
          refine ⟨?rel, ?measure⟩
          case measure => (simp [intOf]; omega)
          case rel => first | exact RH.out | exact ⟨rfl, RH.out⟩ | ((try refine ⟨rfl, ?_⟩); (repeat apply Exists.intro); refine ⟨RH.out, ?_⟩; ((repeat' apply And.intro) <;> rfl))
        ·obtain rfl : k3 = N := by omega
         have hwf9 := hwfH.out
         rw [hwf9] at hown
         have R : Z (.returned (.tuple #[.slice A3 n3 c3, .int .i64 0])) wr := by
          rw [← hZH.out]
          exact .inr ⟨hc0H.out, A3, n3, c3, rfl, hown.slAt, by omega, hbb2H.out.trans (hb3.mono hbb2H.out.size)⟩
         clear hwf9 hown
         have RH := Lib.hid R
         clear R
         have hb3H := Lib.hid hb3
         clear hb3
         have hrowH := Lib.hid hrow
         clear hrow
         go_wp2
         exact RH.out
  ·rw [if_neg h2] at hc
   subst hc
   have R : Z (.returned (.tuple #[.slice none 0 0, .int .i64 f2])) w2 := by
    rw [← hZH.out]; exact .inl ⟨h2, rfl, hbb2⟩
   have h2' : (f2 != 0) = true := by simpa using h2
   clear h2
   have RH := Lib.hid R
   clear R
   have hb2H := Lib.hid hb2
   clear hb2
   have hx3H := Lib.hid hx3
   clear hx3
   have hl3H := Lib.hid hl3
   clear hl3
   have hbb2H := Lib.hid hbb2
   clear hbb2
   go_wp2
   exact RH.out
 ·rw [if_neg h1] at hc
  subst hc
  have R : Z (.returned (.tuple #[.slice none 0 0, .int .i64 f1])) w1 := by
   rw [← hZH.out]; exact .inl ⟨h1, rfl, hbb⟩
  have h1' : (f1 != 0) = true := by simpa using h1
  clear h1
  have RH := Lib.hid R
  clear R
  have hb1H := Lib.hid hb1
  clear hb1
  have hx2H := Lib.hid hx2
  clear hx2
  have hl2H := Lib.hid hl2
  clear hl2
  have hbbH := Lib.hid hbb
  clear hbb
  go_wp2
  exact RH.out
end Go.Proofs.YtbnkoefljcekbaaGreatDoor.C9
