/-
 Several texts of mine as one, without what is not wanted here: XRdy, XFstP, XCFarmW, XFmA.
-/
import Derived.Test.YtbnkoefljcekbaaGreatDoorRbIC9
import Derived.Deep.RegionHeld3
import Derived.Test.YtbnkoefljcekbaaGreatDoorRbEC9
import Derived.Test.YtbnkoefljcekbaaGreatDoorRbDC9
import Derived.Test.YtbnkoefljcekbaaGreatDoorRbAC9
namespace Go.Proofs.YtbnkoefljcekbaaGreatDoor.C9
open Go.ChangeShapes Go.WideShapes Go.Deep Go.RowKit
set_option linter.unusedVariables false
set_option linter.unusedSimpArgs false

/-- the boxes of l and done, wherever they lie, and done itself -/
structure RdC (P Q DB N c : Nat) (A : Option Addr) (f : Nat → Bool) (W : World) : Prop where
 c0 : W.cell? ⟨P, 0, none⟩ = some (.slice A N c)
 cD : W.cell? ⟨Q, 0, none⟩ = some (.slice (some ⟨DB, 0, none⟩) N N)
 row : BRow W DB N f
 lt : DB < W.heap.size
theorem RdC.below {P Q DB N c : Nat} {A : Option Addr} {f : Nat → Bool} {W W' : World} (h : RdC P Q DB N c A f W) (hb : Below W.heap.size W W') : RdC P Q DB N c A f W' :=
 ⟨(hb.cell (cell?_lt h.c0)).trans h.c0, (hb.cell (cell?_lt h.cD)).trans h.cD, h.row.below hb h.lt, Nat.lt_of_lt_of_le h.lt hb.size⟩
set_option maxHeartbeats 1000000 in
theorem rdy1_any (P Q DB N c : Nat) (A : Option Addr) (f : Nat → Bool) (l : List Work) (s : ByteArray) (W : World) (hN : N ≤ 1000) (hF : RdC P Q DB N c A f W) (hl : SlAt RWork W A N l) (hr : l.Pairwise fun a b => cmpS a.id_ b.id_ = -1) (hs : hasId l s = true) :
  Calls Tryz.prog 154 #[.string s, .pointer (some ⟨P, 0, none⟩), .pointer (some ⟨Q, 0, none⟩)] W fun e w' => e = .returned (.bool (!f (ixOf l s))) ∧ Below W.heap.size W w' := by
 have c0 := hF.c0
 have hll := hl.1
 obtain ⟨k, hk⟩ : ∃ k, ixOf l s = k := ⟨_, rfl⟩
 have hkl : k < N := by rw [← hk, ← hll]; exact ixOf_lt hs
 rw [hk]
 obtain ⟨u, hu⟩ : ∃ u, f k = u := ⟨_, rfl⟩
 rw [hu]
 have hFH := Lib.hid hF
 clear hF
 have hlH := Lib.hid hl
 clear hl
 have hrH := Lib.hid hr
 clear hr
 have hsH := Lib.hid hs
 clear hs
 have hkH := Lib.hid hk
 clear hk
 have huH := Lib.hid hu
 clear hu
 go_enter Tryz.func154, Tryz.ntmps154
 go_wp2_with fail
 refine (workAt_any A N c l s _ hN hlH.out hrH.out).mono ?_
 rintro e w1 ⟨i, rfl, hi, hb⟩
 rw [hsH.out]
 obtain rfl : i = k := (hi hsH.out).trans hkH.out
 have hF1 := hFH.out.below hb
 have cD := hF1.cD
 have cR := (hF1.row i hkl).1
 rw [huH.out] at cR
 clear hi c0
 have hF1H := Lib.hid hF1
 clear hF1
 have hbH := Lib.hid hb
 clear hb
 go_wp2
 go_ret
 exact ⟨rfl, hbH.out⟩
def rdP (l : List Work) (f : Nat → Bool) (k : Nat) : Bool := (gOf l k).all f
theorem rdP_get {l : List Work} {f : Nat → Bool} {k : Nat} {x : Work} (hx : l[k]? = some x) {b : Bool} (hb : x.after.l.any (fun s => !f (ixOf l s)) = b) : rdP l f k = !b := by
 unfold rdP
 rw [gOf_get hx, List.all_map, ← hb, List.not_any_eq_all_not]
 simp [Function.comp_def]
set_option maxRecDepth 100000 in
set_option maxHeartbeats 2000000 in
theorem ready_any (DB N c : Nat) (A : Option Addr) (f : Nat → Bool) (l : List Work) (k : Nat) (w : World) (hN : N ≤ 1000) (hrow : BRow w DB N f) (hDB : DB < w.heap.size) (hl : SlAt RWork w A N l) (hok : WOk l) (hk : k < N) :
  Calls Tryz.prog 106 #[.slice A N c, .int .i64 k, .slice (some ⟨DB, 0, none⟩) N N] w fun e w' => e = .returned (.bool (rdP l f k)) ∧ Below w.heap.size w w' := by
 have hll := hl.1
 have eg : ∀ args w, (callFunc 154 args).run Tryz.prog w = .ok (.enter 154 args) w := enters_of Tryz.func154 (by kernel_rfl) rfl
 obtain ⟨b, off, hA, _⟩ := hl.2.1 (by omega)
 subst hA
 obtain ⟨x, hx⟩ : ∃ x, l[k]? = some x := ⟨l[k]'(by omega), List.getElem?_eq_getElem _⟩
 obtain ⟨W, hW⟩ : ∃ X, (w.alloc (.cells #[.slice (some ⟨b, off, none⟩) N c] 23)).alloc (.cells #[.slice (some ⟨DB, 0, none⟩) N N] 59) = X := ⟨_, rfl⟩
 have hb : Below w.heap.size w W := by rw [← hW]; exact ((Below.refl _ _).alloc (Nat.le_refl _) _).alloc (by simp) _
 have hF : RdC w.heap.size (w.heap.size + 1) DB N c (some ⟨b, off, none⟩) f W := by
  have b0 := (Boxed.new w 23 (.slice (some ⟨b, off, none⟩) N c)).alloc (.cells #[.slice (some ⟨DB, 0, none⟩) N N] 59)
  have b1 := Boxed.new (w.alloc (.cells #[.slice (some ⟨b, off, none⟩) N c] 23)) 59 (.slice (some ⟨DB, 0, none⟩) N N)
  rw [World.size_alloc] at b1
  rw [hW] at b0 b1
  exact ⟨b0.cell, b1.cell, hrow.below hb hDB, Nat.lt_of_lt_of_le hDB hb.size⟩
 obtain ⟨d0, d1, d2, d3⟩ := cells_Work (hl.below hb) hx
 have hxm := List.mem_of_getElem? hx
 have hxa := (hl.2.2 x hxm).2.2.2
 have hxn : x.after.n ≤ 9223372036854775807 := Nat.le_trans hxa.2.1 hxa.2.2.1
 have hsl := hxa.1.below hb
 obtain ⟨pb, hpb⟩ : ∃ b, x.after.l.any (fun s => !f (ixOf l s)) = b := ⟨_, rfl⟩
 have hpred : PredL 154 #[.pointer (some ⟨w.heap.size, 0, none⟩), .pointer (some ⟨w.heap.size + 1, 0, none⟩)] (fun s => !f (ixOf l s)) x.after.l W := fun W' s hs hW' =>
  rdy1_any _ _ DB N c _ f l s W' hN (hF.below hW') ((hl.below hb).below hW') hok.rise (allThere_get hok.all hx hs)
 have hrp := rdP_get hx hpb
 rw [hrp]
 have c0 := hF.c0
 have hlH := Lib.hid hl
 clear hl
 have hokH := Lib.hid hok
 clear hok
 have hxH := Lib.hid hx
 clear hx
 have hbH := Lib.hid hb
 clear hb
 have hFH := Lib.hid hF
 clear hF
 have hxaH := Lib.hid hxa
 clear hxa
 have hslH := Lib.hid hsl
 clear hsl
 have hpbH := Lib.hid hpb
 clear hpb
 have hpredH := Lib.hid hpred
 clear hpred
 have hrpH := Lib.hid hrp
 clear hrp
 have hrowH := Lib.hid hrow
 clear hrow
 go_enter Tryz.func106, Tryz.ntmps106
 go_wp2_with fail
 refine (containsFunc_any 154 #[.pointer (some ⟨w.heap.size, 0, none⟩), .pointer (some ⟨w.heap.size + 1, 0, none⟩)] eg (fun s => !f (ixOf l s)) x.after.A x.after.n x.after.cap x.after.l _ hslH.out hxn hpredH.out pb hpbH.out).mono ?_
 rintro e w5 ⟨rfl, hw5⟩
 have hb5 := hbH.out.trans (hw5.mono hbH.out.size)
 clear hw5
 have hb5H := Lib.hid hb5
 clear hb5
 go_wp2
 go_ret
 exact ⟨rfl, hb5H.out⟩
end Go.Proofs.YtbnkoefljcekbaaGreatDoor.C9

namespace Go.Proofs.YtbnkoefljcekbaaGreatDoor.C9
open Go.ChangeShapes Go.WideShapes Go.Deep Go.RowKit
set_option linter.unusedVariables false
set_option linter.unusedSimpArgs false

theorem keepC {W w' : World} {a : Addr} {v : Value} (hb : Below W.heap.size W w') (h : W.cell? a = some v) : w'.cell? a = some v := (hb.cell (cell?_lt h)).trans h
theorem RdC.set {P Q DB N c k : Nat} {A : Option Addr} {f : Nat → Bool} {W : World} (h : RdC P Q DB N c A f W) (hP : P ≠ DB) (hQ : Q ≠ DB) : RdC P Q DB N c A (fun j => if j = k then true else f j) (W.setCell ⟨DB, k, none⟩ (.bool true)) :=
 ⟨by rw [World.cell?_setCell_other _ _ _ _ (by intro e; exact hP (congrArg Addr.block e).symm)]; exact h.c0, by rw [World.cell?_setCell_other _ _ _ _ (by intro e; exact hQ (congrArg Addr.block e).symm)]; exact h.cD, h.row.set true, by simpa using h.lt⟩

end Go.Proofs.YtbnkoefljcekbaaGreatDoor.C9

namespace Go.Proofs.YtbnkoefljcekbaaGreatDoor.C9
open Go.ChangeShapes Go.WideShapes Go.Deep Go.RowKit
set_option linter.unusedVariables false
set_option linter.unusedSimpArgs false

def LosRel (ws : List Worker) (l : List Loss) (d : Int) (w0 : World) (i : Value) (wr : World) : Prop :=
 ∃ k : Nat, k ≤ l.length ∧ i = .int .i64 k ∧ lossErr ws (prevLo l k) (l.drop k) = d ∧ Below w0.heap.size w0 wr
def CfAns (c : Int) (w : World) (e : Ending) (w' : World) : Prop := e = .returned (.int .i64 c) ∧ Below w.heap.size w w'
abbrev farmV (x : Farm) : Value := .agg #[.slice x.workers.A x.workers.n x.workers.cap, .slice x.works.A x.works.n x.works.cap, .slice x.lost.A x.lost.n x.lost.cap, .int .i64 x.tries, .bool x.doubles]
set_option maxRecDepth 100000 in
set_option maxHeartbeats 8000000 in
theorem farm_any (x : Farm) (w : World) (hx : RFarm.ok w x) (c : Int) (hF : farmF x = c) :
  Calls Tryz.prog 12 #[farmV x] w (CfAns c w) := by
 obtain ⟨hx0, hx1, hx2, hx3, hx4⟩ := hx
 unfold farmV
 obtain ⟨Z, hZ⟩ : ∃ Z, CfAns c w = Z := ⟨_, rfl⟩
 have hZ' : ∀ W, Below w.heap.size w W → Z (.returned (.int .i64 c)) W := fun W h => by rw [← hZ]; exact ⟨rfl, h⟩
 rw [hZ]
 clear hZ
 unfold farmF at hF
 obtain ⟨⟨wA, wn, wc, wsl⟩, ⟨xA, xn, xc, xsl⟩, ⟨lA, ln, lc, lsl⟩, tr, db⟩ := x
 simp only at hx0 hx1 hx2 hx3 hx4 hF ⊢
 obtain ⟨W1, hW1⟩ : ∃ Y, w.alloc (.cells #[.slice wA wn wc, .slice xA xn xc, .slice lA ln lc, .int .i64 tr, .bool db] 26) = Y := ⟨_, rfl⟩
 obtain ⟨xb, hxb⟩ : ∃ b, w.heap.size = b := ⟨_, rfl⟩
 have hba : Below w.heap.size w W1 := by rw [← hW1]; exact (Below.refl _ _).alloc (Nat.le_refl _) _
 have c0 : W1.cell? ⟨xb, 0, none⟩ = some (.slice wA wn wc) := by rw [← hW1, ← hxb]; exact cell_new _ _ _ 0
 have c1 : W1.cell? ⟨xb, 1, none⟩ = some (.slice xA xn xc) := by rw [← hW1, ← hxb]; exact cell_new _ _ _ 1
 have c2 : W1.cell? ⟨xb, 2, none⟩ = some (.slice lA ln lc) := by rw [← hW1, ← hxb]; exact cell_new _ _ _ 2
 have c3 : W1.cell? ⟨xb, 3, none⟩ = some (.int .i64 tr) := by rw [← hW1, ← hxb]; exact cell_new _ _ _ 3
 have hw1 : SlAt RWorker W1 wA wn wsl := hx0.1.below hba
 have hw2 : SlAt RWork W1 xA xn xsl := hx1.1.below hba
 have hw3 : SlAt RLoss W1 lA ln lsl := hx2.1.below hba
 have hm2 : ln ≤ lc ∧ lc ≤ maxLen := ⟨hx2.2.1, hx2.2.2.1⟩
 have hC : ∀ W, Below W1.heap.size W1 W → W.cell? ⟨xb, 2, none⟩ = some (.slice lA ln lc) ∧ W.cell? ⟨xb, 0, none⟩ = some (.slice wA wn wc) ∧ W.cell? ⟨xb, 3, none⟩ = some (.int .i64 tr) := fun W h => ⟨keepC h c2, keepC h c0, keepC h c3⟩
 have hll : lsl.length = ln := hw3.1
 have hwl : wsl.length = wn := hw1.1
 obtain ⟨f1, hf1⟩ : ∃ f, workersF wsl = f := ⟨_, rfl⟩
 obtain ⟨f2, hf2⟩ : ∃ f, worksF xsl = f := ⟨_, rfl⟩
 rw [hf1, hf2] at hF
 have RZ : ∀ W, Below W1.heap.size W1 W → Z (.returned (.int .i64 c)) W := fun W h => hZ' W (hba.trans (h.mono hba.size))
 have hCH := Lib.hid hC
 clear hC
 have hZ'H := Lib.hid hZ'
 clear hZ'
 have hx0H := Lib.hid hx0
 clear hx0
 have hx1H := Lib.hid hx1
 clear hx1
 have hx2H := Lib.hid hx2
 clear hx2
 have hx3H := Lib.hid hx3
 clear hx3
 have hx4H := Lib.hid hx4
 clear hx4
 have hW1H := Lib.hid hW1
 clear hW1
 have hxbH := Lib.hid hxb
 clear hxb
 have hbaH := Lib.hid hba
 clear hba
 have hw1H := Lib.hid hw1
 clear hw1
 have hw2H := Lib.hid hw2
 clear hw2
 have hw3H := Lib.hid hw3
 clear hw3
 have hFH := Lib.hid hF
 clear hF
 have hf1H := Lib.hid hf1
 clear hf1
 have hf2H := Lib.hid hf2
 clear hf2
 have hllH := Lib.hid hll
 clear hll
 have hwlH := Lib.hid hwl
 clear hwl
 have RZH := Lib.hid RZ
 clear RZ
 go_enter Tryz.func12, Tryz.ntmps12
 go_wp2_with fail
 rw [hW1H.out, hxbH.out]
 refine (workers_any wA wn wc wsl _ hw1H.out f1 hf1H.out).mono ?_
 rintro e w1 ⟨rfl, hb1⟩
 have c0 := keepC hb1 c0
 have c1 := keepC hb1 c1
 have c2 := keepC hb1 c2
 have c3 := keepC hb1 c3
 have hF := hFH.out
 clear hFH
 by_cases h1 : f1 = 0
 ·subst h1
  rw [if_pos rfl] at hF
  have hb1H := Lib.hid hb1
  clear hb1
  have hFH := Lib.hid hF
  clear hF
  go_wp2_with fail
  refine (works_any xA xn xc xsl _ (hw2H.out.below hb1H.out) f2 hf2H.out).mono ?_
  rintro e w2 ⟨rfl, hb2⟩
  have c0 := keepC hb2 c0
  have c2 := keepC hb2 c2
  have c3 := keepC hb2 c3
  have hb2 := hb1H.out.trans (hb2.mono hb1H.out.size)
  have hF := hFH.out
  clear hFH
  by_cases h2 : f2 = 0
  ·subst h2
   rw [if_pos rfl, hllH.out] at hF
   by_cases h3 : ln ≤ 200
   ·rw [if_pos h3] at hF
    obtain ⟨d, hd⟩ : ∃ d, lossErr wsl none lsl = d := ⟨_, rfl⟩
    rw [hd] at hF
    have hst : LosRel wsl lsl d W1 (.int .i64 0) w2 := ⟨0, Nat.zero_le _, rfl, hd, hb2⟩
    have hrise : wsl.length ≤ 50 ∧ wsl.Pairwise fun a b => cmpS a.name b.name = -1 := by
     have h := hf1H.out
     unfold workersF at h
     by_cases h6 : wsl.length ≤ 50
     ·rw [if_pos h6] at h; exact ⟨h6, (workersErr_ok _ _ h).2.1⟩
     ·rw [if_neg h6] at h; exact absurd h (by decide)
    have he5 : (5 : Int) = d → c = 5 := fun e => by rw [← e, if_neg (by decide)] at hF; exact hF.symm
    have he1 : (1 : Int) = d → c = 1 := fun e => by rw [← e, if_neg (by decide)] at hF; exact hF.symm
    have he8 : (8 : Int) = d → c = 8 := fun e => by rw [← e, if_neg (by decide)] at hF; exact hF.symm
    have he0 : (0 : Int) = d → (if inR 1 10 tr = true then 0 else 1) = c := fun e => by rw [← e, if_pos rfl] at hF; exact hF
    clear hF
    have hb2H := Lib.hid hb2
    clear hb2
    have hstH := Lib.hid hst
    clear hst
    have hdH := Lib.hid hd
    clear hd
    have hriseH := Lib.hid hrise
    clear hrise
    have he5H := Lib.hid he5
    clear he5
    have he1H := Lib.hid he1
    clear he1
    have he8H := Lib.hid he8
    clear he8
    have he0H := Lib.hid he0
    clear he0
    go_wp2_with fail
    clear c0 c1 c2 c3
    go_loopw [28] (fun i w5 => LosRel wsl lsl d W1 i w5) (fun i _ => ln - (intOf i).toNat)
    case atStart => exact hstH.out
    case round =>
     clear hstH
     obtain ⟨k, hk, rfl, hck, hb⟩ := hrel
     have hkl : k ≤ ln := by have := hllH.out; omega
     have hbs := hb.size
     obtain ⟨c2, c0, c3⟩ := hCH.out wr hb
     by_cases hlt : k < ln
     ·have hsl := hw3H.out.below hb
      obtain ⟨bl, ol, hA9, _⟩ := hsl.2.1 (by omega)
      subst hA9
      obtain ⟨y, hy⟩ : ∃ y, lsl[k]? = some y := ⟨lsl[k]'(by have := hllH.out; omega), List.getElem?_eq_getElem _⟩
      obtain ⟨d0, d1⟩ := cells_Loss hsl hy
      have hok := hsl.2.2 y (List.mem_of_getElem? hy)
      rw [drop_lo hy, lossErr] at hck
      have hkl2 : k + 1 ≤ lsl.length := by have := hllH.out; omega
      have hpn : prevLo lsl (k + 1) = some y := by rw [prevLo, if_neg (by omega), show k + 1 - 1 = k from rfl, hy]
      obtain ⟨nm, mt⟩ := y
      simp only at d0 d1 hck
      have hba := hb.alloc hbs (.cells #[.string nm, .int .i64 mt] 71)
      have hbas := hba.size
      have c0a := keepC ((Below.refl wr.heap.size wr).alloc (Nat.le_refl _) (.cells #[.string nm, .int .i64 mt] 71)) c0
      have hwk := (hw1H.out.below hba)
      have n5 : hasNm wsl nm = false → c = 5 := fun h => he5H.out (by rw [h] at hck; rw [if_neg (by decide)] at hck; exact hck)
      obtain ⟨hn, hhn⟩ : ∃ b, hasNm wsl nm = b := ⟨_, rfl⟩
      rw [hhn] at n5
      have hyH := Lib.hid hy
      clear hy
      have hckH := Lib.hid hck
      clear hck
      have hbH := Lib.hid hb
      clear hb
      have hbaH := Lib.hid hba
      clear hba
      have hbasH := Lib.hid hbas
      clear hbas
      have hokH := Lib.hid hok
      clear hok
      have hpnH := Lib.hid hpn
      clear hpn
      have hkl2H := Lib.hid hkl2
      clear hkl2
      have hwkH := Lib.hid hwk
      clear hwk
      have hslH := Lib.hid hsl
      clear hsl
      have n5H := Lib.hid n5
      clear n5
      have hhnH := Lib.hid hhn
      clear hhn
      go_wp2_with fail
      refine (workerAt_any wA wn wc wsl nm _ (by have := hriseH.out.1; have := hwlH.out; omega) hwkH.out hriseH.out.2).mono ?_
      rintro e w4 ⟨i, rfl, _, hw4⟩
      rw [hhnH.out]
      have q0 : w4.cell? ⟨wr.heap.size, 0, none⟩ = some (.string nm) := (hw4.cell (by simp)).trans (cell_new _ _ _ 0)
      have q1 : w4.cell? ⟨wr.heap.size, 1, none⟩ = some (.int .i64 mt) := (hw4.cell (by simp)).trans (cell_new _ _ _ 1)
      have hb4 := hbaH.out.trans (hw4.mono hbasH.out)
      clear c0 c0a c2 c3 d0 d1
      have c2 := (hCH.out w4 hb4).1
      cases hn
      ·obtain rfl := n5H.out rfl
       have R := RZH.out _ hb4
       have RH := Lib.hid R
       clear R
       have hb4H := Lib.hid hb4
       clear hb4
       have hw4H := Lib.hid hw4
       clear hw4
       go_wp2
       exact RH.out
      ·have hck := hckH.out
       clear hckH
       rw [if_pos hhnH.out] at hck
       by_cases i1 : inR 0 1000000000 mt = true
       ·rw [if_pos i1] at hck
        by_cases hk0 : k = 0
        ·subst hk0
         have R : ∀ nq, LosRel wsl lsl d W1 (.int .i64 1) (w4.drewN nq) := by
          refine fun nq => ⟨1, hkl2H.out, by go_num, ?_, bel_drewN hb4 nq⟩
          rw [prevLo, if_pos rfl, Option.map_none, if_neg (by decide)] at hck
          rw [show prevLo lsl 1 = _ from hpnH.out]
          exact hck
         have RH := Lib.hid R
         clear R
         have hckH := Lib.hid hck
         clear hck
         have hb4H := Lib.hid hb4
         clear hb4
         have hw4H := Lib.hid hw4
         clear hw4
         go_wp2_with (go_at_call 39; refine (moment_p _ _).mono ?_; rintro e wz ⟨rfl, rfl⟩)
         go_quiet (fail)
         go_wp2
         refine ⟨?rel, ?measure⟩
         case measure => (simp [intOf]; omega)
         case rel => first | exact (RH.out _) | exact ⟨rfl, (RH.out _)⟩ | ((try refine ⟨rfl, ?_⟩); (repeat apply Exists.intro); refine ⟨(RH.out _), ?_⟩; ((repeat' apply And.intro) <;> rfl))
        ·obtain ⟨j, rfl⟩ : ∃ j, k = j + 1 := ⟨k - 1, by omega⟩
         obtain ⟨y, hy⟩ : ∃ y, lsl[j]? = some y := ⟨lsl[j]'(by have := hllH.out; omega), List.getElem?_eq_getElem _⟩
         obtain ⟨d0, d1⟩ := cells_Loss (hw3H.out.below hb4) hy
         have hpr : prevLo lsl (j + 1) = some y := by rw [prevLo, if_neg (by omega), show j + 1 - 1 = j from rfl, hy]
         rw [hpr, Option.map_some] at hck
         clear hpr
         obtain ⟨ynm, ymt⟩ := y
         simp only at d0 d1
         have f0 : (0 : Int) ≤ (j : Int) := by omega
         have f1 : (j : Int) < (ln : Int) := by omega
         have hln2 : ln ≤ 200 := h3
         have f2 : IntKind.i64.wrap ((j : Int) + 1 - 1) = (j : Int) := by rw [show (j : Int) + 1 - 1 = (j : Int) by omega]; exact IntWalk.i64_in _ (by omega)
         have f3 : (j : Int).toNat = j := by omega
         have f4 : IntKind.i64.wrap (j : Int) = (j : Int) := IntWalk.i64_in _ (by omega)
         have f5 : IntKind.i64.wrap (((j + 1 : Nat) : Int) - 1) = (j : Int) := by rw [show ((j + 1 : Nat) : Int) - 1 = (j : Int) by omega]; exact f4
         obtain ⟨cc, hcc⟩ : ∃ cc, lossCmp ⟨nm, mt⟩ ⟨ynm, ymt⟩ = cc := ⟨_, rfl⟩
         have hle := lossCmp_le ⟨nm, mt⟩ ⟨ynm, ymt⟩
         rw [hcc] at hle
         rw [← hle] at hck
         unfold lossCmp at hcc
         clear hle
         cases hcd : decide (cc ≤ 0)
         ·rw [hcd, if_neg (by decide)] at hck
          have R : ∀ wx, Below W1.heap.size W1 wx → LosRel wsl lsl d W1 (.int .i64 (j + 1 + 1)) wx := by
           refine fun wx hbx => ⟨j + 1 + 1, hkl2H.out, by go_num, ?_, hbx⟩
           rw [hpnH.out]
           exact hck
          have hckH := Lib.hid hck
          clear hck
          have hccH := Lib.hid hcc
          clear hcc
          have hb4H := Lib.hid hb4
          clear hb4
          have hw4H := Lib.hid hw4
          clear hw4
          have RH := Lib.hid R
          clear R
          have hyH := Lib.hid hy
          clear hy
          go_wp2_with (go_at_call 39; refine (moment_p _ _).mono ?_; rintro e wz ⟨rfl, rfl⟩)
          go_region_held3 (fun w' => w'.cell? ⟨wr.heap.size, 0, none⟩ = some (.string nm) ∧ w'.cell? ⟨wr.heap.size, 1, none⟩ = some (.int .i64 mt) ∧ w'.cell? ⟨xb, 2, none⟩ = some (.slice (some ⟨bl, ol, none⟩) ln lc) ∧ w'.cell? ⟨bl, ol + j * 2, none⟩ = some (.string ynm) ∧ w'.cell? ⟨bl, ol + j * 2 + 1, none⟩ = some (.int .i64 ymt)) (go_keep)
           (first
            | (go_at_call 41; refine (Tryz.cmp_Compare_int _ _ _).mono ?_; rintro e w1 ⟨rfl, rfl⟩)
            | (go_at_call 42; refine (Tryz.strings_Compare _ _ _).mono ?_; rintro e w1 ⟨rfl, rfl⟩)
            | (go_at_call 40; refine (or_any _ 2 _ [Lib.compareInt mt ymt, cmpS nm ynm] _ (by omega) (or_cells2 rfl ?_ ?_ (I64_of (cmpI_range _ _)) (I64_of (cmpS_range _ _))) cc (by exact hccH.out)).mono ?_; (simp [go_sem]); (simp [go_sem]; rfl); rintro e w1 ⟨rfl, rfl⟩))
          go_wp2
          refine ⟨?rel, ?measure⟩
          case measure => (simp [intOf]; omega)
          case rel => first | exact (RH.out _ (by first | exact bel_drewN (Below.alloc hb4H.out (by have := hb4H.out.size; omega) _) _ | exact (Below.alloc hb4H.out (by have := hb4H.out.size; omega) _).drew)) | exact ⟨rfl, (RH.out _ (by first | exact bel_drewN (Below.alloc hb4H.out (by have := hb4H.out.size; omega) _) _ | exact (Below.alloc hb4H.out (by have := hb4H.out.size; omega) _).drew))⟩ | ((try refine ⟨rfl, ?_⟩); (repeat apply Exists.intro); refine ⟨(RH.out _ (by first | exact bel_drewN (Below.alloc hb4H.out (by have := hb4H.out.size; omega) _) _ | exact (Below.alloc hb4H.out (by have := hb4H.out.size; omega) _).drew)), ?_⟩; ((repeat' apply And.intro) <;> rfl))
         ·rw [hcd, if_pos rfl] at hck
          obtain rfl := he8H.out hck
          have R : ∀ W, Below W1.heap.size W1 W → _ := RZH.out
          have hckH := Lib.hid hck
          clear hck
          have hccH := Lib.hid hcc
          clear hcc
          have hb4H := Lib.hid hb4
          clear hb4
          have hw4H := Lib.hid hw4
          clear hw4
          have RH := Lib.hid R
          clear R
          have hyH := Lib.hid hy
          clear hy
          go_wp2_with (go_at_call 39; refine (moment_p _ _).mono ?_; rintro e wz ⟨rfl, rfl⟩)
          go_region_held3 (fun w' => w'.cell? ⟨wr.heap.size, 0, none⟩ = some (.string nm) ∧ w'.cell? ⟨wr.heap.size, 1, none⟩ = some (.int .i64 mt) ∧ w'.cell? ⟨xb, 2, none⟩ = some (.slice (some ⟨bl, ol, none⟩) ln lc) ∧ w'.cell? ⟨bl, ol + j * 2, none⟩ = some (.string ynm) ∧ w'.cell? ⟨bl, ol + j * 2 + 1, none⟩ = some (.int .i64 ymt)) (go_keep)
           (first
            | (go_at_call 41; refine (Tryz.cmp_Compare_int _ _ _).mono ?_; rintro e w1 ⟨rfl, rfl⟩)
            | (go_at_call 42; refine (Tryz.strings_Compare _ _ _).mono ?_; rintro e w1 ⟨rfl, rfl⟩)
            | (go_at_call 40; refine (or_any _ 2 _ [Lib.compareInt mt ymt, cmpS nm ynm] _ (by omega) (or_cells2 rfl ?_ ?_ (I64_of (cmpI_range _ _)) (I64_of (cmpS_range _ _))) cc (by exact hccH.out)).mono ?_; (simp [go_sem]); (simp [go_sem]; rfl); rintro e w1 ⟨rfl, rfl⟩))
          go_wp2
          exact RH.out _ (by first | exact bel_drewN (Below.alloc hb4H.out (by have := hb4H.out.size; omega) _) _ | exact (Below.alloc hb4H.out (by have := hb4H.out.size; omega) _).drew)
       ·rw [if_neg i1] at hck
        obtain rfl := he1H.out hck
        have R := RZH.out _ hb4
        have i1' : inR 0 1000000000 mt = false := by simpa using i1
        clear i1
        have RH := Lib.hid R
        clear R
        have hb4H := Lib.hid hb4
        clear hb4
        have hw4H := Lib.hid hw4
        clear hw4
        have hckH := Lib.hid hck
        clear hck
        go_wp2_with (go_at_call 39; refine (moment_p _ _).mono ?_; rintro e wz ⟨rfl, rfl⟩)
        exact RH.out
     ·obtain rfl : k = ln := by omega
      have e : lsl.drop k = [] := List.drop_eq_nil_of_le (by have := hllH.out; omega)
      rw [e, lossErr] at hck
      have hF := he0H.out hck
      clear e hck
      by_cases i1 : inR 1 10 tr = true
      ·rw [if_pos i1] at hF
       subst hF
       have R := RZH.out _ hb
       have RH := Lib.hid R
       clear R
       have hbH := Lib.hid hb
       clear hb
       go_wp2_with (go_at_call 43; refine (within_p _ _ _ _).mono ?_; rintro e wz ⟨rfl, rfl⟩)
       exact RH.out
      ·rw [if_neg i1] at hF
       subst hF
       have i1' : inR 1 10 tr = false := by simpa using i1
       clear i1
       have R := RZH.out _ hb
       have RH := Lib.hid R
       clear R
       have hbH := Lib.hid hb
       clear hb
       go_wp2_with (go_at_call 43; refine (within_p _ _ _ _).mono ?_; rintro e wz ⟨rfl, rfl⟩)
       exact RH.out
   ·rw [if_neg h3] at hF
    subst hF
    have R := RZH.out _ hb2
    have RH := Lib.hid R
    clear R
    have hb2H := Lib.hid hb2
    clear hb2
    go_wp2
    exact RH.out
  ·rw [if_neg h2] at hF
   subst hF
   have R := RZH.out _ hb2
   have h2' : (f2 != 0) = true := by simpa using h2
   clear h2
   have RH := Lib.hid R
   clear R
   have hb2H := Lib.hid hb2
   clear hb2
   go_wp2
   exact RH.out
 ·rw [if_neg h1] at hF
  subst hF
  have R := RZH.out _ hb1
  have h1' : (f1 != 0) = true := by simpa using h1
  clear h1
  have RH := Lib.hid R
  clear R
  have hb1H := Lib.hid hb1
  clear hb1
  go_wp2
  exact RH.out
end Go.Proofs.YtbnkoefljcekbaaGreatDoor.C9

namespace Go.Proofs.YtbnkoefljcekbaaGreatDoor.C9
open Go.ChangeShapes Go.WideShapes Go.Deep Go.RowKit
set_option linter.unusedVariables false
set_option linter.unusedSimpArgs false

theorem busy_take {P : List RR} {n k : Nat} {r : RR} (hg : ∀ r ∈ P, going r = true) (h : P[n]? = some r) : busy (P.take (n + 1)) k = busy (P.take n) k + (if r.worker = k then 1 else 0) := by
 unfold busy
 rw [List.take_add_one, h, Option.toList_some, List.countP_append, List.countP_singleton, hg r (List.mem_of_getElem? h)]
 by_cases e : r.worker = k
 ·simp [e]
 ·simp [e]
theorem busy_len (P : List RR) (k : Nat) : busy P k ≤ P.length := List.countP_le_length
def RnRel (P : List RR) (k : Nat) (w : World) (n i : Value) (wr : World) : Prop :=
 ∃ j : Nat, j ≤ P.length ∧ i = .int .i64 j ∧ n = .int .i64 (busy (P.take j) k) ∧ Below w.heap.size w wr
set_option maxHeartbeats 1000000 in
theorem running_any (fb : Nat) (A : Option Addr) (n cap : Nat) (F : FP) (P : List RR) (k : Nat) (w : World) (h8 : w.cell? ⟨fb, 8, none⟩ = some (.slice A n cap)) (hl : SlAt RGRun w A n (P.map (gr F))) (hn : n ≤ 1000000) (hg : ∀ r ∈ P, going r = true) :
  Calls Tryz.prog 205 #[.pointer (some ⟨fb, 0, none⟩), .int .i64 k] w fun e w' => e = .returned (.int .i64 (busy P k)) ∧ Below w.heap.size w w' := by
 have hll : P.length = n := by have := hl.1; rwa [List.length_map] at this
 have hfl := cell?_lt h8
 have hlH := Lib.hid hl
 clear hl
 have hgH := Lib.hid hg
 clear hg
 have hllH := Lib.hid hll
 clear hll
 go_enter Tryz.func205, Tryz.ntmps205
 go_wp2_with fail
 go_loopw [5, 13] (fun c i wr => RnRel P k w c i wr) (fun _ i _ => n - (intOf i).toNat)
 case atStart => exact ⟨0, Nat.zero_le _, rfl, rfl, Below.refl _ _⟩
 case round =>
  obtain ⟨j, hj, rfl, rfl, hb⟩ := hrel
  have hbl := busy_len (P.take j) k
  rw [List.length_take] at hbl
  have hln := hllH.out
  by_cases hlt : j < n
  ·obtain ⟨b, off, hA, _⟩ := hlH.out.2.1 (by omega)
   subst hA
   obtain ⟨r, hr⟩ : ∃ r, P[j]? = some r := ⟨P[j]'(by omega), List.getElem?_eq_getElem _⟩
   obtain ⟨d0, d1, d2, d3⟩ := cells_GRun (hlH.out.below hb) (x := gr F r) (by rw [List.getElem?_map, hr]; rfl)
   have hst := busy_take (k := k) hgH.out hr
   have hbs := hb.size
   have hba := hb.alloc hbs (.cells #[.int .i64 (gr F r).work, .int .i64 (gr F r).worker, .int .i64 (gr F r).from_, .int .i64 (gr F r).end_] 144)
   have hw : (gr F r).worker = (r.worker : Int) := rfl
   obtain ⟨c, hc⟩ : ∃ c, busy (P.take j) k = c := ⟨_, rfl⟩
   rw [hc] at hst hbl ⊢
   rw [hw] at d1 hba
   obtain ⟨g0, hg0⟩ : ∃ g, (gr F r).work = g := ⟨_, rfl⟩
   obtain ⟨g2, hg2⟩ : ∃ g, (gr F r).from_ = g := ⟨_, rfl⟩
   obtain ⟨g3, hg3⟩ : ∃ g, (gr F r).end_ = g := ⟨_, rfl⟩
   rw [hg0] at d0 hba
   rw [hg2] at d2 hba
   rw [hg3] at d3 hba
   have hj1 : j + 1 ≤ P.length := by omega
   by_cases e : r.worker = k
   ·rw [if_pos e] at hst
    have R : RnRel P k w (.int .i64 ((c : Int) + 1)) (.int .i64 ((j : Int) + 1)) (wr.alloc (.cells #[.int .i64 g0, .int .i64 r.worker, .int .i64 g2, .int .i64 g3] 144)) :=
     ⟨j + 1, hj1, by go_num, by rw [hst]; go_num, hba⟩
    have e' : ((r.worker : Int) == (k : Int)) = true := by rw [e]; simp
    clear e hw hg0 hg2 hg3
    have hrH := Lib.hid hr
    clear hr
    have hbH := Lib.hid hb
    clear hb
    have hstH := Lib.hid hst
    clear hst
    have hbaH := Lib.hid hba
    clear hba
    have hcH := Lib.hid hc
    clear hc
    have RH := Lib.hid R
    clear R
    have hlnH := Lib.hid hln
    clear hln
    go_wp2
    refine ⟨?rel, ?measure⟩
    case measure => (simp [intOf]; omega)
    case rel => first | exact RH.out | exact ⟨rfl, RH.out⟩ | ((try refine ⟨rfl, ?_⟩); (repeat apply Exists.intro); refine ⟨RH.out, ?_⟩; ((repeat' apply And.intro) <;> rfl))
   ·rw [if_neg e] at hst
    have R : RnRel P k w (.int .i64 (c : Int)) (.int .i64 ((j : Int) + 1)) (wr.alloc (.cells #[.int .i64 g0, .int .i64 r.worker, .int .i64 g2, .int .i64 g3] 144)) :=
     ⟨j + 1, hj1, by go_num, by rw [hst]; go_num, hba⟩
    have e' : ((r.worker : Int) == (k : Int)) = false := by simpa using fun h => e (by omega)
    clear e hw hg0 hg2 hg3
    have hrH := Lib.hid hr
    clear hr
    have hbH := Lib.hid hb
    clear hb
    have hstH := Lib.hid hst
    clear hst
    have hbaH := Lib.hid hba
    clear hba
    have hcH := Lib.hid hc
    clear hc
    have RH := Lib.hid R
    clear R
    have hlnH := Lib.hid hln
    clear hln
    go_wp2
    refine ⟨?rel, ?measure⟩
    case measure => (simp [intOf]; omega)
    case rel => first | exact RH.out | exact ⟨rfl, RH.out⟩ | ((try refine ⟨rfl, ?_⟩); (repeat apply Exists.intro); refine ⟨RH.out, ?_⟩; ((repeat' apply And.intro) <;> rfl))
  ·obtain rfl : j = n := by omega
   rw [List.take_of_length_le (by omega)]
   have hbH := Lib.hid hb
   clear hb
   have hlnH := Lib.hid hln
   clear hln
   have hblH := Lib.hid hbl
   clear hbl
   go_wp2
   go_ret
   exact ⟨rfl, hbH.out⟩
end Go.Proofs.YtbnkoefljcekbaaGreatDoor.C9
