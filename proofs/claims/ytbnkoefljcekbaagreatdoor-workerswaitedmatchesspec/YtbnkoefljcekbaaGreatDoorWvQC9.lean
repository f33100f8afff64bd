/-
 Several texts of mine as one, without what is not wanted here: XCFarmR, XRCheckRuns.
-/
import Derived.Test.YtbnkoefljcekbaaGreatDoorWvIC9
import Derived.Test.YtbnkoefljcekbaaGreatDoorWvHC9
namespace Go.Proofs.YtbnkoefljcekbaaGreatDoor.C9
open Go.ChangeShapes Go.WideShapes Go.Deep Go.RowKit
set_option linter.unusedVariables false
set_option linter.unusedSimpArgs false

set_option maxRecDepth 100000 in
set_option maxHeartbeats 8000000 in
theorem rfarm_any (x : Farm) (w : World) (hx : RFarm.ok w x) (c : Int) (hF : farmF x = c) :
  Calls Tryz.prog 13 #[farmV x] w (CfAns c w) := by
 obtain ⟨hx0, hx1, hx2, hx3, hx4⟩ := hx
 unfold farmV
 obtain ⟨Z, hZ⟩ : ∃ Z, CfAns c w = Z := ⟨_, rfl⟩
 have hZ' : ∀ W, Below w.heap.size w W → Z (.returned (.int .i64 c)) W := fun W h => by rw [← hZ]; exact ⟨rfl, h⟩
 rw [hZ]
 clear hZ
 unfold farmF at hF
 obtain ⟨⟨wA, wn, wc, wsl⟩, ⟨xA, xn, xc, xsl⟩, ⟨lA, ln, lc, lsl⟩, tr, db⟩ := x
 simp only at hx0 hx1 hx2 hx3 hx4 hF ⊢
 obtain ⟨W1, hW1⟩ : ∃ Y, w.alloc (.cells #[.slice wA wn wc, .slice xA xn xc, .slice lA ln lc, .int .i64 tr, .bool db] 26) = Y := ⟨_, rfl⟩
 obtain ⟨xb, hxb⟩ : ∃ b, w.heap.size = b := ⟨_, rfl⟩
 have hba : Below w.heap.size w W1 := by rw [← hW1]; exact (Below.refl _ _).alloc (Nat.le_refl _) _
 have c0 : W1.cell? ⟨xb, 0, none⟩ = some (.slice wA wn wc) := by rw [← hW1, ← hxb]; exact cell_new _ _ _ 0
 have c1 : W1.cell? ⟨xb, 1, none⟩ = some (.slice xA xn xc) := by rw [← hW1, ← hxb]; exact cell_new _ _ _ 1
 have c2 : W1.cell? ⟨xb, 2, none⟩ = some (.slice lA ln lc) := by rw [← hW1, ← hxb]; exact cell_new _ _ _ 2
 have c3 : W1.cell? ⟨xb, 3, none⟩ = some (.int .i64 tr) := by rw [← hW1, ← hxb]; exact cell_new _ _ _ 3
 have hw1 : SlAt RWorker W1 wA wn wsl := hx0.1.below hba
 have hw2 : SlAt RWork W1 xA xn xsl := hx1.1.below hba
 have hw3 : SlAt RLoss W1 lA ln lsl := hx2.1.below hba
 have hm2 : ln ≤ lc ∧ lc ≤ maxLen := ⟨hx2.2.1, hx2.2.2.1⟩
 have hC : ∀ W, Below W1.heap.size W1 W → W.cell? ⟨xb, 2, none⟩ = some (.slice lA ln lc) ∧ W.cell? ⟨xb, 0, none⟩ = some (.slice wA wn wc) ∧ W.cell? ⟨xb, 3, none⟩ = some (.int .i64 tr) := fun W h => ⟨keepC h c2, keepC h c0, keepC h c3⟩
 have hll : lsl.length = ln := hw3.1
 have hwl : wsl.length = wn := hw1.1
 obtain ⟨f1, hf1⟩ : ∃ f, workersF wsl = f := ⟨_, rfl⟩
 obtain ⟨f2, hf2⟩ : ∃ f, worksF xsl = f := ⟨_, rfl⟩
 rw [hf1, hf2] at hF
 have RZ : ∀ W, Below W1.heap.size W1 W → Z (.returned (.int .i64 c)) W := fun W h => hZ' W (hba.trans (h.mono hba.size))
 have hCH := Lib.hid hC
 clear hC
 have hZ'H := Lib.hid hZ'
 clear hZ'
 have hx0H := Lib.hid hx0
 clear hx0
 have hx1H := Lib.hid hx1
 clear hx1
 have hx2H := Lib.hid hx2
 clear hx2
 have hx3H := Lib.hid hx3
 clear hx3
 have hx4H := Lib.hid hx4
 clear hx4
 have hW1H := Lib.hid hW1
 clear hW1
 have hxbH := Lib.hid hxb
 clear hxb
 have hbaH := Lib.hid hba
 clear hba
 have hw1H := Lib.hid hw1
 clear hw1
 have hw2H := Lib.hid hw2
 clear hw2
 have hw3H := Lib.hid hw3
 clear hw3
 have hFH := Lib.hid hF
 clear hF
 have hf1H := Lib.hid hf1
 clear hf1
 have hf2H := Lib.hid hf2
 clear hf2
 have hllH := Lib.hid hll
 clear hll
 have hwlH := Lib.hid hwl
 clear hwl
 have RZH := Lib.hid RZ
 clear RZ
 go_enter Tryz.func13, Tryz.ntmps13
 go_wp2_with fail
 rw [hW1H.out, hxbH.out]
 refine (rworkers_any wA wn wc wsl _ hw1H.out f1 hf1H.out).mono ?_
 rintro e w1 ⟨rfl, hb1⟩
 have c0 := keepC hb1 c0
 have c1 := keepC hb1 c1
 have c2 := keepC hb1 c2
 have c3 := keepC hb1 c3
 have hF := hFH.out
 clear hFH
 by_cases h1 : f1 = 0
 ·subst h1
  rw [if_pos rfl] at hF
  have hb1H := Lib.hid hb1
  clear hb1
  have hFH := Lib.hid hF
  clear hF
  go_wp2_with fail
  refine (rworks_any xA xn xc xsl _ (hw2H.out.below hb1H.out) f2 hf2H.out).mono ?_
  rintro e w2 ⟨rfl, hb2⟩
  have c0 := keepC hb2 c0
  have c2 := keepC hb2 c2
  have c3 := keepC hb2 c3
  have hb2 := hb1H.out.trans (hb2.mono hb1H.out.size)
  have hF := hFH.out
  clear hFH
  by_cases h2 : f2 = 0
  ·subst h2
   rw [if_pos rfl, hllH.out] at hF
   by_cases h3 : ln ≤ 200
   ·rw [if_pos h3] at hF
    obtain ⟨d, hd⟩ : ∃ d, lossErr wsl none lsl = d := ⟨_, rfl⟩
    rw [hd] at hF
    have hst : LosRel wsl lsl d W1 (.int .i64 0) w2 := ⟨0, Nat.zero_le _, rfl, hd, hb2⟩
    have hrise : wsl.length ≤ 50 ∧ wsl.Pairwise fun a b => cmpS a.name b.name = -1 := by
     have h := hf1H.out
     unfold workersF at h
     by_cases h6 : wsl.length ≤ 50
     ·rw [if_pos h6] at h; exact ⟨h6, (workersErr_ok _ _ h).2.1⟩
     ·rw [if_neg h6] at h; exact absurd h (by decide)
    have he5 : (5 : Int) = d → c = 5 := fun e => by rw [← e, if_neg (by decide)] at hF; exact hF.symm
    have he1 : (1 : Int) = d → c = 1 := fun e => by rw [← e, if_neg (by decide)] at hF; exact hF.symm
    have he8 : (8 : Int) = d → c = 8 := fun e => by rw [← e, if_neg (by decide)] at hF; exact hF.symm
    have he0 : (0 : Int) = d → (if inR 1 10 tr = true then 0 else 1) = c := fun e => by rw [← e, if_pos rfl] at hF; exact hF
    clear hF
    have hb2H := Lib.hid hb2
    clear hb2
    have hstH := Lib.hid hst
    clear hst
    have hdH := Lib.hid hd
    clear hd
    have hriseH := Lib.hid hrise
    clear hrise
    have he5H := Lib.hid he5
    clear he5
    have he1H := Lib.hid he1
    clear he1
    have he8H := Lib.hid he8
    clear he8
    have he0H := Lib.hid he0
    clear he0
    go_wp2_with fail
    clear c0 c1 c2 c3
    go_loopw [26] (fun i w5 => LosRel wsl lsl d W1 i w5) (fun i _ => ln - (intOf i).toNat)
    case atStart => exact hstH.out
    case round =>
     clear hstH
     obtain ⟨k, hk, rfl, hck, hb⟩ := hrel
     have hkl : k ≤ ln := by have := hllH.out; omega
     have hbs := hb.size
     obtain ⟨c2, c0, c3⟩ := hCH.out wr hb
     by_cases hlt : k < ln
     ·have hsl := hw3H.out.below hb
      obtain ⟨bl, ol, hA9, _⟩ := hsl.2.1 (by omega)
      subst hA9
      obtain ⟨y, hy⟩ : ∃ y, lsl[k]? = some y := ⟨lsl[k]'(by have := hllH.out; omega), List.getElem?_eq_getElem _⟩
      obtain ⟨d0, d1⟩ := cells_Loss hsl hy
      have hok := hsl.2.2 y (List.mem_of_getElem? hy)
      rw [drop_lo hy, lossErr] at hck
      have hkl2 : k + 1 ≤ lsl.length := by have := hllH.out; omega
      have hpn : prevLo lsl (k + 1) = some y := by rw [prevLo, if_neg (by omega), show k + 1 - 1 = k from rfl, hy]
      obtain ⟨nm, mt⟩ := y
      simp only at d0 d1 hck
      have hba := hb.alloc hbs (.cells #[.string nm, .int .i64 mt] 71)
      have hbas := hba.size
      have c0a := keepC ((Below.refl wr.heap.size wr).alloc (Nat.le_refl _) (.cells #[.string nm, .int .i64 mt] 71)) c0
      have hwk := (hw1H.out.below hba)
      have n5 : hasNm wsl nm = false → c = 5 := fun h => he5H.out (by rw [h] at hck; rw [if_neg (by decide)] at hck; exact hck)
      obtain ⟨hn, hhn⟩ : ∃ b, hasNm wsl nm = b := ⟨_, rfl⟩
      rw [hhn] at n5
      have hyH := Lib.hid hy
      clear hy
      have hckH := Lib.hid hck
      clear hck
      have hbH := Lib.hid hb
      clear hb
      have hbaH := Lib.hid hba
      clear hba
      have hbasH := Lib.hid hbas
      clear hbas
      have hokH := Lib.hid hok
      clear hok
      have hpnH := Lib.hid hpn
      clear hpn
      have hkl2H := Lib.hid hkl2
      clear hkl2
      have hwkH := Lib.hid hwk
      clear hwk
      have hslH := Lib.hid hsl
      clear hsl
      have n5H := Lib.hid n5
      clear n5
      have hhnH := Lib.hid hhn
      clear hhn
      go_wp2_with fail
      refine (workerOf_any wA wn wc wsl nm _ (by have := hriseH.out.1; have := hwlH.out; omega) hwkH.out).mono ?_
      rintro e w4 ⟨rfl, hw4⟩
      have hwf : wkF wsl nm = if hn = true then ((ixNm wsl nm : Nat) : Int) else -1 := by unfold wkF; rw [hhnH.out]
      rw [hwf]
      have q0 : w4.cell? ⟨wr.heap.size, 0, none⟩ = some (.string nm) := (hw4.cell (by simp)).trans (cell_new _ _ _ 0)
      have q1 : w4.cell? ⟨wr.heap.size, 1, none⟩ = some (.int .i64 mt) := (hw4.cell (by simp)).trans (cell_new _ _ _ 1)
      have hb4 := hbaH.out.trans (hw4.mono hbasH.out)
      clear c0 c0a c2 c3 d0 d1
      have c2 := (hCH.out w4 hb4).1
      cases hn
      ·obtain rfl := n5H.out rfl
       have R := RZH.out _ hb4
       rw [if_neg (by decide)]
       clear hwf
       have RH := Lib.hid R
       clear R
       have hb4H := Lib.hid hb4
       clear hb4
       have hw4H := Lib.hid hw4
       clear hw4
       go_wp2
       exact RH.out
      ·have hck := hckH.out
       clear hckH
       rw [if_pos hhnH.out] at hck
       rw [if_pos rfl]
       clear hwf
       obtain ⟨ixn, hixn⟩ : ∃ v, ixNm wsl nm = v := ⟨_, rfl⟩
       rw [hixn]
       have dix : decide ((ixn : Int) < 0) = false := decide_eq_false (by omega)
       clear hixn
       by_cases i1 : inR 0 1000000000 mt = true
       ·rw [if_pos i1] at hck
        by_cases hk0 : k = 0
        ·subst hk0
         have R : ∀ nq, LosRel wsl lsl d W1 (.int .i64 1) (w4.drewN nq) := by
          refine fun nq => ⟨1, hkl2H.out, by go_num, ?_, bel_drewN hb4 nq⟩
          rw [prevLo, if_pos rfl, Option.map_none, if_neg (by decide)] at hck
          rw [show prevLo lsl 1 = _ from hpnH.out]
          exact hck
         have RH := Lib.hid R
         clear R
         have hckH := Lib.hid hck
         clear hck
         have hb4H := Lib.hid hb4
         clear hb4
         have hw4H := Lib.hid hw4
         clear hw4
         go_wp2_with (go_at_call 47; refine (within_r _ _ _ _).mono ?_; rintro e wz ⟨rfl, rfl⟩)
         go_quiet (fail)
         go_wp2
         refine ⟨?rel, ?measure⟩
         case measure => (simp [intOf]; omega)
         case rel => first | exact (RH.out _) | exact ⟨rfl, (RH.out _)⟩ | ((try refine ⟨rfl, ?_⟩); (repeat apply Exists.intro); refine ⟨(RH.out _), ?_⟩; ((repeat' apply And.intro) <;> rfl))
        ·obtain ⟨j, rfl⟩ : ∃ j, k = j + 1 := ⟨k - 1, by omega⟩
         obtain ⟨y, hy⟩ : ∃ y, lsl[j]? = some y := ⟨lsl[j]'(by have := hllH.out; omega), List.getElem?_eq_getElem _⟩
         obtain ⟨d0, d1⟩ := cells_Loss (hw3H.out.below hb4) hy
         have hpr : prevLo lsl (j + 1) = some y := by rw [prevLo, if_neg (by omega), show j + 1 - 1 = j from rfl, hy]
         rw [hpr, Option.map_some] at hck
         clear hpr
         obtain ⟨ynm, ymt⟩ := y
         simp only at d0 d1
         have f0 : (0 : Int) ≤ (j : Int) := by omega
         have f1 : (j : Int) < (ln : Int) := by omega
         have hln2 : ln ≤ 200 := h3
         have f2 : IntKind.i64.wrap ((j : Int) + 1 - 1) = (j : Int) := by rw [show (j : Int) + 1 - 1 = (j : Int) by omega]; exact IntWalk.i64_in _ (by omega)
         have f3 : (j : Int).toNat = j := by omega
         have f4 : IntKind.i64.wrap (j : Int) = (j : Int) := IntWalk.i64_in _ (by omega)
         have f5 : IntKind.i64.wrap (((j + 1 : Nat) : Int) - 1) = (j : Int) := by rw [show ((j + 1 : Nat) : Int) - 1 = (j : Int) by omega]; exact f4
         have hLE : lossLe ⟨nm, mt⟩ ⟨ynm, ymt⟩ = (decide (mt < ymt) || (decide (mt = ymt) && sle nm ynm)) := rfl
         rw [hLE] at hck
         clear hLE
         by_cases hA : mt < ymt
         ·have dA : decide (mt < ymt) = true := decide_eq_true hA
          rw [dA, Bool.true_or, if_pos rfl] at hck
          obtain rfl := he8H.out hck
          have R : ∀ nq, Z (.returned (.int .i64 8)) (w4.drewN nq) := fun nq => RZH.out _ (bel_drewN hb4 nq)
          have hckH := Lib.hid hck
          clear hck
          have hb4H := Lib.hid hb4
          clear hb4
          have hw4H := Lib.hid hw4
          clear hw4
          have RH := Lib.hid R
          clear R
          have hyH := Lib.hid hy
          clear hy
          go_wp2_with (go_at_call 47; refine (within_r _ _ _ _).mono ?_; rintro e wz ⟨rfl, rfl⟩)
          go_quiet (fail)
          go_wp2
          exact RH.out _
         ·have dA : decide (mt < ymt) = false := decide_eq_false hA
          rw [dA, Bool.false_or] at hck
          by_cases hB : mt = ymt
          ·have dB : (mt == ymt) = true := by simpa using hB
           rw [decide_eq_true hB, Bool.true_and] at hck
           cases hle : sle nm ynm
           ·have hle' : (Op.bytesLess nm.toList ynm.toList || nm.toList == ynm.toList) = false := hle
            rw [hle, if_neg (by decide)] at hck
            have R : ∀ nq, LosRel wsl lsl d W1 (.int .i64 (j + 1 + 1)) (w4.drewN nq) := by
             refine fun nq => ⟨j + 1 + 1, hkl2H.out, by go_num, ?_, bel_drewN hb4 nq⟩
             rw [hpnH.out]
             exact hck
            clear hB
            have hckH := Lib.hid hck
            clear hck
            have hleH := Lib.hid hle
            clear hle
            have hb4H := Lib.hid hb4
            clear hb4
            have hw4H := Lib.hid hw4
            clear hw4
            have RH := Lib.hid R
            clear R
            have hyH := Lib.hid hy
            clear hy
            go_wp2_with (go_at_call 47; refine (within_r _ _ _ _).mono ?_; rintro e wz ⟨rfl, rfl⟩)
            go_quiet (fail)
            go_wp2
            refine ⟨?rel, ?measure⟩
            case measure => (simp [intOf]; omega)
            case rel => first | exact (RH.out _) | exact ⟨rfl, (RH.out _)⟩ | ((try refine ⟨rfl, ?_⟩); (repeat apply Exists.intro); refine ⟨(RH.out _), ?_⟩; ((repeat' apply And.intro) <;> rfl))
           ·have hle' : (Op.bytesLess nm.toList ynm.toList || nm.toList == ynm.toList) = true := hle
            rw [hle, if_pos rfl] at hck
            obtain rfl := he8H.out hck
            have R : ∀ nq, Z (.returned (.int .i64 8)) (w4.drewN nq) := fun nq => RZH.out _ (bel_drewN hb4 nq)
            clear hB
            have hckH := Lib.hid hck
            clear hck
            have hleH := Lib.hid hle
            clear hle
            have hb4H := Lib.hid hb4
            clear hb4
            have hw4H := Lib.hid hw4
            clear hw4
            have RH := Lib.hid R
            clear R
            have hyH := Lib.hid hy
            clear hy
            go_wp2_with (go_at_call 47; refine (within_r _ _ _ _).mono ?_; rintro e wz ⟨rfl, rfl⟩)
            go_quiet (fail)
            go_wp2
            exact RH.out _
          ·have dB : (mt == ymt) = false := by simpa using hB
           rw [decide_eq_false hB, Bool.false_and, if_neg (by decide)] at hck
           have R : ∀ nq, LosRel wsl lsl d W1 (.int .i64 (j + 1 + 1)) (w4.drewN nq) := by
            refine fun nq => ⟨j + 1 + 1, hkl2H.out, by go_num, ?_, bel_drewN hb4 nq⟩
            rw [hpnH.out]
            exact hck
           clear hB
           have hckH := Lib.hid hck
           clear hck
           have hb4H := Lib.hid hb4
           clear hb4
           have hw4H := Lib.hid hw4
           clear hw4
           have RH := Lib.hid R
           clear R
           have hyH := Lib.hid hy
           clear hy
           go_wp2_with (go_at_call 47; refine (within_r _ _ _ _).mono ?_; rintro e wz ⟨rfl, rfl⟩)
           go_quiet (fail)
           go_wp2
           refine ⟨?rel, ?measure⟩
           case measure => (simp [intOf]; omega)
           case rel => first | exact (RH.out _) | exact ⟨rfl, (RH.out _)⟩ | ((try refine ⟨rfl, ?_⟩); (repeat apply Exists.intro); refine ⟨(RH.out _), ?_⟩; ((repeat' apply And.intro) <;> rfl))
       ·rw [if_neg i1] at hck
        obtain rfl := he1H.out hck
        have R := RZH.out _ hb4
        have i1' : inR 0 1000000000 mt = false := by simpa using i1
        clear i1
        have RH := Lib.hid R
        clear R
        have hb4H := Lib.hid hb4
        clear hb4
        have hw4H := Lib.hid hw4
        clear hw4
        have hckH := Lib.hid hck
        clear hck
        go_wp2_with (go_at_call 47; refine (within_r _ _ _ _).mono ?_; rintro e wz ⟨rfl, rfl⟩)
        exact RH.out
     ·obtain rfl : k = ln := by omega
      have e : lsl.drop k = [] := List.drop_eq_nil_of_le (by have := hllH.out; omega)
      rw [e, lossErr] at hck
      have hF := he0H.out hck
      clear e hck
      by_cases i1 : inR 1 10 tr = true
      ·rw [if_pos i1] at hF
       subst hF
       have R := RZH.out _ hb
       have RH := Lib.hid R
       clear R
       have hbH := Lib.hid hb
       clear hb
       go_wp2_with (go_at_call 47; refine (within_r _ _ _ _).mono ?_; rintro e wz ⟨rfl, rfl⟩)
       exact RH.out
      ·rw [if_neg i1] at hF
       subst hF
       have i1' : inR 1 10 tr = false := by simpa using i1
       clear i1
       have R := RZH.out _ hb
       have RH := Lib.hid R
       clear R
       have hbH := Lib.hid hb
       clear hb
       go_wp2_with (go_at_call 47; refine (within_r _ _ _ _).mono ?_; rintro e wz ⟨rfl, rfl⟩)
       exact RH.out
   ·rw [if_neg h3] at hF
    subst hF
    have R := RZH.out _ hb2
    have RH := Lib.hid R
    clear R
    have hb2H := Lib.hid hb2
    clear hb2
    go_wp2
    exact RH.out
  ·rw [if_neg h2] at hF
   subst hF
   have R := RZH.out _ hb2
   have h2' : (f2 != 0) = true := by simpa using h2
   clear h2
   have RH := Lib.hid R
   clear R
   have hb2H := Lib.hid hb2
   clear hb2
   go_wp2
   exact RH.out
 ·rw [if_neg h1] at hF
  subst hF
  have R := RZH.out _ hb1
  have h1' : (f1 != 0) = true := by simpa using h1
  clear h1
  have RH := Lib.hid R
  clear R
  have hb1H := Lib.hid hb1
  clear hb1
  go_wp2
  exact RH.out
end Go.Proofs.YtbnkoefljcekbaaGreatDoor.C9

namespace Go.Proofs.YtbnkoefljcekbaaGreatDoor.C9
open Go.RowKit
set_option linter.unusedVariables false

set_option maxRecDepth 100000 in
set_option maxHeartbeats 2000000 in
theorem rruns_ok (A : Option Addr) (len cap : Nat) (l : List Run) (w : World) (hlen : len ≤ 4000) (hl : SlAt RRun w A len l) (c : Int) (hF : runsErr none l = c) :
  Calls Tryz.prog 65 #[.slice A len cap] w fun e w' => e = .returned (.int .i64 c) ∧ Below w.heap.size w w' := by
 have hll := hl.1
 have hllH := Lib.hid hll
 clear hll
 have hFH := Lib.hid hF
 clear hF
 have hlH := Lib.hid hl
 clear hl
 go_enter Tryz.func65, Tryz.ntmps65
 go_wp2
 go_loopw [10] (fun i wr => RunsRel l c w i wr) (fun i _ => len - (intOf i).toNat)
 case atStart => exact ⟨0, Nat.zero_le _, rfl, hFH.out, Below.refl _ _⟩
 case round =>
  obtain ⟨k, hk, rfl, hck, hb⟩ := hrel
  have hkl : k ≤ len := by have := hllH.out; omega
  have hbs := hb.size
  by_cases hlt : k < len
  ·obtain ⟨b, off, hA, _⟩ := hlH.out.2.1 (by omega)
   subst hA
   obtain ⟨x, hx⟩ : ∃ x, l[k]? = some x := ⟨l[k]'(by have := hllH.out; omega), List.getElem?_eq_getElem _⟩
   obtain ⟨c0, c1, c2, c3, c4⟩ := cells_Run (hlH.out.below hb) hx
   obtain ⟨o0, o1, _⟩ := hlH.out.2.2 x (List.mem_of_getElem? hx)
   have hkl2 : k + 1 ≤ l.length := by have := hllH.out; omega
   have hpn : prevRun l (k + 1) = some x := by rw [prevRun, if_neg (by omega), show k + 1 - 1 = k from rfl, hx]
   rw [drop_cons hx, runsErr] at hck
   obtain ⟨id, wk, fr, tz, en⟩ := x
   simp only at c0 c1 c2 c3 c4 hck o0 o1
   obtain ⟨b1, hb1⟩ : ∃ b, wordB id = b := ⟨_, rfl⟩
   obtain ⟨b2, hb2⟩ : ∃ b, wordB wk = b := ⟨_, rfl⟩
   have hba := hb.alloc hbs (.cells #[.string id, .string wk, .int .i64 fr, .int .i64 tz, .int .i64 en] 34)
   have hbas := hba.size
   have hxH := Lib.hid hx
   clear hx
   have hbH := Lib.hid hb
   clear hb
   have hbaH := Lib.hid hba
   clear hba
   have hbasH := Lib.hid hbas
   clear hbas
   have o0H := Lib.hid o0
   clear o0
   have o1H := Lib.hid o1
   clear o1
   have hb1H := Lib.hid hb1
   clear hb1
   have hb2H := Lib.hid hb2
   clear hb2
   have hpnH := Lib.hid hpn
   clear hpn
   have hckH := Lib.hid hck
   clear hck
   have hkl2H := Lib.hid hkl2
   clear hkl2
   go_wp2_with fail
   refine (rword_b id b1 _ o0H.out hb1H.out).mono ?_
   rintro e w1 ⟨rfl, hw1⟩
   obtain ⟨q0, q1, q2, q3, q4⟩ := five_below hw1 ⟨cell_new _ _ _ 0, cell_new _ _ _ 1, cell_new _ _ _ 2, cell_new _ _ _ 3, cell_new _ _ _ 4⟩
   have hbw1 := hbaH.out.trans (hw1.mono hbasH.out)
   clear c0 c1 c2 c3 c4
   have hw1H := Lib.hid hw1
   clear hw1
   have hbw1H := Lib.hid hbw1
   clear hbw1
   cases b1
   ·have hck := hckH.out
    clear hckH
    rw [if_neg (by rw [hb1H.out]; simp)] at hck
    clear q0 q1 q2 q3 q4
    have hckH := Lib.hid hck
    clear hck
    go_wp2
    go_ret
    exact ⟨ret1_int hckH.out, hbw1H.out⟩
   ·go_wp2_with fail
    refine (rword_b wk b2 _ o1H.out hb2H.out).mono ?_
    rintro e w2 ⟨rfl, hw2⟩
    obtain ⟨q0, q1, q2, q3, q4⟩ := five_below hw2 ⟨q0, q1, q2, q3, q4⟩
    have hbw2 := hbw1H.out.trans (hw2.mono hbw1H.out.size)
    have hw2H := Lib.hid hw2
    clear hw2
    have hbw2H := Lib.hid hbw2
    clear hbw2
    cases b2
    ·have hck := hckH.out
     clear hckH
     rw [if_neg (by rw [hb2H.out]; simp)] at hck
     clear q0 q1 q2 q3 q4
     have hckH := Lib.hid hck
     clear hck
     go_wp2
     go_ret
     exact ⟨ret1_int hckH.out, hbw2H.out⟩
    ·have hck := hckH.out
     clear hckH
     rw [if_pos ⟨hb1H.out, hb2H.out⟩] at hck
     by_cases i2 : inR 0 1000000000 fr = true
     ·by_cases i3 : inR 0 1000000000 tz = true
      ·rw [if_pos ⟨i2, i3⟩] at hck
       by_cases hle : tz < fr
       ·rw [if_pos hle] at hck
        have hckH := Lib.hid hck
        clear hck
        go_wp2_with (go_at_call 47; refine (within_r _ _ _ _).mono ?_; rintro e wz ⟨rfl, rfl⟩)
        go_ret
        exact ⟨ret1_int hckH.out, hbw2H.out⟩
       ·rw [if_neg hle] at hck
        have hle2 : decide (tz < fr) = false := decide_eq_false hle
        by_cases i4 : inR 1 3 en = true
        ·rw [if_pos i4] at hck
         by_cases hk0 : k = 0
         ·subst hk0
          have R : ∀ nq, RunsRel l c w (.int .i64 1) (w2.drewN nq) := by
           refine fun nq => ⟨1, hkl2H.out, by go_num, ?_, bel_drewN hbw2H.out nq⟩
           rw [prevRun, if_pos rfl, Option.map_none, if_neg (by decide)] at hck
           rw [show prevRun l 1 = _ from hpnH.out]
           exact hck
          have RH := Lib.hid R
          clear R
          have hckH := Lib.hid hck
          clear hck
          go_wp2_with (go_at_call 47; refine (within_r _ _ _ _).mono ?_; rintro e wz ⟨rfl, rfl⟩)
          go_quiet (fail)
          go_wp2
          refine ⟨?rel, ?measure⟩
          case measure => (simp [intOf]; omega)
          case rel => first | exact (RH.out _) | exact ⟨rfl, (RH.out _)⟩ | ((try refine ⟨rfl, ?_⟩); (repeat apply Exists.intro); refine ⟨(RH.out _), ?_⟩; ((repeat' apply And.intro) <;> rfl))
         ·obtain ⟨j, rfl⟩ : ∃ j, k = j + 1 := ⟨k - 1, by omega⟩
          obtain ⟨y, hy⟩ : ∃ y, l[j]? = some y := ⟨l[j]'(by have := hllH.out; omega), List.getElem?_eq_getElem _⟩
          obtain ⟨d0, d1, d2, d3, d4⟩ := cells_Run (hlH.out.below hbw2H.out) hy
          have hpr : prevRun l (j + 1) = some y := by rw [prevRun, if_neg (by omega), show j + 1 - 1 = j from rfl, hy]
          rw [hpr, Option.map_some] at hck
          clear hpr
          have hyH := Lib.hid hy
          clear hy
          have f0 : (0 : Int) ≤ (j : Int) := by omega
          have f1 : (j : Int) < (len : Int) := by omega
          have f2 : IntKind.i64.wrap ((j : Int) + 1 - 1) = (j : Int) := by rw [show (j : Int) + 1 - 1 = (j : Int) by omega]; exact IntWalk.i64_in _ (by omega)
          have f3 : (j : Int).toNat = j := by omega
          have f4 : IntKind.i64.wrap (j : Int) = (j : Int) := IntWalk.i64_in _ (by omega)
          have f5 : IntKind.i64.wrap (((j + 1 : Nat) : Int) - 1) = (j : Int) := by rw [show ((j + 1 : Nat) : Int) - 1 = (j : Int) by omega]; exact f4
          have R0 : runsErr (some ⟨id, wk, fr, tz, en⟩) (l.drop (j + 1 + 1)) = c → ∀ wx, Below w.heap.size w wx → RunsRel l c w (.int .i64 (j + 1 + 1)) wx := by
           refine fun hc wx hbx => ⟨j + 1 + 1, hkl2H.out, by go_num, ?_, hbx⟩
           rw [hpnH.out]
           exact hc
          cases hlt3 : runLt y ⟨id, wk, fr, tz, en⟩
          ·skip
           rw [hlt3, if_pos rfl] at hck
           clear R0
           have hckH := Lib.hid hck
           clear hck
           have hlt3H := Lib.hid hlt3
           clear hlt3
           go_wp2_with (go_at_call 47; refine (within_r _ _ _ _).mono ?_; rintro e wz ⟨rfl, rfl⟩)
           go_region_held3 (fun w' => w'.cell? ⟨wr.heap.size, 0, none⟩ = some (.string id) ∧ w'.cell? ⟨wr.heap.size, 1, none⟩ = some (.string wk) ∧ w'.cell? ⟨wr.heap.size, 2, none⟩ = some (.int .i64 fr) ∧ w'.cell? ⟨wr.heap.size, 3, none⟩ = some (.int .i64 tz) ∧ w'.cell? ⟨wr.heap.size, 4, none⟩ = some (.int .i64 en) ∧ w'.cell? ⟨b, off + j * 5, none⟩ = some (.string y.id_) ∧ w'.cell? ⟨b, off + j * 5 + 1, none⟩ = some (.string y.worker) ∧ w'.cell? ⟨b, off + j * 5 + 2, none⟩ = some (.int .i64 y.from_) ∧ w'.cell? ⟨b, off + j * 5 + 3, none⟩ = some (.int .i64 y.to_) ∧ w'.cell? ⟨b, off + j * 5 + 4, none⟩ = some (.int .i64 y.end_)) (first | go_keep | exact ten_below (by assumption) (by assumption))
            (first | (go_at_call 34; refine (before_any y ⟨id, wk, fr, tz, en⟩ _ _ (by exact hlt3H.out)).mono ?_; rintro e w3 ⟨rfl, hw3⟩))
           go_wp2
           go_ret
           exact ⟨ret1_int hckH.out, hbw2H.out.drew.trans (Below.mono hw3 hbw2H.out.drew.size)⟩
          ·skip
           rw [hlt3, if_neg (by decide)] at hck
           have R := R0 hck
           clear R0
           have hckH := Lib.hid hck
           clear hck
           have hlt3H := Lib.hid hlt3
           clear hlt3
           have RH := Lib.hid R
           clear R
           go_wp2_with (go_at_call 47; refine (within_r _ _ _ _).mono ?_; rintro e wz ⟨rfl, rfl⟩)
           go_region_held3 (fun w' => w'.cell? ⟨wr.heap.size, 0, none⟩ = some (.string id) ∧ w'.cell? ⟨wr.heap.size, 1, none⟩ = some (.string wk) ∧ w'.cell? ⟨wr.heap.size, 2, none⟩ = some (.int .i64 fr) ∧ w'.cell? ⟨wr.heap.size, 3, none⟩ = some (.int .i64 tz) ∧ w'.cell? ⟨wr.heap.size, 4, none⟩ = some (.int .i64 en) ∧ w'.cell? ⟨b, off + j * 5, none⟩ = some (.string y.id_) ∧ w'.cell? ⟨b, off + j * 5 + 1, none⟩ = some (.string y.worker) ∧ w'.cell? ⟨b, off + j * 5 + 2, none⟩ = some (.int .i64 y.from_) ∧ w'.cell? ⟨b, off + j * 5 + 3, none⟩ = some (.int .i64 y.to_) ∧ w'.cell? ⟨b, off + j * 5 + 4, none⟩ = some (.int .i64 y.end_)) (first | go_keep | exact ten_below (by assumption) (by assumption))
            (first | (go_at_call 34; refine (before_any y ⟨id, wk, fr, tz, en⟩ _ _ (by exact hlt3H.out)).mono ?_; rintro e w3 ⟨rfl, hw3⟩))
           go_wp2
           have R3 := RH.out w3 (hbw2H.out.drew.trans (Below.mono hw3 hbw2H.out.drew.size))
           refine ⟨?rel, ?measure⟩
           case measure => (simp [intOf]; omega)
           case rel => first | exact R3 | exact ⟨rfl, R3⟩ | ((try refine ⟨rfl, ?_⟩); (repeat apply Exists.intro); refine ⟨R3, ?_⟩; ((repeat' apply And.intro) <;> rfl))
        ·rw [if_neg i4] at hck
         have i4 : inR 1 3 en = false := by simpa using i4
         have hckH := Lib.hid hck
         clear hck
         go_wp2_with (go_at_call 47; refine (within_r _ _ _ _).mono ?_; rintro e wz ⟨rfl, rfl⟩)
         go_ret
         exact ⟨ret1_int hckH.out, hbw2H.out⟩
      ·rw [if_neg (fun h => i3 h.2)] at hck
       have i3 : inR 0 1000000000 tz = false := by simpa using i3
       have hckH := Lib.hid hck
       clear hck
       go_wp2_with (go_at_call 47; refine (within_r _ _ _ _).mono ?_; rintro e wz ⟨rfl, rfl⟩)
       go_ret
       exact ⟨ret1_int hckH.out, hbw2H.out⟩
     ·rw [if_neg (fun h => i2 h.1)] at hck
      have i2 : inR 0 1000000000 fr = false := by simpa using i2
      have hckH := Lib.hid hck
      clear hck
      go_wp2_with (go_at_call 47; refine (within_r _ _ _ _).mono ?_; rintro e wz ⟨rfl, rfl⟩)
      go_ret
      exact ⟨ret1_int hckH.out, hbw2H.out⟩
  ·have e : l.drop k = [] := List.drop_eq_nil_of_le (by have := hllH.out; omega)
   rw [e] at hck
   have hc0 : 0 = c := by rw [← hck]; unfold runsErr; rfl
   have hckH := Lib.hid hck
   clear hck
   have hbH := Lib.hid hb
   clear hb
   have eH := Lib.hid e
   clear e
   have hc0H := Lib.hid hc0
   clear hc0
   go_wp2
   go_ret
   exact ⟨ret1_int hc0H.out, hbH.out⟩

theorem rruns_any (A : Option Addr) (len cap : Nat) (l : List Run) (w : World) (hl : SlAt RRun w A len l) (c : Int) (hF : runsF l = c) :
  Calls Tryz.prog 65 #[.slice A len cap] w fun e w' => e = .returned (.int .i64 c) ∧ Below w.heap.size w w' := by
 unfold runsF at hF
 rw [hl.1] at hF
 by_cases h : len ≤ 4000
 ·rw [if_pos h] at hF
  exact rruns_ok A len cap l w h hl c hF
 ·rw [if_neg h] at hF
  subst hF
  clear hl
  go_enter Tryz.func65, Tryz.ntmps65
  go_wp2
  go_ret
  exact ⟨rfl, Below.refl _ _⟩
end Go.Proofs.YtbnkoefljcekbaaGreatDoor.C9
