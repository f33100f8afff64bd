/-
 Several texts of mine as one, without what is not wanted here: XRgt, XInOrd.
-/
import Derived.Test.YtbnkoefljcekbaaGreatDoorRbUC9
import Derived.Test.YtbnkoefljcekbaaGreatDoorRbGg
import Derived.Test.YtbnkoefljcekbaaGreatDoorRbGi
namespace Go.Proofs.YtbnkoefljcekbaaGreatDoor.C9
open Go.ChangeShapes Go.WideShapes Go.Deep Go.RowKit Go.Maps
set_option linter.unusedVariables false
set_option linter.unusedSimpArgs false

def YesAns (w : World) (e : Ending) (w' : World) : Prop := e = .returned (.bool true) ∧ Below w.heap.size w w'
structure RightOk (x : Farm) (l : List Run) : Prop where
 hid : ∀ r ∈ l, hasId x.works.l r.id_ = true
 hnm : ∀ r ∈ l, hasNm x.workers.l r.worker = true
 fit : ∀ r ∈ l, ∀ y z, x.workers.l[ixNm x.workers.l r.worker]? = some y → x.works.l[ixOf x.works.l r.id_]? = some z → fitF z.needs.l y.has.l = true ∧ y.from_ ≤ r.from_ ∧ r.to_ ≤ y.to_ ∧ (bsN l r.worker r.from_ : Int) ≤ y.slots
def RgOut (n : Nat) (W1 : World) (i : Value) (wr : World) : Prop := ∃ k : Nat, k ≤ n ∧ i = .int .i64 k ∧ Below W1.heap.size W1 wr
def RgIn (l : List Run) (nm : ByteArray) (fm : Int) (n : Nat) (W1 : World) (c i : Value) (wr : World) : Prop := ∃ j c0 : Nat, j ≤ n ∧ i = .int .i64 j ∧ c = .int .i64 c0 ∧ bsN (l.take j) nm fm = c0 ∧ c0 ≤ j ∧ Below W1.heap.size W1 wr
theorem bsN_take {l : List Run} {j : Nat} {r : Run} (h : l[j]? = some r) (nm : ByteArray) (fm : Int) : bsN (l.take (j + 1)) nm fm = bsN (l.take j) nm fm + (if (decide (r.worker = nm) && (decide (r.from_ ≤ fm) && decide (fm < r.to_))) = true then 1 else 0) := by
 unfold bsN
 rw [List.take_add_one, h, Option.toList_some, List.countP_append, List.countP_singleton]
set_option maxRecDepth 100000 in
set_option maxHeartbeats 8000000 in
theorem right_any (x : Farm) (A : Option Addr) (n cap : Nat) (l : List Run) (w : World) (hx : RFarm.ok w x) (hl : SlAt RRun w A n l) (hn : n ≤ 4000) (hok : FarmOk x) (hR : RightOk x l) :
  Calls Tryz.prog 27 #[farmV x, .slice A n cap] w (YesAns w) := by
 unfold farmV
 have hN : x.works.n = x.works.l.length := hx.2.1.1.1.symm
 have hM : x.workers.n = x.workers.l.length := hx.1.1.1.symm
 have hN2 : x.works.n ≤ 200 := by have := hok.wo.len; omega
 have hM2 : x.workers.n ≤ 50 := by have := hok.wkn; omega
 have hxs := hx.2.1.1
 have hws := hx.1.1
 obtain ⟨N, hNe⟩ : ∃ m, x.works.n = m := ⟨_, rfl⟩
 obtain ⟨xA, hxA⟩ : ∃ m, x.works.A = m := ⟨_, rfl⟩
 obtain ⟨xc, hxc⟩ : ∃ m, x.works.cap = m := ⟨_, rfl⟩
 obtain ⟨M, hMe⟩ : ∃ m, x.workers.n = m := ⟨_, rfl⟩
 obtain ⟨wA, hwA⟩ : ∃ m, x.workers.A = m := ⟨_, rfl⟩
 obtain ⟨wc, hwc⟩ : ∃ m, x.workers.cap = m := ⟨_, rfl⟩
 obtain ⟨Z, hZ⟩ : ∃ Z, YesAns w = Z := ⟨_, rfl⟩
 have RZ : ∀ W, Below w.heap.size w W → Z (.returned (.bool true)) W := fun W h => by rw [← hZ]; exact ⟨rfl, h⟩
 rw [hZ]
 clear hZ
 rw [hNe] at hN2 hxs hN ⊢
 rw [hMe] at hM2 hws hM ⊢
 rw [hxA] at hxs ⊢
 rw [hwA] at hws ⊢
 rw [hxc, hwc]
 obtain ⟨W1, hW1⟩ : ∃ Y, w.alloc (.cells #[.slice wA M wc, .slice xA N xc, .slice x.lost.A x.lost.n x.lost.cap, .int .i64 x.tries, .bool x.doubles] 26) = Y := ⟨_, rfl⟩
 obtain ⟨xb, hxb⟩ : ∃ b, w.heap.size = b := ⟨_, rfl⟩
 have hba : Below w.heap.size w W1 := by rw [← hW1]; exact (Below.refl _ _).alloc (Nat.le_refl _) _
 have c0 : W1.cell? ⟨xb, 0, none⟩ = some (.slice wA M wc) := by rw [← hW1, ← hxb]; exact cell_new _ _ _ 0
 have c1 : W1.cell? ⟨xb, 1, none⟩ = some (.slice xA N xc) := by rw [← hW1, ← hxb]; exact cell_new _ _ _ 1
 have hxs := hxs.below hba
 have hws := hws.below hba
 have hl1 := hl.below hba
 have hC1 : ∀ W, Below W1.heap.size W1 W → W.cell? ⟨xb, 0, none⟩ = some (.slice wA M wc) ∧ W.cell? ⟨xb, 1, none⟩ = some (.slice xA N xc) := fun W h => ⟨keepC h c0, keepC h c1⟩
 clear c0 c1
 have hll := hl1.1
 have hst : RgOut n W1 (.int .i64 0) W1 := ⟨0, Nat.zero_le _, rfl, Below.refl _ _⟩
 replace RZ : ∀ W, Below W1.heap.size W1 W → Z (.returned (.bool true)) W := fun W h => RZ W (hba.trans (h.mono hba.size))
 have RZH := Lib.hid RZ
 clear RZ
 have hxH := Lib.hid hx
 clear hx
 have hW1H := Lib.hid hW1
 clear hW1
 have hxbH := Lib.hid hxb
 clear hxb
 have hbaH := Lib.hid hba
 clear hba
 have hstH := Lib.hid hst
 clear hst
 have hxsH := Lib.hid hxs
 clear hxs
 have hwsH := Lib.hid hws
 clear hws
 have hl1H := Lib.hid hl1
 clear hl1
 have hNeH := Lib.hid hNe
 clear hNe
 have hxAH := Lib.hid hxA
 clear hxA
 have hxcH := Lib.hid hxc
 clear hxc
 have hMeH := Lib.hid hMe
 clear hMe
 have hwAH := Lib.hid hwA
 clear hwA
 have hwcH := Lib.hid hwc
 clear hwc
 have hNH := Lib.hid hN
 clear hN
 have hMH := Lib.hid hM
 clear hM
 have hC1H := Lib.hid hC1
 clear hC1
 have hllH := Lib.hid hll
 clear hll
 have hlH := Lib.hid hl
 clear hl
 have hokH := Lib.hid hok
 clear hok
 have hRH := Lib.hid hR
 clear hR
 go_enter Tryz.func27, Tryz.ntmps27
 go_wp2_with fail
 rw [hW1H.out, hxbH.out]
 go_loopw [15] (fun i wr => RgOut n W1 i wr) (fun i _ => n - (intOf i).toNat)
 case atStart => exact hstH.out
 case round =>
  clear hstH
  obtain ⟨k, hk, rfl, hb⟩ := hrel
  have hbs := hb.size
  by_cases hlt : k < n
  ·have hsl := hl1H.out.below hb
   obtain ⟨bl, ol, hA8, _⟩ := hsl.2.1 (by omega)
   subst hA8
   obtain ⟨r, hr⟩ : ∃ r, l[k]? = some r := ⟨l[k]'(by have := hllH.out; omega), List.getElem?_eq_getElem _⟩
   obtain ⟨e0, e1, e2, e3, e4⟩ := cells_Run hsl hr
   have hrm := List.mem_of_getElem? hr
   have hid := hRH.out.hid r hrm
   have hnm := hRH.out.hnm r hrm
   obtain ⟨z, hz, hzi⟩ := ixOf_get hid
   obtain ⟨y, hy, hyi⟩ := ixNm_get hnm
   obtain ⟨hfit, hfr, hto, hsl9⟩ := hRH.out.fit r hrm y z hy hz
   obtain ⟨rid, rwk, rfm, rto, ren⟩ := r
   simp only at e0 e1 e2 e3 e4 hid hnm hz hy hfr hto hsl9 hzi hyi
   obtain ⟨W5, hW5⟩ : ∃ Y, wr.alloc (.cells #[.string rid, .string rwk, .int .i64 rfm, .int .i64 rto, .int .i64 ren] 34) = Y := ⟨_, rfl⟩
   obtain ⟨rb, hrb⟩ : ∃ b, wr.heap.size = b := ⟨_, rfl⟩
   have hbz : Below wr.heap.size wr W5 := by rw [← hW5]; exact (Below.refl _ _).alloc (Nat.le_refl _) _
   have y0 : W5.cell? ⟨rb, 0, none⟩ = some (.string rid) := by rw [← hW5, ← hrb]; exact cell_new _ _ _ 0
   have y1 : W5.cell? ⟨rb, 1, none⟩ = some (.string rwk) := by rw [← hW5, ← hrb]; exact cell_new _ _ _ 1
   have y2 : W5.cell? ⟨rb, 2, none⟩ = some (.int .i64 rfm) := by rw [← hW5, ← hrb]; exact cell_new _ _ _ 2
   have y3 : W5.cell? ⟨rb, 3, none⟩ = some (.int .i64 rto) := by rw [← hW5, ← hrb]; exact cell_new _ _ _ 3
   have hb5 := hb.trans (hbz.mono hbs)
   obtain ⟨c0, c1⟩ := hC1H.out W5 hb5
   have hY : ∀ W, Below W5.heap.size W5 W → W.cell? ⟨rb, 0, none⟩ = some (.string rid) ∧ W.cell? ⟨rb, 1, none⟩ = some (.string rwk) ∧ W.cell? ⟨rb, 2, none⟩ = some (.int .i64 rfm) ∧ W.cell? ⟨rb, 3, none⟩ = some (.int .i64 rto) := fun W h => ⟨keepC h y0, keepC h y1, keepC h y2, keepC h y3⟩
   have hwo : woF x.works.l rid = ((ixOf x.works.l rid : Nat) : Int) := by unfold woF; rw [if_pos hid]
   have hwk : wkF x.workers.l rwk = ((ixNm x.workers.l rwk : Nat) : Int) := by unfold wkF; rw [if_pos hnm]
   obtain ⟨ix, hixe⟩ : ∃ j, ixOf x.works.l rid = j := ⟨_, rfl⟩
   obtain ⟨kx, hkxe⟩ : ∃ j, ixNm x.workers.l rwk = j := ⟨_, rfl⟩
   rw [hixe] at hwo hz
   rw [hkxe] at hwk hy
   have hixl : ix < N := by have := (List.getElem?_eq_some_iff.1 hz).1; have := hNH.out; omega
   have hkxl : kx < M := by have := (List.getElem?_eq_some_iff.1 hy).1; have := hMH.out; omega
   have hS0 : (fun w' : World => Below W5.heap.size W5 w' ∧ w'.cell? ⟨xb, 0, none⟩ = some (.slice wA M wc) ∧ w'.cell? ⟨xb, 1, none⟩ = some (.slice xA N xc) ∧ w'.cell? ⟨rb, 0, none⟩ = some (.string rid) ∧ w'.cell? ⟨rb, 1, none⟩ = some (.string rwk)) W5 := ⟨Below.refl _ _, c0, c1, y0, y1⟩
   have hkS : ∀ W W' : World, Below W.heap.size W W' → (Below W5.heap.size W5 W ∧ W.cell? ⟨xb, 0, none⟩ = some (.slice wA M wc) ∧ W.cell? ⟨xb, 1, none⟩ = some (.slice xA N xc) ∧ W.cell? ⟨rb, 0, none⟩ = some (.string rid) ∧ W.cell? ⟨rb, 1, none⟩ = some (.string rwk)) → (Below W5.heap.size W5 W' ∧ W'.cell? ⟨xb, 0, none⟩ = some (.slice wA M wc) ∧ W'.cell? ⟨xb, 1, none⟩ = some (.slice xA N xc) ∧ W'.cell? ⟨rb, 0, none⟩ = some (.string rid) ∧ W'.cell? ⟨rb, 1, none⟩ = some (.string rwk)) :=
    fun W W' hb h => ⟨h.1.trans (hb.mono h.1.size), keepC hb h.2.1, keepC hb h.2.2.1, keepC hb h.2.2.2.1, keepC hb h.2.2.2.2⟩
   have hxs5 := hxsH.out.below hb5
   have hws5 := hwsH.out.below hb5
   have hNN : N ≤ 1000 := by omega
   have hMM : M ≤ 1000 := by omega
   clear y0 y1 y2 y3 c0 c1
   have hbH := Lib.hid hb
   clear hb
   have hrH := Lib.hid hr
   clear hr
   have hrmH := Lib.hid hrm
   clear hrm
   have hidH := Lib.hid hid
   clear hid
   have hnmH := Lib.hid hnm
   clear hnm
   have hzH := Lib.hid hz
   clear hz
   have hziH := Lib.hid hzi
   clear hzi
   have hyH := Lib.hid hy
   clear hy
   have hyiH := Lib.hid hyi
   clear hyi
   have hfitH := Lib.hid hfit
   clear hfit
   have hfrH := Lib.hid hfr
   clear hfr
   have htoH := Lib.hid hto
   clear hto
   have hsl9H := Lib.hid hsl9
   clear hsl9
   have hW5H := Lib.hid hW5
   clear hW5
   have hrbH := Lib.hid hrb
   clear hrb
   have hbzH := Lib.hid hbz
   clear hbz
   have hb5H := Lib.hid hb5
   clear hb5
   have hYH := Lib.hid hY
   clear hY
   have hwoH := Lib.hid hwo
   clear hwo
   have hwkH := Lib.hid hwk
   clear hwk
   have hixeH := Lib.hid hixe
   clear hixe
   have hkxeH := Lib.hid hkxe
   clear hkxe
   have hS0H := Lib.hid hS0
   clear hS0
   have hkSH := Lib.hid hkS
   clear hkS
   have hxs5H := Lib.hid hxs5
   clear hxs5
   have hws5H := Lib.hid hws5
   clear hws5
   have hslH := Lib.hid hsl
   clear hsl
   have hNNH := Lib.hid hNN
   clear hNN
   have hMMH := Lib.hid hMM
   clear hMM
   go_wp2_with fail
   rw [hW5H.out, hrbH.out]
   clear e0 e1 e2 e3 e4
   refine wp_region_held_drew (S := fun w' : World => Below W5.heap.size W5 w' ∧ w'.cell? ⟨xb, 0, none⟩ = some (.slice wA M wc) ∧ w'.cell? ⟨xb, 1, none⟩ = some (.slice xA N xc) ∧ w'.cell? ⟨rb, 0, none⟩ = some (.string rid) ∧ w'.cell? ⟨rb, 1, none⟩ = some (.string rwk)) (by kernel_rfl) (hkSH.out _ _ (Below.refl _ _).drew hS0H.out) (fun hHeld => ?_)
   refine tkH (i := 0) (d := some 19) (v := ?_) (hy := Or.inl ⟨by rfl, ?_⟩) (h := ?_)
   rotate_left
   ·(intro w hSw; (try dsimp only at hSw); go_simp; (try with_reducible rfl))
   (try simp only [Act.put, tkA, tkB, tkC])
   refine tkH (i := 1) (d := some 20) (v := ?_) (hy := Or.inl ⟨by rfl, ?_⟩) (h := ?_)
   rotate_left
   ·(intro w hSw; (try dsimp only at hSw); go_simp; (try with_reducible rfl))
   (try simp only [Act.put, tkA, tkB, tkC])
   refine tkH (i := 2) (d := some 21) (v := ?_) (hy := Or.inl ⟨by rfl, ?_⟩) (h := ?_)
   rotate_left
   ·(intro w hSw; (try dsimp only at hSw); go_simp; (try with_reducible rfl))
   (try simp only [Act.put, tkA, tkB, tkC])
   refine tkH (i := 3) (d := some 22) (v := ?_) (hy := Or.inl ⟨by rfl, ?_⟩) (h := ?_)
   rotate_left
   ·(intro w hSw; (try dsimp only at hSw); go_simp; (try with_reducible rfl))
   (try simp only [Act.put, tkA, tkB, tkC])
   refine tkH (i := 5) (d := some 24) (v := ?_) (hy := Or.inl ⟨by rfl, ?_⟩) (h := ?_)
   rotate_left
   ·(intro w hSw; (try dsimp only at hSw); go_simp; (try with_reducible rfl))
   (try simp only [Act.put, tkA, tkB, tkC])
   refine tkH (i := 6) (d := some 25) (v := ?_) (hy := Or.inl ⟨by rfl, ?_⟩) (h := ?_)
   rotate_left
   ·(intro w hSw; (try dsimp only at hSw); go_simp; (try with_reducible rfl))
   (try simp only [Act.put, tkA, tkB, tkC])
   refine tkH (i := 7) (d := some 26) (v := ?_) (hy := Or.inl ⟨by rfl, ?_⟩) (h := ?_)
   rotate_left
   ·(intro w hSw; (try dsimp only at hSw); go_simp; (try with_reducible rfl))
   (try simp only [Act.put, tkA, tkB, tkC])
   refine tkH (i := 8) (d := some 27) (v := ?_) (hy := Or.inl ⟨by rfl, ?_⟩) (h := ?_)
   rotate_left
   ·(intro w hSw; (try dsimp only at hSw); go_simp; (try with_reducible rfl))
   (try simp only [Act.put, tkA, tkB, tkC])
   refine wpAnyH_ready (rs := [4]) (by kernel_rfl) (by simp) ?_
   refine AllReadyH.cons (i := 4) rfl (fun K hK => ?_) AllReadyH.nil
   go_simp
   go_at_call 60
   refine (workOf_any xA N xc x.works.l rid _ hNNH.out (hxs5H.out.below hHeld.1)).mono ?_
   rintro e w6 ⟨rfl, hb6⟩
   rw [hwoH.out]
   have hS6 := hkSH.out _ _ hb6 hHeld
   clear hb6
   refine hK.out _ _ hS6 (fun hHeld => ?_)
   clear hK K
   (try simp only [Act.put, List.setIfInBounds_toArray, List.set_cons_zero, List.set_cons_succ])
   refine wpAnyH_ready (rs := [9]) (by kernel_rfl) (by simp) ?_
   refine AllReadyH.cons (i := 9) rfl (fun K hK => ?_) AllReadyH.nil
   go_simp
   go_at_call 46
   refine (workerOf_any wA M wc x.workers.l rwk _ hMMH.out (hws5H.out.below hHeld.1)).mono ?_
   rintro e w7 ⟨rfl, hb7⟩
   rw [hwkH.out]
   have hS7 := hkSH.out _ _ hb7 hHeld
   clear hb7
   refine hK.out _ _ hS7 (fun hHeld => ?_)
   clear hK K
   (try simp only [Act.put, List.setIfInBounds_toArray, List.set_cons_zero, List.set_cons_succ])
   refine tkH (i := 10) (d := some 7) (v := ?_) (hy := Or.inl ⟨by rfl, ?_⟩) (h := ?_)
   rotate_left
   ·(intro w hSw; (try dsimp only at hSw); go_simp; (try with_reducible rfl))
   (try simp only [Act.put, tkA, tkB, tkC])
   refine tkH (i := 11) (d := some 8) (v := ?_) (hy := Or.inl ⟨by rfl, ?_⟩) (h := ?_)
   rotate_left
   ·(intro w hSw; (try dsimp only at hSw); go_simp; (try with_reducible rfl))
   (try simp only [Act.put, tkA, tkB, tkC])
   refine wpAnyH_done (by kernel_rfl) ?_ _
   obtain ⟨hb6, g0, g1, g2, g3⟩ := hHeld
   obtain ⟨bw, ow, hA7, _⟩ := hws5H.out.2.1 (by omega)
   subst hA7
   obtain ⟨bx, ox, hA6, _⟩ := hxs5H.out.2.1 (by omega)
   subst hA6
   obtain ⟨d0, d1, d2, d3, d4, d5, d6⟩ := cells_Worker (hws5H.out.below hb6) hyH.out
   have hyok := RWorker.mono _ _ _ hb6 (hws5H.out.2.2 y (List.mem_of_getElem? hyH.out))
   have hzok := RWork.mono _ _ _ hb6 (hxs5H.out.2.2 z (List.mem_of_getElem? hzH.out))
   have hfit := hfitH.out
   have hfr := hfrH.out
   have hto := htoH.out
   have hsl9 := hsl9H.out
   have hcz := cells_Work (hxs5H.out.below hb6) hzH.out
   clear hfitH hfrH htoH hsl9H
   obtain ⟨ynm, yh, ysl, ysp, yfr, yto, yst⟩ := y
   obtain ⟨zid, znd, zsz, zaf⟩ := z
   simp only at d0 d1 d2 d3 d4 d5 d6 hfit hfr hto hsl9 hcz
   obtain ⟨W8, hW8⟩ : ∃ Y, w7.alloc (.cells #[.string ynm, .slice yh.A yh.n yh.cap, .int .i64 ysl, .int .i64 ysp, .int .i64 yfr, .int .i64 yto, .slice yst.A yst.n yst.cap] 84) = Y := ⟨_, rfl⟩
   obtain ⟨wb, hwb⟩ : ∃ b, w7.heap.size = b := ⟨_, rfl⟩
   have hbw : Below w7.heap.size w7 W8 := by rw [← hW8]; exact (Below.refl _ _).alloc (Nat.le_refl _) _
   have v0 : W8.cell? ⟨wb, 0, none⟩ = some (.string ynm) := by rw [← hW8, ← hwb]; exact cell_new _ _ _ 0
   have v1 : W8.cell? ⟨wb, 1, none⟩ = some (.slice yh.A yh.n yh.cap) := by rw [← hW8, ← hwb]; exact cell_new _ _ _ 1
   have v2 : W8.cell? ⟨wb, 2, none⟩ = some (.int .i64 ysl) := by rw [← hW8, ← hwb]; exact cell_new _ _ _ 2
   have v3 : W8.cell? ⟨wb, 3, none⟩ = some (.int .i64 ysp) := by rw [← hW8, ← hwb]; exact cell_new _ _ _ 3
   have v4 : W8.cell? ⟨wb, 4, none⟩ = some (.int .i64 yfr) := by rw [← hW8, ← hwb]; exact cell_new _ _ _ 4
   have v5 : W8.cell? ⟨wb, 5, none⟩ = some (.int .i64 yto) := by rw [← hW8, ← hwb]; exact cell_new _ _ _ 5
   have v6 : W8.cell? ⟨wb, 6, none⟩ = some (.slice yst.A yst.n yst.cap) := by rw [← hW8, ← hwb]; exact cell_new _ _ _ 6
   have hb8 := hb6.trans (hbw.mono hb6.size)
   obtain ⟨u0, u1, u2, u3⟩ := hYH.out W8 hb8
   obtain ⟨t0, t1, t2, t3⟩ := hcz
   have hS8 : ∀ W, Below W8.heap.size W8 W → Below W8.heap.size W8 W ∧ W.cell? ⟨wb, 0, none⟩ = some (.string ynm) ∧ W.cell? ⟨wb, 1, none⟩ = some (.slice yh.A yh.n yh.cap) ∧ W.cell? ⟨wb, 2, none⟩ = some (.int .i64 ysl) ∧ W.cell? ⟨wb, 3, none⟩ = some (.int .i64 ysp) ∧ W.cell? ⟨wb, 4, none⟩ = some (.int .i64 yfr) ∧ W.cell? ⟨wb, 5, none⟩ = some (.int .i64 yto) ∧ W.cell? ⟨wb, 6, none⟩ = some (.slice yst.A yst.n yst.cap) ∧ W.cell? ⟨xb, 1, none⟩ = some (.slice (some ⟨bx, ox, none⟩) N xc) ∧ W.cell? ⟨bx, ox + ix * 4, none⟩ = some (.string zid) ∧ W.cell? ⟨bx, ox + ix * 4 + 1, none⟩ = some (.slice znd.A znd.n znd.cap) ∧ W.cell? ⟨bx, ox + ix * 4 + 2, none⟩ = some (.int .i64 zsz) ∧ W.cell? ⟨bx, ox + ix * 4 + 3, none⟩ = some (.slice zaf.A zaf.n zaf.cap) ∧ W.cell? ⟨rb, 2, none⟩ = some (.int .i64 rfm) ∧ W.cell? ⟨rb, 3, none⟩ = some (.int .i64 rto) := fun W h => ⟨h, keepC h v0, keepC h v1, keepC h v2, keepC h v3, keepC h v4, keepC h v5, keepC h v6, keepC h (keepC hbw g1), keepC h (keepC hbw t0), keepC h (keepC hbw t1), keepC h (keepC hbw t2), keepC h (keepC hbw t3), keepC h u2, keepC h u3⟩
   have hYk : ∀ W, Below W8.heap.size W8 W → W.cell? ⟨rb, 1, none⟩ = some (.string rwk) ∧ W.cell? ⟨rb, 2, none⟩ = some (.int .i64 rfm) := fun W h => ⟨keepC h u1, keepC h u2⟩
   have hst2 : RgIn l rwk rfm n W8 (.int .i64 0) (.int .i64 0) W8 := ⟨0, 0, Nat.zero_le _, rfl, rfl, rfl, Nat.le_refl _, Below.refl _ _⟩
   have hsl8 := hslH.out.below (hbzH.out.trans (hb8.mono hbzH.out.size))
   have hR9 : ∀ W, Below W8.heap.size W8 W → RgOut n W1 (.int .i64 ((k : Int) + 1)) W := fun W h => ⟨k + 1, hlt, by go_num, hb5H.out.trans ((hb8.trans (h.mono hb8.size)).mono hb5H.out.size)⟩
   have hyok8 := RWorker.mono _ _ _ hbw hyok
   have hzok8 := RWork.mono _ _ _ hbw hzok
   clear v0 v1 v2 v3 v4 v5 v6 u0 u1 u2 u3 t0 t1 t2 t3 g2 g3 hyok hzok
   have hb6H := Lib.hid hb6
   clear hb6
   have hW8H := Lib.hid hW8
   clear hW8
   have hwbH := Lib.hid hwb
   clear hwb
   have hbwH := Lib.hid hbw
   clear hbw
   have hb8H := Lib.hid hb8
   clear hb8
   have hS8H := Lib.hid hS8
   clear hS8
   have hYkH := Lib.hid hYk
   clear hYk
   have hst2H := Lib.hid hst2
   clear hst2
   have hsl8H := Lib.hid hsl8
   clear hsl8
   have hR9H := Lib.hid hR9
   clear hR9
   have hyok8H := Lib.hid hyok8
   clear hyok8
   have hzok8H := Lib.hid hzok8
   clear hzok8
   have hfitH := Lib.hid hfit
   clear hfit
   have hfrH := Lib.hid hfr
   clear hfr
   have htoH := Lib.hid hto
   clear hto
   have hsl9H := Lib.hid hsl9
   clear hsl9
   go_wp2_with fail
   rw [hW8H.out, hwbH.out]
   clear d0 d1 d2 d3 d4 d5 d6 g0 g1
   obtain ⟨wa, rfl⟩ : ∃ W, W = wr := ⟨_, rfl⟩
   go_loopw [10, 42] (fun c i wq => RgIn l rwk rfm n W8 c i wq) (fun _ i _ => n - (intOf i).toNat)
   case atStart => exact hst2H.out
   case round =>
    clear hst2H
    obtain ⟨j, c0, hj, rfl, rfl, hc0, hcj, hbi⟩ := hrel
    have hbis := hbi.size
    by_cases hlt2 : j < n
    ·have hsli := hsl8H.out.below hbi
     obtain ⟨s, hs⟩ : ∃ s, l[j]? = some s := ⟨l[j]'(by have := hllH.out; omega), List.getElem?_eq_getElem _⟩
     obtain ⟨e0, e1, e2, e3, e4⟩ := cells_Run hsli hs
     have hct := bsN_take hs rwk rfm
     rw [hc0] at hct
     obtain ⟨sid, swk, sfm, sto, sen⟩ := s
     simp only at e0 e1 e2 e3 e4 hct
     have hbl := hbi.alloc hbis (.cells #[.string sid, .string swk, .int .i64 sfm, .int .i64 sto, .int .i64 sen] 34)
     obtain ⟨u1, u2⟩ := hYkH.out _ hbl
     have hbe : (swk.toList == rwk.toList) = decide (swk = rwk) := beq_data _ _
     by_cases hA : swk = rwk
     ·rw [decide_eq_true hA] at hbe hct
      by_cases hB : sfm ≤ rfm
      ·by_cases hC : rfm < sto
       ·have hct2 : bsN (l.take (j + 1)) rwk rfm = c0 + 1 := by rw [hct, decide_eq_true hB, decide_eq_true hC]; rfl
        have R : RgIn l rwk rfm n W8 (.int .i64 ((c0 : Int) + 1)) (.int .i64 ((j : Int) + 1)) _ := ⟨j + 1, c0 + 1, hlt2, by go_num, by go_num, hct2, by omega, hbl⟩
        clear hct hct2 hA
        have RH := Lib.hid R
        clear R
        have hblH := Lib.hid hbl
        clear hbl
        have hsH := Lib.hid hs
        clear hs
        have hsliH := Lib.hid hsli
        clear hsli
        have hbiH := Lib.hid hbi
        clear hbi
        have hc0H := Lib.hid hc0
        clear hc0
        go_wp2
        refine ⟨?rel, ?measure⟩
        case measure => (simp [intOf]; omega)
        case rel => first | exact RH.out | exact ⟨rfl, RH.out⟩ | ((try refine ⟨rfl, ?_⟩); (repeat apply Exists.intro); refine ⟨RH.out, ?_⟩; ((repeat' apply And.intro) <;> rfl))
       ·have hct2 : bsN (l.take (j + 1)) rwk rfm = c0 := by rw [hct, decide_eq_false hC]; simp
        have R : RgIn l rwk rfm n W8 (.int .i64 c0) (.int .i64 ((j : Int) + 1)) _ := ⟨j + 1, c0, hlt2, by go_num, rfl, hct2, by omega, hbl⟩
        clear hct hct2 hA
        have RH := Lib.hid R
        clear R
        have hblH := Lib.hid hbl
        clear hbl
        have hsH := Lib.hid hs
        clear hs
        have hsliH := Lib.hid hsli
        clear hsli
        have hbiH := Lib.hid hbi
        clear hbi
        have hc0H := Lib.hid hc0
        clear hc0
        go_wp2
        refine ⟨?rel, ?measure⟩
        case measure => (simp [intOf]; omega)
        case rel => first | exact RH.out | exact ⟨rfl, RH.out⟩ | ((try refine ⟨rfl, ?_⟩); (repeat apply Exists.intro); refine ⟨RH.out, ?_⟩; ((repeat' apply And.intro) <;> rfl))
      ·have hct2 : bsN (l.take (j + 1)) rwk rfm = c0 := by rw [hct, decide_eq_false hB]; simp
       have R : RgIn l rwk rfm n W8 (.int .i64 c0) (.int .i64 ((j : Int) + 1)) _ := ⟨j + 1, c0, hlt2, by go_num, rfl, hct2, by omega, hbl⟩
       clear hct hct2 hA
       have RH := Lib.hid R
       clear R
       have hblH := Lib.hid hbl
       clear hbl
       have hsH := Lib.hid hs
       clear hs
       have hsliH := Lib.hid hsli
       clear hsli
       have hbiH := Lib.hid hbi
       clear hbi
       have hc0H := Lib.hid hc0
       clear hc0
       go_wp2
       refine ⟨?rel, ?measure⟩
       case measure => (simp [intOf]; omega)
       case rel => first | exact RH.out | exact ⟨rfl, RH.out⟩ | ((try refine ⟨rfl, ?_⟩); (repeat apply Exists.intro); refine ⟨RH.out, ?_⟩; ((repeat' apply And.intro) <;> rfl))
     ·rw [decide_eq_false hA] at hbe hct
      have hct2 : bsN (l.take (j + 1)) rwk rfm = c0 := by rw [hct]; simp
      have R : RgIn l rwk rfm n W8 (.int .i64 c0) (.int .i64 ((j : Int) + 1)) _ := ⟨j + 1, c0, hlt2, by go_num, rfl, hct2, by omega, hbl⟩
      clear hct hct2 hA
      have RH := Lib.hid R
      clear R
      have hblH := Lib.hid hbl
      clear hbl
      have hsH := Lib.hid hs
      clear hs
      have hsliH := Lib.hid hsli
      clear hsli
      have hbiH := Lib.hid hbi
      clear hbi
      have hc0H := Lib.hid hc0
      clear hc0
      go_wp2
      refine ⟨?rel, ?measure⟩
      case measure => (simp [intOf]; omega)
      case rel => first | exact RH.out | exact ⟨rfl, RH.out⟩ | ((try refine ⟨rfl, ?_⟩); (repeat apply Exists.intro); refine ⟨RH.out, ?_⟩; ((repeat' apply And.intro) <;> rfl))
    ·obtain rfl : j = n := by omega
     have e : l.take j = l := List.take_of_length_le (by have := hllH.out; omega)
     rw [e] at hc0
     have hcs : (c0 : Int) ≤ ysl := by rw [← hc0]; exact hsl9H.out
     have d1 : decide (rfm < yfr) = false := decide_eq_false (by have := hfrH.out; omega)
     have d2 : decide (rto > yto) = false := decide_eq_false (by have := htoH.out; omega)
     have d3 : decide ((c0 : Int) > ysl) = false := decide_eq_false (by omega)
     have hS9 := hS8H.out wr hbi
     have hkS : ∀ W W' : World, Below W.heap.size W W' → (Below W8.heap.size W8 W ∧ W.cell? ⟨wb, 0, none⟩ = some (.string ynm) ∧ W.cell? ⟨wb, 1, none⟩ = some (.slice yh.A yh.n yh.cap) ∧ W.cell? ⟨wb, 2, none⟩ = some (.int .i64 ysl) ∧ W.cell? ⟨wb, 3, none⟩ = some (.int .i64 ysp) ∧ W.cell? ⟨wb, 4, none⟩ = some (.int .i64 yfr) ∧ W.cell? ⟨wb, 5, none⟩ = some (.int .i64 yto) ∧ W.cell? ⟨wb, 6, none⟩ = some (.slice yst.A yst.n yst.cap) ∧ W.cell? ⟨xb, 1, none⟩ = some (.slice (some ⟨bx, ox, none⟩) N xc) ∧ W.cell? ⟨bx, ox + ix * 4, none⟩ = some (.string zid) ∧ W.cell? ⟨bx, ox + ix * 4 + 1, none⟩ = some (.slice znd.A znd.n znd.cap) ∧ W.cell? ⟨bx, ox + ix * 4 + 2, none⟩ = some (.int .i64 zsz) ∧ W.cell? ⟨bx, ox + ix * 4 + 3, none⟩ = some (.slice zaf.A zaf.n zaf.cap) ∧ W.cell? ⟨rb, 2, none⟩ = some (.int .i64 rfm) ∧ W.cell? ⟨rb, 3, none⟩ = some (.int .i64 rto)) → (Below W8.heap.size W8 W' ∧ W'.cell? ⟨wb, 0, none⟩ = some (.string ynm) ∧ W'.cell? ⟨wb, 1, none⟩ = some (.slice yh.A yh.n yh.cap) ∧ W'.cell? ⟨wb, 2, none⟩ = some (.int .i64 ysl) ∧ W'.cell? ⟨wb, 3, none⟩ = some (.int .i64 ysp) ∧ W'.cell? ⟨wb, 4, none⟩ = some (.int .i64 yfr) ∧ W'.cell? ⟨wb, 5, none⟩ = some (.int .i64 yto) ∧ W'.cell? ⟨wb, 6, none⟩ = some (.slice yst.A yst.n yst.cap) ∧ W'.cell? ⟨xb, 1, none⟩ = some (.slice (some ⟨bx, ox, none⟩) N xc) ∧ W'.cell? ⟨bx, ox + ix * 4, none⟩ = some (.string zid) ∧ W'.cell? ⟨bx, ox + ix * 4 + 1, none⟩ = some (.slice znd.A znd.n znd.cap) ∧ W'.cell? ⟨bx, ox + ix * 4 + 2, none⟩ = some (.int .i64 zsz) ∧ W'.cell? ⟨bx, ox + ix * 4 + 3, none⟩ = some (.slice zaf.A zaf.n zaf.cap) ∧ W'.cell? ⟨rb, 2, none⟩ = some (.int .i64 rfm) ∧ W'.cell? ⟨rb, 3, none⟩ = some (.int .i64 rto)) := fun W W' hb h => hS8H.out W' (h.1.trans (hb.mono h.1.size))
     clear e hc0 hcs
     have hSd := hkS _ _ (Below.refl wr.heap.size wr).drew hS9
     have hbiH := Lib.hid hbi
     clear hbi
     have hS9H := Lib.hid hS9
     clear hS9
     have hSdH := Lib.hid hSd
     clear hSd
     have hkSH := Lib.hid hkS
     clear hkS
     go_wp2_with fail
     refine wp_region_held_drew (S := fun W : World => Below W8.heap.size W8 W ∧ W.cell? ⟨wb, 0, none⟩ = some (.string ynm) ∧ W.cell? ⟨wb, 1, none⟩ = some (.slice yh.A yh.n yh.cap) ∧ W.cell? ⟨wb, 2, none⟩ = some (.int .i64 ysl) ∧ W.cell? ⟨wb, 3, none⟩ = some (.int .i64 ysp) ∧ W.cell? ⟨wb, 4, none⟩ = some (.int .i64 yfr) ∧ W.cell? ⟨wb, 5, none⟩ = some (.int .i64 yto) ∧ W.cell? ⟨wb, 6, none⟩ = some (.slice yst.A yst.n yst.cap) ∧ W.cell? ⟨xb, 1, none⟩ = some (.slice (some ⟨bx, ox, none⟩) N xc) ∧ W.cell? ⟨bx, ox + ix * 4, none⟩ = some (.string zid) ∧ W.cell? ⟨bx, ox + ix * 4 + 1, none⟩ = some (.slice znd.A znd.n znd.cap) ∧ W.cell? ⟨bx, ox + ix * 4 + 2, none⟩ = some (.int .i64 zsz) ∧ W.cell? ⟨bx, ox + ix * 4 + 3, none⟩ = some (.slice zaf.A zaf.n zaf.cap) ∧ W.cell? ⟨rb, 2, none⟩ = some (.int .i64 rfm) ∧ W.cell? ⟨rb, 3, none⟩ = some (.int .i64 rto)) (by kernel_rfl) hSdH.out (fun hHeld => ?_)
     refine tkH (i := 0) (d := some 68) (v := ?_) (hy := Or.inl ⟨by rfl, ?_⟩) (h := ?_)
     rotate_left
     ·(intro w hSw; (try dsimp only at hSw); go_simp; (try with_reducible rfl))
     (try simp only [Act.put, tkA, tkB, tkC])
     refine tkH (i := 1) (d := some 69) (v := ?_) (hy := Or.inl ⟨by rfl, ?_⟩) (h := ?_)
     rotate_left
     ·(intro w hSw; (try dsimp only at hSw); go_simp; (try with_reducible rfl))
     (try simp only [Act.put, tkA, tkB, tkC])
     refine tkH (i := 2) (d := some 70) (v := ?_) (hy := Or.inl ⟨by rfl, ?_⟩) (h := ?_)
     rotate_left
     ·(intro w hSw; (try dsimp only at hSw); go_simp; (try with_reducible rfl))
     (try simp only [Act.put, tkA, tkB, tkC])
     refine tkH (i := 3) (d := some 71) (v := ?_) (hy := Or.inl ⟨by rfl, ?_⟩) (h := ?_)
     rotate_left
     ·(intro w hSw; (try dsimp only at hSw); go_simp; (try with_reducible rfl))
     (try simp only [Act.put, tkA, tkB, tkC])
     refine tkH (i := 4) (d := some 72) (v := ?_) (hy := Or.inl ⟨by rfl, ?_⟩) (h := ?_)
     rotate_left
     ·(intro w hSw; (try dsimp only at hSw); go_simp; (try with_reducible rfl))
     (try simp only [Act.put, tkA, tkB, tkC])
     refine tkH (i := 5) (d := some 73) (v := ?_) (hy := Or.inl ⟨by rfl, ?_⟩) (h := ?_)
     rotate_left
     ·(intro w hSw; (try dsimp only at hSw); go_simp; (try with_reducible rfl))
     (try simp only [Act.put, tkA, tkB, tkC])
     refine wpAnyH_ready (rs := [6]) (by kernel_rfl) (by simp) ?_
     refine AllReadyH.cons (i := 6) rfl (fun K hK => ?_) AllReadyH.nil
     go_simp
     go_at_call 52
     refine (rfits_any ⟨ynm, yh, ysl, ysp, yfr, yto, yst⟩ ⟨zid, znd, zsz, zaf⟩ _ (RWorker.mono _ _ _ hHeld.1 hyok8H.out) (RWork.mono _ _ _ hHeld.1 hzok8H.out) true hfitH.out).mono ?_
     rintro e w6 ⟨rfl, hb6⟩
     have hS6 := hkSH.out _ _ hb6 hHeld
     clear hb6
     refine hK.out _ _ hS6 (fun hHeld => ?_)
     clear hK K
     (try simp only [Act.put, List.setIfInBounds_toArray, List.set_cons_zero, List.set_cons_succ])
     refine tkH (i := 7) (d := some 75) (v := ?_) (hy := Or.inl ⟨by rfl, ?_⟩) (h := ?_)
     rotate_left
     ·(intro w hSw; (try dsimp only at hSw); go_simp; (try with_reducible rfl))
     (try simp only [Act.put, tkA, tkB, tkC])
     refine tkH (i := 8) (d := some 76) (v := ?_) (hy := Or.inl ⟨by rfl, ?_⟩) (h := ?_)
     rotate_left
     ·(intro w hSw; (try dsimp only at hSw); go_simp; (try with_reducible rfl))
     (try simp only [Act.put, tkA, tkB, tkC])
     refine tkH (i := 9) (d := some 77) (v := ?_) (hy := Or.inl ⟨by rfl, ?_⟩) (h := ?_)
     rotate_left
     ·(intro w hSw; (try dsimp only at hSw); go_simp; (try with_reducible rfl))
     (try simp only [Act.put, tkA, tkB, tkC])
     refine tkH (i := 10) (d := some 78) (v := ?_) (hy := Or.inl ⟨by rfl, ?_⟩) (h := ?_)
     rotate_left
     ·(intro w hSw; (try dsimp only at hSw); go_simp; (try with_reducible rfl))
     (try simp only [Act.put, tkA, tkB, tkC])
     refine tkH (i := 11) (d := some 79) (v := ?_) (hy := Or.inl ⟨by rfl, ?_⟩) (h := ?_)
     rotate_left
     ·(intro w hSw; (try dsimp only at hSw); go_simp; (try with_reducible rfl))
     (try simp only [Act.put, tkA, tkB, tkC])
     refine tkH (i := 12) (d := some 80) (v := ?_) (hy := Or.inl ⟨by rfl, ?_⟩) (h := ?_)
     rotate_left
     ·(intro w hSw; (try dsimp only at hSw); go_simp; (try with_reducible rfl))
     (try simp only [Act.put, tkA, tkB, tkC])
     refine tkH (i := 13) (d := some 81) (v := ?_) (hy := Or.inl ⟨by rfl, ?_⟩) (h := ?_)
     rotate_left
     ·(intro w hSw; (try dsimp only at hSw); go_simp; (try with_reducible rfl))
     (try simp only [Act.put, tkA, tkB, tkC])
     refine tkH (i := 14) (d := some 82) (v := ?_) (hy := Or.inl ⟨by rfl, ?_⟩) (h := ?_)
     rotate_left
     ·(intro w hSw; (try dsimp only at hSw); go_simp; (try with_reducible rfl))
     (try simp only [Act.put, tkA, tkB, tkC])
     refine tkH (i := 15) (d := some 83) (v := ?_) (hy := Or.inl ⟨by rfl, ?_⟩) (h := ?_)
     rotate_left
     ·(intro w hSw; (try dsimp only at hSw); go_simp; (try with_reducible rfl))
     (try simp only [Act.put, tkA, tkB, tkC])
     refine tkH (i := 16) (d := some 84) (v := ?_) (hy := Or.inl ⟨by rfl, ?_⟩) (h := ?_)
     rotate_left
     ·(intro w hSw; (try dsimp only at hSw); go_simp; (try with_reducible rfl))
     (try simp only [Act.put, tkA, tkB, tkC])
     refine tkH (i := 17) (d := some 85) (v := ?_) (hy := Or.inl ⟨by rfl, ?_⟩) (h := ?_)
     rotate_left
     ·(intro w hSw; (try dsimp only at hSw); go_simp; (try with_reducible rfl))
     (try simp only [Act.put, tkA, tkB, tkC])
     refine tkH (i := 18) (d := some 86) (v := ?_) (hy := Or.inl ⟨by rfl, ?_⟩) (h := ?_)
     rotate_left
     ·(intro w hSw; (try dsimp only at hSw); go_simp; (try with_reducible rfl))
     (try simp only [Act.put, tkA, tkB, tkC])
     refine tkH (i := 19) (d := some 87) (v := ?_) (hy := Or.inl ⟨by rfl, ?_⟩) (h := ?_)
     rotate_left
     ·(intro w hSw; (try dsimp only at hSw); go_simp; (try with_reducible rfl))
     (try simp only [Act.put, tkA, tkB, tkC])
     refine tkH (i := 20) (d := some 88) (v := ?_) (hy := Or.inl ⟨by rfl, ?_⟩) (h := ?_)
     rotate_left
     ·(intro w hSw; (try dsimp only at hSw); go_simp; (try with_reducible rfl))
     (try simp only [Act.put, tkA, tkB, tkC])
     refine tkH (i := 21) (d := some 89) (v := ?_) (hy := Or.inl ⟨by rfl, ?_⟩) (h := ?_)
     rotate_left
     ·(intro w hSw; (try dsimp only at hSw); go_simp; (try with_reducible rfl))
     (try simp only [Act.put, tkA, tkB, tkC])
     refine tkH (i := 22) (d := some 90) (v := ?_) (hy := Or.inl ⟨by rfl, ?_⟩) (h := ?_)
     rotate_left
     ·(intro w hSw; (try dsimp only at hSw); go_simp; (try with_reducible rfl))
     (try simp only [Act.put, tkA, tkB, tkC])
     refine tkH (i := 23) (d := some 91) (v := ?_) (hy := Or.inl ⟨by rfl, ?_⟩) (h := ?_)
     rotate_left
     ·(intro w hSw; (try dsimp only at hSw); go_simp; (try with_reducible rfl))
     (try simp only [Act.put, tkA, tkB, tkC])
     refine tkH (i := 24) (d := some 92) (v := ?_) (hy := Or.inl ⟨by rfl, ?_⟩) (h := ?_)
     rotate_left
     ·(intro w hSw; (try dsimp only at hSw); go_simp; (try with_reducible rfl))
     (try simp only [Act.put, tkA, tkB, tkC])
     refine tkH (i := 25) (d := some 93) (v := ?_) (hy := Or.inl ⟨by rfl, ?_⟩) (h := ?_)
     rotate_left
     ·(intro w hSw; (try dsimp only at hSw); go_simp; (try with_reducible rfl))
     (try simp only [Act.put, tkA, tkB, tkC])
     refine tkH (i := 26) (d := some 94) (v := ?_) (hy := Or.inl ⟨by rfl, ?_⟩) (h := ?_)
     rotate_left
     ·(intro w hSw; (try dsimp only at hSw); go_simp; (try with_reducible rfl))
     (try simp only [Act.put, tkA, tkB, tkC])
     refine tkH (i := 27) (d := some 95) (v := ?_) (hy := Or.inl ⟨by rfl, ?_⟩) (h := ?_)
     rotate_left
     ·(intro w hSw; (try dsimp only at hSw); go_simp; (try with_reducible rfl))
     (try simp only [Act.put, tkA, tkB, tkC])
     refine wpAnyH_done (by kernel_rfl) ?_ _
     have R := hR9H.out _ hHeld.1
     clear hHeld
     have RH := Lib.hid R
     clear R
     go_wp2
     refine ⟨?rel, ?measure⟩
     case measure => (simp [intOf]; omega)
     case rel => first | exact RH.out | exact ⟨rfl, RH.out⟩ | ((try refine ⟨rfl, ?_⟩); (repeat apply Exists.intro); refine ⟨RH.out, ?_⟩; ((repeat' apply And.intro) <;> rfl))
  ·obtain rfl : k = n := by omega
   have R := RZH.out _ hb
   have RH := Lib.hid R
   clear R
   have hbH := Lib.hid hb
   clear hb
   go_wp2
   exact RH.out
end Go.Proofs.YtbnkoefljcekbaaGreatDoor.C9

namespace Go.Proofs.YtbnkoefljcekbaaGreatDoor.C9
open Go.ChangeShapes Go.WideShapes Go.Deep Go.RowKit Go.Maps
set_option linter.unusedVariables false
set_option linter.unusedSimpArgs false

structure InOk (x : Farm) (l : List Run) : Prop where
 hid : ∀ r ∈ l, hasId x.works.l r.id_ = true
 hnm : ∀ r ∈ l, hasNm x.workers.l r.worker = true
 hto : ∀ r ∈ l, 0 ≤ r.to_ ∧ r.to_ ≤ 1000000000
 ord : ∀ r ∈ l, ∀ z, x.works.l[ixOf x.works.l r.id_]? = some z → ∀ s ∈ z.after.l, dnB l s r.from_ = true
set_option maxRecDepth 100000 in
set_option maxHeartbeats 8000000 in
theorem inorder_any (x : Farm) (A : Option Addr) (n cap : Nat) (l : List Run) (w : World) (hx : RFarm.ok w x) (hl : SlAt RRun w A n l) (hn : n ≤ 4000) (hok : FarmOk x) (hI : InOk x l) :
  Calls Tryz.prog 28 #[farmV x, .slice A n cap] w (YesAns w) := by
 unfold farmV
 have hN : x.works.n = x.works.l.length := hx.2.1.1.1.symm
 have hM : x.workers.n = x.workers.l.length := hx.1.1.1.symm
 have hN2 : x.works.n ≤ 200 := by have := hok.wo.len; omega
 have hM2 : x.workers.n ≤ 50 := by have := hok.wkn; omega
 have hxs := hx.2.1.1
 have hws := hx.1.1
 obtain ⟨N, hNe⟩ : ∃ m, x.works.n = m := ⟨_, rfl⟩
 obtain ⟨xA, hxA⟩ : ∃ m, x.works.A = m := ⟨_, rfl⟩
 obtain ⟨xc, hxc⟩ : ∃ m, x.works.cap = m := ⟨_, rfl⟩
 obtain ⟨M, hMe⟩ : ∃ m, x.workers.n = m := ⟨_, rfl⟩
 obtain ⟨wA, hwA⟩ : ∃ m, x.workers.A = m := ⟨_, rfl⟩
 obtain ⟨wc, hwc⟩ : ∃ m, x.workers.cap = m := ⟨_, rfl⟩
 obtain ⟨Z, hZ⟩ : ∃ Z, YesAns w = Z := ⟨_, rfl⟩
 have RZ : ∀ W, Below w.heap.size w W → Z (.returned (.bool true)) W := fun W h => by rw [← hZ]; exact ⟨rfl, h⟩
 rw [hZ]
 clear hZ
 rw [hNe] at hN2 hxs hN ⊢
 rw [hMe] at hM2 hws hM ⊢
 rw [hxA] at hxs ⊢
 rw [hwA] at hws ⊢
 rw [hxc, hwc]
 obtain ⟨W1, hW1⟩ : ∃ Y, w.alloc (.cells #[.slice wA M wc, .slice xA N xc, .slice x.lost.A x.lost.n x.lost.cap, .int .i64 x.tries, .bool x.doubles] 26) = Y := ⟨_, rfl⟩
 obtain ⟨xb, hxb⟩ : ∃ b, w.heap.size = b := ⟨_, rfl⟩
 have hba : Below w.heap.size w W1 := by rw [← hW1]; exact (Below.refl _ _).alloc (Nat.le_refl _) _
 have c0 : W1.cell? ⟨xb, 0, none⟩ = some (.slice wA M wc) := by rw [← hW1, ← hxb]; exact cell_new _ _ _ 0
 have c1 : W1.cell? ⟨xb, 1, none⟩ = some (.slice xA N xc) := by rw [← hW1, ← hxb]; exact cell_new _ _ _ 1
 have c2 : W1.cell? ⟨xb, 2, none⟩ = some (.slice x.lost.A x.lost.n x.lost.cap) := by rw [← hW1, ← hxb]; exact cell_new _ _ _ 2
 have c3 : W1.cell? ⟨xb, 3, none⟩ = some (.int .i64 x.tries) := by rw [← hW1, ← hxb]; exact cell_new _ _ _ 3
 have c4 : W1.cell? ⟨xb, 4, none⟩ = some (.bool x.doubles) := by rw [← hW1, ← hxb]; exact cell_new _ _ _ 4
 have hxs := hxs.below hba
 have hws := hws.below hba
 have hl1 := hl.below hba
 have hC1 : ∀ W, Below W1.heap.size W1 W → W.cell? ⟨xb, 0, none⟩ = some (.slice wA M wc) ∧ W.cell? ⟨xb, 1, none⟩ = some (.slice xA N xc) := fun W h => ⟨keepC h c0, keepC h c1⟩
 clear c0 c1
 have hll := hl1.1
 have hst : RgOut n W1 (.int .i64 0) W1 := ⟨0, Nat.zero_le _, rfl, Below.refl _ _⟩
 replace RZ : ∀ W, Below W1.heap.size W1 W → Z (.returned (.bool true)) W := fun W h => RZ W (hba.trans (h.mono hba.size))
 have hx1 := RFarm.mono _ _ _ hba hx
 have hC4 : ∀ W, Below W1.heap.size W1 W → W.cell? ⟨xb, 2, none⟩ = some (.slice x.lost.A x.lost.n x.lost.cap) ∧ W.cell? ⟨xb, 3, none⟩ = some (.int .i64 x.tries) ∧ W.cell? ⟨xb, 4, none⟩ = some (.bool x.doubles) := fun W h => ⟨keepC h c2, keepC h c3, keepC h c4⟩
 clear c2 c3 c4
 have hx1H := Lib.hid hx1
 clear hx1
 have hC4H := Lib.hid hC4
 clear hC4
 have RZH := Lib.hid RZ
 clear RZ
 have hxH := Lib.hid hx
 clear hx
 have hW1H := Lib.hid hW1
 clear hW1
 have hxbH := Lib.hid hxb
 clear hxb
 have hbaH := Lib.hid hba
 clear hba
 have hstH := Lib.hid hst
 clear hst
 have hxsH := Lib.hid hxs
 clear hxs
 have hwsH := Lib.hid hws
 clear hws
 have hl1H := Lib.hid hl1
 clear hl1
 have hNeH := Lib.hid hNe
 clear hNe
 have hxAH := Lib.hid hxA
 clear hxA
 have hxcH := Lib.hid hxc
 clear hxc
 have hMeH := Lib.hid hMe
 clear hMe
 have hwAH := Lib.hid hwA
 clear hwA
 have hwcH := Lib.hid hwc
 clear hwc
 have hNH := Lib.hid hN
 clear hN
 have hMH := Lib.hid hM
 clear hM
 have hC1H := Lib.hid hC1
 clear hC1
 have hllH := Lib.hid hll
 clear hll
 have hlH := Lib.hid hl
 clear hl
 have hokH := Lib.hid hok
 clear hok
 have hIH := Lib.hid hI
 clear hI
 go_enter Tryz.func28, Tryz.ntmps28
 go_wp2_with fail
 rw [hW1H.out, hxbH.out]
 go_loopw [15] (fun i wr => RgOut n W1 i wr) (fun i _ => n - (intOf i).toNat)
 case atStart => exact hstH.out
 case round =>
  clear hstH
  obtain ⟨k, hk, rfl, hb⟩ := hrel
  have hbs := hb.size
  by_cases hlt : k < n
  ·have hsl := hl1H.out.below hb
   obtain ⟨bl, ol, hA8, _⟩ := hsl.2.1 (by omega)
   subst hA8
   obtain ⟨r, hr⟩ : ∃ r, l[k]? = some r := ⟨l[k]'(by have := hllH.out; omega), List.getElem?_eq_getElem _⟩
   obtain ⟨e0, e1, e2, e3, e4⟩ := cells_Run hsl hr
   have hrm := List.mem_of_getElem? hr
   have hid := hIH.out.hid r hrm
   have hnm := hIH.out.hnm r hrm
   obtain ⟨rid, rwk, rfm, rto, ren⟩ := r
   simp only at e0 e1 e2 e3 e4 hid hnm
   have hbl := hb.alloc hbs (.cells #[.string rid, .string rwk, .int .i64 rfm, .int .i64 rto, .int .i64 ren] 34)
   obtain ⟨W5, hW5⟩ : ∃ Y, wr.alloc (.cells #[.string rid, .string rwk, .int .i64 rfm, .int .i64 rto, .int .i64 ren] 34) = Y := ⟨_, rfl⟩
   obtain ⟨rb, hrb⟩ : ∃ b, wr.heap.size = b := ⟨_, rfl⟩
   have y1 : W5.cell? ⟨rb, 1, none⟩ = some (.string rwk) := by rw [← hW5, ← hrb]; exact cell_new _ _ _ 1
   obtain ⟨c0, c1⟩ := hC1H.out _ hbl
   have hxs5 := hxsH.out.below hbl
   have hws5 := hwsH.out.below hbl
   rw [hW5] at hxs5 hws5
   have hwo : woF x.works.l rid = ((ixOf x.works.l rid : Nat) : Int) := by unfold woF; rw [if_pos hid]
   have hwk : wkF x.workers.l rwk = ((ixNm x.workers.l rwk : Nat) : Int) := by unfold wkF; rw [if_pos hnm]
   have hbH := Lib.hid hb
   clear hb
   have hrH := Lib.hid hr
   clear hr
   have hrmH := Lib.hid hrm
   clear hrm
   have hidH := Lib.hid hid
   clear hid
   have hnmH := Lib.hid hnm
   clear hnm
   have hW5H := Lib.hid hW5
   clear hW5
   have hrbH := Lib.hid hrb
   clear hrb
   have hblH := Lib.hid hbl
   clear hbl
   have hwoH := Lib.hid hwo
   clear hwo
   have hwkH := Lib.hid hwk
   clear hwk
   have hxs5H := Lib.hid hxs5
   clear hxs5
   have hws5H := Lib.hid hws5
   clear hws5
   have hslH := Lib.hid hsl
   clear hsl
   go_wp2_with fail
   rw [hW5H.out, hrbH.out]
   refine (workOf_any xA N xc x.works.l rid _ (by omega) hxs5H.out).mono ?_
   rintro e w6 ⟨rfl, hb6⟩
   rw [hwoH.out]
   have y1 := keepC hb6 y1
   have hb56 := hblH.out
   rw [hW5H.out] at hb56
   have hb66 := hb56.trans (hb6.mono hb56.size)
   clear e0 e1 e2 e3 e4 c0 c1
   obtain ⟨c0, c1⟩ := hC1H.out w6 hb66
   have hws6 := hws5H.out.below hb6
   have hb6H := Lib.hid hb6
   clear hb6
   have hb56H := Lib.hid hb56
   clear hb56
   have hb66H := Lib.hid hb66
   clear hb66
   have hws6H := Lib.hid hws6
   clear hws6
   go_wp2_with fail
   refine (workerOf_any wA M wc x.workers.l rwk _ (by omega) hws6H.out).mono ?_
   rintro e w7 ⟨rfl, hb7⟩
   rw [hwkH.out]
   have R : RgOut n W1 (.int .i64 ((k : Int) + 1)) w7 := ⟨k + 1, hlt, by go_num, hb66H.out.trans (hb7.mono hb66H.out.size)⟩
   clear c0 c1 y1
   have hb7H := Lib.hid hb7
   clear hb7
   have RH := Lib.hid R
   clear R
   go_wp2
   refine ⟨?rel, ?measure⟩
   case measure => (simp [intOf]; omega)
   case rel => first | exact RH.out | exact ⟨rfl, RH.out⟩ | ((try refine ⟨rfl, ?_⟩); (repeat apply Exists.intro); refine ⟨RH.out, ?_⟩; ((repeat' apply And.intro) <;> rfl))
  ·obtain rfl : k = n := by omega
   obtain ⟨c0, c1⟩ := hC1H.out wr hb
   obtain ⟨c2, c3, c4⟩ := hC4H.out wr hb
   have hx5 := RFarm.mono _ _ _ hb hx1H.out
   have hdb := doneBy_any x A k cap l wr hx5 (hl1H.out.below hb) hn hokH.out hIH.out.hid hIH.out.hto
   unfold farmV at hdb
   rw [hMeH.out, hwAH.out, hwcH.out, hNeH.out, hxAH.out, hxcH.out] at hdb
   have hbH := Lib.hid hb
   clear hb
   have hx5H := Lib.hid hx5
   clear hx5
   have hdbH := Lib.hid hdb
   clear hdb
   go_wp2_with fail
   refine hdbH.out.mono ?_
   rintro e w6 ⟨B, rfl, hrow, hBB, hb6⟩
   rw [hNeH.out] at hrow ⊢
   have hb66 := hbH.out.trans (hb6.mono hbH.out.size)
   have hst2 : RgOut k w6 (.int .i64 0) w6 := ⟨0, Nat.zero_le _, rfl, Below.refl _ _⟩
   have hl6 := hl1H.out.below hb66
   have hxs6 := hxsH.out.below hb66
   have hC6 : ∀ W, Below w6.heap.size w6 W → W.cell? ⟨xb, 1, none⟩ = some (.slice xA N xc) := fun W h => (hC1H.out W (hb66.trans (h.mono hb66.size))).2
   clear c0 c1 c2 c3 c4
   have hrowH := Lib.hid hrow
   clear hrow
   have hBBH := Lib.hid hBB
   clear hBB
   have hb6H := Lib.hid hb6
   clear hb6
   have hb66H := Lib.hid hb66
   clear hb66
   have hst2H := Lib.hid hst2
   clear hst2
   have hl6H := Lib.hid hl6
   clear hl6
   have hxs6H := Lib.hid hxs6
   clear hxs6
   have hC6H := Lib.hid hC6
   clear hC6
   go_wp2_with fail
   obtain ⟨wa, rfl⟩ : ∃ W, W = wr := ⟨_, rfl⟩
   go_loopw [39] (fun i wq => RgOut k w6 i wq) (fun i _ => k - (intOf i).toNat)
   case atStart => exact hst2H.out
   case round =>
    clear hst2H
    obtain ⟨q, hq, rfl, hb⟩ := hrel
    have hbs := hb.size
    by_cases hlt2 : q < k
    ·have hsl := hl6H.out.below hb
     obtain ⟨bl, ol, hA8, _⟩ := hsl.2.1 (by omega)
     subst hA8
     obtain ⟨r, hr⟩ : ∃ r, l[q]? = some r := ⟨l[q]'(by have := hllH.out; omega), List.getElem?_eq_getElem _⟩
     obtain ⟨e0, e1, e2, e3, e4⟩ := cells_Run hsl hr
     have hrm := List.mem_of_getElem? hr
     have hid := hIH.out.hid r hrm
     have hord := hIH.out.ord r hrm
     obtain ⟨z, hz, hzi⟩ := ixOf_get hid
     replace hord := hord z hz
     obtain ⟨rid, rwk, rfm, rto, ren⟩ := r
     simp only at e0 e1 e2 e3 e4 hid hz hzi hord
     obtain ⟨ix, hixe⟩ : ∃ j, ixOf x.works.l rid = j := ⟨_, rfl⟩
     have hwo : woF x.works.l rid = ((ixOf x.works.l rid : Nat) : Int) := by unfold woF; rw [if_pos hid]
     rw [hixe] at hwo hz
     have hixl : ix < N := by have := (List.getElem?_eq_some_iff.1 hz).1; have := hNH.out; omega
     have hbl := (Below.refl wr.heap.size wr).alloc (Nat.le_refl _) (.cells #[.string rid, .string rwk, .int .i64 rfm, .int .i64 rto, .int .i64 ren] 34)
     obtain ⟨W5, hW5⟩ : ∃ Y, wr.alloc (.cells #[.string rid, .string rwk, .int .i64 rfm, .int .i64 rto, .int .i64 ren] 34) = Y := ⟨_, rfl⟩
     obtain ⟨rb, hrb⟩ : ∃ b, wr.heap.size = b := ⟨_, rfl⟩
     have y0 : W5.cell? ⟨rb, 0, none⟩ = some (.string rid) := by rw [← hW5, ← hrb]; exact cell_new _ _ _ 0
     have y2 : W5.cell? ⟨rb, 2, none⟩ = some (.int .i64 rfm) := by rw [← hW5, ← hrb]; exact cell_new _ _ _ 2
     rw [hW5] at hbl
     have hb5 := hb.trans (hbl.mono hbs)
     have hxs5 := hxs6H.out.below hb5
     have c1 := hC6H.out W5 hb5
     obtain ⟨bx, ox, hA6, _⟩ := hxs5.2.1 (by omega)
     subst hA6
     have hzc := (cells_Work hxs5 hz).2.2.2
     have hzaf := (hxs5.2.2 z (List.mem_of_getElem? hz)).2.2.2
     obtain ⟨zid, znd, zsz, zaf⟩ := z
     obtain ⟨aA, an, ac, al⟩ := zaf
     simp only at hzc hzaf hord
     have hal : SlAt RStr W5 aA an al := hzaf.1
     have han : an ≤ 9223372036854775807 := by have h1 : an ≤ ac := hzaf.2.1; have h2 : ac ≤ maxLen := hzaf.2.2.1; unfold maxLen at h2; omega
     have hall := hal.1
     have hS0 : (fun W : World => Below W5.heap.size W5 W ∧ W.cell? ⟨xb, 1, none⟩ = some (.slice (some ⟨bx, ox, none⟩) N xc) ∧ W.cell? ⟨rb, 0, none⟩ = some (.string rid) ∧ W.cell? ⟨rb, 2, none⟩ = some (.int .i64 rfm) ∧ W.cell? ⟨bx, ox + ix * 4 + 3, none⟩ = some (.slice aA an ac)) W5 := ⟨Below.refl _ _, c1, y0, y2, hzc⟩
     have hkS : ∀ W W' : World, Below W.heap.size W W' → (Below W5.heap.size W5 W ∧ W.cell? ⟨xb, 1, none⟩ = some (.slice (some ⟨bx, ox, none⟩) N xc) ∧ W.cell? ⟨rb, 0, none⟩ = some (.string rid) ∧ W.cell? ⟨rb, 2, none⟩ = some (.int .i64 rfm) ∧ W.cell? ⟨bx, ox + ix * 4 + 3, none⟩ = some (.slice aA an ac)) → (Below W5.heap.size W5 W' ∧ W'.cell? ⟨xb, 1, none⟩ = some (.slice (some ⟨bx, ox, none⟩) N xc) ∧ W'.cell? ⟨rb, 0, none⟩ = some (.string rid) ∧ W'.cell? ⟨rb, 2, none⟩ = some (.int .i64 rfm) ∧ W'.cell? ⟨bx, ox + ix * 4 + 3, none⟩ = some (.slice aA an ac)) := fun W W' hb h => ⟨h.1.trans (hb.mono h.1.size), keepC hb h.2.1, keepC hb h.2.2.1, keepC hb h.2.2.2.1, keepC hb h.2.2.2.2⟩
     have hdm : ∀ s ∈ al, 0 ≤ dmL l s ∧ dmL l s ≤ rfm := fun s hs => (dm_ok (fun y hy => (hIH.out.hto y hy).1) s rfm).2 (hord s hs)
     have hth : ∀ s ∈ al, hasId x.works.l s = true := fun s hs => allThere_get hokH.out.wo.all hz hs
     have hrow5 := (hrowH.out.bel hb).bel hbl
     have hR9 : ∀ W, Below W5.heap.size W5 W → RgOut k w6 (.int .i64 ((q : Int) + 1)) W := fun W h => ⟨q + 1, hlt2, by go_num, hb5.trans (h.mono hb5.size)⟩
     have hSd := hkS _ _ (Below.refl W5.heap.size W5).drew hS0
     have hC5 : ∀ W, Below W5.heap.size W5 W → W.cell? ⟨xb, 1, none⟩ = some (.slice (some ⟨bx, ox, none⟩) N xc) ∧ W.cell? ⟨rb, 2, none⟩ = some (.int .i64 rfm) := fun W h => ⟨keepC h c1, keepC h y2⟩
     clear c1 y0 y2 hzc hzaf hord
     have hbH := Lib.hid hb
     clear hb
     have hrH := Lib.hid hr
     clear hr
     have hrmH := Lib.hid hrm
     clear hrm
     have hidH := Lib.hid hid
     clear hid
     have hzH := Lib.hid hz
     clear hz
     have hziH := Lib.hid hzi
     clear hzi
     have hixeH := Lib.hid hixe
     clear hixe
     have hwoH := Lib.hid hwo
     clear hwo
     have hblH := Lib.hid hbl
     clear hbl
     have hW5H := Lib.hid hW5
     clear hW5
     have hrbH := Lib.hid hrb
     clear hrb
     have hb5H := Lib.hid hb5
     clear hb5
     have hxs5H := Lib.hid hxs5
     clear hxs5
     have halH := Lib.hid hal
     clear hal
     have hallH := Lib.hid hall
     clear hall
     have hS0H := Lib.hid hS0
     clear hS0
     have hkSH := Lib.hid hkS
     clear hkS
     have hdmH := Lib.hid hdm
     clear hdm
     have hthH := Lib.hid hth
     clear hth
     have hrow5H := Lib.hid hrow5
     clear hrow5
     have hR9H := Lib.hid hR9
     clear hR9
     have hSdH := Lib.hid hSd
     clear hSd
     have hC5H := Lib.hid hC5
     clear hC5
     have hslH := Lib.hid hsl
     clear hsl
     go_wp2_with fail
     rw [hW5H.out, hrbH.out]
     clear e0 e1 e2 e3 e4
     refine wp_region_held_drew (S := fun W : World => Below W5.heap.size W5 W ∧ W.cell? ⟨xb, 1, none⟩ = some (.slice (some ⟨bx, ox, none⟩) N xc) ∧ W.cell? ⟨rb, 0, none⟩ = some (.string rid) ∧ W.cell? ⟨rb, 2, none⟩ = some (.int .i64 rfm) ∧ W.cell? ⟨bx, ox + ix * 4 + 3, none⟩ = some (.slice aA an ac)) (by kernel_rfl) hSdH.out (fun hHeld => ?_)
     refine tkH (i := 0) (d := some 43) (v := ?_) (hy := Or.inl ⟨by rfl, ?_⟩) (h := ?_)
     rotate_left
     ·(intro w hSw; (try dsimp only at hSw); go_simp; (try with_reducible rfl))
     (try simp only [Act.put, tkA, tkB, tkC])
     refine tkH (i := 1) (d := some 44) (v := ?_) (hy := Or.inl ⟨by rfl, ?_⟩) (h := ?_)
     rotate_left
     ·(intro w hSw; (try dsimp only at hSw); go_simp; (try with_reducible rfl))
     (try simp only [Act.put, tkA, tkB, tkC])
     refine tkH (i := 2) (d := some 45) (v := ?_) (hy := Or.inl ⟨by rfl, ?_⟩) (h := ?_)
     rotate_left
     ·(intro w hSw; (try dsimp only at hSw); go_simp; (try with_reducible rfl))
     (try simp only [Act.put, tkA, tkB, tkC])
     refine tkH (i := 3) (d := some 46) (v := ?_) (hy := Or.inl ⟨by rfl, ?_⟩) (h := ?_)
     rotate_left
     ·(intro w hSw; (try dsimp only at hSw); go_simp; (try with_reducible rfl))
     (try simp only [Act.put, tkA, tkB, tkC])
     refine tkH (i := 4) (d := some 47) (v := ?_) (hy := Or.inl ⟨by rfl, ?_⟩) (h := ?_)
     rotate_left
     ·(intro w hSw; (try dsimp only at hSw); go_simp; (try with_reducible rfl))
     (try simp only [Act.put, tkA, tkB, tkC])
     refine tkH (i := 5) (d := some 48) (v := ?_) (hy := Or.inl ⟨by rfl, ?_⟩) (h := ?_)
     rotate_left
     ·(intro w hSw; (try dsimp only at hSw); go_simp; (try with_reducible rfl))
     (try simp only [Act.put, tkA, tkB, tkC])
     refine tkH (i := 11) (d := some 54) (v := ?_) (hy := Or.inl ⟨by rfl, ?_⟩) (h := ?_)
     rotate_left
     ·(intro w hSw; (try dsimp only at hSw); go_simp; (try with_reducible rfl))
     (try simp only [Act.put, tkA, tkB, tkC])
     refine wpAnyH_ready (rs := [6]) (by kernel_rfl) (by simp) ?_
     refine AllReadyH.cons (i := 6) rfl (fun K hK => ?_) AllReadyH.nil
     go_simp
     go_at_call 60
     refine (workOf_any _ N xc x.works.l rid _ (by omega) (hxs5H.out.below hHeld.1)).mono ?_
     rintro e w7 ⟨rfl, hb7⟩
     rw [hwoH.out]
     have hS7 := hkSH.out _ _ hb7 hHeld
     clear hb7
     refine hK.out _ _ hS7 (fun hHeld => ?_)
     clear hK K
     (try simp only [Act.put, List.setIfInBounds_toArray, List.set_cons_zero, List.set_cons_succ])
     have hix0 : (0 : Int) ≤ (ix : Int) := by omega
     have hix1 : (ix : Int) < (N : Int) := by omega
     refine tkH (i := 7) (d := some 50) (v := ?_) (hy := Or.inl ⟨by rfl, ?_⟩) (h := ?_)
     rotate_left
     ·(intro w hSw; (try dsimp only at hSw); go_simp; (try with_reducible rfl))
     (try simp only [Act.put, tkA, tkB, tkC])
     refine tkH (i := 8) (d := some 51) (v := ?_) (hy := Or.inl ⟨by rfl, ?_⟩) (h := ?_)
     rotate_left
     ·(intro w hSw; (try dsimp only at hSw); go_simp; (try with_reducible rfl))
     (try simp only [Act.put, tkA, tkB, tkC])
     refine tkH (i := 9) (d := some 52) (v := ?_) (hy := Or.inl ⟨by rfl, ?_⟩) (h := ?_)
     rotate_left
     ·(intro w hSw; (try dsimp only at hSw); go_simp; (try with_reducible rfl))
     (try simp only [Act.put, tkA, tkB, tkC])
     refine tkH (i := 10) (d := some 53) (v := ?_) (hy := Or.inl ⟨by rfl, ?_⟩) (h := ?_)
     rotate_left
     ·(intro w hSw; (try dsimp only at hSw); go_simp; (try with_reducible rfl))
     (try simp only [Act.put, tkA, tkB, tkC])
     refine wpAnyH_done (by kernel_rfl) ?_ _
     have hb7 := hHeld.1
     have hst3 : RgOut an W5 (.int .i64 0) _ := ⟨0, Nat.zero_le _, rfl, hb7⟩
     clear hHeld
     have hb7H := Lib.hid hb7
     clear hb7
     have hst3H := Lib.hid hst3
     clear hst3
     go_wp2_with fail
     obtain ⟨wb, rfl⟩ : ∃ W, W = wr := ⟨_, rfl⟩
     go_loopw [54] (fun i wq => RgOut an W5 i wq) (fun i _ => an - (intOf i).toNat)
     case atStart => exact hst3H.out
     case round =>
      clear hst3H
      obtain ⟨j, hj, rfl, hbj⟩ := hrel
      have hbjs := hbj.size
      obtain ⟨c1, y2⟩ := hC5H.out wr hbj
      by_cases hlt3 : j < an
      ·have halj := halH.out.below hbj
       obtain ⟨ba, oa, hA5, _⟩ := halj.2.1 (by omega)
       subst hA5
       obtain ⟨s, hs⟩ : ∃ s, al[j]? = some s := ⟨al[j]'(by have := hallH.out; omega), List.getElem?_eq_getElem _⟩
       have e0 := cell_Str halj hs
       have hsm := List.mem_of_getElem? hs
       obtain ⟨p1, p2⟩ := hdmH.out s hsm
       have hsth := hthH.out s hsm
       obtain ⟨zz, hzz, hzzi⟩ := ixOf_get hsth
       have hwos : woF x.works.l s = ((ixOf x.works.l s : Nat) : Int) := by unfold woF; rw [if_pos hsth]
       obtain ⟨jx, hjx⟩ : ∃ j, ixOf x.works.l s = j := ⟨_, rfl⟩
       rw [hjx] at hwos hzz
       have hjxl : jx < N := by have := (List.getElem?_eq_some_iff.1 hzz).1; have := hNH.out; omega
       have hrowj := (hrow5H.out.bel hbj)
       have hxsj := hxs5H.out.below hbj
       have hwoz : (woOf x jx).id_ = s := by rw [woOf_get hzz, hzzi]
       have hbjH := Lib.hid hbj
       clear hbj
       have hsH := Lib.hid hs
       clear hs
       have hsmH := Lib.hid hsm
       clear hsm
       have hsthH := Lib.hid hsth
       clear hsth
       have hzzH := Lib.hid hzz
       clear hzz
       have hzziH := Lib.hid hzzi
       clear hzzi
       have hwosH := Lib.hid hwos
       clear hwos
       have hjxH := Lib.hid hjx
       clear hjx
       have hrowjH := Lib.hid hrowj
       clear hrowj
       have hxsjH := Lib.hid hxsj
       clear hxsj
       have haljH := Lib.hid halj
       clear halj
       have hwozH := Lib.hid hwoz
       clear hwoz
       go_wp2_with fail
       refine (workOf_any _ N xc x.works.l s _ (by omega) hxsjH.out).mono ?_
       rintro e w8 ⟨rfl, hb8⟩
       rw [hwosH.out]
       have hrow8 := hrowjH.out.bel hb8
       have g0 := (hrow8 jx hjxl).1
       dsimp only at g0
       rw [hwozH.out] at g0
       obtain ⟨dv, hdv⟩ : ∃ v, dmL l s = v := ⟨_, rfl⟩
       rw [hdv] at g0 p1 p2
       have y2 := keepC hb8 y2
       have q1 : decide (dv < 0) = false := decide_eq_false (by omega)
       have q2 : decide (dv > rfm) = false := decide_eq_false (by omega)
       have R : RgOut an W5 (.int .i64 ((j : Int) + 1)) w8 := ⟨j + 1, hlt3, by go_num, hbjH.out.trans (hb8.mono hbjH.out.size)⟩
       have hjx0 : (0 : Int) ≤ (jx : Int) := by omega
       have hjx1 : (jx : Int) < (N : Int) := by omega
       clear c1 e0
       have hb8H := Lib.hid hb8
       clear hb8
       have hrow8H := Lib.hid hrow8
       clear hrow8
       have hdvH := Lib.hid hdv
       clear hdv
       have RH := Lib.hid R
       clear R
       go_wp2
       refine ⟨?rel, ?measure⟩
       case measure => (simp [intOf]; omega)
       case rel => first | exact RH.out | exact ⟨rfl, RH.out⟩ | ((try refine ⟨rfl, ?_⟩); (repeat apply Exists.intro); refine ⟨RH.out, ?_⟩; ((repeat' apply And.intro) <;> rfl))
      ·obtain rfl : j = an := by omega
       have R := hR9H.out _ hbj
       clear c1 y2
       have RH := Lib.hid R
       clear R
       have hbjH := Lib.hid hbj
       clear hbj
       go_wp2
       refine ⟨?rel, ?measure⟩
       case measure => (simp [intOf]; omega)
       case rel => first | exact RH.out | exact ⟨rfl, RH.out⟩ | ((try refine ⟨rfl, ?_⟩); (repeat apply Exists.intro); refine ⟨RH.out, ?_⟩; ((repeat' apply And.intro) <;> rfl))
    ·obtain rfl : q = k := by omega
     have R := RZH.out _ (hb66H.out.trans (hb.mono hb66H.out.size))
     have RH := Lib.hid R
     clear R
     have hbH := Lib.hid hb
     clear hb
     go_wp2
     exact RH.out
end Go.Proofs.YtbnkoefljcekbaaGreatDoor.C9
