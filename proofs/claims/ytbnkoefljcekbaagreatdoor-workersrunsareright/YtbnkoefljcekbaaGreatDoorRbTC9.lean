/-
 Several texts of mine as one, without what is not wanted here: XFmS, XFarmO, XCheckRuns.
-/
import Derived.Test.YtbnkoefljcekbaaGreatDoorRbSC9
import Derived.Test.YtbnkoefljcekbaaGreatDoorRbPC9
import Derived.Test.YtbnkoefljcekbaaGreatDoorRbGh
import Derived.Test.YtbnkoefljcekbaaGreatDoorRbEC9
import Derived.Test.YtbnkoefljcekbaaGreatDoorRbBC9
import Derived.IntWalk
namespace Go.Proofs.YtbnkoefljcekbaaGreatDoor.C9
open Go.ChangeShapes Go.WideShapes Go.Deep Go.RowKit Go.Maps
set_option linter.unusedVariables false
set_option linter.unusedSimpArgs false

def OpRel (l : List Loss) (b4 n : Nat) (W9 : World) (i : Value) (wr : World) : Prop :=
 ∃ k c : Nat, k ≤ n ∧ i = .int .i64 k ∧ c ≤ k ∧ TMap KLo (fun b : Bool => Value.bool b) wr b4 (fun y => if y ∈ l.take k then some true else none) c ∧ W9.grownBy wr (some b4)
def OpenAns (x : Farm) (w : World) (e : Ending) (w' : World) : Prop :=
 ∃ (X : FX) (rv ov : Value), e = .returned (.pointer (some ⟨X.f, 0, none⟩)) ∧ X.x = x ∧ X.F = fpOf x (ordOf X.S X.N) ∧ Crit (gOf x.works.l) (szOf x.works.l) X.N (gt X.S) ∧ FA X KLo rv ov p0 w w'
set_option maxRecDepth 100000 in
set_option maxHeartbeats 8000000 in
theorem open_any (x : Farm) (w : World) (hx : RFarm.ok w x) (hok : FarmOk x) :
  Calls Tryz.prog 31 #[.agg #[.slice x.workers.A x.workers.n x.workers.cap, .slice x.works.A x.works.n x.works.cap, .slice x.lost.A x.lost.n x.lost.cap, .int .i64 x.tries, .bool x.doubles]] w (OpenAns x w) := by
 obtain ⟨hx0, hx1, hx2, hx3, hx4⟩ := hx
 have hN : x.works.l.length = x.works.n := hx1.1.1
 have hN2 : x.works.n ≤ 200 := by have := hok.wo.len; omega
 obtain ⟨W1, hW1⟩ : ∃ Y, w.alloc (.cells #[.slice x.workers.A x.workers.n x.workers.cap, .slice x.works.A x.works.n x.works.cap, .slice x.lost.A x.lost.n x.lost.cap, .int .i64 x.tries, .bool x.doubles] 26) = Y := ⟨_, rfl⟩
 obtain ⟨xb, hxb⟩ : ∃ b, w.heap.size = b := ⟨_, rfl⟩
 have hba : Below w.heap.size w W1 := by rw [← hW1]; exact (Below.refl _ _).alloc (Nat.le_refl _) _
 have c0 : W1.cell? ⟨xb, 0, none⟩ = some (.slice x.workers.A x.workers.n x.workers.cap) := by rw [← hW1, ← hxb]; exact cell_new _ _ _ 0
 have c1 : W1.cell? ⟨xb, 1, none⟩ = some (.slice x.works.A x.works.n x.works.cap) := by rw [← hW1, ← hxb]; exact cell_new _ _ _ 1
 have c2 : W1.cell? ⟨xb, 2, none⟩ = some (.slice x.lost.A x.lost.n x.lost.cap) := by rw [← hW1, ← hxb]; exact cell_new _ _ _ 2
 have c3 : W1.cell? ⟨xb, 3, none⟩ = some (.int .i64 x.tries) := by rw [← hW1, ← hxb]; exact cell_new _ _ _ 3
 have c4 : W1.cell? ⟨xb, 4, none⟩ = some (.bool x.doubles) := by rw [← hW1, ← hxb]; exact cell_new _ _ _ 4
 obtain ⟨N, hNe⟩ : ∃ n, x.works.n = n := ⟨_, rfl⟩
 obtain ⟨Z, hZ⟩ : ∃ Z, OpenAns x w = Z := ⟨_, rfl⟩
 rw [hZ]
 have hlt : xb < W1.heap.size := cell?_lt c0
 have hS0 : (fun w' : World => w'.cell? ⟨xb, 0, none⟩ = some (.slice x.workers.A x.workers.n x.workers.cap) ∧ w'.cell? ⟨xb, 1, none⟩ = some (.slice x.works.A N x.works.cap) ∧ w'.cell? ⟨xb, 2, none⟩ = some (.slice x.lost.A x.lost.n x.lost.cap) ∧ w'.cell? ⟨xb, 3, none⟩ = some (.int .i64 x.tries) ∧ w'.cell? ⟨xb, 4, none⟩ = some (.bool x.doubles)) W1 := ⟨c0, by rw [← hNe]; exact c1, c2, c3, c4⟩
 have hZH := Lib.hid hZ
 clear hZ
 have hx0H := Lib.hid hx0
 clear hx0
 have hx1H := Lib.hid hx1
 clear hx1
 have hx2H := Lib.hid hx2
 clear hx2
 have hx3H := Lib.hid hx3
 clear hx3
 have hx4H := Lib.hid hx4
 clear hx4
 have hokH := Lib.hid hok
 clear hok
 have hNH := Lib.hid hN
 clear hN
 have hN2H := Lib.hid hN2
 clear hN2
 have hW1H := Lib.hid hW1
 clear hW1
 have hxbH := Lib.hid hxb
 clear hxb
 have hbaH := Lib.hid hba
 clear hba
 have hltH := Lib.hid hlt
 clear hlt
 have hS0H := Lib.hid hS0
 clear hS0
 have hNeH := Lib.hid hNe
 clear hNe
 go_enter Tryz.func31, Tryz.ntmps31
 go_wp2_with fail
 rw [hW1H.out, hxbH.out, hNeH.out]
 clear c0 c1 c2 c3 c4
 refine wp_region_held_drew (S := fun w' : World => w'.cell? ⟨xb, 0, none⟩ = some (.slice x.workers.A x.workers.n x.workers.cap) ∧ w'.cell? ⟨xb, 1, none⟩ = some (.slice x.works.A N x.works.cap) ∧ w'.cell? ⟨xb, 2, none⟩ = some (.slice x.lost.A x.lost.n x.lost.cap) ∧ w'.cell? ⟨xb, 3, none⟩ = some (.int .i64 x.tries) ∧ w'.cell? ⟨xb, 4, none⟩ = some (.bool x.doubles)) (by kernel_rfl) hS0H.out (fun hHeld => ?_)
 refine tkH (i := 0) (d := some 10) (v := ?_) (hy := Or.inl ⟨by rfl, ?_⟩) (h := ?_)
 rotate_left
 ·(intro w hSw; (try dsimp only at hSw); go_simp; (try with_reducible rfl))
 (try simp only [Act.put, tkA, tkB, tkC])
 refine tkH (i := 1) (d := some 11) (v := ?_) (hy := Or.inl ⟨by rfl, ?_⟩) (h := ?_)
 rotate_left
 ·(intro w hSw; (try dsimp only at hSw); go_simp; (try with_reducible rfl))
 (try simp only [Act.put, tkA, tkB, tkC])
 refine tkH (i := 2) (d := some 12) (v := ?_) (hy := Or.inl ⟨by rfl, ?_⟩) (h := ?_)
 rotate_left
 ·(intro w hSw; (try dsimp only at hSw); go_simp; (try with_reducible rfl))
 (try simp only [Act.put, tkA, tkB, tkC])
 refine tkH (i := 5) (d := some 15) (v := ?_) (hy := Or.inl ⟨by rfl, ?_⟩) (h := ?_)
 rotate_left
 ·(intro w hSw; (try dsimp only at hSw); go_simp; (try with_reducible rfl))
 (try simp only [Act.put, tkA, tkB, tkC])
 refine tkH (i := 7) (d := some 17) (v := ?_) (hy := Or.inl ⟨by rfl, ?_⟩) (h := ?_)
 rotate_left
 ·(intro w hSw; (try dsimp only at hSw); go_simp; (try with_reducible rfl))
 (try simp only [Act.put, tkA, tkB, tkC])
 refine tkH (i := 9) (d := some 19) (v := ?_) (hy := Or.inl ⟨by rfl, ?_⟩) (h := ?_)
 rotate_left
 ·(intro w hSw; (try dsimp only at hSw); go_simp; (try with_reducible rfl))
 (try simp only [Act.put, tkA, tkB, tkC])
 refine tkH (i := 11) (d := some 21) (v := ?_) (hy := Or.inl ⟨by rfl, ?_⟩) (h := ?_)
 rotate_left
 ·(intro w hSw; (try dsimp only at hSw); go_simp; (try with_reducible rfl))
 (try simp only [Act.put, tkA, tkB, tkC])
 have hkS : ∀ W W' : World, Below W.heap.size W W' → (W.cell? ⟨xb, 0, none⟩ = some (.slice x.workers.A x.workers.n x.workers.cap) ∧ W.cell? ⟨xb, 1, none⟩ = some (.slice x.works.A N x.works.cap) ∧ W.cell? ⟨xb, 2, none⟩ = some (.slice x.lost.A x.lost.n x.lost.cap) ∧ W.cell? ⟨xb, 3, none⟩ = some (.int .i64 x.tries) ∧ W.cell? ⟨xb, 4, none⟩ = some (.bool x.doubles)) →
   (W'.cell? ⟨xb, 0, none⟩ = some (.slice x.workers.A x.workers.n x.workers.cap) ∧ W'.cell? ⟨xb, 1, none⟩ = some (.slice x.works.A N x.works.cap) ∧ W'.cell? ⟨xb, 2, none⟩ = some (.slice x.lost.A x.lost.n x.lost.cap) ∧ W'.cell? ⟨xb, 3, none⟩ = some (.int .i64 x.tries) ∧ W'.cell? ⟨xb, 4, none⟩ = some (.bool x.doubles)) :=
  fun W W' hb h => ⟨keepC hb h.1, keepC hb h.2.1, keepC hb h.2.2.1, keepC hb h.2.2.2.1, keepC hb h.2.2.2.2⟩
 change wpAnyH _ _ _ _ _ 9 (L6b false false false false false false) _ _
 refine pool6a (τ := List Int) N (PJ x xb N w) _ rfl ?hR [] _ ?hJ hHeld ?H0 ?h3 ?h4 ?h6 ?h8 ?h10 ?h12
 case hR => intro b3 b4 b6 b8 b10 b12; cases b3 <;> cases b4 <;> cases b6 <;> cases b8 <;> cases b10 <;> cases b12 <;> kernel_rfl
 case hJ => exact ⟨hbaH.out.trans (Below.refl _ _).drew, hltH.out, (fun k b e => by cases e), (fun i j b e => by cases e), (fun b e => by cases e), (fun b e => by cases e), (fun b e => by cases e), (fun b e => by cases e), (fun b e => by cases e), fun b e => by cases e⟩
 case H0 =>
  rintro o t wr ⟨e3, e4, e6, e8, e10, e12⟩ hJ hS
  obtain ⟨b3, g3⟩ := Option.isSome_iff_exists.1 e3
  obtain ⟨b4, g4⟩ := Option.isSome_iff_exists.1 e4
  obtain ⟨b6, g6⟩ := Option.isSome_iff_exists.1 e6
  obtain ⟨b8, g8⟩ := Option.isSome_iff_exists.1 e8
  obtain ⟨b10, g10⟩ := Option.isSome_iff_exists.1 e10
  obtain ⟨b12, g12⟩ := Option.isSome_iff_exists.1 e12
  simp only [putAll, g3, g4, g6, g8, g10, g12, pvS, pvM, Act.put, List.setIfInBounds_toArray, List.set_cons_zero, List.set_cons_succ]
  have hJH := Lib.hid hJ
  clear hJ
  have hkSH := Lib.hid hkS
  clear hkS
  refine wpAnyH_ready (rs := [13]) (by kernel_rfl) (by simp) ?_
  refine AllReadyH.cons (i := 13) rfl (fun K hK => ?_) AllReadyH.nil
  go_simp
  refine hK.out _ _ hS (fun hHeld => ?_)
  clear hK K
  (try simp only [Act.put, List.setIfInBounds_toArray, List.set_cons_zero, List.set_cons_succ])
  refine wpAnyH_ready (rs := [14]) (by kernel_rfl) (by simp) ?_
  refine AllReadyH.cons (i := 14) rfl (fun K hK => ?_) AllReadyH.nil
  go_simp
  refine hK.out _ _ (hkSH.out _ _ ((Below.refl _ _).alloc (Nat.le_refl _) _) hHeld) (fun hHeld => ?_)
  clear hK K
  (try simp only [Act.put, List.setIfInBounds_toArray, List.set_cons_zero, List.set_cons_succ])
  refine wpAnyH_ready (rs := [15]) (by kernel_rfl) (by simp) ?_
  refine AllReadyH.cons (i := 15) rfl (fun K hK => ?_) AllReadyH.nil
  go_simp
  refine hK.out _ _ hHeld (fun hHeld => ?_)
  clear hK K
  (try simp only [Act.put, List.setIfInBounds_toArray, List.set_cons_zero, List.set_cons_succ])
  refine wpAnyH_done (by kernel_rfl) ?_ _
  have hJ := hJH.out
  have hnw : x.works.n = N := hNeH.out
  obtain ⟨W9, hW9⟩ : ∃ Y, wr.alloc (.cells (FX.cells (fxOf x t N w.heap.size wr.heap.size b3 b4 b6 b8 b10 b12 0) 0 (.slice none 0 0) (.slice none 0 0)).toArray 61) = Y := ⟨_, rfl⟩
  have hb9 : Below wr.heap.size wr W9 := by rw [← hW9]; exact (Below.refl _ _).alloc (Nat.le_refl _) _
  have hS9 := hkSH.out _ _ hb9 hS
  have hend := fun (c : Nat) (W : World) (hg : W9.grownBy W (some b4)) (hm : TMap KLo (fun b : Bool => Value.bool b) W b4 (fun l => if l ∈ x.lost.l then some true else none) c) => open_end (xb := xb) (w0 := w) (wr := wr) (W := W) (c := c) hJ hxbH.out hnw g3 g4 g6 g8 g10 g12 hW9 hg hm
  have hblk := (blk_new wr (FX.cells (fxOf x t N w.heap.size wr.heap.size b3 b4 b6 b8 b10 b12 0) 0 (.slice none 0 0) (.slice none 0 0)) 61 6 _ rfl).1
  have hm0 := ((hJ.k4 b4 g4).below hb9 (hJ.ge 4 b4 g4).2)
  have hbW9 := hJ.bel.trans (hb9.mono hJ.bel.size)
  have l4 := hJ.ge 4 b4 g4
  have hC9 := (hJ.k3 b3 g3).2
  have hsz9 : wr.heap.size < W9.heap.size := by rw [← hW9]; simp
  rw [hW9] at hblk
  simp only [FX.cells, fxOf, FX.N, hnw] at hW9 hblk
  rw [hW9]
  obtain ⟨f, hf⟩ : ∃ f, wr.heap.size = f := ⟨_, rfl⟩
  rw [hf] at hblk l4 hsz9 ⊢
  have cx2 := hS9.2.2.1
  have hlon : x.lost.n ≤ 200 := by have := hokH.out.lon; have := hx2H.out.1.1; omega
  have hxlt := hJ.xlt
  rw [hf] at hxlt
  have hst : OpRel x.lost.l b4 x.lost.n W9 (.int .i64 0) W9 := ⟨0, 0, Nat.zero_le _, rfl, Nat.le_refl _, by simpa using hm0, World.grownBy.refl _ _⟩
  clear hHeld hS hS9 hkSH hm0 hJ hJH hb9 g3 g4 g6 g8 g10 g12 e3 e4 e6 e8 e10 e12
  obtain ⟨A, hA⟩ : ∃ A, x.lost.A = A := ⟨_, rfl⟩
  obtain ⟨ln, hln⟩ : ∃ n, x.lost.n = n := ⟨_, rfl⟩
  rw [hA, hln] at cx2
  rw [hln] at hst hlon
  have hendH := Lib.hid hend
  clear hend
  have hblkH := Lib.hid hblk
  clear hblk
  have hbW9H := Lib.hid hbW9
  clear hbW9
  have l4H := Lib.hid l4
  clear l4
  have hC9H := Lib.hid hC9
  clear hC9
  have hsz9H := Lib.hid hsz9
  clear hsz9
  have hW9H := Lib.hid hW9
  clear hW9
  have hfH := Lib.hid hf
  clear hf
  have hstH := Lib.hid hst
  clear hst
  have hxltH := Lib.hid hxlt
  clear hxlt
  have hAH := Lib.hid hA
  clear hA
  have hlnH := Lib.hid hln
  clear hln
  have hlonH := Lib.hid hlon
  clear hlon
  have hnwH := Lib.hid hnw
  clear hnw
  go_wp2_with fail
  go_loopw [28] (fun i w5 => OpRel x.lost.l b4 ln W9 i w5) (fun i _ => ln - (intOf i).toNat)
  case atStart => exact hstH.out
  case round =>
   clear hstH
   obtain ⟨k, c, hk, rfl, hc, hm, hg⟩ := hrel
   have hlon := hlonH.out
   have hgs := hg.size
   by_cases hlt : k < ln
   ·have hbel := hbW9H.out.grown hg hbW9H.out.size (fun b hb => by injection hb with hb; have := l4H.out; have := hxbH.out; omega)
    have hsl := hx2H.out.1.below hbel
    rw [hAH.out, hlnH.out] at hsl
    obtain ⟨bl, ol, hA9, _⟩ := hsl.2.1 (by omega)
    subst hA9
    obtain ⟨y, hy⟩ : ∃ y, x.lost.l[k]? = some y := ⟨x.lost.l[k]'(by have := hsl.1; omega), List.getElem?_eq_getElem _⟩
    obtain ⟨d0, d1⟩ := cells_Loss hsl hy
    have hym := List.mem_of_getElem? hy
    have hyl := hokH.out.lo y hym
    have hgood : KLo.good y := ⟨(hsl.2.2 y hym).1, by simp [Lit.wf, IntKind.min, IntKind.max, IntKind.signed, IntKind.bits]; omega⟩
    have f6 := hg.cell hblkH.out (by simp; have := l4H.out; omega)
    obtain ⟨nm, hnm⟩ : ∃ n, y.worker = n := ⟨_, rfl⟩
    obtain ⟨mt, hmt⟩ : ∃ n, y.at_ = n := ⟨_, rfl⟩
    rw [hnm] at d0
    rw [hmt] at d1
    have hye : y = ⟨nm, mt⟩ := by rw [← hnm, ← hmt]
    have hba := (Below.refl wr.heap.size wr).alloc (Nat.le_refl _) (.cells #[.string nm, .int .i64 mt] 71)
    have hma := hm.below hba hm.lt
    have f6a := keepC hba f6
    have hga : W9.grownBy (wr.alloc (.cells #[.string nm, .int .i64 mt] 71)) (some b4) := grown_trans hg ⟨(below_g hba).os, (below_g hba).tape, (below_g hba).output, (below_g hba).size, fun q hq _ => (below_g hba).block q hq (by simp)⟩
    have hmN : ∀ q, TMap KLo (fun b : Bool => Value.bool b) ((wr.alloc (.cells #[.string nm, .int .i64 mt] 71)).drewN q) b4 (fun y => if y ∈ x.lost.l.take k then some true else none) c := fun q => hma.kept (row := none) ⟨rfl, rfl, rfl, Nat.le_refl _, fun _ _ _ => rfl⟩ (by simp)
    have R : ∀ q w6, TMap KLo (fun b : Bool => Value.bool b) w6 b4 (upd (fun y => if y ∈ x.lost.l.take k then some true else none) (⟨nm, mt⟩ : Loss) true) (if ((fun y => if y ∈ x.lost.l.take k then some true else none) (⟨nm, mt⟩ : Loss)).isSome then c else c + 1) → ((wr.alloc (.cells #[.string nm, .int .i64 mt] 71)).drewN q).grownBy w6 (some b4) → OpRel x.lost.l b4 ln W9 (.int .i64 ((k : Int) + 1)) w6 := by
     intro q w6 h1 h2
     refine ⟨k + 1, _, hlt, by go_num, ?_, h1.congr (fun z _ => ?_), grown_trans (grown_drewN hga q) h2⟩
     ·have := ite_le_succ ((((fun y => if y ∈ x.lost.l.take k then some true else none) (⟨nm, mt⟩ : Loss)).isSome) = true) c
      omega
     ·rw [← hye]
      unfold upd
      rw [List.take_add_one, hy, Option.toList_some]
      by_cases hz : z = y
      ·subst hz; simp
      ·simp [hz]
    have hcM : c < maxLen := by unfold maxLen; omega
    rw [hye] at hgood
    have hmlt := hm.lt
    clear hm hg hga hma hba hsl hbel f6
    have hyH := Lib.hid hy
    clear hy
    have RH := Lib.hid R
    clear R
    have hnmH := Lib.hid hnm
    clear hnm
    have hmtH := Lib.hid hmt
    clear hmt
    have hmNH := Lib.hid hmN
    clear hmN
    have hgoodH := Lib.hid hgood
    clear hgood
    have hyeH := Lib.hid hye
    clear hye
    have hymH := Lib.hid hym
    clear hym
    have hylH := Lib.hid hyl
    clear hyl
    go_wp2_with fail
    obtain ⟨Wa, hWa⟩ : ∃ Y, wr.alloc (.cells #[.string nm, .int .i64 mt] 71) = Y := ⟨_, rfl⟩
    have hmD := hmNH.out 1
    have RD := RH.out 1
    have ga := cell_new wr #[.string nm, .int .i64 mt] 71 0
    have gb := cell_new wr #[.string nm, .int .i64 mt] 71 1
    rw [hWa] at ga gb f6a hmD RD ⊢
    change TMap KLo _ Wa.drew _ _ _ at hmD
    change ∀ w6, _ → Wa.drew.grownBy w6 _ → _ at RD
    obtain ⟨w6, hrun, hm6, ht6⟩ := hmD.store (t := 57) (e := 4) Tryz.underlying57 injBool hcM hgoodH.out true
    rw [show KLo.val (⟨nm, mt⟩ : Loss) = .agg #[.string nm, .int .i64 mt] from rfl] at hrun
    have R6 := RD w6 hm6 (World.mapTurned.grown ht6)
    have hq0 : (fun w' : World => w'.cell? ⟨f, 6, none⟩ = some (.map (some b4)) ∧ w'.cell? ⟨wr.heap.size, 0, none⟩ = some (.string nm) ∧ w'.cell? ⟨wr.heap.size, 1, none⟩ = some (.int .i64 mt)) Wa := ⟨f6a, ga, gb⟩
    have hg6 : Wa.drew.grownBy w6 (some b4) := World.mapTurned.grown ht6
    have hq6 : w6.cell? ⟨f, 6, none⟩ = some (.map (some b4)) ∧ w6.cell? ⟨wr.heap.size, 0, none⟩ = some (.string nm) ∧ w6.cell? ⟨wr.heap.size, 1, none⟩ = some (.int .i64 mt) := ⟨hg6.cell f6a (by simp; have := l4H.out; omega), hg6.cell ga (by simp; omega), hg6.cell gb (by simp; omega)⟩
    clear hmD RD hm6 ht6 hg6 ga gb f6a
    have R6H := Lib.hid R6
    clear R6
    refine wp_region_held_drew (S := fun w' : World => w'.cell? ⟨f, 6, none⟩ = some (.map (some b4)) ∧ w'.cell? ⟨wr.heap.size, 0, none⟩ = some (.string nm) ∧ w'.cell? ⟨wr.heap.size, 1, none⟩ = some (.int .i64 mt)) (by kernel_rfl) hq0 (fun hHeld => ?_)
    refine tkH (i := 0) (d := some 32) (v := ?_) (hy := Or.inl ⟨by rfl, ?_⟩) (h := ?_)
    rotate_left
    ·(intro w hSw; (try dsimp only at hSw); go_simp; (try with_reducible rfl))
    (try simp only [Act.put, tkA, tkB, tkC])
    refine tkH (i := 1) (d := some 33) (v := ?_) (hy := Or.inl ⟨by rfl, ?_⟩) (h := ?_)
    rotate_left
    ·(intro w hSw; (try dsimp only at hSw); go_simp; (try with_reducible rfl))
    (try simp only [Act.put, tkA, tkB, tkC])
    refine tkH (i := 2) (d := some 34) (v := ?_) (hy := Or.inl ⟨by rfl, ?_⟩) (h := ?_)
    rotate_left
    ·(intro w hSw; (try dsimp only at hSw); go_simp; (try with_reducible rfl))
    (try simp only [Act.put, tkA, tkB, tkC])
    refine tkH (i := 3) (d := some 35) (v := ?_) (hy := Or.inl ⟨by rfl, ?_⟩) (h := ?_)
    rotate_left
    ·(intro w hSw; (try dsimp only at hSw); go_simp; (try with_reducible rfl))
    (try simp only [Act.put, tkA, tkB, tkC])
    refine tkH (i := 4) (d := some 36) (v := ?_) (hy := Or.inl ⟨by rfl, ?_⟩) (h := ?_)
    rotate_left
    ·(intro w hSw; (try dsimp only at hSw); go_simp; (try with_reducible rfl))
    (try simp only [Act.put, tkA, tkB, tkC])
    refine wpAnyH_ready (rs := [5]) (by kernel_rfl) (by simp) ?_
    refine AllReadyH.cons (i := 5) rfl (fun K hK => ?_) AllReadyH.nil
    go_simp
    (try simp only [hrun])
    refine hK.out _ _ hq6 (fun hHeld => ?_)
    clear hK K
    (try simp only [Act.put, List.setIfInBounds_toArray, List.set_cons_zero, List.set_cons_succ])
    refine wpAnyH_done (by kernel_rfl) ?_ _
    clear hHeld hq0 hq6 hrun
    go_wp2
    refine ⟨?rel, ?measure⟩
    case measure => (simp [intOf]; omega)
    case rel => first | exact R6H.out | exact ⟨rfl, R6H.out⟩ | ((try refine ⟨rfl, ?_⟩); (repeat apply Exists.intro); refine ⟨R6H.out, ?_⟩; ((repeat' apply And.intro) <;> rfl))
   ·obtain rfl : k = ln := by omega
    have hm2 := hm.congr (f' := fun l => if l ∈ x.lost.l then some true else none) (fun z _ => by rw [List.take_of_length_le (by have := hx2H.out.1.1; have := hlnH.out; omega)])
    have R : Z (.returned (.pointer (some ⟨f, 0, none⟩))) wr := by
     rw [← hZH.out]
     refine ⟨_, _, _, ?_, rfl, ?_, ?_, hendH.out c wr hg hm2⟩
     ·simp only [fxOf]; rw [hfH.out]
     ·simp only [fxOf, FX.N, hnwH.out]
     ·simp only [fxOf, FX.N, hnwH.out]; exact hC9H.out
    clear hm hm2 hg
    have RH := Lib.hid R
    clear R
    go_wp2
    exact RH.out
 case h3 =>
  intro o t wr ho hJ hS
  have hl := hx1H.out.1.below hJ.bel
  rw [hNeH.out] at hl
  have hcr := crit_any x.works.A N x.works.cap x.works.l wr hl hokH.out.wo
  refine ⟨_, rfl, fun K hK => ?_⟩
  have hKH := Lib.hid hK
  clear hK hl
  have hJH := Lib.hid hJ
  clear hJ
  have hSH := Lib.hid hS
  clear hS
  have hoH := Lib.hid ho
  clear ho
  have hkSH := Lib.hid hkS
  clear hkS
  simp only [putAll, Act.put, List.setIfInBounds_toArray, List.set_cons_zero, List.set_cons_succ]
  go_simp
  go_at_call 55
  refine hcr.mono ?_
  rintro e w2 ⟨B, Sx, rfl, q1, q2, _, q3, q4, q5⟩
  exact hKH.out.out B Sx w2 (hJH.out.more q5 hoH.out q3 q4 (fun h => absurd rfl h) (fun _ => ⟨q1, q2⟩) (fun e => absurd e (by decide)) (fun e => absurd e (by decide)) (fun e => by rcases e with e | e | e <;> exact absurd e (by decide))) (hkSH.out _ _ q5 hSH.out)
 case h4 =>
  intro o t wr ho hJ hS
  have hm := @run_makeMap Tryz.prog
  have hb7 := (Below.refl wr.heap.size wr).alloc (Nat.le_refl _) (.map #[] 0)
  have hS7 := hkS wr _ hb7 hS
  have hJ7 := hJ.more (t' := t) hb7 (k := 4) (b := wr.heap.size) ho (Nat.le_refl _) (by simp) (fun _ => rfl) (fun e => absurd e (by decide)) (fun _ => TMap.made _ _ _) (fun e => absurd e (by decide)) (fun e => by rcases e with e | e | e <;> exact absurd e (by decide))
  refine ⟨_, rfl, fun K hK => ?_⟩
  have hKH := Lib.hid hK
  clear hK hkS
  have hJH := Lib.hid hJ
  clear hJ
  have hSH := Lib.hid hS
  clear hS
  have hb7H := Lib.hid hb7
  clear hb7
  have hS7H := Lib.hid hS7
  clear hS7
  have hJ7H := Lib.hid hJ7
  clear hJ7
  have hoH := Lib.hid ho
  clear ho
  simp only [putAll, Act.put, List.setIfInBounds_toArray, List.set_cons_zero, List.set_cons_succ]
  go_simp
  exact hKH.out.out _ t _ hJ7H.out hS7H.out
 case h6 =>
  intro o t wr ho hJ hS
  have hm := run_makeB N (by have := hN2H.out; have := hNeH.out; omega)
  have hb7 := (Below.refl wr.heap.size wr).alloc (Nat.le_refl _) (.cells (madeB N) 4)
  have hS7 := hkS wr _ hb7 hS
  have hJ7 := hJ.more (t' := t) hb7 (k := 6) (b := wr.heap.size) ho (Nat.le_refl _) (by simp) (fun _ => rfl) (fun e => absurd e (by decide)) (fun e => absurd e (by decide)) (fun _ => BRow.made _ _) (fun e => by rcases e with e | e | e <;> exact absurd e (by decide))
  refine ⟨_, rfl, fun K hK => ?_⟩
  have hKH := Lib.hid hK
  clear hK hkS
  have hJH := Lib.hid hJ
  clear hJ
  have hSH := Lib.hid hS
  clear hS
  have hb7H := Lib.hid hb7
  clear hb7
  have hS7H := Lib.hid hS7
  clear hS7
  have hJ7H := Lib.hid hJ7
  clear hJ7
  have hoH := Lib.hid ho
  clear ho
  simp only [putAll, Act.put, List.setIfInBounds_toArray, List.set_cons_zero, List.set_cons_succ]
  go_simp
  exact hKH.out.out _ t _ hJ7H.out hS7H.out
 case h8 =>
  intro o t wr ho hJ hS
  have hm := run_makeInts N (by have := hN2H.out; have := hNeH.out; omega)
  have hb7 := (Below.refl wr.heap.size wr).alloc (Nat.le_refl _) (.cells (madeI N) 3)
  have hS7 := hkS wr _ hb7 hS
  have hJ7 := hJ.more (t' := t) hb7 (k := 8) (b := wr.heap.size) ho (Nat.le_refl _) (by simp) (fun _ => rfl) (fun e => absurd e (by decide)) (fun e => absurd e (by decide)) (fun e => absurd e (by decide)) (fun _ => irow_made _ _)
  refine ⟨_, rfl, fun K hK => ?_⟩
  have hKH := Lib.hid hK
  clear hK hkS
  have hJH := Lib.hid hJ
  clear hJ
  have hSH := Lib.hid hS
  clear hS
  have hb7H := Lib.hid hb7
  clear hb7
  have hS7H := Lib.hid hS7
  clear hS7
  have hJ7H := Lib.hid hJ7
  clear hJ7
  have hoH := Lib.hid ho
  clear ho
  simp only [putAll, Act.put, List.setIfInBounds_toArray, List.set_cons_zero, List.set_cons_succ]
  go_simp
  exact hKH.out.out _ t _ hJ7H.out hS7H.out
 case h10 =>
  intro o t wr ho hJ hS
  have hm := run_makeInts N (by have := hN2H.out; have := hNeH.out; omega)
  have hb7 := (Below.refl wr.heap.size wr).alloc (Nat.le_refl _) (.cells (madeI N) 3)
  have hS7 := hkS wr _ hb7 hS
  have hJ7 := hJ.more (t' := t) hb7 (k := 10) (b := wr.heap.size) ho (Nat.le_refl _) (by simp) (fun _ => rfl) (fun e => absurd e (by decide)) (fun e => absurd e (by decide)) (fun e => absurd e (by decide)) (fun _ => irow_made _ _)
  refine ⟨_, rfl, fun K hK => ?_⟩
  have hKH := Lib.hid hK
  clear hK hkS
  have hJH := Lib.hid hJ
  clear hJ
  have hSH := Lib.hid hS
  clear hS
  have hb7H := Lib.hid hb7
  clear hb7
  have hS7H := Lib.hid hS7
  clear hS7
  have hJ7H := Lib.hid hJ7
  clear hJ7
  have hoH := Lib.hid ho
  clear ho
  simp only [putAll, Act.put, List.setIfInBounds_toArray, List.set_cons_zero, List.set_cons_succ]
  go_simp
  exact hKH.out.out _ t _ hJ7H.out hS7H.out
 case h12 =>
  intro o t wr ho hJ hS
  have hm := run_makeInts N (by have := hN2H.out; have := hNeH.out; omega)
  have hb7 := (Below.refl wr.heap.size wr).alloc (Nat.le_refl _) (.cells (madeI N) 3)
  have hS7 := hkS wr _ hb7 hS
  have hJ7 := hJ.more (t' := t) hb7 (k := 12) (b := wr.heap.size) ho (Nat.le_refl _) (by simp) (fun _ => rfl) (fun e => absurd e (by decide)) (fun e => absurd e (by decide)) (fun e => absurd e (by decide)) (fun _ => irow_made _ _)
  refine ⟨_, rfl, fun K hK => ?_⟩
  have hKH := Lib.hid hK
  clear hK hkS
  have hJH := Lib.hid hJ
  clear hJ
  have hSH := Lib.hid hS
  clear hS
  have hb7H := Lib.hid hb7
  clear hb7
  have hS7H := Lib.hid hS7
  clear hS7
  have hJ7H := Lib.hid hJ7
  clear hJ7
  have hoH := Lib.hid ho
  clear ho
  simp only [putAll, Act.put, List.setIfInBounds_toArray, List.set_cons_zero, List.set_cons_succ]
  go_simp
  exact hKH.out.out _ t _ hJ7H.out hS7H.out
end Go.Proofs.YtbnkoefljcekbaaGreatDoor.C9

namespace Go.Proofs.YtbnkoefljcekbaaGreatDoor.C9
open Go.ChangeShapes Go.WideShapes Go.Deep Go.RowKit Go.Maps
set_option linter.unusedVariables false
set_option linter.unusedSimpArgs false

theorem insO_congr {f g : Nat → Int} {x : Nat} (hx : f x = g x) : ∀ {L : List Nat}, (∀ a ∈ L, f a = g a) → insO f x L = insO g x L ∧ ∀ a ∈ insO g x L, a = x ∨ a ∈ L
 | [], _ => ⟨rfl, fun a ha => by rw [insO, List.mem_singleton] at ha; exact .inl ha⟩
 | y :: L, h => by
  obtain ⟨e, m⟩ := insO_congr hx (L := L) (fun a ha => h a (List.mem_cons_of_mem _ ha))
  have hy := h y List.mem_cons_self
  unfold insO
  rw [hx, hy, e]
  refine ⟨rfl, fun a ha => ?_⟩
  split at ha
  ·rcases List.mem_cons.1 ha with ha | ha
   ·exact .inl ha
   ·exact .inr ha
  ·rcases List.mem_cons.1 ha with ha | ha
   ·exact .inr (by rw [ha]; exact List.mem_cons_self)
   ·rcases m a ha with ha | ha
    ·exact .inl ha
    ·exact .inr (List.mem_cons_of_mem _ ha)
theorem ordF_go {f g : Nat → Int} : ∀ (l A : List Nat), (∀ a ∈ l, f a = g a) → (∀ a ∈ A, f a = g a) → l.foldl (fun a x => insO f x a) A = l.foldl (fun a x => insO g x a) A
 | [], A, _, _ => rfl
 | x :: l, A, h1, h2 => by
  obtain ⟨e, m⟩ := insO_congr (h1 x List.mem_cons_self) h2
  rw [List.foldl_cons, List.foldl_cons, e]
  refine ordF_go l _ (fun a ha => h1 a (List.mem_cons_of_mem _ ha)) fun a ha => ?_
  rcases m a ha with rfl | ha
  ·exact h1 _ List.mem_cons_self
  ·exact h2 a ha
theorem ordOf_congr {S S' : List Int} {N : Nat} (h : ∀ j, j < N → gt S j = gt S' j) : ordOf S N = ordOf S' N := by
 unfold ordOf ordF
 refine ordF_go _ _ (fun a ha => ?_) (fun a ha => by cases ha)
 unfold fR
 rw [Int.toNat_natCast, h a (List.mem_range.1 ha)]
open Classical in
/-- the order of a farm's works: the longest ways first -/
noncomputable def orx (x : Farm) : List Nat := if h : ∃ S : List Int, Crit (gOf x.works.l) (szOf x.works.l) x.works.l.length (gt S) then ordOf h.choose x.works.l.length else []
theorem orx_eq {x : Farm} (h : WOk x.works.l) {S : List Int} (hC : Crit (gOf x.works.l) (szOf x.works.l) x.works.l.length (gt S)) : ordOf S x.works.l.length = orx x := by
 have hex : ∃ S : List Int, Crit (gOf x.works.l) (szOf x.works.l) x.works.l.length (gt S) := ⟨S, hC⟩
 unfold orx
 rw [dif_pos hex]
 exact ordOf_congr (h.uniq hC hex.choose_spec)
/-- what a farm asks -/
noncomputable def fpx (x : Farm) : FP := fpOf x (orx x)
theorem fpx_of {x : Farm} (h : FarmOk x) {S : List Int} (hC : Crit (gOf x.works.l) (szOf x.works.l) x.works.l.length (gt S)) : fpOf x (ordOf S x.works.l.length) = fpx x := by
 unfold fpx
 rw [orx_eq h.wo hC]
theorem fpx_fine {x : Farm} (h : FarmOk x) {S : List Int} (hC : Crit (gOf x.works.l) (szOf x.works.l) x.works.l.length (gt S)) : FFine (fpx x) ∧ ∀ i, i < (fpx x).nX → i ∈ (fpx x).order := by
 rw [← fpx_of h hC]
 exact fine_of h rfl
theorem endsF_le {y : Worker} {size t : Int} (h : (endsF y size t).2 = true) : (endsF y size t).1 ≤ y.to_ := by
 unfold endsF at *
 by_cases h1 : t < y.from_
 ·rw [if_pos h1] at h; cases h
 ·rw [if_neg h1] at h ⊢
  by_cases h2 : y.to_ < endsGo (secsF y size) t y.stands.l
  ·rw [if_pos h2] at h; cases h
  ·rw [if_neg h2]
   show endsGo (secsF y size) t y.stands.l ≤ y.to_
   omega
theorem secsF_le {y : Worker} {sz : Int} (h1 : 1 ≤ sz) (h2 : 1 ≤ y.speed) : secsF y sz ≤ sz := by
 unfold secsF
 refine Int.ediv_le_of_le_mul (by omega) ?_
 have := Int.mul_nonneg (a := sz - 1) (b := y.speed - 1) (by omega) (by omega)
 rw [Int.sub_mul, Int.mul_sub] at this
 omega
theorem bnd_of {x : Farm} (h : FarmOk x) (o : List Nat) : Bnd (fpOf x o) 1000000000 1000000 := by
 refine ⟨fun k hk => ?_, fun t ht => ?_, fun k i hk hi => ?_, fun k i t u hk hi e => ?_, by decide⟩
 ·have hk' : k < x.workers.l.length := hk
  show (wkOf x k).from_ ≤ _ ∧ (wkOf x k).to_ ≤ _
  rw [wkOf_get (List.getElem?_eq_getElem hk')]
  have := worker_times (h.wk _ (List.getElem_mem hk'))
  exact ⟨this.2.1, this.2.2.2⟩
 ·obtain ⟨l, hl, rfl⟩ := List.mem_map.1 ht
  exact (h.lo l hl).2.2
 ·have hk' : k < x.workers.l.length := hk
  have hi' : i < x.works.l.length := hi
  show secsF (wkOf x k) (woOf x i).size ≤ _
  rw [wkOf_get (List.getElem?_eq_getElem hk'), woOf_get (List.getElem?_eq_getElem hi')]
  have a := (worker_nums (h.wk _ (List.getElem_mem hk'))).2
  have b := h.wo.size _ (List.getElem_mem hi')
  have := secsF_le b.1 a
  omega
 ·have hk' : k < x.workers.l.length := hk
  simp only [fpOf] at e
  by_cases h2 : (endsF (wkOf x k) (woOf x i).size t).2 = true
  ·rw [if_pos h2] at e
   injection e with e
   have h3 := endsF_le h2
   rw [e, wkOf_get (List.getElem?_eq_getElem hk')] at h3
   have := worker_times (h.wk _ (List.getElem_mem hk'))
   omega
  ·rw [if_neg h2] at e; cases e
theorem farm_ends {x : Farm} (h : FarmOk x) {S : List Int} (hC : Crit (gOf x.works.l) (szOf x.works.l) x.works.l.length (gt S)) : ∃ q, QTrace (fpx x) q0 q :=
 q_ends (fpx_fine h hC).1 (bnd_of h _)
end Go.Proofs.YtbnkoefljcekbaaGreatDoor.C9

namespace Go.Proofs.YtbnkoefljcekbaaGreatDoor.C9
open Go.RowKit
set_option linter.unusedVariables false

def runsErr : Option Run → List Run → Int
 | _, [] => 0
 | p, r :: s => if wordB r.id_ = true ∧ wordB r.worker = true then (if inR 0 1000000000 r.from_ = true ∧ inR 0 1000000000 r.to_ = true then (if r.to_ < r.from_ then 8 else if inR 1 3 r.end_ = true then (if p.map (fun q => runLt q r) = some false then 8 else runsErr (some r) s) else 4) else 1) else 5
def prevRun (l : List Run) (k : Nat) : Option Run := if k = 0 then none else l[k - 1]?
def runsF (l : List Run) : Int := if l.length ≤ 4000 then runsErr none l else 2
def RunsRel (l : List Run) (c : Int) (w0 : World) (i : Value) (wr : World) : Prop :=
 ∃ k : Nat, k ≤ l.length ∧ i = .int .i64 k ∧ runsErr (prevRun l k) (l.drop k) = c ∧ Below w0.heap.size w0 wr

theorem five_below {w w' : World} {a0 a1 a2 a3 a4 : Addr} {v0 v1 v2 v3 v4 : Value} (hb : Below w.heap.size w w') (h : w.cell? a0 = some v0 ∧ w.cell? a1 = some v1 ∧ w.cell? a2 = some v2 ∧ w.cell? a3 = some v3 ∧ w.cell? a4 = some v4) :
  w'.cell? a0 = some v0 ∧ w'.cell? a1 = some v1 ∧ w'.cell? a2 = some v2 ∧ w'.cell? a3 = some v3 ∧ w'.cell? a4 = some v4 :=
 ⟨(hb.cell (cell?_lt h.1)).trans h.1, (hb.cell (cell?_lt h.2.1)).trans h.2.1, (hb.cell (cell?_lt h.2.2.1)).trans h.2.2.1, (hb.cell (cell?_lt h.2.2.2.1)).trans h.2.2.2.1, (hb.cell (cell?_lt h.2.2.2.2)).trans h.2.2.2.2⟩
theorem ten_below {w w' : World} {a0 a1 a2 a3 a4 a5 a6 a7 a8 a9 : Addr} {v0 v1 v2 v3 v4 v5 v6 v7 v8 v9 : Value} (hb : Below w.heap.size w w') (h : w.cell? a0 = some v0 ∧ w.cell? a1 = some v1 ∧ w.cell? a2 = some v2 ∧ w.cell? a3 = some v3 ∧ w.cell? a4 = some v4 ∧ w.cell? a5 = some v5 ∧ w.cell? a6 = some v6 ∧ w.cell? a7 = some v7 ∧ w.cell? a8 = some v8 ∧ w.cell? a9 = some v9) :
  w'.cell? a0 = some v0 ∧ w'.cell? a1 = some v1 ∧ w'.cell? a2 = some v2 ∧ w'.cell? a3 = some v3 ∧ w'.cell? a4 = some v4 ∧ w'.cell? a5 = some v5 ∧ w'.cell? a6 = some v6 ∧ w'.cell? a7 = some v7 ∧ w'.cell? a8 = some v8 ∧ w'.cell? a9 = some v9 := by
 obtain ⟨h0, h1, h2, h3, h4, h5⟩ := h
 obtain ⟨g0, g1, g2, g3, g4⟩ := five_below hb h5
 exact ⟨(hb.cell (cell?_lt h0)).trans h0, (hb.cell (cell?_lt h1)).trans h1, (hb.cell (cell?_lt h2)).trans h2, (hb.cell (cell?_lt h3)).trans h3, (hb.cell (cell?_lt h4)).trans h4, g0, g1, g2, g3, g4⟩

set_option maxRecDepth 100000 in
set_option maxHeartbeats 2000000 in
theorem runs_ok (A : Option Addr) (len cap : Nat) (l : List Run) (w : World) (hlen : len ≤ 4000) (hl : SlAt RRun w A len l) (c : Int) (hF : runsErr none l = c) :
  Calls Tryz.prog 26 #[.slice A len cap] w fun e w' => e = .returned (.int .i64 c) ∧ Below w.heap.size w w' := by
 have hll := hl.1
 have hllH := Lib.hid hll
 clear hll
 have hFH := Lib.hid hF
 clear hF
 have hlH := Lib.hid hl
 clear hl
 go_enter Tryz.func26, Tryz.ntmps26
 go_wp2
 go_loopw [10] (fun i wr => RunsRel l c w i wr) (fun i _ => len - (intOf i).toNat)
 case atStart => exact ⟨0, Nat.zero_le _, rfl, hFH.out, Below.refl _ _⟩
 case round =>
  obtain ⟨k, hk, rfl, hck, hb⟩ := hrel
  have hkl : k ≤ len := by have := hllH.out; omega
  have hbs := hb.size
  by_cases hlt : k < len
  ·obtain ⟨b, off, hA, _⟩ := hlH.out.2.1 (by omega)
   subst hA
   obtain ⟨x, hx⟩ : ∃ x, l[k]? = some x := ⟨l[k]'(by have := hllH.out; omega), List.getElem?_eq_getElem _⟩
   obtain ⟨c0, c1, c2, c3, c4⟩ := cells_Run (hlH.out.below hb) hx
   obtain ⟨o0, o1, _⟩ := hlH.out.2.2 x (List.mem_of_getElem? hx)
   have hkl2 : k + 1 ≤ l.length := by have := hllH.out; omega
   have hpn : prevRun l (k + 1) = some x := by rw [prevRun, if_neg (by omega), show k + 1 - 1 = k from rfl, hx]
   rw [drop_cons hx, runsErr] at hck
   obtain ⟨id, wk, fr, tz, en⟩ := x
   simp only at c0 c1 c2 c3 c4 hck o0 o1
   obtain ⟨b1, hb1⟩ : ∃ b, wordB id = b := ⟨_, rfl⟩
   obtain ⟨b2, hb2⟩ : ∃ b, wordB wk = b := ⟨_, rfl⟩
   have hba := hb.alloc hbs (.cells #[.string id, .string wk, .int .i64 fr, .int .i64 tz, .int .i64 en] 34)
   have hbas := hba.size
   have hxH := Lib.hid hx
   clear hx
   have hbH := Lib.hid hb
   clear hb
   have hbaH := Lib.hid hba
   clear hba
   have hbasH := Lib.hid hbas
   clear hbas
   have o0H := Lib.hid o0
   clear o0
   have o1H := Lib.hid o1
   clear o1
   have hb1H := Lib.hid hb1
   clear hb1
   have hb2H := Lib.hid hb2
   clear hb2
   have hpnH := Lib.hid hpn
   clear hpn
   have hckH := Lib.hid hck
   clear hck
   have hkl2H := Lib.hid hkl2
   clear hkl2
   go_wp2_with fail
   refine (word_any id b1 _ o0H.out hb1H.out).mono ?_
   rintro e w1 ⟨rfl, hw1⟩
   obtain ⟨q0, q1, q2, q3, q4⟩ := five_below hw1 ⟨cell_new _ _ _ 0, cell_new _ _ _ 1, cell_new _ _ _ 2, cell_new _ _ _ 3, cell_new _ _ _ 4⟩
   have hbw1 := hbaH.out.trans (hw1.mono hbasH.out)
   clear c0 c1 c2 c3 c4
   have hw1H := Lib.hid hw1
   clear hw1
   have hbw1H := Lib.hid hbw1
   clear hbw1
   cases b1
   ·have hck := hckH.out
    clear hckH
    rw [if_neg (by rw [hb1H.out]; simp)] at hck
    clear q0 q1 q2 q3 q4
    have hckH := Lib.hid hck
    clear hck
    go_wp2
    go_ret
    exact ⟨ret1_int hckH.out, hbw1H.out⟩
   ·go_wp2_with fail
    refine (word_any wk b2 _ o1H.out hb2H.out).mono ?_
    rintro e w2 ⟨rfl, hw2⟩
    obtain ⟨q0, q1, q2, q3, q4⟩ := five_below hw2 ⟨q0, q1, q2, q3, q4⟩
    have hbw2 := hbw1H.out.trans (hw2.mono hbw1H.out.size)
    have hw2H := Lib.hid hw2
    clear hw2
    have hbw2H := Lib.hid hbw2
    clear hbw2
    cases b2
    ·have hck := hckH.out
     clear hckH
     rw [if_neg (by rw [hb2H.out]; simp)] at hck
     clear q0 q1 q2 q3 q4
     have hckH := Lib.hid hck
     clear hck
     go_wp2
     go_ret
     exact ⟨ret1_int hckH.out, hbw2H.out⟩
    ·have hck := hckH.out
     clear hckH
     rw [if_pos ⟨hb1H.out, hb2H.out⟩] at hck
     by_cases i2 : inR 0 1000000000 fr = true
     ·by_cases i3 : inR 0 1000000000 tz = true
      ·rw [if_pos ⟨i2, i3⟩] at hck
       by_cases hle : tz < fr
       ·rw [if_pos hle] at hck
        have hckH := Lib.hid hck
        clear hck
        go_wp2_with (first | (go_at_call 43; refine (within_p _ _ _ _).mono ?_; rintro e wz ⟨rfl, rfl⟩) | (go_at_call 39; refine (moment_p _ _).mono ?_; rintro e wz ⟨rfl, rfl⟩))
        go_ret
        exact ⟨ret1_int hckH.out, hbw2H.out⟩
       ·rw [if_neg hle] at hck
        have hle2 : decide (tz < fr) = false := decide_eq_false hle
        by_cases i4 : inR 1 3 en = true
        ·rw [if_pos i4] at hck
         by_cases hk0 : k = 0
         ·subst hk0
          have R : ∀ nq, RunsRel l c w (.int .i64 1) (w2.drewN nq) := by
           refine fun nq => ⟨1, hkl2H.out, by go_num, ?_, bel_drewN hbw2H.out nq⟩
           rw [prevRun, if_pos rfl, Option.map_none, if_neg (by decide)] at hck
           rw [show prevRun l 1 = _ from hpnH.out]
           exact hck
          have RH := Lib.hid R
          clear R
          have hckH := Lib.hid hck
          clear hck
          go_wp2_with (first | (go_at_call 43; refine (within_p _ _ _ _).mono ?_; rintro e wz ⟨rfl, rfl⟩) | (go_at_call 39; refine (moment_p _ _).mono ?_; rintro e wz ⟨rfl, rfl⟩))
          go_quiet (fail)
          go_wp2
          refine ⟨?rel, ?measure⟩
          case measure => (simp [intOf]; omega)
          case rel => first | exact (RH.out _) | exact ⟨rfl, (RH.out _)⟩ | ((try refine ⟨rfl, ?_⟩); (repeat apply Exists.intro); refine ⟨(RH.out _), ?_⟩; ((repeat' apply And.intro) <;> rfl))
         ·obtain ⟨j, rfl⟩ : ∃ j, k = j + 1 := ⟨k - 1, by omega⟩
          obtain ⟨y, hy⟩ : ∃ y, l[j]? = some y := ⟨l[j]'(by have := hllH.out; omega), List.getElem?_eq_getElem _⟩
          obtain ⟨d0, d1, d2, d3, d4⟩ := cells_Run (hlH.out.below hbw2H.out) hy
          have hpr : prevRun l (j + 1) = some y := by rw [prevRun, if_neg (by omega), show j + 1 - 1 = j from rfl, hy]
          rw [hpr, Option.map_some] at hck
          clear hpr
          have hyH := Lib.hid hy
          clear hy
          have f0 : (0 : Int) ≤ (j : Int) := by omega
          have f1 : (j : Int) < (len : Int) := by omega
          have f2 : IntKind.i64.wrap ((j : Int) + 1 - 1) = (j : Int) := by rw [show (j : Int) + 1 - 1 = (j : Int) by omega]; exact IntWalk.i64_in _ (by omega)
          have f3 : (j : Int).toNat = j := by omega
          have f4 : IntKind.i64.wrap (j : Int) = (j : Int) := IntWalk.i64_in _ (by omega)
          have f5 : IntKind.i64.wrap (((j + 1 : Nat) : Int) - 1) = (j : Int) := by rw [show ((j + 1 : Nat) : Int) - 1 = (j : Int) by omega]; exact f4
          have R0 : runsErr (some ⟨id, wk, fr, tz, en⟩) (l.drop (j + 1 + 1)) = c → ∀ wx, Below w.heap.size w wx → RunsRel l c w (.int .i64 (j + 1 + 1)) wx := by
           refine fun hc wx hbx => ⟨j + 1 + 1, hkl2H.out, by go_num, ?_, hbx⟩
           rw [hpnH.out]
           exact hc
          cases hlt3 : runLt y ⟨id, wk, fr, tz, en⟩
          ·obtain ⟨cc, hcc⟩ : ∃ cc, runCmp ⟨id, wk, fr, tz, en⟩ y = cc := ⟨_, rfl⟩
           have hcc0 : cc ≤ 0 := by rw [← hcc]; exact runCmp_le hlt3
           rw [hlt3, if_pos rfl] at hck
           clear R0
           have hckH := Lib.hid hck
           clear hck
           have hccH := Lib.hid hcc
           clear hcc
           have hlt3H := Lib.hid hlt3
           clear hlt3
           go_wp2_with (first | (go_at_call 43; refine (within_p _ _ _ _).mono ?_; rintro e wz ⟨rfl, rfl⟩) | (go_at_call 39; refine (moment_p _ _).mono ?_; rintro e wz ⟨rfl, rfl⟩))
           go_region_held3 (fun w' => w'.cell? ⟨wr.heap.size, 0, none⟩ = some (.string id) ∧ w'.cell? ⟨wr.heap.size, 1, none⟩ = some (.string wk) ∧ w'.cell? ⟨wr.heap.size, 2, none⟩ = some (.int .i64 fr) ∧ w'.cell? ⟨wr.heap.size, 3, none⟩ = some (.int .i64 tz) ∧ w'.cell? ⟨wr.heap.size, 4, none⟩ = some (.int .i64 en) ∧ w'.cell? ⟨b, off + j * 5, none⟩ = some (.string y.id_) ∧ w'.cell? ⟨b, off + j * 5 + 1, none⟩ = some (.string y.worker) ∧ w'.cell? ⟨b, off + j * 5 + 2, none⟩ = some (.int .i64 y.from_) ∧ w'.cell? ⟨b, off + j * 5 + 3, none⟩ = some (.int .i64 y.to_) ∧ w'.cell? ⟨b, off + j * 5 + 4, none⟩ = some (.int .i64 y.end_)) (first | go_keep | exact ten_below (by assumption) (by assumption))
            (first | (go_at_call 59; refine (compareRuns_any ⟨id, wk, fr, tz, en⟩ y _ cc (by exact hccH.out)).mono ?_; rintro e w3 ⟨rfl, hw3⟩))
           go_wp2
           go_ret
           exact ⟨ret1_int hckH.out, hbw2H.out.drew.trans (Below.mono hw3 hbw2H.out.drew.size)⟩
          ·obtain ⟨cc, hcc⟩ : ∃ cc, runCmp ⟨id, wk, fr, tz, en⟩ y = cc := ⟨_, rfl⟩
           have hcc0 : 0 < cc := by rw [← hcc]; exact runCmp_gt hlt3
           have hcc1 : decide (cc ≤ 0) = false := decide_eq_false (by omega)
           rw [hlt3, if_neg (by decide)] at hck
           have R := R0 hck
           clear R0
           have hckH := Lib.hid hck
           clear hck
           have hccH := Lib.hid hcc
           clear hcc
           have hlt3H := Lib.hid hlt3
           clear hlt3
           have RH := Lib.hid R
           clear R
           go_wp2_with (first | (go_at_call 43; refine (within_p _ _ _ _).mono ?_; rintro e wz ⟨rfl, rfl⟩) | (go_at_call 39; refine (moment_p _ _).mono ?_; rintro e wz ⟨rfl, rfl⟩))
           go_region_held3 (fun w' => w'.cell? ⟨wr.heap.size, 0, none⟩ = some (.string id) ∧ w'.cell? ⟨wr.heap.size, 1, none⟩ = some (.string wk) ∧ w'.cell? ⟨wr.heap.size, 2, none⟩ = some (.int .i64 fr) ∧ w'.cell? ⟨wr.heap.size, 3, none⟩ = some (.int .i64 tz) ∧ w'.cell? ⟨wr.heap.size, 4, none⟩ = some (.int .i64 en) ∧ w'.cell? ⟨b, off + j * 5, none⟩ = some (.string y.id_) ∧ w'.cell? ⟨b, off + j * 5 + 1, none⟩ = some (.string y.worker) ∧ w'.cell? ⟨b, off + j * 5 + 2, none⟩ = some (.int .i64 y.from_) ∧ w'.cell? ⟨b, off + j * 5 + 3, none⟩ = some (.int .i64 y.to_) ∧ w'.cell? ⟨b, off + j * 5 + 4, none⟩ = some (.int .i64 y.end_)) (first | go_keep | exact ten_below (by assumption) (by assumption))
            (first | (go_at_call 59; refine (compareRuns_any ⟨id, wk, fr, tz, en⟩ y _ cc (by exact hccH.out)).mono ?_; rintro e w3 ⟨rfl, hw3⟩))
           go_wp2
           have R3 := RH.out w3 (hbw2H.out.drew.trans (Below.mono hw3 hbw2H.out.drew.size))
           refine ⟨?rel, ?measure⟩
           case measure => (simp [intOf]; omega)
           case rel => first | exact R3 | exact ⟨rfl, R3⟩ | ((try refine ⟨rfl, ?_⟩); (repeat apply Exists.intro); refine ⟨R3, ?_⟩; ((repeat' apply And.intro) <;> rfl))
        ·rw [if_neg i4] at hck
         have i4 : inR 1 3 en = false := by simpa using i4
         have hckH := Lib.hid hck
         clear hck
         go_wp2_with (first | (go_at_call 43; refine (within_p _ _ _ _).mono ?_; rintro e wz ⟨rfl, rfl⟩) | (go_at_call 39; refine (moment_p _ _).mono ?_; rintro e wz ⟨rfl, rfl⟩))
         go_ret
         exact ⟨ret1_int hckH.out, hbw2H.out⟩
      ·rw [if_neg (fun h => i3 h.2)] at hck
       have i3 : inR 0 1000000000 tz = false := by simpa using i3
       have hckH := Lib.hid hck
       clear hck
       go_wp2_with (first | (go_at_call 43; refine (within_p _ _ _ _).mono ?_; rintro e wz ⟨rfl, rfl⟩) | (go_at_call 39; refine (moment_p _ _).mono ?_; rintro e wz ⟨rfl, rfl⟩))
       go_ret
       exact ⟨ret1_int hckH.out, hbw2H.out⟩
     ·rw [if_neg (fun h => i2 h.1)] at hck
      have i2 : inR 0 1000000000 fr = false := by simpa using i2
      have hckH := Lib.hid hck
      clear hck
      go_wp2_with (first | (go_at_call 43; refine (within_p _ _ _ _).mono ?_; rintro e wz ⟨rfl, rfl⟩) | (go_at_call 39; refine (moment_p _ _).mono ?_; rintro e wz ⟨rfl, rfl⟩))
      go_ret
      exact ⟨ret1_int hckH.out, hbw2H.out⟩
  ·have e : l.drop k = [] := List.drop_eq_nil_of_le (by have := hllH.out; omega)
   rw [e] at hck
   have hc0 : 0 = c := by rw [← hck]; unfold runsErr; rfl
   have hckH := Lib.hid hck
   clear hck
   have hbH := Lib.hid hb
   clear hb
   have eH := Lib.hid e
   clear e
   have hc0H := Lib.hid hc0
   clear hc0
   go_wp2
   go_ret
   exact ⟨ret1_int hc0H.out, hbH.out⟩

theorem runs_any (A : Option Addr) (len cap : Nat) (l : List Run) (w : World) (hl : SlAt RRun w A len l) (c : Int) (hF : runsF l = c) :
  Calls Tryz.prog 26 #[.slice A len cap] w fun e w' => e = .returned (.int .i64 c) ∧ Below w.heap.size w w' := by
 unfold runsF at hF
 rw [hl.1] at hF
 by_cases h : len ≤ 4000
 ·rw [if_pos h] at hF
  exact runs_ok A len cap l w h hl c hF
 ·rw [if_neg h] at hF
  subst hF
  clear hl
  go_enter Tryz.func26, Tryz.ntmps26
  go_wp2
  go_ret
  exact ⟨rfl, Below.refl _ _⟩
end Go.Proofs.YtbnkoefljcekbaaGreatDoor.C9
