/-
  Several texts of mine as one: XFacts, XFactsP, XTaintP, XCWriter, XCWriters, XFindW, XFunc11, XTaint, XRightP, XTainted, XAt7, XDue, XMayP, XMayR, XMay, XAwake11, XLawEach, XEachRow.
-/
import Derived.Test.YtgegdfmdcmgliaaGreatDoorFactsDC11
import Derived.Test.YtgegdfmdcmgliaaGreatDoorCAuditsC11
import Derived.Test.YtgegdfmdcmgliaaGreatDoorWritDC11
import Derived.Test.YtgegdfmdcmgliaaGreatDoorPathC11
import Derived.Test.YtgegdfmdcmgliaaGreatDoorShelf
import Derived.Test.YtgegdfmdcmgliaaGreatDoorRead
import Derived.Test.YtgegdfmdcmgliaaGreatDoorLotWC11
import Derived.Deep.RegionHeld3
import Derived.Test.YtgegdfmdcmgliaaGreatDoorPowRowC11
import Derived.Test.YtgegdfmdcmgliaaGreatDoorCards
import Derived.Test.YtgegdfmdcmgliaaGreatDoorTie
import Derived.OpenShut
import Derived.ShutString
import Derived.ChangeOld
import Derived.Deep.DeepHandedRow
import Derived.Lib.LaidTab
import Derived.Lib.LaidU8
import Derived.JoinedCond
import Derived.Deep.CondSized
namespace Go.Proofs.YtgegdfmdcmgliaaGreatDoor.C11
open Go.RowKit
set_option linter.unusedVariables false

structure FactsOk (l : List Claimed) (m : List Audit) (n b1 b2 b3 c3 : Nat) (W : World) : Prop where
  ra : BRow W b1 n (audB m)
  rw_ : BRow W b2 n (wrB l m)
  mp : TMap KS valS W b3 (setF (suB l m)) c3
  l1 : b1 < W.heap.size
  l2 : b2 < W.heap.size
  c3le : c3 ≤ 1000


theorem FactsOk.below {l : List Claimed} {m : List Audit} {n b1 b2 b3 c3 : Nat} {W W' : World} (h : FactsOk l m n b1 b2 b3 c3 W) {K : Nat} (hb : Below K W W') (hK : W.heap.size ≤ K) : FactsOk l m n b1 b2 b3 c3 W' := by
  have h3 := h.mp.lt
  have h1 := h.l1
  have h2 := h.l2
  have hs := hb.size
  exact ⟨h.ra.below hb (by omega), h.rw_.below hb (by omega), h.mp.below hb (by omega), by omega, by omega, h.c3le⟩
theorem cell_of_heap {W : World} {b j : Nat} {cs : Array Value} {T : TypeId} (h : W.heap[b]? = some (.cells cs T)) : W.cell? ⟨b, j, none⟩ = cs[j]? := by simp [World.cell?, h]
theorem frozen_of_heap {W : World} {b j : Nat} {cs : Array Value} {T : TypeId} (h : W.heap[b]? = some (.cells cs T)) : W.frozen? ⟨b, j, none⟩ = false := by simp [World.frozen?, h]
theorem brow_of_heap {W : World} {b n : Nat} (h : W.heap[b]? = some (.cells (madeB n) 4)) : BRow W b n (fun _ => false) := fun j hj => ⟨(cell_of_heap h).trans (madeB_get n j hj), frozen_of_heap h⟩
theorem tmap_of_heap {k : TypeId} {κ α : Type} (K : KD Tryz.prog k κ) (val : α → Value) {W : World} {b : Nat} (h : W.heap[b]? = some (.map #[] 0)) : TMap K val W b (fun _ => none) 0 := by
  obtain ⟨D, ⟨es, clock, he, r⟩, r2⟩ := TMap.made W K val
  have e : (W.alloc (.map #[] 0)).heap[W.heap.size]? = some (.map #[] 0) := (MapKept.heap_alloc W _).1
  rw [e] at he
  injection he with he
  injection he with h1 h2
  subst h1 h2
  exact ⟨D, ⟨_, _, h, r⟩, r2⟩
theorem chain4 (w1 : World) (o1 o2 o3 o4 : Obj) (K : Nat) (hK : w1.heap.size = K) :
    ((((w1.alloc o1).alloc o2).alloc o3).alloc o4).drew.heap[K]? = some o1 ∧ ((((w1.alloc o1).alloc o2).alloc o3).alloc o4).drew.heap[K + 1]? = some o2 ∧
    ((((w1.alloc o1).alloc o2).alloc o3).alloc o4).drew.heap[K + 1 + 1]? = some o3 ∧ ((((w1.alloc o1).alloc o2).alloc o3).alloc o4).drew.heap[K + 1 + 1 + 1]? = some o4 ∧
    ((((w1.alloc o1).alloc o2).alloc o3).alloc o4).drew.heap.size = K + 4 ∧ Below K w1 ((((w1.alloc o1).alloc o2).alloc o3).alloc o4).drew := by
  subst hK
  have hb : Below w1.heap.size w1 ((((w1.alloc o1).alloc o2).alloc o3).alloc o4) := by
    refine ((((Below.refl _ _).alloc ?_ _).alloc ?_ _).alloc ?_ _).alloc ?_ _ <;> simp <;> omega
  obtain ⟨a1, p1⟩ := MapKept.heap_alloc w1 o1
  obtain ⟨a2, p2⟩ := MapKept.heap_alloc (w1.alloc o1) o2
  obtain ⟨a3, p3⟩ := MapKept.heap_alloc ((w1.alloc o1).alloc o2) o3
  obtain ⟨a4, p4⟩ := MapKept.heap_alloc (((w1.alloc o1).alloc o2).alloc o3) o4
  simp only [World.size_alloc] at a2 p2 a3 p3 a4 p4
  refine ⟨?_, ?_, ?_, a4, ?_, hb.drew⟩
  · exact (p4 _ (by omega)).trans ((p3 _ (by omega)).trans ((p2 _ (by omega)).trans a1))
  · exact (p4 _ (by omega)).trans ((p3 _ (by omega)).trans a2)
  · exact (p4 _ (by omega)).trans a3
  · show ((((w1.alloc o1).alloc o2).alloc o3).alloc o4).heap.size = _
    simp only [World.size_alloc]

structure FSt (w0 : World) (n b1 b2 b3 b5 : Nat) (fa fw : Nat → Bool) (fs : ByteArray → Option Bool) (cnt : Nat) (wr : World) : Prop where
  ra : BRow wr b1 n fa
  rw_ : BRow wr b2 n fw
  mp : TMap KS valS wr b3 fs cnt
  d0 : wr.cell? ⟨b5, 0, none⟩ = some (.slice (some ⟨b1, 0, none⟩) n n)
  d1 : wr.cell? ⟨b5, 1, none⟩ = some (.slice (some ⟨b2, 0, none⟩) n n)
  d2 : wr.cell? ⟨b5, 2, none⟩ = some (.map (some b3))
  bel : Below (w0.heap.size + 1) (w0.alloc (.cells #[.slice none 0 0, .slice none 0 0, .map none] 47)) wr
  l1 : b1 < wr.heap.size
  l2 : b2 < wr.heap.size
  l5 : b5 < wr.heap.size
  sz : w0.heap.size + 1 ≤ wr.heap.size
structure FNe (k0 b1 b2 b3 b5 : Nat) : Prop where
  n12 : b1 ≠ b2
  n13 : b1 ≠ b3
  n15 : b1 ≠ b5
  n23 : b2 ≠ b3
  n25 : b2 ≠ b5
  n35 : b3 ≠ b5
  g1 : k0 < b1
  g2 : k0 < b2
  g3 : k0 < b3
  g5 : k0 < b5
theorem FSt.below {w0 : World} {n b1 b2 b3 b5 : Nat} {fa fw : Nat → Bool} {fs : ByteArray → Option Bool} {cnt : Nat} {wr w' : World} (h : FSt w0 n b1 b2 b3 b5 fa fw fs cnt wr) (hb : Below wr.heap.size wr w') : FSt w0 n b1 b2 b3 b5 fa fw fs cnt w' := by
  have h1 := h.l1
  have h2 := h.l2
  have h5 := h.l5
  have hs := hb.size
  have hz := h.sz
  exact ⟨h.ra.below hb h1, h.rw_.below hb h2, h.mp.below hb h.mp.lt, (hb.cell (p := ⟨b5, 0, none⟩) h5).trans h.d0, (hb.cell (p := ⟨b5, 1, none⟩) h5).trans h.d1, (hb.cell (p := ⟨b5, 2, none⟩) h5).trans h.d2, h.bel.trans (hb.mono (by omega)), by omega, by omega, by omega, by omega⟩
theorem FSt.putA {w0 : World} {n b1 b2 b3 b5 : Nat} {fa fw fa' : Nat → Bool} {fs : ByteArray → Option Bool} {cnt : Nat} {wr w' : World} (h : FSt w0 n b1 b2 b3 b5 fa fw fs cnt wr) (e : FNe w0.heap.size b1 b2 b3 b5) (hr : BRow w' b1 n fa') (hg : wr.grownBy w' (some b1)) : FSt w0 n b1 b2 b3 b5 fa' fw fs cnt w' := by
  obtain ⟨n12, n13, n15, n23, n25, n35, g1, g2, g3, g5⟩ := e
  have h1 := h.l1
  have h2 := h.l2
  have h5 := h.l5
  have hs := hg.size
  have hz := h.sz
  exact ⟨hr, h.rw_.kept hg (by simp; omega), h.mp.kept hg (by simp; omega), hg.cell h.d0 (by simp; omega), hg.cell h.d1 (by simp; omega), hg.cell h.d2 (by simp; omega), h.bel.trans (grown_below hg (by omega) (by omega)), by omega, by omega, by omega, by omega⟩
theorem FSt.putW {w0 : World} {n b1 b2 b3 b5 : Nat} {fa fw fw' : Nat → Bool} {fs : ByteArray → Option Bool} {cnt : Nat} {wr w' : World} (h : FSt w0 n b1 b2 b3 b5 fa fw fs cnt wr) (e : FNe w0.heap.size b1 b2 b3 b5) (hr : BRow w' b2 n fw') (hg : wr.grownBy w' (some b2)) : FSt w0 n b1 b2 b3 b5 fa fw' fs cnt w' := by
  obtain ⟨n12, n13, n15, n23, n25, n35, g1, g2, g3, g5⟩ := e
  have h1 := h.l1
  have h2 := h.l2
  have h5 := h.l5
  have hs := hg.size
  have hz := h.sz
  exact ⟨h.ra.kept hg (by simp; omega), hr, h.mp.kept hg (by simp; omega), hg.cell h.d0 (by simp; omega), hg.cell h.d1 (by simp; omega), hg.cell h.d2 (by simp; omega), h.bel.trans (grown_below hg (by omega) (by omega)), by omega, by omega, by omega, by omega⟩
theorem FSt.putM {w0 : World} {n b1 b2 b3 b5 : Nat} {fa fw : Nat → Bool} {fs fs' : ByteArray → Option Bool} {cnt cnt' : Nat} {wr w' : World} (h : FSt w0 n b1 b2 b3 b5 fa fw fs cnt wr) (e : FNe w0.heap.size b1 b2 b3 b5) (hr : TMap KS valS w' b3 fs' cnt') (hg : wr.grownBy w' (some b3)) : FSt w0 n b1 b2 b3 b5 fa fw fs' cnt' w' := by
  obtain ⟨n12, n13, n15, n23, n25, n35, g1, g2, g3, g5⟩ := e
  have h1 := h.l1
  have h2 := h.l2
  have h5 := h.l5
  have hs := hg.size
  have hz := h.sz
  exact ⟨h.ra.kept hg (by simp; omega), h.rw_.kept hg (by simp; omega), hr, hg.cell h.d0 (by simp; omega), hg.cell h.d1 (by simp; omega), hg.cell h.d2 (by simp; omega), h.bel.trans (grown_below hg (by omega) (by omega)), by omega, by omega, by omega, by omega⟩

def FRel (l : List Claimed) (m : List Audit) (n b1 b2 b3 b5 : Nat) (w0 : World) (i : Value) (wr : World) : Prop :=
  ∃ k cnt : Nat, k ≤ m.length ∧ i = .int .i64 k ∧ FSt w0 n b1 b2 b3 b5 (audB (m.take k)) (wrB l (m.take k)) (setF (suB l (m.take k))) cnt wr ∧ cnt ≤ k

theorem three_setF {w : World} {b : Nat} {u0 u1 u2 : Value} (v0 v1 v2 : Value) (h0 : w.cell? ⟨b, 0, none⟩ = some u0) (h1 : w.cell? ⟨b, 1, none⟩ = some u1) (h2 : w.cell? ⟨b, 2, none⟩ = some u2) :
    (((w.setCell ⟨b, 0, none⟩ v0).setCell ⟨b, 1, none⟩ v1).setCell ⟨b, 2, none⟩ v2).cell? ⟨b, 0, none⟩ = some v0 ∧
    (((w.setCell ⟨b, 0, none⟩ v0).setCell ⟨b, 1, none⟩ v1).setCell ⟨b, 2, none⟩ v2).cell? ⟨b, 1, none⟩ = some v1 ∧
    (((w.setCell ⟨b, 0, none⟩ v0).setCell ⟨b, 1, none⟩ v1).setCell ⟨b, 2, none⟩ v2).cell? ⟨b, 2, none⟩ = some v2 := by
  have o : ∀ (W : World) (i j : Nat) (v : Value), i ≠ j → (W.setCell ⟨b, i, none⟩ v).cell? ⟨b, j, none⟩ = W.cell? ⟨b, j, none⟩ := fun W i j v hij => World.cell?_setCell_other _ _ _ _ (by simp)
  have s : ∀ (W : World) (i : Nat) (v u : Value), W.cell? ⟨b, i, none⟩ = some u → (W.setCell ⟨b, i, none⟩ v).cell? ⟨b, i, none⟩ = some v := fun W i v u hu => World.cell?_setCell_same' _ _ _ (by rw [hu]; rfl)
  refine ⟨?_, ?_, ?_⟩
  · rw [o _ 2 0 _ (by omega), o _ 1 0 _ (by omega)]; exact s _ 0 _ u0 h0
  · rw [o _ 2 1 _ (by omega)]; exact s _ 1 _ u1 (by rw [o _ 0 1 _ (by omega)]; exact h1)
  · exact s _ 2 _ u2 (by rw [o _ 1 2 _ (by omega), o _ 0 2 _ (by omega)]; exact h2)
theorem res3F {w wr : World} {v0 v1 v2 : Value} {T : TypeId} (hb : Below (w.alloc (.cells #[v0, v1, v2] T)).heap.size (w.alloc (.cells #[v0, v1, v2] T)) wr) :
    wr.cell? ⟨w.heap.size, 0, none⟩ = some v0 ∧ wr.cell? ⟨w.heap.size, 1, none⟩ = some v1 ∧ wr.cell? ⟨w.heap.size, 2, none⟩ = some v2 ∧
    wr.frozen? ⟨w.heap.size, 0, none⟩ = false ∧ wr.frozen? ⟨w.heap.size, 1, none⟩ = false ∧ wr.frozen? ⟨w.heap.size, 2, none⟩ = false := by
  have hf : ∀ j, wr.frozen? ⟨w.heap.size, j, none⟩ = false := fun j => (hb.frozen (by simp)).trans (by simp only [World.frozen?, (MapKept.heap_alloc w (.cells #[v0, v1, v2] T)).1]; simp)
  exact ⟨(hb.cell (by simp)).trans (by simp [go_sem]), (hb.cell (by simp)).trans (by simp [go_sem]), (hb.cell (by simp)).trans (by simp [go_sem]), hf 0, hf 1, hf 2⟩

set_option maxRecDepth 100000 in
set_option maxHeartbeats 8000000 in
theorem facts_any (A : Option Addr) (n c : Nat) (l : List Claimed) (B : Option Addr) (mn mc : Nat) (m : List Audit) (w : World) (hn : n ≤ 1000) (hmn : mn ≤ 1000) (hl : SlAt RClaimed w A n l) (hma : SlAt RAudit w B mn m) (hr : ∀ a ∈ m, 0 ≤ a.number ∧ a.number < n) :
    Calls Tryz.prog 21 #[.slice A n c, .slice B mn mc] w fun e w' =>
      ∃ b1 b2 b3 c3, e = .returned (.agg #[.slice (some ⟨b1, 0, none⟩) n n, .slice (some ⟨b2, 0, none⟩) n n, .map (some b3)]) ∧ FactsOk l m n b1 b2 b3 c3 w' ∧ Below w.heap.size w w' := by
  have hll := hl.1
  have hml := hma.1
  have hmk := @run_makeMap Tryz.prog
  have hmkB := run_makeB n (by omega)
  have hlH := Lib.hid hl
  clear hl
  have hllH := Lib.hid hll
  clear hll
  have hmaH := Lib.hid hma
  clear hma
  have hmlH := Lib.hid hml
  clear hml
  have hrH := Lib.hid hr
  clear hr
  go_enter Tryz.func21, Tryz.ntmps21
  go_wp2_with fail
  rename_i Q' KK hKK
  have key : ∀ (b1 b2 b3 b5 : Nat) (W : World), FSt w n b1 b2 b3 b5 (fun _ => false) (fun _ => false) (fun _ => none) 0 W → FNe w.heap.size b1 b2 b3 b5 →
      Exit.then KK Q' Exit.normal { tmps := #[Value.slice A n c, Value.slice B mn mc, undef, undef, Value.pointer (some { block := w.heap.size, off := 0 }), Value.pointer (some { block := b5, off := 0 }), undef, undef, Value.slice A n c, Value.int IntKind.i64 ↑n, Value.slice (some { block := b1, off := 0 }) n n, Value.slice A n c,
          Value.int IntKind.i64 ↑n, Value.slice (some { block := b2, off := 0 }) n n, Value.map (some b3), Value.agg #[Value.slice (some { block := b1, off := 0 }) n n, Value.slice (some { block := b2, off := 0 }) n n, Value.map (some b3)],
          undef, undef, undef, undef, undef, undef, undef, undef, undef, undef, undef, undef, undef, undef, undef, undef, undef, undef, undef, undef, undef, undef, undef, undef, undef, undef, undef, undef, undef, undef, undef, undef, undef, undef, undef], defers := [] } W := by
    intro b1 b2 b3 b5 W hst hne
    have hstH := Lib.hid hst
    clear hst
    have hneH := Lib.hid hne
    clear hne
    clear hmk hmkB
    go_wp2_with fail
    go_loopw [18] (fun i wr => FRel l m n b1 b2 b3 b5 w i wr) (fun i _ => mn - (intOf i).toNat)
    case atStart => exact ⟨0, 0, Nat.zero_le _, rfl, hstH.out, Nat.le_refl _⟩
    case round =>
      obtain ⟨k, cnt, hk, rfl, hst, hcnt⟩ := hrel
      have hkl : k ≤ mn := by have := hmlH.out; omega
      by_cases hlt : k < mn
      · obtain ⟨b, off, hB, _⟩ := hmaH.out.2.1 (by omega)
        subst hB
        obtain ⟨x, hx⟩ : ∃ x, m[k]? = some x := ⟨m[k]'(by have := hmlH.out; omega), List.getElem?_eq_getElem _⟩
        obtain ⟨hn0, hn1⟩ := hrH.out x (List.mem_of_getElem? hx)
        obtain ⟨number, result, aat⟩ := x
        simp only at hn0 hn1
        obtain ⟨nn, rfl⟩ : ∃ nn : Nat, number = nn := ⟨number.toNat, by omega⟩
        have hnn : nn < n := by omega
        have hkl2 : k + 1 ≤ m.length := by have := hmlH.out; omega
        have htk : m.take (k + 1) = m.take k ++ [⟨nn, result, aat⟩] := by rw [List.take_add_one, hx]; rfl
        have hb0 : Below w.heap.size w wr := ((Below.refl w.heap.size w).alloc (Nat.le_refl _) _).trans (hst.bel.mono (by omega))
        obtain ⟨c0, c1, c2⟩ := cells_Audit (hmaH.out.below hb0) hx
        have hstA := hst.below ((Below.refl wr.heap.size wr).alloc (Nat.le_refl _) (.cells #[.int .i64 nn, .string result, .int .i64 aat] 30))
        obtain ⟨g1, z1⟩ := hstA.ra nn hnn
        have d0 := hstA.d0
        have hgA := grown_setc wr ⟨b1, nn, none⟩ (.bool true)
        have hst2 := (hst.putA hneH.out (hst.ra.set (k := nn) true) hgA).below ((Below.refl _ _).alloc (Nat.le_refl _) (.cells #[.int .i64 nn, .string result, .int .i64 aat] 30))
        have hl1 := hst.l1
        have hl2 := hst.l2
        obtain ⟨W2, hW2⟩ : ∃ W, W = (wr.setCell ⟨b1, nn, none⟩ (.bool true)).alloc (.cells #[.int .i64 nn, .string result, .int .i64 aat] 30) := ⟨_, rfl⟩
        have q0 : W2.cell? ⟨wr.heap.size, 0, none⟩ = some (.int .i64 nn) := by
          have := cell_new (wr.setCell ⟨b1, nn, none⟩ (.bool true)) #[.int .i64 nn, .string result, .int .i64 aat] 30 0
          rw [hW2]; simpa using this
        have q1 : W2.cell? ⟨wr.heap.size, 1, none⟩ = some (.string result) := by
          have := cell_new (wr.setCell ⟨b1, nn, none⟩ (.bool true)) #[.int .i64 nn, .string result, .int .i64 aat] 30 1
          rw [hW2]; simpa using this
        rw [← hW2] at hst2
        clear hgA
        have hb2 : Below w.heap.size w W2 := ((Below.refl w.heap.size w).alloc (Nat.le_refl _) _).trans (hst2.bel.mono (by omega))
        obtain ⟨bl, offl, hAl, _⟩ := hlH.out.2.1 (by omega)
        subst hAl
        obtain ⟨z, hz⟩ : ∃ z, l[nn]? = some z := ⟨l[nn]'(by have := hllH.out; omega), List.getElem?_eq_getElem _⟩
        obtain ⟨_, _, e2, e3, _, _, _⟩ := cells_Claimed (hlH.out.below hb2) hz
        have hwz : z.writer.size ≤ maxLen := (hlH.out.2.2 z (List.mem_of_getElem? hz)).2.2.2.1
        have hbadE : badA l ⟨nn, result, aat⟩ = !decide (result = z.result) := by unfold badA; simp only; rw [resOf_get hz]
        have hwrE := wriOf_get hz
        have hnI : (nn : Int) < (n : Int) := by omega
        have had := audB_snoc (m.take k) nn result aat
        have hwd := wrB_snoc l (m.take k) nn result aat
        have hsd := suB_snoc l (m.take k) ⟨nn, result, aat⟩
        rw [← htk] at had hwd hsd
        simp only at hsd
        rw [hwrE] at hsd
        clear hn0 hn1 htk
        have hxH := Lib.hid hx
        clear hx
        have hstH := Lib.hid hst
        clear hst
        have hstAH := Lib.hid hstA
        clear hstA
        have hst2H := Lib.hid hst2
        clear hst2
        have hb0H := Lib.hid hb0
        clear hb0
        have hb2H := Lib.hid hb2
        clear hb2
        have hzH := Lib.hid hz
        clear hz
        have hwzH := Lib.hid hwz
        clear hwz
        have hkl2H := Lib.hid hkl2
        clear hkl2
        have hadH := Lib.hid had
        clear had
        have hwdH := Lib.hid hwd
        clear hwd
        have hsdH := Lib.hid hsd
        clear hsd
        go_wp2_with fail
        rw [← hW2]
        clear c0 c1 c2 g1 z1 d0 hW2
        by_cases hbad : result = z.result
        · have hres : (result.toList == z.result.toList) = true := by rw [beq_data, decide_eq_true hbad]
          rw [decide_eq_true hbad] at hbadE
          have hbadE : badA l ⟨nn, result, aat⟩ = false := hbadE
          have hbadH := Lib.hid hbad
          clear hbad
          have hbadEH := Lib.hid hbadE
          clear hbadE
          go_quiet (fail)
          have R : FRel l m n b1 b2 b3 b5 w (.int .i64 (k + 1)) (W2.drewN nq) := by
            refine ⟨k + 1, cnt, hkl2H.out, by go_num, ?_, by omega⟩
            rw [hadH.out, hwdH.out, hsdH.out, if_neg (by rw [hbadEH.out]; decide), if_neg (by rw [hbadEH.out]; decide)]
            exact hst2H.out.below (bel_drewN (Below.refl _ _) _)
          have RH := Lib.hid R
          clear R
          go_wp2
          refine ⟨?rel, ?measure⟩
          case measure => (simp [intOf]; omega)
          case rel => first | exact RH.out | exact ⟨rfl, RH.out⟩ | ((try refine ⟨rfl, ?_⟩); (repeat apply Exists.intro); refine ⟨RH.out, ?_⟩; ((repeat' apply And.intro) <;> rfl))
        · have hres : (result.toList == z.result.toList) = false := by rw [beq_data, decide_eq_false hbad]
          rw [decide_eq_false hbad] at hbadE
          have hbadE : badA l ⟨nn, result, aat⟩ = true := hbadE
          have hbadH := Lib.hid hbad
          clear hbad
          have hbadEH := Lib.hid hbadE
          clear hbadE
          go_quiet (fail)
          have hst3 := hst2H.out.below (bel_drewN (Below.refl W2.heap.size W2) nq)
          have q0 : (W2.drewN nq).cell? ⟨wr.heap.size, 0, none⟩ = some (.int .i64 nn) := q0
          have e3 : (W2.drewN nq).cell? ⟨bl, offl + nn * 7 + 3, none⟩ = some (.string z.writer) := e3
          obtain ⟨W3, hW3⟩ : ∃ W, W = W2.drewN nq := ⟨_, rfl⟩
          rw [← hW3] at hst3 q0 e3 ⊢
          obtain ⟨g2, z2⟩ := hst3.rw_ nn hnn
          have d1 := hst3.d1
          have d2 := hst3.d2
          have hgW := grown_setc W3 ⟨b2, nn, none⟩ (.bool true)
          have hst4 := hst3.putW hneH.out (hst3.rw_.set (k := nn) true) hgW
          have hbl : bl < w.heap.size := by
            obtain ⟨a0, _⟩ := cells_Claimed hlH.out hzH.out
            exact cell?_lt a0
          have hg2 := hneH.out.g2
          have q0' : (W3.setCell ⟨b2, nn, none⟩ (.bool true)).cell? ⟨wr.heap.size, 0, none⟩ = some (.int .i64 nn) := hgW.cell q0 (by simp; omega)
          have e3' : (W3.setCell ⟨b2, nn, none⟩ (.bool true)).cell? ⟨bl, offl + nn * 7 + 3, none⟩ = some (.string z.writer) := hgW.cell e3 (by simp; omega)
          have d2' := hst4.d2
          obtain ⟨W5, hupd, hm5, hg5⟩ := (hst4.mp.below (Below.refl _ _).drew hst4.mp.lt).store Tryz.underlying45 injS (by simp only [maxLen]; omega) (x := z.writer) hwzH.out true
          replace hupd : (Instr.mapUpdate 45 (.map (some b3)) (.string z.writer) (.bool true)).run Tryz.prog (W3.setCell ⟨b2, nn, none⟩ (.bool true)).drew = .ok () W5 := hupd
          have hst5 := (hst4.below (Below.refl _ _).drew).putM hneH.out hm5 hg5.grown
          have R : FRel l m n b1 b2 b3 b5 w (.int .i64 (k + 1)) W5 := by
            refine ⟨k + 1, _, hkl2H.out, by go_num, ?_, Nat.le_trans (ite_le_succ ((setF (suB l (List.take k m)) z.writer).isSome = true) cnt) (by omega)⟩
            rw [hadH.out, hwdH.out, hsdH.out, if_pos hbadEH.out, if_pos hbadEH.out, ← setF_upd]
            exact hst5
          clear hst5 hm5 hg5 hgW hst4 hst3 hW3
          have RH := Lib.hid R
          clear R
          go_wp2_with fail
          go_region
          go_wp2
          refine ⟨?rel, ?measure⟩
          case measure => (simp [intOf]; omega)
          case rel => first | exact RH.out | exact ⟨rfl, RH.out⟩ | ((try refine ⟨rfl, ?_⟩); (repeat apply Exists.intro); refine ⟨RH.out, ?_⟩; ((repeat' apply And.intro) <;> rfl))
      · have e : m.take k = m := List.take_of_length_le (by have := hmlH.out; omega)
        rw [e] at hst
        obtain ⟨r0, r1, r2, f0, f1, f2⟩ := res3F (wr := wr) (by rw [World.size_alloc]; exact hst.bel)
        obtain ⟨t0, t1, t2⟩ := three_setF (.slice (some ⟨b1, 0, none⟩) n n) (.slice (some ⟨b2, 0, none⟩) n n) (.map (some b3)) r0 r1 r2
        have d0 := hst.d0
        have d1 := hst.d1
        have d2 := hst.d2
        have hb0 : Below w.heap.size w wr := ((Below.refl w.heap.size w).alloc (Nat.le_refl _) _).trans (hst.bel.mono (by omega))
        have hstH := Lib.hid hst
        clear hst
        have hb0H := Lib.hid hb0
        clear hb0
        have eH := Lib.hid e
        clear e
        go_wp2
        refine bodyPost_ret (v := .agg #[.slice (some ⟨b1, 0, none⟩) n n, .slice (some ⟨b2, 0, none⟩) n n, .map (some b3)]) (by simp [results, Tryz.results21, go_sem, t0, t1, t2]) rfl ⟨b1, b2, b3, cnt, rfl, ?_, ((hb0H.out.setCell (Nat.le_refl _) _).setCell (Nat.le_refl _) _).setCell (Nat.le_refl _) _⟩
        have hs := hstH.out
        obtain ⟨n12, n13, n15, n23, n25, n35, g1, g2, g3, g5⟩ := hneH.out
        have hg : ∀ (W : World) (j : Nat) (v : Value), W.grownBy (W.setCell ⟨w.heap.size, j, none⟩ v) (some w.heap.size) := fun W j v => grown_setc W ⟨w.heap.size, j, none⟩ v
        have k1 := hs.l1
        have k2 := hs.l2
        refine ⟨((hs.ra.kept (hg _ _ _) (by simp; omega)).kept (hg _ _ _) (by simp; omega)).kept (hg _ _ _) (by simp; omega), ((hs.rw_.kept (hg _ _ _) (by simp; omega)).kept (hg _ _ _) (by simp; omega)).kept (hg _ _ _) (by simp; omega), ((hs.mp.kept (hg _ _ _) (by simp; omega)).kept (hg _ _ _) (by simp; omega)).kept (hg _ _ _) (by simp; omega), by simp; omega, by simp; omega, by omega⟩
  go_region
  all_goals
    refine key _ _ _ _ _ ?_ ?_
    · obtain ⟨k1, k2, k3, k4, k5, k6⟩ := chain4 (w.alloc (.cells #[.slice none 0 0, .slice none 0 0, .map none] 47)) _ _ _ _ (w.heap.size + 1) (by simp)
      refine ⟨brow_of_heap (by assumption), brow_of_heap (by assumption), tmap_of_heap KS valS (by assumption), ?_, ?_, ?_, k6, ?_, ?_, ?_, ?_⟩
      · first | exact (cell_of_heap k1) | exact (cell_of_heap k2) | exact (cell_of_heap k3) | exact (cell_of_heap k4)
      · first | exact (cell_of_heap k1) | exact (cell_of_heap k2) | exact (cell_of_heap k3) | exact (cell_of_heap k4)
      · first | exact (cell_of_heap k1) | exact (cell_of_heap k2) | exact (cell_of_heap k3) | exact (cell_of_heap k4)
      all_goals omega
    · constructor <;> omega
end Go.Proofs.YtgegdfmdcmgliaaGreatDoor.C11

namespace Go.Proofs.YtgegdfmdcmgliaaGreatDoor.C11
open Go.RowKit
set_option linter.unusedVariables false

theorem elem_IntT : Elem Tryz.prog 3 RInt.size 8 := elem_of (z := .int .i64 0) (by kernel_rfl) (by decide)
def NumRel (f : Nat → Bool) (n : Nat) (w0 : World) (v i : Value) (wr : World) : Prop :=
  ∃ (k n' cap : Nat) (A : Option Addr), k ≤ n ∧ i = .int .i64 k ∧ v = .slice A n' cap ∧ Own RInt 3 wr w0.heap.size v (numsN f k) ∧ Below w0.heap.size w0 wr

set_option maxHeartbeats 1000000 in
theorem numbers_any (b n c : Nat) (f : Nat → Bool) (w : World) (hn : n ≤ 1000) (hr : BRow w b n f) :
    Calls Tryz.prog 23 #[.slice (some ⟨b, 0, none⟩) n c] w fun e w' => ∃ A k cap, e = .returned (.slice A k cap) ∧ Own RInt 3 w' w.heap.size (.slice A k cap) (numsN f n) ∧ k ≤ n ∧ Below w.heap.size w w' := by
  have hI : ∀ (W : World) (k : Nat), k ≤ 1000 → RInt.ok W (k : Int) := fun W k hk => ⟨by omega, by omega⟩
  have hrH := Lib.hid hr
  clear hr
  have hIH := Lib.hid hI
  clear hI
  go_enter Tryz.func23, Tryz.ntmps23
  go_wp2_with fail
  go_loopw [3, 8] (fun v i wr => NumRel f n w v i wr) (fun _ i _ => n - (intOf i).toNat)
  case atStart => exact ⟨0, 0, 0, none, Nat.zero_le _, rfl, rfl, Own.nil _ _, Below.refl _ _⟩
  case round =>
    obtain ⟨k, n', cap, A, hk, rfl, rfl, hown, hb⟩ := hrel
    have hbs := hb.size
    have hn' := hown.len
    have hnk := numsN_len f k
    rw [hn'] at hnk
    by_cases hlt : k < n
    · obtain ⟨d0, _⟩ := (hrH.out.keep (w' := wr) fun h => hb.block b h) k hlt
      have hat : numsN f (k + 1) = numsN f k ++ (if f k = true then [(k : Int)] else []) := rfl
      have hok := hIH.out wr k (by omega)
      have hownH := Lib.hid hown
      clear hown
      have hbH := Lib.hid hb
      clear hb
      have hn'H := Lib.hid hn'
      clear hn'
      have hokH := Lib.hid hok
      clear hok
      cases hf : f k
      · rw [hf] at d0 hat
        rw [if_neg (by decide), List.append_nil] at hat
        have R : NumRel f n w (.slice A n' cap) (.int .i64 (k + 1)) wr := ⟨k + 1, n', cap, A, hlt, by go_num, rfl, by rw [hat]; exact hownH.out, hbH.out⟩
        clear hat
        have RH := Lib.hid R
        clear R
        have hfH := Lib.hid hf
        clear hf
        go_wp2
        refine ⟨?rel, ?measure⟩
        case measure => (simp [intOf]; omega)
        case rel => first | exact RH.out | exact ⟨rfl, RH.out⟩ | ((try refine ⟨rfl, ?_⟩); (repeat apply Exists.intro); refine ⟨RH.out, ?_⟩; ((repeat' apply And.intro) <;> rfl))
      · rw [hf] at d0 hat
        rw [if_pos rfl] at hat
        have hatH := Lib.hid hat
        clear hat
        have hfH := Lib.hid hf
        clear hf
        go_wp2_with (at_builtin; go_loud (refine wpList_app rfl (.tmp 14) (.tmp 16) 24 rfl Tryz.underlying24 elem_IntT (by decide) rfl (hownH.out.alloc _) (some ⟨wr.heap.size, 0, none⟩) 1 1 [(k : Int)] rfl (slAt_new _ _ _ hokH.out) ?nn ?ok ?c1 ?c2 ?c3 (n' + 1) ?c4 ?_))
        case nn => intro h; cases h
        case ok => exact fun _ _ _ _ h => h
        case c1 => have := hn'H.out; simp [maxLen] <;> omega
        case c2 => have := hn'H.out; omega
        case c3 => simp <;> omega
        case c4 => have := hn'H.out; omega
        intro A' c' w7 hown7 hg7 hat7 hb7
        have R : NumRel f n w (.slice A' (n' + 1) c') (.int .i64 (k + 1)) w7 := by
          refine ⟨k + 1, n' + 1, c', A', hlt, by go_num, rfl, ?_, (hbH.out.alloc hbs _).trans hb7⟩
          rw [hatH.out]
          exact hown7
        clear hg7 hat7 hb7 hown7
        have RH := Lib.hid R
        clear R
        go_wp2
        refine ⟨?rel, ?measure⟩
        case measure => (simp [intOf]; omega)
        case rel => first | exact RH.out | exact ⟨rfl, RH.out⟩ | ((try refine ⟨rfl, ?_⟩); (repeat apply Exists.intro); refine ⟨RH.out, ?_⟩; ((repeat' apply And.intro) <;> rfl))
    · obtain rfl : k = n := by omega
      have hownH := Lib.hid hown
      clear hown
      have hbH := Lib.hid hb
      clear hb
      have hn'H := Lib.hid hn'
      clear hn'
      go_wp2
      go_ret
      exact ⟨A, n', cap, rfl, hownH.out, hnk, hbH.out⟩

theorem zeroI (w : World) : (zeroValue 3).run Tryz.prog w = .ok (Value.int .i64 0) w := by kernel_rfl
def valI (x : Int) : Value := .int .i64 x
theorem injI : InjV valI := fun _ _ h => by injection h
theorem lookS {w : World} {b c : Nat} {p : ByteArray → Bool} (h : TMap KS valS w b (setF p) c) (s : ByteArray) (hs : s.size ≤ maxLen) (v : Bool) (hv : p s = v) :
    (Instr.lookup 45 (.map (some b)) (.string s) false).run Tryz.prog w = .ok (.bool v) w := by
  have := (h.look Tryz.underlying45 (zeroS w) injS (x := s) hs).1
  rw [setF_getD, hv] at this
  exact this
theorem lookI {w : World} {b c : Nat} {f : ByteArray → Option Int} (h : TMap KS valI w b f c) (s : ByteArray) (hs : s.size ≤ maxLen) (v : Int) (hv : (f s).getD 0 = v) (y : Bool) (hy : (f s).isSome = y) :
    (Instr.lookup 209 (.map (some b)) (.string s) true).run Tryz.prog w = .ok (.tuple #[.int .i64 v, .bool y]) w := by
  have := (h.look (z0 := (0 : Int)) Tryz.underlying209 (zeroI w) injI (x := s) hs).2
  rw [hv, hy] at this
  exact this

/-! ### right -/
theorem rgtF_keep {l : List Claimed} {m : List Audit} {k : Nat} (h : wrB l m k = true ∨ (audB m k && (suB l m (wriOf l k) && !endB l m k (wriOf l k))) = false) : rgtF l m (k + 1) = rgtF l m k := by
  funext s
  unfold rgtF
  by_cases hs : suB l m s = true
  · rw [if_pos hs, if_pos hs]
    congr 1
    show (if (!wrB l m k && (audB m k && !endB l m k (wriOf l k)) && decide (wriOf l k = s)) = true then (k : Int) else rgt l m k s) = rgt l m k s
    rw [if_neg]
    intro hc
    simp only [Bool.and_eq_true, Bool.not_eq_true', decide_eq_true_iff] at hc
    obtain ⟨⟨h1, h2, h3⟩, h4⟩ := hc
    rcases h with h | h
    · rw [h] at h1; cases h1
    · rw [h2, h3, h4, hs] at h; cases h
  · rw [if_neg hs, if_neg hs]
theorem rgtF_upd {l : List Claimed} {m : List Audit} {k : Nat} (h1 : wrB l m k = false) (h2 : audB m k = true) (h3 : suB l m (wriOf l k) = true) (h4 : endB l m k (wriOf l k) = false) : upd (rgtF l m k) (wriOf l k) (k : Int) = rgtF l m (k + 1) := by
  funext s
  unfold upd rgtF
  show _ = if suB l m s = true then some (if (!wrB l m k && (audB m k && !endB l m k (wriOf l k)) && decide (wriOf l k = s)) = true then (k : Int) else rgt l m k s) else none
  rw [h1, h2, h4]
  by_cases hs : s = wriOf l k
  · subst hs
    rw [if_pos rfl, if_pos h3, if_pos (by simp)]
  · rw [if_neg hs]
    by_cases hss : suB l m s = true
    · rw [if_pos hss, if_pos hss, if_neg (by simpa using fun e => hs e.symm)]
    · rw [if_neg hss, if_neg hss]
theorem endF_upd {l : List Claimed} {m : List Audit} {k : Nat} (h1 : wrB l m k = true) : upd (setF (endB l m k)) (wriOf l k) true = setF (endB l m (k + 1)) := by
  rw [setF_upd]
  congr 1
  funext s
  show _ = (endB l m k s || (wrB l m k && decide (wriOf l k = s)))
  rw [h1, Bool.true_and]
theorem endF_keep {l : List Claimed} {m : List Audit} {k : Nat} (h1 : wrB l m k = false) : endB l m (k + 1) = endB l m k := by
  funext s
  show (endB l m k s || (wrB l m k && decide (wriOf l k = s))) = _
  rw [h1, Bool.false_and, Bool.or_false]

def Rg1 (l : List Claimed) (m : List Audit) (K b1 b2 b3 c3 r n : Nat) (w0 wr : World) : Prop :=
  ∃ (left : ByteArray → Bool) (cnt : Nat) (g : ByteArray → Option Int) (ci : Nat), TRange KS valS wr b3 r c3 (setF (suB l m)) left cnt ∧ TMap KS valI wr (K + 1) g ci ∧ ci + cnt ≤ c3 ∧
    (∀ s, s.size ≤ maxLen → g s = if (suB l m s && !left s) = true then some (-1) else none) ∧ TMap KS valS wr (K + 2) (setF (endB l m 0)) 0 ∧
    wr.cell? ⟨K, 0, none⟩ = some (.slice (some ⟨b1, 0, none⟩) n n) ∧ wr.cell? ⟨K, 1, none⟩ = some (.slice (some ⟨b2, 0, none⟩) n n) ∧ wr.cell? ⟨K, 2, none⟩ = some (.map (some b3)) ∧ Below K w0 wr ∧ K + 4 ≤ wr.heap.size
def Rg2 (l : List Claimed) (m : List Audit) (K b1 b2 b3 c3 n : Nat) (w0 : World) (i : Value) (wr : World) : Prop :=
  ∃ k c1 c2 : Nat, k ≤ n ∧ i = .int .i64 k ∧ TMap KS valI wr (K + 1) (rgtF l m k) c1 ∧ c1 ≤ c3 + k ∧ TMap KS valS wr (K + 2) (setF (endB l m k)) c2 ∧ c2 ≤ k ∧
    wr.cell? ⟨K, 0, none⟩ = some (.slice (some ⟨b1, 0, none⟩) n n) ∧ wr.cell? ⟨K, 1, none⟩ = some (.slice (some ⟨b2, 0, none⟩) n n) ∧ wr.cell? ⟨K, 2, none⟩ = some (.map (some b3)) ∧ Below K w0 wr ∧ K + 4 ≤ wr.heap.size

end Go.Proofs.YtgegdfmdcmgliaaGreatDoor.C11

namespace Go.Proofs.YtgegdfmdcmgliaaGreatDoor.C11
open Go.RowKit
set_option linter.unusedVariables false

theorem pre_old {l : List Claimed} {m : List Audit} {k j : Nat} (h : j < k) : pre l m (k + 1) j = pre l m k j := by
  show (if j = k then tStep l m (pre l m k) k else pre l m k j) = _
  rw [if_neg (by omega)]
theorem pre_new (l : List Claimed) (m : List Audit) (k : Nat) : pre l m (k + 1) k = tStep l m (pre l m k) k := by
  show (if k = k then tStep l m (pre l m k) k else pre l m k k) = _
  rw [if_pos rfl]
/-- the results of tainted ones so far -/
def badF (l : List Claimed) (m : List Audit) (k : Nat) : ByteArray → Bool := anyB l (pre l m k) k
/-- the results of others so far -/
def goodF (l : List Claimed) (m : List Audit) (k : Nat) : ByteArray → Bool := anyB l (fun j => !pre l m k j) k
theorem bad_step {l : List Claimed} {m : List Audit} {k : Nat} (h : tStep l m (pre l m k) k = true) : badF l m (k + 1) = fun s => badF l m k s || decide (resOf l k = s) := by
  funext s
  show (anyB l (pre l m (k + 1)) k s || (pre l m (k + 1) k && decide (resOf l k = s))) = _
  rw [anyB_congr l k (fun j hj => pre_old hj), pre_new, h, Bool.true_and]
  rfl
theorem bad_keep {l : List Claimed} {m : List Audit} {k : Nat} (h : tStep l m (pre l m k) k = false) : badF l m (k + 1) = badF l m k := by
  funext s
  show (anyB l (pre l m (k + 1)) k s || (pre l m (k + 1) k && decide (resOf l k = s))) = _
  rw [anyB_congr l k (fun j hj => pre_old hj), pre_new, h, Bool.false_and, Bool.or_false]
  rfl
theorem good_step {l : List Claimed} {m : List Audit} {k : Nat} (h : tStep l m (pre l m k) k = false) : goodF l m (k + 1) = fun s => goodF l m k s || decide (resOf l k = s) := by
  funext s
  show (anyB l (fun j => !pre l m (k + 1) j) k s || (!pre l m (k + 1) k && decide (resOf l k = s))) = _
  rw [anyB_congr l (f := fun j => !pre l m (k + 1) j) (g := fun j => !pre l m k j) k (fun j hj => by show (!pre l m (k + 1) j) = (!pre l m k j); rw [pre_old hj]), pre_new, h]
  rfl
theorem good_keep {l : List Claimed} {m : List Audit} {k : Nat} (h : tStep l m (pre l m k) k = true) : goodF l m (k + 1) = goodF l m k := by
  funext s
  show (anyB l (fun j => !pre l m (k + 1) j) k s || (!pre l m (k + 1) k && decide (resOf l k = s))) = _
  rw [anyB_congr l (f := fun j => !pre l m (k + 1) j) (g := fun j => !pre l m k j) k (fun j hj => by show (!pre l m (k + 1) j) = (!pre l m k j); rw [pre_old hj]), pre_new, h]
  simp only [Bool.not_true, Bool.false_and, Bool.or_false]
  rfl
def useP (l : List Claimed) (m : List Audit) (k : Nat) (u : ByteArray) : Bool := badF l m k u && !goodF l m k u
theorem tStep_parts {l : List Claimed} {m : List Audit} {k : Nat} : tStep l m (pre l m k) k = (wrB l m k || ((suB l m (wriOf l k) && !audB m k) && decide (rgt l m l.length (wriOf l k) < (k : Int))) || (useOf l k).any (useP l m k)) := rfl
theorem pre_upd (l : List Claimed) (m : List Audit) (k : Nat) : pre l m (k + 1) = fun j => if j = k then tStep l m (pre l m k) k else pre l m k j := rfl
/-- what 'right' tells of a writer -/
theorem rgtF_some {l : List Claimed} {m : List Audit} {n : Nat} {s : ByteArray} : (rgtF l m n s).isSome = suB l m s := by
  unfold rgtF
  cases suB l m s <;> rfl
theorem rgtF_get {l : List Claimed} {m : List Audit} {n : Nat} {s : ByteArray} (h : suB l m s = true) : (rgtF l m n s).getD 0 = rgt l m n s := by
  unfold rgtF
  rw [if_pos h]; rfl
theorem rgtF_none {l : List Claimed} {m : List Audit} {n : Nat} {s : ByteArray} (h : suB l m s = false) : (rgtF l m n s).getD 0 = 0 := by
  unfold rgtF
  rw [h]; rfl
end Go.Proofs.YtgegdfmdcmgliaaGreatDoor.C11

namespace Go.Proofs.YtgegdfmdcmgliaaGreatDoor.C11
open Go.RowKit
set_option linter.unusedVariables false

theorem rword_b (s : ByteArray) (b : Bool) (w : World) (hs : s.size ≤ maxLen) (hb : wordB s = b) :
    Calls Tryz.prog 98 #[.string s] w fun e w' => e = .returned (.bool b) ∧ Below w.heap.size w w' :=
  (rword_any s b w hs hb).mono fun e w' h => ⟨h.1, h.2 ▸ Below.refl _ _⟩
theorem row_b (s : ByteArray) (w : World) (hs : s.size ≤ maxLen) (b : Bool) (hb : rowB s = b) :
    Calls Tryz.prog 70 #[.string s] w fun e w' => e = .returned (.bool b) ∧ Below w.heap.size w w' :=
  (row_any s w hs b hb).mono fun e w' h => ⟨h.1, h.2 ▸ Below.refl _ _⟩
theorem plain_b (s : ByteArray) (w : World) (hs : s.size ≤ maxLen) (b : Bool) (hb : plainB s = b) :
    Calls Tryz.prog 67 #[.string s] w fun e w' => e = .returned (.bool b) ∧ Below w.heap.size w w' := plain_any s w b hb
/-- behind the two slashes there is a byte, so that the one more thing the reference asks of a prefix holds -/
theorem pref_row {s : ByteArray} (h : Lib.hasPrefix s.data.toList slsl.data.toList = true) : rowB s = plainB s := by
  unfold rowB
  have : (s.toList == []) = false := by
    rw [beq_eq_false_iff_ne, Lib.toList_data]
    intro e
    rw [e] at h
    cases h
  rw [this]
  cases plainB s <;> rfl

def PrRel (l : List ByteArray) (c : Int) (w0 : World) (i : Value) (wr : World) : Prop :=
  ∃ k : Nat, k ≤ l.length ∧ i = .int .i64 k ∧ prefsErr (prevP l k) (l.drop k) = c ∧ Below w0.heap.size w0 wr

-- {0} the way from the prefixes' fault to the fault asked; {1} isPlain's contract; {2} more rows for what lies behind the call; {3} the cell of the row in the box, or nothing

set_option maxHeartbeats 4000000 in
theorem writer_any (x : Writer) (w : World) (hok : RWriter.ok w x) (c : Int) (hF : writerF x = c) :
    Calls Tryz.prog 78 #[.agg #[.string x.name, .string x.secret, .slice x.prefixes.A x.prefixes.n x.prefixes.cap, .int .i64 x.from_, .int .i64 x.to_]] w fun e w' =>
      e = .returned (.int .i64 c) ∧ Below w.heap.size w w' := by
  obtain ⟨nm, se, ⟨A, n, cap, l⟩, fr, tt⟩ := x
  obtain ⟨o0, o1, o2, o3, o4⟩ := hok
  simp only at o0 o1 o2 o3 o4 hF ⊢
  unfold writerF at hF
  simp only at hF
  obtain ⟨b1, hb1⟩ : ∃ b, wordB nm = b := ⟨_, rfl⟩
  obtain ⟨b2, hb2⟩ : ∃ b, secretB se = b := ⟨_, rfl⟩
  rw [hb1, hb2] at hF
  have hba := (Below.refl w.heap.size w).alloc (Nat.le_refl _) (.cells #[.string nm, .string se, .slice A n cap, .int .i64 fr, .int .i64 tt] 55)
  have hbas := hba.size
  have hl : SlAt RStr w A n l := o2.1
  have hal := hl.1
  have han9 : n ≤ 9223372036854775807 := Nat.le_trans o2.2.1 o2.2.2.1
  have o0 : nm.size ≤ maxLen := o0
  have o1 : se.size ≤ maxLen := o1
  have o0H := Lib.hid o0
  clear o0
  have o1H := Lib.hid o1
  clear o1
  have o2H := Lib.hid o2
  clear o2
  have o3H := Lib.hid o3
  clear o3
  have o4H := Lib.hid o4
  clear o4
  have hFH := Lib.hid hF
  clear hF
  have hb1H := Lib.hid hb1
  clear hb1
  have hb2H := Lib.hid hb2
  clear hb2
  have hbaH := Lib.hid hba
  clear hba
  have hbasH := Lib.hid hbas
  clear hbas
  have hlH := Lib.hid hl
  clear hl
  have halH := Lib.hid hal
  clear hal
  go_enter Tryz.func78, Tryz.ntmps78
  go_wp2_with fail
  refine (word_any nm b1 _ o0H.out hb1H.out).mono ?_
  rintro e w1 ⟨rfl, hw1⟩
  have q1 := (hw1.cell (by simp)).trans (cell_new w _ _ 1)
  have q2 := (hw1.cell (by simp)).trans (cell_new w _ _ 2)
  have q3 := (hw1.cell (by simp)).trans (cell_new w _ _ 3)
  have q4 := (hw1.cell (by simp)).trans (cell_new w _ _ 4)
  have hbw1 := hbaH.out.trans (hw1.mono hbasH.out)
  have hz1 : w.heap.size < w1.heap.size := by have := hw1.size; simp at this; omega
  simp only [List.getElem?_toArray, List.getElem?_cons_succ, List.getElem?_cons_zero] at q1 q2 q3 q4
  have hw1H := Lib.hid hw1
  clear hw1
  have hbw1H := Lib.hid hbw1
  clear hbw1
  have hF := hFH.out
  clear hFH
  cases b1
  · rw [if_neg (by decide)] at hF
    have hFH := Lib.hid hF
    clear hF
    clear q1 q2 q3 q4
    go_wp2
    go_ret
    exact ⟨ret1_int hFH.out, hbw1H.out⟩
  · rw [if_pos rfl] at hF
    have hFH := Lib.hid hF
    clear hF
    go_wp2_with fail
    refine (secret_any se _ o1H.out b2 hb2H.out).mono ?_
    rintro e w2 ⟨rfl, hw2⟩
    replace q2 := (hw2.cell (by omega)).trans q2
    replace q3 := (hw2.cell (by omega)).trans q3
    replace q4 := (hw2.cell (by omega)).trans q4
    have hbw2 := hbw1H.out.trans (hw2.mono hbw1H.out.size)
    have hz2 : w.heap.size < w2.heap.size := by have := hw2.size; omega
    clear q1
    have hw2H := Lib.hid hw2
    clear hw2
    have hbw2H := Lib.hid hbw2
    clear hbw2
    have hF := hFH.out
    clear hFH
    cases b2
    · rw [if_neg (by decide)] at hF
      have hFH := Lib.hid hF
      clear hF
      clear q2 q3 q4
      go_wp2
      go_ret
      exact ⟨ret1_int hFH.out, hbw2H.out⟩
    · rw [if_pos rfl] at hF
      by_cases h30 : n ≤ 30
      · have hpf : prefsF l = prefsErr none l := by unfold prefsF; rw [halH.out, if_pos h30]
        rw [hpf] at hF
        obtain ⟨c3, hc3⟩ : ∃ c3, prefsErr none l = c3 := ⟨_, rfl⟩
        rw [hc3] at hF
        have hX : ∀ z : Int, z = c3 → z ≠ 0 → z = c := fun z h2 h1 => by
          rw [if_neg (by omega)] at hF
          omega
        have hFH := Lib.hid hF
        clear hF
        have hXH := Lib.hid hX
        clear hX
        have hc3H := Lib.hid hc3
        clear hc3
        clear hpf
        go_wp2_with fail
        go_loopw [23] (fun i wr => PrRel l c3 w2 i wr) (fun i _ => n - (intOf i).toNat)
        case atStart => exact ⟨0, Nat.zero_le _, rfl, hc3H.out, Below.refl _ _⟩
        case round =>
          obtain ⟨k, hk, rfl, hck, hb⟩ := hrel
          have hkl : k ≤ n := by have := halH.out; omega
          have hbs := hb.size
          have q2r := (hb.cell hz2).trans q2;have q3r := (hb.cell hz2).trans q3;have q4r := (hb.cell hz2).trans q4;clear q2 q3 q4
          have hbw := hbw2H.out.trans (hb.mono hbw2H.out.size)
          by_cases hlt : k < n
          · obtain ⟨b, off, hA, _⟩ := hlH.out.2.1 (by omega)
            obtain ⟨s, hx⟩ : ∃ x, l[k]? = some x := ⟨l[k]'(by have := halH.out; omega), List.getElem?_eq_getElem _⟩
            have hsl := hlH.out
            rw [hA] at hsl
            have c0 := cell_Str (hsl.below hbw) hx
            have hos : s.size ≤ maxLen := hsl.2.2 s (List.mem_of_getElem? hx)
            have hos9 : s.size ≤ 9223372036854775807 := hos
            rw [drop_cons hx, prefsErr] at hck
            have hkl2 : k + 1 ≤ l.length := by have := halH.out; omega
            have hpn : prevP l (k + 1) = some s := by rw [prevP, if_neg (by omega), show k + 1 - 1 = k from rfl, hx]
            subst hA
            cases hp : Lib.hasPrefix s.data.toList slsl.data.toList
            · have hbs : prefB s = false := by unfold prefB; rw [hp]; rfl
              have hp1 : Lib.hasPrefix s.data.toList (⟨#[47, 47]⟩ : ByteArray).data.toList = false := hp
              rw [hbs, if_neg (by decide)] at hck
              have hckH := Lib.hid hck
              clear hck
              have hbH := Lib.hid hb
              clear hb
              have hbwH := Lib.hid hbw
              clear hbw
              have hpnH := Lib.hid hpn
              clear hpn
              have hkl2H := Lib.hid hkl2
              clear hkl2
              have hxH := Lib.hid hx
              clear hx
              have hosH := Lib.hid hos
              clear hos
              have hslH := Lib.hid hsl
              clear hsl
              go_wp2_with (go_at_call 85; refine (Tryz.strings_HasPrefix _ _ _).mono ?_; rintro e wz ⟨rfl, hwz⟩; rw [hp1, hwz]; clear hwz; clear wz)
              go_ret
              exact ⟨ret1_int (hXH.out _ hckH.out (by decide)), hbwH.out⟩
            · have hp1 : Lib.hasPrefix s.data.toList (⟨#[47, 47]⟩ : ByteArray).data.toList = true := hp
              by_cases hz : s.size ≤ 1000
              · obtain ⟨q, hq⟩ : ∃ q, plainB s = q := ⟨_, rfl⟩
                have hqr : rowB s = q := by rw [pref_row hp]; exact hq
                have hbs : prefB s = q := by unfold prefB; rw [hp, decide_eq_true hz, hq]; rfl
                rw [hbs] at hck
                clear hbs hp
                have hckH := Lib.hid hck
                clear hck
                have hbH := Lib.hid hb
                clear hb
                have hbwH := Lib.hid hbw
                clear hbw
                have hpnH := Lib.hid hpn
                clear hpn
                have hkl2H := Lib.hid hkl2
                clear hkl2
                have hxH := Lib.hid hx
                clear hx
                have hosH := Lib.hid hos
                clear hos
                have hslH := Lib.hid hsl
                clear hsl
                have hqH := Lib.hid hq
                clear hq
                have hqrH := Lib.hid hqr
                clear hqr
                go_wp2_with (go_at_call 85; refine (Tryz.strings_HasPrefix _ _ _).mono ?_; rintro e wz ⟨rfl, hwz⟩; rw [hp1, hwz]; clear hwz; clear wz)
                refine (plain_b s _ hosH.out q hqH.out).mono ?_
                rintro e w3 ⟨rfl, hw3⟩
                have hb3 := hbH.out.trans (hw3.mono hbH.out.size)
                have hbw3 := hbwH.out.trans (hw3.mono hbwH.out.size)
                replace q2r := (hw3.cell (show w.heap.size < wr.heap.size by omega)).trans q2r
                clear hw3 c0
                have hck := hckH.out
                clear hckH
                cases q
                · rw [if_neg (by decide)] at hck
                  have hckH := Lib.hid hck
                  clear hck
                  have hb3H := Lib.hid hb3
                  clear hb3
                  have hbw3H := Lib.hid hbw3
                  clear hbw3
                  go_wp2
                  go_ret
                  exact ⟨ret1_int (hXH.out _ hckH.out (by decide)), hbw3H.out⟩
                · rw [if_pos rfl] at hck
                  by_cases hk0 : k = 0
                  · subst hk0
                    have R : ∀ nq, PrRel l c3 w2 (.int .i64 1) (w3.drewN nq) := by
                      refine fun nq => ⟨1, hkl2H.out, by go_num, ?_, bel_drewN hb3 nq⟩
                      rw [prevP, if_pos rfl, Option.map_none, if_neg (by decide)] at hck
                      rw [hpnH.out]
                      exact hck
                    clear hck
                    have RH := Lib.hid R
                    clear R
                    have hb3H := Lib.hid hb3
                    clear hb3
                    have hbw3H := Lib.hid hbw3
                    clear hbw3
                    go_wp2
                    refine ⟨?rel, ?measure⟩
                    case measure => (simp [intOf]; omega)
                    case rel => first | exact (RH.out 0) | exact ⟨rfl, (RH.out 0)⟩ | ((try refine ⟨rfl, ?_⟩); (repeat apply Exists.intro); refine ⟨(RH.out 0), ?_⟩; ((repeat' apply And.intro) <;> rfl))
                  · obtain ⟨j, rfl⟩ : ∃ j, k = j + 1 := ⟨k - 1, by omega⟩
                    obtain ⟨y, hy⟩ : ∃ y, l[j]? = some y := ⟨l[j]'(by have := halH.out; omega), List.getElem?_eq_getElem _⟩
                    have d0 := cell_Str (hslH.out.below hbw3) hy
                    have hpr : prevP l (j + 1) = some y := by rw [prevP, if_neg (by omega), show j + 1 - 1 = j from rfl, hy]
                    rw [hpr, Option.map_some] at hck
                    clear hpr
                    cases hle : sle s y
                    · have hle' : (Op.bytesLess s.toList y.toList || s.toList == y.toList) = false := hle
                      rw [hle, if_neg (by decide)] at hck
                      have R : ∀ nq, PrRel l c3 w2 (.int .i64 (j + 1 + 1)) (w3.drewN nq) := by
                        refine fun nq => ⟨j + 1 + 1, hkl2H.out, by go_num, ?_, bel_drewN hb3 nq⟩
                        rw [hpnH.out]
                        exact hck
                      clear hck
                      have hleH := Lib.hid hle
                      clear hle
                      have hyH := Lib.hid hy
                      clear hy
                      have RH := Lib.hid R
                      clear R
                      have hb3H := Lib.hid hb3
                      clear hb3
                      have hbw3H := Lib.hid hbw3
                      clear hbw3
                      go_wp2
                      refine ⟨?rel, ?measure⟩
                      case measure => (simp [intOf]; omega)
                      case rel => first | exact (RH.out 0) | exact ⟨rfl, (RH.out 0)⟩ | ((try refine ⟨rfl, ?_⟩); (repeat apply Exists.intro); refine ⟨(RH.out 0), ?_⟩; ((repeat' apply And.intro) <;> rfl))
                    · have hle' : (Op.bytesLess s.toList y.toList || s.toList == y.toList) = true := hle
                      rw [hle, if_pos rfl] at hck
                      have hleH := Lib.hid hle
                      clear hle
                      have hckH := Lib.hid hck
                      clear hck
                      have hyH := Lib.hid hy
                      clear hy
                      have hb3H := Lib.hid hb3
                      clear hb3
                      have hbw3H := Lib.hid hbw3
                      clear hbw3
                      go_wp2
                      go_ret
                      exact ⟨ret1_int (hXH.out _ hckH.out (by decide)), hbw3H.out⟩
              · have hbs : prefB s = false := by unfold prefB; rw [hp, decide_eq_false hz]; rfl
                have hzd : decide ((s.size : Int) ≤ 1000) = false := decide_eq_false (by omega)
                rw [hbs, if_neg (by decide)] at hck
                have hckH := Lib.hid hck
                clear hck
                have hbH := Lib.hid hb
                clear hb
                have hbwH := Lib.hid hbw
                clear hbw
                have hpnH := Lib.hid hpn
                clear hpn
                have hkl2H := Lib.hid hkl2
                clear hkl2
                have hxH := Lib.hid hx
                clear hx
                have hosH := Lib.hid hos
                clear hos
                have hslH := Lib.hid hsl
                clear hsl
                go_wp2_with (go_at_call 85; refine (Tryz.strings_HasPrefix _ _ _).mono ?_; rintro e wz ⟨rfl, hwz⟩; rw [hp1, hwz]; clear hwz; clear wz)
                go_ret
                exact ⟨ret1_int (hXH.out _ hckH.out (by decide)), hbwH.out⟩
          · have e : l.drop k = [] := List.drop_eq_nil_of_le (by have := halH.out; omega)
            rw [e] at hck
            have hc0 : 0 = c3 := by rw [← hck]; unfold prefsErr; rfl
            clear e hck
            have hF := hFH.out
            clear hFH
            rw [if_pos hc0.symm] at hF
            clear hc0
            by_cases i4 : inR 0 1000000000 fr = true
            · by_cases i5 : inR 0 1000000001 tt = true
              · rw [if_pos ⟨i4, i5⟩] at hF
                by_cases hle : tt ≤ fr
                · rw [if_pos hle] at hF
                  have hFH := Lib.hid hF
                  clear hF
                  have hbH := Lib.hid hb
                  clear hb
                  have hbwH := Lib.hid hbw
                  clear hbw
                  go_wp2_with (go_at_call 20; refine (within_p _ _ _ _).mono ?_; rintro e wz ⟨rfl, rfl⟩)
                  go_ret
                  exact ⟨ret1_int hFH.out, hbwH.out⟩
                · rw [if_neg hle] at hF
                  have hle2 : decide (tt ≤ fr) = false := decide_eq_false hle
                  have hFH := Lib.hid hF
                  clear hF
                  have hbH := Lib.hid hb
                  clear hb
                  have hbwH := Lib.hid hbw
                  clear hbw
                  go_wp2_with (go_at_call 20; refine (within_p _ _ _ _).mono ?_; rintro e wz ⟨rfl, rfl⟩)
                  go_ret
                  exact ⟨ret1_int hFH.out, hbwH.out⟩
              · rw [if_neg (fun h => i5 h.2)] at hF
                have i5 : inR 0 1000000001 tt = false := by simpa using i5
                have hFH := Lib.hid hF
                clear hF
                have hbH := Lib.hid hb
                clear hb
                have hbwH := Lib.hid hbw
                clear hbw
                go_wp2_with (go_at_call 20; refine (within_p _ _ _ _).mono ?_; rintro e wz ⟨rfl, rfl⟩)
                go_ret
                exact ⟨ret1_int hFH.out, hbwH.out⟩
            · rw [if_neg (fun h => i4 h.1)] at hF
              have i4 : inR 0 1000000000 fr = false := by simpa using i4
              have hFH := Lib.hid hF
              clear hF
              have hbH := Lib.hid hb
              clear hb
              have hbwH := Lib.hid hbw
              clear hbw
              go_wp2_with (go_at_call 20; refine (within_p _ _ _ _).mono ?_; rintro e wz ⟨rfl, rfl⟩)
              go_ret
              exact ⟨ret1_int hFH.out, hbwH.out⟩
      · have hpf : prefsF l = 2 := by unfold prefsF; rw [halH.out, if_neg h30]
        rw [hpf, if_neg (by decide)] at hF
        have h30d : decide ((n : Int) ≤ 30) = false := decide_eq_false (by omega)
        clear hpf q3 q4
        have hFH := Lib.hid hF
        clear hF
        go_wp2_with fail
        go_ret
        exact ⟨ret1_int hFH.out, hbw2H.out⟩
end Go.Proofs.YtgegdfmdcmgliaaGreatDoor.C11

namespace Go.Proofs.YtgegdfmdcmgliaaGreatDoor.C11
open Go.RowKit
set_option linter.unusedVariables false

def WrsRel (l : List Writer) (c : Int) (w0 : World) (i : Value) (wr : World) : Prop :=
  ∃ k : Nat, k ≤ l.length ∧ i = .int .i64 k ∧ writersErr (prevWr l k) (l.drop k) = c ∧ Below w0.heap.size w0 wr

-- what lies behind the checks of the writer itself: {0} the world, hbw: Below w.heap.size w {0}

set_option maxHeartbeats 2000000 in
theorem writers_ok (A : Option Addr) (len cap : Nat) (l : List Writer) (w : World) (hlen : len ≤ 50) (hl : SlAt RWriter w A len l) (c : Int) (hF : writersErr none l = c) :
    Calls Tryz.prog 48 #[.slice A len cap] w fun e w' => e = .returned (.int .i64 c) ∧ Below w.heap.size w w' := by
  have hll := hl.1
  have hllH := Lib.hid hll
  clear hll
  have hFH := Lib.hid hF
  clear hF
  have hlH := Lib.hid hl
  clear hl
  go_enter Tryz.func48, Tryz.ntmps48
  go_wp2
  go_loopw [11] (fun i wr => WrsRel l c w i wr) (fun i _ => len - (intOf i).toNat)
  case atStart => exact ⟨0, Nat.zero_le _, rfl, hFH.out, Below.refl _ _⟩
  case round =>
    obtain ⟨k, hk, rfl, hck, hb⟩ := hrel
    have hkl : k ≤ len := by have := hllH.out; omega
    have hbs := hb.size
    by_cases hlt : k < len
    · obtain ⟨b, off, hA, _⟩ := hlH.out.2.1 (by omega)
      subst hA
      obtain ⟨x, hx⟩ : ∃ x, l[k]? = some x := ⟨l[k]'(by have := hllH.out; omega), List.getElem?_eq_getElem _⟩
      obtain ⟨c0, c1, c2, c3, c4⟩ := cells_Writer (hlH.out.below hb) hx
      have hok := hlH.out.2.2 x (List.mem_of_getElem? hx)
      rw [drop_cons hx, writersErr] at hck
      have hkl2 : k + 1 ≤ l.length := by have := hllH.out; omega
      have hpn : prevWr l (k + 1) = some x.name := by rw [prevWr, if_neg (by omega), show k + 1 - 1 = k from rfl, hx]; rfl
      obtain ⟨f, hf⟩ : ∃ f, writerF x = f := ⟨_, rfl⟩
      rw [hf] at hck
      obtain ⟨nm, se, pf, fr, tt⟩ := x
      simp only at c0 c1 c2 c3 c4 hck hpn
      have hba := hb.alloc hbs (.cells #[.string nm, .string se, .slice pf.A pf.n pf.cap, .int .i64 fr, .int .i64 tt] 55)
      have hbas := hba.size
      have hxH := Lib.hid hx
      clear hx
      have hckH := Lib.hid hck
      clear hck
      have hbH := Lib.hid hb
      clear hb
      have hbaH := Lib.hid hba
      clear hba
      have hbasH := Lib.hid hbas
      clear hbas
      have hokH := Lib.hid hok
      clear hok
      have hfH := Lib.hid hf
      clear hf
      have hpnH := Lib.hid hpn
      clear hpn
      have hkl2H := Lib.hid hkl2
      clear hkl2
      go_wp2_with fail
      refine (writer_any ⟨nm, se, pf, fr, tt⟩ _ (RWriter.mono _ _ _ hbaH.out hokH.out) f hfH.out).mono ?_
      rintro e w1 ⟨rfl, hw1⟩
      have q0 : w1.cell? ⟨wr.heap.size, 0, none⟩ = some (.string nm) := (hw1.cell (by simp)).trans (cell_new _ _ _ 0)
      have hbw := hbaH.out.trans (hw1.mono hbasH.out)
      clear c0 c1 c2 c3 c4
      have hw1H := Lib.hid hw1
      clear hw1
      have hbwH := Lib.hid hbw
      clear hbw
      have hck := hckH.out
      clear hckH
      by_cases hf0 : f = 0
      · subst hf0
        rw [if_pos rfl] at hck
        by_cases hk0 : k = 0
        · subst hk0
          have R : ∀ nq, WrsRel l c w (.int .i64 1) (w1.drewN nq) := by
            refine fun nq => ⟨1, hkl2H.out, by go_num, ?_, bel_drewN hbwH.out nq⟩
            rw [prevWr, if_pos rfl, Option.map_none, if_neg (by decide)] at hck
            rw [hpnH.out]
            exact hck
          clear hck
          have RH := Lib.hid R
          clear R
          go_wp2_with fail
          go_quiet (fail)
          go_wp2
          refine ⟨?rel, ?measure⟩
          case measure => (simp [intOf]; omega)
          case rel => first | exact (RH.out _) | exact ⟨rfl, (RH.out _)⟩ | ((try refine ⟨rfl, ?_⟩); (repeat apply Exists.intro); refine ⟨(RH.out _), ?_⟩; ((repeat' apply And.intro) <;> rfl))
        · obtain ⟨j, rfl⟩ : ∃ j, k = j + 1 := ⟨k - 1, by omega⟩
          obtain ⟨y, hy⟩ : ∃ y, l[j]? = some y := ⟨l[j]'(by have := hllH.out; omega), List.getElem?_eq_getElem _⟩
          obtain ⟨d0, _⟩ := cells_Writer (hlH.out.below hbwH.out) hy
          have hpr : prevWr l (j + 1) = some y.name := by rw [prevWr, if_neg (by omega), show j + 1 - 1 = j from rfl, hy]; rfl
          rw [hpr, Option.map_some] at hck
          clear hpr
          obtain ⟨yn, yr⟩ : ∃ yn, y.name = yn := ⟨_, rfl⟩
          rw [yr] at d0 hck
          cases hle : sle nm yn
          · have hle' : (Op.bytesLess nm.toList yn.toList || nm.toList == yn.toList) = false := hle
            rw [hle, if_neg (by decide)] at hck
            have R : ∀ nq, WrsRel l c w (.int .i64 (j + 1 + 1)) (w1.drewN nq) := by
              refine fun nq => ⟨j + 1 + 1, hkl2H.out, by go_num, ?_, bel_drewN hbwH.out nq⟩
              rw [hpnH.out]
              exact hck
            clear hck
            have hleH := Lib.hid hle
            clear hle
            have hyH := Lib.hid hy
            clear hy
            have yrH := Lib.hid yr
            clear yr
            have RH := Lib.hid R
            clear R
            go_wp2_with fail
            go_quiet (fail)
            go_wp2
            refine ⟨?rel, ?measure⟩
            case measure => (simp [intOf]; omega)
            case rel => first | exact (RH.out _) | exact ⟨rfl, (RH.out _)⟩ | ((try refine ⟨rfl, ?_⟩); (repeat apply Exists.intro); refine ⟨(RH.out _), ?_⟩; ((repeat' apply And.intro) <;> rfl))
          · have hle' : (Op.bytesLess nm.toList yn.toList || nm.toList == yn.toList) = true := hle
            rw [hle, if_pos rfl] at hck
            have hleH := Lib.hid hle
            clear hle
            have hckH := Lib.hid hck
            clear hck
            have hyH := Lib.hid hy
            clear hy
            have yrH := Lib.hid yr
            clear yr
            go_wp2_with fail
            go_quiet (fail)
            go_wp2
            go_ret
            exact ⟨ret1_int hckH.out, bel_drewN hbwH.out _⟩
      · rw [if_neg hf0] at hck
        have hf1 : (f != 0) = true := by simpa using hf0
        clear q0
        have hckH := Lib.hid hck
        clear hck
        have hf0H := Lib.hid hf0
        clear hf0
        go_wp2
        go_ret
        exact ⟨ret1_int hckH.out, hbwH.out⟩
    · have e : l.drop k = [] := List.drop_eq_nil_of_le (by have := hllH.out; omega)
      rw [e] at hck
      have hc0 : 0 = c := by rw [← hck]; unfold writersErr; rfl
      have hckH := Lib.hid hck
      clear hck
      have hbH := Lib.hid hb
      clear hb
      have eH := Lib.hid e
      clear e
      have hc0H := Lib.hid hc0
      clear hc0
      go_wp2
      go_ret
      exact ⟨ret1_int hc0H.out, hbH.out⟩
theorem writers_any (A : Option Addr) (len cap : Nat) (l : List Writer) (w : World) (hl : SlAt RWriter w A len l) (c : Int) (hF : writersF l = c) :
    Calls Tryz.prog 48 #[.slice A len cap] w fun e w' => e = .returned (.int .i64 c) ∧ Below w.heap.size w w' := by
  unfold writersF at hF
  rw [hl.1] at hF
  by_cases h : len ≤ 50
  · rw [if_pos h] at hF
    exact writers_ok A len cap l w h hl c hF
  · rw [if_neg h] at hF
    subst hF
    clear hl
    go_enter Tryz.func48, Tryz.ntmps48
    go_wp2
    go_ret
    exact ⟨rfl, Below.refl _ _⟩

end Go.Proofs.YtgegdfmdcmgliaaGreatDoor.C11

namespace Go.Proofs.YtgegdfmdcmgliaaGreatDoor.C11
open Go.RowKit
set_option linter.unusedVariables false

set_option maxHeartbeats 1000000 in
theorem find1_any (x : Writer) (s : ByteArray) (w : World) :
    Calls Tryz.prog 82 #[.agg #[.string x.name, .string x.secret, .slice x.prefixes.A x.prefixes.n x.prefixes.cap, .int .i64 x.from_, .int .i64 x.to_], .string s] w fun e w' => e = .returned (.int .i64 (cmpS x.name s)) ∧ Below w.heap.size w w' := by
  have hba := (Below.refl w.heap.size w).alloc (Nat.le_refl _) (.cells #[.string x.name, .string x.secret, .slice x.prefixes.A x.prefixes.n x.prefixes.cap, .int .i64 x.from_, .int .i64 x.to_] 55)
  have hbaH := Lib.hid hba
  clear hba
  go_enter Tryz.func82, Tryz.ntmps82
  go_wp2_with (go_at_call 83; refine (Tryz.strings_Compare _ _ _).mono ?_; rintro e w1 ⟨rfl, rfl⟩)
  go_ret
  exact ⟨rfl, hbaH.out⟩

theorem split_lt (s : ByteArray) : ∀ (l : List Writer), (l.Pairwise fun a b => cmpS a.name b.name = -1) → ∃ k0, k0 ≤ l.length ∧ (∀ t x, l[t]? = some x → t < k0 → cmpS x.name s = -1) ∧ (∀ t x, l[t]? = some x → k0 ≤ t → cmpS x.name s ≠ -1)
  | [], _ => ⟨0, Nat.le_refl _, fun t x h => by simp at h, fun t x h => by simp at h⟩
  | y :: r, h => by
    rw [List.pairwise_cons] at h
    by_cases hy : cmpS y.name s = -1
    · obtain ⟨k, hk, h1, h2⟩ := split_lt s r h.2
      refine ⟨k + 1, by rw [List.length_cons]; omega, fun t x hx ht => ?_, fun t x hx ht => ?_⟩
      · cases t with
        | zero => simp at hx; subst hx; exact hy
        | succ t => exact h1 t x (by simpa using hx) (by omega)
      · cases t with
        | zero => omega
        | succ t => exact h2 t x (by simpa using hx) (by omega)
    · refine ⟨0, Nat.zero_le _, fun t x _ ht => by omega, fun t x hx _ => ?_⟩
      cases t with
      | zero => simp at hx; subst hx; exact hy
      | succ t =>
        intro hc
        exact hy (cmpS_trans (h.1 x (List.mem_of_getElem? (by simpa using hx))) hc)

def BsRel (k0 n : Nat) (w0 : World) (vi vj : Value) (wr : World) : Prop := ∃ i j : Nat, vi = .int .i64 i ∧ vj = .int .i64 j ∧ i ≤ k0 ∧ k0 ≤ j ∧ j ≤ n ∧ Below w0.heap.size w0 wr

set_option maxHeartbeats 4000000 in
theorem bsf_writer (A : Option Addr) (n c : Nat) (l : List Writer) (s : ByteArray) (w : World) (hn : n ≤ 50) (hl : SlAt RWriter w A n l) (hr : l.Pairwise fun a b => cmpS a.name b.name = -1) :
    Calls Tryz.prog 81 #[.slice A n c, .string s, .func (.func 82) #[] #[]] w fun e w' =>
      ∃ i : Nat, e = .returned (.tuple #[.int .i64 i, .bool (hasName l s)]) ∧ (hasName l s = true → i = ixName l s) ∧ Below w.heap.size w w' := by
  have hll := hl.1
  have eg : ∀ args w, (callFunc 82 args).run Tryz.prog w = .ok (.enter 82 args) w := enters_of Tryz.func82 (by kernel_rfl) rfl
  obtain ⟨k0, hk0, hlo, hhi⟩ := split_lt s l hr
  have hno : (∀ (t : Nat) (x : Writer), l[t]? = some x → x.name ≠ s) → hasName l s = false := fun h => by
    rw [hasName, List.any_eq_false]
    intro x hx
    obtain ⟨t, ht, rfl⟩ := List.getElem_of_mem hx
    simpa using h t _ (List.getElem?_eq_getElem ht)
  obtain ⟨f, hf⟩ : ∃ f, hasName l s = f := ⟨_, rfl⟩
  rw [hf]
  have hlH := Lib.hid hl
  clear hl
  have hllH := Lib.hid hll
  clear hll
  have hrH := Lib.hid hr
  clear hr
  have hloH := Lib.hid hlo
  clear hlo
  have hhiH := Lib.hid hhi
  clear hhi
  have hnoH := Lib.hid hno
  clear hno
  have hfH := Lib.hid hf
  clear hf
  go_enter Tryz.func81, Tryz.ntmps81
  go_wp2
  go_loopw [9, 10] (fun vi vj wr => BsRel k0 n w vi vj wr) (fun vi vj _ => (intOf vj).toNat - (intOf vi).toNat)
  case atStart => exact ⟨0, n, rfl, rfl, Nat.zero_le _, by have := hllH.out; omega, Nat.le_refl _, Below.refl _ _⟩
  case round =>
    obtain ⟨i, j, rfl, rfl, hi, hj, hjn, hb⟩ := hrel
    have hbs := hb.size
    by_cases hlt : i < j
    · obtain ⟨b, off, hA, _⟩ := hlH.out.2.1 (by omega)
      subst hA
      obtain ⟨x, hx⟩ : ∃ x, l[(i + j) / 2]? = some x := ⟨l[(i + j) / 2]'(by have := hllH.out; omega), List.getElem?_eq_getElem _⟩
      obtain ⟨c0, c1, c2, c3, c4⟩ := cells_Writer (hlH.out.below hb) hx
      have e1 : ((i : Int) + (j : Int)) / 2 = (((i + j) / 2 : Nat) : Int) := by omega
      by_cases hc : cmpS x.name s = -1
      · have hneg : (cmpS x.name s < 0) = True := by rw [hc]; decide
        have hik : (i + j) / 2 < k0 := by
          rcases Nat.lt_or_ge ((i + j) / 2) k0 with h | h
          · exact h
          · exact absurd hc (hhiH.out _ x hx h)
        have R : ∀ w', Below wr.heap.size wr w' → BsRel k0 n w (.int .i64 (((i : Int) + (j : Int)) / 2 + 1)) (.int .i64 j) w' := fun w' h => ⟨(i + j) / 2 + 1, j, by rw [e1]; rfl, rfl, by omega, hj, hjn, hb.trans (h.mono hbs)⟩
        obtain ⟨cx, hcx⟩ : ∃ c, cmpS x.name s = c := ⟨_, rfl⟩
        rw [hcx] at hc
        subst hc
        clear hneg
        have hxH := Lib.hid hx
        clear hx
        have hbH := Lib.hid hb
        clear hb
        have e1H := Lib.hid e1
        clear e1
        have RH := Lib.hid R
        clear R
        have hikH := Lib.hid hik
        clear hik
        have hcxH := Lib.hid hcx
        clear hcx
        go_wp2_with (go_at_fn 82; refine (find1_any x s _).mono ?_; rintro e w' ⟨rfl, hb'⟩; rw [hcxH.out]; have hb'H := Lib.hid hb'; clear hb')
        refine ⟨?rel, ?measure⟩
        case measure => simp [intOf]; omega
        case rel => exact RH.out _ hb'H.out
      · have hik : k0 ≤ (i + j) / 2 := by
          rcases Nat.lt_or_ge ((i + j) / 2) k0 with h | h
          · exact absurd (hloH.out _ x hx h) hc
          · exact h
        obtain ⟨cx, hcx⟩ : ∃ c, cmpS x.name s = c := ⟨_, rfl⟩
        have hcr := cmpS_range x.name s
        rw [hcx] at hc hcr
        have hnn : decide (cx < 0) = false := decide_eq_false (by omega)
        have R : ∀ w', Below wr.heap.size wr w' → BsRel k0 n w (.int .i64 i) (.int .i64 (((i : Int) + (j : Int)) / 2)) w' := fun w' h => ⟨i, (i + j) / 2, rfl, by rw [e1], hi, hik, by omega, hb.trans (h.mono hbs)⟩
        clear hcr hc
        have hxH := Lib.hid hx
        clear hx
        have hbH := Lib.hid hb
        clear hb
        have e1H := Lib.hid e1
        clear e1
        have RH := Lib.hid R
        clear R
        have hikH := Lib.hid hik
        clear hik
        have hcxH := Lib.hid hcx
        clear hcx
        go_wp2_with (go_at_fn 82; refine (find1_any x s _).mono ?_; rintro e w' ⟨rfl, hb'⟩; rw [hcxH.out]; have hb'H := Lib.hid hb'; clear hb')
        refine ⟨?rel, ?measure⟩
        case measure => simp [intOf]; omega
        case rel => exact RH.out _ hb'H.out
    · have hij : i = k0 := by omega
      have hjk : j = k0 := by omega
      subst hij
      subst hjk
      by_cases hkn : j < n
      · obtain ⟨b, off, hA, _⟩ := hlH.out.2.1 (by omega)
        subst hA
        obtain ⟨x, hx⟩ : ∃ x, l[j]? = some x := ⟨l[j]'(by have := hllH.out; omega), List.getElem?_eq_getElem _⟩
        obtain ⟨c0, c1, c2, c3, c4⟩ := cells_Writer (hlH.out.below hb) hx
        have hf := hfH.out
        clear hfH
        have hfx : f = decide (x.name = s) ∧ (f = true → j = ixName l s) := by
          by_cases hxs : x.name = s
          · have := ixName_eq hrH.out hx
            rw [hxs] at this
            rw [← hf]
            exact ⟨by rw [this.2, decide_eq_true hxs], fun _ => this.1.symm⟩
          · have h0 : hasName l s = false := hnoH.out fun t y hy hys => by
              rcases Nat.lt_or_ge t j with h | h
              · have := hloH.out t y hy h
                rw [hys, (cmpS_zero _ _).2 rfl] at this; cases this
              · rcases Nat.eq_or_lt_of_le h with h | h
                · subst h; rw [hx] at hy; injection hy with hy; exact hxs (by rw [hy]; exact hys)
                · obtain ⟨h1, e1⟩ := List.getElem?_eq_some_iff.1 hx
                  obtain ⟨h2, e2⟩ := List.getElem?_eq_some_iff.1 hy
                  have := List.pairwise_iff_getElem.1 hrH.out j t h1 h2 h
                  rw [e1, e2, hys] at this
                  exact hhiH.out j x hx (Nat.le_refl _) this
            rw [h0] at hf
            subst hf
            exact ⟨by rw [decide_eq_false hxs], fun h => by cases h⟩
        obtain ⟨cx, hcx⟩ : ∃ c, cmpS x.name s = c := ⟨_, rfl⟩
        have hcf : (cx == 0) = f := by
          rw [hfx.1, ← hcx, Bool.eq_iff_iff, beq_iff_eq, decide_eq_true_iff]
          exact cmpS_zero _ _
        have hfx2 := hfx.2
        clear hfx
        have hxH := Lib.hid hx
        clear hx
        have hbH := Lib.hid hb
        clear hb
        have hfH := Lib.hid hf
        clear hf
        have hcxH := Lib.hid hcx
        clear hcx
        have hfx2H := Lib.hid hfx2
        clear hfx2
        cases f
        all_goals
          go_wp2_with (go_at_fn 82; refine (find1_any x s _).mono ?_; rintro e w' ⟨rfl, hb'⟩; rw [hcxH.out]; have hb'H := Lib.hid hb'; clear hb')
          go_ret2
          first
            | exact ⟨j, rfl, (fun h => hfx2H.out h), hbH.out.trans (hb'H.out.mono hbH.out.size)⟩
            | exact ⟨j, rfl, hfx2H.out trivial, hbH.out.trans (hb'H.out.mono hbH.out.size)⟩
      · have h0 : hasName l s = false := hnoH.out fun t y hy hys => by
          have h1 := (List.getElem?_eq_some_iff.1 hy).1
          have := hloH.out t y hy (by have := hllH.out; omega)
          rw [hys, (cmpS_zero _ _).2 rfl] at this; cases this
        obtain rfl : false = f := by rw [← h0, hfH.out]
        have hbH := Lib.hid hb
        clear hb
        have h0H := Lib.hid h0
        clear h0
        go_wp2_with fail
        go_ret2
        exact ⟨j, rfl, (fun h => nomatch h), hbH.out⟩

def WoRel (l : List Writer) (s : ByteArray) (w0 : World) (i : Value) (wr : World) : Prop := ∃ k : Nat, k ≤ l.length ∧ i = .int .i64 k ∧ (∀ t x, l[t]? = some x → t < k → x.name ≠ s) ∧ Below w0.heap.size w0 wr
/-- the number as the reference gives it -/
def woF (l : List Writer) (s : ByteArray) : Int := if hasName l s = true then ixName l s else -1

end Go.Proofs.YtgegdfmdcmgliaaGreatDoor.C11

namespace Go.Proofs.YtgegdfmdcmgliaaGreatDoor.C11
open Go.RowKit
set_option linter.unusedVariables false

/-- what is asked of the predicate -/
def PredL (g : Nat) (lb : Array Value) (p : ByteArray → Bool) (l : List ByteArray) (w : World) : Prop :=
  ∀ (W : World) (x : ByteArray), x ∈ l → Below w.heap.size w W → Calls Tryz.prog g (#[.string x] ++ lb) W fun e w' => e = .returned (.bool (p x)) ∧ Below W.heap.size W w'
def AnyRel (p : ByteArray → Bool) (l : List ByteArray) (b : Bool) (w0 : World) (i : Value) (wr : World) : Prop := ∃ k : Nat, k ≤ l.length ∧ i = .int .i64 k ∧ (l.drop k).any p = b ∧ Below w0.heap.size w0 wr

set_option maxHeartbeats 2000000 in
theorem indexFunc_any (g : Nat) (lb : Array Value) (eg : ∀ args w, (callFunc g args).run Tryz.prog w = .ok (.enter g args) w) (p : ByteArray → Bool) (A : Option Addr) (n c : Nat) (l : List ByteArray) (w : World)
    (hl : SlAt RStr w A n l) (hn : n ≤ 9223372036854775807) (hp : PredL g lb p l w) (b : Bool) (hb : l.any p = b) :
    Calls Tryz.prog 101 #[.slice A n c, .func (.func g) #[] lb] w fun e w' => ∃ i : Int, e = .returned (.int .i64 i) ∧ (if b = true then 0 ≤ i else i = -1) ∧ Below w.heap.size w w' := by
  have hll := hl.1
  have hlH := Lib.hid hl
  clear hl
  have hbH := Lib.hid hb
  clear hb
  have hpH := Lib.hid hp
  clear hp
  have hllH := Lib.hid hll
  clear hll
  go_enter Tryz.func101, Tryz.ntmps101
  go_wp2
  go_loopw [5, 8] (fun s5 i wr => AnyRel p l b w i wr) (fun _ i _ => n - (intOf i).toNat)
  case atStart => exact ⟨0, Nat.zero_le _, rfl, hbH.out, Below.refl _ _⟩
  case round =>
    obtain ⟨k, hk, rfl, hr, hbw⟩ := hrel
    have hkl : k ≤ n := by have := hllH.out; omega
    by_cases hlt : k < n
    · obtain ⟨b0, off, hA, _⟩ := hlH.out.2.1 (by omega)
      subst hA
      obtain ⟨x, hx⟩ : ∃ x, l[k]? = some x := ⟨l[k]'(by have := hllH.out; omega), List.getElem?_eq_getElem _⟩
      have c0 := cell_Str (hlH.out.below hbw) hx
      have hcall := hpH.out wr x (List.mem_of_getElem? hx) hbw
      rw [drop_cons hx, List.any_cons] at hr
      have hkl2 : k + 1 ≤ l.length := by have := hllH.out; omega
      cases hq : p x
      · rw [hq] at hcall hr
        rw [Bool.false_or] at hr
        have R : ∀ w', Below wr.heap.size wr w' → AnyRel p l b w (.int .i64 (k + 1)) w' := fun w' h => ⟨k + 1, hkl2, by go_num, hr, hbw.trans (h.mono hbw.size)⟩
        clear hr
        have RH := Lib.hid R
        clear R
        have hxH := Lib.hid hx
        clear hx
        have hbwH := Lib.hid hbw
        clear hbw
        have hqH := Lib.hid hq
        clear hq
        have hcallH := Lib.hid hcall
        clear hcall
        go_wp2_with (go_at_fn g; refine hcallH.out.mono ?_; rintro e w' ⟨rfl, hb'⟩; have hb'H := Lib.hid hb'; clear hb')
        refine ⟨?rel, ?measure⟩
        case measure => (simp [intOf]; omega)
        case rel => first | exact (RH.out _ hb'H.out) | exact ⟨rfl, (RH.out _ hb'H.out)⟩ | ((try refine ⟨rfl, ?_⟩); (repeat apply Exists.intro); refine ⟨(RH.out _ hb'H.out), ?_⟩; ((repeat' apply And.intro) <;> rfl))
      · rw [hq] at hcall hr
        rw [Bool.true_or] at hr
        subst hr
        have hxH := Lib.hid hx
        clear hx
        have hbwH := Lib.hid hbw
        clear hbw
        have hqH := Lib.hid hq
        clear hq
        have hcallH := Lib.hid hcall
        clear hcall
        go_wp2_with (go_at_fn g; refine hcallH.out.mono ?_; rintro e w' ⟨rfl, hb'⟩; have hb'H := Lib.hid hb'; clear hb')
        go_ret
        exact ⟨k, rfl, by first | omega | (rw [if_pos rfl]; omega), hbwH.out.trans (hb'H.out.mono hbwH.out.size)⟩
    · have e : l.drop k = [] := List.drop_eq_nil_of_le (by have := hllH.out; omega)
      rw [e] at hr
      subst hr
      have hbwH := Lib.hid hbw
      clear hbw
      have eH := Lib.hid e
      clear e
      go_wp2
      go_ret
      exact ⟨-1, rfl, by simp, hbwH.out⟩

set_option maxHeartbeats 1000000 in
theorem containsFunc_any (g : Nat) (lb : Array Value) (eg : ∀ args w, (callFunc g args).run Tryz.prog w = .ok (.enter g args) w) (p : ByteArray → Bool) (A : Option Addr) (n c : Nat) (l : List ByteArray) (w : World)
    (hl : SlAt RStr w A n l) (hn : n ≤ 9223372036854775807) (hp : PredL g lb p l w) (b : Bool) (hb : l.any p = b) :
    Calls Tryz.prog 65 #[.slice A n c, .func (.func g) #[] lb] w fun e w' => e = .returned (.bool b) ∧ Below w.heap.size w w' := by
  have hlH := Lib.hid hl
  clear hl
  have hbH := Lib.hid hb
  clear hb
  have hpH := Lib.hid hp
  clear hp
  go_enter Tryz.func65, Tryz.ntmps65
  go_wp2_with fail
  refine (indexFunc_any g lb eg p A n c l _ hlH.out hn hpH.out b hbH.out).mono ?_
  rintro e w1 ⟨i, rfl, hi, hw1⟩
  have hw1H := Lib.hid hw1
  clear hw1
  cases b
  · rw [if_neg (by simp)] at hi
    subst hi
    go_wp2
    go_ret
    exact ⟨rfl, hw1H.out⟩
  · rw [if_pos rfl] at hi
    go_wp2
    go_ret
    exact ⟨rfl, hw1H.out⟩
end Go.Proofs.YtgegdfmdcmgliaaGreatDoor.C11

namespace Go.Proofs.YtgegdfmdcmgliaaGreatDoor.C11
open Go.RowKit
set_option linter.unusedVariables false

structure TSt (n bo bm bg pm pg : Nat) (fo : Nat → Bool) (fb fg : ByteArray → Option Bool) (c5 c6 : Nat) (w2 wr : World) : Prop where
  ro : BRow wr bo n fo
  mb : TMap KS valS wr bm fb c5
  mg : TMap KS valS wr bg fg c6
  p1 : wr.cell? ⟨pm, 0, none⟩ = some (.map (some bm))
  p2 : wr.cell? ⟨pg, 0, none⟩ = some (.map (some bg))
  bel : Below w2.heap.size w2 wr
  lo : bo < wr.heap.size
  l1 : pm < wr.heap.size
  l2 : pg < wr.heap.size
structure TNe (K bo bm bg pm pg : Nat) : Prop where
  n1 : bo ≠ bm
  n2 : bo ≠ bg
  n3 : bo ≠ pm
  n4 : bo ≠ pg
  n5 : bm ≠ bg
  n6 : bm ≠ pm
  n7 : bm ≠ pg
  n8 : bg ≠ pm
  n9 : bg ≠ pg
  g1 : K ≤ bo
  g2 : K ≤ bm
  g3 : K ≤ bg
theorem TSt.below {n bo bm bg pm pg : Nat} {fo : Nat → Bool} {fb fg : ByteArray → Option Bool} {c5 c6 : Nat} {w2 wr w' : World} (h : TSt n bo bm bg pm pg fo fb fg c5 c6 w2 wr) (hb : Below wr.heap.size wr w') : TSt n bo bm bg pm pg fo fb fg c5 c6 w2 w' := by
  have h1 := h.lo
  have h2 := h.l1
  have h3 := h.l2
  have hs := hb.size
  exact ⟨h.ro.below hb h1, h.mb.below hb h.mb.lt, h.mg.below hb h.mg.lt, (hb.cell (p := ⟨pm, 0, none⟩) h2).trans h.p1, (hb.cell (p := ⟨pg, 0, none⟩) h3).trans h.p2, h.bel.trans (hb.mono h.bel.size), by omega, by omega, by omega⟩
theorem TSt.putO {n bo bm bg pm pg : Nat} {fo fo' : Nat → Bool} {fb fg : ByteArray → Option Bool} {c5 c6 : Nat} {w2 wr w' : World} (h : TSt n bo bm bg pm pg fo fb fg c5 c6 w2 wr) (e : TNe w2.heap.size bo bm bg pm pg) (hr : BRow w' bo n fo') (hg : wr.grownBy w' (some bo)) : TSt n bo bm bg pm pg fo' fb fg c5 c6 w2 w' := by
  obtain ⟨n1, n2, n3, n4, n5, n6, n7, n8, n9, g1, g2, g3⟩ := e
  have h1 := h.lo
  have h2 := h.l1
  have h3 := h.l2
  have hs := hg.size
  exact ⟨hr, h.mb.kept hg (by simp; omega), h.mg.kept hg (by simp; omega), hg.cell h.p1 (by simp; omega), hg.cell h.p2 (by simp; omega), h.bel.trans (grown_below hg (by omega) h.bel.size), by omega, by omega, by omega⟩
theorem TSt.putB {n bo bm bg pm pg : Nat} {fo : Nat → Bool} {fb fb' fg : ByteArray → Option Bool} {c5 c6 c5' : Nat} {w2 wr w' : World} (h : TSt n bo bm bg pm pg fo fb fg c5 c6 w2 wr) (e : TNe w2.heap.size bo bm bg pm pg) (hr : TMap KS valS w' bm fb' c5') (hg : wr.grownBy w' (some bm)) : TSt n bo bm bg pm pg fo fb' fg c5' c6 w2 w' := by
  obtain ⟨n1, n2, n3, n4, n5, n6, n7, n8, n9, g1, g2, g3⟩ := e
  have h1 := h.lo
  have h2 := h.l1
  have h3 := h.l2
  have hs := hg.size
  exact ⟨h.ro.kept hg (by simp; omega), hr, h.mg.kept hg (by simp; omega), hg.cell h.p1 (by simp; omega), hg.cell h.p2 (by simp; omega), h.bel.trans (grown_below hg (by omega) h.bel.size), by omega, by omega, by omega⟩
theorem TSt.putG {n bo bm bg pm pg : Nat} {fo : Nat → Bool} {fb fg fg' : ByteArray → Option Bool} {c5 c6 c6' : Nat} {w2 wr w' : World} (h : TSt n bo bm bg pm pg fo fb fg c5 c6 w2 wr) (e : TNe w2.heap.size bo bm bg pm pg) (hr : TMap KS valS w' bg fg' c6') (hg : wr.grownBy w' (some bg)) : TSt n bo bm bg pm pg fo fb fg' c5 c6' w2 w' := by
  obtain ⟨n1, n2, n3, n4, n5, n6, n7, n8, n9, g1, g2, g3⟩ := e
  have h1 := h.lo
  have h2 := h.l1
  have h3 := h.l2
  have hs := hg.size
  exact ⟨h.ro.kept hg (by simp; omega), h.mb.kept hg (by simp; omega), hr, hg.cell h.p1 (by simp; omega), hg.cell h.p2 (by simp; omega), h.bel.trans (grown_below hg (by omega) h.bel.size), by omega, by omega, by omega⟩
def TnRel (l : List Claimed) (m : List Audit) (n bo bm bg pm pg : Nat) (w2 : World) (i : Value) (wr : World) : Prop :=
  ∃ k c5 c6 : Nat, k ≤ n ∧ i = .int .i64 k ∧ TSt n bo bm bg pm pg (pre l m k) (setF (badF l m k)) (setF (goodF l m k)) c5 c6 w2 wr ∧ c5 ≤ k ∧ c6 ≤ k

theorem chain5 (w1 : World) (o1 o2 o3 o4 o5 : Obj) :
    (((((w1.alloc o1).alloc o2).alloc o3).alloc o4).alloc o5).heap[w1.heap.size]? = some o1 ∧ (((((w1.alloc o1).alloc o2).alloc o3).alloc o4).alloc o5).heap[w1.heap.size + 1]? = some o2 ∧
    (((((w1.alloc o1).alloc o2).alloc o3).alloc o4).alloc o5).heap[w1.heap.size + 1 + 1]? = some o3 ∧ (((((w1.alloc o1).alloc o2).alloc o3).alloc o4).alloc o5).heap[w1.heap.size + 1 + 1 + 1]? = some o4 ∧
    (((((w1.alloc o1).alloc o2).alloc o3).alloc o4).alloc o5).heap[w1.heap.size + 1 + 1 + 1 + 1]? = some o5 ∧
    (((((w1.alloc o1).alloc o2).alloc o3).alloc o4).alloc o5).heap.size = w1.heap.size + 5 ∧ Below w1.heap.size w1 (((((w1.alloc o1).alloc o2).alloc o3).alloc o4).alloc o5) := by
  have hb : Below w1.heap.size w1 (((((w1.alloc o1).alloc o2).alloc o3).alloc o4).alloc o5) := by
    refine (((((Below.refl _ _).alloc ?_ _).alloc ?_ _).alloc ?_ _).alloc ?_ _).alloc ?_ _ <;> simp <;> omega
  obtain ⟨a1, p1⟩ := MapKept.heap_alloc w1 o1
  obtain ⟨a2, p2⟩ := MapKept.heap_alloc (w1.alloc o1) o2
  obtain ⟨a3, p3⟩ := MapKept.heap_alloc ((w1.alloc o1).alloc o2) o3
  obtain ⟨a4, p4⟩ := MapKept.heap_alloc (((w1.alloc o1).alloc o2).alloc o3) o4
  obtain ⟨a5, p5⟩ := MapKept.heap_alloc ((((w1.alloc o1).alloc o2).alloc o3).alloc o4) o5
  simp only [World.size_alloc] at a2 p2 a3 p3 a4 p4 a5 p5
  refine ⟨?_, ?_, ?_, ?_, a5, ?_, hb⟩
  · exact (p5 _ (by omega)).trans ((p4 _ (by omega)).trans ((p3 _ (by omega)).trans ((p2 _ (by omega)).trans a1)))
  · exact (p5 _ (by omega)).trans ((p4 _ (by omega)).trans ((p3 _ (by omega)).trans a2))
  · exact (p5 _ (by omega)).trans ((p4 _ (by omega)).trans a3)
  · exact (p5 _ (by omega)).trans a4
  · simp only [World.size_alloc]
theorem rel_tru {l : List Claimed} {m : List Audit} {n bo bm bg pm pg k c5 c6 : Nat} {w2 W w7 : World} {x : Claimed} (hne : TNe w2.heap.size bo bm bg pm pg) (hst : TSt n bo bm bg pm pg (pre l m (k + 1)) (setF (badF l m k)) (setF (goodF l m (k + 1))) c5 c6 w2 W) (hv : tStep l m (pre l m k) k = true) (hri : resOf l k = x.result)
    (hlt : k < n) (h5 : c5 ≤ k) (h6 : c6 ≤ k) (hm : TMap KS valS w7 bm (upd (setF (badF l m k)) x.result true) (if (setF (badF l m k) x.result).isSome = true then c5 else c5 + 1)) (hg : W.grownBy w7 (some bm)) : TnRel l m n bo bm bg pm pg w2 (.int .i64 (k + 1)) w7 := by
  refine ⟨k + 1, _, c6, hlt, by go_num, ?_, Nat.le_trans (ite_le_succ ((setF (badF l m k) x.result).isSome = true) c5) (by omega), by omega⟩
  rw [setF_upd] at hm
  have hbs := bad_step hv
  rw [hri] at hbs
  rw [hbs]
  exact hst.putB hne hm hg
theorem rel_fls {l : List Claimed} {m : List Audit} {n bo bm bg pm pg k c5 c6 : Nat} {w2 W w7 : World} {x : Claimed} (hne : TNe w2.heap.size bo bm bg pm pg) (hst : TSt n bo bm bg pm pg (pre l m (k + 1)) (setF (badF l m (k + 1))) (setF (goodF l m k)) c5 c6 w2 W) (hv : tStep l m (pre l m k) k = false) (hri : resOf l k = x.result)
    (hlt : k < n) (h5 : c5 ≤ k) (h6 : c6 ≤ k) (hm : TMap KS valS w7 bg (upd (setF (goodF l m k)) x.result true) (if (setF (goodF l m k) x.result).isSome = true then c6 else c6 + 1)) (hg : W.grownBy w7 (some bg)) : TnRel l m n bo bm bg pm pg w2 (.int .i64 (k + 1)) w7 := by
  refine ⟨k + 1, c5, _, hlt, by go_num, ?_, by omega, Nat.le_trans (ite_le_succ ((setF (goodF l m k) x.result).isSome = true) c6) (by omega)⟩
  rw [setF_upd] at hm
  have hbs := good_step hv
  rw [hri] at hbs
  rw [hbs]
  exact hst.putG hne hm hg
/-- behind the store of what is so of the k-th -/
theorem TSt.sto {l : List Claimed} {m : List Audit} {n bo bm bg pm pg k c5 c6 : Nat} {w2 W : World} {v : Bool} (hst : TSt n bo bm bg pm pg (pre l m k) (setF (badF l m k)) (setF (goodF l m k)) c5 c6 w2 W) (hne : TNe w2.heap.size bo bm bg pm pg) (hv : tStep l m (pre l m k) k = v) :
    TSt n bo bm bg pm pg (pre l m (k + 1)) (setF (badF l m (if v = true then k else k + 1))) (setF (goodF l m (if v = true then k + 1 else k))) c5 c6 w2 (W.setCell ⟨bo, k, none⟩ (.bool v)) := by
  have h := hst.putO hne (hst.ro.set (k := k) v) (grown_setc W ⟨bo, k, none⟩ (.bool v))
  rw [pre_upd, hv]
  cases v
  · rw [if_neg (by decide), if_neg (by decide), bad_keep hv]; exact h
  · rw [if_pos rfl, if_pos rfl, good_keep hv]; exact h

end Go.Proofs.YtgegdfmdcmgliaaGreatDoor.C11

namespace Go.Proofs.YtgegdfmdcmgliaaGreatDoor.C11
open Go.RowKit
set_option linter.unusedVariables false

theorem wrB_app {l : List Claimed} {m : List Audit} {a : Audit} (h : badA l a = false) : wrB l (m ++ [a]) = wrB l m := by
  funext j
  unfold wrB
  rw [List.any_append, List.any_cons, List.any_nil, Bool.or_false, h, Bool.and_false, Bool.or_false]
theorem suB_app {l : List Claimed} {m : List Audit} {a : Audit} (h : badA l a = false) : suB l (m ++ [a]) = suB l m := by
  rw [suB_snoc, if_neg (by rw [h]; decide)]
theorem audB_app {m : List Audit} {a : Audit} {j : Nat} (h : audB m j = true) : audB (m ++ [a]) j = true := by
  unfold audB at h ⊢
  rw [List.any_append, h, Bool.true_or]
theorem endB_congr {l : List Claimed} {m m' : List Audit} (h : wrB l m' = wrB l m) : ∀ k s, endB l m' k s = endB l m k s
  | 0, s => rfl
  | k + 1, s => by
    show (endB l m' k s || (wrB l m' k && decide (wriOf l k = s))) = (endB l m k s || (wrB l m k && decide (wriOf l k = s)))
    rw [endB_congr h k s, h]
theorem rgt_mono {l : List Claimed} {m m' : List Audit} (hw : wrB l m' = wrB l m) (ha : ∀ j, audB m j = true → audB m' j = true) : ∀ k s, rgt l m k s ≤ rgt l m' k s
  | 0, s => Int.le_refl _
  | k + 1, s => by
    show (if (!wrB l m k && (audB m k && !endB l m k (wriOf l k)) && decide (wriOf l k = s)) = true then (k : Int) else rgt l m k s) ≤ (if (!wrB l m' k && (audB m' k && !endB l m' k (wriOf l k)) && decide (wriOf l k = s)) = true then (k : Int) else rgt l m' k s)
    rw [hw, endB_congr hw]
    have r1 := rgt_range l m k s
    have r2 := rgt_mono hw ha k s
    have h := ha k
    by_cases hc : (!wrB l m k && (audB m k && !endB l m k (wriOf l k)) && decide (wriOf l k = s)) = true
    · have hc' : (!wrB l m k && (audB m' k && !endB l m k (wriOf l k)) && decide (wriOf l k = s)) = true := by
        simp only [Bool.and_eq_true] at hc ⊢
        exact ⟨⟨hc.1.1, h hc.1.2.1, hc.1.2.2⟩, hc.2⟩
      rw [if_pos hc, if_pos hc']
      exact Int.le_refl _
    · rw [if_neg hc]
      split <;> omega
theorem anyB_mono {l : List Claimed} {f g : Nat → Bool} : ∀ (k : Nat) (u : ByteArray), (∀ j, j < k → f j = true → g j = true) → anyB l f k u = true → anyB l g k u = true
  | 0, u, _, h => h
  | k + 1, u, hf, h => by
    have h : (anyB l f k u || (f k && decide (resOf l k = u))) = true := h
    show (anyB l g k u || (g k && decide (resOf l k = u))) = true
    rw [Bool.or_eq_true, Bool.and_eq_true] at h ⊢
    rcases h with h | h
    · exact .inl (anyB_mono k u (fun j hj => hf j (by omega)) h)
    · exact .inr ⟨hf k (by omega) h.1, h.2⟩
theorem tStep_mono {l : List Claimed} {m m' : List Audit} (hw : wrB l m' = wrB l m) (hs : suB l m' = suB l m) (ha : ∀ j, audB m j = true → audB m' j = true) {f f' : Nat → Bool} {k : Nat} (hf : ∀ j, j < k → f' j = true → f j = true)
    (h : tStep l m' f' k = true) : tStep l m f k = true := by
  unfold tStep at h ⊢
  rw [Bool.or_eq_true, Bool.or_eq_true] at h ⊢
  rw [hw, hs] at h
  rcases h with (h | h) | h
  · exact .inl (.inl h)
  · refine .inl (.inr ?_)
    simp only [Bool.and_eq_true, Bool.not_eq_true', decide_eq_true_iff] at h ⊢
    have hr := rgt_mono hw ha l.length (wriOf l k)
    refine ⟨⟨h.1.1, ?_⟩, by omega⟩
    cases e : audB m k
    · rfl
    · have := ha k e
      rw [h.1.2] at this
      cases this
  · refine .inr ?_
    rw [List.any_eq_true] at h ⊢
    obtain ⟨u, hu, h⟩ := h
    refine ⟨u, hu, ?_⟩
    simp only [Bool.and_eq_true, Bool.not_eq_true'] at h ⊢
    refine ⟨anyB_mono k u hf h.1, ?_⟩
    cases e : anyB l (fun j => !f j) k u
    · rfl
    · have := anyB_mono (g := fun j => !f' j) k u (fun j hj hj2 => by
        cases e2 : f' j
        · rfl
        · have := hf j hj e2
          simp [this] at hj2) e
      rw [h.2] at this
      cases this
theorem tntB_mono {l : List Claimed} {m m' : List Audit} (hw : wrB l m' = wrB l m) (hs : suB l m' = suB l m) (ha : ∀ j, audB m j = true → audB m' j = true) : ∀ k, k < l.length → tntB l m' k = true → tntB l m k = true := by
  intro k
  induction k using Nat.strongRecOn with
  | _ k ih =>
    intro hk h
    rw [tntB_eq l m' k hk] at h
    rw [tntB_eq l m k hk]
    exact tStep_mono hw hs ha (fun j hj => ih j hj (by omega)) h
/-- the further audit taints nothing more -/
theorem tntB_right {l : List Claimed} {m : List Audit} {a : Audit} (h : badA l a = false) {k : Nat} (hk : k < l.length) (ht : tntB l (m ++ [a]) k = true) : tntB l m k = true :=
  tntB_mono (wrB_app h) (suB_app h) (fun j hj => audB_app hj) k hk ht
theorem nums_right {l : List Claimed} {m : List Audit} {a : Audit} (h : badA l a = false) {z : Int} (hz : z ∈ numsN (tntB l (m ++ [a])) l.length) : z ∈ numsN (tntB l m) l.length := by
  obtain ⟨i, h1, h2, h3⟩ := numsN_mem.1 hz
  exact numsN_mem.2 ⟨i, h1, tntB_right h h1 h2, h3⟩
/-- its own faults: only too many audits -/
theorem auditsErr_snoc {l : List Claimed} {a : Audit} : ∀ (m : List Audit) (p : Option Int), auditsErr l p m = 0 → auditF l (if m = [] then p else (m.getLast?).map (·.at_)) a = 0 → auditsErr l p (m ++ [a]) = 0
  | [], p, _, h => by
    show (if auditF l p a = 0 then auditsErr l (some a.at_) [] else auditF l p a) = 0
    rw [if_pos rfl] at h
    rw [if_pos h]; rfl
  | b :: r, p, h1, h => by
    rw [auditsErr] at h1
    show (if auditF l p b = 0 then auditsErr l (some b.at_) (r ++ [a]) else auditF l p b) = 0
    by_cases hb : auditF l p b = 0
    · rw [if_pos hb] at h1 ⊢
      refine auditsErr_snoc r _ h1 ?_
      rw [if_neg (by simp)] at h
      by_cases hr : r = []
      · subst hr; exact h
      · rw [if_neg hr]
        rw [List.getLast?_cons] at h
        rw [List.getLast?_eq_some_getLast hr] at h ⊢
        exact h
    · rw [if_neg hb] at h1; exact absurd h1 hb
/-- the greatest moment -/
def maxAt (b : Int) : List Audit → Int
  | [] => b
  | a :: r => maxAt (max b a.at_) r
theorem maxAt_snoc : ∀ (m : List Audit) (b : Int) (a : Audit), maxAt b (m ++ [a]) = max (maxAt b m) a.at_
  | [], b, a => rfl
  | c :: r, b, a => maxAt_snoc r _ a
theorem maxAt_ge : ∀ (m : List Audit) (b : Int), b ≤ maxAt b m
  | [], b => Int.le_refl _
  | c :: r, b => by
    have := maxAt_ge r (max b c.at_)
    show b ≤ maxAt (max b c.at_) r
    omega
theorem maxAt_mem : ∀ (m : List Audit) (b : Int), ∀ a ∈ m, a.at_ ≤ maxAt b m
  | c :: r, b, a, h => by
    rcases List.mem_cons.1 h with rfl | h
    · have := maxAt_ge r (max b a.at_)
      show a.at_ ≤ maxAt (max b a.at_) r
      omega
    · exact maxAt_mem r _ a h
theorem maxAt_le : ∀ (m : List Audit) (b C : Int), b ≤ C → (∀ a ∈ m, a.at_ ≤ C) → maxAt b m ≤ C
  | [], b, C, h, _ => h
  | c :: r, b, C, h, hm => by
    have := hm c List.mem_cons_self
    exact maxAt_le r _ C (by omega) (fun a ha => hm a (List.mem_cons_of_mem _ ha))
theorem audits_right {l : List Claimed} {m : List Audit} {k : Nat} {x : Claimed} (h : auditsF l m = 0) (hx : l[k]? = some x) :
    auditsF l (m ++ [⟨(k : Int), x.result, maxAt x.at_ m⟩]) = if m.length + 1 ≤ 1000 then 0 else 2 := by
  obtain ⟨h1, h2, h3⟩ := auditsF_zero h
  obtain ⟨_, h5⟩ := logF_zero h1
  obtain ⟨hc, _⟩ := logErr_each l none h5 x (List.mem_of_getElem? hx)
  have hk := (List.getElem?_eq_some_iff.1 hx).1
  have hdig : digB x.result = true := by
    unfold claimedF at hc
    by_cases g1 : digB x.key = true
    · rw [if_pos g1] at hc
      by_cases g2 : labelL x.label.data.toList = true
      · rw [if_pos g2] at hc
        by_cases g3 : digB x.result = true
        · exact g3
        · rw [if_neg g3] at hc; cases hc
      · rw [if_neg g2] at hc; cases hc
    · rw [if_neg g1] at hc; cases hc
  have hok := claimed_ok hc
  have heach := auditsErr_each l m none h3
  have hmx : maxAt x.at_ m ≤ 1000000000 := maxAt_le m _ _ hok.at1 (fun a ha => (heach a ha).2.2.2)
  have hge := maxAt_ge m x.at_
  have hat : atOf l (k : Int) = x.at_ := by rw [atOf, show (k : Int).toNat = k from rfl, hx]
  unfold auditsF
  rw [if_pos h1, List.length_append, List.length_singleton]
  by_cases hl : m.length + 1 ≤ 1000
  · rw [if_pos hl, if_pos hl]
    refine auditsErr_snoc m none h3 ?_
    unfold auditF
    simp only
    rw [if_pos (inR_of ⟨by omega, by omega⟩), if_pos hdig, hat, if_pos (inR_of ⟨hge, hmx⟩), if_neg]
    by_cases hm : m = []
    · rw [if_pos hm]; simp
    · rw [if_neg hm, List.getLast?_eq_some_getLast hm]
      simp only [Option.map_some, Option.some.injEq, decide_eq_true_iff]
      have := maxAt_mem m x.at_ _ (List.getLast_mem hm)
      omega
  · rw [if_neg hl, if_neg hl]
theorem badA_right {l : List Claimed} {k : Nat} {x : Claimed} (hx : l[k]? = some x) (t : Int) : badA l ⟨(k : Int), x.result, t⟩ = false := by
  unfold badA
  simp only
  rw [resOf_get hx]
  simp
/-- what Tainted hands back -/
def taintR (l : List Claimed) (m : List Audit) : List Int × Int := if auditsF l m = 0 then (numsN (tntB l m) l.length, 0) else ([], auditsF l m)
end Go.Proofs.YtgegdfmdcmgliaaGreatDoor.C11

namespace Go.Proofs.YtgegdfmdcmgliaaGreatDoor.C11
open Go.RowKit
set_option linter.unusedVariables false

theorem audits_range {l : List Claimed} {m : List Audit} (h : auditsF l m = 0) : l.length ≤ 1000 ∧ m.length ≤ 1000 ∧ ∀ a ∈ m, 0 ≤ a.number ∧ a.number < l.length := by
  obtain ⟨h1, h2, h3⟩ := auditsF_zero h
  exact ⟨(logF_zero h1).1, h2, fun a ha => (auditsErr_each l m none h3 a ha).1⟩
/-- what a function of a log and audits hands back that gives numbers -/
def NumsAns (L : List Int) (c : Int) (w0 : World) (e : Ending) (w' : World) : Prop :=
  ∃ (A : Option Addr) (n cap : Nat), e = .returned (.tuple #[.slice A n cap, .int .i64 c]) ∧ SlAt RInt w' A n L ∧ n ≤ 1000 ∧ Below w0.heap.size w0 w'
theorem slAt_nilI (w : World) : SlAt RInt w none 0 [] := ⟨rfl, fun h => by omega, fun x hx => by cases hx⟩

end Go.Proofs.YtgegdfmdcmgliaaGreatDoor.C11

namespace Go.Proofs.YtgegdfmdcmgliaaGreatDoor.C11
open Go.RowKit
set_option linter.unusedVariables false

structure At7 (b : Nat) (v0 v1 v2 v3 v4 v5 v6 : Value) (W : World) : Prop where
  c0 : W.cell? ⟨b, 0, none⟩ = some v0
  c1 : W.cell? ⟨b, 1, none⟩ = some v1
  c2 : W.cell? ⟨b, 2, none⟩ = some v2
  c3 : W.cell? ⟨b, 3, none⟩ = some v3
  c4 : W.cell? ⟨b, 4, none⟩ = some v4
  c5 : W.cell? ⟨b, 5, none⟩ = some v5
  c6 : W.cell? ⟨b, 6, none⟩ = some v6
  f0 : W.frozen? ⟨b, 0, none⟩ = false
  f1 : W.frozen? ⟨b, 1, none⟩ = false
  f2 : W.frozen? ⟨b, 2, none⟩ = false
  f3 : W.frozen? ⟨b, 3, none⟩ = false
  f4 : W.frozen? ⟨b, 4, none⟩ = false
  f5 : W.frozen? ⟨b, 5, none⟩ = false
  f6 : W.frozen? ⟨b, 6, none⟩ = false
section
variable {b : Nat} {v0 v1 v2 v3 v4 v5 v6 : Value} {W w' : World}
theorem At7.lt (h : At7 b v0 v1 v2 v3 v4 v5 v6 W) : b < W.heap.size := cell?_lt h.c0
theorem At7.new (w : World) (v0 v1 v2 v3 v4 v5 v6 : Value) (T : TypeId) : At7 w.heap.size v0 v1 v2 v3 v4 v5 v6 (w.alloc (.cells #[v0, v1, v2, v3, v4, v5, v6] T)) := by
  constructor <;> simp [go_sem]
theorem At7.belowK {K : Nat} (h : At7 b v0 v1 v2 v3 v4 v5 v6 W) (hb : Below K W w') (hlt : b < K) : At7 b v0 v1 v2 v3 v4 v5 v6 w' :=
  ⟨(hb.cell hlt).trans h.c0, (hb.cell hlt).trans h.c1, (hb.cell hlt).trans h.c2, (hb.cell hlt).trans h.c3, (hb.cell hlt).trans h.c4, (hb.cell hlt).trans h.c5, (hb.cell hlt).trans h.c6, (hb.frozen hlt).trans h.f0, (hb.frozen hlt).trans h.f1, (hb.frozen hlt).trans h.f2, (hb.frozen hlt).trans h.f3, (hb.frozen hlt).trans h.f4, (hb.frozen hlt).trans h.f5, (hb.frozen hlt).trans h.f6⟩
theorem At7.below (h : At7 b v0 v1 v2 v3 v4 v5 v6 W) (hb : Below W.heap.size W w') : At7 b v0 v1 v2 v3 v4 v5 v6 w' := h.belowK hb h.lt
theorem At7.alloc (h : At7 b v0 v1 v2 v3 v4 v5 v6 W) (o : Obj) : At7 b v0 v1 v2 v3 v4 v5 v6 (W.alloc o) := h.below ((Below.refl _ _).alloc (Nat.le_refl _) o)
theorem At7.other (h : At7 b v0 v1 v2 v3 v4 v5 v6 W) (a : Addr) (u : Value) (ha : a.block ≠ b) : At7 b v0 v1 v2 v3 v4 v5 v6 (W.setCell a u) := by
  have o : ∀ j, (W.setCell a u).cell? ⟨b, j, none⟩ = W.cell? ⟨b, j, none⟩ := fun j => World.cell?_setCell_other _ _ _ _ (by intro e; exact absurd (congrArg Addr.block e) (by simpa using ha))
  exact ⟨(o 0).trans h.c0, (o 1).trans h.c1, (o 2).trans h.c2, (o 3).trans h.c3, (o 4).trans h.c4, (o 5).trans h.c5, (o 6).trans h.c6, by rw [World.frozen?_setCell]; exact h.f0, by rw [World.frozen?_setCell]; exact h.f1, by rw [World.frozen?_setCell]; exact h.f2, by rw [World.frozen?_setCell]; exact h.f3, by rw [World.frozen?_setCell]; exact h.f4, by rw [World.frozen?_setCell]; exact h.f5, by rw [World.frozen?_setCell]; exact h.f6⟩
theorem At7.set0 (h : At7 b v0 v1 v2 v3 v4 v5 v6 W) (u : Value) : At7 b u v1 v2 v3 v4 v5 v6 (W.setCell ⟨b, 0, none⟩ u) :=
  ⟨World.cell?_setCell_same' _ _ _ (by rw [h.c0]; rfl), (World.cell?_setCell_other _ _ _ _ (by simp)).trans h.c1, (World.cell?_setCell_other _ _ _ _ (by simp)).trans h.c2, (World.cell?_setCell_other _ _ _ _ (by simp)).trans h.c3, (World.cell?_setCell_other _ _ _ _ (by simp)).trans h.c4, (World.cell?_setCell_other _ _ _ _ (by simp)).trans h.c5, (World.cell?_setCell_other _ _ _ _ (by simp)).trans h.c6, by rw [World.frozen?_setCell]; exact h.f0, by rw [World.frozen?_setCell]; exact h.f1, by rw [World.frozen?_setCell]; exact h.f2, by rw [World.frozen?_setCell]; exact h.f3, by rw [World.frozen?_setCell]; exact h.f4, by rw [World.frozen?_setCell]; exact h.f5, by rw [World.frozen?_setCell]; exact h.f6⟩
theorem At7.set1 (h : At7 b v0 v1 v2 v3 v4 v5 v6 W) (u : Value) : At7 b v0 u v2 v3 v4 v5 v6 (W.setCell ⟨b, 1, none⟩ u) :=
  ⟨(World.cell?_setCell_other _ _ _ _ (by simp)).trans h.c0, World.cell?_setCell_same' _ _ _ (by rw [h.c1]; rfl), (World.cell?_setCell_other _ _ _ _ (by simp)).trans h.c2, (World.cell?_setCell_other _ _ _ _ (by simp)).trans h.c3, (World.cell?_setCell_other _ _ _ _ (by simp)).trans h.c4, (World.cell?_setCell_other _ _ _ _ (by simp)).trans h.c5, (World.cell?_setCell_other _ _ _ _ (by simp)).trans h.c6, by rw [World.frozen?_setCell]; exact h.f0, by rw [World.frozen?_setCell]; exact h.f1, by rw [World.frozen?_setCell]; exact h.f2, by rw [World.frozen?_setCell]; exact h.f3, by rw [World.frozen?_setCell]; exact h.f4, by rw [World.frozen?_setCell]; exact h.f5, by rw [World.frozen?_setCell]; exact h.f6⟩
theorem At7.set2 (h : At7 b v0 v1 v2 v3 v4 v5 v6 W) (u : Value) : At7 b v0 v1 u v3 v4 v5 v6 (W.setCell ⟨b, 2, none⟩ u) :=
  ⟨(World.cell?_setCell_other _ _ _ _ (by simp)).trans h.c0, (World.cell?_setCell_other _ _ _ _ (by simp)).trans h.c1, World.cell?_setCell_same' _ _ _ (by rw [h.c2]; rfl), (World.cell?_setCell_other _ _ _ _ (by simp)).trans h.c3, (World.cell?_setCell_other _ _ _ _ (by simp)).trans h.c4, (World.cell?_setCell_other _ _ _ _ (by simp)).trans h.c5, (World.cell?_setCell_other _ _ _ _ (by simp)).trans h.c6, by rw [World.frozen?_setCell]; exact h.f0, by rw [World.frozen?_setCell]; exact h.f1, by rw [World.frozen?_setCell]; exact h.f2, by rw [World.frozen?_setCell]; exact h.f3, by rw [World.frozen?_setCell]; exact h.f4, by rw [World.frozen?_setCell]; exact h.f5, by rw [World.frozen?_setCell]; exact h.f6⟩
theorem At7.set3 (h : At7 b v0 v1 v2 v3 v4 v5 v6 W) (u : Value) : At7 b v0 v1 v2 u v4 v5 v6 (W.setCell ⟨b, 3, none⟩ u) :=
  ⟨(World.cell?_setCell_other _ _ _ _ (by simp)).trans h.c0, (World.cell?_setCell_other _ _ _ _ (by simp)).trans h.c1, (World.cell?_setCell_other _ _ _ _ (by simp)).trans h.c2, World.cell?_setCell_same' _ _ _ (by rw [h.c3]; rfl), (World.cell?_setCell_other _ _ _ _ (by simp)).trans h.c4, (World.cell?_setCell_other _ _ _ _ (by simp)).trans h.c5, (World.cell?_setCell_other _ _ _ _ (by simp)).trans h.c6, by rw [World.frozen?_setCell]; exact h.f0, by rw [World.frozen?_setCell]; exact h.f1, by rw [World.frozen?_setCell]; exact h.f2, by rw [World.frozen?_setCell]; exact h.f3, by rw [World.frozen?_setCell]; exact h.f4, by rw [World.frozen?_setCell]; exact h.f5, by rw [World.frozen?_setCell]; exact h.f6⟩
theorem At7.set4 (h : At7 b v0 v1 v2 v3 v4 v5 v6 W) (u : Value) : At7 b v0 v1 v2 v3 u v5 v6 (W.setCell ⟨b, 4, none⟩ u) :=
  ⟨(World.cell?_setCell_other _ _ _ _ (by simp)).trans h.c0, (World.cell?_setCell_other _ _ _ _ (by simp)).trans h.c1, (World.cell?_setCell_other _ _ _ _ (by simp)).trans h.c2, (World.cell?_setCell_other _ _ _ _ (by simp)).trans h.c3, World.cell?_setCell_same' _ _ _ (by rw [h.c4]; rfl), (World.cell?_setCell_other _ _ _ _ (by simp)).trans h.c5, (World.cell?_setCell_other _ _ _ _ (by simp)).trans h.c6, by rw [World.frozen?_setCell]; exact h.f0, by rw [World.frozen?_setCell]; exact h.f1, by rw [World.frozen?_setCell]; exact h.f2, by rw [World.frozen?_setCell]; exact h.f3, by rw [World.frozen?_setCell]; exact h.f4, by rw [World.frozen?_setCell]; exact h.f5, by rw [World.frozen?_setCell]; exact h.f6⟩
theorem At7.set5 (h : At7 b v0 v1 v2 v3 v4 v5 v6 W) (u : Value) : At7 b v0 v1 v2 v3 v4 u v6 (W.setCell ⟨b, 5, none⟩ u) :=
  ⟨(World.cell?_setCell_other _ _ _ _ (by simp)).trans h.c0, (World.cell?_setCell_other _ _ _ _ (by simp)).trans h.c1, (World.cell?_setCell_other _ _ _ _ (by simp)).trans h.c2, (World.cell?_setCell_other _ _ _ _ (by simp)).trans h.c3, (World.cell?_setCell_other _ _ _ _ (by simp)).trans h.c4, World.cell?_setCell_same' _ _ _ (by rw [h.c5]; rfl), (World.cell?_setCell_other _ _ _ _ (by simp)).trans h.c6, by rw [World.frozen?_setCell]; exact h.f0, by rw [World.frozen?_setCell]; exact h.f1, by rw [World.frozen?_setCell]; exact h.f2, by rw [World.frozen?_setCell]; exact h.f3, by rw [World.frozen?_setCell]; exact h.f4, by rw [World.frozen?_setCell]; exact h.f5, by rw [World.frozen?_setCell]; exact h.f6⟩
theorem At7.set6 (h : At7 b v0 v1 v2 v3 v4 v5 v6 W) (u : Value) : At7 b v0 v1 v2 v3 v4 v5 u (W.setCell ⟨b, 6, none⟩ u) :=
  ⟨(World.cell?_setCell_other _ _ _ _ (by simp)).trans h.c0, (World.cell?_setCell_other _ _ _ _ (by simp)).trans h.c1, (World.cell?_setCell_other _ _ _ _ (by simp)).trans h.c2, (World.cell?_setCell_other _ _ _ _ (by simp)).trans h.c3, (World.cell?_setCell_other _ _ _ _ (by simp)).trans h.c4, (World.cell?_setCell_other _ _ _ _ (by simp)).trans h.c5, World.cell?_setCell_same' _ _ _ (by rw [h.c6]; rfl), by rw [World.frozen?_setCell]; exact h.f0, by rw [World.frozen?_setCell]; exact h.f1, by rw [World.frozen?_setCell]; exact h.f2, by rw [World.frozen?_setCell]; exact h.f3, by rw [World.frozen?_setCell]; exact h.f4, by rw [World.frozen?_setCell]; exact h.f5, by rw [World.frozen?_setCell]; exact h.f6⟩
theorem At7.all (h : At7 b v0 v1 v2 v3 v4 v5 v6 W) (u0 u1 u2 u3 u4 u5 u6 : Value) : At7 b u0 u1 u2 u3 u4 u5 u6 (((((((W.setCell ⟨b, 0, none⟩ u0).setCell ⟨b, 1, none⟩ u1).setCell ⟨b, 2, none⟩ u2).setCell ⟨b, 3, none⟩ u3).setCell ⟨b, 4, none⟩ u4).setCell ⟨b, 5, none⟩ u5).setCell ⟨b, 6, none⟩ u6) :=
  ((((((h.set0 u0).set1 u1).set2 u2).set3 u3).set4 u4).set5 u5).set6 u6
end
theorem below_set7 {K b : Nat} {w W : World} {u0 u1 u2 u3 u4 u5 u6 : Value} (hb : Below K w W) (hB : K ≤ b) : Below K w (((((((W.setCell ⟨b, 0, none⟩ u0).setCell ⟨b, 1, none⟩ u1).setCell ⟨b, 2, none⟩ u2).setCell ⟨b, 3, none⟩ u3).setCell ⟨b, 4, none⟩ u4).setCell ⟨b, 5, none⟩ u5).setCell ⟨b, 6, none⟩ u6) := (((((((hb.setCell hB _).setCell hB _).setCell hB _).setCell hB _).setCell hB _).setCell hB _).setCell hB _)
end Go.Proofs.YtgegdfmdcmgliaaGreatDoor.C11

namespace Go.Proofs.YtgegdfmdcmgliaaGreatDoor.C11
open Go.RowKit
set_option linter.unusedVariables false

def duN (l : List Claimed) (m : List Audit) (every round : Int) (k : Nat) : Nat → Bool := fun j => if j < k then dueB l m every round j else false
theorem duN_step (l : List Claimed) (m : List Audit) (every round : Int) (k : Nat) : duN l m every round (k + 1) = fun j => if j = k then dueB l m every round k else duN l m every round k j := by
  funext j
  unfold duN
  by_cases h : j = k
  · subst h; rw [if_pos (by omega), if_pos rfl]
  · rw [if_neg h]
    by_cases h2 : j < k
    · rw [if_pos h2, if_pos (by omega)]
    · rw [if_neg h2, if_neg (by omega)]
theorem duN_all (l : List Claimed) (m : List Audit) (every round : Int) (n : Nat) : numsN (duN l m every round n) n = numsN (dueB l m every round) n :=
  numsN_congr n fun j hj => by unfold duN; rw [if_pos hj]
def DuRel (l : List Claimed) (m : List Audit) (every round : Int) (n b : Nat) (w3 : World) (i : Value) (wr : World) : Prop :=
  ∃ k : Nat, k ≤ n ∧ i = .int .i64 k ∧ BRow wr b n (duN l m every round k) ∧ Below w3.heap.size w3 wr ∧ b < wr.heap.size
theorem DuRel.put {l : List Claimed} {m : List Audit} {every round : Int} {n k b : Nat} {w3 W W' : World} {v : Bool} (hlt : k < n) (hw : w3.heap.size ≤ b) (hro : BRow W b n (duN l m every round k)) (hb : Below w3.heap.size w3 W) (hlo : b < W.heap.size) (hv : dueB l m every round k = v) (hW : W' = W.setCell ⟨b, k, none⟩ (.bool v)) :
    DuRel l m every round n b w3 (.int .i64 (k + 1)) W' := by
  subst hW
  refine ⟨k + 1, hlt, by go_num, ?_, hb.trans (grown_below (grown_setc W ⟨b, k, none⟩ (.bool v)) hw (by omega)), by simpa using hlo⟩
  rw [duN_step, hv]
  exact hro.set (k := k) v

set_option maxRecDepth 100000 in
set_option maxHeartbeats 8000000 in
theorem Due_any (A : Option Addr) (n c : Nat) (l : List Claimed) (B : Option Addr) (mn mc : Nat) (m : List Audit) (every round : Int) (w : World) (hm : MaxLenAt w) (ht : PowTab w) (hl : SlAt RClaimed w A n l) (hma : SlAt RAudit w B mn m) (he : I64 every) (hr : I64 round) (L : List Int) (cc : Int) (hF : dueR l m every round = (L, cc)) :
    Calls Tryz.prog 7 #[.slice A n c, .slice B mn mc, .int .i64 every, .int .i64 round] w (NumsAns L cc w) := by
  unfold dueR dueF at hF
  obtain ⟨d, hd⟩ : ∃ d, auditsF l m = d := ⟨_, rfl⟩
  rw [hd] at hF
  have hmH := Lib.hid hm
  clear hm
  have hlH := Lib.hid hl
  clear hl
  have hmaH := Lib.hid hma
  clear hma
  have hdH := Lib.hid hd
  clear hd
  have htH := Lib.hid ht
  clear ht
  have hrH := Lib.hid hr
  clear hr
  go_enter Tryz.func7, Tryz.ntmps7
  go_wp2_with fail
  refine (audits_any A n c l B mn mc m _ hmH.out hlH.out hmaH.out d hdH.out).mono ?_
  rintro e w1 ⟨rfl, hb1⟩
  have hb1H := Lib.hid hb1
  clear hb1
  by_cases e0 : d = 0
  · subst e0
    rw [if_pos rfl] at hF
    cases hev : inR 1 1000000 every
    · obtain ⟨rfl, rfl⟩ : [] = L ∧ 1 = cc := by simpa [hev] using hF
      clear hF
      go_wp2_with (go_at_call 20; refine (within_p _ _ _ _).mono ?_; rintro e wz ⟨rfl, rfl⟩)
      go_ret2
      exact ⟨none, 0, 0, rfl, slAt_nilI _, by omega, hb1H.out⟩
    · cases hro : inR 0 1000000000 round
      · obtain ⟨rfl, rfl⟩ : [] = L ∧ 1 = cc := by simpa [hev, hro] using hF
        clear hF
        go_wp2_with (go_at_call 20; refine (within_p _ _ _ _).mono ?_; rintro e wz ⟨rfl, rfl⟩)
        go_ret2
        exact ⟨none, 0, 0, rfl, slAt_nilI _, by omega, hb1H.out⟩
      · obtain ⟨hL, rfl⟩ : numsN (dueB l m every round) l.length = L ∧ 0 = cc := by simpa [hev, hro] using hF
        have hevr := inR_true hev
        obtain ⟨h1, h2, h3⟩ := audits_range hdH.out
        have hkz : ∀ x ∈ l, x.key.size ≤ 16 := fun x hx => by
          have := (claimed_ok (logErr_each l none (logF_zero (auditsF_zero hdH.out).1).2 x hx).1).key
          omega
        have hll := hlH.out.1
        have hml := hmaH.out.1
        have hn : n ≤ 1000 := by omega
        have hmn : mn ≤ 1000 := by omega
        have h4 : ∀ a ∈ m, 0 ≤ a.number ∧ a.number < n := fun a ha => by have := h3 a ha; omega
        have hmkB := run_makeB n (by omega)
        clear h1 h2 h3 hml hF
        have hLH := Lib.hid hL
        clear hL
        have hllH := Lib.hid hll
        clear hll
        have h4H := Lib.hid h4
        clear h4
        have hevrH := Lib.hid hevr
        clear hevr
        have hkzH := Lib.hid hkz
        clear hkz
        go_wp2_with (first | (go_at_call 20; refine (within_p _ _ _ _).mono ?_; rintro e wz ⟨rfl, rfl⟩) | fail)
        refine (facts_any A n c l B mn mc m _ hn hmn (hlH.out.below hb1H.out) (hmaH.out.below hb1H.out) h4H.out).mono ?_
        rintro e w2 ⟨b1, b2, b3, c3, rfl, hf, hb2⟩
        have hbb := hb1H.out.trans (hb2.mono hb1H.out.size)
        clear hb2
        obtain ⟨w3, hw3⟩ : ∃ W, W = w2.alloc (.cells #[.slice (some ⟨b1, 0, none⟩) n n, .slice (some ⟨b2, 0, none⟩) n n, .map (some b3)] 47) := ⟨_, rfl⟩
        have hw3s : w3.heap.size = w2.heap.size + 1 := by rw [hw3]; simp
        have hf3 : FactsOk l m n b1 b2 b3 c3 w3 := by rw [hw3]; exact hf.below ((Below.refl w2.heap.size w2).alloc (Nat.le_refl _) _) (Nat.le_refl _)
        have hb3 : Below w.heap.size w w3 := by rw [hw3]; exact hbb.alloc hbb.size _
        have e0 : w3.cell? ⟨w2.heap.size, 0, none⟩ = some (.slice (some ⟨b1, 0, none⟩) n n) := by rw [hw3]; exact cell_new w2 _ _ 0
        have e2 : w3.cell? ⟨w2.heap.size, 2, none⟩ = some (.map (some b3)) := by rw [hw3]; exact cell_new w2 _ _ 2
        clear hf hbb
        have hf3H := Lib.hid hf3
        clear hf3
        have hb3H := Lib.hid hb3
        clear hb3
        have hw3H := Lib.hid hw3
        clear hw3
        go_wp2_with fail
        rw [← hw3H.out]
        clear hw3H
        have hw3sH := Lib.hid hw3s
        clear hw3s
        have e0H := Lib.hid e0
        clear e0
        have e2H := Lib.hid e2
        clear e2
        go_loopw [37] (fun i wr => DuRel l m every round n (w2.heap.size + 1) w3 i wr) (fun i _ => n - (intOf i).toNat)
        case atStart =>
          refine ⟨0, Nat.zero_le _, rfl, ?_, (Below.refl _ _).alloc (Nat.le_refl _) _, by have := hw3sH.out; simp; omega⟩
          have := BRow.made w3 n
          rw [hw3sH.out] at this
          have e : duN l m every round 0 = fun _ => false := by funext j; unfold duN; rw [if_neg (by omega)]
          rw [e]; exact this
        case round =>
          obtain ⟨k, hk, rfl, hrow, hb, hlo⟩ := hrel
          by_cases hlt : k < n
          · obtain ⟨b, off, hA, _⟩ := hlH.out.2.1 (by omega)
            subst hA
            obtain ⟨x, hx⟩ : ∃ x, l[k]? = some x := ⟨l[k]'(by have := hllH.out; omega), List.getElem?_eq_getElem _⟩
            have hbr : Below w.heap.size w wr := hb3H.out.trans (hb.mono hb3H.out.size)
            obtain ⟨d0, d1, d2, d3, d4, d5, d6⟩ := cells_Claimed (hlH.out.below hbr) hx
            have hxok := hlH.out.2.2 x (List.mem_of_getElem? hx)
            have hwz : x.writer.size ≤ maxLen := hxok.2.2.2.1
            have hkz := hkzH.out x (List.mem_of_getElem? hx)
            have hwi := wriOf_get hx
            have hky := keyOf_get hx
            have hal := (Below.refl wr.heap.size wr).alloc (Nat.le_refl _) (.cells #[.string x.key, .string x.label, .string x.result, .string x.writer, .int .i64 x.at_, .slice x.uses.A x.uses.n x.uses.cap, .string x.sign] 51)
            have hrowa := hrow.below hal hlo
            have hf := (hf3H.out.below hb (Nat.le_refl _)).below hal (Nat.le_refl _)
            obtain ⟨ga, _⟩ := hf.ra k hlt
            have g0 := (hb.cell (p := ⟨w2.heap.size, 0, none⟩) (by show w2.heap.size < w3.heap.size; have := hw3sH.out; omega)).trans e0H.out
            have g2 := (hb.cell (p := ⟨w2.heap.size, 2, none⟩) (by show w2.heap.size < w3.heap.size; have := hw3sH.out; omega)).trans e2H.out
            replace g0 := (hal.cell (p := ⟨w2.heap.size, 0, none⟩) (by show w2.heap.size < wr.heap.size; have := hw3sH.out; omega)).trans g0
            replace g2 := (hal.cell (p := ⟨w2.heap.size, 2, none⟩) (by show w2.heap.size < wr.heap.size; have := hw3sH.out; omega)).trans g2
            have hba := hb.trans (hal.mono hb.size)
            have hloa : w2.heap.size + 1 < (wr.alloc (.cells #[.string x.key, .string x.label, .string x.result, .string x.writer, .int .i64 x.at_, .slice x.uses.A x.uses.n x.uses.cap, .string x.sign] 51)).heap.size := by simp; omega
            obtain ⟨p2, z2⟩ := hrowa k hlt
            have hpt := fun (v : Bool) (hv : dueB l m every round k = v) => DuRel.put (v := v) hlt (by have := hw3sH.out; omega) hrowa hba hloa hv rfl
            have hI : I64 (k : Int) := ⟨by omega, by omega⟩
            obtain ⟨vk, hvk⟩ : ∃ v, dueB l m every round k = v := ⟨_, rfl⟩
            have hvk2 := hvk
            unfold dueB at hvk2
            rw [hwi, hky] at hvk2
            have hhe := hevrH.out
            have hm3 := htH.out.below (hbr.trans (hal.mono hbr.size))
            cases haB : audB m k
            · rw [haB] at ga hvk2
              cases hsB : suB l m x.writer
              · rw [hsB, Bool.not_false, Bool.true_and, Bool.false_or] at hvk2
                have lk := lookS hf.mp x.writer hwz false hsB
                obtain ⟨g, hg⟩ : ∃ g, lotF round k x.key every = g := ⟨_, rfl⟩
                rw [hg] at hvk2
                have hgi : I64 g := by
                  rw [← hg]; unfold lotF
                  have h1 := Int.emod_nonneg (lotN round k x.key : Int) (by omega : every ≠ 0)
                  have h2 := Int.emod_lt_of_pos (lotN round k x.key : Int) (by omega : 0 < every)
                  exact ⟨by omega, by omega⟩
                clear hpt hf hxok p2 z2
                have hxH := Lib.hid hx
                clear hx
                have hbrH := Lib.hid hbr
                clear hbr
                have halH := Lib.hid hal
                clear hal
                have hrowH := Lib.hid hrow
                clear hrow
                have hrowaH := Lib.hid hrowa
                clear hrowa
                have hbH := Lib.hid hb
                clear hb
                have hbaH := Lib.hid hba
                clear hba
                have hwzH := Lib.hid hwz
                clear hwz
                have hkzH := Lib.hid hkz
                clear hkz
                have hwiH := Lib.hid hwi
                clear hwi
                have hkyH := Lib.hid hky
                clear hky
                have hgH := Lib.hid hg
                clear hg
                have hm3H := Lib.hid hm3
                clear hm3
                have hIH := Lib.hid hI
                clear hI
                have hheH := Lib.hid hhe
                clear hhe
                have hloaH := Lib.hid hloa
                clear hloa
                have hvkH := Lib.hid hvk
                clear hvk
                have hloH := Lib.hid hlo
                clear hlo
                go_wp2_with fail
                refine (lot_any round k every x.key _ hm3H.out hrH.out hIH.out hkzH.out hheH.out.1 hheH.out.2 g hgH.out).mono ?_
                rintro e w5 ⟨rfl, hb5⟩
                have hrow5 := hrowaH.out.below hb5 hloaH.out
                have hb35 := hbaH.out.trans (hb5.mono hbaH.out.size)
                have hs5 := hb5.size
                have hlo5 : w2.heap.size + 1 < w5.heap.size := Nat.lt_of_lt_of_le hloaH.out hs5
                obtain ⟨p2, z2⟩ := hrow5 k hlt
                have R := DuRel.put (v := vk) hlt (by have := hw3sH.out; omega) hrow5 hb35 hlo5 hvkH.out rfl
                clear hb5 hs5 hb35 hlo5 hrow5
                by_cases h0 : g = 0
                · obtain rfl : true = vk := by rw [← hvk2, decide_eq_true h0]
                  subst h0
                  have RH := Lib.hid R
                  clear R
                  go_wp2
                  refine ⟨?rel, ?measure⟩
                  case measure => (simp [intOf]; omega)
                  case rel => first | exact RH.out | exact ⟨rfl, RH.out⟩ | ((try refine ⟨rfl, ?_⟩); (repeat apply Exists.intro); refine ⟨RH.out, ?_⟩; ((repeat' apply And.intro) <;> rfl))
                · obtain rfl : false = vk := by rw [← hvk2, decide_eq_false h0]
                  have h0b : (g == 0) = false := by simpa using h0
                  have RH := Lib.hid R
                  clear R
                  go_wp2
                  refine ⟨?rel, ?measure⟩
                  case measure => (simp [intOf]; omega)
                  case rel => first | exact RH.out | exact ⟨rfl, RH.out⟩ | ((try refine ⟨rfl, ?_⟩); (repeat apply Exists.intro); refine ⟨RH.out, ?_⟩; ((repeat' apply And.intro) <;> rfl))
              · have lk := lookS hf.mp x.writer hwz true hsB
                obtain rfl : true = vk := by rw [← hvk2, hsB]; rfl
                have R := hpt true hvk
                clear hpt hf hxok hvk hvk2 hm3
                have hxH := Lib.hid hx
                clear hx
                have hbrH := Lib.hid hbr
                clear hbr
                have halH := Lib.hid hal
                clear hal
                have hrowH := Lib.hid hrow
                clear hrow
                have hrowaH := Lib.hid hrowa
                clear hrowa
                have hbH := Lib.hid hb
                clear hb
                have hbaH := Lib.hid hba
                clear hba
                have hwzH := Lib.hid hwz
                clear hwz
                have hkzH := Lib.hid hkz
                clear hkz
                have hwiH := Lib.hid hwi
                clear hwi
                have hkyH := Lib.hid hky
                clear hky
                have RH := Lib.hid R
                clear R
                have hheH := Lib.hid hhe
                clear hhe
                have hloaH := Lib.hid hloa
                clear hloa
                have hloH := Lib.hid hlo
                clear hlo
                go_wp2
                refine ⟨?rel, ?measure⟩
                case measure => (simp [intOf]; omega)
                case rel => first | exact RH.out | exact ⟨rfl, RH.out⟩ | ((try refine ⟨rfl, ?_⟩); (repeat apply Exists.intro); refine ⟨RH.out, ?_⟩; ((repeat' apply And.intro) <;> rfl))
            · rw [haB] at ga hvk2
              obtain rfl : false = vk := hvk2
              have R := hpt false hvk
              clear hpt hf hxok hvk hm3
              have hxH := Lib.hid hx
              clear hx
              have hbrH := Lib.hid hbr
              clear hbr
              have halH := Lib.hid hal
              clear hal
              have hrowH := Lib.hid hrow
              clear hrow
              have hrowaH := Lib.hid hrowa
              clear hrowa
              have hbH := Lib.hid hb
              clear hb
              have hbaH := Lib.hid hba
              clear hba
              have hwzH := Lib.hid hwz
              clear hwz
              have hkzH := Lib.hid hkz
              clear hkz
              have hwiH := Lib.hid hwi
              clear hwi
              have hkyH := Lib.hid hky
              clear hky
              have RH := Lib.hid R
              clear R
              have hheH := Lib.hid hhe
              clear hhe
              have hloaH := Lib.hid hloa
              clear hloa
              have hloH := Lib.hid hlo
              clear hlo
              go_wp2
              refine ⟨?rel, ?measure⟩
              case measure => (simp [intOf]; omega)
              case rel => first | exact RH.out | exact ⟨rfl, RH.out⟩ | ((try refine ⟨rfl, ?_⟩); (repeat apply Exists.intro); refine ⟨RH.out, ?_⟩; ((repeat' apply And.intro) <;> rfl))
          · obtain rfl : k = n := by omega
            have hbr : Below w.heap.size w wr := hb3H.out.trans (hb.mono hb3H.out.size)
            have hbH := Lib.hid hb
            clear hb
            have hbrH := Lib.hid hbr
            clear hbr
            have hrowH := Lib.hid hrow
            clear hrow
            go_wp2_with fail
            refine (numbers_any (w2.heap.size + 1) k k (duN l m every round k) _ hn hrowH.out).mono ?_
            rintro e w5 ⟨A5, k5, c5, rfl, hown, hk5, hb5⟩
            have hb6 := hbrH.out.trans (hb5.mono hbrH.out.size)
            have hsl := hown.slAt
            rw [duN_all, ← hllH.out, hLH.out] at hsl
            clear hown hb5
            have hslH := Lib.hid hsl
            clear hsl
            have hb6H := Lib.hid hb6
            clear hb6
            go_wp2
            go_ret2
            exact ⟨A5, k5, c5, rfl, hslH.out, by omega, hb6H.out⟩
  · obtain ⟨rfl, rfl⟩ : [] = L ∧ d = cc := by simpa [e0] using hF
    have e1 : (d != 0) = true := by simpa using e0
    clear e0 hF
    go_wp2
    go_ret2
    exact ⟨none, 0, 0, rfl, slAt_nilI _, by omega, hb1H.out⟩
end Go.Proofs.YtgegdfmdcmgliaaGreatDoor.C11

namespace Go.Proofs.YtgegdfmdcmgliaaGreatDoor.C11
open Go.RowKit
set_option linter.unusedVariables false

theorem res5 {w wr : World} {v0 v1 v2 v3 v4 : Value} {T : TypeId} (hb : Below (w.alloc (.cells #[v0, v1, v2, v3, v4] T)).heap.size (w.alloc (.cells #[v0, v1, v2, v3, v4] T)) wr) :
    (wr.cell? ⟨w.heap.size, 0, none⟩ = some v0 ∧ wr.cell? ⟨w.heap.size, 1, none⟩ = some v1 ∧ wr.cell? ⟨w.heap.size, 2, none⟩ = some v2 ∧ wr.cell? ⟨w.heap.size, 3, none⟩ = some v3 ∧ wr.cell? ⟨w.heap.size, 4, none⟩ = some v4) ∧
    (wr.frozen? ⟨w.heap.size, 0, none⟩ = false ∧ wr.frozen? ⟨w.heap.size, 1, none⟩ = false ∧ wr.frozen? ⟨w.heap.size, 2, none⟩ = false ∧ wr.frozen? ⟨w.heap.size, 3, none⟩ = false ∧ wr.frozen? ⟨w.heap.size, 4, none⟩ = false) := by
  have hf : ∀ j, wr.frozen? ⟨w.heap.size, j, none⟩ = false := fun j => (hb.frozen (by simp)).trans (by simp only [World.frozen?, (MapKept.heap_alloc w (.cells #[v0, v1, v2, v3, v4] T)).1]; simp)
  exact ⟨⟨(hb.cell (by simp)).trans (by simp [go_sem]), (hb.cell (by simp)).trans (by simp [go_sem]), (hb.cell (by simp)).trans (by simp [go_sem]), (hb.cell (by simp)).trans (by simp [go_sem]), (hb.cell (by simp)).trans (by simp [go_sem])⟩, hf 0, hf 1, hf 2, hf 3, hf 4⟩

theorem five_set {w : World} {b : Nat} {u0 u1 u2 u3 u4 : Value} (v0 v1 v2 v3 v4 : Value) (h : w.cell? ⟨b, 0, none⟩ = some u0 ∧ w.cell? ⟨b, 1, none⟩ = some u1 ∧ w.cell? ⟨b, 2, none⟩ = some u2 ∧ w.cell? ⟨b, 3, none⟩ = some u3 ∧ w.cell? ⟨b, 4, none⟩ = some u4) :
    (((((w.setCell ⟨b, 0, none⟩ v0).setCell ⟨b, 1, none⟩ v1).setCell ⟨b, 2, none⟩ v2).setCell ⟨b, 3, none⟩ v3).setCell ⟨b, 4, none⟩ v4).cell? ⟨b, 0, none⟩ = some v0 ∧
    (((((w.setCell ⟨b, 0, none⟩ v0).setCell ⟨b, 1, none⟩ v1).setCell ⟨b, 2, none⟩ v2).setCell ⟨b, 3, none⟩ v3).setCell ⟨b, 4, none⟩ v4).cell? ⟨b, 1, none⟩ = some v1 ∧
    (((((w.setCell ⟨b, 0, none⟩ v0).setCell ⟨b, 1, none⟩ v1).setCell ⟨b, 2, none⟩ v2).setCell ⟨b, 3, none⟩ v3).setCell ⟨b, 4, none⟩ v4).cell? ⟨b, 2, none⟩ = some v2 ∧
    (((((w.setCell ⟨b, 0, none⟩ v0).setCell ⟨b, 1, none⟩ v1).setCell ⟨b, 2, none⟩ v2).setCell ⟨b, 3, none⟩ v3).setCell ⟨b, 4, none⟩ v4).cell? ⟨b, 3, none⟩ = some v3 ∧
    (((((w.setCell ⟨b, 0, none⟩ v0).setCell ⟨b, 1, none⟩ v1).setCell ⟨b, 2, none⟩ v2).setCell ⟨b, 3, none⟩ v3).setCell ⟨b, 4, none⟩ v4).cell? ⟨b, 4, none⟩ = some v4 := by
  obtain ⟨h0, h1, h2, h3, h4⟩ := h
  have o : ∀ (W : World) (i j : Nat) (v : Value), i ≠ j → (W.setCell ⟨b, i, none⟩ v).cell? ⟨b, j, none⟩ = W.cell? ⟨b, j, none⟩ := fun W i j v hij => World.cell?_setCell_other _ _ _ _ (by simp)
  have s : ∀ (W : World) (i : Nat) (v u : Value), W.cell? ⟨b, i, none⟩ = some u → (W.setCell ⟨b, i, none⟩ v).cell? ⟨b, i, none⟩ = some v := fun W i v u hu => World.cell?_setCell_same' _ _ _ (by rw [hu]; rfl)
  refine ⟨?_, ?_, ?_, ?_, ?_⟩
  · rw [o _ 4 0 _ (by omega), o _ 3 0 _ (by omega), o _ 2 0 _ (by omega), o _ 1 0 _ (by omega)]; exact s _ 0 _ u0 h0
  · rw [o _ 4 1 _ (by omega), o _ 3 1 _ (by omega), o _ 2 1 _ (by omega)]; exact s _ 1 _ u1 (by rw [o _ 0 1 _ (by omega)]; exact h1)
  · rw [o _ 4 2 _ (by omega), o _ 3 2 _ (by omega)]; exact s _ 2 _ u2 (by rw [o _ 1 2 _ (by omega), o _ 0 2 _ (by omega)]; exact h2)
  · rw [o _ 4 3 _ (by omega)]; exact s _ 3 _ u3 (by rw [o _ 2 3 _ (by omega), o _ 1 3 _ (by omega), o _ 0 3 _ (by omega)]; exact h3)
  · exact s _ 4 _ u4 (by rw [o _ 3 4 _ (by omega), o _ 2 4 _ (by omega), o _ 1 4 _ (by omega), o _ 0 4 _ (by omega)]; exact h4)

def zwr : Writer := ⟨⟨#[]⟩, ⟨#[]⟩, ⟨none, 0, 0, []⟩, 0, 0⟩
def wrV (x : Writer) : Value := .agg #[.string x.name, .string x.secret, .slice x.prefixes.A x.prefixes.n x.prefixes.cap, .int .i64 x.from_, .int .i64 x.to_]
def FindAns (l : List Writer) (s : ByteArray) (w0 : World) (e : Ending) (w' : World) : Prop :=
  ∃ x : Writer, e = .returned (.tuple #[.agg #[.string x.name, .string x.secret, .slice x.prefixes.A x.prefixes.n x.prefixes.cap, .int .i64 x.from_, .int .i64 x.to_], .bool (hasName l s)]) ∧ (hasName l s = true → l[ixName l s]? = some x) ∧ Below w0.heap.size w0 w'

set_option maxHeartbeats 2000000 in
theorem find_any (A : Option Addr) (n c : Nat) (l : List Writer) (s : ByteArray) (w : World) (hn : n ≤ 50) (hl : SlAt RWriter w A n l) (hr : l.Pairwise fun a b => cmpS a.name b.name = -1) :
    Calls Tryz.prog 51 #[.slice A n c, .string s] w (FindAns l s w) := by
  have hba := (Below.refl w.heap.size w).alloc (Nat.le_refl _) (.cells #[.string ⟨#[]⟩, .string ⟨#[]⟩, .slice none 0 0, .int .i64 0, .int .i64 0] 55)
  have hll := hl.1
  have hlH := Lib.hid hl
  clear hl
  have hrH := Lib.hid hr
  clear hr
  have hbaH := Lib.hid hba
  clear hba
  have hllH := Lib.hid hll
  clear hll
  go_enter Tryz.func51, Tryz.ntmps51
  go_wp2_with fail
  refine (bsf_writer A n c l s _ hn (hlH.out.below hbaH.out) hrH.out).mono ?_
  rintro e w1 ⟨i, rfl, hi, hw1⟩
  obtain ⟨q, f0, f1, f2, f3, f4⟩ := res5 hw1
  have hbr := hbaH.out.trans (hw1.mono hbaH.out.size)
  obtain ⟨h, hh⟩ : ∃ h, hasName l s = h := ⟨_, rfl⟩
  rw [hh] at hi ⊢
  cases h
  · obtain ⟨d0, d1, d2, d3, d4⟩ := five_set (.string ⟨#[]⟩) (.string ⟨#[]⟩) (.slice none 0 0) (.int .i64 0) (.int .i64 0) q
    obtain ⟨q0, q1, q2, q3, q4⟩ := q
    clear hi
    have hbrH := Lib.hid hbr
    clear hbr
    have hw1H := Lib.hid hw1
    clear hw1
    have hhH := Lib.hid hh
    clear hh
    go_wp2
    exact bodyPost_ret (v := .tuple #[.agg #[.string ⟨#[]⟩, .string ⟨#[]⟩, .slice none 0 0, .int .i64 0, .int .i64 0], .bool false]) (by simp [results, Tryz.results51, go_sem, d0, d1, d2, d3, d4]) rfl ⟨zwr, by rw [hhH.out]; rfl, fun h => (by rw [hhH.out] at h; cases h), (((((hbrH.out).setCell (Nat.le_refl _) _).setCell (Nat.le_refl _) _).setCell (Nat.le_refl _) _).setCell (Nat.le_refl _) _).setCell (Nat.le_refl _) _⟩
  · obtain rfl : i = ixName l s := hi rfl
    obtain ⟨x, hx, hxs⟩ := ixName_get hh
    have hlt := ixName_lt hh
    obtain ⟨k, hk⟩ : ∃ k, ixName l s = k := ⟨_, rfl⟩
    rw [hk] at hx hlt ⊢
    have hln := hllH.out
    obtain ⟨b, off, hA, _⟩ := hlH.out.2.1 (by omega)
    subst hA
    obtain ⟨c0, c1, c2, c3, c4⟩ := cells_Writer (hlH.out.below hbr) hx
    obtain ⟨d0, d1, d2, d3, d4⟩ := five_set (.string x.name) (.string x.secret) (.slice x.prefixes.A x.prefixes.n x.prefixes.cap) (.int .i64 x.from_) (.int .i64 x.to_) q
    obtain ⟨q0, q1, q2, q3, q4⟩ := q
    have hkn : k < n := by omega
    clear hi hln hlt
    have hbrH := Lib.hid hbr
    clear hbr
    have hw1H := Lib.hid hw1
    clear hw1
    have hhH := Lib.hid hh
    clear hh
    have hxH := Lib.hid hx
    clear hx
    have hxsH := Lib.hid hxs
    clear hxs
    have hkH := Lib.hid hk
    clear hk
    go_wp2
    exact bodyPost_ret (v := .tuple #[.agg #[.string x.name, .string x.secret, .slice x.prefixes.A x.prefixes.n x.prefixes.cap, .int .i64 x.from_, .int .i64 x.to_], .bool true]) (by simp [results, Tryz.results51, go_sem, d0, d1, d2, d3, d4]) rfl ⟨x, by rw [hhH.out], fun _ => (by rw [hkH.out]; exact hxH.out), (((((hbrH.out).setCell (Nat.le_refl _) _).setCell (Nat.le_refl _) _).setCell (Nat.le_refl _) _).setCell (Nat.le_refl _) _).setCell (Nat.le_refl _) _⟩
end Go.Proofs.YtgegdfmdcmgliaaGreatDoor.C11

namespace Go.Proofs.YtgegdfmdcmgliaaGreatDoor.C11
open Go.RowKit
set_option linter.unusedVariables false

theorem mayfn_any (label p : ByteArray) (w : World) (a : Addr) (ha : w.cell? a = some (.string label)) :
    Calls Tryz.prog 84 #[.string p, .pointer (some a)] w fun e w' => e = .returned (.bool (Lib.hasPrefix label.data.toList p.data.toList)) ∧ Below w.heap.size w w' := by
  go_enter Tryz.func84, Tryz.ntmps84
  go_wp2_with (go_at_call 85; refine (Tryz.strings_HasPrefix _ _ _).mono ?_; rintro e wz ⟨rfl, hwz⟩; rw [hwz]; clear hwz; clear wz)
  go_ret
  exact ⟨rfl, Below.refl _ _⟩

set_option maxHeartbeats 2000000 in
theorem may_any (x : Writer) (label : ByteArray) (at_ : Int) (w : World) (hok : RWriter.ok w x) (b : Bool) (hb : mayB x label at_ = b) :
    Calls Tryz.prog 52 #[.agg #[.string x.name, .string x.secret, .slice x.prefixes.A x.prefixes.n x.prefixes.cap, .int .i64 x.from_, .int .i64 x.to_], .string label, .int .i64 at_] w fun e w' =>
      e = .returned (.bool b) ∧ Below w.heap.size w w' := by
  obtain ⟨nm, se, ⟨A, n, cap, l⟩, fr, tt⟩ := x
  obtain ⟨o0, o1, o2, o3, o4⟩ := hok
  simp only at o0 o1 o2 o3 o4 ⊢
  unfold mayB at hb
  simp only at hb
  have han9 : n ≤ 9223372036854775807 := Nat.le_trans o2.2.1 o2.2.2.1
  have hl : SlAt RStr w A n l := o2.1
  have hba := ((Below.refl w.heap.size w).alloc (Nat.le_refl _) (.cells #[.string nm, .string se, .slice A n cap, .int .i64 fr, .int .i64 tt] 55)).alloc (by simp) (.cells #[.string label] 9)
  have hcell : ((w.alloc (.cells #[.string nm, .string se, .slice A n cap, .int .i64 fr, .int .i64 tt] 55)).alloc (.cells #[.string label] 9)).cell? ⟨w.heap.size + 1, 0, none⟩ = some (.string label) := by simp [go_sem]
  obtain ⟨r, hr⟩ : ∃ r, l.any (fun p => Lib.hasPrefix label.data.toList p.data.toList) = r := ⟨_, rfl⟩
  rw [hr] at hb
  by_cases h1 : fr ≤ at_
  · by_cases h2 : at_ < tt
    · rw [decide_eq_true h1, decide_eq_true h2] at hb
      have hb : r = b := hb
      subst hb
      have hlH := Lib.hid hl
      clear hl
      have hbaH := Lib.hid hba
      clear hba
      have o0H := Lib.hid o0
      clear o0
      have o1H := Lib.hid o1
      clear o1
      have o2H := Lib.hid o2
      clear o2
      have o3H := Lib.hid o3
      clear o3
      have o4H := Lib.hid o4
      clear o4
      have hrH := Lib.hid hr
      clear hr
      have hcellH := Lib.hid hcell
      clear hcell
      go_enter Tryz.func52, Tryz.ntmps52
      go_wp2_with fail
      refine (containsFunc_any 84 #[.pointer (some ⟨w.heap.size + 1, 0, none⟩)] (enters_of Tryz.func84 (by kernel_rfl) rfl) (fun p => Lib.hasPrefix label.data.toList p.data.toList) A n cap l _ (hlH.out.below hbaH.out) han9 (fun W p _ hW => mayfn_any label p W _ ((hW.cell (by simp)).trans hcellH.out)) r hrH.out).mono ?_
      rintro e w1 ⟨rfl, hw1⟩
      have hbr := hbaH.out.trans (hw1.mono hbaH.out.size)
      have hbrH := Lib.hid hbr
      clear hbr
      have hw1H := Lib.hid hw1
      clear hw1
      go_wp2
      go_ret
      exact ⟨rfl, hbrH.out⟩
    · have h2d : decide (at_ < tt) = false := decide_eq_false h2
      rw [h2d, Bool.and_false, Bool.false_and] at hb
      subst hb
      have hlH := Lib.hid hl
      clear hl
      have hbaH := Lib.hid hba
      clear hba
      have o0H := Lib.hid o0
      clear o0
      have o1H := Lib.hid o1
      clear o1
      have o2H := Lib.hid o2
      clear o2
      have o3H := Lib.hid o3
      clear o3
      have o4H := Lib.hid o4
      clear o4
      have hrH := Lib.hid hr
      clear hr
      have hcellH := Lib.hid hcell
      clear hcell
      go_enter Tryz.func52, Tryz.ntmps52
      go_wp2_with fail
      go_ret
      exact ⟨rfl, hbaH.out⟩
  · have h1d : decide (fr ≤ at_) = false := decide_eq_false h1
    rw [h1d, Bool.false_and, Bool.false_and] at hb
    subst hb
    have hlH := Lib.hid hl
    clear hl
    have hbaH := Lib.hid hba
    clear hba
    have o0H := Lib.hid o0
    clear o0
    have o1H := Lib.hid o1
    clear o1
    have o2H := Lib.hid o2
    clear o2
    have o3H := Lib.hid o3
    clear o3
    have o4H := Lib.hid o4
    clear o4
    have hrH := Lib.hid hr
    clear hr
    have hcellH := Lib.hid hcell
    clear hcell
    go_enter Tryz.func52, Tryz.ntmps52
    go_wp2_with fail
    go_ret
    exact ⟨rfl, hbaH.out⟩

end Go.Proofs.YtgegdfmdcmgliaaGreatDoor.C11

namespace Go.Proofs.YtgegdfmdcmgliaaGreatDoor.C11
open Go.RowKit
set_option linter.unusedVariables false


set_option maxHeartbeats 2000000 in
theorem May_any (A : Option Addr) (n c : Nat) (l : List Writer) (s label : ByteArray) (at_ : Int) (w : World) (hm : MaxLenAt w) (hl : SlAt RWriter w A n l) (hs : s.size ≤ maxLen) (hls : label.size ≤ 1048576) (f : Int) (hf : mayF l s label at_ = f) (r : Bool) (hr : mayR l s label at_ = r) :
    Calls Tryz.prog 24 #[.slice A n c, .string s, .string label, .int .i64 at_] w fun e w' => e = .returned (.tuple #[.bool r, .int .i64 f]) ∧ Below w.heap.size w w' := by
  have hb := Below.refl w.heap.size w
  have hll := hl.1
  unfold mayR at hr
  rw [hf] at hr
  unfold mayF at hf
  obtain ⟨f1, hf1⟩ : ∃ x, writersF l = x := ⟨_, rfl⟩
  obtain ⟨b2, hb2⟩ : ∃ x, wordB s = x := ⟨_, rfl⟩
  obtain ⟨b3, hb3⟩ : ∃ x, labelL label.data.toList = x := ⟨_, rfl⟩
  rw [hf1, hb2, hb3] at hf
  have hlH := Lib.hid hl
  clear hl
  have hmH := Lib.hid hm
  clear hm
  have hbH := Lib.hid hb
  clear hb
  have hllH := Lib.hid hll
  clear hll
  have hsH := Lib.hid hs
  clear hs
  have hrH := Lib.hid hr
  clear hr
  have hfH := Lib.hid hf
  clear hf
  have hf1H := Lib.hid hf1
  clear hf1
  have hb2H := Lib.hid hb2
  clear hb2
  have hb3H := Lib.hid hb3
  clear hb3
  go_enter Tryz.func24, Tryz.ntmps24
  go_wp2_with fail
  refine (writers_any A n c l _ (hlH.out.below hbH.out) f1 hf1H.out).mono ?_
  rintro e w1 ⟨rfl, hw⟩
  have hb := hbH.out.trans (hw.mono hbH.out.size)
  clear hbH hw
  have hbH := Lib.hid hb
  clear hb
  have hf := hfH.out
  have hr := hrH.out
  clear hfH hrH
  by_cases e1 : f1 = 0
  · subst e1
    rw [if_pos rfl] at hf
    cases b2
    · rw [if_neg (by decide)] at hf
      subst hf
      rw [if_neg (by decide)] at hr
      subst hr
      go_wp2_with fail
      refine (word_any s false _ hsH.out hb2H.out).mono ?_
      rintro e w2 ⟨rfl, hw⟩
      have hb := hbH.out.trans (hw.mono hbH.out.size)
      clear hbH hw
      have hbH := Lib.hid hb
      clear hb
      go_wp2
      go_ret2
      exact ⟨rfl, hbH.out⟩
    · rw [if_pos rfl] at hf
      cases b3
      · rw [if_neg (by decide)] at hf
        subst hf
        rw [if_neg (by decide)] at hr
        subst hr
        go_wp2_with fail
        refine (word_any s true _ hsH.out hb2H.out).mono ?_
        rintro e w2 ⟨rfl, hw⟩
        have hb := hbH.out.trans (hw.mono hbH.out.size)
        clear hbH hw
        have hbH := Lib.hid hb
        clear hb
        go_wp2_with fail
        refine (isWhole_any label _ (hmH.out.below hbH.out) hls false hb3H.out).mono ?_
        rintro e w3 ⟨rfl, hw⟩
        have hb := hbH.out.trans (hw.mono hbH.out.size)
        clear hbH hw
        have hbH := Lib.hid hb
        clear hb
        go_wp2
        go_ret2
        exact ⟨rfl, hbH.out⟩
      · rw [if_pos rfl] at hf
        by_cases i1 : inR 0 1000000000 at_ = true
        · rw [if_pos i1] at hf
          subst hf
          rw [if_pos rfl] at hr
          obtain ⟨h50, hwe⟩ := writers_len hf1H.out
          have hn50 : n ≤ 50 := by have := hllH.out; omega
          have hrise := (writers_rise l none hwe).1
          clear h50 hwe
          have hrH := Lib.hid hr
          clear hr
          have hriseH := Lib.hid hrise
          clear hrise
          go_wp2_with fail
          refine (word_any s true _ hsH.out hb2H.out).mono ?_
          rintro e w2 ⟨rfl, hw⟩
          have hb := hbH.out.trans (hw.mono hbH.out.size)
          clear hbH hw
          have hbH := Lib.hid hb
          clear hb
          go_wp2_with fail
          refine (isWhole_any label _ (hmH.out.below hbH.out) hls true hb3H.out).mono ?_
          rintro e w3 ⟨rfl, hw⟩
          have hb := hbH.out.trans (hw.mono hbH.out.size)
          clear hbH hw
          have hbH := Lib.hid hb
          clear hb
          go_wp2_with (go_at_call 20; refine (within_p _ _ _ _).mono ?_; rintro e wz ⟨rfl, rfl⟩)
          obtain ⟨w4, rfl⟩ : ∃ W, W = wz := ⟨_, rfl⟩
          refine (find_any A n c l s _ hn50 (hlH.out.below hbH.out) hriseH.out).mono ?_
          rintro e w5 ⟨x, rfl, hx, hw⟩
          have hb := hbH.out.trans (hw.mono hbH.out.size)
          clear hbH hw
          have hr := hrH.out
          clear hrH
          obtain ⟨h, hh⟩ : ∃ h, hasName l s = h := ⟨_, rfl⟩
          rw [hh] at hx ⊢
          cases h
          · rw [mayOf_out hh] at hr
            subst hr
            have hbq := hb.alloc hb.size (.cells #[.string x.name, .string x.secret, .slice x.prefixes.A x.prefixes.n x.prefixes.cap, .int .i64 x.from_, .int .i64 x.to_] 55)
            clear hx
            have hbH := Lib.hid hb
            clear hb
            have hbqH := Lib.hid hbq
            clear hbq
            have hhH := Lib.hid hh
            clear hh
            go_wp2
            go_ret2
            exact ⟨rfl, hbqH.out⟩
          · have hx := hx rfl
            rw [mayOf_in hh hx] at hr
            have hok := hlH.out.2.2 x (List.mem_of_getElem? hx)
            have hbq := hb.alloc hb.size (.cells #[.string x.name, .string x.secret, .slice x.prefixes.A x.prefixes.n x.prefixes.cap, .int .i64 x.from_, .int .i64 x.to_] 55)
            have hcall := may_any x label at_ _ (RWriter.mono _ _ _ hbq hok) r hr
            have hbH := Lib.hid hb
            clear hb
            have hbqH := Lib.hid hbq
            clear hbq
            have hhH := Lib.hid hh
            clear hh
            have hxH := Lib.hid hx
            clear hx
            have hrH := Lib.hid hr
            clear hr
            have hokH := Lib.hid hok
            clear hok
            have hcallH := Lib.hid hcall
            clear hcall
            go_wp2_with fail
            refine hcallH.out.mono ?_
            rintro e w6 ⟨rfl, hw⟩
            have hb := hbqH.out.trans (hw.mono hbqH.out.size)
            have hbH := Lib.hid hb
            clear hb
            have hwH := Lib.hid hw
            clear hw
            go_wp2
            go_ret2
            exact ⟨rfl, by assumption⟩
        · rw [if_neg i1] at hf
          have i1 : inR 0 1000000000 at_ = false := by simpa using i1
          subst hf
          rw [if_neg (by decide)] at hr
          subst hr
          go_wp2_with fail
          refine (word_any s true _ hsH.out hb2H.out).mono ?_
          rintro e w2 ⟨rfl, hw⟩
          have hb := hbH.out.trans (hw.mono hbH.out.size)
          clear hbH hw
          have hbH := Lib.hid hb
          clear hb
          go_wp2_with fail
          refine (isWhole_any label _ (hmH.out.below hbH.out) hls true hb3H.out).mono ?_
          rintro e w3 ⟨rfl, hw⟩
          have hb := hbH.out.trans (hw.mono hbH.out.size)
          clear hbH hw
          have hbH := Lib.hid hb
          clear hb
          go_wp2_with (go_at_call 20; refine (within_p _ _ _ _).mono ?_; rintro e wz ⟨rfl, rfl⟩)
          go_ret2
          exact ⟨rfl, hbH.out⟩
  · rw [if_neg e1] at hf
    subst hf
    have e2 : (f1 != 0) = true := by simpa using e1
    rw [if_neg e1] at hr
    subst hr
    clear e1
    go_wp2
    go_ret2
    exact ⟨rfl, hbH.out⟩
end Go.Proofs.YtgegdfmdcmgliaaGreatDoor.C11

namespace Go.Proofs.YtgegdfmdcmgliaaGreatDoor.C11
open Go.RowKit
set_option linter.unusedVariables false

def apS : ByteArray := ⟨#[47, 47, 97, 112, 112]⟩
def apL : ByteArray := ⟨#[47, 47, 97, 112, 112, 108, 101, 58, 120]⟩
def awW (b : Nat) : Writer := ⟨⟨#[97]⟩, ⟨#[115]⟩, ⟨some ⟨b, 0, none⟩, 1, 1, [apS]⟩, 0, 5⟩
theorem cells_one {α : Type} {R : Rd α} {W : World} {b : Nat} {x : α} (h : ∀ j v, (R.vals x)[j]? = some v → W.cell? ⟨b, j, none⟩ = some v) (hx : R.ok W x) : SlAt R W (some ⟨b, 0, none⟩) 1 [x] := by
  refine ⟨rfl, fun _ => ⟨b, 0, rfl, fun i y hy j v hv => ?_⟩, fun y hy => ?_⟩
  · match i, hy with
    | 0, hy =>
      simp only [List.getElem?_cons_zero, Option.some.injEq] at hy
      subst hy
      simpa using h j v hv
    | i + 1, hy => simp at hy
  · rw [List.mem_singleton.1 hy]; exact hx
theorem awW_at {W : World} {b0 b1 : Nat} (h : W.cell? ⟨b0, 0, none⟩ = some (.string apS)) (h0 : W.cell? ⟨b1, 0, none⟩ = some (.string ⟨#[97]⟩)) (h1 : W.cell? ⟨b1, 1, none⟩ = some (.string ⟨#[115]⟩))
    (h2 : W.cell? ⟨b1, 2, none⟩ = some (.slice (some ⟨b0, 0, none⟩) 1 1)) (h3 : W.cell? ⟨b1, 3, none⟩ = some (.int .i64 0)) (h4 : W.cell? ⟨b1, 4, none⟩ = some (.int .i64 5)) :
    SlAt RWriter W (some ⟨b1, 0, none⟩) 1 [awW b0] := by
  refine cells_one (fun j v hv => ?_) ⟨?_, ?_, ⟨cells_one (fun j v hv => ?_) ?_, Nat.le_refl _, ?_, ?_⟩, ?_, ?_⟩
  · match j, hv with
    | 0, hv => simp [RWriter, awW] at hv; subst hv; exact h0
    | 1, hv => simp [RWriter, awW] at hv; subst hv; exact h1
    | 2, hv => simp [RWriter, awW] at hv; subst hv; exact h2
    | 3, hv => simp [RWriter, awW] at hv; subst hv; exact h3
    | 4, hv => simp [RWriter, awW] at hv; subst hv; exact h4
    | j + 5, hv => simp [RWriter] at hv
  · show ByteArray.size ⟨#[97]⟩ ≤ maxLen
    decide +kernel
  · show ByteArray.size ⟨#[115]⟩ ≤ maxLen
    decide +kernel
  · match j, hv with
    | 0, hv => simp [RStr] at hv; subst hv; exact h
    | j + 1, hv => simp [RStr] at hv
  · show apS.size ≤ maxLen
    decide +kernel
  · show 1 ≤ maxLen
    decide
  · intro h; cases h
  · show RInt.ok W 0
    exact ⟨by decide, by decide⟩
  · show RInt.ok W 5
    exact ⟨by decide, by decide⟩
theorem aw_F (b : Nat) : mayF [awW b] ⟨#[97]⟩ apL 4 = 0 ∧ mayF [awW b] ⟨#[97]⟩ apL 5 = 0 ∧ mayR [awW b] ⟨#[97]⟩ apL 4 = true ∧ mayR [awW b] ⟨#[97]⟩ apL 5 = false := by
  have e : ∀ b, mayF [awW b] ⟨#[97]⟩ apL 4 = mayF [awW 0] ⟨#[97]⟩ apL 4 ∧ mayF [awW b] ⟨#[97]⟩ apL 5 = mayF [awW 0] ⟨#[97]⟩ apL 5 ∧ mayR [awW b] ⟨#[97]⟩ apL 4 = mayR [awW 0] ⟨#[97]⟩ apL 4 ∧ mayR [awW b] ⟨#[97]⟩ apL 5 = mayR [awW 0] ⟨#[97]⟩ apL 5 := fun b => ⟨rfl, rfl, rfl, rfl⟩
  obtain ⟨e1, e2, e3, e4⟩ := e b
  rw [e1, e2, e3, e4]
  decide +kernel

theorem awake_any (w : World) (hm : MaxLenAt w) : Calls Tryz.prog 8 #[] w fun e w' => e = .returned (.bool true) ∧ Below w.heap.size w w' := by
  obtain ⟨f1, f2, r1, r2⟩ := aw_F w.heap.size
  have ha : ByteArray.size ⟨#[97]⟩ ≤ maxLen := by decide +kernel
  have hs : apL.size ≤ 1048576 := by decide +kernel
  go_enter Tryz.func8, Tryz.ntmps8
  go_wp2_with fail
  have hb := ((Below.refl w.heap.size w).alloc (Nat.le_refl _) (.cells #[.string apS] 9)).alloc (by simp) (.cells #[.string ⟨#[97]⟩, .string ⟨#[115]⟩, .slice (some ⟨w.heap.size, 0, none⟩) 1 1, .int .i64 0, .int .i64 5] 55)
  have hl : SlAt RWriter ((w.alloc (.cells #[.string apS] 9)).alloc (.cells #[.string ⟨#[97]⟩, .string ⟨#[115]⟩, .slice (some ⟨w.heap.size, 0, none⟩) 1 1, .int .i64 0, .int .i64 5] 55)) (some ⟨w.heap.size + 1, 0, none⟩) 1 [awW w.heap.size] :=
    awW_at (by simp [go_sem]) (by simp [go_sem]) (by simp [go_sem]) (by simp [go_sem]) (by simp [go_sem]) (by simp [go_sem])
  have hbH := Lib.hid hb
  clear hb
  have hlH := Lib.hid hl
  clear hl
  have f1H := Lib.hid f1
  clear f1
  have f2H := Lib.hid f2
  clear f2
  have r1H := Lib.hid r1
  clear r1
  have r2H := Lib.hid r2
  clear r2
  have haH := Lib.hid ha
  clear ha
  have hsH := Lib.hid hs
  clear hs
  have hmH := Lib.hid hm
  clear hm
  refine (May_any (some ⟨w.heap.size + 1, 0, none⟩) 1 1 [awW w.heap.size] ⟨#[97]⟩ apL 4 _ (hmH.out.below hbH.out) hlH.out haH.out hsH.out 0 f1H.out true r1H.out).mono ?_
  rintro e w1 ⟨rfl, hw⟩
  have hb := hbH.out.trans (hw.mono hbH.out.size)
  have hl := hlH.out.below hw
  clear hbH hlH
  have hbH := Lib.hid hb
  clear hb
  have hlH := Lib.hid hl
  clear hl
  have hwH := Lib.hid hw
  clear hw
  go_wp2_with fail
  refine (May_any (some ⟨w.heap.size + 1, 0, none⟩) 1 1 [awW w.heap.size] ⟨#[97]⟩ apL 5 _ (hmH.out.below hbH.out) hlH.out haH.out hsH.out 0 f2H.out false r2H.out).mono ?_
  rintro e w2 ⟨rfl, hw⟩
  have hb := hbH.out.trans (hw.mono hbH.out.size)
  clear hbH hlH hwH
  have hbH := Lib.hid hb
  clear hb
  have hwH := Lib.hid hw
  clear hw
  go_wp2
  go_ret
  exact ⟨rfl, hbH.out⟩
end Go.Proofs.YtgegdfmdcmgliaaGreatDoor.C11

namespace Go.Proofs.YtgegdfmdcmgliaaGreatDoor.C11
open Go.RowKit
set_option linter.unusedVariables false

theorem dueF_zero {l : List Claimed} {m : List Audit} {every round : Int} (h : dueF l m every round = 0) : auditsF l m = 0 := by
  unfold dueF at h
  split at h
  · assumption
  · exact h
theorem dueR_one {l : List Claimed} {m : List Audit} {round : Int} {L : List Int} {cc : Int} (h : dueR l m 1 round = (L, cc)) : (cc = 0 ∧ auditsF l m = 0 ∧ L = numsN (fun j => !audB m j) l.length) ∨ (cc ≠ 0 ∧ L = []) := by
  unfold dueR at h
  split at h
  · left
    rename_i h0
    obtain ⟨h1, h2⟩ := Prod.mk.inj h
    exact ⟨h2.symm, dueF_zero h0, by rw [← h1, due_one]⟩
  · right
    rename_i h0
    obtain ⟨h1, h2⟩ := Prod.mk.inj h
    exact ⟨by rw [← h2]; exact h0, h1.symm⟩
theorem audB_take {m : List Audit} {q : Nat} {x : Audit} (hx : m[q]? = some x) (j : Nat) : audB (m.take (q + 1)) j = (audB (m.take q) j || decide (x.number = (j : Int))) := by
  unfold audB
  rw [List.take_add_one, hx, Option.toList, List.any_append, List.any_cons, List.any_nil, Bool.or_false]
def EaIn (m : List Audit) (j : Nat) (w0 : World) (v i : Value) (wr : World) : Prop :=
  ∃ q : Nat, q ≤ m.length ∧ i = .int .i64 q ∧ v = .bool (audB (m.take q) j) ∧ Below w0.heap.size w0 wr
def EaRel (m : List Audit) (n : Nat) (w0 : World) (v i : Value) (wr : World) : Prop :=
  ∃ k q : Nat, k ≤ n ∧ i = .int .i64 k ∧ v = .int .i64 q ∧ (numsN (fun j => !audB m j) k).length = q ∧ Below w0.heap.size w0 wr

set_option maxRecDepth 100000 in
set_option maxHeartbeats 4000000 in
theorem law_each (l : SlD Claimed) (m : SlD Audit) (round : Int) (w : World) (hl : (RSl RClaimed).ok w l) (hma : (RSl RAudit).ok w m) (hr : RInt.ok w round) (hm : MaxLenAt w) (ht : PowTab w) :
    Calls Tryz.prog 3 #[.slice l.A l.n l.cap, .slice m.A m.n m.cap, .int .i64 round] w fun e w' => e = .returned (.bool true) ∧ Below w.heap.size w w' := by
  obtain ⟨A, n, cap, l⟩ := l
  obtain ⟨B, mn, mcap, m⟩ := m
  obtain ⟨hl, hd1, hd2, hd3⟩ := hl
  clear hd1 hd2 hd3
  obtain ⟨hma, hd1, hd2, hd3⟩ := hma
  clear hd1 hd2 hd3
  simp only at hl hma ⊢
  have hll := hl.1
  have hml := hma.1
  obtain ⟨⟨L, cc⟩, hF⟩ : ∃ R, dueR l m 1 round = R := ⟨_, rfl⟩
  have hI1 : I64 1 := ⟨by omega, by omega⟩
  have hr : I64 round := hr
  have hlH := Lib.hid hl
  clear hl
  have hmaH := Lib.hid hma
  clear hma
  have hmH := Lib.hid hm
  clear hm
  have hllH := Lib.hid hll
  clear hll
  have hmlH := Lib.hid hml
  clear hml
  have hFH := Lib.hid hF
  clear hF
  have htH := Lib.hid ht
  clear ht
  have hrH := Lib.hid hr
  clear hr
  go_enter Tryz.func3, Tryz.ntmps3
  go_wp2_with fail
  refine (Due_any A n cap l B mn mcap m 1 round _ hmH.out htH.out hlH.out hmaH.out hI1 hrH.out L cc hFH.out).mono ?_
  rintro e w1 ⟨A1, n1, c1, rfl, hs1, hn1, hb1⟩
  have hL1 := hs1.1
  have hs1H := Lib.hid hs1
  clear hs1
  have hb1H := Lib.hid hb1
  clear hb1
  rcases dueR_one hFH.out with ⟨rfl, hz, hL⟩ | ⟨hc, hL⟩
  · obtain ⟨hn, hmn, _⟩ := audits_range hz
    rw [show l.length = n from hllH.out] at hn hL
    rw [show m.length = mn from hmlH.out] at hmn
    have hLH := Lib.hid hL
    clear hL
    have hL1H := Lib.hid hL1
    clear hL1
    have hzH := Lib.hid hz
    clear hz
    go_wp2_with fail
    go_loopw [9, 31] (fun v i wr => EaRel m n w1 v i wr) (fun _ i _ => n - (intOf i).toNat)
    case atStart => exact ⟨0, 0, Nat.zero_le _, rfl, rfl, rfl, Below.refl _ _⟩
    case round =>
      obtain ⟨k, q, hk, rfl, rfl, hq, hb⟩ := hrel
      have hqk := numsN_len (fun j => !audB m j) k
      rw [hq] at hqk
      by_cases hlt : k < n
      · obtain ⟨wa, rfl⟩ : ∃ W, W = wr := ⟨_, rfl⟩
        have hbH := Lib.hid hb
        clear hb
        have hqH := Lib.hid hq
        clear hq
        go_wp2_with fail
        go_loopw [11, 36] (fun v i wr => EaIn m k w1 v i wr) (fun _ i _ => mn - (intOf i).toNat)
        case atStart => exact ⟨0, Nat.zero_le _, rfl, rfl, hbH.out⟩
        case round =>
          obtain ⟨p, hp, rfl, rfl, hbp⟩ := hrel
          have hpm : p ≤ mn := by have := hmlH.out; omega
          have hbs := hbp.size
          by_cases hlp : p < mn
          · obtain ⟨b, off, hB, _⟩ := hmaH.out.2.1 (by omega)
            subst hB
            obtain ⟨x, hx⟩ : ∃ x, m[p]? = some x := ⟨m[p]'(by have := hmlH.out; omega), List.getElem?_eq_getElem _⟩
            obtain ⟨c0, c1, c2⟩ := cells_Audit (hmaH.out.below (hb1H.out.trans (hbp.mono hb1H.out.size))) hx
            have hst := audB_take hx k
            have hpl : p + 1 ≤ m.length := by have := hmlH.out; omega
            obtain ⟨a, ha⟩ : ∃ a, audB (m.take p) k = a := ⟨_, rfl⟩
            rw [ha] at hst
            have hba := hbp.alloc hbs (.cells #[.int .i64 x.number, .string x.result, .int .i64 x.at_] 30)
            cases a
            · rw [Bool.false_or] at hst
              have R : EaIn m k w1 (.bool (decide (x.number = (k : Int)))) (.int .i64 (p + 1)) (wr.alloc (.cells #[.int .i64 x.number, .string x.result, .int .i64 x.at_] 30)) := ⟨p + 1, hpl, by go_num, by rw [hst], hba⟩
              rw [ha]
              by_cases he : x.number = (k : Int)
              · rw [decide_eq_true he] at R
                have he2 : (x.number == (k : Int)) = true := by simpa using he
                clear hba hst
                have hxH := Lib.hid hx
                clear hx
                have haH := Lib.hid ha
                clear ha
                have hbpH := Lib.hid hbp
                clear hbp
                have RH := Lib.hid R
                clear R
                have heH := Lib.hid he
                clear he
                go_wp2
                refine ⟨?rel, ?measure⟩
                case measure => (simp [intOf]; omega)
                case rel => first | exact RH.out | exact ⟨rfl, RH.out⟩ | ((try refine ⟨rfl, ?_⟩); (repeat apply Exists.intro); refine ⟨RH.out, ?_⟩; ((repeat' apply And.intro) <;> rfl))
              · rw [decide_eq_false he] at R
                have he2 : (x.number == (k : Int)) = false := by simpa using he
                clear hba hst
                have hxH := Lib.hid hx
                clear hx
                have haH := Lib.hid ha
                clear ha
                have hbpH := Lib.hid hbp
                clear hbp
                have RH := Lib.hid R
                clear R
                have heH := Lib.hid he
                clear he
                go_wp2
                refine ⟨?rel, ?measure⟩
                case measure => (simp [intOf]; omega)
                case rel => first | exact RH.out | exact ⟨rfl, RH.out⟩ | ((try refine ⟨rfl, ?_⟩); (repeat apply Exists.intro); refine ⟨RH.out, ?_⟩; ((repeat' apply And.intro) <;> rfl))
            · rw [Bool.true_or] at hst
              have R : EaIn m k w1 (.bool true) (.int .i64 (p + 1)) (wr.alloc (.cells #[.int .i64 x.number, .string x.result, .int .i64 x.at_] 30)) := ⟨p + 1, hpl, by go_num, by rw [hst], hba⟩
              rw [ha]
              clear hba hst
              have hxH := Lib.hid hx
              clear hx
              have haH := Lib.hid ha
              clear ha
              have hbpH := Lib.hid hbp
              clear hbp
              have RH := Lib.hid R
              clear R
              go_wp2
              refine ⟨?rel, ?measure⟩
              case measure => (simp [intOf]; omega)
              case rel => first | exact RH.out | exact ⟨rfl, RH.out⟩ | ((try refine ⟨rfl, ?_⟩); (repeat apply Exists.intro); refine ⟨RH.out, ?_⟩; ((repeat' apply And.intro) <;> rfl))
          · have e : m.take p = m := List.take_of_length_le (by have := hmlH.out; omega)
            rw [e]
            cases ha : audB m k
            · have hfk : (fun j => !audB m j) k = true := by simp only [ha]; rfl
              have hat := numsN_at (f := fun j => !audB m j) hlt hfk
              have hst := numsN_step (fun j => !audB m j) k
              rw [if_pos hfk] at hst
              rw [hqH.out] at hat
              have hlen : (numsN (fun j => !audB m j) (k + 1)).length = q + 1 := by rw [hst, List.length_append, hqH.out]; rfl
              rw [← hLH.out] at hat
              have hqn : q < n1 := by have := (List.getElem?_eq_some_iff.1 hat).1; have := hL1H.out; omega
              obtain ⟨bx, ox, hAx, hdrop⟩ := hs1H.out.2.1 (by omega)
              subst hAx
              have cx : wr.cell? ⟨bx, ox + q, none⟩ = some (.int .i64 k) := by
                have h := hdrop q (k : Int) hat 0 (.int .i64 (k : Int)) rfl
                have := (hbp.cell (cell?_lt h)).trans h
                simpa [RInt] using this
              have R : EaRel m n w1 (.int .i64 (q + 1)) (.int .i64 (k + 1)) wr := ⟨k + 1, q + 1, hlt, by go_num, by go_num, hlen, hbp⟩
              clear hst hlen hdrop hat e hfk hp
              have haH := Lib.hid ha
              clear ha
              have hbpH := Lib.hid hbp
              clear hbp
              have RH := Lib.hid R
              clear R
              go_wp2
              refine ⟨?rel, ?measure⟩
              case measure => (simp [intOf]; omega)
              case rel => first | exact RH.out | exact ⟨rfl, RH.out⟩ | ((try refine ⟨rfl, ?_⟩); (repeat apply Exists.intro); refine ⟨RH.out, ?_⟩; ((repeat' apply And.intro) <;> rfl))
            · have hfk : ¬ (fun j => !audB m j) k = true := by simp only [ha]; decide
              have hst := numsN_step (fun j => !audB m j) k
              rw [if_neg hfk, List.append_nil] at hst
              have R : EaRel m n w1 (.int .i64 q) (.int .i64 (k + 1)) wr := ⟨k + 1, q, hlt, by go_num, rfl, by rw [hst]; exact hqH.out, hbp⟩
              clear hst e hfk hp
              have haH := Lib.hid ha
              clear ha
              have hbpH := Lib.hid hbp
              clear hbp
              have RH := Lib.hid R
              clear R
              go_wp2
              refine ⟨?rel, ?measure⟩
              case measure => (simp [intOf]; omega)
              case rel => first | exact RH.out | exact ⟨rfl, RH.out⟩ | ((try refine ⟨rfl, ?_⟩); (repeat apply Exists.intro); refine ⟨RH.out, ?_⟩; ((repeat' apply And.intro) <;> rfl))
      · obtain rfl : k = n := by omega
        have hqn : q = n1 := by rw [← hL1H.out, hLH.out]; exact hq.symm
        subst hqn
        have hbw := hb1H.out.trans (hb.mono hb1H.out.size)
        clear hq
        have hbH := Lib.hid hb
        clear hb
        have hbwH := Lib.hid hbw
        clear hbw
        go_wp2_with fail
        refine (awake_any _ (hmH.out.below hbwH.out)).mono ?_
        rintro e w8 ⟨rfl, hb8⟩
        have hb9 := hbwH.out.trans (hb8.mono hbwH.out.size)
        clear hb8
        have hb9H := Lib.hid hb9
        clear hb9
        go_wp2
        go_ret
        exact ⟨rfl, hb9H.out⟩
  · subst hL
    obtain rfl : n1 = 0 := hL1.symm
    have hc2 : (cc != 0) = true := by simpa using hc
    clear hc hL1
    go_wp2_with fail
    refine (awake_any _ (hmH.out.below hb1H.out)).mono ?_
    rintro e w8 ⟨rfl, hb8⟩
    have hb9 := hb1H.out.trans (hb8.mono hb1H.out.size)
    clear hb8
    have hb9H := Lib.hid hb9
    clear hb9
    go_wp2
    go_ret
    exact ⟨rfl, hb9H.out⟩
end Go.Proofs.YtgegdfmdcmgliaaGreatDoor.C11

namespace Go.Proofs.YtgegdfmdcmgliaaGreatDoor.trustDueIsEach
open Go.Proofs.YtgegdfmdcmgliaaGreatDoor.C11
open Go.ChangeShapes Go.WideShapes Go.ChangeAt Go.RowKit
open Go.ChangeMaps (open_string shut_string)
set_option linter.unusedVariables false

theorem pow_row {W : World} (h : laidMetH Tryz.prog Rows.trustDueIsEachRow.laid W) : PowTab W := pow_one (laidMetH.filter (fun x => x.1 == "internal/strconv.uint64pow10") h)
theorem own : ownKnob Tryz.prog.godebug = none := by kernel_rfl
theorem laidOut : laidOutB Tryz.prog = true := by kernel_rfl

set_option maxRecDepth 100000 in
theorem contract (H : Type) (enc : TypeId × Value → H) (W : World) (base : Nat) (args : Array Value) (ds gs : List (DataW H)) (before : List MemPlace)
    (hval0 : ∀ (j : Nat) t v, Tryz.f3.params[j]? = some t → args[j]? = some v → Value.okWide Tryz.prog W .any base t v)
    (hW : DataW.Whole enc Tryz.prog Tryz.f3.params.toList Rows.trustDueIsEachSpec.vars false W args.toList ds gs before) (hmx : MaxLenAt W) (hpw : PowTab W) :
    Calls Tryz.prog 3 args W fun e W' => ∃ v, e = .returned v ∧ Rows.trustDueIsEachSpec.post enc Tryz.prog Tryz.f3 false true false false W args v W' := by
  have hval := hval0
  have hW' := hW
  obtain ⟨p, q, hA0, hV, rfl, hfz, hnd⟩ := hW
  have hA : DataW.TrodAll enc Tryz.prog W 0 (fun _ => true) true Tryz.f3.params.toList args.toList ds p := hA0
  rw [Tryz.params3] at hA hval
  obtain ⟨v0, vs0, d0, ds0, p0, q0, hargs, rfl, rfl, h0, r0⟩ := trodAll_cons hA
  obtain ⟨v1, vs1, d1, ds1, p1, q1, rfl, rfl, rfl, h1, r1⟩ := trodAll_cons r0
  obtain ⟨v2, vs2, d2, ds2, p2, q2, rfl, rfl, rfl, h2, r2⟩ := trodAll_cons r1
  obtain ⟨rfl, rfl, rfl⟩ := trodAll_nil r2
  obtain rfl : args = #[v0, v1, v2] := by cases args; simp_all
  obtain ⟨rfl, rfl⟩ := trodVars_none hV
  have m0 := h0
  have lt0 : ∀ x ∈ p0, x.block < W.heap.size := by obtain ⟨m, hm⟩ := m0; exact DataW.trod_lt m _ _ _ hm
  obtain ⟨a0, rfl, k0, b0⟩ := param_slice Tryz.underlying22 opens_t_sl_Claimed (hval 0 22 v0 rfl rfl) h0
  have m1 := h1
  have lt1 : ∀ x ∈ p1, x.block < W.heap.size := by obtain ⟨m, hm⟩ := m1; exact DataW.trod_lt m _ _ _ hm
  obtain ⟨a1, rfl, k1, b1⟩ := param_slice Tryz.underlying23 opens_t_sl_Audit (hval 1 23 v1 rfl rfl) h1
  obtain ⟨a2, rfl, rfl, rfl, w2⟩ := open_int Tryz.underlying3 (hval 2 3 v2 rfl rfl) h2
  have k2 : RInt.ok W a2 := by show I64 a2; simpa [I64, Lit.wf, IntKind.min, IntKind.max, IntKind.signed, IntKind.bits] using w2
  clear hA0 hval0
  refine (law_each a0 a1 a2 W k0 k1 k2 hmx hpw).mono fun e W' ⟨he, bel⟩ => ?_
  subst he
  exact ⟨_, rfl, _, _, _, [], _, [], hW', trodAll_mk1 (shut_bool Tryz.underlying4 _), (trodAll_cons_mk (Below.trod laidOut (by kernel_rfl) (of_decide_eq_true (by kernel_rfl)) m0 bel lt0) (trodAll_cons_mk (Below.trod laidOut (by kernel_rfl) (of_decide_eq_true (by kernel_rfl)) m1 bel lt1) (trodAll_cons_mk (shut_int Tryz.underlying3 w2) trodAll_mk0))), rfl, bel.frame _, fun h => by cases h⟩

/-- the two tables, laid -/
def litsOf : DataW Unit → List Value
  | .agg l => l.map fun
    | .lit (.int k n) => .int k n
    | _ => undef
  | _ => []
noncomputable def low : Nat := (World.holding Tryz.prog default ⟨#[], #[], []⟩).heap.size
noncomputable def laidWorld (os : Os) : World :=
  let put (h : Array Obj) (g : Nat) (cs : Array Value) : Array Obj := h.modify g fun
    | .cells _ t frozen => .cells cs t frozen
    | o => o
  { World.holding Tryz.prog os ⟨#[.cells #[.string ⟨#[118, 97, 108, 117, 101, 32, 111, 117, 116, 32, 111, 102, 32, 114, 97, 110, 103, 101]⟩] 186, .cells #[.string ⟨#[105, 110, 118, 97, 108, 105, 100, 32, 115, 121, 110, 116, 97, 120]⟩] 186], #[], []⟩ with heap := put (put (put (put (put (put (put (World.holding Tryz.prog os ⟨#[.cells #[.string ⟨#[118, 97, 108, 117, 101, 32, 111, 117, 116, 32, 111, 102, 32, 114, 97, 110, 103, 101]⟩] 186, .cells #[.string ⟨#[105, 110, 118, 97, 108, 105, 100, 32, 115, 121, 110, 116, 97, 120]⟩] 186], #[], []⟩).heap 6 ((litsOf Rows.laid_math_bits_deBruijn32tab).toArray)) 7 ((litsOf Rows.laid_math_bits_deBruijn64tab).toArray)) 3 ((litsOf Rows.laid_internal_strconv_uint64pow10).toArray)) 5 (((List.range 16).flatMap fun i => [Value.int .u8 (Lib.accLo i), Value.int .u8 (Lib.accHi i)]).toArray)) 2 (#[.iface 184 (.pointer (some ⟨low + 0, 0, none⟩))])) 1 (#[.iface 184 (.pointer (some ⟨low + 1, 0, none⟩))])) 4 ((Lib.firstTab.map fun z => Value.int .u8 z).toArray) }
set_option maxRecDepth 1000000 in
theorem laid_met (os : Os) : laidMet Tryz.prog Rows.trustDueIsEachRow.laid ((laidWorld os).forCall (fun _ _ => 0) ⟨#[], #[.slice none 0 0, .slice none 0 0, .int .i64 0], []⟩).memory :=
  laidMet_of_run' 8 (by kernel_rfl) (by kernel_rfl)
theorem reads (os : Os) {H : Type} (enc : TypeId × Value → H) : ∃ places, DataW.whole enc Tryz.prog ((laidWorld os).forCall (fun _ _ => 0) ⟨#[], #[.slice none 0 0, .slice none 0 0, .int .i64 0], []⟩).memory Tryz.f3.params.toList Rows.trustDueIsEachSpec.vars false (#[.slice none 0 0, .slice none 0 0, .int .i64 0] : Array Value).toList 8 = some ([.nil, .nil, .lit (.int .i64 0)], [], places) :=
  ⟨[], by kernel_rfl⟩

set_option maxRecDepth 100000 in
theorem lifted (os : Os) (started : os.Started) (H : Type) (enc : TypeId × Value → H) (F : Stop.Interp) :
    ReturnsInHanded {} Tryz.checked os 3 .any ((OpenSpec.ofChange Rows.trustDueIsEachSpec).preRow enc Tryz.prog Tryz.f3 Rows.trustDueIsEachRow.domain false Rows.trustDueIsEachRow.laid) (((OpenSpec.ofChange Rows.trustDueIsEachSpec).at F).post enc Tryz.prog Tryz.f3 false true false false) := by
  obtain ⟨places, hx⟩ := reads os enc
  refine returnsInHanded_of_row (C := Tryz.checked) (s := (OpenSpec.ofChange Rows.trustDueIsEachSpec)) own started (by kernel_rfl) Tryz.func3
    (witness_row_at (enc := enc) (C := Tryz.checked) false (laidWorld os) #[.slice none 0 0, .slice none 0 0, .int .i64 0] rfl (by kernel_rfl) (by kernel_rfl) (by kernel_rfl)
      (OpenSpec.preRow_of_cond 8 hx (by kernel_rfl) (fun k hk => by cases hk) (by kernel_rfl) (laid_met os))) ?_
  intro W base args ds gs before hval hW _ hcond hsz hlaid hsh _
  exact contract H enc W base args ds gs before hval hW (Tryz.laysM146.s1_3 W hsh) (pow_row hlaid)

theorem said : Rows.TrustDueIsEachSaid :=
  OpenClaim.holds_of_cond 3 Tryz.f3 rfl rfl rfl rfl rfl rfl rfl ⟨rfl, rfl, rfl, rfl, rfl⟩ rfl rfl rfl rfl rfl (by kernel_rfl) Tryz.func3 (by kernel_rfl)
    (of_decide_eq_true (by kernel_rfl)) (by unfold Func.isWrapper; first | (rw [if_pos (by decide +kernel)]; kernel_rfl) | (rw [if_neg (by decide +kernel)]; exact ⟨rfl, rfl⟩))
    (fun os started H enc _ F => by rw [OpenClaim.pre_eq_preRow]; exact lifted os started H enc F)

theorem plain (f : FuncId) (fn : Func) (hf : Tryz.pinned.checked.prog.funcNamed "smithyard/smithyardlaw11.TrustDueIsEach" = some f) (hfn : Tryz.pinned.checked.prog.funcs[f]? = some fn) :
    true = Tryz.pinned.checked.prog.looks [] ∧ ∀ (j : Nat) t, fn.params[j]? = some t → Tryz.pinned.checked.prog.wantsStandIn t = false := by
  obtain rfl : f = 3 := Option.some.inj ((show Tryz.prog.funcNamed "smithyard/smithyardlaw11.TrustDueIsEach" = some 3 by kernel_rfl).symm.trans hf) |>.symm
  obtain rfl : fn = Tryz.f3 := (Option.some.inj (Tryz.func3.symm.trans hfn)).symm
  refine ⟨by kernel_rfl, fun j t ht => ?_⟩
  rw [Tryz.params3] at ht
  have hm : t = 22 ∨ t = 23 ∨ t = 3 := by have := Array.mem_of_getElem? ht; simpa using this
  rcases hm with rfl | rfl | rfl
  · exact (show Tryz.prog.wantsStandIn 22 = false by kernel_rfl)
  · exact (show Tryz.prog.wantsStandIn 23 = false by kernel_rfl)
  · exact (show Tryz.prog.wantsStandIn 3 = false by kernel_rfl)

theorem card : Rows.TrustDueIsEachCardSaid :=
  Claim7.holds_tied_plain_at .later [] _ _ _ _ said (fun _ h => by cases h) (by kernel_rfl) (fun _ h => by cases h) trustDueIsEach_row_tie rfl ⟨rfl, rfl⟩ (by kernel_rfl) rfl plain (by kernel_rfl)
end Go.Proofs.YtgegdfmdcmgliaaGreatDoor.trustDueIsEach
