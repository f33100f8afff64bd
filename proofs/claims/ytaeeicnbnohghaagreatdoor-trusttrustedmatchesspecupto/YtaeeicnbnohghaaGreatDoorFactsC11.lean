/-
  factsOf, of the program.
-/
import Derived.Test.YtaeeicnbnohghaaGreatDoorFactsDC11
import Derived.Test.YtaeeicnbnohghaaGreatDoorCAuditsC11
namespace Go.Proofs.YtaeeicnbnohghaaGreatDoor.C11
open Go.RowKit
set_option linter.unusedVariables false

structure FactsOk (l : List Claimed) (m : List Audit) (n b1 b2 b3 c3 : Nat) (W : World) : Prop where
  ra : BRow W b1 n (audB m)
  rw_ : BRow W b2 n (wrB l m)
  mp : TMap KS valS W b3 (setF (suB l m)) c3
  l1 : b1 < W.heap.size
  l2 : b2 < W.heap.size
  c3le : c3 ≤ 1000


theorem FactsOk.below {l : List Claimed} {m : List Audit} {n b1 b2 b3 c3 : Nat} {W W' : World} (h : FactsOk l m n b1 b2 b3 c3 W) {K : Nat} (hb : Below K W W') (hK : W.heap.size ≤ K) : FactsOk l m n b1 b2 b3 c3 W' := by
  have h3 := h.mp.lt
  have h1 := h.l1
  have h2 := h.l2
  have hs := hb.size
  exact ⟨h.ra.below hb (by omega), h.rw_.below hb (by omega), h.mp.below hb (by omega), by omega, by omega, h.c3le⟩
theorem cell_of_heap {W : World} {b j : Nat} {cs : Array Value} {T : TypeId} (h : W.heap[b]? = some (.cells cs T)) : W.cell? ⟨b, j, none⟩ = cs[j]? := by simp [World.cell?, h]
theorem frozen_of_heap {W : World} {b j : Nat} {cs : Array Value} {T : TypeId} (h : W.heap[b]? = some (.cells cs T)) : W.frozen? ⟨b, j, none⟩ = false := by simp [World.frozen?, h]
theorem brow_of_heap {W : World} {b n : Nat} (h : W.heap[b]? = some (.cells (madeB n) 4)) : BRow W b n (fun _ => false) := fun j hj => ⟨(cell_of_heap h).trans (madeB_get n j hj), frozen_of_heap h⟩
theorem tmap_of_heap {k : TypeId} {κ α : Type} (K : KD Tryz.prog k κ) (val : α → Value) {W : World} {b : Nat} (h : W.heap[b]? = some (.map #[] 0)) : TMap K val W b (fun _ => none) 0 := by
  obtain ⟨D, ⟨es, clock, he, r⟩, r2⟩ := TMap.made W K val
  have e : (W.alloc (.map #[] 0)).heap[W.heap.size]? = some (.map #[] 0) := (MapKept.heap_alloc W _).1
  rw [e] at he
  injection he with he
  injection he with h1 h2
  subst h1 h2
  exact ⟨D, ⟨_, _, h, r⟩, r2⟩
theorem chain4 (w1 : World) (o1 o2 o3 o4 : Obj) (K : Nat) (hK : w1.heap.size = K) :
    ((((w1.alloc o1).alloc o2).alloc o3).alloc o4).drew.heap[K]? = some o1 ∧ ((((w1.alloc o1).alloc o2).alloc o3).alloc o4).drew.heap[K + 1]? = some o2 ∧
    ((((w1.alloc o1).alloc o2).alloc o3).alloc o4).drew.heap[K + 1 + 1]? = some o3 ∧ ((((w1.alloc o1).alloc o2).alloc o3).alloc o4).drew.heap[K + 1 + 1 + 1]? = some o4 ∧
    ((((w1.alloc o1).alloc o2).alloc o3).alloc o4).drew.heap.size = K + 4 ∧ Below K w1 ((((w1.alloc o1).alloc o2).alloc o3).alloc o4).drew := by
  subst hK
  have hb : Below w1.heap.size w1 ((((w1.alloc o1).alloc o2).alloc o3).alloc o4) := by
    refine ((((Below.refl _ _).alloc ?_ _).alloc ?_ _).alloc ?_ _).alloc ?_ _ <;> simp <;> omega
  obtain ⟨a1, p1⟩ := MapKept.heap_alloc w1 o1
  obtain ⟨a2, p2⟩ := MapKept.heap_alloc (w1.alloc o1) o2
  obtain ⟨a3, p3⟩ := MapKept.heap_alloc ((w1.alloc o1).alloc o2) o3
  obtain ⟨a4, p4⟩ := MapKept.heap_alloc (((w1.alloc o1).alloc o2).alloc o3) o4
  simp only [World.size_alloc] at a2 p2 a3 p3 a4 p4
  refine ⟨?_, ?_, ?_, a4, ?_, hb.drew⟩
  · exact (p4 _ (by omega)).trans ((p3 _ (by omega)).trans ((p2 _ (by omega)).trans a1))
  · exact (p4 _ (by omega)).trans ((p3 _ (by omega)).trans a2)
  · exact (p4 _ (by omega)).trans a3
  · show ((((w1.alloc o1).alloc o2).alloc o3).alloc o4).heap.size = _
    simp only [World.size_alloc]

structure FSt (w0 : World) (n b1 b2 b3 b5 : Nat) (fa fw : Nat → Bool) (fs : ByteArray → Option Bool) (cnt : Nat) (wr : World) : Prop where
  ra : BRow wr b1 n fa
  rw_ : BRow wr b2 n fw
  mp : TMap KS valS wr b3 fs cnt
  d0 : wr.cell? ⟨b5, 0, none⟩ = some (.slice (some ⟨b1, 0, none⟩) n n)
  d1 : wr.cell? ⟨b5, 1, none⟩ = some (.slice (some ⟨b2, 0, none⟩) n n)
  d2 : wr.cell? ⟨b5, 2, none⟩ = some (.map (some b3))
  bel : Below (w0.heap.size + 1) (w0.alloc (.cells #[.slice none 0 0, .slice none 0 0, .map none] 95)) wr
  l1 : b1 < wr.heap.size
  l2 : b2 < wr.heap.size
  l5 : b5 < wr.heap.size
  sz : w0.heap.size + 1 ≤ wr.heap.size
structure FNe (k0 b1 b2 b3 b5 : Nat) : Prop where
  n12 : b1 ≠ b2
  n13 : b1 ≠ b3
  n15 : b1 ≠ b5
  n23 : b2 ≠ b3
  n25 : b2 ≠ b5
  n35 : b3 ≠ b5
  g1 : k0 < b1
  g2 : k0 < b2
  g3 : k0 < b3
  g5 : k0 < b5
theorem FSt.below {w0 : World} {n b1 b2 b3 b5 : Nat} {fa fw : Nat → Bool} {fs : ByteArray → Option Bool} {cnt : Nat} {wr w' : World} (h : FSt w0 n b1 b2 b3 b5 fa fw fs cnt wr) (hb : Below wr.heap.size wr w') : FSt w0 n b1 b2 b3 b5 fa fw fs cnt w' := by
  have h1 := h.l1
  have h2 := h.l2
  have h5 := h.l5
  have hs := hb.size
  have hz := h.sz
  exact ⟨h.ra.below hb h1, h.rw_.below hb h2, h.mp.below hb h.mp.lt, (hb.cell (p := ⟨b5, 0, none⟩) h5).trans h.d0, (hb.cell (p := ⟨b5, 1, none⟩) h5).trans h.d1, (hb.cell (p := ⟨b5, 2, none⟩) h5).trans h.d2, h.bel.trans (hb.mono (by omega)), by omega, by omega, by omega, by omega⟩
theorem FSt.putA {w0 : World} {n b1 b2 b3 b5 : Nat} {fa fw fa' : Nat → Bool} {fs : ByteArray → Option Bool} {cnt : Nat} {wr w' : World} (h : FSt w0 n b1 b2 b3 b5 fa fw fs cnt wr) (e : FNe w0.heap.size b1 b2 b3 b5) (hr : BRow w' b1 n fa') (hg : wr.grownBy w' (some b1)) : FSt w0 n b1 b2 b3 b5 fa' fw fs cnt w' := by
  obtain ⟨n12, n13, n15, n23, n25, n35, g1, g2, g3, g5⟩ := e
  have h1 := h.l1
  have h2 := h.l2
  have h5 := h.l5
  have hs := hg.size
  have hz := h.sz
  exact ⟨hr, h.rw_.kept hg (by simp; omega), h.mp.kept hg (by simp; omega), hg.cell h.d0 (by simp; omega), hg.cell h.d1 (by simp; omega), hg.cell h.d2 (by simp; omega), h.bel.trans (grown_below hg (by omega) (by omega)), by omega, by omega, by omega, by omega⟩
theorem FSt.putW {w0 : World} {n b1 b2 b3 b5 : Nat} {fa fw fw' : Nat → Bool} {fs : ByteArray → Option Bool} {cnt : Nat} {wr w' : World} (h : FSt w0 n b1 b2 b3 b5 fa fw fs cnt wr) (e : FNe w0.heap.size b1 b2 b3 b5) (hr : BRow w' b2 n fw') (hg : wr.grownBy w' (some b2)) : FSt w0 n b1 b2 b3 b5 fa fw' fs cnt w' := by
  obtain ⟨n12, n13, n15, n23, n25, n35, g1, g2, g3, g5⟩ := e
  have h1 := h.l1
  have h2 := h.l2
  have h5 := h.l5
  have hs := hg.size
  have hz := h.sz
  exact ⟨h.ra.kept hg (by simp; omega), hr, h.mp.kept hg (by simp; omega), hg.cell h.d0 (by simp; omega), hg.cell h.d1 (by simp; omega), hg.cell h.d2 (by simp; omega), h.bel.trans (grown_below hg (by omega) (by omega)), by omega, by omega, by omega, by omega⟩
theorem FSt.putM {w0 : World} {n b1 b2 b3 b5 : Nat} {fa fw : Nat → Bool} {fs fs' : ByteArray → Option Bool} {cnt cnt' : Nat} {wr w' : World} (h : FSt w0 n b1 b2 b3 b5 fa fw fs cnt wr) (e : FNe w0.heap.size b1 b2 b3 b5) (hr : TMap KS valS w' b3 fs' cnt') (hg : wr.grownBy w' (some b3)) : FSt w0 n b1 b2 b3 b5 fa fw fs' cnt' w' := by
  obtain ⟨n12, n13, n15, n23, n25, n35, g1, g2, g3, g5⟩ := e
  have h1 := h.l1
  have h2 := h.l2
  have h5 := h.l5
  have hs := hg.size
  have hz := h.sz
  exact ⟨h.ra.kept hg (by simp; omega), h.rw_.kept hg (by simp; omega), hr, hg.cell h.d0 (by simp; omega), hg.cell h.d1 (by simp; omega), hg.cell h.d2 (by simp; omega), h.bel.trans (grown_below hg (by omega) (by omega)), by omega, by omega, by omega, by omega⟩

def FRel (l : List Claimed) (m : List Audit) (n b1 b2 b3 b5 : Nat) (w0 : World) (i : Value) (wr : World) : Prop :=
  ∃ k cnt : Nat, k ≤ m.length ∧ i = .int .i64 k ∧ FSt w0 n b1 b2 b3 b5 (audB (m.take k)) (wrB l (m.take k)) (setF (suB l (m.take k))) cnt wr ∧ cnt ≤ k

theorem three_setF {w : World} {b : Nat} {u0 u1 u2 : Value} (v0 v1 v2 : Value) (h0 : w.cell? ⟨b, 0, none⟩ = some u0) (h1 : w.cell? ⟨b, 1, none⟩ = some u1) (h2 : w.cell? ⟨b, 2, none⟩ = some u2) :
    (((w.setCell ⟨b, 0, none⟩ v0).setCell ⟨b, 1, none⟩ v1).setCell ⟨b, 2, none⟩ v2).cell? ⟨b, 0, none⟩ = some v0 ∧
    (((w.setCell ⟨b, 0, none⟩ v0).setCell ⟨b, 1, none⟩ v1).setCell ⟨b, 2, none⟩ v2).cell? ⟨b, 1, none⟩ = some v1 ∧
    (((w.setCell ⟨b, 0, none⟩ v0).setCell ⟨b, 1, none⟩ v1).setCell ⟨b, 2, none⟩ v2).cell? ⟨b, 2, none⟩ = some v2 := by
  have o : ∀ (W : World) (i j : Nat) (v : Value), i ≠ j → (W.setCell ⟨b, i, none⟩ v).cell? ⟨b, j, none⟩ = W.cell? ⟨b, j, none⟩ := fun W i j v hij => World.cell?_setCell_other _ _ _ _ (by simp)
  have s : ∀ (W : World) (i : Nat) (v u : Value), W.cell? ⟨b, i, none⟩ = some u → (W.setCell ⟨b, i, none⟩ v).cell? ⟨b, i, none⟩ = some v := fun W i v u hu => World.cell?_setCell_same' _ _ _ (by rw [hu]; rfl)
  refine ⟨?_, ?_, ?_⟩
  · rw [o _ 2 0 _ (by omega), o _ 1 0 _ (by omega)]; exact s _ 0 _ u0 h0
  · rw [o _ 2 1 _ (by omega)]; exact s _ 1 _ u1 (by rw [o _ 0 1 _ (by omega)]; exact h1)
  · exact s _ 2 _ u2 (by rw [o _ 1 2 _ (by omega), o _ 0 2 _ (by omega)]; exact h2)
theorem res3F {w wr : World} {v0 v1 v2 : Value} {T : TypeId} (hb : Below (w.alloc (.cells #[v0, v1, v2] T)).heap.size (w.alloc (.cells #[v0, v1, v2] T)) wr) :
    wr.cell? ⟨w.heap.size, 0, none⟩ = some v0 ∧ wr.cell? ⟨w.heap.size, 1, none⟩ = some v1 ∧ wr.cell? ⟨w.heap.size, 2, none⟩ = some v2 ∧
    wr.frozen? ⟨w.heap.size, 0, none⟩ = false ∧ wr.frozen? ⟨w.heap.size, 1, none⟩ = false ∧ wr.frozen? ⟨w.heap.size, 2, none⟩ = false := by
  have hf : ∀ j, wr.frozen? ⟨w.heap.size, j, none⟩ = false := fun j => (hb.frozen (by simp)).trans (by simp only [World.frozen?, (MapKept.heap_alloc w (.cells #[v0, v1, v2] T)).1]; simp)
  exact ⟨(hb.cell (by simp)).trans (by simp [go_sem]), (hb.cell (by simp)).trans (by simp [go_sem]), (hb.cell (by simp)).trans (by simp [go_sem]), hf 0, hf 1, hf 2⟩

set_option maxRecDepth 100000 in
set_option maxHeartbeats 8000000 in
theorem facts_any (A : Option Addr) (n c : Nat) (l : List Claimed) (B : Option Addr) (mn mc : Nat) (m : List Audit) (w : World) (hn : n ≤ 1000) (hmn : mn ≤ 1000) (hl : SlAt RClaimed w A n l) (hma : SlAt RAudit w B mn m) (hr : ∀ a ∈ m, 0 ≤ a.number ∧ a.number < n) :
    Calls Tryz.prog 61 #[.slice A n c, .slice B mn mc] w fun e w' =>
      ∃ b1 b2 b3 c3, e = .returned (.agg #[.slice (some ⟨b1, 0, none⟩) n n, .slice (some ⟨b2, 0, none⟩) n n, .map (some b3)]) ∧ FactsOk l m n b1 b2 b3 c3 w' ∧ Below w.heap.size w w' := by
  have hll := hl.1
  have hml := hma.1
  have hmk := @run_makeMap Tryz.prog
  have hmkB := run_makeB n (by omega)
  have hlH := Lib.hid hl
  clear hl
  have hllH := Lib.hid hll
  clear hll
  have hmaH := Lib.hid hma
  clear hma
  have hmlH := Lib.hid hml
  clear hml
  have hrH := Lib.hid hr
  clear hr
  go_enter Tryz.func61, Tryz.ntmps61
  go_wp2_with fail
  rename_i Q' KK hKK
  have key : ∀ (b1 b2 b3 b5 : Nat) (W : World), FSt w n b1 b2 b3 b5 (fun _ => false) (fun _ => false) (fun _ => none) 0 W → FNe w.heap.size b1 b2 b3 b5 →
      Exit.then KK Q' Exit.normal { tmps := #[Value.slice A n c, Value.slice B mn mc, undef, undef, Value.pointer (some { block := w.heap.size, off := 0 }), Value.pointer (some { block := b5, off := 0 }), undef, undef, Value.slice A n c, Value.int IntKind.i64 ↑n, Value.slice (some { block := b1, off := 0 }) n n, Value.slice A n c,
          Value.int IntKind.i64 ↑n, Value.slice (some { block := b2, off := 0 }) n n, Value.map (some b3), Value.agg #[Value.slice (some { block := b1, off := 0 }) n n, Value.slice (some { block := b2, off := 0 }) n n, Value.map (some b3)],
          undef, undef, undef, undef, undef, undef, undef, undef, undef, undef, undef, undef, undef, undef, undef, undef, undef, undef, undef, undef, undef, undef, undef, undef, undef, undef, undef, undef, undef, undef, undef, undef, undef, undef, undef], defers := [] } W := by
    intro b1 b2 b3 b5 W hst hne
    have hstH := Lib.hid hst
    clear hst
    have hneH := Lib.hid hne
    clear hne
    clear hmk hmkB
    go_wp2_with fail
    go_loopw [18] (fun i wr => FRel l m n b1 b2 b3 b5 w i wr) (fun i _ => mn - (intOf i).toNat)
    case atStart => exact ⟨0, 0, Nat.zero_le _, rfl, hstH.out, Nat.le_refl _⟩
    case round =>
      obtain ⟨k, cnt, hk, rfl, hst, hcnt⟩ := hrel
      have hkl : k ≤ mn := by have := hmlH.out; omega
      by_cases hlt : k < mn
      · obtain ⟨b, off, hB, _⟩ := hmaH.out.2.1 (by omega)
        subst hB
        obtain ⟨x, hx⟩ : ∃ x, m[k]? = some x := ⟨m[k]'(by have := hmlH.out; omega), List.getElem?_eq_getElem _⟩
        obtain ⟨hn0, hn1⟩ := hrH.out x (List.mem_of_getElem? hx)
        obtain ⟨number, result, aat⟩ := x
        simp only at hn0 hn1
        obtain ⟨nn, rfl⟩ : ∃ nn : Nat, number = nn := ⟨number.toNat, by omega⟩
        have hnn : nn < n := by omega
        have hkl2 : k + 1 ≤ m.length := by have := hmlH.out; omega
        have htk : m.take (k + 1) = m.take k ++ [⟨nn, result, aat⟩] := by rw [List.take_add_one, hx]; rfl
        have hb0 : Below w.heap.size w wr := ((Below.refl w.heap.size w).alloc (Nat.le_refl _) _).trans (hst.bel.mono (by omega))
        obtain ⟨c0, c1, c2⟩ := cells_Audit (hmaH.out.below hb0) hx
        have hstA := hst.below ((Below.refl wr.heap.size wr).alloc (Nat.le_refl _) (.cells #[.int .i64 nn, .string result, .int .i64 aat] 48))
        obtain ⟨g1, z1⟩ := hstA.ra nn hnn
        have d0 := hstA.d0
        have hgA := grown_setc wr ⟨b1, nn, none⟩ (.bool true)
        have hst2 := (hst.putA hneH.out (hst.ra.set (k := nn) true) hgA).below ((Below.refl _ _).alloc (Nat.le_refl _) (.cells #[.int .i64 nn, .string result, .int .i64 aat] 48))
        have hl1 := hst.l1
        have hl2 := hst.l2
        obtain ⟨W2, hW2⟩ : ∃ W, W = (wr.setCell ⟨b1, nn, none⟩ (.bool true)).alloc (.cells #[.int .i64 nn, .string result, .int .i64 aat] 48) := ⟨_, rfl⟩
        have q0 : W2.cell? ⟨wr.heap.size, 0, none⟩ = some (.int .i64 nn) := by
          have := cell_new (wr.setCell ⟨b1, nn, none⟩ (.bool true)) #[.int .i64 nn, .string result, .int .i64 aat] 48 0
          rw [hW2]; simpa using this
        have q1 : W2.cell? ⟨wr.heap.size, 1, none⟩ = some (.string result) := by
          have := cell_new (wr.setCell ⟨b1, nn, none⟩ (.bool true)) #[.int .i64 nn, .string result, .int .i64 aat] 48 1
          rw [hW2]; simpa using this
        rw [← hW2] at hst2
        clear hgA
        have hb2 : Below w.heap.size w W2 := ((Below.refl w.heap.size w).alloc (Nat.le_refl _) _).trans (hst2.bel.mono (by omega))
        obtain ⟨bl, offl, hAl, _⟩ := hlH.out.2.1 (by omega)
        subst hAl
        obtain ⟨z, hz⟩ : ∃ z, l[nn]? = some z := ⟨l[nn]'(by have := hllH.out; omega), List.getElem?_eq_getElem _⟩
        obtain ⟨_, _, e2, e3, _, _, _⟩ := cells_Claimed (hlH.out.below hb2) hz
        have hwz : z.writer.size ≤ maxLen := (hlH.out.2.2 z (List.mem_of_getElem? hz)).2.2.2.1
        have hbadE : badA l ⟨nn, result, aat⟩ = !decide (result = z.result) := by unfold badA; simp only; rw [resOf_get hz]
        have hwrE := wriOf_get hz
        have hnI : (nn : Int) < (n : Int) := by omega
        have had := audB_snoc (m.take k) nn result aat
        have hwd := wrB_snoc l (m.take k) nn result aat
        have hsd := suB_snoc l (m.take k) ⟨nn, result, aat⟩
        rw [← htk] at had hwd hsd
        simp only at hsd
        rw [hwrE] at hsd
        clear hn0 hn1 htk
        have hxH := Lib.hid hx
        clear hx
        have hstH := Lib.hid hst
        clear hst
        have hstAH := Lib.hid hstA
        clear hstA
        have hst2H := Lib.hid hst2
        clear hst2
        have hb0H := Lib.hid hb0
        clear hb0
        have hb2H := Lib.hid hb2
        clear hb2
        have hzH := Lib.hid hz
        clear hz
        have hwzH := Lib.hid hwz
        clear hwz
        have hkl2H := Lib.hid hkl2
        clear hkl2
        have hadH := Lib.hid had
        clear had
        have hwdH := Lib.hid hwd
        clear hwd
        have hsdH := Lib.hid hsd
        clear hsd
        go_wp2_with fail
        rw [← hW2]
        clear c0 c1 c2 g1 z1 d0 hW2
        by_cases hbad : result = z.result
        · have hres : (result.toList == z.result.toList) = true := by rw [beq_data, decide_eq_true hbad]
          rw [decide_eq_true hbad] at hbadE
          have hbadE : badA l ⟨nn, result, aat⟩ = false := hbadE
          have hbadH := Lib.hid hbad
          clear hbad
          have hbadEH := Lib.hid hbadE
          clear hbadE
          go_quiet (fail)
          have R : FRel l m n b1 b2 b3 b5 w (.int .i64 (k + 1)) (W2.drewN nq) := by
            refine ⟨k + 1, cnt, hkl2H.out, by go_num, ?_, by omega⟩
            rw [hadH.out, hwdH.out, hsdH.out, if_neg (by rw [hbadEH.out]; decide), if_neg (by rw [hbadEH.out]; decide)]
            exact hst2H.out.below (bel_drewN (Below.refl _ _) _)
          have RH := Lib.hid R
          clear R
          go_wp2
          refine ⟨?rel, ?measure⟩
          case measure => (simp [intOf]; omega)
          case rel => first | exact RH.out | exact ⟨rfl, RH.out⟩ | ((try refine ⟨rfl, ?_⟩); (repeat apply Exists.intro); refine ⟨RH.out, ?_⟩; ((repeat' apply And.intro) <;> rfl))
        · have hres : (result.toList == z.result.toList) = false := by rw [beq_data, decide_eq_false hbad]
          rw [decide_eq_false hbad] at hbadE
          have hbadE : badA l ⟨nn, result, aat⟩ = true := hbadE
          have hbadH := Lib.hid hbad
          clear hbad
          have hbadEH := Lib.hid hbadE
          clear hbadE
          go_quiet (fail)
          have hst3 := hst2H.out.below (bel_drewN (Below.refl W2.heap.size W2) nq)
          have q0 : (W2.drewN nq).cell? ⟨wr.heap.size, 0, none⟩ = some (.int .i64 nn) := q0
          have e3 : (W2.drewN nq).cell? ⟨bl, offl + nn * 7 + 3, none⟩ = some (.string z.writer) := e3
          obtain ⟨W3, hW3⟩ : ∃ W, W = W2.drewN nq := ⟨_, rfl⟩
          rw [← hW3] at hst3 q0 e3 ⊢
          obtain ⟨g2, z2⟩ := hst3.rw_ nn hnn
          have d1 := hst3.d1
          have d2 := hst3.d2
          have hgW := grown_setc W3 ⟨b2, nn, none⟩ (.bool true)
          have hst4 := hst3.putW hneH.out (hst3.rw_.set (k := nn) true) hgW
          have hbl : bl < w.heap.size := by
            obtain ⟨a0, _⟩ := cells_Claimed hlH.out hzH.out
            exact cell?_lt a0
          have hg2 := hneH.out.g2
          have q0' : (W3.setCell ⟨b2, nn, none⟩ (.bool true)).cell? ⟨wr.heap.size, 0, none⟩ = some (.int .i64 nn) := hgW.cell q0 (by simp; omega)
          have e3' : (W3.setCell ⟨b2, nn, none⟩ (.bool true)).cell? ⟨bl, offl + nn * 7 + 3, none⟩ = some (.string z.writer) := hgW.cell e3 (by simp; omega)
          have d2' := hst4.d2
          obtain ⟨W5, hupd, hm5, hg5⟩ := (hst4.mp.below (Below.refl _ _).drew hst4.mp.lt).store Tryz.underlying81 injS (by simp only [maxLen]; omega) (x := z.writer) hwzH.out true
          replace hupd : (Instr.mapUpdate 81 (.map (some b3)) (.string z.writer) (.bool true)).run Tryz.prog (W3.setCell ⟨b2, nn, none⟩ (.bool true)).drew = .ok () W5 := hupd
          have hst5 := (hst4.below (Below.refl _ _).drew).putM hneH.out hm5 hg5.grown
          have R : FRel l m n b1 b2 b3 b5 w (.int .i64 (k + 1)) W5 := by
            refine ⟨k + 1, _, hkl2H.out, by go_num, ?_, Nat.le_trans (ite_le_succ ((setF (suB l (List.take k m)) z.writer).isSome = true) cnt) (by omega)⟩
            rw [hadH.out, hwdH.out, hsdH.out, if_pos hbadEH.out, if_pos hbadEH.out, ← setF_upd]
            exact hst5
          clear hst5 hm5 hg5 hgW hst4 hst3 hW3
          have RH := Lib.hid R
          clear R
          go_wp2_with fail
          go_region
          go_wp2
          refine ⟨?rel, ?measure⟩
          case measure => (simp [intOf]; omega)
          case rel => first | exact RH.out | exact ⟨rfl, RH.out⟩ | ((try refine ⟨rfl, ?_⟩); (repeat apply Exists.intro); refine ⟨RH.out, ?_⟩; ((repeat' apply And.intro) <;> rfl))
      · have e : m.take k = m := List.take_of_length_le (by have := hmlH.out; omega)
        rw [e] at hst
        obtain ⟨r0, r1, r2, f0, f1, f2⟩ := res3F (wr := wr) (by rw [World.size_alloc]; exact hst.bel)
        obtain ⟨t0, t1, t2⟩ := three_setF (.slice (some ⟨b1, 0, none⟩) n n) (.slice (some ⟨b2, 0, none⟩) n n) (.map (some b3)) r0 r1 r2
        have d0 := hst.d0
        have d1 := hst.d1
        have d2 := hst.d2
        have hb0 : Below w.heap.size w wr := ((Below.refl w.heap.size w).alloc (Nat.le_refl _) _).trans (hst.bel.mono (by omega))
        have hstH := Lib.hid hst
        clear hst
        have hb0H := Lib.hid hb0
        clear hb0
        have eH := Lib.hid e
        clear e
        go_wp2
        refine bodyPost_ret (v := .agg #[.slice (some ⟨b1, 0, none⟩) n n, .slice (some ⟨b2, 0, none⟩) n n, .map (some b3)]) (by simp [results, Tryz.results61, go_sem, t0, t1, t2]) rfl ⟨b1, b2, b3, cnt, rfl, ?_, ((hb0H.out.setCell (Nat.le_refl _) _).setCell (Nat.le_refl _) _).setCell (Nat.le_refl _) _⟩
        have hs := hstH.out
        obtain ⟨n12, n13, n15, n23, n25, n35, g1, g2, g3, g5⟩ := hneH.out
        have hg : ∀ (W : World) (j : Nat) (v : Value), W.grownBy (W.setCell ⟨w.heap.size, j, none⟩ v) (some w.heap.size) := fun W j v => grown_setc W ⟨w.heap.size, j, none⟩ v
        have k1 := hs.l1
        have k2 := hs.l2
        refine ⟨((hs.ra.kept (hg _ _ _) (by simp; omega)).kept (hg _ _ _) (by simp; omega)).kept (hg _ _ _) (by simp; omega), ((hs.rw_.kept (hg _ _ _) (by simp; omega)).kept (hg _ _ _) (by simp; omega)).kept (hg _ _ _) (by simp; omega), ((hs.mp.kept (hg _ _ _) (by simp; omega)).kept (hg _ _ _) (by simp; omega)).kept (hg _ _ _) (by simp; omega), by simp; omega, by simp; omega, by omega⟩
  go_region
  all_goals
    refine key _ _ _ _ _ ?_ ?_
    · obtain ⟨k1, k2, k3, k4, k5, k6⟩ := chain4 (w.alloc (.cells #[.slice none 0 0, .slice none 0 0, .map none] 95)) _ _ _ _ (w.heap.size + 1) (by simp)
      refine ⟨brow_of_heap (by assumption), brow_of_heap (by assumption), tmap_of_heap KS valS (by assumption), ?_, ?_, ?_, k6, ?_, ?_, ?_, ?_⟩
      · first | exact (cell_of_heap k1) | exact (cell_of_heap k2) | exact (cell_of_heap k3) | exact (cell_of_heap k4)
      · first | exact (cell_of_heap k1) | exact (cell_of_heap k2) | exact (cell_of_heap k3) | exact (cell_of_heap k4)
      · first | exact (cell_of_heap k1) | exact (cell_of_heap k2) | exact (cell_of_heap k3) | exact (cell_of_heap k4)
      all_goals omega
    · constructor <;> omega
end Go.Proofs.YtaeeicnbnohghaaGreatDoor.C11
