/-
  tainted, of the program.
-/
import Derived.Test.YtaeeicnbnohghaaGreatDoorFactsPC11
import Derived.Test.YtaeeicnbnohghaaGreatDoorTaintPC11
import Derived.Test.YtaeeicnbnohghaaGreatDoorFunc11C11
namespace Go.Proofs.YtaeeicnbnohghaaGreatDoor.C11
open Go.RowKit
set_option linter.unusedVariables false

theorem taint_fn (l : List Claimed) (m : List Audit) (k pm pg bm bg c5 c6 : Nat) (u : ByteArray) (W : World) (hp1 : W.cell? ⟨pm, 0, none⟩ = some (.map (some bm))) (hp2 : W.cell? ⟨pg, 0, none⟩ = some (.map (some bg)))
    (h5 : TMap KS valS W bm (setF (badF l m k)) c5) (h6 : TMap KS valS W bg (setF (goodF l m k)) c6) (hu : u.size ≤ maxLen) :
    Calls Tryz.prog 92 #[.string u, .pointer (some ⟨pm, 0, none⟩), .pointer (some ⟨pg, 0, none⟩)] W fun e w' => e = .returned (.bool (useP l m k u)) ∧ Below W.heap.size W w' := by
  unfold useP
  cases h1 : badF l m k u
  · have lk1 := lookS h5 u hu false h1
    have lk2 := lookS h6 u hu _ rfl
    have h5H := Lib.hid h5
    clear h5
    have h6H := Lib.hid h6
    clear h6
    have h1H := Lib.hid h1
    clear h1
    go_enter Tryz.func92, Tryz.ntmps92
    go_wp2
    go_ret
    exact ⟨rfl, Below.refl _ _⟩
  · have lk1 := lookS h5 u hu true h1
    cases h2 : goodF l m k u
    · have lk2 := lookS h6 u hu false h2
      have h5H := Lib.hid h5
      clear h5
      have h6H := Lib.hid h6
      clear h6
      have h1H := Lib.hid h1
      clear h1
      have h2H := Lib.hid h2
      clear h2
      go_enter Tryz.func92, Tryz.ntmps92
      go_wp2
      go_ret
      exact ⟨rfl, Below.refl _ _⟩
    · have lk2 := lookS h6 u hu true h2
      have h5H := Lib.hid h5
      clear h5
      have h6H := Lib.hid h6
      clear h6
      have h1H := Lib.hid h1
      clear h1
      have h2H := Lib.hid h2
      clear h2
      go_enter Tryz.func92, Tryz.ntmps92
      go_wp2
      go_ret
      exact ⟨rfl, Below.refl _ _⟩

structure TSt (n bo bm bg pm pg : Nat) (fo : Nat → Bool) (fb fg : ByteArray → Option Bool) (c5 c6 : Nat) (w2 wr : World) : Prop where
  ro : BRow wr bo n fo
  mb : TMap KS valS wr bm fb c5
  mg : TMap KS valS wr bg fg c6
  p1 : wr.cell? ⟨pm, 0, none⟩ = some (.map (some bm))
  p2 : wr.cell? ⟨pg, 0, none⟩ = some (.map (some bg))
  bel : Below w2.heap.size w2 wr
  lo : bo < wr.heap.size
  l1 : pm < wr.heap.size
  l2 : pg < wr.heap.size
structure TNe (K bo bm bg pm pg : Nat) : Prop where
  n1 : bo ≠ bm
  n2 : bo ≠ bg
  n3 : bo ≠ pm
  n4 : bo ≠ pg
  n5 : bm ≠ bg
  n6 : bm ≠ pm
  n7 : bm ≠ pg
  n8 : bg ≠ pm
  n9 : bg ≠ pg
  g1 : K ≤ bo
  g2 : K ≤ bm
  g3 : K ≤ bg
theorem TSt.below {n bo bm bg pm pg : Nat} {fo : Nat → Bool} {fb fg : ByteArray → Option Bool} {c5 c6 : Nat} {w2 wr w' : World} (h : TSt n bo bm bg pm pg fo fb fg c5 c6 w2 wr) (hb : Below wr.heap.size wr w') : TSt n bo bm bg pm pg fo fb fg c5 c6 w2 w' := by
  have h1 := h.lo
  have h2 := h.l1
  have h3 := h.l2
  have hs := hb.size
  exact ⟨h.ro.below hb h1, h.mb.below hb h.mb.lt, h.mg.below hb h.mg.lt, (hb.cell (p := ⟨pm, 0, none⟩) h2).trans h.p1, (hb.cell (p := ⟨pg, 0, none⟩) h3).trans h.p2, h.bel.trans (hb.mono h.bel.size), by omega, by omega, by omega⟩
theorem TSt.putO {n bo bm bg pm pg : Nat} {fo fo' : Nat → Bool} {fb fg : ByteArray → Option Bool} {c5 c6 : Nat} {w2 wr w' : World} (h : TSt n bo bm bg pm pg fo fb fg c5 c6 w2 wr) (e : TNe w2.heap.size bo bm bg pm pg) (hr : BRow w' bo n fo') (hg : wr.grownBy w' (some bo)) : TSt n bo bm bg pm pg fo' fb fg c5 c6 w2 w' := by
  obtain ⟨n1, n2, n3, n4, n5, n6, n7, n8, n9, g1, g2, g3⟩ := e
  have h1 := h.lo
  have h2 := h.l1
  have h3 := h.l2
  have hs := hg.size
  exact ⟨hr, h.mb.kept hg (by simp; omega), h.mg.kept hg (by simp; omega), hg.cell h.p1 (by simp; omega), hg.cell h.p2 (by simp; omega), h.bel.trans (grown_below hg (by omega) h.bel.size), by omega, by omega, by omega⟩
theorem TSt.putB {n bo bm bg pm pg : Nat} {fo : Nat → Bool} {fb fb' fg : ByteArray → Option Bool} {c5 c6 c5' : Nat} {w2 wr w' : World} (h : TSt n bo bm bg pm pg fo fb fg c5 c6 w2 wr) (e : TNe w2.heap.size bo bm bg pm pg) (hr : TMap KS valS w' bm fb' c5') (hg : wr.grownBy w' (some bm)) : TSt n bo bm bg pm pg fo fb' fg c5' c6 w2 w' := by
  obtain ⟨n1, n2, n3, n4, n5, n6, n7, n8, n9, g1, g2, g3⟩ := e
  have h1 := h.lo
  have h2 := h.l1
  have h3 := h.l2
  have hs := hg.size
  exact ⟨h.ro.kept hg (by simp; omega), hr, h.mg.kept hg (by simp; omega), hg.cell h.p1 (by simp; omega), hg.cell h.p2 (by simp; omega), h.bel.trans (grown_below hg (by omega) h.bel.size), by omega, by omega, by omega⟩
theorem TSt.putG {n bo bm bg pm pg : Nat} {fo : Nat → Bool} {fb fg fg' : ByteArray → Option Bool} {c5 c6 c6' : Nat} {w2 wr w' : World} (h : TSt n bo bm bg pm pg fo fb fg c5 c6 w2 wr) (e : TNe w2.heap.size bo bm bg pm pg) (hr : TMap KS valS w' bg fg' c6') (hg : wr.grownBy w' (some bg)) : TSt n bo bm bg pm pg fo fb fg' c5 c6' w2 w' := by
  obtain ⟨n1, n2, n3, n4, n5, n6, n7, n8, n9, g1, g2, g3⟩ := e
  have h1 := h.lo
  have h2 := h.l1
  have h3 := h.l2
  have hs := hg.size
  exact ⟨h.ro.kept hg (by simp; omega), h.mb.kept hg (by simp; omega), hr, hg.cell h.p1 (by simp; omega), hg.cell h.p2 (by simp; omega), h.bel.trans (grown_below hg (by omega) h.bel.size), by omega, by omega, by omega⟩
def TnRel (l : List Claimed) (m : List Audit) (n bo bm bg pm pg : Nat) (w2 : World) (i : Value) (wr : World) : Prop :=
  ∃ k c5 c6 : Nat, k ≤ n ∧ i = .int .i64 k ∧ TSt n bo bm bg pm pg (pre l m k) (setF (badF l m k)) (setF (goodF l m k)) c5 c6 w2 wr ∧ c5 ≤ k ∧ c6 ≤ k

theorem chain5 (w1 : World) (o1 o2 o3 o4 o5 : Obj) :
    (((((w1.alloc o1).alloc o2).alloc o3).alloc o4).alloc o5).heap[w1.heap.size]? = some o1 ∧ (((((w1.alloc o1).alloc o2).alloc o3).alloc o4).alloc o5).heap[w1.heap.size + 1]? = some o2 ∧
    (((((w1.alloc o1).alloc o2).alloc o3).alloc o4).alloc o5).heap[w1.heap.size + 1 + 1]? = some o3 ∧ (((((w1.alloc o1).alloc o2).alloc o3).alloc o4).alloc o5).heap[w1.heap.size + 1 + 1 + 1]? = some o4 ∧
    (((((w1.alloc o1).alloc o2).alloc o3).alloc o4).alloc o5).heap[w1.heap.size + 1 + 1 + 1 + 1]? = some o5 ∧
    (((((w1.alloc o1).alloc o2).alloc o3).alloc o4).alloc o5).heap.size = w1.heap.size + 5 ∧ Below w1.heap.size w1 (((((w1.alloc o1).alloc o2).alloc o3).alloc o4).alloc o5) := by
  have hb : Below w1.heap.size w1 (((((w1.alloc o1).alloc o2).alloc o3).alloc o4).alloc o5) := by
    refine (((((Below.refl _ _).alloc ?_ _).alloc ?_ _).alloc ?_ _).alloc ?_ _).alloc ?_ _ <;> simp <;> omega
  obtain ⟨a1, p1⟩ := MapKept.heap_alloc w1 o1
  obtain ⟨a2, p2⟩ := MapKept.heap_alloc (w1.alloc o1) o2
  obtain ⟨a3, p3⟩ := MapKept.heap_alloc ((w1.alloc o1).alloc o2) o3
  obtain ⟨a4, p4⟩ := MapKept.heap_alloc (((w1.alloc o1).alloc o2).alloc o3) o4
  obtain ⟨a5, p5⟩ := MapKept.heap_alloc ((((w1.alloc o1).alloc o2).alloc o3).alloc o4) o5
  simp only [World.size_alloc] at a2 p2 a3 p3 a4 p4 a5 p5
  refine ⟨?_, ?_, ?_, ?_, a5, ?_, hb⟩
  · exact (p5 _ (by omega)).trans ((p4 _ (by omega)).trans ((p3 _ (by omega)).trans ((p2 _ (by omega)).trans a1)))
  · exact (p5 _ (by omega)).trans ((p4 _ (by omega)).trans ((p3 _ (by omega)).trans a2))
  · exact (p5 _ (by omega)).trans ((p4 _ (by omega)).trans a3)
  · exact (p5 _ (by omega)).trans a4
  · simp only [World.size_alloc]
theorem rel_tru {l : List Claimed} {m : List Audit} {n bo bm bg pm pg k c5 c6 : Nat} {w2 W w7 : World} {x : Claimed} (hne : TNe w2.heap.size bo bm bg pm pg) (hst : TSt n bo bm bg pm pg (pre l m (k + 1)) (setF (badF l m k)) (setF (goodF l m (k + 1))) c5 c6 w2 W) (hv : tStep l m (pre l m k) k = true) (hri : resOf l k = x.result)
    (hlt : k < n) (h5 : c5 ≤ k) (h6 : c6 ≤ k) (hm : TMap KS valS w7 bm (upd (setF (badF l m k)) x.result true) (if (setF (badF l m k) x.result).isSome = true then c5 else c5 + 1)) (hg : W.grownBy w7 (some bm)) : TnRel l m n bo bm bg pm pg w2 (.int .i64 (k + 1)) w7 := by
  refine ⟨k + 1, _, c6, hlt, by go_num, ?_, Nat.le_trans (ite_le_succ ((setF (badF l m k) x.result).isSome = true) c5) (by omega), by omega⟩
  rw [setF_upd] at hm
  have hbs := bad_step hv
  rw [hri] at hbs
  rw [hbs]
  exact hst.putB hne hm hg
theorem rel_fls {l : List Claimed} {m : List Audit} {n bo bm bg pm pg k c5 c6 : Nat} {w2 W w7 : World} {x : Claimed} (hne : TNe w2.heap.size bo bm bg pm pg) (hst : TSt n bo bm bg pm pg (pre l m (k + 1)) (setF (badF l m (k + 1))) (setF (goodF l m k)) c5 c6 w2 W) (hv : tStep l m (pre l m k) k = false) (hri : resOf l k = x.result)
    (hlt : k < n) (h5 : c5 ≤ k) (h6 : c6 ≤ k) (hm : TMap KS valS w7 bg (upd (setF (goodF l m k)) x.result true) (if (setF (goodF l m k) x.result).isSome = true then c6 else c6 + 1)) (hg : W.grownBy w7 (some bg)) : TnRel l m n bo bm bg pm pg w2 (.int .i64 (k + 1)) w7 := by
  refine ⟨k + 1, c5, _, hlt, by go_num, ?_, by omega, Nat.le_trans (ite_le_succ ((setF (goodF l m k) x.result).isSome = true) c6) (by omega)⟩
  rw [setF_upd] at hm
  have hbs := good_step hv
  rw [hri] at hbs
  rw [hbs]
  exact hst.putG hne hm hg
/-- behind the store of what is so of the k-th -/
theorem TSt.sto {l : List Claimed} {m : List Audit} {n bo bm bg pm pg k c5 c6 : Nat} {w2 W : World} {v : Bool} (hst : TSt n bo bm bg pm pg (pre l m k) (setF (badF l m k)) (setF (goodF l m k)) c5 c6 w2 W) (hne : TNe w2.heap.size bo bm bg pm pg) (hv : tStep l m (pre l m k) k = v) :
    TSt n bo bm bg pm pg (pre l m (k + 1)) (setF (badF l m (if v = true then k else k + 1))) (setF (goodF l m (if v = true then k + 1 else k))) c5 c6 w2 (W.setCell ⟨bo, k, none⟩ (.bool v)) := by
  have h := hst.putO hne (hst.ro.set (k := k) v) (grown_setc W ⟨bo, k, none⟩ (.bool v))
  rw [pre_upd, hv]
  cases v
  · rw [if_neg (by decide), if_neg (by decide), bad_keep hv]; exact h
  · rw [if_pos rfl, if_pos rfl, good_keep hv]; exact h

set_option maxRecDepth 100000 in
set_option maxHeartbeats 8000000 in
theorem tainted_any (A : Option Addr) (n c : Nat) (l : List Claimed) (B : Option Addr) (mn mc : Nat) (m : List Audit) (w : World) (hn : n ≤ 1000) (hmn : mn ≤ 1000) (hl : SlAt RClaimed w A n l) (hma : SlAt RAudit w B mn m) (hr : ∀ a ∈ m, 0 ≤ a.number ∧ a.number < n) :
    Calls Tryz.prog 55 #[.slice A n c, .slice B mn mc] w fun e w' => ∃ b, e = .returned (.slice (some ⟨b, 0, none⟩) n n) ∧ BRow w' b n (tntB l m) ∧ b < w'.heap.size ∧ Below w.heap.size w w' := by
  have hll := hl.1
  have hmk := @run_makeMap Tryz.prog
  have hmkB := run_makeB n (by omega)
  have hlH := Lib.hid hl
  clear hl
  have hllH := Lib.hid hll
  clear hll
  have hmaH := Lib.hid hma
  clear hma
  have hrH := Lib.hid hr
  clear hr
  go_enter Tryz.func55, Tryz.ntmps55
  go_wp2_with fail
  refine (facts_any A n c l B mn mc m _ hn hmn hlH.out hmaH.out hrH.out).mono ?_
  rintro e w1 ⟨b1, b2, b3, c3, rfl, hf, hb1⟩
  have hba := hb1.alloc hb1.size (.cells #[.slice (some ⟨b1, 0, none⟩) n n, .slice (some ⟨b2, 0, none⟩) n n, .map (some b3)] 95)
  have hfa := hf.below ((Below.refl w1.heap.size w1).alloc (Nat.le_refl _) (.cells #[.slice (some ⟨b1, 0, none⟩) n n, .slice (some ⟨b2, 0, none⟩) n n, .map (some b3)] 95)) (Nat.le_refl _)
  clear hf
  have hb1H := Lib.hid hb1
  clear hb1
  have hbaH := Lib.hid hba
  clear hba
  have hfaH := Lib.hid hfa
  clear hfa
  go_wp2_with fail
  refine (right_any A n c l m b1 b2 b3 c3 _ hn (hlH.out.below hbaH.out) hfaH.out).mono ?_
  rintro e w2 ⟨b4, c4, rfl, hm4, hb2⟩
  have e0 : w2.cell? ⟨w1.heap.size, 0, none⟩ = some (.slice (some ⟨b1, 0, none⟩) n n) := (hb2.cell (by simp)).trans (cell_new w1 _ _ 0)
  have e1 : w2.cell? ⟨w1.heap.size, 1, none⟩ = some (.slice (some ⟨b2, 0, none⟩) n n) := (hb2.cell (by simp)).trans (cell_new w1 _ _ 1)
  have hf2 := hfaH.out.below hb2 (Nat.le_refl _)
  have hbw := hbaH.out.trans (hb2.mono hbaH.out.size)
  have hx2 : w1.heap.size < w2.heap.size := by have := hb2.size; simp at this; omega
  clear hb2
  have hm4H := Lib.hid hm4
  clear hm4
  have hf2H := Lib.hid hf2
  clear hf2
  have hbwH := Lib.hid hbw
  clear hbw
  have hne : TNe w2.heap.size w2.heap.size (w2.heap.size + 1) (w2.heap.size + 1 + 1) (w2.heap.size + 1 + 1 + 1) (w2.heap.size + 1 + 1 + 1 + 1) := by constructor <;> omega
  have hneH := Lib.hid hne
  clear hne
  go_wp2_with fail
  go_loopw [27] (fun i wr => TnRel l m n w2.heap.size (w2.heap.size + 1) (w2.heap.size + 1 + 1) (w2.heap.size + 1 + 1 + 1) (w2.heap.size + 1 + 1 + 1 + 1) w2 i wr) (fun i _ => n - (intOf i).toNat)
  case atStart =>
    obtain ⟨k1, k2, k3, k4, k5, k6, k7⟩ := chain5 w2 (.cells (madeB n) 4) (.map #[] 0) (.map #[] 0) (.cells #[.map (some (w2.heap.size + 1))] 81) (.cells #[.map (some (w2.heap.size + 1 + 1))] 81)
    refine ⟨0, 0, 0, Nat.zero_le _, rfl, ⟨brow_of_heap k1, (tmap_of_heap KS valS k2).congr fun s _ => rfl, (tmap_of_heap KS valS k3).congr fun s _ => rfl, cell_of_heap k4, cell_of_heap k5, k7, by omega, by omega, by omega⟩, Nat.le_refl _, Nat.le_refl _⟩
  case round =>
    obtain ⟨k, c5, c6, hk, rfl, hst, hc5, hc6⟩ := hrel
    by_cases hlt : k < n
    · obtain ⟨b, off, hA, _⟩ := hlH.out.2.1 (by omega)
      subst hA
      obtain ⟨x, hx⟩ : ∃ x, l[k]? = some x := ⟨l[k]'(by have := hllH.out; omega), List.getElem?_eq_getElem _⟩
      have hbr : Below w.heap.size w wr := hbwH.out.trans (hst.bel.mono hbwH.out.size)
      obtain ⟨d0, d1, d2, d3, d4, d5, d6⟩ := cells_Claimed (hlH.out.below hbr) hx
      have hxok := RClaimed.mono _ _ _ (hbr.alloc hbr.size (.cells #[.string x.key, .string x.label, .string x.result, .string x.writer, .int .i64 x.at_, .slice x.uses.A x.uses.n x.uses.cap, .string x.sign] 25)) (hlH.out.2.2 x (List.mem_of_getElem? hx))
      have hrz : x.result.size ≤ maxLen := hxok.2.2.1
      have hwz : x.writer.size ≤ maxLen := hxok.2.2.2.1
      have hus : SlAt RStr (wr.alloc (.cells #[.string x.key, .string x.label, .string x.result, .string x.writer, .int .i64 x.at_, .slice x.uses.A x.uses.n x.uses.cap, .string x.sign] 25)) x.uses.A x.uses.n x.uses.l := hxok.2.2.2.2.2.1.1
      have hun : x.uses.n ≤ maxLen := Nat.le_trans hxok.2.2.2.2.2.1.2.1 hxok.2.2.2.2.2.1.2.2.1
      have hwi := wriOf_get hx
      have hri := resOf_get hx
      have hui := useOf_get hx
      have hal := (Below.refl wr.heap.size wr).alloc (Nat.le_refl _) (.cells #[.string x.key, .string x.label, .string x.result, .string x.writer, .int .i64 x.at_, .slice x.uses.A x.uses.n x.uses.cap, .string x.sign] 25)
      have hsa := hst.below hal
      have hbol : w2.heap.size < wr.heap.size := hst.lo
      have hma := (hm4H.out.below hst.bel hm4H.out.lt).alloc (.cells #[.string x.key, .string x.label, .string x.result, .string x.writer, .int .i64 x.at_, .slice x.uses.A x.uses.n x.uses.cap, .string x.sign] 25)
      have hfr := (hf2H.out.below hst.bel (Nat.le_refl _)).below hal (Nat.le_refl _)
      obtain ⟨ga, _⟩ := hfr.ra k hlt
      obtain ⟨gw, _⟩ := hfr.rw_ k hlt
      have g0 := (hst.bel.cell (p := ⟨w1.heap.size, 0, none⟩) hx2).trans e0
      have g1 := (hst.bel.cell (p := ⟨w1.heap.size, 1, none⟩) hx2).trans e1
      replace g0 := (hal.cell (p := ⟨w1.heap.size, 0, none⟩) (by show w1.heap.size < wr.heap.size; omega)).trans g0
      replace g1 := (hal.cell (p := ⟨w1.heap.size, 1, none⟩) (by show w1.heap.size < wr.heap.size; omega)).trans g1
      clear hfr hxok
      cases hwB : wrB l m k
      · rw [hwB] at gw
        cases hsB : suB l m x.writer
        · have lk := lookI hma x.writer hwz 0 (rgtF_none hsB) false (by rw [rgtF_some, hsB])
          clear ga
          have hxH := Lib.hid hx
          clear hx
          have hbrH := Lib.hid hbr
          clear hbr
          have hstH := Lib.hid hst
          clear hst
          have hsaH := Lib.hid hsa
          clear hsa
          have hmaH := Lib.hid hma
          clear hma
          have halH := Lib.hid hal
          clear hal
          have hrzH := Lib.hid hrz
          clear hrz
          have hwzH := Lib.hid hwz
          clear hwz
          have husH := Lib.hid hus
          clear hus
          have hunH := Lib.hid hun
          clear hun
          have hwiH := Lib.hid hwi
          clear hwi
          have hriH := Lib.hid hri
          clear hri
          have huiH := Lib.hid hui
          clear hui
          -- the uses are asked
          go_wp2_with fail
          refine (containsFunc_any 92 #[.pointer (some ⟨w2.heap.size + 1 + 1 + 1, 0, none⟩), .pointer (some ⟨w2.heap.size + 1 + 1 + 1 + 1, 0, none⟩)] (enters_of Tryz.func92 (by kernel_rfl) rfl) (useP l m k) x.uses.A x.uses.n x.uses.cap x.uses.l _ husH.out (by have := hunH.out; unfold maxLen at this; omega) (fun W u hu hbW => by
            have hsW := hsaH.out.below hbW
            exact taint_fn l m k _ _ _ _ c5 c6 u W hsW.p1 hsW.p2 hsW.mb hsW.mg (husH.out.2.2 u hu)) _ rfl).mono ?_
          rintro e w5 ⟨rfl, hb5⟩
          have hstw := hsaH.out.below hb5
          have hd2w : w5.cell? ⟨wr.heap.size, 2, none⟩ = some (.string x.result) := (hb5.cell (by simp)).trans (cell_new wr _ _ 2)
          obtain ⟨v, hv⟩ : ∃ v, tStep l m (pre l m k) k = v := ⟨_, rfl⟩
          have hvu : (x.uses.l).any (useP l m k) = v := by rw [← hv, tStep_parts, hwB, hwiH.out, hsB, huiH.out]; simp
          rw [hvu]
          clear hb5 hvu
          have hvH := Lib.hid hv
          clear hv
          cases v
          · obtain ⟨p2, z2⟩ := hstw.ro k hlt
            have hs6 := hstw.sto hneH.out hvH.out
            rw [if_neg (by decide), if_neg (by decide)] at hs6
            have q1 := hs6.p2
            have q2 := (hs6.ro k hlt).1
            rw [pre_new, hvH.out] at q2
            have q3 : (World.setCell w5 ⟨w2.heap.size, k, none⟩ (.bool false)).cell? ⟨wr.heap.size, 2, none⟩ = some (.string x.result) := (World.cell?_setCell_other _ _ _ _ (by simp <;> omega)).trans hd2w
            clear hstw hd2w
            have hs6H := Lib.hid hs6
            clear hs6
            go_wp2_with (at_mapUpdate; go_loud (refine wpList_tstore rfl (.tmp 76) (.tmp 78) (.const (.bool true)) 81 rfl Tryz.underlying81 injS rfl hs6H.out.mg (by simp only [maxLen]; omega) x.result rfl hrzH.out true rfl ?_); intro w7 hm7 hg7; have hm7H := Lib.hid hm7; clear hm7; have hg7H := Lib.hid hg7; clear hg7)
            have R := rel_fls (x := x) hneH.out hs6H.out hvH.out hriH.out hlt hc5 hc6 hm7H.out hg7H.out
            clear hm7H hg7H
            have RH := Lib.hid R
            clear R
            refine ⟨?rel, ?measure⟩
            case measure => (simp [intOf]; omega)
            case rel => first | exact RH.out | exact ⟨rfl, RH.out⟩ | ((try refine ⟨rfl, ?_⟩); (repeat apply Exists.intro); refine ⟨RH.out, ?_⟩; ((repeat' apply And.intro) <;> rfl))
          · obtain ⟨p2, z2⟩ := hstw.ro k hlt
            have hs6 := hstw.sto hneH.out hvH.out
            rw [if_pos rfl, if_pos rfl] at hs6
            have q1 := hs6.p1
            have q2 := (hs6.ro k hlt).1
            rw [pre_new, hvH.out] at q2
            have q3 : (World.setCell w5 ⟨w2.heap.size, k, none⟩ (.bool true)).cell? ⟨wr.heap.size, 2, none⟩ = some (.string x.result) := (World.cell?_setCell_other _ _ _ _ (by simp <;> omega)).trans hd2w
            clear hstw hd2w
            have hs6H := Lib.hid hs6
            clear hs6
            go_wp2_with (at_mapUpdate; go_loud (refine wpList_tstore rfl (.tmp 73) (.tmp 75) (.const (.bool true)) 81 rfl Tryz.underlying81 injS rfl hs6H.out.mb (by simp only [maxLen]; omega) x.result rfl hrzH.out true rfl ?_); intro w7 hm7 hg7; have hm7H := Lib.hid hm7; clear hm7; have hg7H := Lib.hid hg7; clear hg7)
            have R := rel_tru (x := x) hneH.out hs6H.out hvH.out hriH.out hlt hc5 hc6 hm7H.out hg7H.out
            clear hm7H hg7H
            have RH := Lib.hid R
            clear R
            refine ⟨?rel, ?measure⟩
            case measure => (simp [intOf]; omega)
            case rel => first | exact RH.out | exact ⟨rfl, RH.out⟩ | ((try refine ⟨rfl, ?_⟩); (repeat apply Exists.intro); refine ⟨RH.out, ?_⟩; ((repeat' apply And.intro) <;> rfl))
        · obtain ⟨r, hr⟩ : ∃ r, rgt l m n x.writer = r := ⟨_, rfl⟩
          have lk := lookI hma x.writer hwz r (by rw [rgtF_get hsB, hr]) true (by rw [rgtF_some, hsB])
          cases haB : audB m k
          · rw [haB] at ga
            by_cases hgt : r < (k : Int)
            · have hgd : decide (r < (k : Int)) = true := decide_eq_true hgt
              have hv : tStep l m (pre l m k) k = true := by rw [tStep_parts, hwB, hwi, hsB, haB, show l.length = n from hllH.out, hr, hgd]; rfl
              obtain ⟨p2, z2⟩ := hsa.ro k hlt
              have hs5 := hst.sto hneH.out hv
              rw [if_pos rfl, if_pos rfl] at hs5
              have hs6 := hs5.below ((Below.refl _ _).alloc (Nat.le_refl _) (.cells #[.string x.key, .string x.label, .string x.result, .string x.writer, .int .i64 x.at_, .slice x.uses.A x.uses.n x.uses.cap, .string x.sign] 25))
              clear hs5
              have q1 := hs6.p1
              have q2 := (hs6.ro k hlt).1
              rw [pre_new, hv] at q2
              have q3 : ((wr.setCell ⟨w2.heap.size, k, none⟩ (.bool true)).alloc (.cells #[.string x.key, .string x.label, .string x.result, .string x.writer, .int .i64 x.at_, .slice x.uses.A x.uses.n x.uses.cap, .string x.sign] 25)).cell? ⟨wr.heap.size, 2, none⟩ = some (.string x.result) := by
                have := cell_new (wr.setCell ⟨w2.heap.size, k, none⟩ (.bool true)) #[.string x.key, .string x.label, .string x.result, .string x.writer, .int .i64 x.at_, .slice x.uses.A x.uses.n x.uses.cap, .string x.sign] 25 2
                simpa using this
              have hxH := Lib.hid hx
              clear hx
              have hbrH := Lib.hid hbr
              clear hbr
              have hstH := Lib.hid hst
              clear hst
              have hsaH := Lib.hid hsa
              clear hsa
              have hmaH := Lib.hid hma
              clear hma
              have halH := Lib.hid hal
              clear hal
              have hrzH := Lib.hid hrz
              clear hrz
              have hwzH := Lib.hid hwz
              clear hwz
              have husH := Lib.hid hus
              clear hus
              have hunH := Lib.hid hun
              clear hun
              have hwiH := Lib.hid hwi
              clear hwi
              have hriH := Lib.hid hri
              clear hri
              have huiH := Lib.hid hui
              clear hui
              have hrH := Lib.hid hr
              clear hr
              have hvH := Lib.hid hv
              clear hv
              have hs6H := Lib.hid hs6
              clear hs6
              go_wp2_with (at_mapUpdate; go_loud (refine wpList_tstore rfl (.tmp 73) (.tmp 75) (.const (.bool true)) 81 rfl Tryz.underlying81 injS rfl hs6H.out.mb (by simp only [maxLen]; omega) x.result rfl hrzH.out true rfl ?_); intro w7 hm7 hg7; have hm7H := Lib.hid hm7; clear hm7; have hg7H := Lib.hid hg7; clear hg7)
              have R := rel_tru (x := x) hneH.out hs6H.out hvH.out hriH.out hlt hc5 hc6 hm7H.out hg7H.out
              clear hm7H hg7H
              have RH := Lib.hid R
              clear R
              refine ⟨?rel, ?measure⟩
              case measure => (simp [intOf]; omega)
              case rel => first | exact RH.out | exact ⟨rfl, RH.out⟩ | ((try refine ⟨rfl, ?_⟩); (repeat apply Exists.intro); refine ⟨RH.out, ?_⟩; ((repeat' apply And.intro) <;> rfl))
            · have hgd : decide (r < (k : Int)) = false := decide_eq_false hgt
              have hrn : rgt l m l.length x.writer = r := by rw [show l.length = n from hllH.out, hr]
              have hxH := Lib.hid hx
              clear hx
              have hbrH := Lib.hid hbr
              clear hbr
              have hstH := Lib.hid hst
              clear hst
              have hsaH := Lib.hid hsa
              clear hsa
              have hmaH := Lib.hid hma
              clear hma
              have halH := Lib.hid hal
              clear hal
              have hrzH := Lib.hid hrz
              clear hrz
              have hwzH := Lib.hid hwz
              clear hwz
              have husH := Lib.hid hus
              clear hus
              have hunH := Lib.hid hun
              clear hun
              have hwiH := Lib.hid hwi
              clear hwi
              have hriH := Lib.hid hri
              clear hri
              have huiH := Lib.hid hui
              clear hui
              have hrH := Lib.hid hr
              clear hr
              have hrnH := Lib.hid hrn
              clear hrn
              -- the uses are asked
              go_wp2_with fail
              refine (containsFunc_any 92 #[.pointer (some ⟨w2.heap.size + 1 + 1 + 1, 0, none⟩), .pointer (some ⟨w2.heap.size + 1 + 1 + 1 + 1, 0, none⟩)] (enters_of Tryz.func92 (by kernel_rfl) rfl) (useP l m k) x.uses.A x.uses.n x.uses.cap x.uses.l _ husH.out (by have := hunH.out; unfold maxLen at this; omega) (fun W u hu hbW => by
                have hsW := hsaH.out.below hbW
                exact taint_fn l m k _ _ _ _ c5 c6 u W hsW.p1 hsW.p2 hsW.mb hsW.mg (husH.out.2.2 u hu)) _ rfl).mono ?_
              rintro e w5 ⟨rfl, hb5⟩
              have hstw := hsaH.out.below hb5
              have hd2w : w5.cell? ⟨wr.heap.size, 2, none⟩ = some (.string x.result) := (hb5.cell (by simp)).trans (cell_new wr _ _ 2)
              obtain ⟨v, hv⟩ : ∃ v, tStep l m (pre l m k) k = v := ⟨_, rfl⟩
              have hvu : (x.uses.l).any (useP l m k) = v := by rw [← hv, tStep_parts, hwB, hwiH.out, hsB, haB, hrnH.out, hgd, huiH.out]; simp
              rw [hvu]
              clear hb5 hvu
              have hvH := Lib.hid hv
              clear hv
              cases v
              · obtain ⟨p2, z2⟩ := hstw.ro k hlt
                have hs6 := hstw.sto hneH.out hvH.out
                rw [if_neg (by decide), if_neg (by decide)] at hs6
                have q1 := hs6.p2
                have q2 := (hs6.ro k hlt).1
                rw [pre_new, hvH.out] at q2
                have q3 : (World.setCell w5 ⟨w2.heap.size, k, none⟩ (.bool false)).cell? ⟨wr.heap.size, 2, none⟩ = some (.string x.result) := (World.cell?_setCell_other _ _ _ _ (by simp <;> omega)).trans hd2w
                clear hstw hd2w
                have hs6H := Lib.hid hs6
                clear hs6
                go_wp2_with (at_mapUpdate; go_loud (refine wpList_tstore rfl (.tmp 76) (.tmp 78) (.const (.bool true)) 81 rfl Tryz.underlying81 injS rfl hs6H.out.mg (by simp only [maxLen]; omega) x.result rfl hrzH.out true rfl ?_); intro w7 hm7 hg7; have hm7H := Lib.hid hm7; clear hm7; have hg7H := Lib.hid hg7; clear hg7)
                have R := rel_fls (x := x) hneH.out hs6H.out hvH.out hriH.out hlt hc5 hc6 hm7H.out hg7H.out
                clear hm7H hg7H
                have RH := Lib.hid R
                clear R
                refine ⟨?rel, ?measure⟩
                case measure => (simp [intOf]; omega)
                case rel => first | exact RH.out | exact ⟨rfl, RH.out⟩ | ((try refine ⟨rfl, ?_⟩); (repeat apply Exists.intro); refine ⟨RH.out, ?_⟩; ((repeat' apply And.intro) <;> rfl))
              · obtain ⟨p2, z2⟩ := hstw.ro k hlt
                have hs6 := hstw.sto hneH.out hvH.out
                rw [if_pos rfl, if_pos rfl] at hs6
                have q1 := hs6.p1
                have q2 := (hs6.ro k hlt).1
                rw [pre_new, hvH.out] at q2
                have q3 : (World.setCell w5 ⟨w2.heap.size, k, none⟩ (.bool true)).cell? ⟨wr.heap.size, 2, none⟩ = some (.string x.result) := (World.cell?_setCell_other _ _ _ _ (by simp <;> omega)).trans hd2w
                clear hstw hd2w
                have hs6H := Lib.hid hs6
                clear hs6
                go_wp2_with (at_mapUpdate; go_loud (refine wpList_tstore rfl (.tmp 73) (.tmp 75) (.const (.bool true)) 81 rfl Tryz.underlying81 injS rfl hs6H.out.mb (by simp only [maxLen]; omega) x.result rfl hrzH.out true rfl ?_); intro w7 hm7 hg7; have hm7H := Lib.hid hm7; clear hm7; have hg7H := Lib.hid hg7; clear hg7)
                have R := rel_tru (x := x) hneH.out hs6H.out hvH.out hriH.out hlt hc5 hc6 hm7H.out hg7H.out
                clear hm7H hg7H
                have RH := Lib.hid R
                clear R
                refine ⟨?rel, ?measure⟩
                case measure => (simp [intOf]; omega)
                case rel => first | exact RH.out | exact ⟨rfl, RH.out⟩ | ((try refine ⟨rfl, ?_⟩); (repeat apply Exists.intro); refine ⟨RH.out, ?_⟩; ((repeat' apply And.intro) <;> rfl))
          · rw [haB] at ga
            have hxH := Lib.hid hx
            clear hx
            have hbrH := Lib.hid hbr
            clear hbr
            have hstH := Lib.hid hst
            clear hst
            have hsaH := Lib.hid hsa
            clear hsa
            have hmaH := Lib.hid hma
            clear hma
            have halH := Lib.hid hal
            clear hal
            have hrzH := Lib.hid hrz
            clear hrz
            have hwzH := Lib.hid hwz
            clear hwz
            have husH := Lib.hid hus
            clear hus
            have hunH := Lib.hid hun
            clear hun
            have hwiH := Lib.hid hwi
            clear hwi
            have hriH := Lib.hid hri
            clear hri
            have huiH := Lib.hid hui
            clear hui
            have hrH := Lib.hid hr
            clear hr
            -- the uses are asked
            go_wp2_with fail
            refine (containsFunc_any 92 #[.pointer (some ⟨w2.heap.size + 1 + 1 + 1, 0, none⟩), .pointer (some ⟨w2.heap.size + 1 + 1 + 1 + 1, 0, none⟩)] (enters_of Tryz.func92 (by kernel_rfl) rfl) (useP l m k) x.uses.A x.uses.n x.uses.cap x.uses.l _ husH.out (by have := hunH.out; unfold maxLen at this; omega) (fun W u hu hbW => by
              have hsW := hsaH.out.below hbW
              exact taint_fn l m k _ _ _ _ c5 c6 u W hsW.p1 hsW.p2 hsW.mb hsW.mg (husH.out.2.2 u hu)) _ rfl).mono ?_
            rintro e w5 ⟨rfl, hb5⟩
            have hstw := hsaH.out.below hb5
            have hd2w : w5.cell? ⟨wr.heap.size, 2, none⟩ = some (.string x.result) := (hb5.cell (by simp)).trans (cell_new wr _ _ 2)
            obtain ⟨v, hv⟩ : ∃ v, tStep l m (pre l m k) k = v := ⟨_, rfl⟩
            have hvu : (x.uses.l).any (useP l m k) = v := by rw [← hv, tStep_parts, hwB, hwiH.out, hsB, haB, huiH.out]; simp
            rw [hvu]
            clear hb5 hvu
            have hvH := Lib.hid hv
            clear hv
            cases v
            · obtain ⟨p2, z2⟩ := hstw.ro k hlt
              have hs6 := hstw.sto hneH.out hvH.out
              rw [if_neg (by decide), if_neg (by decide)] at hs6
              have q1 := hs6.p2
              have q2 := (hs6.ro k hlt).1
              rw [pre_new, hvH.out] at q2
              have q3 : (World.setCell w5 ⟨w2.heap.size, k, none⟩ (.bool false)).cell? ⟨wr.heap.size, 2, none⟩ = some (.string x.result) := (World.cell?_setCell_other _ _ _ _ (by simp <;> omega)).trans hd2w
              clear hstw hd2w
              have hs6H := Lib.hid hs6
              clear hs6
              go_wp2_with (at_mapUpdate; go_loud (refine wpList_tstore rfl (.tmp 76) (.tmp 78) (.const (.bool true)) 81 rfl Tryz.underlying81 injS rfl hs6H.out.mg (by simp only [maxLen]; omega) x.result rfl hrzH.out true rfl ?_); intro w7 hm7 hg7; have hm7H := Lib.hid hm7; clear hm7; have hg7H := Lib.hid hg7; clear hg7)
              have R := rel_fls (x := x) hneH.out hs6H.out hvH.out hriH.out hlt hc5 hc6 hm7H.out hg7H.out
              clear hm7H hg7H
              have RH := Lib.hid R
              clear R
              refine ⟨?rel, ?measure⟩
              case measure => (simp [intOf]; omega)
              case rel => first | exact RH.out | exact ⟨rfl, RH.out⟩ | ((try refine ⟨rfl, ?_⟩); (repeat apply Exists.intro); refine ⟨RH.out, ?_⟩; ((repeat' apply And.intro) <;> rfl))
            · obtain ⟨p2, z2⟩ := hstw.ro k hlt
              have hs6 := hstw.sto hneH.out hvH.out
              rw [if_pos rfl, if_pos rfl] at hs6
              have q1 := hs6.p1
              have q2 := (hs6.ro k hlt).1
              rw [pre_new, hvH.out] at q2
              have q3 : (World.setCell w5 ⟨w2.heap.size, k, none⟩ (.bool true)).cell? ⟨wr.heap.size, 2, none⟩ = some (.string x.result) := (World.cell?_setCell_other _ _ _ _ (by simp <;> omega)).trans hd2w
              clear hstw hd2w
              have hs6H := Lib.hid hs6
              clear hs6
              go_wp2_with (at_mapUpdate; go_loud (refine wpList_tstore rfl (.tmp 73) (.tmp 75) (.const (.bool true)) 81 rfl Tryz.underlying81 injS rfl hs6H.out.mb (by simp only [maxLen]; omega) x.result rfl hrzH.out true rfl ?_); intro w7 hm7 hg7; have hm7H := Lib.hid hm7; clear hm7; have hg7H := Lib.hid hg7; clear hg7)
              have R := rel_tru (x := x) hneH.out hs6H.out hvH.out hriH.out hlt hc5 hc6 hm7H.out hg7H.out
              clear hm7H hg7H
              have RH := Lib.hid R
              clear R
              refine ⟨?rel, ?measure⟩
              case measure => (simp [intOf]; omega)
              case rel => first | exact RH.out | exact ⟨rfl, RH.out⟩ | ((try refine ⟨rfl, ?_⟩); (repeat apply Exists.intro); refine ⟨RH.out, ?_⟩; ((repeat' apply And.intro) <;> rfl))
      · rw [hwB] at gw
        clear ga
        obtain ⟨r, hr⟩ : ∃ r, (rgtF l m n x.writer).getD 0 = r := ⟨_, rfl⟩
        obtain ⟨y, hy⟩ : ∃ y, (rgtF l m n x.writer).isSome = y := ⟨_, rfl⟩
        have lk := lookI hma x.writer hwz r hr y hy
        have hv : tStep l m (pre l m k) k = true := by rw [tStep_parts, hwB]; rfl
        have hyH := Lib.hid hy
        clear hy
        obtain ⟨p2, z2⟩ := hsa.ro k hlt
        have hs5 := hst.sto hneH.out hv
        rw [if_pos rfl, if_pos rfl] at hs5
        have hs6 := hs5.below ((Below.refl _ _).alloc (Nat.le_refl _) (.cells #[.string x.key, .string x.label, .string x.result, .string x.writer, .int .i64 x.at_, .slice x.uses.A x.uses.n x.uses.cap, .string x.sign] 25))
        clear hs5
        have q1 := hs6.p1
        have q2 := (hs6.ro k hlt).1
        rw [pre_new, hv] at q2
        have q3 : ((wr.setCell ⟨w2.heap.size, k, none⟩ (.bool true)).alloc (.cells #[.string x.key, .string x.label, .string x.result, .string x.writer, .int .i64 x.at_, .slice x.uses.A x.uses.n x.uses.cap, .string x.sign] 25)).cell? ⟨wr.heap.size, 2, none⟩ = some (.string x.result) := by
          have := cell_new (wr.setCell ⟨w2.heap.size, k, none⟩ (.bool true)) #[.string x.key, .string x.label, .string x.result, .string x.writer, .int .i64 x.at_, .slice x.uses.A x.uses.n x.uses.cap, .string x.sign] 25 2
          simpa using this
        have hxH := Lib.hid hx
        clear hx
        have hbrH := Lib.hid hbr
        clear hbr
        have hstH := Lib.hid hst
        clear hst
        have hsaH := Lib.hid hsa
        clear hsa
        have hmaH := Lib.hid hma
        clear hma
        have halH := Lib.hid hal
        clear hal
        have hrzH := Lib.hid hrz
        clear hrz
        have hwzH := Lib.hid hwz
        clear hwz
        have husH := Lib.hid hus
        clear hus
        have hunH := Lib.hid hun
        clear hun
        have hwiH := Lib.hid hwi
        clear hwi
        have hriH := Lib.hid hri
        clear hri
        have huiH := Lib.hid hui
        clear hui
        have hrH := Lib.hid hr
        clear hr
        have hvH := Lib.hid hv
        clear hv
        have hs6H := Lib.hid hs6
        clear hs6
        go_wp2_with (at_mapUpdate; go_loud (refine wpList_tstore rfl (.tmp 73) (.tmp 75) (.const (.bool true)) 81 rfl Tryz.underlying81 injS rfl hs6H.out.mb (by simp only [maxLen]; omega) x.result rfl hrzH.out true rfl ?_); intro w7 hm7 hg7; have hm7H := Lib.hid hm7; clear hm7; have hg7H := Lib.hid hg7; clear hg7)
        have R := rel_tru (x := x) hneH.out hs6H.out hvH.out hriH.out hlt hc5 hc6 hm7H.out hg7H.out
        clear hm7H hg7H
        have RH := Lib.hid R
        clear R
        refine ⟨?rel, ?measure⟩
        case measure => (simp [intOf]; omega)
        case rel => first | exact RH.out | exact ⟨rfl, RH.out⟩ | ((try refine ⟨rfl, ?_⟩); (repeat apply Exists.intro); refine ⟨RH.out, ?_⟩; ((repeat' apply And.intro) <;> rfl))
    · obtain rfl : k = n := by omega
      have hro := hst.ro
      have hlo := hst.lo
      have hbr : Below w.heap.size w wr := hbwH.out.trans (hst.bel.mono hbwH.out.size)
      have htn : pre l m k = tntB l m := by funext j; unfold tntB; rw [show l.length = k from hllH.out]
      rw [htn] at hro
      clear htn
      have hstH := Lib.hid hst
      clear hst
      have hroH := Lib.hid hro
      clear hro
      have hbrH := Lib.hid hbr
      clear hbr
      go_wp2
      go_ret
      exact ⟨_, rfl, hroH.out, hlo, hbrH.out⟩
end Go.Proofs.YtaeeicnbnohghaaGreatDoor.C11
