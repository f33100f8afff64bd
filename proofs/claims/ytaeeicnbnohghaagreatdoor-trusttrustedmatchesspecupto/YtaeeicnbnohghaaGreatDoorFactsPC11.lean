/-
  numbers, right, tainted: of the program (factsOf: XFacts).
-/
import Derived.Test.YtaeeicnbnohghaaGreatDoorFactsC11
namespace Go.Proofs.YtaeeicnbnohghaaGreatDoor.C11
open Go.RowKit
set_option linter.unusedVariables false

theorem elem_IntT : Elem Tryz.prog 3 RInt.size 8 := elem_of (z := .int .i64 0) (by kernel_rfl) (by decide)
def NumRel (f : Nat → Bool) (n : Nat) (w0 : World) (v i : Value) (wr : World) : Prop :=
  ∃ (k n' cap : Nat) (A : Option Addr), k ≤ n ∧ i = .int .i64 k ∧ v = .slice A n' cap ∧ Own RInt 3 wr w0.heap.size v (numsN f k) ∧ Below w0.heap.size w0 wr

set_option maxHeartbeats 1000000 in
theorem numbers_any (b n c : Nat) (f : Nat → Bool) (w : World) (hn : n ≤ 1000) (hr : BRow w b n f) :
    Calls Tryz.prog 57 #[.slice (some ⟨b, 0, none⟩) n c] w fun e w' => ∃ A k cap, e = .returned (.slice A k cap) ∧ Own RInt 3 w' w.heap.size (.slice A k cap) (numsN f n) ∧ k ≤ n ∧ Below w.heap.size w w' := by
  have hI : ∀ (W : World) (k : Nat), k ≤ 1000 → RInt.ok W (k : Int) := fun W k hk => ⟨by omega, by omega⟩
  have hrH := Lib.hid hr
  clear hr
  have hIH := Lib.hid hI
  clear hI
  go_enter Tryz.func57, Tryz.ntmps57
  go_wp2_with fail
  go_loopw [3, 8] (fun v i wr => NumRel f n w v i wr) (fun _ i _ => n - (intOf i).toNat)
  case atStart => exact ⟨0, 0, 0, none, Nat.zero_le _, rfl, rfl, Own.nil _ _, Below.refl _ _⟩
  case round =>
    obtain ⟨k, n', cap, A, hk, rfl, rfl, hown, hb⟩ := hrel
    have hbs := hb.size
    have hn' := hown.len
    have hnk := numsN_len f k
    rw [hn'] at hnk
    by_cases hlt : k < n
    · obtain ⟨d0, _⟩ := (hrH.out.keep (w' := wr) fun h => hb.block b h) k hlt
      have hat : numsN f (k + 1) = numsN f k ++ (if f k = true then [(k : Int)] else []) := rfl
      have hok := hIH.out wr k (by omega)
      have hownH := Lib.hid hown
      clear hown
      have hbH := Lib.hid hb
      clear hb
      have hn'H := Lib.hid hn'
      clear hn'
      have hokH := Lib.hid hok
      clear hok
      cases hf : f k
      · rw [hf] at d0 hat
        rw [if_neg (by decide), List.append_nil] at hat
        have R : NumRel f n w (.slice A n' cap) (.int .i64 (k + 1)) wr := ⟨k + 1, n', cap, A, hlt, by go_num, rfl, by rw [hat]; exact hownH.out, hbH.out⟩
        clear hat
        have RH := Lib.hid R
        clear R
        have hfH := Lib.hid hf
        clear hf
        go_wp2
        refine ⟨?rel, ?measure⟩
        case measure => (simp [intOf]; omega)
        case rel => first | exact RH.out | exact ⟨rfl, RH.out⟩ | ((try refine ⟨rfl, ?_⟩); (repeat apply Exists.intro); refine ⟨RH.out, ?_⟩; ((repeat' apply And.intro) <;> rfl))
      · rw [hf] at d0 hat
        rw [if_pos rfl] at hat
        have hatH := Lib.hid hat
        clear hat
        have hfH := Lib.hid hf
        clear hf
        go_wp2_with (at_builtin; go_loud (refine wpList_app rfl (.tmp 14) (.tmp 16) 49 rfl Tryz.underlying49 elem_IntT (by decide) rfl (hownH.out.alloc _) (some ⟨wr.heap.size, 0, none⟩) 1 1 [(k : Int)] rfl (slAt_new _ _ _ hokH.out) ?nn ?ok ?c1 ?c2 ?c3 (n' + 1) ?c4 ?_))
        case nn => intro h; cases h
        case ok => exact fun _ _ _ _ h => h
        case c1 => have := hn'H.out; simp [maxLen] <;> omega
        case c2 => have := hn'H.out; omega
        case c3 => simp <;> omega
        case c4 => have := hn'H.out; omega
        intro A' c' w7 hown7 hg7 hat7 hb7
        have R : NumRel f n w (.slice A' (n' + 1) c') (.int .i64 (k + 1)) w7 := by
          refine ⟨k + 1, n' + 1, c', A', hlt, by go_num, rfl, ?_, (hbH.out.alloc hbs _).trans hb7⟩
          rw [hatH.out]
          exact hown7
        clear hg7 hat7 hb7 hown7
        have RH := Lib.hid R
        clear R
        go_wp2
        refine ⟨?rel, ?measure⟩
        case measure => (simp [intOf]; omega)
        case rel => first | exact RH.out | exact ⟨rfl, RH.out⟩ | ((try refine ⟨rfl, ?_⟩); (repeat apply Exists.intro); refine ⟨RH.out, ?_⟩; ((repeat' apply And.intro) <;> rfl))
    · obtain rfl : k = n := by omega
      have hownH := Lib.hid hown
      clear hown
      have hbH := Lib.hid hb
      clear hb
      have hn'H := Lib.hid hn'
      clear hn'
      go_wp2
      go_ret
      exact ⟨A, n', cap, rfl, hownH.out, hnk, hbH.out⟩

theorem zeroI (w : World) : (zeroValue 3).run Tryz.prog w = .ok (Value.int .i64 0) w := by kernel_rfl
def valI (x : Int) : Value := .int .i64 x
theorem injI : InjV valI := fun _ _ h => by injection h
theorem lookS {w : World} {b c : Nat} {p : ByteArray → Bool} (h : TMap KS valS w b (setF p) c) (s : ByteArray) (hs : s.size ≤ maxLen) (v : Bool) (hv : p s = v) :
    (Instr.lookup 81 (.map (some b)) (.string s) false).run Tryz.prog w = .ok (.bool v) w := by
  have := (h.look Tryz.underlying81 (zeroS w) injS (x := s) hs).1
  rw [setF_getD, hv] at this
  exact this
theorem lookI {w : World} {b c : Nat} {f : ByteArray → Option Int} (h : TMap KS valI w b f c) (s : ByteArray) (hs : s.size ≤ maxLen) (v : Int) (hv : (f s).getD 0 = v) (y : Bool) (hy : (f s).isSome = y) :
    (Instr.lookup 120 (.map (some b)) (.string s) true).run Tryz.prog w = .ok (.tuple #[.int .i64 v, .bool y]) w := by
  have := (h.look (z0 := (0 : Int)) Tryz.underlying120 (zeroI w) injI (x := s) hs).2
  rw [hv, hy] at this
  exact this

/-! ### right -/
theorem rgtF_keep {l : List Claimed} {m : List Audit} {k : Nat} (h : wrB l m k = true ∨ (audB m k && (suB l m (wriOf l k) && !endB l m k (wriOf l k))) = false) : rgtF l m (k + 1) = rgtF l m k := by
  funext s
  unfold rgtF
  by_cases hs : suB l m s = true
  · rw [if_pos hs, if_pos hs]
    congr 1
    show (if (!wrB l m k && (audB m k && !endB l m k (wriOf l k)) && decide (wriOf l k = s)) = true then (k : Int) else rgt l m k s) = rgt l m k s
    rw [if_neg]
    intro hc
    simp only [Bool.and_eq_true, Bool.not_eq_true', decide_eq_true_iff] at hc
    obtain ⟨⟨h1, h2, h3⟩, h4⟩ := hc
    rcases h with h | h
    · rw [h] at h1; cases h1
    · rw [h2, h3, h4, hs] at h; cases h
  · rw [if_neg hs, if_neg hs]
theorem rgtF_upd {l : List Claimed} {m : List Audit} {k : Nat} (h1 : wrB l m k = false) (h2 : audB m k = true) (h3 : suB l m (wriOf l k) = true) (h4 : endB l m k (wriOf l k) = false) : upd (rgtF l m k) (wriOf l k) (k : Int) = rgtF l m (k + 1) := by
  funext s
  unfold upd rgtF
  show _ = if suB l m s = true then some (if (!wrB l m k && (audB m k && !endB l m k (wriOf l k)) && decide (wriOf l k = s)) = true then (k : Int) else rgt l m k s) else none
  rw [h1, h2, h4]
  by_cases hs : s = wriOf l k
  · subst hs
    rw [if_pos rfl, if_pos h3, if_pos (by simp)]
  · rw [if_neg hs]
    by_cases hss : suB l m s = true
    · rw [if_pos hss, if_pos hss, if_neg (by simpa using fun e => hs e.symm)]
    · rw [if_neg hss, if_neg hss]
theorem endF_upd {l : List Claimed} {m : List Audit} {k : Nat} (h1 : wrB l m k = true) : upd (setF (endB l m k)) (wriOf l k) true = setF (endB l m (k + 1)) := by
  rw [setF_upd]
  congr 1
  funext s
  show _ = (endB l m k s || (wrB l m k && decide (wriOf l k = s)))
  rw [h1, Bool.true_and]
theorem endF_keep {l : List Claimed} {m : List Audit} {k : Nat} (h1 : wrB l m k = false) : endB l m (k + 1) = endB l m k := by
  funext s
  show (endB l m k s || (wrB l m k && decide (wriOf l k = s))) = _
  rw [h1, Bool.false_and, Bool.or_false]

def Rg1 (l : List Claimed) (m : List Audit) (K b1 b2 b3 c3 r n : Nat) (w0 wr : World) : Prop :=
  ∃ (left : ByteArray → Bool) (cnt : Nat) (g : ByteArray → Option Int) (ci : Nat), TRange KS valS wr b3 r c3 (setF (suB l m)) left cnt ∧ TMap KS valI wr (K + 1) g ci ∧ ci + cnt ≤ c3 ∧
    (∀ s, s.size ≤ maxLen → g s = if (suB l m s && !left s) = true then some (-1) else none) ∧ TMap KS valS wr (K + 2) (setF (endB l m 0)) 0 ∧
    wr.cell? ⟨K, 0, none⟩ = some (.slice (some ⟨b1, 0, none⟩) n n) ∧ wr.cell? ⟨K, 1, none⟩ = some (.slice (some ⟨b2, 0, none⟩) n n) ∧ wr.cell? ⟨K, 2, none⟩ = some (.map (some b3)) ∧ Below K w0 wr ∧ K + 4 ≤ wr.heap.size
def Rg2 (l : List Claimed) (m : List Audit) (K b1 b2 b3 c3 n : Nat) (w0 : World) (i : Value) (wr : World) : Prop :=
  ∃ k c1 c2 : Nat, k ≤ n ∧ i = .int .i64 k ∧ TMap KS valI wr (K + 1) (rgtF l m k) c1 ∧ c1 ≤ c3 + k ∧ TMap KS valS wr (K + 2) (setF (endB l m k)) c2 ∧ c2 ≤ k ∧
    wr.cell? ⟨K, 0, none⟩ = some (.slice (some ⟨b1, 0, none⟩) n n) ∧ wr.cell? ⟨K, 1, none⟩ = some (.slice (some ⟨b2, 0, none⟩) n n) ∧ wr.cell? ⟨K, 2, none⟩ = some (.map (some b3)) ∧ Below K w0 wr ∧ K + 4 ≤ wr.heap.size

set_option maxRecDepth 100000 in
set_option maxHeartbeats 4000000 in
theorem right_any (A : Option Addr) (n c : Nat) (l : List Claimed) (m : List Audit) (b1 b2 b3 c3 : Nat) (w : World) (hn : n ≤ 1000) (hl : SlAt RClaimed w A n l) (hf : FactsOk l m n b1 b2 b3 c3 w) :
    Calls Tryz.prog 91 #[.agg #[.slice (some ⟨b1, 0, none⟩) n n, .slice (some ⟨b2, 0, none⟩) n n, .map (some b3)], .slice A n c] w fun e w' =>
      ∃ b c, e = .returned (.map (some b)) ∧ TMap KS valI w' b (rgtF l m n) c ∧ Below w.heap.size w w' := by
  have hll := hl.1
  have hmk := @run_makeMap Tryz.prog
  have hlb3 := hf.mp.lt
  have hc3 := hf.c3le
  have hT : 95 = 95 := rfl
  have hb0 := (((Below.refl w.heap.size w).alloc (Nat.le_refl _) (.cells #[.slice (some ⟨b1, 0, none⟩) n n, .slice (some ⟨b2, 0, none⟩) n n, .map (some b3)] 95)).alloc (by simp) (.map #[] 0)).alloc (by simp; omega) (.map #[] 0)
  have hmp0 := hf.mp.below hb0 hlb3
  have hmr0 := (TMap.made (w.alloc (.cells #[.slice (some ⟨b1, 0, none⟩) n n, .slice (some ⟨b2, 0, none⟩) n n, .map (some b3)] 95)) KS valI).alloc (.map #[] 0)
  have hme0 := TMap.made ((w.alloc (.cells #[.slice (some ⟨b1, 0, none⟩) n n, .slice (some ⟨b2, 0, none⟩) n n, .map (some b3)] 95)).alloc (.map #[] 0)) KS valS
  have hcs : ∀ j, (((w.alloc (.cells #[.slice (some ⟨b1, 0, none⟩) n n, .slice (some ⟨b2, 0, none⟩) n n, .map (some b3)] 95)).alloc (.map #[] 0)).alloc (.map #[] 0)).cell? ⟨w.heap.size, j, none⟩ = #[.slice (some ⟨b1, 0, none⟩) n n, .slice (some ⟨b2, 0, none⟩) n n, .map (some b3)][j]? := fun j => by
    rw [World.cell?_alloc_lt _ _ _ (by simp; omega), World.cell?_alloc_lt _ _ _ (by simp), cell_new]
  rw [World.size_alloc] at hmr0
  rw [World.size_alloc, World.size_alloc] at hme0
  clear hT
  have hlH := Lib.hid hl
  clear hl
  have hfH := Lib.hid hf
  clear hf
  have hllH := Lib.hid hll
  clear hll
  have hb0H := Lib.hid hb0
  clear hb0
  have hmp0H := Lib.hid hmp0
  clear hmp0
  have hmr0H := Lib.hid hmr0
  clear hmr0
  have hme0H := Lib.hid hme0
  clear hme0
  have hcsH := Lib.hid hcs
  clear hcs
  go_enter Tryz.func91, Tryz.ntmps91
  go_wp2_with (at_range; go_loud (refine wpList_trange rfl (.tmp 13) 81 rfl Tryz.underlying81 rfl hmp0H.out ?_); intro w3 hr3 hg3 hs3; have hr3H := Lib.hid hr3; clear hr3; have hg3H := Lib.hid hg3; clear hg3)
  simp only [World.size_alloc] at hr3H hs3 ⊢
  go_frame
  go_loopw [] (fun wr => Rg1 l m w.heap.size b1 b2 b3 c3 (w.heap.size + 1 + 1 + 1) n w wr) (fun wr => wr.rangeLeft b3 (w.heap.size + 1 + 1 + 1))
  case atStart =>
    refine ⟨_, c3, _, 0, hr3H.out, hmr0H.out.kept hg3H.out (by simp), by omega, fun s hs => ?_, ?_, ?_, ?_, ?_, hb0H.out.grown hg3H.out hb0H.out.size (fun k hk => by cases hk), by omega⟩
    · rw [if_neg]
      unfold setF
      cases suB l m s <;> simp
    · exact hme0H.out.kept hg3H.out (by simp)
    · exact hg3H.out.cell (hcsH.out 0) (by simp <;> omega)
    · exact hg3H.out.cell (hcsH.out 1) (by simp <;> omega)
    · exact hg3H.out.cell (hcsH.out 2) (by simp <;> omega)
  case round =>
    obtain ⟨left, cnt, g, ci, hr, hm1, hci, hg, hm2, e0, e1, e2, hb, hbig⟩ := hrel
    have hrl := hr.left_eq
    have hrH := Lib.hid hr
    clear hr
    have hm1H := Lib.hid hm1
    clear hm1
    have hgH := Lib.hid hg
    clear hg
    have hm2H := Lib.hid hm2
    clear hm2
    have hbH := Lib.hid hb
    clear hb
    have hrlH := Lib.hid hrl
    clear hrl
    go_wp2_with (at_next; go_loud (refine wpList_tnext rfl (.tmp 14) rfl rfl injS hrH.out ?_ ?_))
    · intro hc0 hl0
      have hm1a : TMap KS valI wr (w.heap.size + 1) (rgtF l m 0) ci := hm1H.out.congr fun s hs => by
        rw [hgH.out s hs]
        unfold rgtF
        rw [hl0 s hs, Bool.not_false, Bool.and_true]
        rfl
      have hm2a := hm2H.out
      have hb2a := hbH.out
      obtain ⟨w2, hw2⟩ : ∃ W, W = wr := ⟨_, rfl⟩
      clear hl0 hc0 hgH hm1H hrH hrlH
      have hm1aH := Lib.hid hm1a
      clear hm1a
      have hm2aH := Lib.hid hm2a
      clear hm2a
      have hb2aH := Lib.hid hb2a
      clear hb2a
      go_wp2_with fail
      go_loopw [23] (fun i wr => Rg2 l m w.heap.size b1 b2 b3 c3 n w i wr) (fun i _ => n - (intOf i).toNat)
      case atStart => exact ⟨0, ci, 0, Nat.zero_le _, rfl, hm1aH.out, by omega, hm2aH.out, Nat.le_refl _, e0, e1, e2, hb2aH.out, hbig⟩
      case round =>
        clear hbig e0 e1 e2 hm2H hbH hm1aH hm2aH hb2aH
        obtain ⟨k, c1, c2, hk, rfl, hm1, hc1, hm2, hc2, e0, e1, e2, hb, hbig⟩ := hrel
        have hbs : w.heap.size ≤ wr.heap.size := hb.size
        by_cases hlt : k < n
        · obtain ⟨b, off, hA, _⟩ := hlH.out.2.1 (by omega)
          subst hA
          obtain ⟨x, hx⟩ : ∃ x, l[k]? = some x := ⟨l[k]'(by have := hllH.out; omega), List.getElem?_eq_getElem _⟩
          obtain ⟨d0, d1, d2, d3, d4, d5, d6⟩ := cells_Claimed (hlH.out.below hb) hx
          have hwz : x.writer.size ≤ maxLen := (hlH.out.2.2 x (List.mem_of_getElem? hx)).2.2.2.1
          have hwi := wriOf_get hx
          have hfr := hfH.out.below hb (Nat.le_refl _)
          obtain ⟨ga, _⟩ := hfr.ra k hlt
          obtain ⟨gw, _⟩ := hfr.rw_ k hlt
          have hla := hfr.mp.alloc (.cells #[.string x.key, .string x.label, .string x.result, .string x.writer, .int .i64 x.at_, .slice x.uses.A x.uses.n x.uses.cap, .string x.sign] 25)
          replace hm1 := hm1.alloc (.cells #[.string x.key, .string x.label, .string x.result, .string x.writer, .int .i64 x.at_, .slice x.uses.A x.uses.n x.uses.cap, .string x.sign] 25)
          replace hm2 := hm2.alloc (.cells #[.string x.key, .string x.label, .string x.result, .string x.writer, .int .i64 x.at_, .slice x.uses.A x.uses.n x.uses.cap, .string x.sign] 25)
          have hb2 := hb.alloc hbs (.cells #[.string x.key, .string x.label, .string x.result, .string x.writer, .int .i64 x.at_, .slice x.uses.A x.uses.n x.uses.cap, .string x.sign] 25)
          replace e0 := (World.cell?_alloc_lt wr (.cells #[.string x.key, .string x.label, .string x.result, .string x.writer, .int .i64 x.at_, .slice x.uses.A x.uses.n x.uses.cap, .string x.sign] 25) ⟨w.heap.size, 0, none⟩ (by simp; omega)).trans e0
          replace e1 := (World.cell?_alloc_lt wr (.cells #[.string x.key, .string x.label, .string x.result, .string x.writer, .int .i64 x.at_, .slice x.uses.A x.uses.n x.uses.cap, .string x.sign] 25) ⟨w.heap.size, 1, none⟩ (by simp; omega)).trans e1
          replace e2 := (World.cell?_alloc_lt wr (.cells #[.string x.key, .string x.label, .string x.result, .string x.writer, .int .i64 x.at_, .slice x.uses.A x.uses.n x.uses.cap, .string x.sign] 25) ⟨w.heap.size, 2, none⟩ (by simp; omega)).trans e2
          replace ga := (World.cell?_alloc_lt wr (.cells #[.string x.key, .string x.label, .string x.result, .string x.writer, .int .i64 x.at_, .slice x.uses.A x.uses.n x.uses.cap, .string x.sign] 25) ⟨b1, k, none⟩ (cell?_lt ga)).trans ga
          replace gw := (World.cell?_alloc_lt wr (.cells #[.string x.key, .string x.label, .string x.result, .string x.writer, .int .i64 x.at_, .slice x.uses.A x.uses.n x.uses.cap, .string x.sign] 25) ⟨b2, k, none⟩ (cell?_lt gw)).trans gw
          clear hfr
          cases hwB : wrB l m k
          · rw [hwB] at gw
            cases haB : audB m k
            · rw [haB] at ga
              obtain ⟨sv, hsB⟩ : ∃ v, suB l m x.writer = v := ⟨_, rfl⟩
              obtain ⟨ev, heB⟩ : ∃ v, endB l m k x.writer = v := ⟨_, rfl⟩
              have hxH := Lib.hid hx
              clear hx
              have hbH := Lib.hid hb
              clear hb
              have hb2H := Lib.hid hb2
              clear hb2
              have hm1H := Lib.hid hm1
              clear hm1
              have hm2H := Lib.hid hm2
              clear hm2
              have hlaH := Lib.hid hla
              clear hla
              have hwzH := Lib.hid hwz
              clear hwz
              have hwiH := Lib.hid hwi
              clear hwi
              have R : Rg2 l m w.heap.size b1 b2 b3 c3 n w (.int .i64 (k + 1)) (wr.alloc (.cells #[.string x.key, .string x.label, .string x.result, .string x.writer, .int .i64 x.at_, .slice x.uses.A x.uses.n x.uses.cap, .string x.sign] 25)) := by
                refine ⟨k + 1, c1, c2, hlt, by go_num, ?_, by omega, ?_, by omega, e0, e1, e2, hb2H.out, by simp; omega⟩
                · rw [rgtF_keep (.inr (by rw [hwiH.out, haB, hsB, heB]; rfl))]; exact hm1H.out
                · rw [endF_keep hwB]; exact hm2H.out
              have RH := Lib.hid R
              clear R
              go_wp2
              refine ⟨?rel, ?measure⟩
              case measure => (simp [intOf]; omega)
              case rel => first | exact RH.out | exact ⟨rfl, RH.out⟩ | ((try refine ⟨rfl, ?_⟩); (repeat apply Exists.intro); refine ⟨RH.out, ?_⟩; ((repeat' apply And.intro) <;> rfl))
            · rw [haB] at ga
              cases hsB : suB l m x.writer
              · have lk1 := lookS hla x.writer hwz false hsB
                obtain ⟨ev, heB⟩ : ∃ v, endB l m k x.writer = v := ⟨_, rfl⟩
                have hxH := Lib.hid hx
                clear hx
                have hbH := Lib.hid hb
                clear hb
                have hb2H := Lib.hid hb2
                clear hb2
                have hm1H := Lib.hid hm1
                clear hm1
                have hm2H := Lib.hid hm2
                clear hm2
                have hlaH := Lib.hid hla
                clear hla
                have hwzH := Lib.hid hwz
                clear hwz
                have hwiH := Lib.hid hwi
                clear hwi
                have R : Rg2 l m w.heap.size b1 b2 b3 c3 n w (.int .i64 (k + 1)) (wr.alloc (.cells #[.string x.key, .string x.label, .string x.result, .string x.writer, .int .i64 x.at_, .slice x.uses.A x.uses.n x.uses.cap, .string x.sign] 25)) := by
                  refine ⟨k + 1, c1, c2, hlt, by go_num, ?_, by omega, ?_, by omega, e0, e1, e2, hb2H.out, by simp; omega⟩
                  · rw [rgtF_keep (.inr (by rw [hwiH.out, haB, hsB, heB]; rfl))]; exact hm1H.out
                  · rw [endF_keep hwB]; exact hm2H.out
                have RH := Lib.hid R
                clear R
                go_wp2
                refine ⟨?rel, ?measure⟩
                case measure => (simp [intOf]; omega)
                case rel => first | exact RH.out | exact ⟨rfl, RH.out⟩ | ((try refine ⟨rfl, ?_⟩); (repeat apply Exists.intro); refine ⟨RH.out, ?_⟩; ((repeat' apply And.intro) <;> rfl))
              · have lk1 := lookS hla x.writer hwz true hsB
                cases heB : endB l m k x.writer
                · have lk2 := lookS hm2 x.writer hwz false heB
                  have hxH := Lib.hid hx
                  clear hx
                  have hbH := Lib.hid hb
                  clear hb
                  have hb2H := Lib.hid hb2
                  clear hb2
                  have hm1H := Lib.hid hm1
                  clear hm1
                  have hm2H := Lib.hid hm2
                  clear hm2
                  have hlaH := Lib.hid hla
                  clear hla
                  have hwzH := Lib.hid hwz
                  clear hwz
                  have hwiH := Lib.hid hwi
                  clear hwi
                  go_wp2_with (at_mapUpdate; go_loud (refine wpList_tstore rfl (.tmp 57) (.tmp 59) (.tmp 60) 120 rfl Tryz.underlying120 injI rfl hm1H.out (by simp only [maxLen]; omega) x.writer rfl hwzH.out (k : Int) rfl ?_); intro w6 hm6 hg6; have hm6H := Lib.hid hm6; clear hm6)
                  have R : Rg2 l m w.heap.size b1 b2 b3 c3 n w (.int .i64 (k + 1)) w6 := by
                    have hm6 := hm6H.out
                    rw [← hwiH.out, rgtF_upd hwB haB (by rw [hwiH.out]; exact hsB) (by rw [hwiH.out]; exact heB)] at hm6
                    refine ⟨k + 1, _, c2, hlt, by go_num, hm6, Nat.le_trans (ite_le_succ _ c1) (by omega), ?_, by omega, hg6.cell e0 (by simp <;> omega), hg6.cell e1 (by simp <;> omega), hg6.cell e2 (by simp <;> omega), hb2H.out.trans (grown_below hg6 (by omega) hb2H.out.size), by have := hg6.size; simp at this; omega⟩
                    rw [endF_keep hwB]
                    exact hm2H.out.kept hg6 (by simp)
                  clear hg6 hm6H
                  have RH := Lib.hid R
                  clear R
                  refine ⟨?rel, ?measure⟩
                  case measure => (simp [intOf]; omega)
                  case rel => first | exact RH.out | exact ⟨rfl, RH.out⟩ | ((try refine ⟨rfl, ?_⟩); (repeat apply Exists.intro); refine ⟨RH.out, ?_⟩; ((repeat' apply And.intro) <;> rfl))
                · have lk2 := lookS hm2 x.writer hwz true heB
                  have hxH := Lib.hid hx
                  clear hx
                  have hbH := Lib.hid hb
                  clear hb
                  have hb2H := Lib.hid hb2
                  clear hb2
                  have hm1H := Lib.hid hm1
                  clear hm1
                  have hm2H := Lib.hid hm2
                  clear hm2
                  have hlaH := Lib.hid hla
                  clear hla
                  have hwzH := Lib.hid hwz
                  clear hwz
                  have hwiH := Lib.hid hwi
                  clear hwi
                  have R : Rg2 l m w.heap.size b1 b2 b3 c3 n w (.int .i64 (k + 1)) (wr.alloc (.cells #[.string x.key, .string x.label, .string x.result, .string x.writer, .int .i64 x.at_, .slice x.uses.A x.uses.n x.uses.cap, .string x.sign] 25)) := by
                    refine ⟨k + 1, c1, c2, hlt, by go_num, ?_, by omega, ?_, by omega, e0, e1, e2, hb2H.out, by simp; omega⟩
                    · rw [rgtF_keep (.inr (by rw [hwiH.out, haB, hsB, heB]; rfl))]; exact hm1H.out
                    · rw [endF_keep hwB]; exact hm2H.out
                  have RH := Lib.hid R
                  clear R
                  go_wp2
                  refine ⟨?rel, ?measure⟩
                  case measure => (simp [intOf]; omega)
                  case rel => first | exact RH.out | exact ⟨rfl, RH.out⟩ | ((try refine ⟨rfl, ?_⟩); (repeat apply Exists.intro); refine ⟨RH.out, ?_⟩; ((repeat' apply And.intro) <;> rfl))
          · rw [hwB] at gw
            clear ga
            have hxH := Lib.hid hx
            clear hx
            have hbH := Lib.hid hb
            clear hb
            have hb2H := Lib.hid hb2
            clear hb2
            have hm1H := Lib.hid hm1
            clear hm1
            have hm2H := Lib.hid hm2
            clear hm2
            have hlaH := Lib.hid hla
            clear hla
            have hwzH := Lib.hid hwz
            clear hwz
            have hwiH := Lib.hid hwi
            clear hwi
            go_wp2_with (at_mapUpdate; go_loud (refine wpList_tstore rfl (.tmp 34) (.tmp 36) (.const (.bool true)) 81 rfl Tryz.underlying81 injS rfl hm2H.out (by simp only [maxLen]; omega) x.writer rfl hwzH.out true rfl ?_); intro w6 hm6 hg6; have hm6H := Lib.hid hm6; clear hm6)
            have R : Rg2 l m w.heap.size b1 b2 b3 c3 n w (.int .i64 (k + 1)) w6 := by
              have hm6 := hm6H.out
              rw [← hwiH.out, endF_upd hwB] at hm6
              refine ⟨k + 1, c1, _, hlt, by go_num, ?_, by omega, hm6, Nat.le_trans (ite_le_succ _ c2) (by omega), hg6.cell e0 (by simp <;> omega), hg6.cell e1 (by simp <;> omega), hg6.cell e2 (by simp <;> omega), hb2H.out.trans (grown_below hg6 (by omega) hb2H.out.size), by have := hg6.size; simp at this; omega⟩
              rw [rgtF_keep (.inl hwB)]
              exact hm1H.out.kept hg6 (by simp)
            clear hg6 hm6H
            have RH := Lib.hid R
            clear R
            refine ⟨?rel, ?measure⟩
            case measure => (simp [intOf]; omega)
            case rel => first | exact RH.out | exact ⟨rfl, RH.out⟩ | ((try refine ⟨rfl, ?_⟩); (repeat apply Exists.intro); refine ⟨RH.out, ?_⟩; ((repeat' apply And.intro) <;> rfl))
        · obtain rfl : k = n := by omega
          have hm1H := Lib.hid hm1
          clear hm1
          have hm2H := Lib.hid hm2
          clear hm2
          have hbH := Lib.hid hb
          clear hb
          go_wp2
          go_ret
          exact ⟨_, c1, rfl, hm1H.out, hbH.out⟩
    · intro s
      refine ⟨fun w4 cnt4 _ _ hf4 => absurd hf4 (by unfold setF; split <;> simp), ?_⟩
      intro w4 cnt4 hgood hleft hf4 hr4 hlt4 hg4 hs4 hen
      have hgd : s.size ≤ maxLen := hgood
      replace hen : (Instr.entry (.pointer (some ⟨w.heap.size + 1 + 1 + 1, 0, none⟩))).run Tryz.prog w4 = .ok (.tuple #[.string s, .bool true]) w4 := hen
      have hsu : suB l m s = true := by
        unfold setF at hf4
        split at hf4
        · assumption
        · cases hf4
      have hm1b := hm1H.out.kept hg4 (by simp)
      have hm2b := hm2H.out.kept hg4 (by simp)
      have hb4 := hbH.out.trans (grown_below hg4 (by omega) hbH.out.size)
      replace e0 := hg4.cell e0 (by simp <;> omega)
      replace e1 := hg4.cell e1 (by simp <;> omega)
      replace e2 := hg4.cell e2 (by simp <;> omega)
      have hg := hgH.out
      clear hg4 hgood hf4 hm1H hm2H hbH hgH hrH
      have hbig4 : w.heap.size + 4 ≤ w4.heap.size := by omega
      have hr4H := Lib.hid hr4
      clear hr4
      have hm1bH := Lib.hid hm1b
      clear hm1b
      have hm2bH := Lib.hid hm2b
      clear hm2b
      have hb4H := Lib.hid hb4
      clear hb4
      have hgH := Lib.hid hg
      clear hg
      have hgdH := Lib.hid hgd
      clear hgd
      have hsuH := Lib.hid hsu
      clear hsu
      go_wp2_with (at_mapUpdate; go_loud (refine wpList_tstore rfl (.tmp 19) (.tmp 20) (.const (.int .i64 (-1))) 120 rfl Tryz.underlying120 injI rfl hm1bH.out (by simp only [maxLen]; omega) s rfl hgdH.out (-1 : Int) rfl ?_); intro w6 hm6 hg6; have hm6H := Lib.hid hm6; clear hm6)
      have M : w6.rangeLeft b3 (w.heap.size + 1 + 1 + 1) < wr.rangeLeft b3 (w.heap.size + 1 + 1 + 1) := by
        have h1 := (hr4H.out.kept hg6 (by simp <;> omega) (by simp <;> omega)).left_eq
        rw [h1, hrlH.out]
        exact hlt4
      have R : Rg1 l m w.heap.size b1 b2 b3 c3 (w.heap.size + 1 + 1 + 1) n w w6 := by
        refine ⟨_, cnt4, _, _, hr4H.out.kept hg6 (by simp <;> omega) (by simp <;> omega), hm6H.out, ?_, fun z hz => ?_, hm2bH.out.kept hg6 (by simp <;> omega), hg6.cell e0 (by simp <;> omega), hg6.cell e1 (by simp <;> omega), hg6.cell e2 (by simp <;> omega), hb4H.out.trans (grown_below hg6 (by omega) hb4H.out.size), by have := hg6.size; omega⟩
        · have := ite_le_succ ((g s).isSome = true) ci
          omega
        · unfold upd
          by_cases hzs : z = s
          · subst hzs
            rw [if_pos rfl, hsuH.out]
            simp
          · rw [if_neg hzs, hgH.out z hz]
            simp [hzs]
      clear hg6 hm6H
      have RH := Lib.hid R
      clear R
      have MH := Lib.hid M
      clear M
      refine ⟨?rel, ?measure⟩
      case measure => exact MH.out
      case rel => first | exact RH.out | exact ⟨rfl, RH.out⟩ | ((try refine ⟨rfl, ?_⟩); (repeat apply Exists.intro); refine ⟨RH.out, ?_⟩; ((repeat' apply And.intro) <;> rfl))
end Go.Proofs.YtaeeicnbnohghaaGreatDoor.C11
