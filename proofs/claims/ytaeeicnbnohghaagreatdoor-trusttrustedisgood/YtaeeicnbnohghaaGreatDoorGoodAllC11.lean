/-
  Several texts of mine as one: XFactsP, XTaintP, XTaint, XRightP, XTainted, XTrustD, XBack, XTrust, XLawGood, XGoodRow.
-/
import Derived.Test.YtaeeicnbnohghaaGreatDoorFactsC11
import Derived.Test.YtaeeicnbnohghaaGreatDoorFactsDC11
import Derived.Test.YtaeeicnbnohghaaGreatDoorFunc11C11
import Derived.Test.YtaeeicnbnohghaaGreatDoorSignDC11
import Derived.Test.YtaeeicnbnohghaaGreatDoorClaimDC11
import Derived.RangeFuncNested
import Derived.RangeFuncLeaves
import Derived.RangeFuncCalls
import Derived.RangeFuncBox
import Derived.Shelf.Abstract
import Derived.WalkKit
import Derived.OwnWalkIn
import Derived.TacticsInMore
import Derived.LoopNIn
import Derived.LoopIn
import Derived.IntWalk
import Derived.Lib.Hide
import Derived.Test.YtaeeicnbnohghaaGreatDoorTypesM
import Derived.Test.YtaeeicnbnohghaaGreatDoorSignGC11
import Derived.Test.YtaeeicnbnohghaaGreatDoorAt7
import Derived.Sort.QuietIn
import Derived.Test.YtaeeicnbnohghaaGreatDoorAwake11C11
import Derived.Test.YtaeeicnbnohghaaGreatDoorPowRowC11
import Derived.Test.YtaeeicnbnohghaaGreatDoorCards
import Derived.Test.YtaeeicnbnohghaaGreatDoorTie
import Derived.OpenShut
import Derived.ShutString
import Derived.ChangeOld
import Derived.Deep.DeepHandedRow
import Derived.Lib.LaidTab
import Derived.Lib.LaidU8
import Derived.JoinedCond
import Derived.Deep.CondSized
namespace Go.Proofs.YtaeeicnbnohghaaGreatDoor.C11
open Go.RowKit
set_option linter.unusedVariables false

theorem elem_IntT : Elem Tryz.prog 3 RInt.size 8 := elem_of (z := .int .i64 0) (by kernel_rfl) (by decide)
def NumRel (f : Nat → Bool) (n : Nat) (w0 : World) (v i : Value) (wr : World) : Prop :=
  ∃ (k n' cap : Nat) (A : Option Addr), k ≤ n ∧ i = .int .i64 k ∧ v = .slice A n' cap ∧ Own RInt 3 wr w0.heap.size v (numsN f k) ∧ Below w0.heap.size w0 wr

set_option maxHeartbeats 1000000 in
theorem numbers_any (b n c : Nat) (f : Nat → Bool) (w : World) (hn : n ≤ 1000) (hr : BRow w b n f) :
    Calls Tryz.prog 57 #[.slice (some ⟨b, 0, none⟩) n c] w fun e w' => ∃ A k cap, e = .returned (.slice A k cap) ∧ Own RInt 3 w' w.heap.size (.slice A k cap) (numsN f n) ∧ k ≤ n ∧ Below w.heap.size w w' := by
  have hI : ∀ (W : World) (k : Nat), k ≤ 1000 → RInt.ok W (k : Int) := fun W k hk => ⟨by omega, by omega⟩
  have hrH := Lib.hid hr
  clear hr
  have hIH := Lib.hid hI
  clear hI
  go_enter Tryz.func57, Tryz.ntmps57
  go_wp2_with fail
  go_loopw [3, 8] (fun v i wr => NumRel f n w v i wr) (fun _ i _ => n - (intOf i).toNat)
  case atStart => exact ⟨0, 0, 0, none, Nat.zero_le _, rfl, rfl, Own.nil _ _, Below.refl _ _⟩
  case round =>
    obtain ⟨k, n', cap, A, hk, rfl, rfl, hown, hb⟩ := hrel
    have hbs := hb.size
    have hn' := hown.len
    have hnk := numsN_len f k
    rw [hn'] at hnk
    by_cases hlt : k < n
    · obtain ⟨d0, _⟩ := (hrH.out.keep (w' := wr) fun h => hb.block b h) k hlt
      have hat : numsN f (k + 1) = numsN f k ++ (if f k = true then [(k : Int)] else []) := rfl
      have hok := hIH.out wr k (by omega)
      have hownH := Lib.hid hown
      clear hown
      have hbH := Lib.hid hb
      clear hb
      have hn'H := Lib.hid hn'
      clear hn'
      have hokH := Lib.hid hok
      clear hok
      cases hf : f k
      · rw [hf] at d0 hat
        rw [if_neg (by decide), List.append_nil] at hat
        have R : NumRel f n w (.slice A n' cap) (.int .i64 (k + 1)) wr := ⟨k + 1, n', cap, A, hlt, by go_num, rfl, by rw [hat]; exact hownH.out, hbH.out⟩
        clear hat
        have RH := Lib.hid R
        clear R
        have hfH := Lib.hid hf
        clear hf
        go_wp2
        refine ⟨?rel, ?measure⟩
        case measure => (simp [intOf]; omega)
        case rel => first | exact RH.out | exact ⟨rfl, RH.out⟩ | ((try refine ⟨rfl, ?_⟩); (repeat apply Exists.intro); refine ⟨RH.out, ?_⟩; ((repeat' apply And.intro) <;> rfl))
      · rw [hf] at d0 hat
        rw [if_pos rfl] at hat
        have hatH := Lib.hid hat
        clear hat
        have hfH := Lib.hid hf
        clear hf
        go_wp2_with (at_builtin; go_loud (refine wpList_app rfl (.tmp 14) (.tmp 16) 49 rfl Tryz.underlying49 elem_IntT (by decide) rfl (hownH.out.alloc _) (some ⟨wr.heap.size, 0, none⟩) 1 1 [(k : Int)] rfl (slAt_new _ _ _ hokH.out) ?nn ?ok ?c1 ?c2 ?c3 (n' + 1) ?c4 ?_))
        case nn => intro h; cases h
        case ok => exact fun _ _ _ _ h => h
        case c1 => have := hn'H.out; simp [maxLen] <;> omega
        case c2 => have := hn'H.out; omega
        case c3 => simp <;> omega
        case c4 => have := hn'H.out; omega
        intro A' c' w7 hown7 hg7 hat7 hb7
        have R : NumRel f n w (.slice A' (n' + 1) c') (.int .i64 (k + 1)) w7 := by
          refine ⟨k + 1, n' + 1, c', A', hlt, by go_num, rfl, ?_, (hbH.out.alloc hbs _).trans hb7⟩
          rw [hatH.out]
          exact hown7
        clear hg7 hat7 hb7 hown7
        have RH := Lib.hid R
        clear R
        go_wp2
        refine ⟨?rel, ?measure⟩
        case measure => (simp [intOf]; omega)
        case rel => first | exact RH.out | exact ⟨rfl, RH.out⟩ | ((try refine ⟨rfl, ?_⟩); (repeat apply Exists.intro); refine ⟨RH.out, ?_⟩; ((repeat' apply And.intro) <;> rfl))
    · obtain rfl : k = n := by omega
      have hownH := Lib.hid hown
      clear hown
      have hbH := Lib.hid hb
      clear hb
      have hn'H := Lib.hid hn'
      clear hn'
      go_wp2
      go_ret
      exact ⟨A, n', cap, rfl, hownH.out, hnk, hbH.out⟩

theorem zeroI (w : World) : (zeroValue 3).run Tryz.prog w = .ok (Value.int .i64 0) w := by kernel_rfl
def valI (x : Int) : Value := .int .i64 x
theorem injI : InjV valI := fun _ _ h => by injection h
theorem lookS {w : World} {b c : Nat} {p : ByteArray → Bool} (h : TMap KS valS w b (setF p) c) (s : ByteArray) (hs : s.size ≤ maxLen) (v : Bool) (hv : p s = v) :
    (Instr.lookup 81 (.map (some b)) (.string s) false).run Tryz.prog w = .ok (.bool v) w := by
  have := (h.look Tryz.underlying81 (zeroS w) injS (x := s) hs).1
  rw [setF_getD, hv] at this
  exact this
theorem lookI {w : World} {b c : Nat} {f : ByteArray → Option Int} (h : TMap KS valI w b f c) (s : ByteArray) (hs : s.size ≤ maxLen) (v : Int) (hv : (f s).getD 0 = v) (y : Bool) (hy : (f s).isSome = y) :
    (Instr.lookup 120 (.map (some b)) (.string s) true).run Tryz.prog w = .ok (.tuple #[.int .i64 v, .bool y]) w := by
  have := (h.look (z0 := (0 : Int)) Tryz.underlying120 (zeroI w) injI (x := s) hs).2
  rw [hv, hy] at this
  exact this

/-! ### right -/
theorem rgtF_keep {l : List Claimed} {m : List Audit} {k : Nat} (h : wrB l m k = true ∨ (audB m k && (suB l m (wriOf l k) && !endB l m k (wriOf l k))) = false) : rgtF l m (k + 1) = rgtF l m k := by
  funext s
  unfold rgtF
  by_cases hs : suB l m s = true
  · rw [if_pos hs, if_pos hs]
    congr 1
    show (if (!wrB l m k && (audB m k && !endB l m k (wriOf l k)) && decide (wriOf l k = s)) = true then (k : Int) else rgt l m k s) = rgt l m k s
    rw [if_neg]
    intro hc
    simp only [Bool.and_eq_true, Bool.not_eq_true', decide_eq_true_iff] at hc
    obtain ⟨⟨h1, h2, h3⟩, h4⟩ := hc
    rcases h with h | h
    · rw [h] at h1; cases h1
    · rw [h2, h3, h4, hs] at h; cases h
  · rw [if_neg hs, if_neg hs]
theorem rgtF_upd {l : List Claimed} {m : List Audit} {k : Nat} (h1 : wrB l m k = false) (h2 : audB m k = true) (h3 : suB l m (wriOf l k) = true) (h4 : endB l m k (wriOf l k) = false) : upd (rgtF l m k) (wriOf l k) (k : Int) = rgtF l m (k + 1) := by
  funext s
  unfold upd rgtF
  show _ = if suB l m s = true then some (if (!wrB l m k && (audB m k && !endB l m k (wriOf l k)) && decide (wriOf l k = s)) = true then (k : Int) else rgt l m k s) else none
  rw [h1, h2, h4]
  by_cases hs : s = wriOf l k
  · subst hs
    rw [if_pos rfl, if_pos h3, if_pos (by simp)]
  · rw [if_neg hs]
    by_cases hss : suB l m s = true
    · rw [if_pos hss, if_pos hss, if_neg (by simpa using fun e => hs e.symm)]
    · rw [if_neg hss, if_neg hss]
theorem endF_upd {l : List Claimed} {m : List Audit} {k : Nat} (h1 : wrB l m k = true) : upd (setF (endB l m k)) (wriOf l k) true = setF (endB l m (k + 1)) := by
  rw [setF_upd]
  congr 1
  funext s
  show _ = (endB l m k s || (wrB l m k && decide (wriOf l k = s)))
  rw [h1, Bool.true_and]
theorem endF_keep {l : List Claimed} {m : List Audit} {k : Nat} (h1 : wrB l m k = false) : endB l m (k + 1) = endB l m k := by
  funext s
  show (endB l m k s || (wrB l m k && decide (wriOf l k = s))) = _
  rw [h1, Bool.false_and, Bool.or_false]

def Rg1 (l : List Claimed) (m : List Audit) (K b1 b2 b3 c3 r n : Nat) (w0 wr : World) : Prop :=
  ∃ (left : ByteArray → Bool) (cnt : Nat) (g : ByteArray → Option Int) (ci : Nat), TRange KS valS wr b3 r c3 (setF (suB l m)) left cnt ∧ TMap KS valI wr (K + 1) g ci ∧ ci + cnt ≤ c3 ∧
    (∀ s, s.size ≤ maxLen → g s = if (suB l m s && !left s) = true then some (-1) else none) ∧ TMap KS valS wr (K + 2) (setF (endB l m 0)) 0 ∧
    wr.cell? ⟨K, 0, none⟩ = some (.slice (some ⟨b1, 0, none⟩) n n) ∧ wr.cell? ⟨K, 1, none⟩ = some (.slice (some ⟨b2, 0, none⟩) n n) ∧ wr.cell? ⟨K, 2, none⟩ = some (.map (some b3)) ∧ Below K w0 wr ∧ K + 4 ≤ wr.heap.size
def Rg2 (l : List Claimed) (m : List Audit) (K b1 b2 b3 c3 n : Nat) (w0 : World) (i : Value) (wr : World) : Prop :=
  ∃ k c1 c2 : Nat, k ≤ n ∧ i = .int .i64 k ∧ TMap KS valI wr (K + 1) (rgtF l m k) c1 ∧ c1 ≤ c3 + k ∧ TMap KS valS wr (K + 2) (setF (endB l m k)) c2 ∧ c2 ≤ k ∧
    wr.cell? ⟨K, 0, none⟩ = some (.slice (some ⟨b1, 0, none⟩) n n) ∧ wr.cell? ⟨K, 1, none⟩ = some (.slice (some ⟨b2, 0, none⟩) n n) ∧ wr.cell? ⟨K, 2, none⟩ = some (.map (some b3)) ∧ Below K w0 wr ∧ K + 4 ≤ wr.heap.size

set_option maxRecDepth 100000 in
set_option maxHeartbeats 4000000 in
theorem right_any (A : Option Addr) (n c : Nat) (l : List Claimed) (m : List Audit) (b1 b2 b3 c3 : Nat) (w : World) (hn : n ≤ 1000) (hl : SlAt RClaimed w A n l) (hf : FactsOk l m n b1 b2 b3 c3 w) :
    Calls Tryz.prog 91 #[.agg #[.slice (some ⟨b1, 0, none⟩) n n, .slice (some ⟨b2, 0, none⟩) n n, .map (some b3)], .slice A n c] w fun e w' =>
      ∃ b c, e = .returned (.map (some b)) ∧ TMap KS valI w' b (rgtF l m n) c ∧ Below w.heap.size w w' := by
  have hll := hl.1
  have hmk := @run_makeMap Tryz.prog
  have hlb3 := hf.mp.lt
  have hc3 := hf.c3le
  have hT : 95 = 95 := rfl
  have hb0 := (((Below.refl w.heap.size w).alloc (Nat.le_refl _) (.cells #[.slice (some ⟨b1, 0, none⟩) n n, .slice (some ⟨b2, 0, none⟩) n n, .map (some b3)] 95)).alloc (by simp) (.map #[] 0)).alloc (by simp; omega) (.map #[] 0)
  have hmp0 := hf.mp.below hb0 hlb3
  have hmr0 := (TMap.made (w.alloc (.cells #[.slice (some ⟨b1, 0, none⟩) n n, .slice (some ⟨b2, 0, none⟩) n n, .map (some b3)] 95)) KS valI).alloc (.map #[] 0)
  have hme0 := TMap.made ((w.alloc (.cells #[.slice (some ⟨b1, 0, none⟩) n n, .slice (some ⟨b2, 0, none⟩) n n, .map (some b3)] 95)).alloc (.map #[] 0)) KS valS
  have hcs : ∀ j, (((w.alloc (.cells #[.slice (some ⟨b1, 0, none⟩) n n, .slice (some ⟨b2, 0, none⟩) n n, .map (some b3)] 95)).alloc (.map #[] 0)).alloc (.map #[] 0)).cell? ⟨w.heap.size, j, none⟩ = #[.slice (some ⟨b1, 0, none⟩) n n, .slice (some ⟨b2, 0, none⟩) n n, .map (some b3)][j]? := fun j => by
    rw [World.cell?_alloc_lt _ _ _ (by simp; omega), World.cell?_alloc_lt _ _ _ (by simp), cell_new]
  rw [World.size_alloc] at hmr0
  rw [World.size_alloc, World.size_alloc] at hme0
  clear hT
  have hlH := Lib.hid hl
  clear hl
  have hfH := Lib.hid hf
  clear hf
  have hllH := Lib.hid hll
  clear hll
  have hb0H := Lib.hid hb0
  clear hb0
  have hmp0H := Lib.hid hmp0
  clear hmp0
  have hmr0H := Lib.hid hmr0
  clear hmr0
  have hme0H := Lib.hid hme0
  clear hme0
  have hcsH := Lib.hid hcs
  clear hcs
  go_enter Tryz.func91, Tryz.ntmps91
  go_wp2_with (at_range; go_loud (refine wpList_trange rfl (.tmp 13) 81 rfl Tryz.underlying81 rfl hmp0H.out ?_); intro w3 hr3 hg3 hs3; have hr3H := Lib.hid hr3; clear hr3; have hg3H := Lib.hid hg3; clear hg3)
  simp only [World.size_alloc] at hr3H hs3 ⊢
  go_frame
  go_loopw [] (fun wr => Rg1 l m w.heap.size b1 b2 b3 c3 (w.heap.size + 1 + 1 + 1) n w wr) (fun wr => wr.rangeLeft b3 (w.heap.size + 1 + 1 + 1))
  case atStart =>
    refine ⟨_, c3, _, 0, hr3H.out, hmr0H.out.kept hg3H.out (by simp), by omega, fun s hs => ?_, ?_, ?_, ?_, ?_, hb0H.out.grown hg3H.out hb0H.out.size (fun k hk => by cases hk), by omega⟩
    · rw [if_neg]
      unfold setF
      cases suB l m s <;> simp
    · exact hme0H.out.kept hg3H.out (by simp)
    · exact hg3H.out.cell (hcsH.out 0) (by simp <;> omega)
    · exact hg3H.out.cell (hcsH.out 1) (by simp <;> omega)
    · exact hg3H.out.cell (hcsH.out 2) (by simp <;> omega)
  case round =>
    obtain ⟨left, cnt, g, ci, hr, hm1, hci, hg, hm2, e0, e1, e2, hb, hbig⟩ := hrel
    have hrl := hr.left_eq
    have hrH := Lib.hid hr
    clear hr
    have hm1H := Lib.hid hm1
    clear hm1
    have hgH := Lib.hid hg
    clear hg
    have hm2H := Lib.hid hm2
    clear hm2
    have hbH := Lib.hid hb
    clear hb
    have hrlH := Lib.hid hrl
    clear hrl
    go_wp2_with (at_next; go_loud (refine wpList_tnext rfl (.tmp 14) rfl rfl injS hrH.out ?_ ?_))
    · intro hc0 hl0
      have hm1a : TMap KS valI wr (w.heap.size + 1) (rgtF l m 0) ci := hm1H.out.congr fun s hs => by
        rw [hgH.out s hs]
        unfold rgtF
        rw [hl0 s hs, Bool.not_false, Bool.and_true]
        rfl
      have hm2a := hm2H.out
      have hb2a := hbH.out
      obtain ⟨w2, hw2⟩ : ∃ W, W = wr := ⟨_, rfl⟩
      clear hl0 hc0 hgH hm1H hrH hrlH
      have hm1aH := Lib.hid hm1a
      clear hm1a
      have hm2aH := Lib.hid hm2a
      clear hm2a
      have hb2aH := Lib.hid hb2a
      clear hb2a
      go_wp2_with fail
      go_loopw [23] (fun i wr => Rg2 l m w.heap.size b1 b2 b3 c3 n w i wr) (fun i _ => n - (intOf i).toNat)
      case atStart => exact ⟨0, ci, 0, Nat.zero_le _, rfl, hm1aH.out, by omega, hm2aH.out, Nat.le_refl _, e0, e1, e2, hb2aH.out, hbig⟩
      case round =>
        clear hbig e0 e1 e2 hm2H hbH hm1aH hm2aH hb2aH
        obtain ⟨k, c1, c2, hk, rfl, hm1, hc1, hm2, hc2, e0, e1, e2, hb, hbig⟩ := hrel
        have hbs : w.heap.size ≤ wr.heap.size := hb.size
        by_cases hlt : k < n
        · obtain ⟨b, off, hA, _⟩ := hlH.out.2.1 (by omega)
          subst hA
          obtain ⟨x, hx⟩ : ∃ x, l[k]? = some x := ⟨l[k]'(by have := hllH.out; omega), List.getElem?_eq_getElem _⟩
          obtain ⟨d0, d1, d2, d3, d4, d5, d6⟩ := cells_Claimed (hlH.out.below hb) hx
          have hwz : x.writer.size ≤ maxLen := (hlH.out.2.2 x (List.mem_of_getElem? hx)).2.2.2.1
          have hwi := wriOf_get hx
          have hfr := hfH.out.below hb (Nat.le_refl _)
          obtain ⟨ga, _⟩ := hfr.ra k hlt
          obtain ⟨gw, _⟩ := hfr.rw_ k hlt
          have hla := hfr.mp.alloc (.cells #[.string x.key, .string x.label, .string x.result, .string x.writer, .int .i64 x.at_, .slice x.uses.A x.uses.n x.uses.cap, .string x.sign] 25)
          replace hm1 := hm1.alloc (.cells #[.string x.key, .string x.label, .string x.result, .string x.writer, .int .i64 x.at_, .slice x.uses.A x.uses.n x.uses.cap, .string x.sign] 25)
          replace hm2 := hm2.alloc (.cells #[.string x.key, .string x.label, .string x.result, .string x.writer, .int .i64 x.at_, .slice x.uses.A x.uses.n x.uses.cap, .string x.sign] 25)
          have hb2 := hb.alloc hbs (.cells #[.string x.key, .string x.label, .string x.result, .string x.writer, .int .i64 x.at_, .slice x.uses.A x.uses.n x.uses.cap, .string x.sign] 25)
          replace e0 := (World.cell?_alloc_lt wr (.cells #[.string x.key, .string x.label, .string x.result, .string x.writer, .int .i64 x.at_, .slice x.uses.A x.uses.n x.uses.cap, .string x.sign] 25) ⟨w.heap.size, 0, none⟩ (by simp; omega)).trans e0
          replace e1 := (World.cell?_alloc_lt wr (.cells #[.string x.key, .string x.label, .string x.result, .string x.writer, .int .i64 x.at_, .slice x.uses.A x.uses.n x.uses.cap, .string x.sign] 25) ⟨w.heap.size, 1, none⟩ (by simp; omega)).trans e1
          replace e2 := (World.cell?_alloc_lt wr (.cells #[.string x.key, .string x.label, .string x.result, .string x.writer, .int .i64 x.at_, .slice x.uses.A x.uses.n x.uses.cap, .string x.sign] 25) ⟨w.heap.size, 2, none⟩ (by simp; omega)).trans e2
          replace ga := (World.cell?_alloc_lt wr (.cells #[.string x.key, .string x.label, .string x.result, .string x.writer, .int .i64 x.at_, .slice x.uses.A x.uses.n x.uses.cap, .string x.sign] 25) ⟨b1, k, none⟩ (cell?_lt ga)).trans ga
          replace gw := (World.cell?_alloc_lt wr (.cells #[.string x.key, .string x.label, .string x.result, .string x.writer, .int .i64 x.at_, .slice x.uses.A x.uses.n x.uses.cap, .string x.sign] 25) ⟨b2, k, none⟩ (cell?_lt gw)).trans gw
          clear hfr
          cases hwB : wrB l m k
          · rw [hwB] at gw
            cases haB : audB m k
            · rw [haB] at ga
              obtain ⟨sv, hsB⟩ : ∃ v, suB l m x.writer = v := ⟨_, rfl⟩
              obtain ⟨ev, heB⟩ : ∃ v, endB l m k x.writer = v := ⟨_, rfl⟩
              have hxH := Lib.hid hx
              clear hx
              have hbH := Lib.hid hb
              clear hb
              have hb2H := Lib.hid hb2
              clear hb2
              have hm1H := Lib.hid hm1
              clear hm1
              have hm2H := Lib.hid hm2
              clear hm2
              have hlaH := Lib.hid hla
              clear hla
              have hwzH := Lib.hid hwz
              clear hwz
              have hwiH := Lib.hid hwi
              clear hwi
              have R : Rg2 l m w.heap.size b1 b2 b3 c3 n w (.int .i64 (k + 1)) (wr.alloc (.cells #[.string x.key, .string x.label, .string x.result, .string x.writer, .int .i64 x.at_, .slice x.uses.A x.uses.n x.uses.cap, .string x.sign] 25)) := by
                refine ⟨k + 1, c1, c2, hlt, by go_num, ?_, by omega, ?_, by omega, e0, e1, e2, hb2H.out, by simp; omega⟩
                · rw [rgtF_keep (.inr (by rw [hwiH.out, haB, hsB, heB]; rfl))]; exact hm1H.out
                · rw [endF_keep hwB]; exact hm2H.out
              have RH := Lib.hid R
              clear R
              go_wp2
              refine ⟨?rel, ?measure⟩
              case measure => (simp [intOf]; omega)
              case rel => first | exact RH.out | exact ⟨rfl, RH.out⟩ | ((try refine ⟨rfl, ?_⟩); (repeat apply Exists.intro); refine ⟨RH.out, ?_⟩; ((repeat' apply And.intro) <;> rfl))
            · rw [haB] at ga
              cases hsB : suB l m x.writer
              · have lk1 := lookS hla x.writer hwz false hsB
                obtain ⟨ev, heB⟩ : ∃ v, endB l m k x.writer = v := ⟨_, rfl⟩
                have hxH := Lib.hid hx
                clear hx
                have hbH := Lib.hid hb
                clear hb
                have hb2H := Lib.hid hb2
                clear hb2
                have hm1H := Lib.hid hm1
                clear hm1
                have hm2H := Lib.hid hm2
                clear hm2
                have hlaH := Lib.hid hla
                clear hla
                have hwzH := Lib.hid hwz
                clear hwz
                have hwiH := Lib.hid hwi
                clear hwi
                have R : Rg2 l m w.heap.size b1 b2 b3 c3 n w (.int .i64 (k + 1)) (wr.alloc (.cells #[.string x.key, .string x.label, .string x.result, .string x.writer, .int .i64 x.at_, .slice x.uses.A x.uses.n x.uses.cap, .string x.sign] 25)) := by
                  refine ⟨k + 1, c1, c2, hlt, by go_num, ?_, by omega, ?_, by omega, e0, e1, e2, hb2H.out, by simp; omega⟩
                  · rw [rgtF_keep (.inr (by rw [hwiH.out, haB, hsB, heB]; rfl))]; exact hm1H.out
                  · rw [endF_keep hwB]; exact hm2H.out
                have RH := Lib.hid R
                clear R
                go_wp2
                refine ⟨?rel, ?measure⟩
                case measure => (simp [intOf]; omega)
                case rel => first | exact RH.out | exact ⟨rfl, RH.out⟩ | ((try refine ⟨rfl, ?_⟩); (repeat apply Exists.intro); refine ⟨RH.out, ?_⟩; ((repeat' apply And.intro) <;> rfl))
              · have lk1 := lookS hla x.writer hwz true hsB
                cases heB : endB l m k x.writer
                · have lk2 := lookS hm2 x.writer hwz false heB
                  have hxH := Lib.hid hx
                  clear hx
                  have hbH := Lib.hid hb
                  clear hb
                  have hb2H := Lib.hid hb2
                  clear hb2
                  have hm1H := Lib.hid hm1
                  clear hm1
                  have hm2H := Lib.hid hm2
                  clear hm2
                  have hlaH := Lib.hid hla
                  clear hla
                  have hwzH := Lib.hid hwz
                  clear hwz
                  have hwiH := Lib.hid hwi
                  clear hwi
                  go_wp2_with (at_mapUpdate; go_loud (refine wpList_tstore rfl (.tmp 57) (.tmp 59) (.tmp 60) 120 rfl Tryz.underlying120 injI rfl hm1H.out (by simp only [maxLen]; omega) x.writer rfl hwzH.out (k : Int) rfl ?_); intro w6 hm6 hg6; have hm6H := Lib.hid hm6; clear hm6)
                  have R : Rg2 l m w.heap.size b1 b2 b3 c3 n w (.int .i64 (k + 1)) w6 := by
                    have hm6 := hm6H.out
                    rw [← hwiH.out, rgtF_upd hwB haB (by rw [hwiH.out]; exact hsB) (by rw [hwiH.out]; exact heB)] at hm6
                    refine ⟨k + 1, _, c2, hlt, by go_num, hm6, Nat.le_trans (ite_le_succ _ c1) (by omega), ?_, by omega, hg6.cell e0 (by simp <;> omega), hg6.cell e1 (by simp <;> omega), hg6.cell e2 (by simp <;> omega), hb2H.out.trans (grown_below hg6 (by omega) hb2H.out.size), by have := hg6.size; simp at this; omega⟩
                    rw [endF_keep hwB]
                    exact hm2H.out.kept hg6 (by simp)
                  clear hg6 hm6H
                  have RH := Lib.hid R
                  clear R
                  refine ⟨?rel, ?measure⟩
                  case measure => (simp [intOf]; omega)
                  case rel => first | exact RH.out | exact ⟨rfl, RH.out⟩ | ((try refine ⟨rfl, ?_⟩); (repeat apply Exists.intro); refine ⟨RH.out, ?_⟩; ((repeat' apply And.intro) <;> rfl))
                · have lk2 := lookS hm2 x.writer hwz true heB
                  have hxH := Lib.hid hx
                  clear hx
                  have hbH := Lib.hid hb
                  clear hb
                  have hb2H := Lib.hid hb2
                  clear hb2
                  have hm1H := Lib.hid hm1
                  clear hm1
                  have hm2H := Lib.hid hm2
                  clear hm2
                  have hlaH := Lib.hid hla
                  clear hla
                  have hwzH := Lib.hid hwz
                  clear hwz
                  have hwiH := Lib.hid hwi
                  clear hwi
                  have R : Rg2 l m w.heap.size b1 b2 b3 c3 n w (.int .i64 (k + 1)) (wr.alloc (.cells #[.string x.key, .string x.label, .string x.result, .string x.writer, .int .i64 x.at_, .slice x.uses.A x.uses.n x.uses.cap, .string x.sign] 25)) := by
                    refine ⟨k + 1, c1, c2, hlt, by go_num, ?_, by omega, ?_, by omega, e0, e1, e2, hb2H.out, by simp; omega⟩
                    · rw [rgtF_keep (.inr (by rw [hwiH.out, haB, hsB, heB]; rfl))]; exact hm1H.out
                    · rw [endF_keep hwB]; exact hm2H.out
                  have RH := Lib.hid R
                  clear R
                  go_wp2
                  refine ⟨?rel, ?measure⟩
                  case measure => (simp [intOf]; omega)
                  case rel => first | exact RH.out | exact ⟨rfl, RH.out⟩ | ((try refine ⟨rfl, ?_⟩); (repeat apply Exists.intro); refine ⟨RH.out, ?_⟩; ((repeat' apply And.intro) <;> rfl))
          · rw [hwB] at gw
            clear ga
            have hxH := Lib.hid hx
            clear hx
            have hbH := Lib.hid hb
            clear hb
            have hb2H := Lib.hid hb2
            clear hb2
            have hm1H := Lib.hid hm1
            clear hm1
            have hm2H := Lib.hid hm2
            clear hm2
            have hlaH := Lib.hid hla
            clear hla
            have hwzH := Lib.hid hwz
            clear hwz
            have hwiH := Lib.hid hwi
            clear hwi
            go_wp2_with (at_mapUpdate; go_loud (refine wpList_tstore rfl (.tmp 34) (.tmp 36) (.const (.bool true)) 81 rfl Tryz.underlying81 injS rfl hm2H.out (by simp only [maxLen]; omega) x.writer rfl hwzH.out true rfl ?_); intro w6 hm6 hg6; have hm6H := Lib.hid hm6; clear hm6)
            have R : Rg2 l m w.heap.size b1 b2 b3 c3 n w (.int .i64 (k + 1)) w6 := by
              have hm6 := hm6H.out
              rw [← hwiH.out, endF_upd hwB] at hm6
              refine ⟨k + 1, c1, _, hlt, by go_num, ?_, by omega, hm6, Nat.le_trans (ite_le_succ _ c2) (by omega), hg6.cell e0 (by simp <;> omega), hg6.cell e1 (by simp <;> omega), hg6.cell e2 (by simp <;> omega), hb2H.out.trans (grown_below hg6 (by omega) hb2H.out.size), by have := hg6.size; simp at this; omega⟩
              rw [rgtF_keep (.inl hwB)]
              exact hm1H.out.kept hg6 (by simp)
            clear hg6 hm6H
            have RH := Lib.hid R
            clear R
            refine ⟨?rel, ?measure⟩
            case measure => (simp [intOf]; omega)
            case rel => first | exact RH.out | exact ⟨rfl, RH.out⟩ | ((try refine ⟨rfl, ?_⟩); (repeat apply Exists.intro); refine ⟨RH.out, ?_⟩; ((repeat' apply And.intro) <;> rfl))
        · obtain rfl : k = n := by omega
          have hm1H := Lib.hid hm1
          clear hm1
          have hm2H := Lib.hid hm2
          clear hm2
          have hbH := Lib.hid hb
          clear hb
          go_wp2
          go_ret
          exact ⟨_, c1, rfl, hm1H.out, hbH.out⟩
    · intro s
      refine ⟨fun w4 cnt4 _ _ hf4 => absurd hf4 (by unfold setF; split <;> simp), ?_⟩
      intro w4 cnt4 hgood hleft hf4 hr4 hlt4 hg4 hs4 hen
      have hgd : s.size ≤ maxLen := hgood
      replace hen : (Instr.entry (.pointer (some ⟨w.heap.size + 1 + 1 + 1, 0, none⟩))).run Tryz.prog w4 = .ok (.tuple #[.string s, .bool true]) w4 := hen
      have hsu : suB l m s = true := by
        unfold setF at hf4
        split at hf4
        · assumption
        · cases hf4
      have hm1b := hm1H.out.kept hg4 (by simp)
      have hm2b := hm2H.out.kept hg4 (by simp)
      have hb4 := hbH.out.trans (grown_below hg4 (by omega) hbH.out.size)
      replace e0 := hg4.cell e0 (by simp <;> omega)
      replace e1 := hg4.cell e1 (by simp <;> omega)
      replace e2 := hg4.cell e2 (by simp <;> omega)
      have hg := hgH.out
      clear hg4 hgood hf4 hm1H hm2H hbH hgH hrH
      have hbig4 : w.heap.size + 4 ≤ w4.heap.size := by omega
      have hr4H := Lib.hid hr4
      clear hr4
      have hm1bH := Lib.hid hm1b
      clear hm1b
      have hm2bH := Lib.hid hm2b
      clear hm2b
      have hb4H := Lib.hid hb4
      clear hb4
      have hgH := Lib.hid hg
      clear hg
      have hgdH := Lib.hid hgd
      clear hgd
      have hsuH := Lib.hid hsu
      clear hsu
      go_wp2_with (at_mapUpdate; go_loud (refine wpList_tstore rfl (.tmp 19) (.tmp 20) (.const (.int .i64 (-1))) 120 rfl Tryz.underlying120 injI rfl hm1bH.out (by simp only [maxLen]; omega) s rfl hgdH.out (-1 : Int) rfl ?_); intro w6 hm6 hg6; have hm6H := Lib.hid hm6; clear hm6)
      have M : w6.rangeLeft b3 (w.heap.size + 1 + 1 + 1) < wr.rangeLeft b3 (w.heap.size + 1 + 1 + 1) := by
        have h1 := (hr4H.out.kept hg6 (by simp <;> omega) (by simp <;> omega)).left_eq
        rw [h1, hrlH.out]
        exact hlt4
      have R : Rg1 l m w.heap.size b1 b2 b3 c3 (w.heap.size + 1 + 1 + 1) n w w6 := by
        refine ⟨_, cnt4, _, _, hr4H.out.kept hg6 (by simp <;> omega) (by simp <;> omega), hm6H.out, ?_, fun z hz => ?_, hm2bH.out.kept hg6 (by simp <;> omega), hg6.cell e0 (by simp <;> omega), hg6.cell e1 (by simp <;> omega), hg6.cell e2 (by simp <;> omega), hb4H.out.trans (grown_below hg6 (by omega) hb4H.out.size), by have := hg6.size; omega⟩
        · have := ite_le_succ ((g s).isSome = true) ci
          omega
        · unfold upd
          by_cases hzs : z = s
          · subst hzs
            rw [if_pos rfl, hsuH.out]
            simp
          · rw [if_neg hzs, hgH.out z hz]
            simp [hzs]
      clear hg6 hm6H
      have RH := Lib.hid R
      clear R
      have MH := Lib.hid M
      clear M
      refine ⟨?rel, ?measure⟩
      case measure => exact MH.out
      case rel => first | exact RH.out | exact ⟨rfl, RH.out⟩ | ((try refine ⟨rfl, ?_⟩); (repeat apply Exists.intro); refine ⟨RH.out, ?_⟩; ((repeat' apply And.intro) <;> rfl))
end Go.Proofs.YtaeeicnbnohghaaGreatDoor.C11

namespace Go.Proofs.YtaeeicnbnohghaaGreatDoor.C11
open Go.RowKit
set_option linter.unusedVariables false

theorem pre_old {l : List Claimed} {m : List Audit} {k j : Nat} (h : j < k) : pre l m (k + 1) j = pre l m k j := by
  show (if j = k then tStep l m (pre l m k) k else pre l m k j) = _
  rw [if_neg (by omega)]
theorem pre_new (l : List Claimed) (m : List Audit) (k : Nat) : pre l m (k + 1) k = tStep l m (pre l m k) k := by
  show (if k = k then tStep l m (pre l m k) k else pre l m k k) = _
  rw [if_pos rfl]
/-- the results of tainted ones so far -/
def badF (l : List Claimed) (m : List Audit) (k : Nat) : ByteArray → Bool := anyB l (pre l m k) k
/-- the results of others so far -/
def goodF (l : List Claimed) (m : List Audit) (k : Nat) : ByteArray → Bool := anyB l (fun j => !pre l m k j) k
theorem bad_step {l : List Claimed} {m : List Audit} {k : Nat} (h : tStep l m (pre l m k) k = true) : badF l m (k + 1) = fun s => badF l m k s || decide (resOf l k = s) := by
  funext s
  show (anyB l (pre l m (k + 1)) k s || (pre l m (k + 1) k && decide (resOf l k = s))) = _
  rw [anyB_congr l k (fun j hj => pre_old hj), pre_new, h, Bool.true_and]
  rfl
theorem bad_keep {l : List Claimed} {m : List Audit} {k : Nat} (h : tStep l m (pre l m k) k = false) : badF l m (k + 1) = badF l m k := by
  funext s
  show (anyB l (pre l m (k + 1)) k s || (pre l m (k + 1) k && decide (resOf l k = s))) = _
  rw [anyB_congr l k (fun j hj => pre_old hj), pre_new, h, Bool.false_and, Bool.or_false]
  rfl
theorem good_step {l : List Claimed} {m : List Audit} {k : Nat} (h : tStep l m (pre l m k) k = false) : goodF l m (k + 1) = fun s => goodF l m k s || decide (resOf l k = s) := by
  funext s
  show (anyB l (fun j => !pre l m (k + 1) j) k s || (!pre l m (k + 1) k && decide (resOf l k = s))) = _
  rw [anyB_congr l (f := fun j => !pre l m (k + 1) j) (g := fun j => !pre l m k j) k (fun j hj => by show (!pre l m (k + 1) j) = (!pre l m k j); rw [pre_old hj]), pre_new, h]
  rfl
theorem good_keep {l : List Claimed} {m : List Audit} {k : Nat} (h : tStep l m (pre l m k) k = true) : goodF l m (k + 1) = goodF l m k := by
  funext s
  show (anyB l (fun j => !pre l m (k + 1) j) k s || (!pre l m (k + 1) k && decide (resOf l k = s))) = _
  rw [anyB_congr l (f := fun j => !pre l m (k + 1) j) (g := fun j => !pre l m k j) k (fun j hj => by show (!pre l m (k + 1) j) = (!pre l m k j); rw [pre_old hj]), pre_new, h]
  simp only [Bool.not_true, Bool.false_and, Bool.or_false]
  rfl
def useP (l : List Claimed) (m : List Audit) (k : Nat) (u : ByteArray) : Bool := badF l m k u && !goodF l m k u
theorem tStep_parts {l : List Claimed} {m : List Audit} {k : Nat} : tStep l m (pre l m k) k = (wrB l m k || ((suB l m (wriOf l k) && !audB m k) && decide (rgt l m l.length (wriOf l k) < (k : Int))) || (useOf l k).any (useP l m k)) := rfl
theorem pre_upd (l : List Claimed) (m : List Audit) (k : Nat) : pre l m (k + 1) = fun j => if j = k then tStep l m (pre l m k) k else pre l m k j := rfl
/-- what 'right' tells of a writer -/
theorem rgtF_some {l : List Claimed} {m : List Audit} {n : Nat} {s : ByteArray} : (rgtF l m n s).isSome = suB l m s := by
  unfold rgtF
  cases suB l m s <;> rfl
theorem rgtF_get {l : List Claimed} {m : List Audit} {n : Nat} {s : ByteArray} (h : suB l m s = true) : (rgtF l m n s).getD 0 = rgt l m n s := by
  unfold rgtF
  rw [if_pos h]; rfl
theorem rgtF_none {l : List Claimed} {m : List Audit} {n : Nat} {s : ByteArray} (h : suB l m s = false) : (rgtF l m n s).getD 0 = 0 := by
  unfold rgtF
  rw [h]; rfl
end Go.Proofs.YtaeeicnbnohghaaGreatDoor.C11

namespace Go.Proofs.YtaeeicnbnohghaaGreatDoor.C11
open Go.RowKit
set_option linter.unusedVariables false

theorem taint_fn (l : List Claimed) (m : List Audit) (k pm pg bm bg c5 c6 : Nat) (u : ByteArray) (W : World) (hp1 : W.cell? ⟨pm, 0, none⟩ = some (.map (some bm))) (hp2 : W.cell? ⟨pg, 0, none⟩ = some (.map (some bg)))
    (h5 : TMap KS valS W bm (setF (badF l m k)) c5) (h6 : TMap KS valS W bg (setF (goodF l m k)) c6) (hu : u.size ≤ maxLen) :
    Calls Tryz.prog 92 #[.string u, .pointer (some ⟨pm, 0, none⟩), .pointer (some ⟨pg, 0, none⟩)] W fun e w' => e = .returned (.bool (useP l m k u)) ∧ Below W.heap.size W w' := by
  unfold useP
  cases h1 : badF l m k u
  · have lk1 := lookS h5 u hu false h1
    have lk2 := lookS h6 u hu _ rfl
    have h5H := Lib.hid h5
    clear h5
    have h6H := Lib.hid h6
    clear h6
    have h1H := Lib.hid h1
    clear h1
    go_enter Tryz.func92, Tryz.ntmps92
    go_wp2
    go_ret
    exact ⟨rfl, Below.refl _ _⟩
  · have lk1 := lookS h5 u hu true h1
    cases h2 : goodF l m k u
    · have lk2 := lookS h6 u hu false h2
      have h5H := Lib.hid h5
      clear h5
      have h6H := Lib.hid h6
      clear h6
      have h1H := Lib.hid h1
      clear h1
      have h2H := Lib.hid h2
      clear h2
      go_enter Tryz.func92, Tryz.ntmps92
      go_wp2
      go_ret
      exact ⟨rfl, Below.refl _ _⟩
    · have lk2 := lookS h6 u hu true h2
      have h5H := Lib.hid h5
      clear h5
      have h6H := Lib.hid h6
      clear h6
      have h1H := Lib.hid h1
      clear h1
      have h2H := Lib.hid h2
      clear h2
      go_enter Tryz.func92, Tryz.ntmps92
      go_wp2
      go_ret
      exact ⟨rfl, Below.refl _ _⟩

structure TSt (n bo bm bg pm pg : Nat) (fo : Nat → Bool) (fb fg : ByteArray → Option Bool) (c5 c6 : Nat) (w2 wr : World) : Prop where
  ro : BRow wr bo n fo
  mb : TMap KS valS wr bm fb c5
  mg : TMap KS valS wr bg fg c6
  p1 : wr.cell? ⟨pm, 0, none⟩ = some (.map (some bm))
  p2 : wr.cell? ⟨pg, 0, none⟩ = some (.map (some bg))
  bel : Below w2.heap.size w2 wr
  lo : bo < wr.heap.size
  l1 : pm < wr.heap.size
  l2 : pg < wr.heap.size
structure TNe (K bo bm bg pm pg : Nat) : Prop where
  n1 : bo ≠ bm
  n2 : bo ≠ bg
  n3 : bo ≠ pm
  n4 : bo ≠ pg
  n5 : bm ≠ bg
  n6 : bm ≠ pm
  n7 : bm ≠ pg
  n8 : bg ≠ pm
  n9 : bg ≠ pg
  g1 : K ≤ bo
  g2 : K ≤ bm
  g3 : K ≤ bg
theorem TSt.below {n bo bm bg pm pg : Nat} {fo : Nat → Bool} {fb fg : ByteArray → Option Bool} {c5 c6 : Nat} {w2 wr w' : World} (h : TSt n bo bm bg pm pg fo fb fg c5 c6 w2 wr) (hb : Below wr.heap.size wr w') : TSt n bo bm bg pm pg fo fb fg c5 c6 w2 w' := by
  have h1 := h.lo
  have h2 := h.l1
  have h3 := h.l2
  have hs := hb.size
  exact ⟨h.ro.below hb h1, h.mb.below hb h.mb.lt, h.mg.below hb h.mg.lt, (hb.cell (p := ⟨pm, 0, none⟩) h2).trans h.p1, (hb.cell (p := ⟨pg, 0, none⟩) h3).trans h.p2, h.bel.trans (hb.mono h.bel.size), by omega, by omega, by omega⟩
theorem TSt.putO {n bo bm bg pm pg : Nat} {fo fo' : Nat → Bool} {fb fg : ByteArray → Option Bool} {c5 c6 : Nat} {w2 wr w' : World} (h : TSt n bo bm bg pm pg fo fb fg c5 c6 w2 wr) (e : TNe w2.heap.size bo bm bg pm pg) (hr : BRow w' bo n fo') (hg : wr.grownBy w' (some bo)) : TSt n bo bm bg pm pg fo' fb fg c5 c6 w2 w' := by
  obtain ⟨n1, n2, n3, n4, n5, n6, n7, n8, n9, g1, g2, g3⟩ := e
  have h1 := h.lo
  have h2 := h.l1
  have h3 := h.l2
  have hs := hg.size
  exact ⟨hr, h.mb.kept hg (by simp; omega), h.mg.kept hg (by simp; omega), hg.cell h.p1 (by simp; omega), hg.cell h.p2 (by simp; omega), h.bel.trans (grown_below hg (by omega) h.bel.size), by omega, by omega, by omega⟩
theorem TSt.putB {n bo bm bg pm pg : Nat} {fo : Nat → Bool} {fb fb' fg : ByteArray → Option Bool} {c5 c6 c5' : Nat} {w2 wr w' : World} (h : TSt n bo bm bg pm pg fo fb fg c5 c6 w2 wr) (e : TNe w2.heap.size bo bm bg pm pg) (hr : TMap KS valS w' bm fb' c5') (hg : wr.grownBy w' (some bm)) : TSt n bo bm bg pm pg fo fb' fg c5' c6 w2 w' := by
  obtain ⟨n1, n2, n3, n4, n5, n6, n7, n8, n9, g1, g2, g3⟩ := e
  have h1 := h.lo
  have h2 := h.l1
  have h3 := h.l2
  have hs := hg.size
  exact ⟨h.ro.kept hg (by simp; omega), hr, h.mg.kept hg (by simp; omega), hg.cell h.p1 (by simp; omega), hg.cell h.p2 (by simp; omega), h.bel.trans (grown_below hg (by omega) h.bel.size), by omega, by omega, by omega⟩
theorem TSt.putG {n bo bm bg pm pg : Nat} {fo : Nat → Bool} {fb fg fg' : ByteArray → Option Bool} {c5 c6 c6' : Nat} {w2 wr w' : World} (h : TSt n bo bm bg pm pg fo fb fg c5 c6 w2 wr) (e : TNe w2.heap.size bo bm bg pm pg) (hr : TMap KS valS w' bg fg' c6') (hg : wr.grownBy w' (some bg)) : TSt n bo bm bg pm pg fo fb fg' c5 c6' w2 w' := by
  obtain ⟨n1, n2, n3, n4, n5, n6, n7, n8, n9, g1, g2, g3⟩ := e
  have h1 := h.lo
  have h2 := h.l1
  have h3 := h.l2
  have hs := hg.size
  exact ⟨h.ro.kept hg (by simp; omega), h.mb.kept hg (by simp; omega), hr, hg.cell h.p1 (by simp; omega), hg.cell h.p2 (by simp; omega), h.bel.trans (grown_below hg (by omega) h.bel.size), by omega, by omega, by omega⟩
def TnRel (l : List Claimed) (m : List Audit) (n bo bm bg pm pg : Nat) (w2 : World) (i : Value) (wr : World) : Prop :=
  ∃ k c5 c6 : Nat, k ≤ n ∧ i = .int .i64 k ∧ TSt n bo bm bg pm pg (pre l m k) (setF (badF l m k)) (setF (goodF l m k)) c5 c6 w2 wr ∧ c5 ≤ k ∧ c6 ≤ k

theorem chain5 (w1 : World) (o1 o2 o3 o4 o5 : Obj) :
    (((((w1.alloc o1).alloc o2).alloc o3).alloc o4).alloc o5).heap[w1.heap.size]? = some o1 ∧ (((((w1.alloc o1).alloc o2).alloc o3).alloc o4).alloc o5).heap[w1.heap.size + 1]? = some o2 ∧
    (((((w1.alloc o1).alloc o2).alloc o3).alloc o4).alloc o5).heap[w1.heap.size + 1 + 1]? = some o3 ∧ (((((w1.alloc o1).alloc o2).alloc o3).alloc o4).alloc o5).heap[w1.heap.size + 1 + 1 + 1]? = some o4 ∧
    (((((w1.alloc o1).alloc o2).alloc o3).alloc o4).alloc o5).heap[w1.heap.size + 1 + 1 + 1 + 1]? = some o5 ∧
    (((((w1.alloc o1).alloc o2).alloc o3).alloc o4).alloc o5).heap.size = w1.heap.size + 5 ∧ Below w1.heap.size w1 (((((w1.alloc o1).alloc o2).alloc o3).alloc o4).alloc o5) := by
  have hb : Below w1.heap.size w1 (((((w1.alloc o1).alloc o2).alloc o3).alloc o4).alloc o5) := by
    refine (((((Below.refl _ _).alloc ?_ _).alloc ?_ _).alloc ?_ _).alloc ?_ _).alloc ?_ _ <;> simp <;> omega
  obtain ⟨a1, p1⟩ := MapKept.heap_alloc w1 o1
  obtain ⟨a2, p2⟩ := MapKept.heap_alloc (w1.alloc o1) o2
  obtain ⟨a3, p3⟩ := MapKept.heap_alloc ((w1.alloc o1).alloc o2) o3
  obtain ⟨a4, p4⟩ := MapKept.heap_alloc (((w1.alloc o1).alloc o2).alloc o3) o4
  obtain ⟨a5, p5⟩ := MapKept.heap_alloc ((((w1.alloc o1).alloc o2).alloc o3).alloc o4) o5
  simp only [World.size_alloc] at a2 p2 a3 p3 a4 p4 a5 p5
  refine ⟨?_, ?_, ?_, ?_, a5, ?_, hb⟩
  · exact (p5 _ (by omega)).trans ((p4 _ (by omega)).trans ((p3 _ (by omega)).trans ((p2 _ (by omega)).trans a1)))
  · exact (p5 _ (by omega)).trans ((p4 _ (by omega)).trans ((p3 _ (by omega)).trans a2))
  · exact (p5 _ (by omega)).trans ((p4 _ (by omega)).trans a3)
  · exact (p5 _ (by omega)).trans a4
  · simp only [World.size_alloc]
theorem rel_tru {l : List Claimed} {m : List Audit} {n bo bm bg pm pg k c5 c6 : Nat} {w2 W w7 : World} {x : Claimed} (hne : TNe w2.heap.size bo bm bg pm pg) (hst : TSt n bo bm bg pm pg (pre l m (k + 1)) (setF (badF l m k)) (setF (goodF l m (k + 1))) c5 c6 w2 W) (hv : tStep l m (pre l m k) k = true) (hri : resOf l k = x.result)
    (hlt : k < n) (h5 : c5 ≤ k) (h6 : c6 ≤ k) (hm : TMap KS valS w7 bm (upd (setF (badF l m k)) x.result true) (if (setF (badF l m k) x.result).isSome = true then c5 else c5 + 1)) (hg : W.grownBy w7 (some bm)) : TnRel l m n bo bm bg pm pg w2 (.int .i64 (k + 1)) w7 := by
  refine ⟨k + 1, _, c6, hlt, by go_num, ?_, Nat.le_trans (ite_le_succ ((setF (badF l m k) x.result).isSome = true) c5) (by omega), by omega⟩
  rw [setF_upd] at hm
  have hbs := bad_step hv
  rw [hri] at hbs
  rw [hbs]
  exact hst.putB hne hm hg
theorem rel_fls {l : List Claimed} {m : List Audit} {n bo bm bg pm pg k c5 c6 : Nat} {w2 W w7 : World} {x : Claimed} (hne : TNe w2.heap.size bo bm bg pm pg) (hst : TSt n bo bm bg pm pg (pre l m (k + 1)) (setF (badF l m (k + 1))) (setF (goodF l m k)) c5 c6 w2 W) (hv : tStep l m (pre l m k) k = false) (hri : resOf l k = x.result)
    (hlt : k < n) (h5 : c5 ≤ k) (h6 : c6 ≤ k) (hm : TMap KS valS w7 bg (upd (setF (goodF l m k)) x.result true) (if (setF (goodF l m k) x.result).isSome = true then c6 else c6 + 1)) (hg : W.grownBy w7 (some bg)) : TnRel l m n bo bm bg pm pg w2 (.int .i64 (k + 1)) w7 := by
  refine ⟨k + 1, c5, _, hlt, by go_num, ?_, by omega, Nat.le_trans (ite_le_succ ((setF (goodF l m k) x.result).isSome = true) c6) (by omega)⟩
  rw [setF_upd] at hm
  have hbs := good_step hv
  rw [hri] at hbs
  rw [hbs]
  exact hst.putG hne hm hg
/-- behind the store of what is so of the k-th -/
theorem TSt.sto {l : List Claimed} {m : List Audit} {n bo bm bg pm pg k c5 c6 : Nat} {w2 W : World} {v : Bool} (hst : TSt n bo bm bg pm pg (pre l m k) (setF (badF l m k)) (setF (goodF l m k)) c5 c6 w2 W) (hne : TNe w2.heap.size bo bm bg pm pg) (hv : tStep l m (pre l m k) k = v) :
    TSt n bo bm bg pm pg (pre l m (k + 1)) (setF (badF l m (if v = true then k else k + 1))) (setF (goodF l m (if v = true then k + 1 else k))) c5 c6 w2 (W.setCell ⟨bo, k, none⟩ (.bool v)) := by
  have h := hst.putO hne (hst.ro.set (k := k) v) (grown_setc W ⟨bo, k, none⟩ (.bool v))
  rw [pre_upd, hv]
  cases v
  · rw [if_neg (by decide), if_neg (by decide), bad_keep hv]; exact h
  · rw [if_pos rfl, if_pos rfl, good_keep hv]; exact h

set_option maxRecDepth 100000 in
set_option maxHeartbeats 8000000 in
theorem tainted_any (A : Option Addr) (n c : Nat) (l : List Claimed) (B : Option Addr) (mn mc : Nat) (m : List Audit) (w : World) (hn : n ≤ 1000) (hmn : mn ≤ 1000) (hl : SlAt RClaimed w A n l) (hma : SlAt RAudit w B mn m) (hr : ∀ a ∈ m, 0 ≤ a.number ∧ a.number < n) :
    Calls Tryz.prog 55 #[.slice A n c, .slice B mn mc] w fun e w' => ∃ b, e = .returned (.slice (some ⟨b, 0, none⟩) n n) ∧ BRow w' b n (tntB l m) ∧ b < w'.heap.size ∧ Below w.heap.size w w' := by
  have hll := hl.1
  have hmk := @run_makeMap Tryz.prog
  have hmkB := run_makeB n (by omega)
  have hlH := Lib.hid hl
  clear hl
  have hllH := Lib.hid hll
  clear hll
  have hmaH := Lib.hid hma
  clear hma
  have hrH := Lib.hid hr
  clear hr
  go_enter Tryz.func55, Tryz.ntmps55
  go_wp2_with fail
  refine (facts_any A n c l B mn mc m _ hn hmn hlH.out hmaH.out hrH.out).mono ?_
  rintro e w1 ⟨b1, b2, b3, c3, rfl, hf, hb1⟩
  have hba := hb1.alloc hb1.size (.cells #[.slice (some ⟨b1, 0, none⟩) n n, .slice (some ⟨b2, 0, none⟩) n n, .map (some b3)] 95)
  have hfa := hf.below ((Below.refl w1.heap.size w1).alloc (Nat.le_refl _) (.cells #[.slice (some ⟨b1, 0, none⟩) n n, .slice (some ⟨b2, 0, none⟩) n n, .map (some b3)] 95)) (Nat.le_refl _)
  clear hf
  have hb1H := Lib.hid hb1
  clear hb1
  have hbaH := Lib.hid hba
  clear hba
  have hfaH := Lib.hid hfa
  clear hfa
  go_wp2_with fail
  refine (right_any A n c l m b1 b2 b3 c3 _ hn (hlH.out.below hbaH.out) hfaH.out).mono ?_
  rintro e w2 ⟨b4, c4, rfl, hm4, hb2⟩
  have e0 : w2.cell? ⟨w1.heap.size, 0, none⟩ = some (.slice (some ⟨b1, 0, none⟩) n n) := (hb2.cell (by simp)).trans (cell_new w1 _ _ 0)
  have e1 : w2.cell? ⟨w1.heap.size, 1, none⟩ = some (.slice (some ⟨b2, 0, none⟩) n n) := (hb2.cell (by simp)).trans (cell_new w1 _ _ 1)
  have hf2 := hfaH.out.below hb2 (Nat.le_refl _)
  have hbw := hbaH.out.trans (hb2.mono hbaH.out.size)
  have hx2 : w1.heap.size < w2.heap.size := by have := hb2.size; simp at this; omega
  clear hb2
  have hm4H := Lib.hid hm4
  clear hm4
  have hf2H := Lib.hid hf2
  clear hf2
  have hbwH := Lib.hid hbw
  clear hbw
  have hne : TNe w2.heap.size w2.heap.size (w2.heap.size + 1) (w2.heap.size + 1 + 1) (w2.heap.size + 1 + 1 + 1) (w2.heap.size + 1 + 1 + 1 + 1) := by constructor <;> omega
  have hneH := Lib.hid hne
  clear hne
  go_wp2_with fail
  go_loopw [27] (fun i wr => TnRel l m n w2.heap.size (w2.heap.size + 1) (w2.heap.size + 1 + 1) (w2.heap.size + 1 + 1 + 1) (w2.heap.size + 1 + 1 + 1 + 1) w2 i wr) (fun i _ => n - (intOf i).toNat)
  case atStart =>
    obtain ⟨k1, k2, k3, k4, k5, k6, k7⟩ := chain5 w2 (.cells (madeB n) 4) (.map #[] 0) (.map #[] 0) (.cells #[.map (some (w2.heap.size + 1))] 81) (.cells #[.map (some (w2.heap.size + 1 + 1))] 81)
    refine ⟨0, 0, 0, Nat.zero_le _, rfl, ⟨brow_of_heap k1, (tmap_of_heap KS valS k2).congr fun s _ => rfl, (tmap_of_heap KS valS k3).congr fun s _ => rfl, cell_of_heap k4, cell_of_heap k5, k7, by omega, by omega, by omega⟩, Nat.le_refl _, Nat.le_refl _⟩
  case round =>
    obtain ⟨k, c5, c6, hk, rfl, hst, hc5, hc6⟩ := hrel
    by_cases hlt : k < n
    · obtain ⟨b, off, hA, _⟩ := hlH.out.2.1 (by omega)
      subst hA
      obtain ⟨x, hx⟩ : ∃ x, l[k]? = some x := ⟨l[k]'(by have := hllH.out; omega), List.getElem?_eq_getElem _⟩
      have hbr : Below w.heap.size w wr := hbwH.out.trans (hst.bel.mono hbwH.out.size)
      obtain ⟨d0, d1, d2, d3, d4, d5, d6⟩ := cells_Claimed (hlH.out.below hbr) hx
      have hxok := RClaimed.mono _ _ _ (hbr.alloc hbr.size (.cells #[.string x.key, .string x.label, .string x.result, .string x.writer, .int .i64 x.at_, .slice x.uses.A x.uses.n x.uses.cap, .string x.sign] 25)) (hlH.out.2.2 x (List.mem_of_getElem? hx))
      have hrz : x.result.size ≤ maxLen := hxok.2.2.1
      have hwz : x.writer.size ≤ maxLen := hxok.2.2.2.1
      have hus : SlAt RStr (wr.alloc (.cells #[.string x.key, .string x.label, .string x.result, .string x.writer, .int .i64 x.at_, .slice x.uses.A x.uses.n x.uses.cap, .string x.sign] 25)) x.uses.A x.uses.n x.uses.l := hxok.2.2.2.2.2.1.1
      have hun : x.uses.n ≤ maxLen := Nat.le_trans hxok.2.2.2.2.2.1.2.1 hxok.2.2.2.2.2.1.2.2.1
      have hwi := wriOf_get hx
      have hri := resOf_get hx
      have hui := useOf_get hx
      have hal := (Below.refl wr.heap.size wr).alloc (Nat.le_refl _) (.cells #[.string x.key, .string x.label, .string x.result, .string x.writer, .int .i64 x.at_, .slice x.uses.A x.uses.n x.uses.cap, .string x.sign] 25)
      have hsa := hst.below hal
      have hbol : w2.heap.size < wr.heap.size := hst.lo
      have hma := (hm4H.out.below hst.bel hm4H.out.lt).alloc (.cells #[.string x.key, .string x.label, .string x.result, .string x.writer, .int .i64 x.at_, .slice x.uses.A x.uses.n x.uses.cap, .string x.sign] 25)
      have hfr := (hf2H.out.below hst.bel (Nat.le_refl _)).below hal (Nat.le_refl _)
      obtain ⟨ga, _⟩ := hfr.ra k hlt
      obtain ⟨gw, _⟩ := hfr.rw_ k hlt
      have g0 := (hst.bel.cell (p := ⟨w1.heap.size, 0, none⟩) hx2).trans e0
      have g1 := (hst.bel.cell (p := ⟨w1.heap.size, 1, none⟩) hx2).trans e1
      replace g0 := (hal.cell (p := ⟨w1.heap.size, 0, none⟩) (by show w1.heap.size < wr.heap.size; omega)).trans g0
      replace g1 := (hal.cell (p := ⟨w1.heap.size, 1, none⟩) (by show w1.heap.size < wr.heap.size; omega)).trans g1
      clear hfr hxok
      cases hwB : wrB l m k
      · rw [hwB] at gw
        cases hsB : suB l m x.writer
        · have lk := lookI hma x.writer hwz 0 (rgtF_none hsB) false (by rw [rgtF_some, hsB])
          clear ga
          have hxH := Lib.hid hx
          clear hx
          have hbrH := Lib.hid hbr
          clear hbr
          have hstH := Lib.hid hst
          clear hst
          have hsaH := Lib.hid hsa
          clear hsa
          have hmaH := Lib.hid hma
          clear hma
          have halH := Lib.hid hal
          clear hal
          have hrzH := Lib.hid hrz
          clear hrz
          have hwzH := Lib.hid hwz
          clear hwz
          have husH := Lib.hid hus
          clear hus
          have hunH := Lib.hid hun
          clear hun
          have hwiH := Lib.hid hwi
          clear hwi
          have hriH := Lib.hid hri
          clear hri
          have huiH := Lib.hid hui
          clear hui
          -- the uses are asked
          go_wp2_with fail
          refine (containsFunc_any 92 #[.pointer (some ⟨w2.heap.size + 1 + 1 + 1, 0, none⟩), .pointer (some ⟨w2.heap.size + 1 + 1 + 1 + 1, 0, none⟩)] (enters_of Tryz.func92 (by kernel_rfl) rfl) (useP l m k) x.uses.A x.uses.n x.uses.cap x.uses.l _ husH.out (by have := hunH.out; unfold maxLen at this; omega) (fun W u hu hbW => by
            have hsW := hsaH.out.below hbW
            exact taint_fn l m k _ _ _ _ c5 c6 u W hsW.p1 hsW.p2 hsW.mb hsW.mg (husH.out.2.2 u hu)) _ rfl).mono ?_
          rintro e w5 ⟨rfl, hb5⟩
          have hstw := hsaH.out.below hb5
          have hd2w : w5.cell? ⟨wr.heap.size, 2, none⟩ = some (.string x.result) := (hb5.cell (by simp)).trans (cell_new wr _ _ 2)
          obtain ⟨v, hv⟩ : ∃ v, tStep l m (pre l m k) k = v := ⟨_, rfl⟩
          have hvu : (x.uses.l).any (useP l m k) = v := by rw [← hv, tStep_parts, hwB, hwiH.out, hsB, huiH.out]; simp
          rw [hvu]
          clear hb5 hvu
          have hvH := Lib.hid hv
          clear hv
          cases v
          · obtain ⟨p2, z2⟩ := hstw.ro k hlt
            have hs6 := hstw.sto hneH.out hvH.out
            rw [if_neg (by decide), if_neg (by decide)] at hs6
            have q1 := hs6.p2
            have q2 := (hs6.ro k hlt).1
            rw [pre_new, hvH.out] at q2
            have q3 : (World.setCell w5 ⟨w2.heap.size, k, none⟩ (.bool false)).cell? ⟨wr.heap.size, 2, none⟩ = some (.string x.result) := (World.cell?_setCell_other _ _ _ _ (by simp <;> omega)).trans hd2w
            clear hstw hd2w
            have hs6H := Lib.hid hs6
            clear hs6
            go_wp2_with (at_mapUpdate; go_loud (refine wpList_tstore rfl (.tmp 76) (.tmp 78) (.const (.bool true)) 81 rfl Tryz.underlying81 injS rfl hs6H.out.mg (by simp only [maxLen]; omega) x.result rfl hrzH.out true rfl ?_); intro w7 hm7 hg7; have hm7H := Lib.hid hm7; clear hm7; have hg7H := Lib.hid hg7; clear hg7)
            have R := rel_fls (x := x) hneH.out hs6H.out hvH.out hriH.out hlt hc5 hc6 hm7H.out hg7H.out
            clear hm7H hg7H
            have RH := Lib.hid R
            clear R
            refine ⟨?rel, ?measure⟩
            case measure => (simp [intOf]; omega)
            case rel => first | exact RH.out | exact ⟨rfl, RH.out⟩ | ((try refine ⟨rfl, ?_⟩); (repeat apply Exists.intro); refine ⟨RH.out, ?_⟩; ((repeat' apply And.intro) <;> rfl))
          · obtain ⟨p2, z2⟩ := hstw.ro k hlt
            have hs6 := hstw.sto hneH.out hvH.out
            rw [if_pos rfl, if_pos rfl] at hs6
            have q1 := hs6.p1
            have q2 := (hs6.ro k hlt).1
            rw [pre_new, hvH.out] at q2
            have q3 : (World.setCell w5 ⟨w2.heap.size, k, none⟩ (.bool true)).cell? ⟨wr.heap.size, 2, none⟩ = some (.string x.result) := (World.cell?_setCell_other _ _ _ _ (by simp <;> omega)).trans hd2w
            clear hstw hd2w
            have hs6H := Lib.hid hs6
            clear hs6
            go_wp2_with (at_mapUpdate; go_loud (refine wpList_tstore rfl (.tmp 73) (.tmp 75) (.const (.bool true)) 81 rfl Tryz.underlying81 injS rfl hs6H.out.mb (by simp only [maxLen]; omega) x.result rfl hrzH.out true rfl ?_); intro w7 hm7 hg7; have hm7H := Lib.hid hm7; clear hm7; have hg7H := Lib.hid hg7; clear hg7)
            have R := rel_tru (x := x) hneH.out hs6H.out hvH.out hriH.out hlt hc5 hc6 hm7H.out hg7H.out
            clear hm7H hg7H
            have RH := Lib.hid R
            clear R
            refine ⟨?rel, ?measure⟩
            case measure => (simp [intOf]; omega)
            case rel => first | exact RH.out | exact ⟨rfl, RH.out⟩ | ((try refine ⟨rfl, ?_⟩); (repeat apply Exists.intro); refine ⟨RH.out, ?_⟩; ((repeat' apply And.intro) <;> rfl))
        · obtain ⟨r, hr⟩ : ∃ r, rgt l m n x.writer = r := ⟨_, rfl⟩
          have lk := lookI hma x.writer hwz r (by rw [rgtF_get hsB, hr]) true (by rw [rgtF_some, hsB])
          cases haB : audB m k
          · rw [haB] at ga
            by_cases hgt : r < (k : Int)
            · have hgd : decide (r < (k : Int)) = true := decide_eq_true hgt
              have hv : tStep l m (pre l m k) k = true := by rw [tStep_parts, hwB, hwi, hsB, haB, show l.length = n from hllH.out, hr, hgd]; rfl
              obtain ⟨p2, z2⟩ := hsa.ro k hlt
              have hs5 := hst.sto hneH.out hv
              rw [if_pos rfl, if_pos rfl] at hs5
              have hs6 := hs5.below ((Below.refl _ _).alloc (Nat.le_refl _) (.cells #[.string x.key, .string x.label, .string x.result, .string x.writer, .int .i64 x.at_, .slice x.uses.A x.uses.n x.uses.cap, .string x.sign] 25))
              clear hs5
              have q1 := hs6.p1
              have q2 := (hs6.ro k hlt).1
              rw [pre_new, hv] at q2
              have q3 : ((wr.setCell ⟨w2.heap.size, k, none⟩ (.bool true)).alloc (.cells #[.string x.key, .string x.label, .string x.result, .string x.writer, .int .i64 x.at_, .slice x.uses.A x.uses.n x.uses.cap, .string x.sign] 25)).cell? ⟨wr.heap.size, 2, none⟩ = some (.string x.result) := by
                have := cell_new (wr.setCell ⟨w2.heap.size, k, none⟩ (.bool true)) #[.string x.key, .string x.label, .string x.result, .string x.writer, .int .i64 x.at_, .slice x.uses.A x.uses.n x.uses.cap, .string x.sign] 25 2
                simpa using this
              have hxH := Lib.hid hx
              clear hx
              have hbrH := Lib.hid hbr
              clear hbr
              have hstH := Lib.hid hst
              clear hst
              have hsaH := Lib.hid hsa
              clear hsa
              have hmaH := Lib.hid hma
              clear hma
              have halH := Lib.hid hal
              clear hal
              have hrzH := Lib.hid hrz
              clear hrz
              have hwzH := Lib.hid hwz
              clear hwz
              have husH := Lib.hid hus
              clear hus
              have hunH := Lib.hid hun
              clear hun
              have hwiH := Lib.hid hwi
              clear hwi
              have hriH := Lib.hid hri
              clear hri
              have huiH := Lib.hid hui
              clear hui
              have hrH := Lib.hid hr
              clear hr
              have hvH := Lib.hid hv
              clear hv
              have hs6H := Lib.hid hs6
              clear hs6
              go_wp2_with (at_mapUpdate; go_loud (refine wpList_tstore rfl (.tmp 73) (.tmp 75) (.const (.bool true)) 81 rfl Tryz.underlying81 injS rfl hs6H.out.mb (by simp only [maxLen]; omega) x.result rfl hrzH.out true rfl ?_); intro w7 hm7 hg7; have hm7H := Lib.hid hm7; clear hm7; have hg7H := Lib.hid hg7; clear hg7)
              have R := rel_tru (x := x) hneH.out hs6H.out hvH.out hriH.out hlt hc5 hc6 hm7H.out hg7H.out
              clear hm7H hg7H
              have RH := Lib.hid R
              clear R
              refine ⟨?rel, ?measure⟩
              case measure => (simp [intOf]; omega)
              case rel => first | exact RH.out | exact ⟨rfl, RH.out⟩ | ((try refine ⟨rfl, ?_⟩); (repeat apply Exists.intro); refine ⟨RH.out, ?_⟩; ((repeat' apply And.intro) <;> rfl))
            · have hgd : decide (r < (k : Int)) = false := decide_eq_false hgt
              have hrn : rgt l m l.length x.writer = r := by rw [show l.length = n from hllH.out, hr]
              have hxH := Lib.hid hx
              clear hx
              have hbrH := Lib.hid hbr
              clear hbr
              have hstH := Lib.hid hst
              clear hst
              have hsaH := Lib.hid hsa
              clear hsa
              have hmaH := Lib.hid hma
              clear hma
              have halH := Lib.hid hal
              clear hal
              have hrzH := Lib.hid hrz
              clear hrz
              have hwzH := Lib.hid hwz
              clear hwz
              have husH := Lib.hid hus
              clear hus
              have hunH := Lib.hid hun
              clear hun
              have hwiH := Lib.hid hwi
              clear hwi
              have hriH := Lib.hid hri
              clear hri
              have huiH := Lib.hid hui
              clear hui
              have hrH := Lib.hid hr
              clear hr
              have hrnH := Lib.hid hrn
              clear hrn
              -- the uses are asked
              go_wp2_with fail
              refine (containsFunc_any 92 #[.pointer (some ⟨w2.heap.size + 1 + 1 + 1, 0, none⟩), .pointer (some ⟨w2.heap.size + 1 + 1 + 1 + 1, 0, none⟩)] (enters_of Tryz.func92 (by kernel_rfl) rfl) (useP l m k) x.uses.A x.uses.n x.uses.cap x.uses.l _ husH.out (by have := hunH.out; unfold maxLen at this; omega) (fun W u hu hbW => by
                have hsW := hsaH.out.below hbW
                exact taint_fn l m k _ _ _ _ c5 c6 u W hsW.p1 hsW.p2 hsW.mb hsW.mg (husH.out.2.2 u hu)) _ rfl).mono ?_
              rintro e w5 ⟨rfl, hb5⟩
              have hstw := hsaH.out.below hb5
              have hd2w : w5.cell? ⟨wr.heap.size, 2, none⟩ = some (.string x.result) := (hb5.cell (by simp)).trans (cell_new wr _ _ 2)
              obtain ⟨v, hv⟩ : ∃ v, tStep l m (pre l m k) k = v := ⟨_, rfl⟩
              have hvu : (x.uses.l).any (useP l m k) = v := by rw [← hv, tStep_parts, hwB, hwiH.out, hsB, haB, hrnH.out, hgd, huiH.out]; simp
              rw [hvu]
              clear hb5 hvu
              have hvH := Lib.hid hv
              clear hv
              cases v
              · obtain ⟨p2, z2⟩ := hstw.ro k hlt
                have hs6 := hstw.sto hneH.out hvH.out
                rw [if_neg (by decide), if_neg (by decide)] at hs6
                have q1 := hs6.p2
                have q2 := (hs6.ro k hlt).1
                rw [pre_new, hvH.out] at q2
                have q3 : (World.setCell w5 ⟨w2.heap.size, k, none⟩ (.bool false)).cell? ⟨wr.heap.size, 2, none⟩ = some (.string x.result) := (World.cell?_setCell_other _ _ _ _ (by simp <;> omega)).trans hd2w
                clear hstw hd2w
                have hs6H := Lib.hid hs6
                clear hs6
                go_wp2_with (at_mapUpdate; go_loud (refine wpList_tstore rfl (.tmp 76) (.tmp 78) (.const (.bool true)) 81 rfl Tryz.underlying81 injS rfl hs6H.out.mg (by simp only [maxLen]; omega) x.result rfl hrzH.out true rfl ?_); intro w7 hm7 hg7; have hm7H := Lib.hid hm7; clear hm7; have hg7H := Lib.hid hg7; clear hg7)
                have R := rel_fls (x := x) hneH.out hs6H.out hvH.out hriH.out hlt hc5 hc6 hm7H.out hg7H.out
                clear hm7H hg7H
                have RH := Lib.hid R
                clear R
                refine ⟨?rel, ?measure⟩
                case measure => (simp [intOf]; omega)
                case rel => first | exact RH.out | exact ⟨rfl, RH.out⟩ | ((try refine ⟨rfl, ?_⟩); (repeat apply Exists.intro); refine ⟨RH.out, ?_⟩; ((repeat' apply And.intro) <;> rfl))
              · obtain ⟨p2, z2⟩ := hstw.ro k hlt
                have hs6 := hstw.sto hneH.out hvH.out
                rw [if_pos rfl, if_pos rfl] at hs6
                have q1 := hs6.p1
                have q2 := (hs6.ro k hlt).1
                rw [pre_new, hvH.out] at q2
                have q3 : (World.setCell w5 ⟨w2.heap.size, k, none⟩ (.bool true)).cell? ⟨wr.heap.size, 2, none⟩ = some (.string x.result) := (World.cell?_setCell_other _ _ _ _ (by simp <;> omega)).trans hd2w
                clear hstw hd2w
                have hs6H := Lib.hid hs6
                clear hs6
                go_wp2_with (at_mapUpdate; go_loud (refine wpList_tstore rfl (.tmp 73) (.tmp 75) (.const (.bool true)) 81 rfl Tryz.underlying81 injS rfl hs6H.out.mb (by simp only [maxLen]; omega) x.result rfl hrzH.out true rfl ?_); intro w7 hm7 hg7; have hm7H := Lib.hid hm7; clear hm7; have hg7H := Lib.hid hg7; clear hg7)
                have R := rel_tru (x := x) hneH.out hs6H.out hvH.out hriH.out hlt hc5 hc6 hm7H.out hg7H.out
                clear hm7H hg7H
                have RH := Lib.hid R
                clear R
                refine ⟨?rel, ?measure⟩
                case measure => (simp [intOf]; omega)
                case rel => first | exact RH.out | exact ⟨rfl, RH.out⟩ | ((try refine ⟨rfl, ?_⟩); (repeat apply Exists.intro); refine ⟨RH.out, ?_⟩; ((repeat' apply And.intro) <;> rfl))
          · rw [haB] at ga
            have hxH := Lib.hid hx
            clear hx
            have hbrH := Lib.hid hbr
            clear hbr
            have hstH := Lib.hid hst
            clear hst
            have hsaH := Lib.hid hsa
            clear hsa
            have hmaH := Lib.hid hma
            clear hma
            have halH := Lib.hid hal
            clear hal
            have hrzH := Lib.hid hrz
            clear hrz
            have hwzH := Lib.hid hwz
            clear hwz
            have husH := Lib.hid hus
            clear hus
            have hunH := Lib.hid hun
            clear hun
            have hwiH := Lib.hid hwi
            clear hwi
            have hriH := Lib.hid hri
            clear hri
            have huiH := Lib.hid hui
            clear hui
            have hrH := Lib.hid hr
            clear hr
            -- the uses are asked
            go_wp2_with fail
            refine (containsFunc_any 92 #[.pointer (some ⟨w2.heap.size + 1 + 1 + 1, 0, none⟩), .pointer (some ⟨w2.heap.size + 1 + 1 + 1 + 1, 0, none⟩)] (enters_of Tryz.func92 (by kernel_rfl) rfl) (useP l m k) x.uses.A x.uses.n x.uses.cap x.uses.l _ husH.out (by have := hunH.out; unfold maxLen at this; omega) (fun W u hu hbW => by
              have hsW := hsaH.out.below hbW
              exact taint_fn l m k _ _ _ _ c5 c6 u W hsW.p1 hsW.p2 hsW.mb hsW.mg (husH.out.2.2 u hu)) _ rfl).mono ?_
            rintro e w5 ⟨rfl, hb5⟩
            have hstw := hsaH.out.below hb5
            have hd2w : w5.cell? ⟨wr.heap.size, 2, none⟩ = some (.string x.result) := (hb5.cell (by simp)).trans (cell_new wr _ _ 2)
            obtain ⟨v, hv⟩ : ∃ v, tStep l m (pre l m k) k = v := ⟨_, rfl⟩
            have hvu : (x.uses.l).any (useP l m k) = v := by rw [← hv, tStep_parts, hwB, hwiH.out, hsB, haB, huiH.out]; simp
            rw [hvu]
            clear hb5 hvu
            have hvH := Lib.hid hv
            clear hv
            cases v
            · obtain ⟨p2, z2⟩ := hstw.ro k hlt
              have hs6 := hstw.sto hneH.out hvH.out
              rw [if_neg (by decide), if_neg (by decide)] at hs6
              have q1 := hs6.p2
              have q2 := (hs6.ro k hlt).1
              rw [pre_new, hvH.out] at q2
              have q3 : (World.setCell w5 ⟨w2.heap.size, k, none⟩ (.bool false)).cell? ⟨wr.heap.size, 2, none⟩ = some (.string x.result) := (World.cell?_setCell_other _ _ _ _ (by simp <;> omega)).trans hd2w
              clear hstw hd2w
              have hs6H := Lib.hid hs6
              clear hs6
              go_wp2_with (at_mapUpdate; go_loud (refine wpList_tstore rfl (.tmp 76) (.tmp 78) (.const (.bool true)) 81 rfl Tryz.underlying81 injS rfl hs6H.out.mg (by simp only [maxLen]; omega) x.result rfl hrzH.out true rfl ?_); intro w7 hm7 hg7; have hm7H := Lib.hid hm7; clear hm7; have hg7H := Lib.hid hg7; clear hg7)
              have R := rel_fls (x := x) hneH.out hs6H.out hvH.out hriH.out hlt hc5 hc6 hm7H.out hg7H.out
              clear hm7H hg7H
              have RH := Lib.hid R
              clear R
              refine ⟨?rel, ?measure⟩
              case measure => (simp [intOf]; omega)
              case rel => first | exact RH.out | exact ⟨rfl, RH.out⟩ | ((try refine ⟨rfl, ?_⟩); (repeat apply Exists.intro); refine ⟨RH.out, ?_⟩; ((repeat' apply And.intro) <;> rfl))
            · obtain ⟨p2, z2⟩ := hstw.ro k hlt
              have hs6 := hstw.sto hneH.out hvH.out
              rw [if_pos rfl, if_pos rfl] at hs6
              have q1 := hs6.p1
              have q2 := (hs6.ro k hlt).1
              rw [pre_new, hvH.out] at q2
              have q3 : (World.setCell w5 ⟨w2.heap.size, k, none⟩ (.bool true)).cell? ⟨wr.heap.size, 2, none⟩ = some (.string x.result) := (World.cell?_setCell_other _ _ _ _ (by simp <;> omega)).trans hd2w
              clear hstw hd2w
              have hs6H := Lib.hid hs6
              clear hs6
              go_wp2_with (at_mapUpdate; go_loud (refine wpList_tstore rfl (.tmp 73) (.tmp 75) (.const (.bool true)) 81 rfl Tryz.underlying81 injS rfl hs6H.out.mb (by simp only [maxLen]; omega) x.result rfl hrzH.out true rfl ?_); intro w7 hm7 hg7; have hm7H := Lib.hid hm7; clear hm7; have hg7H := Lib.hid hg7; clear hg7)
              have R := rel_tru (x := x) hneH.out hs6H.out hvH.out hriH.out hlt hc5 hc6 hm7H.out hg7H.out
              clear hm7H hg7H
              have RH := Lib.hid R
              clear R
              refine ⟨?rel, ?measure⟩
              case measure => (simp [intOf]; omega)
              case rel => first | exact RH.out | exact ⟨rfl, RH.out⟩ | ((try refine ⟨rfl, ?_⟩); (repeat apply Exists.intro); refine ⟨RH.out, ?_⟩; ((repeat' apply And.intro) <;> rfl))
      · rw [hwB] at gw
        clear ga
        obtain ⟨r, hr⟩ : ∃ r, (rgtF l m n x.writer).getD 0 = r := ⟨_, rfl⟩
        obtain ⟨y, hy⟩ : ∃ y, (rgtF l m n x.writer).isSome = y := ⟨_, rfl⟩
        have lk := lookI hma x.writer hwz r hr y hy
        have hv : tStep l m (pre l m k) k = true := by rw [tStep_parts, hwB]; rfl
        have hyH := Lib.hid hy
        clear hy
        obtain ⟨p2, z2⟩ := hsa.ro k hlt
        have hs5 := hst.sto hneH.out hv
        rw [if_pos rfl, if_pos rfl] at hs5
        have hs6 := hs5.below ((Below.refl _ _).alloc (Nat.le_refl _) (.cells #[.string x.key, .string x.label, .string x.result, .string x.writer, .int .i64 x.at_, .slice x.uses.A x.uses.n x.uses.cap, .string x.sign] 25))
        clear hs5
        have q1 := hs6.p1
        have q2 := (hs6.ro k hlt).1
        rw [pre_new, hv] at q2
        have q3 : ((wr.setCell ⟨w2.heap.size, k, none⟩ (.bool true)).alloc (.cells #[.string x.key, .string x.label, .string x.result, .string x.writer, .int .i64 x.at_, .slice x.uses.A x.uses.n x.uses.cap, .string x.sign] 25)).cell? ⟨wr.heap.size, 2, none⟩ = some (.string x.result) := by
          have := cell_new (wr.setCell ⟨w2.heap.size, k, none⟩ (.bool true)) #[.string x.key, .string x.label, .string x.result, .string x.writer, .int .i64 x.at_, .slice x.uses.A x.uses.n x.uses.cap, .string x.sign] 25 2
          simpa using this
        have hxH := Lib.hid hx
        clear hx
        have hbrH := Lib.hid hbr
        clear hbr
        have hstH := Lib.hid hst
        clear hst
        have hsaH := Lib.hid hsa
        clear hsa
        have hmaH := Lib.hid hma
        clear hma
        have halH := Lib.hid hal
        clear hal
        have hrzH := Lib.hid hrz
        clear hrz
        have hwzH := Lib.hid hwz
        clear hwz
        have husH := Lib.hid hus
        clear hus
        have hunH := Lib.hid hun
        clear hun
        have hwiH := Lib.hid hwi
        clear hwi
        have hriH := Lib.hid hri
        clear hri
        have huiH := Lib.hid hui
        clear hui
        have hrH := Lib.hid hr
        clear hr
        have hvH := Lib.hid hv
        clear hv
        have hs6H := Lib.hid hs6
        clear hs6
        go_wp2_with (at_mapUpdate; go_loud (refine wpList_tstore rfl (.tmp 73) (.tmp 75) (.const (.bool true)) 81 rfl Tryz.underlying81 injS rfl hs6H.out.mb (by simp only [maxLen]; omega) x.result rfl hrzH.out true rfl ?_); intro w7 hm7 hg7; have hm7H := Lib.hid hm7; clear hm7; have hg7H := Lib.hid hg7; clear hg7)
        have R := rel_tru (x := x) hneH.out hs6H.out hvH.out hriH.out hlt hc5 hc6 hm7H.out hg7H.out
        clear hm7H hg7H
        have RH := Lib.hid R
        clear R
        refine ⟨?rel, ?measure⟩
        case measure => (simp [intOf]; omega)
        case rel => first | exact RH.out | exact ⟨rfl, RH.out⟩ | ((try refine ⟨rfl, ?_⟩); (repeat apply Exists.intro); refine ⟨RH.out, ?_⟩; ((repeat' apply And.intro) <;> rfl))
    · obtain rfl : k = n := by omega
      have hro := hst.ro
      have hlo := hst.lo
      have hbr : Below w.heap.size w wr := hbwH.out.trans (hst.bel.mono hbwH.out.size)
      have htn : pre l m k = tntB l m := by funext j; unfold tntB; rw [show l.length = k from hllH.out]
      rw [htn] at hro
      clear htn
      have hstH := Lib.hid hst
      clear hst
      have hroH := Lib.hid hro
      clear hro
      have hbrH := Lib.hid hbr
      clear hbr
      go_wp2
      go_ret
      exact ⟨_, rfl, hroH.out, hlo, hbrH.out⟩
end Go.Proofs.YtaeeicnbnohghaaGreatDoor.C11

namespace Go.Proofs.YtaeeicnbnohghaaGreatDoor.C11
open Go.RowKit
set_option linter.unusedVariables false

theorem wrB_app {l : List Claimed} {m : List Audit} {a : Audit} (h : badA l a = false) : wrB l (m ++ [a]) = wrB l m := by
  funext j
  unfold wrB
  rw [List.any_append, List.any_cons, List.any_nil, Bool.or_false, h, Bool.and_false, Bool.or_false]
theorem suB_app {l : List Claimed} {m : List Audit} {a : Audit} (h : badA l a = false) : suB l (m ++ [a]) = suB l m := by
  rw [suB_snoc, if_neg (by rw [h]; decide)]
theorem audB_app {m : List Audit} {a : Audit} {j : Nat} (h : audB m j = true) : audB (m ++ [a]) j = true := by
  unfold audB at h ⊢
  rw [List.any_append, h, Bool.true_or]
theorem endB_congr {l : List Claimed} {m m' : List Audit} (h : wrB l m' = wrB l m) : ∀ k s, endB l m' k s = endB l m k s
  | 0, s => rfl
  | k + 1, s => by
    show (endB l m' k s || (wrB l m' k && decide (wriOf l k = s))) = (endB l m k s || (wrB l m k && decide (wriOf l k = s)))
    rw [endB_congr h k s, h]
theorem rgt_mono {l : List Claimed} {m m' : List Audit} (hw : wrB l m' = wrB l m) (ha : ∀ j, audB m j = true → audB m' j = true) : ∀ k s, rgt l m k s ≤ rgt l m' k s
  | 0, s => Int.le_refl _
  | k + 1, s => by
    show (if (!wrB l m k && (audB m k && !endB l m k (wriOf l k)) && decide (wriOf l k = s)) = true then (k : Int) else rgt l m k s) ≤ (if (!wrB l m' k && (audB m' k && !endB l m' k (wriOf l k)) && decide (wriOf l k = s)) = true then (k : Int) else rgt l m' k s)
    rw [hw, endB_congr hw]
    have r1 := rgt_range l m k s
    have r2 := rgt_mono hw ha k s
    have h := ha k
    by_cases hc : (!wrB l m k && (audB m k && !endB l m k (wriOf l k)) && decide (wriOf l k = s)) = true
    · have hc' : (!wrB l m k && (audB m' k && !endB l m k (wriOf l k)) && decide (wriOf l k = s)) = true := by
        simp only [Bool.and_eq_true] at hc ⊢
        exact ⟨⟨hc.1.1, h hc.1.2.1, hc.1.2.2⟩, hc.2⟩
      rw [if_pos hc, if_pos hc']
      exact Int.le_refl _
    · rw [if_neg hc]
      split <;> omega
theorem anyB_mono {l : List Claimed} {f g : Nat → Bool} : ∀ (k : Nat) (u : ByteArray), (∀ j, j < k → f j = true → g j = true) → anyB l f k u = true → anyB l g k u = true
  | 0, u, _, h => h
  | k + 1, u, hf, h => by
    have h : (anyB l f k u || (f k && decide (resOf l k = u))) = true := h
    show (anyB l g k u || (g k && decide (resOf l k = u))) = true
    rw [Bool.or_eq_true, Bool.and_eq_true] at h ⊢
    rcases h with h | h
    · exact .inl (anyB_mono k u (fun j hj => hf j (by omega)) h)
    · exact .inr ⟨hf k (by omega) h.1, h.2⟩
theorem tStep_mono {l : List Claimed} {m m' : List Audit} (hw : wrB l m' = wrB l m) (hs : suB l m' = suB l m) (ha : ∀ j, audB m j = true → audB m' j = true) {f f' : Nat → Bool} {k : Nat} (hf : ∀ j, j < k → f' j = true → f j = true)
    (h : tStep l m' f' k = true) : tStep l m f k = true := by
  unfold tStep at h ⊢
  rw [Bool.or_eq_true, Bool.or_eq_true] at h ⊢
  rw [hw, hs] at h
  rcases h with (h | h) | h
  · exact .inl (.inl h)
  · refine .inl (.inr ?_)
    simp only [Bool.and_eq_true, Bool.not_eq_true', decide_eq_true_iff] at h ⊢
    have hr := rgt_mono hw ha l.length (wriOf l k)
    refine ⟨⟨h.1.1, ?_⟩, by omega⟩
    cases e : audB m k
    · rfl
    · have := ha k e
      rw [h.1.2] at this
      cases this
  · refine .inr ?_
    rw [List.any_eq_true] at h ⊢
    obtain ⟨u, hu, h⟩ := h
    refine ⟨u, hu, ?_⟩
    simp only [Bool.and_eq_true, Bool.not_eq_true'] at h ⊢
    refine ⟨anyB_mono k u hf h.1, ?_⟩
    cases e : anyB l (fun j => !f j) k u
    · rfl
    · have := anyB_mono (g := fun j => !f' j) k u (fun j hj hj2 => by
        cases e2 : f' j
        · rfl
        · have := hf j hj e2
          simp [this] at hj2) e
      rw [h.2] at this
      cases this
theorem tntB_mono {l : List Claimed} {m m' : List Audit} (hw : wrB l m' = wrB l m) (hs : suB l m' = suB l m) (ha : ∀ j, audB m j = true → audB m' j = true) : ∀ k, k < l.length → tntB l m' k = true → tntB l m k = true := by
  intro k
  induction k using Nat.strongRecOn with
  | _ k ih =>
    intro hk h
    rw [tntB_eq l m' k hk] at h
    rw [tntB_eq l m k hk]
    exact tStep_mono hw hs ha (fun j hj => ih j hj (by omega)) h
/-- the further audit taints nothing more -/
theorem tntB_right {l : List Claimed} {m : List Audit} {a : Audit} (h : badA l a = false) {k : Nat} (hk : k < l.length) (ht : tntB l (m ++ [a]) k = true) : tntB l m k = true :=
  tntB_mono (wrB_app h) (suB_app h) (fun j hj => audB_app hj) k hk ht
theorem nums_right {l : List Claimed} {m : List Audit} {a : Audit} (h : badA l a = false) {z : Int} (hz : z ∈ numsN (tntB l (m ++ [a])) l.length) : z ∈ numsN (tntB l m) l.length := by
  obtain ⟨i, h1, h2, h3⟩ := numsN_mem.1 hz
  exact numsN_mem.2 ⟨i, h1, tntB_right h h1 h2, h3⟩
/-- its own faults: only too many audits -/
theorem auditsErr_snoc {l : List Claimed} {a : Audit} : ∀ (m : List Audit) (p : Option Int), auditsErr l p m = 0 → auditF l (if m = [] then p else (m.getLast?).map (·.at_)) a = 0 → auditsErr l p (m ++ [a]) = 0
  | [], p, _, h => by
    show (if auditF l p a = 0 then auditsErr l (some a.at_) [] else auditF l p a) = 0
    rw [if_pos rfl] at h
    rw [if_pos h]; rfl
  | b :: r, p, h1, h => by
    rw [auditsErr] at h1
    show (if auditF l p b = 0 then auditsErr l (some b.at_) (r ++ [a]) else auditF l p b) = 0
    by_cases hb : auditF l p b = 0
    · rw [if_pos hb] at h1 ⊢
      refine auditsErr_snoc r _ h1 ?_
      rw [if_neg (by simp)] at h
      by_cases hr : r = []
      · subst hr; exact h
      · rw [if_neg hr]
        rw [List.getLast?_cons] at h
        rw [List.getLast?_eq_some_getLast hr] at h ⊢
        exact h
    · rw [if_neg hb] at h1; exact absurd h1 hb
/-- the greatest moment -/
def maxAt (b : Int) : List Audit → Int
  | [] => b
  | a :: r => maxAt (max b a.at_) r
theorem maxAt_snoc : ∀ (m : List Audit) (b : Int) (a : Audit), maxAt b (m ++ [a]) = max (maxAt b m) a.at_
  | [], b, a => rfl
  | c :: r, b, a => maxAt_snoc r _ a
theorem maxAt_ge : ∀ (m : List Audit) (b : Int), b ≤ maxAt b m
  | [], b => Int.le_refl _
  | c :: r, b => by
    have := maxAt_ge r (max b c.at_)
    show b ≤ maxAt (max b c.at_) r
    omega
theorem maxAt_mem : ∀ (m : List Audit) (b : Int), ∀ a ∈ m, a.at_ ≤ maxAt b m
  | c :: r, b, a, h => by
    rcases List.mem_cons.1 h with rfl | h
    · have := maxAt_ge r (max b a.at_)
      show a.at_ ≤ maxAt (max b a.at_) r
      omega
    · exact maxAt_mem r _ a h
theorem maxAt_le : ∀ (m : List Audit) (b C : Int), b ≤ C → (∀ a ∈ m, a.at_ ≤ C) → maxAt b m ≤ C
  | [], b, C, h, _ => h
  | c :: r, b, C, h, hm => by
    have := hm c List.mem_cons_self
    exact maxAt_le r _ C (by omega) (fun a ha => hm a (List.mem_cons_of_mem _ ha))
theorem audits_right {l : List Claimed} {m : List Audit} {k : Nat} {x : Claimed} (h : auditsF l m = 0) (hx : l[k]? = some x) :
    auditsF l (m ++ [⟨(k : Int), x.result, maxAt x.at_ m⟩]) = if m.length + 1 ≤ 1000 then 0 else 2 := by
  obtain ⟨h1, h2, h3⟩ := auditsF_zero h
  obtain ⟨_, h5⟩ := logF_zero h1
  obtain ⟨hc, _⟩ := logErr_each l none h5 x (List.mem_of_getElem? hx)
  have hk := (List.getElem?_eq_some_iff.1 hx).1
  have hdig : digB x.result = true := by
    unfold claimedF at hc
    by_cases g1 : digB x.key = true
    · rw [if_pos g1] at hc
      by_cases g2 : labelL x.label.data.toList = true
      · rw [if_pos g2] at hc
        by_cases g3 : digB x.result = true
        · exact g3
        · rw [if_neg g3] at hc; cases hc
      · rw [if_neg g2] at hc; cases hc
    · rw [if_neg g1] at hc; cases hc
  have hok := claimed_ok hc
  have heach := auditsErr_each l m none h3
  have hmx : maxAt x.at_ m ≤ 1000000000 := maxAt_le m _ _ hok.at1 (fun a ha => (heach a ha).2.2.2)
  have hge := maxAt_ge m x.at_
  have hat : atOf l (k : Int) = x.at_ := by rw [atOf, show (k : Int).toNat = k from rfl, hx]
  unfold auditsF
  rw [if_pos h1, List.length_append, List.length_singleton]
  by_cases hl : m.length + 1 ≤ 1000
  · rw [if_pos hl, if_pos hl]
    refine auditsErr_snoc m none h3 ?_
    unfold auditF
    simp only
    rw [if_pos (inR_of ⟨by omega, by omega⟩), if_pos hdig, hat, if_pos (inR_of ⟨hge, hmx⟩), if_neg]
    by_cases hm : m = []
    · rw [if_pos hm]; simp
    · rw [if_neg hm, List.getLast?_eq_some_getLast hm]
      simp only [Option.map_some, Option.some.injEq, decide_eq_true_iff]
      have := maxAt_mem m x.at_ _ (List.getLast_mem hm)
      omega
  · rw [if_neg hl, if_neg hl]
theorem badA_right {l : List Claimed} {k : Nat} {x : Claimed} (hx : l[k]? = some x) (t : Int) : badA l ⟨(k : Int), x.result, t⟩ = false := by
  unfold badA
  simp only
  rw [resOf_get hx]
  simp
/-- what Tainted hands back -/
def taintR (l : List Claimed) (m : List Audit) : List Int × Int := if auditsF l m = 0 then (numsN (tntB l m) l.length, 0) else ([], auditsF l m)
end Go.Proofs.YtaeeicnbnohghaaGreatDoor.C11

namespace Go.Proofs.YtaeeicnbnohghaaGreatDoor.C11
open Go.RowKit
set_option linter.unusedVariables false

theorem audits_range {l : List Claimed} {m : List Audit} (h : auditsF l m = 0) : l.length ≤ 1000 ∧ m.length ≤ 1000 ∧ ∀ a ∈ m, 0 ≤ a.number ∧ a.number < l.length := by
  obtain ⟨h1, h2, h3⟩ := auditsF_zero h
  exact ⟨(logF_zero h1).1, h2, fun a ha => (auditsErr_each l m none h3 a ha).1⟩
/-- what a function of a log and audits hands back that gives numbers -/
def NumsAns (L : List Int) (c : Int) (w0 : World) (e : Ending) (w' : World) : Prop :=
  ∃ (A : Option Addr) (n cap : Nat), e = .returned (.tuple #[.slice A n cap, .int .i64 c]) ∧ SlAt RInt w' A n L ∧ n ≤ 1000 ∧ Below w0.heap.size w0 w'
theorem slAt_nilI (w : World) : SlAt RInt w none 0 [] := ⟨rfl, fun h => by omega, fun x hx => by cases hx⟩

set_option maxHeartbeats 1000000 in
theorem Tainted_any (A : Option Addr) (len cap : Nat) (l : List Claimed) (B : Option Addr) (mlen mcap : Nat) (m : List Audit) (w : World) (hm : MaxLenAt w) (hl : SlAt RClaimed w A len l) (hma : SlAt RAudit w B mlen m) (L : List Int) (c : Int) (hF : taintR l m = (L, c)) :
    Calls Tryz.prog 23 #[.slice A len cap, .slice B mlen mcap] w (NumsAns L c w) := by
  unfold taintR at hF
  obtain ⟨d, hd⟩ : ∃ d, auditsF l m = d := ⟨_, rfl⟩
  rw [hd] at hF
  have hmH := Lib.hid hm
  clear hm
  have hlH := Lib.hid hl
  clear hl
  have hmaH := Lib.hid hma
  clear hma
  have hdH := Lib.hid hd
  clear hd
  have hFH := Lib.hid hF
  clear hF
  go_enter Tryz.func23, Tryz.ntmps23
  go_wp2_with fail
  refine (audits_any A len cap l B mlen mcap m _ hmH.out hlH.out hmaH.out d hdH.out).mono ?_
  rintro e w1 ⟨rfl, hb1⟩
  have hb1H := Lib.hid hb1
  clear hb1
  have hF := hFH.out
  clear hFH
  by_cases e0 : d = 0
  · subst e0
    rw [if_pos rfl, Prod.mk.injEq] at hF
    obtain ⟨hL, rfl⟩ := hF
    obtain ⟨h1, h2, h3⟩ := audits_range hdH.out
    have hll := hlH.out.1
    have hml := hmaH.out.1
    have hn : len ≤ 1000 := by omega
    have hmn : mlen ≤ 1000 := by omega
    have h4 : ∀ a ∈ m, 0 ≤ a.number ∧ a.number < len := fun a ha => by have := h3 a ha; omega
    clear h1 h2 h3 hml
    have hLH := Lib.hid hL
    clear hL
    have hllH := Lib.hid hll
    clear hll
    have h4H := Lib.hid h4
    clear h4
    go_wp2_with fail
    refine (tainted_any A len cap l B mlen mcap m _ hn hmn (hlH.out.below hb1H.out) (hmaH.out.below hb1H.out) h4H.out).mono ?_
    rintro e w2 ⟨b, rfl, hr2, hlt, hb2⟩
    have hbb := hb1H.out.trans (hb2.mono hb1H.out.size)
    clear hb2 hlt
    have hr2H := Lib.hid hr2
    clear hr2
    have hbbH := Lib.hid hbb
    clear hbb
    go_wp2_with fail
    refine (numbers_any b len len (tntB l m) _ hn hr2H.out).mono ?_
    rintro e w3 ⟨A3, k3, c3, rfl, hown, hk3, hb3⟩
    have hb4 := hbbH.out.trans (hb3.mono hbbH.out.size)
    have hsl := hown.slAt
    rw [← hllH.out, hLH.out] at hsl
    clear hown hb3
    have hslH := Lib.hid hsl
    clear hsl
    have hb4H := Lib.hid hb4
    clear hb4
    go_wp2
    go_ret2
    exact ⟨A3, k3, c3, rfl, hslH.out, by omega, hb4H.out⟩
  · rw [if_neg e0, Prod.mk.injEq] at hF
    obtain ⟨rfl, rfl⟩ := hF
    have e1 : (d != 0) = true := by simpa using e0
    clear e0
    go_wp2
    go_ret2
    exact ⟨none, 0, 0, rfl, slAt_nilI _, by omega, hb1H.out⟩
end Go.Proofs.YtaeeicnbnohghaaGreatDoor.C11

namespace Go.Proofs.YtaeeicnbnohghaaGreatDoor.C11
open Go.RowKit
set_option linter.unusedVariables false

/-- the fault of a call of Trusted -/
def trF (wl : List Writer) (l : List Claimed) (m : List Audit) (key : ByteArray) (at_ : Int) : Int :=
  if writersF wl = 0 then (if auditsF l m = 0 then (if digB key = true then (if inR 0 1000000000 at_ = true then 0 else 1) else 3) else auditsF l m) else writersF wl
/-- how many audits there are up to a moment -/
def manyN (m : List Audit) (at_ : Int) : Nat := (m.takeWhile (fun a => decide (a.at_ ≤ at_))).length
theorem manyN_le (m : List Audit) (at_ : Int) : manyN m at_ ≤ m.length := by
  unfold manyN
  exact (List.takeWhile_sublist _).length_le
theorem manyN_lt {m : List Audit} {at_ : Int} {k : Nat} (h : k < manyN m at_) : ∃ a, m[k]? = some a ∧ a.at_ ≤ at_ := by
  induction m generalizing k with
  | nil => exact absurd h (Nat.not_lt_zero k)
  | cons b r ih =>
    unfold manyN at h ih
    by_cases hb : b.at_ ≤ at_
    · rw [List.takeWhile_cons_of_pos (by simpa using hb), List.length_cons] at h
      match k, h with
      | 0, _ => exact ⟨b, rfl, hb⟩
      | k + 1, h =>
        obtain ⟨a, h1, h2⟩ := ih (by omega : k < _)
        exact ⟨a, by simpa using h1, h2⟩
    · rw [List.takeWhile_cons_of_neg (by simpa using hb)] at h
      exact absurd h (Nat.not_lt_zero k)
theorem manyN_end {m : List Audit} {at_ : Int} {a : Audit} (h : m[manyN m at_]? = some a) : ¬ a.at_ ≤ at_ := by
  intro ha
  induction m with
  | nil => cases h
  | cons b r ih =>
    unfold manyN at h ih
    by_cases hb : b.at_ ≤ at_
    · rw [List.takeWhile_cons_of_pos (by simpa using hb)] at h
      exact ih (by simpa using h)
    · rw [List.takeWhile_cons_of_neg (by simpa using hb)] at h
      simp at h
      subst h
      exact hb ha
/-- the results that count -/
def okJ (wl : List Writer) (l : List Claimed) (m : List Audit) (key : ByteArray) (at_ : Int) (j : Nat) : Bool :=
  match l[j]? with
  | some x => decide (x.key = key) && (decide (x.at_ ≤ at_) && (!tntB l (m.take (manyN m at_)) j && decide (genF wl x = 1)))
  | none => false
theorem okJ_get {wl : List Writer} {l : List Claimed} {m : List Audit} {key : ByteArray} {at_ : Int} {j : Nat} {x : Claimed} (h : l[j]? = some x) :
    okJ wl l m key at_ j = (decide (x.key = key) && (decide (x.at_ ≤ at_) && (!tntB l (m.take (manyN m at_)) j && decide (genF wl x = 1)))) := by
  unfold okJ
  rw [h]
/-- the last number below k of which f says yes -/
def lastF (f : Nat → Bool) : Nat → Option Nat
  | 0 => none
  | k + 1 => if f k = true then some k else lastF f k
theorem lastF_some {f : Nat → Bool} {j : Nat} : ∀ {k : Nat}, lastF f k = some j → j < k ∧ f j = true
  | 0, h => by cases h
  | k + 1, h => by
    rw [lastF] at h
    by_cases hf : f k = true
    · rw [if_pos hf] at h
      injection h with h
      subst h
      exact ⟨by omega, hf⟩
    · rw [if_neg hf] at h
      obtain ⟨h1, h2⟩ := lastF_some h
      exact ⟨by omega, h2⟩
theorem lastF_yes {f : Nat → Bool} {k : Nat} (h : f k = true) : lastF f (k + 1) = some k := by rw [lastF, if_pos h]
theorem lastF_no {f : Nat → Bool} {k : Nat} (h : f k = false) : lastF f (k + 1) = lastF f k := by rw [lastF, if_neg (by rw [h]; decide)]
def pickV (l : List Claimed) : Option Nat → ByteArray × Bool
  | some j => (resOf l j, true)
  | none => (⟨#[]⟩, false)
/-- what Trusted hands back -/
def trR (wl : List Writer) (l : List Claimed) (m : List Audit) (key : ByteArray) (at_ : Int) : ByteArray × Bool × Int :=
  if trF wl l m key at_ = 0 then ((pickV l (lastF (okJ wl l m key at_) l.length)).1, (pickV l (lastF (okJ wl l m key at_) l.length)).2, 0) else (⟨#[]⟩, false, trF wl l m key at_)
/-- a beginning of audits is without fault where all are -/
theorem auditsErr_take (l : List Claimed) : ∀ (m : List Audit) (p : Option Int) (k : Nat), auditsErr l p m = 0 → auditsErr l p (m.take k) = 0
  | [], p, k, h => by rw [List.take_nil]; exact h
  | a :: r, p, 0, h => by rw [List.take_zero]; rfl
  | a :: r, p, k + 1, h => by
    rw [List.take_succ_cons]
    rw [auditsErr] at h ⊢
    by_cases h1 : auditF l p a = 0
    · rw [if_pos h1] at h ⊢
      exact auditsErr_take l r _ k h
    · rw [if_neg h1] at h; exact absurd h h1
theorem audits_take {l : List Claimed} {m : List Audit} (h : auditsF l m = 0) (k : Nat) : auditsF l (m.take k) = 0 := by
  obtain ⟨h1, h2, h3⟩ := auditsF_zero h
  unfold auditsF
  rw [if_pos h1, if_pos (by rw [List.length_take]; omega)]
  exact auditsErr_take l m none k h3
theorem trF_parts {wl : List Writer} {l : List Claimed} {m : List Audit} {key : ByteArray} {at_ : Int} (h : trF wl l m key at_ = 0) : writersF wl = 0 ∧ auditsF l m = 0 ∧ digB key = true ∧ inR 0 1000000000 at_ = true := by
  unfold trF at h
  by_cases h1 : writersF wl = 0
  · rw [if_pos h1] at h
    by_cases h2 : auditsF l m = 0
    · rw [if_pos h2] at h
      by_cases h3 : digB key = true
      · rw [if_pos h3] at h
        by_cases h4 : inR 0 1000000000 at_ = true
        · exact ⟨h1, h2, h3, h4⟩
        · rw [if_neg h4] at h; cases h
      · rw [if_neg h3] at h; cases h
    · rw [if_neg h2] at h; exact absurd h h2
  · rw [if_neg h1] at h; exact absurd h h1
theorem slAt_takeT {α : Type} {R : Rd α} {w : World} {A : Option Addr} {n : Nat} {l : List α} (h : SlAt R w A n l) (k : Nat) (hk : k ≤ n) : SlAt R w A k (l.take k) := by
  refine ⟨by rw [List.length_take, h.1]; omega, fun hn => ?_, fun x hx => h.2.2 x (List.mem_of_mem_take hx)⟩
  obtain ⟨b, off, hA, hc⟩ := h.2.1 (by omega)
  refine ⟨b, off, hA, fun i y hy => hc i y ?_⟩
  rw [List.getElem?_take] at hy
  split at hy
  · exact hy
  · cases hy
theorem logF_each3 {l : List Claimed} {m : List Audit} (h : auditsF l m = 0) : ∀ x ∈ l, claimedF x = 0 := by
  obtain ⟨h1, _, _⟩ := auditsF_zero h
  have key : ∀ (l : List Claimed) (p : Option Int), logErr p l = 0 → ∀ x ∈ l, claimedF x = 0 := by
    intro l
    induction l with
    | nil => intro p _ x hx; cases hx
    | cons y r ih =>
      intro p h x hx
      rw [logErr] at h
      by_cases h1 : claimedF y = 0
      · rw [if_pos h1] at h
        have hr : ∃ q, logErr q r = 0 := by
          repeat' split at h
          all_goals first | exact ⟨_, h⟩ | (exfalso; revert h; decide) | skip
        obtain ⟨q, hq⟩ := hr
        rcases List.mem_cons.1 hx with rfl | hx
        · exact h1
        · exact ih q hq x hx
      · rw [if_neg h1] at h
        exact absurd h h1
  exact key l none (logF_zero h1).2
def TrAns (s : ByteArray) (x : Bool) (f : Int) (w0 : World) (e : Ending) (w' : World) : Prop :=
  e = .returned (.tuple #[.string s, .bool x, .int .i64 f]) ∧ Below w0.heap.size w0 w'
end Go.Proofs.YtaeeicnbnohghaaGreatDoor.C11

namespace Go.Proofs.YtaeeicnbnohghaaGreatDoor.C11
open Go.RowKit Go.Shelf
set_option linter.unusedVariables false
attribute [local go_sem] Oper.semAt_some

def clV (x : Claimed) : Value := .agg #[.string x.key, .string x.label, .string x.result, .string x.writer, .int .i64 x.at_, .slice x.uses.A x.uses.n x.uses.cap, .string x.sign]
def downF (n : Nat) : List (Fin n) := (List.finRange n).reverse
theorem downF_len (n : Nat) : (downF n).length = n := by simp [downF]
theorem downF_get {n k : Nat} (hk : k < n) : (downF n)[k]? = some ⟨n - 1 - k, by omega⟩ := by
  rw [List.getElem?_eq_getElem (by simpa [downF] using hk)]
  simp [downF, List.getElem_reverse]
theorem downF_take {n k : Nat} (hk : k < n) : (downF n).take (k + 1) = (downF n).take k ++ [⟨n - 1 - k, by omega⟩] := by
  rw [List.take_add_one, downF_get hk]; rfl
/-- what a round hands to the body -/
def encC (l : List Claimed) (i : Fin l.length) : Array Value := #[.int .i64 (i.val : Int), clV l[i]]

set_option maxRecDepth 100000 in
set_option maxHeartbeats 2000000 in
theorem back1_in (F : Fence) (n : Nat) (h8 : F.fn 93) (hro : F.round = none) (hn : 1 ≤ n) (lp Bs n₀ len cap : Nat) (A : Option Addr) (l : List Claimed) (hlen : len ≤ 1000) (hA : 0 < len → ∃ b off, A = some ⟨b, off, none⟩ ∧ b < n₀) (hBn : Bs < n₀)
    (J Jx : List (Fin l.length) → World → Prop)
    (hY : ∀ pre (x : Fin l.length) W, J pre W → pre.length < l.length → YieldAt F (n - 1) Tryz.prog lp (encC l x) W fun e W' =>
      (e = .returned (.bool true) ∧ J (pre ++ [x]) W' ∧ Below n₀ W W') ∨ (e = .returned (.bool false) ∧ Jx (pre ++ [x]) W'))
    (W : World) (hBs : W.cell? ⟨Bs, 0, none⟩ = some (.slice A len cap)) (hsl : SlAt RClaimed W A len l) (h0 : J [] W) :
    CallsIn F n Tryz.prog 93 #[.func (.yield lp) #[] #[], .pointer (some ⟨Bs, 0, none⟩)] W fun e W' => (∃ v, e = .returned v) ∧
      (J (downF l.length) W' ∨ ∃ k, k ≤ l.length ∧ Jx ((downF l.length).take k) W') := by
  have hll := hsl.1
  have n1 : IntKind.i64.wrap ((len : Int) - 1) = (len : Int) - 1 := IntWalk.i64_in _ (by omega)
  refine callsIn_of_wp Tryz.func93 rfl h8 ?_ hro
  simp only [Tryz.ntmps93, List.size_toArray, List.length_cons, List.length_nil, Nat.reduceAdd, Nat.reduceSub, Array.replicate_succ, Array.replicate_zero, List.push_toArray, List.append_toArray, List.nil_append, List.cons_append]
  have hllH := Lib.hid hll
  clear hll
  have hslH := Lib.hid hsl
  clear hsl
  gi_wp2
  clear n1
  gi_loopw [3] (fun i wr => ∃ k : Nat, k ≤ len ∧ i = .int .i64 ((len : Int) - 1 - k) ∧ J ((downF l.length).take k) wr ∧ Below n₀ W wr)
    (fun i _ => (intOf i + 1).toNat)
  case atStart => exact ⟨0, Nat.zero_le _, by simp, h0, Below.refl _ _⟩
  case round =>
    obtain ⟨k, hk, rfl, hJs, hnx⟩ := hrel
    have hc0 := (hnx.cell (p := ⟨Bs, 0, none⟩) hBn).trans hBs
    by_cases hlt : k < len
    · obtain ⟨b, off, hA1, hb⟩ := hA (by omega)
      subst hA1
      have hkl : k < l.length := by rw [hllH.out]; exact hlt
      obtain ⟨p, hp⟩ : ∃ p : Nat, p = l.length - 1 - k := ⟨_, rfl⟩
      have hpl : p < l.length := by omega
      have hpI : (len : Int) - 1 - k = (p : Int) := by have := hllH.out; omega
      have hx : l[p]? = some l[p] := List.getElem?_eq_getElem hpl
      obtain ⟨d0, d1, d2, d3, d4, d5, d6⟩ := cells_Claimed hslH.out hx
      have c0 := (hnx.cell (p := ⟨b, off + p * 7, none⟩) hb).trans d0
      have c1 := (hnx.cell (p := ⟨b, off + p * 7 + 1, none⟩) hb).trans d1
      have c2 := (hnx.cell (p := ⟨b, off + p * 7 + 2, none⟩) hb).trans d2
      have c3 := (hnx.cell (p := ⟨b, off + p * 7 + 3, none⟩) hb).trans d3
      have c4 := (hnx.cell (p := ⟨b, off + p * 7 + 4, none⟩) hb).trans d4
      have c5 := (hnx.cell (p := ⟨b, off + p * 7 + 5, none⟩) hb).trans d5
      have c6 := (hnx.cell (p := ⟨b, off + p * 7 + 6, none⟩) hb).trans d6
      clear d0 d1 d2 d3 d4 d5 d6
      obtain ⟨fn, tmps, assign, body, hy, hR⟩ := hY _ (⟨p, hpl⟩ : Fin l.length) wr hJs (by rw [List.length_take, downF_len]; omega)
      dsimp only [encC, clV, Fin.getElem_fin] at hy
      have htk : (downF l.length).take (k + 1) = (downF l.length).take k ++ [⟨p, hpl⟩] := by subst hp; exact downF_take hkl
      obtain ⟨x, hxe⟩ : ∃ x, x = l[p] := ⟨_, rfl⟩
      rw [← hxe] at c0 c1 c2 c3 c4 c5 c6 hy
      have h2 : (p : Int) < (len : Int) := by have := hllH.out; omega
      rw [hpI]
      have n2 : IntKind.i64.wrap ((p : Int) - 1) = (p : Int) - 1 := IntWalk.i64_in _ (by omega)
      have hmeas : ((p : Int) - 1 + 1).toNat < ((p : Int) + 1).toNat := by omega
      have hnext : ((len : Int) - 1 - ((k + 1 : Nat) : Int)) = (p : Int) - 1 := by omega
      clear hx
      have hpH := Lib.hid hp
      clear hp
      have hxeH := Lib.hid hxe
      clear hxe
      have htkH := Lib.hid htk
      clear htk
      have hpIH := Lib.hid hpI
      clear hpI
      have hnextH := Lib.hid hnext
      clear hnext
      have hmeasH := Lib.hid hmeas
      clear hmeas
      gi_wp2
      refine hR.mono ?_
      rintro e W3 (⟨rfl, hJ3, hk3⟩ | ⟨rfl, hJx3⟩)
      · rw [← htkH.out] at hJ3
        gi_wp2
        go_roundw
        case rel => exact ⟨k + 1, by omega, by rw [hnextH.out], hJ3, hnx.trans hk3⟩
        case measure => exact hmeasH.out
      · rw [← htkH.out] at hJx3
        gi_wp2
        refine bodyPost_ret (results_none rfl _ _ _) rfl ?_
        exact ⟨⟨_, rfl⟩, .inr ⟨k + 1, by omega, hJx3⟩⟩
    · obtain rfl : k = len := by omega
      have hall : (downF l.length).take k = downF l.length := List.take_of_length_le (by rw [downF_len, hllH.out]; exact Nat.le_refl _)
      rw [hall] at hJs
      have hz : (k : Int) - 1 - k = -1 := by omega
      rw [hz]
      clear hz hall
      gi_wp2
      go_end0
      exact ⟨⟨_, rfl⟩, .inl hJs⟩

set_option maxRecDepth 100000 in
set_option maxHeartbeats 1000000 in
theorem back_any (A : Option Addr) (len cap : Nat) (w : World) :
    Calls Tryz.prog 56 #[.slice A len cap] w fun e w' =>
      e = .returned (.func (.func 93) #[] #[.pointer (some ⟨w.heap.size, 0, none⟩)]) ∧ w' = w.alloc (.cells #[.slice A len cap] 40) := by
  go_enter Tryz.func56, Tryz.ntmps56
  go_wp2
  go_ret
  exact ⟨rfl, rfl⟩

theorem back_stops (F : Fence) (n : Nat) (h8 : F.fn 93) (hro : F.round = none) (hn : 1 ≤ n) (Bs n₀ len cap : Nat) (A : Option Addr) (l : List Claimed) (hlen : len ≤ 1000) (hA : 0 < len → ∃ b off, A = some ⟨b, off, none⟩ ∧ b < n₀) (hBn : Bs < n₀) (w : World) (hn₀ : n₀ ≤ w.heap.size)
    (hc : w.cell? ⟨Bs, 0, none⟩ = some (.slice A len cap)) (hsl : SlAt RClaimed w A len l) :
    SeqStopsK F n Tryz.prog 93 #[.pointer (some ⟨Bs, 0, none⟩)] (encC l) (Below n₀) (fun ys => ys = downF l.length)
      (fun pre => ∃ k, k ≤ l.length ∧ pre = (downF l.length).take k) l.length w := fun lp J Jx W hW _ _ hY h0 => by
  refine (back1_in F n h8 hro hn lp Bs n₀ len cap A l hlen hA hBn J Jx hY W ((hW.cell (p := ⟨Bs, 0, none⟩) (by show Bs < _; omega)).trans hc) (hsl.below hW) h0).mono ?_
  rintro e W' ⟨he, hj | ⟨k, hk, hj⟩⟩
  · exact ⟨he, .inl ⟨_, rfl, hj⟩⟩
  · exact ⟨he, .inr ⟨_, ⟨k, hk, rfl⟩, hj⟩⟩
end Go.Proofs.YtaeeicnbnohghaaGreatDoor.C11

namespace Go.Proofs.YtaeeicnbnohghaaGreatDoor.C11
open Go.RowKit Go.Shelf
set_option linter.unusedVariables false
attribute [local go_sem] Oper.semAt_some

/-- the boxes of Trusted: the writers, the key, the moment; its three results -/
structure TrC (N : Nat) (sv : Value) (key : ByteArray) (at_ : Int) (W : World) : Prop where
  c0 : W.cell? ⟨N, 0, none⟩ = some sv
  c1 : W.cell? ⟨N + 1, 0, none⟩ = some (.string key)
  c2 : W.cell? ⟨N + 1 + 1, 0, none⟩ = some (.int .i64 at_)
  c3 : W.cell? ⟨N + 1 + 1 + 1, 0, none⟩ = some (.string ⟨#[]⟩)
  c4 : W.cell? ⟨N + 1 + 1 + 1 + 1, 0, none⟩ = some (.bool false)
  c5 : W.cell? ⟨N + 1 + 1 + 1 + 1 + 1, 0, none⟩ = some (.int .i64 0)
  f3 : W.frozen? ⟨N + 1 + 1 + 1, 0, none⟩ = false
  f4 : W.frozen? ⟨N + 1 + 1 + 1 + 1, 0, none⟩ = false
  f5 : W.frozen? ⟨N + 1 + 1 + 1 + 1 + 1, 0, none⟩ = false
  lt : N + 5 < W.heap.size
theorem TrC.below {N K : Nat} {sv : Value} {key : ByteArray} {at_ : Int} {W w' : World} (h : TrC N sv key at_ W) (hb : Below K W w') (hK : N + 5 < K) : TrC N sv key at_ w' :=
  ⟨(hb.cell (by show N < K; omega)).trans h.c0, (hb.cell (by show N + 1 < K; omega)).trans h.c1, (hb.cell (by show N + 1 + 1 < K; omega)).trans h.c2, (hb.cell (by show N + 1 + 1 + 1 < K; omega)).trans h.c3, (hb.cell (by show N + 1 + 1 + 1 + 1 < K; omega)).trans h.c4, (hb.cell (by show N + 1 + 1 + 1 + 1 + 1 < K; omega)).trans h.c5,
    (hb.frozen (by show N + 1 + 1 + 1 < K; omega)).trans h.f3, (hb.frozen (by show N + 1 + 1 + 1 + 1 < K; omega)).trans h.f4, (hb.frozen (by show N + 1 + 1 + 1 + 1 + 1 < K; omega)).trans h.f5, Nat.lt_of_lt_of_le h.lt hb.size⟩
theorem boxed_cells (w : World) (v0 v1 v2 v3 v4 v5 : Value) (T0 T1 T2 T3 T4 T5 : TypeId) :
    let W := (((((w.alloc (.cells #[v0] T0)).alloc (.cells #[v1] T1)).alloc (.cells #[v2] T2)).alloc (.cells #[v3] T3)).alloc (.cells #[v4] T4)).alloc (.cells #[v5] T5)
    Boxed W w.heap.size T0 v0 ∧ Boxed W (w.heap.size + 1) T1 v1 ∧ Boxed W (w.heap.size + 1 + 1) T2 v2 ∧ Boxed W (w.heap.size + 1 + 1 + 1) T3 v3 ∧ Boxed W (w.heap.size + 1 + 1 + 1 + 1) T4 v4 ∧ Boxed W (w.heap.size + 1 + 1 + 1 + 1 + 1) T5 v5 := by
  have b0 := Boxed.new w T0 v0
  have b1 := Boxed.new (w.alloc (.cells #[v0] T0)) T1 v1
  have b2 := Boxed.new ((w.alloc (.cells #[v0] T0)).alloc (.cells #[v1] T1)) T2 v2
  have b3 := Boxed.new (((w.alloc (.cells #[v0] T0)).alloc (.cells #[v1] T1)).alloc (.cells #[v2] T2)) T3 v3
  have b4 := Boxed.new ((((w.alloc (.cells #[v0] T0)).alloc (.cells #[v1] T1)).alloc (.cells #[v2] T2)).alloc (.cells #[v3] T3)) T4 v4
  have b5 := Boxed.new (((((w.alloc (.cells #[v0] T0)).alloc (.cells #[v1] T1)).alloc (.cells #[v2] T2)).alloc (.cells #[v3] T3)).alloc (.cells #[v4] T4)) T5 v5
  simp only [World.size_alloc] at b0 b1 b2 b3 b4 b5
  exact ⟨((((b0.alloc _).alloc _).alloc _).alloc _).alloc _, (((b1.alloc _).alloc _).alloc _).alloc _, ((b2.alloc _).alloc _).alloc _, (b3.alloc _).alloc _, b4.alloc _, b5⟩
theorem TrC.start (w : World) (sv : Value) (key : ByteArray) (at_ : Int) (T0 T1 T2 T3 T4 T5 : TypeId) :
    TrC w.heap.size sv key at_ ((((((w.alloc (.cells #[sv] T0)).alloc (.cells #[.string key] T1)).alloc (.cells #[.int .i64 at_] T2)).alloc (.cells #[.string ⟨#[]⟩] T3)).alloc (.cells #[.bool false] T4)).alloc (.cells #[.int .i64 0] T5)) := by
  obtain ⟨b0, b1, b2, b3, b4, b5⟩ := boxed_cells w sv (.string key) (.int .i64 at_) (.string ⟨#[]⟩) (.bool false) (.int .i64 0) T0 T1 T2 T3 T4 T5
  exact ⟨b0.cell, b1.cell, b2.cell, b3.cell, b4.cell, b5.cell, b3.frozen, b4.frozen, b5.frozen, by simp only [World.size_alloc]; omega⟩

theorem lastF_skip {f : Nat → Bool} {a : Nat} : ∀ b, a ≤ b → (∀ j, a ≤ j → j < b → f j = false) → lastF f b = lastF f a
  | 0, h, _ => by
    obtain rfl : a = 0 := by omega
    rfl
  | b + 1, h, hf => by
    rcases Nat.eq_or_lt_of_le h with rfl | hlt
    · rfl
    · rw [lastF_no (hf b (by omega) (by omega))]
      exact lastF_skip b (by omega) fun j h1 h2 => hf j h1 (by omega)
theorem last_none {f : Nat → Bool} {n : Nat} (h : ∀ i ∈ downF n, f i.val = false) : lastF f n = none := by
  rw [lastF_skip (a := 0) n (Nat.zero_le _) fun j _ hj => h ⟨j, hj⟩ (by simp [downF])]
  rfl
theorem last_down {f : Nat → Bool} {n k : Nat} (hk : k ≤ n) {q : List (Fin n)} {i : Fin n} (h : (downF n).take k = q ++ [i]) (hq : ∀ j ∈ q, f j.val = false) (hi : f i.val = true) : lastF f n = some i.val := by
  have hl : k = q.length + 1 := by
    have := congrArg List.length h
    rw [List.length_take, downF_len, List.length_append, List.length_singleton] at this
    omega
  have hget : ∀ t, t < k → (q ++ [i])[t]? = some ⟨n - 1 - t, by omega⟩ := fun t ht => by
    rw [← h, List.getElem?_take_of_lt ht]; exact downF_get (by omega)
  have hin : i.val = n - 1 - q.length := by
    have := hget q.length (by omega)
    rw [List.getElem?_append_right (Nat.le_refl _), Nat.sub_self] at this
    simp only [List.getElem?_cons_zero, Option.some.injEq] at this
    rw [this]
  have hjq : ∀ j, i.val + 1 ≤ j → j < n → f j = false := fun j h1 h2 => by
    have := hget (n - 1 - j) (by omega)
    rw [List.getElem?_append_left (by omega)] at this
    have hm := List.mem_of_getElem? this
    have := hq _ hm
    simp only at this
    rwa [show n - 1 - (n - 1 - j) = j by omega] at this
  have hil := i.isLt
  rw [lastF_skip (a := i.val + 1) n (by omega) hjq]
  exact lastF_yes hi

theorem tr_three {N K : Nat} {W : World} {u3 u4 u5 : Value} (h3 : W.cell? ⟨N + 1 + 1 + 1, 0, none⟩ = some u3) (h4 : W.cell? ⟨N + 1 + 1 + 1 + 1, 0, none⟩ = some u4) (h5 : W.cell? ⟨N + 1 + 1 + 1 + 1 + 1, 0, none⟩ = some u5) (v3 v4 v5 : Value) {w : World} (hb : Below K w W) (hK : K ≤ N) :
    (((W.setCell ⟨N + 1 + 1 + 1, 0, none⟩ v3).setCell ⟨N + 1 + 1 + 1 + 1, 0, none⟩ v4).setCell ⟨N + 1 + 1 + 1 + 1 + 1, 0, none⟩ v5).cell? ⟨N + 1 + 1 + 1, 0, none⟩ = some v3 ∧
    (((W.setCell ⟨N + 1 + 1 + 1, 0, none⟩ v3).setCell ⟨N + 1 + 1 + 1 + 1, 0, none⟩ v4).setCell ⟨N + 1 + 1 + 1 + 1 + 1, 0, none⟩ v5).cell? ⟨N + 1 + 1 + 1 + 1, 0, none⟩ = some v4 ∧
    (((W.setCell ⟨N + 1 + 1 + 1, 0, none⟩ v3).setCell ⟨N + 1 + 1 + 1 + 1, 0, none⟩ v4).setCell ⟨N + 1 + 1 + 1 + 1 + 1, 0, none⟩ v5).cell? ⟨N + 1 + 1 + 1 + 1 + 1, 0, none⟩ = some v5 ∧
    Below K w (((W.setCell ⟨N + 1 + 1 + 1, 0, none⟩ v3).setCell ⟨N + 1 + 1 + 1 + 1, 0, none⟩ v4).setCell ⟨N + 1 + 1 + 1 + 1 + 1, 0, none⟩ v5) := by
  refine ⟨?_, ?_, ?_, ?_⟩
  · rw [World.cell?_setCell_other _ _ _ _ (by simp), World.cell?_setCell_other _ _ _ _ (by simp)]
    exact World.cell?_setCell_same' _ _ _ (by rw [h3]; rfl)
  · rw [World.cell?_setCell_other _ _ _ _ (by simp)]
    exact World.cell?_setCell_same' _ _ _ (by rw [World.cell?_setCell_other _ _ _ _ (by simp), h4]; rfl)
  · exact World.cell?_setCell_same' _ _ _ (by rw [World.cell?_setCell_other _ _ _ _ (by simp), World.cell?_setCell_other _ _ _ _ (by simp), h5]; rfl)
  · exact ((hb.setCell (p := ⟨N + 1 + 1 + 1, 0, none⟩) (by show K ≤ N + 1 + 1 + 1; omega) _).setCell (p := ⟨N + 1 + 1 + 1 + 1, 0, none⟩) (by show K ≤ N + 1 + 1 + 1 + 1; omega) _).setCell (p := ⟨N + 1 + 1 + 1 + 1 + 1, 0, none⟩) (by show K ≤ N + 1 + 1 + 1 + 1 + 1; omega) _
/-- seven cells of one block -/
structure Cl7 (b : Nat) (x : Claimed) (W : World) : Prop where
  c0 : W.cell? ⟨b, 0, none⟩ = some (.string x.key)
  c1 : W.cell? ⟨b, 1, none⟩ = some (.string x.label)
  c2 : W.cell? ⟨b, 2, none⟩ = some (.string x.result)
  c3 : W.cell? ⟨b, 3, none⟩ = some (.string x.writer)
  c4 : W.cell? ⟨b, 4, none⟩ = some (.int .i64 x.at_)
  c5 : W.cell? ⟨b, 5, none⟩ = some (.slice x.uses.A x.uses.n x.uses.cap)
  c6 : W.cell? ⟨b, 6, none⟩ = some (.string x.sign)
theorem Cl7.new (w : World) (x : Claimed) : Cl7 w.heap.size x (w.alloc (.cells #[.string x.key, .string x.label, .string x.result, .string x.writer, .int .i64 x.at_, .slice x.uses.A x.uses.n x.uses.cap, .string x.sign] 25)) := by
  constructor <;> simp [go_sem]
theorem Cl7.kept {b : Nat} {x : Claimed} {W w' : World} {row : Option Nat} (h : Cl7 b x W) (hg : W.grownBy w' row) (hr : ∀ r, row = some r → ∃ o : Obj, W.heap[r]? = some o ∧ o.isCells = false) : Cl7 b x w' :=
  ⟨cell_kept h.c0 hg hr, cell_kept h.c1 hg hr, cell_kept h.c2 hg hr, cell_kept h.c3 hg hr, cell_kept h.c4 hg hr, cell_kept h.c5 hg hr, cell_kept h.c6 hg hr⟩
theorem Cl7.below {b : Nat} {x : Claimed} {W w' : World} (h : Cl7 b x W) (hb : Below W.heap.size W w') : Cl7 b x w' := by
  have lt : b < W.heap.size := cell?_lt h.c0
  exact ⟨(hb.cell lt).trans h.c0, (hb.cell lt).trans h.c1, (hb.cell lt).trans h.c2, (hb.cell lt).trans h.c3, (hb.cell lt).trans h.c4, (hb.cell lt).trans h.c5, (hb.cell lt).trans h.c6⟩
theorem keeps_below {B : Nat} {W w' : World} (hb : Below W.heap.size W w') : KeepsFrom B W w' :=
  ⟨hb.size, fun k o _ hk _ => (hb.block k (Array.getElem?_eq_some_iff.1 hk).1).trans hk⟩
def AxT (T : Array Value) (l : List Claimed) (K : Nat) (x : Fin l.length) (a' : Act) (W : World) : Prop :=
  ∃ Bx, K ≤ Bx ∧ Cl7 Bx l[x] W ∧ a' = { tmps := (((#[58, 59].zip (encC l x)).foldl (fun t (p, v) => t.setIfInBounds p v) T).setIfInBounds 17 (.int .i64 (x.val : Int))).setIfInBounds 18 (.pointer (some ⟨Bx, 0, none⟩)), defers := [] }
def IrT (f : Nat → Bool) (l : List Claimed) (wS : World) (pre : List (Fin l.length)) (W : World) : Prop := (∀ i ∈ pre, f i.val = false) ∧ Below wS.heap.size wS W
def IyT (f : Nat → Bool) (l : List Claimed) (N : Nat) (cd : Code) (pre : List (Fin l.length)) (W : World) : Prop :=
  cd = .ret ∧ ∃ q i, pre = q ++ [i] ∧ (∀ j ∈ q, f j.val = false) ∧ f i.val = true ∧ W.cell? ⟨N + 1 + 1 + 1, 0, none⟩ = some (.string l[i].result) ∧ W.cell? ⟨N + 1 + 1 + 1 + 1, 0, none⟩ = some (.bool true) ∧ W.cell? ⟨N + 1 + 1 + 1 + 1 + 1, 0, none⟩ = some (.int .i64 0)
def IxT (f : Nat → Bool) (l : List Claimed) (w : World) (cd : Code) (pre : List (Fin l.length)) (W : World) : Prop := IyT f l w.heap.size cd pre W ∧ Below w.heap.size w W
theorem rf_law {g : Operand} {assign body : Code} {Q : Exit → Act → World → Prop} {T : Array Value} {wS w : World} {l : List Claimed} {Bs len cap : Nat} {A : Option Addr} (f : Nat → Bool) (hg : (Act.mk T []).eval g = .func (.func 93) #[] #[.pointer (some ⟨Bs, 0, none⟩)])
    (hlen : len ≤ 1000) (hA : 0 < len → ∃ b off, A = some ⟨b, off, none⟩ ∧ b < wS.heap.size) (hBn : Bs < wS.heap.size) (hc : wS.cell? ⟨Bs, 0, none⟩ = some (.slice A len cap)) (hsl : SlAt RClaimed wS A len l) (hwS : w.heap.size ≤ wS.heap.size)
    (hassign : ∀ (lp : Nat) (pre : List (Fin l.length)) (x : Fin l.length) (W : World) (K : Act → World → Prop), IrT f l wS pre W → (∀ a' W', KeepsFrom wS.heap.size W W' → Below wS.heap.size W W' → IrT f l wS pre W' → AxT T l wS.heap.size x a' W' → K a' W') →
      assign.wpIn (Fence.wide.inRound lp) (9 - 1 - 1) Tryz.prog (Exit.then K (fun _ _ _ => False)) { tmps := (#[58, 59].zip (encC l x)).foldl (fun t (p, v) => t.setIfInBounds p v) T, defers := [] } W)
    (hbody : ∀ (lp : Nat) (pre : List (Fin l.length)) (x : Fin l.length) (a' : Act) (W : World), wS.heap.size ≤ lp → (∃ r, W.heap[lp]? = some (.loop r)) → IrT f l wS pre W → AxT T l wS.heap.size x a' W → pre.length < l.length → body.wpIn (Fence.wide.inRound lp) (9 - 1 - 1) Tryz.prog (ownPostG wS.heap.size (Below wS.heap.size) (IrT f l wS) (IxT f l w) (pre ++ [x]) W) a' W)
    (hdone : ∀ (D : Nat) (xs : List (Fin l.length)) (W : World), wS.heap.size ≤ D → xs = downF l.length → IrT f l wS xs W → W.heap[D]? = some (.deferred (some [])) → Q .normal { tmps := T, defers := { target := .collected D, args := #[] } :: [] } W)
    (hstop : ∀ (D : Nat) (c : Code) (pre : List (Fin l.length)) (W : World), wS.heap.size ≤ D → (∃ k, k ≤ l.length ∧ pre = (downF l.length).take k) → IxT f l w c pre W → W.heap[D]? = some (.deferred (some [])) → c.wpIn Fence.wide 9 Tryz.prog Q { tmps := T, defers := { target := .collected D, args := #[] } :: [] } W) :
    (Code.rangeFunc g #[58, 59] assign body).wpIn Fence.wide 9 Tryz.prog Q { tmps := T, defers := [] } wS :=
  wpIn_rangeFunc_ownH rfl (by omega) hg trivial (enters_of Tryz.func93 (by kernel_rfl) rfl)
    (back_stops Fence.wide (9 - 1) trivial rfl (by omega) Bs wS.heap.size len cap A l hlen hA hBn wS (Nat.le_refl _) hc hsl) belowK_t (belowK_b (Nat.le_refl _)) (Below.refl _ _) (fun _ => rfl)
    (IrT f l wS) (IxT f l w)
    (OwnFrom.and (Own.from (fun s A B row hs hg hr => hs) _) (ownFrom_below (Nat.le_refl _) (Nat.le_refl _)))
    (fun cd => OwnFrom.and (Own.from (fun s A B row hs hg hr => by obtain ⟨h1, q, i, h2, h3, h4, h5, h6, h7⟩ := hs; exact ⟨h1, q, i, h2, h3, h4, cell_kept h5 hg hr, cell_kept h6 hg hr, cell_kept h7 hg hr⟩) _) (ownFrom_below (Nat.le_refl _) hwS))
    ⟨fun i hi => (by cases hi), Below.refl _ _⟩
    (AxT T l wS.heap.size)
    (fun x a' _ X Y row hs hg hr => by obtain ⟨Bx, h1, h2, h3⟩ := hs; exact ⟨Bx, h1, h2.kept hg (fun r e => (hr r e).2), h3⟩)
    hassign hbody hdone hstop
def Tt1 (m : List Audit) (at_ : Int) (w0 : World) (i : Value) (wr : World) : Prop := ∃ k : Nat, k ≤ manyN m at_ ∧ i = .int .i64 k ∧ Below w0.heap.size w0 wr


set_option maxRecDepth 100000 in
set_option maxHeartbeats 16000000 in
theorem Trusted_any (WA : Option Addr) (wn wc : Nat) (wl : List Writer) (A : Option Addr) (n c : Nat) (l : List Claimed) (B : Option Addr) (mn mc : Nat) (m : List Audit) (key : ByteArray) (at_ : Int) (w : World) (hm : MaxLenAt w) (ht : PowTab w)
    (hwl : SlAt RWriter w WA wn wl) (hl : SlAt RClaimed w A n l) (hma : SlAt RAudit w B mn m) (hmc : mn ≤ mc) (s : ByteArray) (r : Bool) (F : Int) (hF : trR wl l m key at_ = (s, r, F)) :
    Calls Tryz.prog 22 #[.slice WA wn wc, .slice A n c, .slice B mn mc, .string key, .int .i64 at_] w (TrAns s r F w) := by
  unfold trR trF at hF
  obtain ⟨e1, he1⟩ : ∃ e, writersF wl = e := ⟨_, rfl⟩
  obtain ⟨e2, he2⟩ : ∃ e, auditsF l m = e := ⟨_, rfl⟩
  obtain ⟨e3, he3⟩ : ∃ e, digB key = e := ⟨_, rfl⟩
  obtain ⟨e4, he4⟩ : ∃ e, inR 0 1000000000 at_ = e := ⟨_, rfl⟩
  rw [he1, he2, he3, he4] at hF
  have z0 := TrC.start w (.slice WA wn wc) key at_ 22 9 3 9 4 26
  have hb0 := ((((((Below.refl w.heap.size w).alloc (Nat.le_refl _) (.cells #[.slice WA wn wc] 22)).alloc (by simp) (.cells #[.string key] 9)).alloc (by simp; omega) (.cells #[.int .i64 at_] 3)).alloc (by simp; omega) (.cells #[.string ⟨#[]⟩] 9)).alloc (by simp; omega) (.cells #[.bool false] 4)).alloc (by simp; omega) (.cells #[.int .i64 0] 26)
  obtain ⟨w0, hw0⟩ : ∃ W, W = ((((((w.alloc (.cells #[.slice WA wn wc] 22)).alloc (.cells #[.string key] 9)).alloc (.cells #[.int .i64 at_] 3)).alloc (.cells #[.string ⟨#[]⟩] 9)).alloc (.cells #[.bool false] 4)).alloc (.cells #[.int .i64 0] 26)) := ⟨_, rfl⟩
  rw [← hw0] at z0 hb0
  have hmH := Lib.hid hm
  clear hm
  have htH := Lib.hid ht
  clear ht
  have hwlH := Lib.hid hwl
  clear hwl
  have hlH := Lib.hid hl
  clear hl
  have hmaH := Lib.hid hma
  clear hma
  have hFH := Lib.hid hF
  clear hF
  have he1H := Lib.hid he1
  clear he1
  have he2H := Lib.hid he2
  clear he2
  have he3H := Lib.hid he3
  clear he3
  have he4H := Lib.hid he4
  clear he4
  have z0H := Lib.hid z0
  clear z0
  have hb0H := Lib.hid hb0
  clear hb0
  refine (callsIn_wide (n := 9)).1 ?_
  refine callsIn_of_wp_marks Tryz.func22 rfl trivial ?_ rfl
  simp only [Tryz.ntmps22, List.size_toArray, List.length_cons, List.length_nil, Nat.reduceAdd, Nat.reduceSub, Array.replicate_succ, Array.replicate_zero, List.push_toArray, List.append_toArray, List.nil_append, List.cons_append]
  gi_wp2_with fail
  refine ⟨trivial, callsIn_wide.2 ?_⟩
  rw [show ((((((w.alloc (.cells #[.slice WA wn wc] 22)).alloc (.cells #[.string key] 9)).alloc (.cells #[.int .i64 at_] 3)).alloc (.cells #[.string ⟨#[]⟩] 9)).alloc (.cells #[.bool false] 4)).alloc (.cells #[.int .i64 0] 26)) = w0 from hw0.symm]
  clear hw0
  refine (writers_any WA wn wc wl _ (hwlH.out.below hb0H.out) e1 he1H.out).mono ?_
  rintro e w1 ⟨rfl, hb1⟩
  have hb01 := hb0H.out.trans (hb1.mono hb0H.out.size)
  have z1 := z0H.out.below hb1 z0H.out.lt
  have hF := hFH.out
  clear hFH hb1 z0H hb0H
  by_cases g1 : e1 = 0
  · subst g1
    simp only [if_true] at hF
    have hb01H := Lib.hid hb01
    clear hb01
    have hFH := Lib.hid hF
    clear hF
    have z1H := Lib.hid z1
    clear z1
    gi_wp2_with fail
    refine ⟨trivial, callsIn_wide.2 ?_⟩
    refine (audits_any A n c l B mn mc m _ (hmH.out.below hb01H.out) (hlH.out.below hb01H.out) (hmaH.out.below hb01H.out) e2 he2H.out).mono ?_
    rintro e w2 ⟨rfl, hb2⟩
    have hb02 := hb01H.out.trans (hb2.mono hb01H.out.size)
    have z2 := z1H.out.below hb2 z1H.out.lt
    have hF := hFH.out
    clear hFH hb2 z1H hb01H
    by_cases g2 : e2 = 0
    · subst g2
      simp only [if_true] at hF
      have q1 := z2.c1
      have q2 := z2.c2
      have hb02H := Lib.hid hb02
      clear hb02
      have hFH := Lib.hid hF
      clear hF
      have z2H := Lib.hid z2
      clear z2
      gi_wp2_with fail
      refine ⟨trivial, callsIn_wide.2 ?_⟩
      refine (dig_any key _ e3 he3H.out).mono ?_
      rintro e w3 ⟨rfl, hb3⟩
      have hb03 := hb02H.out.trans (hb3.mono hb02H.out.size)
      have z3 := z2H.out.below hb3 z2H.out.lt
      have hF := hFH.out
      clear hFH hb3 z2H hb02H q1 q2
      cases e3
      · simp only [Bool.false_eq_true, if_false] at hF
        obtain ⟨rfl, rfl, rfl⟩ := hF
        have hb3 := tr_three z3.c3 z3.c4 z3.c5 (.string ⟨#[]⟩) (.bool false) (.int .i64 3) hb03 (Nat.le_refl _)
        obtain ⟨d3, d4, d5, hb3⟩ := hb3
        obtain ⟨c0, c1, c2, c3, c4, c5, f3, f4, f5, lt⟩ := z3
        have hb3H := Lib.hid hb3
        clear hb3
        gi_wp2
        exact ⟨.tuple #[.string ⟨#[]⟩, .bool false, .int .i64 3], by simp [results, Tryz.f22, go_sem, d3, d4, d5], rfl, hb3H.out⟩
      · simp only [if_true] at hF
        have q2 := z3.c2
        have hb03H := Lib.hid hb03
        clear hb03
        have hFH := Lib.hid hF
        clear hF
        have z3H := Lib.hid z3
        clear z3
        gi_wp2_with fail
        refine ⟨trivial, callsIn_wide.2 ?_⟩
        refine (within_p at_ 0 1000000000 _).mono ?_
        rintro e w4 ⟨rfl, rfl⟩
        rw [he4H.out]
        have hF := hFH.out
        have z3 := z3H.out
        have hb03 := hb03H.out
        clear hFH z3H hb03H q2
        cases e4
        · simp only [Bool.false_eq_true, if_false] at hF
          obtain ⟨rfl, rfl, rfl⟩ := hF
          have hb3 := tr_three z3.c3 z3.c4 z3.c5 (.string ⟨#[]⟩) (.bool false) (.int .i64 1) hb03 (Nat.le_refl _)
          obtain ⟨d3, d4, d5, hb3⟩ := hb3
          obtain ⟨c0, c1, c2, c3, c4, c5, f3, f4, f5, lt⟩ := z3
          have hb3H := Lib.hid hb3
          clear hb3
          gi_wp2
          exact ⟨.tuple #[.string ⟨#[]⟩, .bool false, .int .i64 1], by simp [results, Tryz.f22, go_sem, d3, d4, d5], rfl, hb3H.out⟩
        · simp only [if_true, Prod.mk.injEq] at hF
          obtain ⟨g1, g2, g3⟩ := audits_range he2H.out
          have hll := hlH.out.1
          have hml := hmaH.out.1
          have hn : n ≤ 1000 := by omega
          have hmn : mn ≤ 1000 := by omega
          have hrg : ∀ a ∈ m, 0 ≤ a.number ∧ a.number < n := fun a ha => by have := g3 a ha; omega
          have hcl := logF_each3 he2H.out
          rw [hll] at hF
          obtain ⟨f, hf⟩ : ∃ f, okJ wl l m key at_ = f := ⟨_, rfl⟩
          rw [hf] at hF
          have hMle := manyN_le m at_
          have hma4 := hmaH.out.below hb03
          clear g1 g2 g3
          have hllH := Lib.hid hll
          clear hll
          have hmlH := Lib.hid hml
          clear hml
          have hrgH := Lib.hid hrg
          clear hrg
          have hclH := Lib.hid hcl
          clear hcl
          have hfH := Lib.hid hf
          clear hf
          have hFH := Lib.hid hF
          clear hF
          have hma4H := Lib.hid hma4
          clear hma4
          have hb03H := Lib.hid hb03
          clear hb03
          have z3H := Lib.hid z3
          clear z3
          gi_wp2_with fail
          gi_loopw [15] (fun i wr => Tt1 m at_ w4 i wr) (fun i _ => mn - (intOf i).toNat)
          case atStart => exact ⟨0, Nat.zero_le _, rfl, Below.refl _ _⟩
          case round =>
            obtain ⟨k, hk, rfl, hbk⟩ := hrel
            have hkm : k ≤ mn := by have := hmlH.out; omega
            have hkI : (k : Int) ≤ 1000 := by omega
            have z4 := z3H.out.below hbk z3H.out.lt
            have q2 := z4.c2
            by_cases hlt : k < manyN m at_
            · obtain ⟨a, ha, hle⟩ := manyN_lt hlt
              have hkmn : k < mn := by have := (List.getElem?_eq_some_iff.1 ha).1; have := hmlH.out; omega
              obtain ⟨b, off, hA, _⟩ := hma4H.out.2.1 (by omega)
              subst hA
              obtain ⟨c0, c1, c2⟩ := cells_Audit (hma4H.out.below hbk) ha
              have R : ∀ nq, Tt1 m at_ w4 (.int .i64 (k + 1)) (wr.drewN nq) := fun nq => ⟨k + 1, hlt, by go_num, bel_drewN hbk nq⟩
              have hk2 : (k : Int) < (mn : Int) := by omega
              have haH := Lib.hid ha
              clear ha
              have RH := Lib.hid R
              clear R
              have hbkH := Lib.hid hbk
              clear hbk
              have z4H := Lib.hid z4
              clear z4
              gi_wp2_with fail
              gi_quiet (fail)
              gi_wp2
              refine ⟨?rel, ?measure⟩
              case measure => (simp [intOf]; omega)
              case rel => first | exact (RH.out _) | exact ⟨rfl, (RH.out _)⟩ | ((try refine ⟨rfl, ?_⟩); (repeat apply Exists.intro); refine ⟨(RH.out _), ?_⟩; ((repeat' apply And.intro) <;> rfl))
            · have hkk : manyN m at_ = k := by omega
              have s0 : (0 : Int) ≤ k := by omega
              have s1 : (k : Int) ≤ mc := by omega
              by_cases hkmn : k < mn
              · obtain ⟨b, off, hA, _⟩ := hma4H.out.2.1 (by omega)
                subst hA
                obtain ⟨a, ha⟩ : ∃ a, m[k]? = some a := ⟨m[k]'(by have := hmlH.out; omega), List.getElem?_eq_getElem _⟩
                obtain ⟨c0, c1, c2⟩ := cells_Audit (hma4H.out.below hbk) ha
                have hgt : ¬ a.at_ ≤ at_ := manyN_end (by rw [hkk]; exact ha)
                have hk2 : (k : Int) < (mn : Int) := by omega
                have haH := Lib.hid ha
                clear ha
                have hbkH := Lib.hid hbk
                clear hbk
                have z4H := Lib.hid z4
                clear z4
                gi_wp2_with fail
                gi_quiet (fail)
                have hd : decide (a.at_ ≤ at_) = false := decide_eq_false (by omega)
                have hbk := bel_drewN hbkH.out nq
                have z4 := z4H.out.below (bel_drewN (Below.refl wr.heap.size wr) nq) z4H.out.lt
                clear hbkH z4H q2
                obtain ⟨w5, hw5⟩ : ∃ W, W = wr.drewN nq := ⟨_, rfl⟩
                rw [← hw5] at hbk z4 ⊢
                clear hw5
                have hb05 := hb03H.out.trans (hbk.mono hb03H.out.size)
                have hlt0 := z4.lt
                have hb05H := Lib.hid hb05
                clear hb05
                have z4H := Lib.hid z4
                clear z4
                gi_wp2_with fail
                refine ⟨trivial, callsIn_wide.2 ?_⟩
                refine (tainted_any A n c l _ k mc (m.take k) _ hn (by omega) (hlH.out.below hb05H.out) (slAt_takeT (hmaH.out.below hb05H.out) k hkm) (fun a ha => hrgH.out a (List.mem_of_mem_take ha))).mono ?_
                rintro e w6 ⟨bt, rfl, hbr, hbt, hb6⟩
                have hb06 := hb05H.out.trans (hb6.mono hb05H.out.size)
                have z6 := z4H.out.below hb6 z4H.out.lt
                have hlt6 := z6.lt
                clear z4H hb05H hb6
                have hbrH := Lib.hid hbr
                clear hbr
                have hb06H := Lib.hid hb06
                clear hb06
                have z6H := Lib.hid z6
                clear z6
                gi_wp2_with fail
                refine ⟨trivial, callsIn_wide.2 ?_⟩
                refine (back_any A n c _).mono ?_
                rintro e w7 ⟨rfl, rfl⟩
                have hba : Below w6.heap.size w6 ((w6.alloc (.cells #[.slice (some ⟨bt, 0, none⟩) n n] 83)).alloc (.cells #[.slice A n c] 40)) := ((Below.refl _ _).alloc (Nat.le_refl _) _).alloc (by simp) _
                have xbad := (Boxed.new w6 83 (.slice (some ⟨bt, 0, none⟩) n n)).alloc (.cells #[.slice A n c] 40)
                have xsl := Boxed.new (w6.alloc (.cells #[.slice (some ⟨bt, 0, none⟩) n n] 83)) 40 (.slice A n c)
                rw [World.size_alloc] at xsl
                obtain ⟨wS, hwS⟩ : ∃ W, W = (w6.alloc (.cells #[.slice (some ⟨bt, 0, none⟩) n n] 83)).alloc (.cells #[.slice A n c] 40) := ⟨_, rfl⟩
                have hszS : wS.heap.size = w6.heap.size + 1 + 1 := by rw [hwS]; simp
                rw [← hwS] at hba xbad xsl
                have hb0S := hb06H.out.trans (hba.mono hb06H.out.size)
                have zS := z6H.out.below hba z6H.out.lt
                have hbrS := hbrH.out.below hba hbt
                clear z6H hb06H hbrH hba
                have xbadH := Lib.hid xbad
                clear xbad
                have xslH := Lib.hid xsl
                clear xsl
                have hb0SH := Lib.hid hb0S
                clear hb0S
                have zSH := Lib.hid zS
                clear zS
                have hbrSH := Lib.hid hbrS
                clear hbrS
                gi_wp2_with fail
                rw [← hwS]
                clear hwS
                refine rf_law (l := l) (A := A) (len := n) (cap := c) (w := w) (Bs := w6.heap.size + 1) f rfl hn ?hA (by omega) xslH.out.cell (hlH.out.below hb0SH.out) hb0SH.out.size ?assign ?body ?done ?stop
                case hA =>
                  intro h0
                  obtain ⟨b7, off7, hA7, hc7⟩ := (hlH.out.below hb0SH.out).2.1 h0
                  have hx7 : l[0]? = some (l[0]'(by have := hllH.out; omega)) := List.getElem?_eq_getElem _
                  exact ⟨b7, off7, hA7, cell?_lt (hc7 0 _ hx7 0 (.string (l[0]'(by have := hllH.out; omega)).key) rfl)⟩
                case assign =>
                  rintro lp pre x W K ⟨hI1, hB1⟩ hK
                  dsimp only [encC, clV]
                  gi_wp2
                  refine hK _ _ ((KeepsOthers.alloc _ _).from _) ((Below.refl _ W).alloc hB1.size _) ⟨hI1, hB1.alloc hB1.size _⟩ ⟨W.heap.size, hB1.size, Cl7.new W l[x], ?_⟩
                  simp [encC, clV]
                case body =>
                  rintro lp pre ⟨i, hi⟩ a' W hlp hrec ⟨hI1, hB1⟩ ⟨Bx, hBx, hcc, ha'⟩ hlt
                  clear hrec hlp hlt
                  have hx : l[i]? = some l[i] := List.getElem?_eq_getElem hi
                  have hcc : Cl7 Bx l[i] W := hcc
                  simp [encC, clV] at ha'
                  obtain ⟨x, hxe⟩ : ∃ x, x = l[i] := ⟨_, rfl⟩
                  rw [← hxe] at hx hcc ha'
                  have hin : (i : Int) < (n : Int) := by have := hllH.out; omega
                  have hin2 : i < n := by omega
                  have hb0W := hb0SH.out.trans (hB1.mono hb0SH.out.size)
                  obtain ⟨q0, q1, q2, q3, q4, q5, f3, f4, f5, hltz⟩ := zSH.out.below hB1 zSH.out.lt
                  have q16 := (hB1.cell (p := ⟨w6.heap.size, 0, none⟩) (by show w6.heap.size < _; omega)).trans xbadH.out.cell
                  have hti := ((hbrSH.out.below hB1 (by omega)) i hin2).1
                  have hfi : f i = (decide (x.key = key) && (decide (x.at_ ≤ at_) && (!tntB l (m.take k) i && decide (genF wl x = 1)))) := by
                    rw [← hfH.out]
                    have := okJ_get (wl := wl) (m := m) (key := key) (at_ := at_) hx
                    rwa [hkk] at this
                  have hxm := List.mem_of_getElem? hx
                  have hbo : bothF wl x = 0 := bothF_of he1H.out (hclH.out x hxm)
                  have hok2 := RClaimed.mono _ _ _ hb0W (hlH.out.2.2 x hxm)
                  have hgo : ∀ W' : World, Below W.heap.size W W' → f i = false → KeepsFrom wS.heap.size W W' ∧ Below wS.heap.size W W' ∧ IrT f l wS (pre ++ [⟨i, hi⟩]) W' := fun W' hW h =>
                    ⟨keeps_below hW, hW.mono hB1.size, fun j hj => by
                      rcases List.mem_append.1 hj with hj | hj
                      · exact hI1 j hj
                      · rw [List.mem_singleton.1 hj]; exact h, hB1.trans (hW.mono hB1.size)⟩
                  obtain ⟨tb, htb⟩ : ∃ v, tntB l (m.take k) i = v := ⟨_, rfl⟩
                  rw [htb] at hti hfi
                  have hcc2 := hcc
                  obtain ⟨c0, c1, c2, c3, c4, c5, c6⟩ := hcc
                  subst ha'
                  clear hxm
                  by_cases hat : x.at_ ≤ at_
                  · by_cases hkey : x.key = key
                    · have hq : (x.key.toList == key.toList) = true := by rw [beq_data, decide_eq_true hkey]
                      rw [decide_eq_true hkey, decide_eq_true hat, Bool.true_and, Bool.true_and] at hfi
                      cases tb
                      · rw [Bool.not_false, Bool.true_and] at hfi
                        obtain ⟨v, hv⟩ : ∃ v, genF wl x = v := ⟨_, rfl⟩
                        rw [hv] at hfi
                        have hxH := Lib.hid hx
                        clear hx
                        have hxeH := Lib.hid hxe
                        clear hxe
                        have hkeyH := Lib.hid hkey
                        clear hkey
                        have hb0WH := Lib.hid hb0W
                        clear hb0W
                        have hfiH := Lib.hid hfi
                        clear hfi
                        have hboH := Lib.hid hbo
                        clear hbo
                        have hok2H := Lib.hid hok2
                        clear hok2
                        have hvH := Lib.hid hv
                        clear hv
                        have hgoH := Lib.hid hgo
                        clear hgo
                        have htbH := Lib.hid htb
                        clear htb
                        have hI1H := Lib.hid hI1
                        clear hI1
                        have hB1H := Lib.hid hB1
                        clear hB1
                        have hcc2H := Lib.hid hcc2
                        clear hcc2
                        gi_wp2_with fail
                        refine ⟨trivial, ?_⟩
                        refine (CallsIn.inRound lp (callsIn_wide.2 (genuine_any WA wn wc wl x _ (htH.out.below hb0WH.out) (hwlH.out.below hb0WH.out) hok2H.out hboH.out v hvH.out))).mono ?_
                        rintro e w7 ⟨rfl, hw7⟩
                        have hb07 := hb0WH.out.trans (hw7.mono hb0WH.out.size)
                        obtain ⟨r0, r1, r2, r3, r4, r5, r6⟩ := hcc2H.out.below hw7
                        by_cases hv1 : v = 1
                        · subst hv1
                          have hfi := hfiH.out
                          rw [decide_eq_true rfl] at hfi
                          obtain ⟨y0, y1, y2, y3, y4, y5, g3, g4, g5, yz⟩ := (zSH.out.below hB1H.out zSH.out.lt).below hw7 hltz
                          obtain ⟨d3, d4, d5, hb3⟩ := tr_three y3 y4 y5 (.string x.result) (.bool true) (.int .i64 0) hb07 (Nat.le_refl _)
                          have hkf : KeepsFrom wS.heap.size W (((w7.setCell ⟨w.heap.size + 1 + 1 + 1, 0, none⟩ (.string x.result)).setCell ⟨w.heap.size + 1 + 1 + 1 + 1, 0, none⟩ (.bool true)).setCell ⟨w.heap.size + 1 + 1 + 1 + 1 + 1, 0, none⟩ (.int .i64 0)) :=
                            (((keeps_below hw7).trans ((KeepsOthers.setCell _ _ _).from _)).trans ((KeepsOthers.setCell _ _ _).from _)).trans ((KeepsOthers.setCell _ _ _).from _)
                          have R : KeepsFrom wS.heap.size W (((w7.setCell ⟨w.heap.size + 1 + 1 + 1, 0, none⟩ (.string x.result)).setCell ⟨w.heap.size + 1 + 1 + 1 + 1, 0, none⟩ (.bool true)).setCell ⟨w.heap.size + 1 + 1 + 1 + 1 + 1, 0, none⟩ (.int .i64 0)) ∧ IxT f l w .ret (pre ++ [⟨i, hi⟩]) (((w7.setCell ⟨w.heap.size + 1 + 1 + 1, 0, none⟩ (.string x.result)).setCell ⟨w.heap.size + 1 + 1 + 1 + 1, 0, none⟩ (.bool true)).setCell ⟨w.heap.size + 1 + 1 + 1 + 1 + 1, 0, none⟩ (.int .i64 0)) :=
                            ⟨hkf, ⟨rfl, pre, ⟨i, hi⟩, rfl, hI1H.out, hfi, by rw [d3]; show some (Value.string x.result) = some (.string l[i].result); rw [← hxeH.out], d4, d5⟩, hb3⟩
                          clear hkf d3 d4 d5 hb3 hfi hb07 hw7
                          have RH := Lib.hid R
                          clear R
                          gi_wp2
                          exact RH.out
                        · have e5 : (v == 1) = false := by simpa using hv1
                          have hfi := hfiH.out
                          rw [decide_eq_false hv1] at hfi
                          have R := hgoH.out w7 hw7 hfi
                          clear hfi hb07 hw7
                          have RH := Lib.hid R
                          clear R
                          gi_wp2
                          exact RH.out
                      · have R := hgo W (Below.refl _ _) (by rw [hfi]; rfl)
                        have hxH := Lib.hid hx
                        clear hx
                        have hxeH := Lib.hid hxe
                        clear hxe
                        have hkeyH := Lib.hid hkey
                        clear hkey
                        have hb0WH := Lib.hid hb0W
                        clear hb0W
                        have hfiH := Lib.hid hfi
                        clear hfi
                        have hboH := Lib.hid hbo
                        clear hbo
                        have hok2H := Lib.hid hok2
                        clear hok2
                        have hgoH := Lib.hid hgo
                        clear hgo
                        have htbH := Lib.hid htb
                        clear htb
                        have hI1H := Lib.hid hI1
                        clear hI1
                        have hB1H := Lib.hid hB1
                        clear hB1
                        have hcc2H := Lib.hid hcc2
                        clear hcc2
                        have RH := Lib.hid R
                        clear R
                        gi_wp2
                        refine ⟨trivial, ?_⟩
                        gi_wp2
                        exact RH.out
                    · have hq : (x.key.toList == key.toList) = false := by rw [beq_data, decide_eq_false hkey]
                      have R := hgo W (Below.refl _ _) (by rw [hfi, decide_eq_false hkey]; rfl)
                      have hxH := Lib.hid hx
                      clear hx
                      have hxeH := Lib.hid hxe
                      clear hxe
                      have hkeyH := Lib.hid hkey
                      clear hkey
                      have hb0WH := Lib.hid hb0W
                      clear hb0W
                      have hfiH := Lib.hid hfi
                      clear hfi
                      have hboH := Lib.hid hbo
                      clear hbo
                      have hok2H := Lib.hid hok2
                      clear hok2
                      have hgoH := Lib.hid hgo
                      clear hgo
                      have htbH := Lib.hid htb
                      clear htb
                      have hI1H := Lib.hid hI1
                      clear hI1
                      have hB1H := Lib.hid hB1
                      clear hB1
                      have hcc2H := Lib.hid hcc2
                      clear hcc2
                      have RH := Lib.hid R
                      clear R
                      gi_wp2
                      refine ⟨trivial, ?_⟩
                      gi_wp2
                      exact RH.out
                  · have R := hgo W (Below.refl _ _) (by rw [hfi, decide_eq_false hat]; simp)
                    have hat2 : at_ < x.at_ := by omega
                    have hxH := Lib.hid hx
                    clear hx
                    have hxeH := Lib.hid hxe
                    clear hxe
                    have hb0WH := Lib.hid hb0W
                    clear hb0W
                    have hfiH := Lib.hid hfi
                    clear hfi
                    have hboH := Lib.hid hbo
                    clear hbo
                    have hok2H := Lib.hid hok2
                    clear hok2
                    have hgoH := Lib.hid hgo
                    clear hgo
                    have htbH := Lib.hid htb
                    clear htb
                    have hI1H := Lib.hid hI1
                    clear hI1
                    have hB1H := Lib.hid hB1
                    clear hB1
                    have hcc2H := Lib.hid hcc2
                    clear hcc2
                    have RH := Lib.hid R
                    clear R
                    gi_wp2
                    refine ⟨trivial, ?_⟩
                    gi_wp2
                    exact RH.out
                case done =>
                  rintro D ys W hD rfl ⟨hI1, hB1⟩ hK
                  have hb0W := hb0SH.out.trans (hB1.mono hb0SH.out.size)
                  have hF := hFH.out
                  have hll := hllH.out
                  rw [← hll, last_none hI1] at hF
                  obtain ⟨rfl, rfl, rfl⟩ := hF
                  obtain ⟨q0, q1, q2, q3, q4, q5, f3, f4, f5, hltz⟩ := zSH.out.below hB1 zSH.out.lt
                  obtain ⟨d3, d4, d5, hb3⟩ := tr_three q3 q4 q5 (.string ⟨#[]⟩) (.bool false) (.int .i64 0) hb0W (Nat.le_refl _)
                  have hK' := (((KeepsOthers.setCell W ⟨w.heap.size + 1 + 1 + 1, 0, none⟩ (.string ⟨#[]⟩)).trans (KeepsOthers.setCell _ ⟨w.heap.size + 1 + 1 + 1 + 1, 0, none⟩ (.bool false))).trans (KeepsOthers.setCell _ ⟨w.heap.size + 1 + 1 + 1 + 1 + 1, 0, none⟩ (.int .i64 0))).same D _ hK rfl
                  have hdw : w.heap.size ≤ D := Nat.le_trans hb0SH.out.size hD
                  clear hll
                  have hI1H := Lib.hid hI1
                  clear hI1
                  have hB1H := Lib.hid hB1
                  clear hB1
                  have hb0WH := Lib.hid hb0W
                  clear hb0W
                  have hb3H := Lib.hid hb3
                  clear hb3
                  have hKH := Lib.hid hK
                  clear hK
                  have hK'H := Lib.hid hK'
                  clear hK'
                  have d3H := Lib.hid d3
                  clear d3
                  have d4H := Lib.hid d4
                  clear d4
                  have d5H := Lib.hid d5
                  clear d5
                  gi_wp2
                  refine ⟨by simp, .inl ⟨_, _, rfl, run_takeDeferred hK'H.out, ?_⟩⟩
                  have k3 := cell_kept d3H.out (grownBy_putObj' _ D (.deferred none)) (fun r e => by cases e; exact ⟨_, hK'H.out, rfl⟩)
                  have k4 := cell_kept d4H.out (grownBy_putObj' _ D (.deferred none)) (fun r e => by cases e; exact ⟨_, hK'H.out, rfl⟩)
                  have k5 := cell_kept d5H.out (grownBy_putObj' _ D (.deferred none)) (fun r e => by cases e; exact ⟨_, hK'H.out, rfl⟩)
                  exact ⟨.tuple #[.string ⟨#[]⟩, .bool false, .int .i64 0], by simp [results, Tryz.f22, go_sem, k3, k4, k5], rfl, hb3H.out.trans (belowK_b (w := w) (Nat.le_refl _) _ D _ _ hdw hK'H.out rfl rfl)⟩
                case stop =>
                  rintro D cd pre W hD ⟨k', hk', rfl⟩ ⟨⟨rfl, q, i, hq, hqf, hif, d3, d4, d5⟩, hB⟩ hK
                  have hF := hFH.out
                  have hll := hllH.out
                  rw [← hll, last_down hk' hq hqf hif] at hF
                  have hri : resOf l (i.val : Nat) = l[i].result := resOf_get (List.getElem?_eq_getElem i.isLt)
                  obtain ⟨rfl, rfl, rfl⟩ := hF
                  rw [← hri] at d3
                  have hdw : w.heap.size ≤ D := Nat.le_trans hb0SH.out.size hD
                  clear hll
                  have hBH := Lib.hid hB
                  clear hB
                  have hKH := Lib.hid hK
                  clear hK
                  have hqH := Lib.hid hq
                  clear hq
                  have hqfH := Lib.hid hqf
                  clear hqf
                  have hifH := Lib.hid hif
                  clear hif
                  have d3H := Lib.hid d3
                  clear d3
                  have d4H := Lib.hid d4
                  clear d4
                  have d5H := Lib.hid d5
                  clear d5
                  have hriH := Lib.hid hri
                  clear hri
                  gi_wp2
                  refine ⟨by simp, .inl ⟨_, _, rfl, run_takeDeferred hKH.out, ?_⟩⟩
                  have k3 := cell_kept d3H.out (grownBy_putObj' _ D (.deferred none)) (fun r e => by cases e; exact ⟨_, hKH.out, rfl⟩)
                  have k4 := cell_kept d4H.out (grownBy_putObj' _ D (.deferred none)) (fun r e => by cases e; exact ⟨_, hKH.out, rfl⟩)
                  have k5 := cell_kept d5H.out (grownBy_putObj' _ D (.deferred none)) (fun r e => by cases e; exact ⟨_, hKH.out, rfl⟩)
                  exact ⟨.tuple #[.string (resOf l (i.val : Nat)), .bool true, .int .i64 0], by simp [results, Tryz.f22, go_sem, k3, k4, k5], rfl, hBH.out.trans (belowK_b (w := w) (Nat.le_refl _) _ D _ _ hdw hKH.out rfl rfl)⟩
              · obtain rfl : k = mn := by omega
                have hbkH := Lib.hid hbk
                clear hbk
                have z4H := Lib.hid z4
                clear z4
                gi_wp2_with fail
                gi_quiet (fail)
                have hbk := bel_drewN hbkH.out nq
                have z4 := z4H.out.below (bel_drewN (Below.refl wr.heap.size wr) nq) z4H.out.lt
                clear hbkH z4H q2
                obtain ⟨w5, hw5⟩ : ∃ W, W = wr.drewN nq := ⟨_, rfl⟩
                rw [← hw5] at hbk z4 ⊢
                clear hw5
                have hb05 := hb03H.out.trans (hbk.mono hb03H.out.size)
                have hlt0 := z4.lt
                have hb05H := Lib.hid hb05
                clear hb05
                have z4H := Lib.hid z4
                clear z4
                gi_wp2_with fail
                refine ⟨trivial, callsIn_wide.2 ?_⟩
                refine (tainted_any A n c l _ k mc (m.take k) _ hn (by omega) (hlH.out.below hb05H.out) (slAt_takeT (hmaH.out.below hb05H.out) k hkm) (fun a ha => hrgH.out a (List.mem_of_mem_take ha))).mono ?_
                rintro e w6 ⟨bt, rfl, hbr, hbt, hb6⟩
                have hb06 := hb05H.out.trans (hb6.mono hb05H.out.size)
                have z6 := z4H.out.below hb6 z4H.out.lt
                have hlt6 := z6.lt
                clear z4H hb05H hb6
                have hbrH := Lib.hid hbr
                clear hbr
                have hb06H := Lib.hid hb06
                clear hb06
                have z6H := Lib.hid z6
                clear z6
                gi_wp2_with fail
                refine ⟨trivial, callsIn_wide.2 ?_⟩
                refine (back_any A n c _).mono ?_
                rintro e w7 ⟨rfl, rfl⟩
                have hba : Below w6.heap.size w6 ((w6.alloc (.cells #[.slice (some ⟨bt, 0, none⟩) n n] 83)).alloc (.cells #[.slice A n c] 40)) := ((Below.refl _ _).alloc (Nat.le_refl _) _).alloc (by simp) _
                have xbad := (Boxed.new w6 83 (.slice (some ⟨bt, 0, none⟩) n n)).alloc (.cells #[.slice A n c] 40)
                have xsl := Boxed.new (w6.alloc (.cells #[.slice (some ⟨bt, 0, none⟩) n n] 83)) 40 (.slice A n c)
                rw [World.size_alloc] at xsl
                obtain ⟨wS, hwS⟩ : ∃ W, W = (w6.alloc (.cells #[.slice (some ⟨bt, 0, none⟩) n n] 83)).alloc (.cells #[.slice A n c] 40) := ⟨_, rfl⟩
                have hszS : wS.heap.size = w6.heap.size + 1 + 1 := by rw [hwS]; simp
                rw [← hwS] at hba xbad xsl
                have hb0S := hb06H.out.trans (hba.mono hb06H.out.size)
                have zS := z6H.out.below hba z6H.out.lt
                have hbrS := hbrH.out.below hba hbt
                clear z6H hb06H hbrH hba
                have xbadH := Lib.hid xbad
                clear xbad
                have xslH := Lib.hid xsl
                clear xsl
                have hb0SH := Lib.hid hb0S
                clear hb0S
                have zSH := Lib.hid zS
                clear zS
                have hbrSH := Lib.hid hbrS
                clear hbrS
                gi_wp2_with fail
                rw [← hwS]
                clear hwS
                refine rf_law (l := l) (A := A) (len := n) (cap := c) (w := w) (Bs := w6.heap.size + 1) f rfl hn ?hA (by omega) xslH.out.cell (hlH.out.below hb0SH.out) hb0SH.out.size ?assign ?body ?done ?stop
                case hA =>
                  intro h0
                  obtain ⟨b7, off7, hA7, hc7⟩ := (hlH.out.below hb0SH.out).2.1 h0
                  have hx7 : l[0]? = some (l[0]'(by have := hllH.out; omega)) := List.getElem?_eq_getElem _
                  exact ⟨b7, off7, hA7, cell?_lt (hc7 0 _ hx7 0 (.string (l[0]'(by have := hllH.out; omega)).key) rfl)⟩
                case assign =>
                  rintro lp pre x W K ⟨hI1, hB1⟩ hK
                  dsimp only [encC, clV]
                  gi_wp2
                  refine hK _ _ ((KeepsOthers.alloc _ _).from _) ((Below.refl _ W).alloc hB1.size _) ⟨hI1, hB1.alloc hB1.size _⟩ ⟨W.heap.size, hB1.size, Cl7.new W l[x], ?_⟩
                  simp [encC, clV]
                case body =>
                  rintro lp pre ⟨i, hi⟩ a' W hlp hrec ⟨hI1, hB1⟩ ⟨Bx, hBx, hcc, ha'⟩ hlt
                  clear hrec hlp hlt
                  have hx : l[i]? = some l[i] := List.getElem?_eq_getElem hi
                  have hcc : Cl7 Bx l[i] W := hcc
                  simp [encC, clV] at ha'
                  obtain ⟨x, hxe⟩ : ∃ x, x = l[i] := ⟨_, rfl⟩
                  rw [← hxe] at hx hcc ha'
                  have hin : (i : Int) < (n : Int) := by have := hllH.out; omega
                  have hin2 : i < n := by omega
                  have hb0W := hb0SH.out.trans (hB1.mono hb0SH.out.size)
                  obtain ⟨q0, q1, q2, q3, q4, q5, f3, f4, f5, hltz⟩ := zSH.out.below hB1 zSH.out.lt
                  have q16 := (hB1.cell (p := ⟨w6.heap.size, 0, none⟩) (by show w6.heap.size < _; omega)).trans xbadH.out.cell
                  have hti := ((hbrSH.out.below hB1 (by omega)) i hin2).1
                  have hfi : f i = (decide (x.key = key) && (decide (x.at_ ≤ at_) && (!tntB l (m.take k) i && decide (genF wl x = 1)))) := by
                    rw [← hfH.out]
                    have := okJ_get (wl := wl) (m := m) (key := key) (at_ := at_) hx
                    rwa [hkk] at this
                  have hxm := List.mem_of_getElem? hx
                  have hbo : bothF wl x = 0 := bothF_of he1H.out (hclH.out x hxm)
                  have hok2 := RClaimed.mono _ _ _ hb0W (hlH.out.2.2 x hxm)
                  have hgo : ∀ W' : World, Below W.heap.size W W' → f i = false → KeepsFrom wS.heap.size W W' ∧ Below wS.heap.size W W' ∧ IrT f l wS (pre ++ [⟨i, hi⟩]) W' := fun W' hW h =>
                    ⟨keeps_below hW, hW.mono hB1.size, fun j hj => by
                      rcases List.mem_append.1 hj with hj | hj
                      · exact hI1 j hj
                      · rw [List.mem_singleton.1 hj]; exact h, hB1.trans (hW.mono hB1.size)⟩
                  obtain ⟨tb, htb⟩ : ∃ v, tntB l (m.take k) i = v := ⟨_, rfl⟩
                  rw [htb] at hti hfi
                  have hcc2 := hcc
                  obtain ⟨c0, c1, c2, c3, c4, c5, c6⟩ := hcc
                  subst ha'
                  clear hxm
                  by_cases hat : x.at_ ≤ at_
                  · by_cases hkey : x.key = key
                    · have hq : (x.key.toList == key.toList) = true := by rw [beq_data, decide_eq_true hkey]
                      rw [decide_eq_true hkey, decide_eq_true hat, Bool.true_and, Bool.true_and] at hfi
                      cases tb
                      · rw [Bool.not_false, Bool.true_and] at hfi
                        obtain ⟨v, hv⟩ : ∃ v, genF wl x = v := ⟨_, rfl⟩
                        rw [hv] at hfi
                        have hxH := Lib.hid hx
                        clear hx
                        have hxeH := Lib.hid hxe
                        clear hxe
                        have hkeyH := Lib.hid hkey
                        clear hkey
                        have hb0WH := Lib.hid hb0W
                        clear hb0W
                        have hfiH := Lib.hid hfi
                        clear hfi
                        have hboH := Lib.hid hbo
                        clear hbo
                        have hok2H := Lib.hid hok2
                        clear hok2
                        have hvH := Lib.hid hv
                        clear hv
                        have hgoH := Lib.hid hgo
                        clear hgo
                        have htbH := Lib.hid htb
                        clear htb
                        have hI1H := Lib.hid hI1
                        clear hI1
                        have hB1H := Lib.hid hB1
                        clear hB1
                        have hcc2H := Lib.hid hcc2
                        clear hcc2
                        gi_wp2_with fail
                        refine ⟨trivial, ?_⟩
                        refine (CallsIn.inRound lp (callsIn_wide.2 (genuine_any WA wn wc wl x _ (htH.out.below hb0WH.out) (hwlH.out.below hb0WH.out) hok2H.out hboH.out v hvH.out))).mono ?_
                        rintro e w7 ⟨rfl, hw7⟩
                        have hb07 := hb0WH.out.trans (hw7.mono hb0WH.out.size)
                        obtain ⟨r0, r1, r2, r3, r4, r5, r6⟩ := hcc2H.out.below hw7
                        by_cases hv1 : v = 1
                        · subst hv1
                          have hfi := hfiH.out
                          rw [decide_eq_true rfl] at hfi
                          obtain ⟨y0, y1, y2, y3, y4, y5, g3, g4, g5, yz⟩ := (zSH.out.below hB1H.out zSH.out.lt).below hw7 hltz
                          obtain ⟨d3, d4, d5, hb3⟩ := tr_three y3 y4 y5 (.string x.result) (.bool true) (.int .i64 0) hb07 (Nat.le_refl _)
                          have hkf : KeepsFrom wS.heap.size W (((w7.setCell ⟨w.heap.size + 1 + 1 + 1, 0, none⟩ (.string x.result)).setCell ⟨w.heap.size + 1 + 1 + 1 + 1, 0, none⟩ (.bool true)).setCell ⟨w.heap.size + 1 + 1 + 1 + 1 + 1, 0, none⟩ (.int .i64 0)) :=
                            (((keeps_below hw7).trans ((KeepsOthers.setCell _ _ _).from _)).trans ((KeepsOthers.setCell _ _ _).from _)).trans ((KeepsOthers.setCell _ _ _).from _)
                          have R : KeepsFrom wS.heap.size W (((w7.setCell ⟨w.heap.size + 1 + 1 + 1, 0, none⟩ (.string x.result)).setCell ⟨w.heap.size + 1 + 1 + 1 + 1, 0, none⟩ (.bool true)).setCell ⟨w.heap.size + 1 + 1 + 1 + 1 + 1, 0, none⟩ (.int .i64 0)) ∧ IxT f l w .ret (pre ++ [⟨i, hi⟩]) (((w7.setCell ⟨w.heap.size + 1 + 1 + 1, 0, none⟩ (.string x.result)).setCell ⟨w.heap.size + 1 + 1 + 1 + 1, 0, none⟩ (.bool true)).setCell ⟨w.heap.size + 1 + 1 + 1 + 1 + 1, 0, none⟩ (.int .i64 0)) :=
                            ⟨hkf, ⟨rfl, pre, ⟨i, hi⟩, rfl, hI1H.out, hfi, by rw [d3]; show some (Value.string x.result) = some (.string l[i].result); rw [← hxeH.out], d4, d5⟩, hb3⟩
                          clear hkf d3 d4 d5 hb3 hfi hb07 hw7
                          have RH := Lib.hid R
                          clear R
                          gi_wp2
                          exact RH.out
                        · have e5 : (v == 1) = false := by simpa using hv1
                          have hfi := hfiH.out
                          rw [decide_eq_false hv1] at hfi
                          have R := hgoH.out w7 hw7 hfi
                          clear hfi hb07 hw7
                          have RH := Lib.hid R
                          clear R
                          gi_wp2
                          exact RH.out
                      · have R := hgo W (Below.refl _ _) (by rw [hfi]; rfl)
                        have hxH := Lib.hid hx
                        clear hx
                        have hxeH := Lib.hid hxe
                        clear hxe
                        have hkeyH := Lib.hid hkey
                        clear hkey
                        have hb0WH := Lib.hid hb0W
                        clear hb0W
                        have hfiH := Lib.hid hfi
                        clear hfi
                        have hboH := Lib.hid hbo
                        clear hbo
                        have hok2H := Lib.hid hok2
                        clear hok2
                        have hgoH := Lib.hid hgo
                        clear hgo
                        have htbH := Lib.hid htb
                        clear htb
                        have hI1H := Lib.hid hI1
                        clear hI1
                        have hB1H := Lib.hid hB1
                        clear hB1
                        have hcc2H := Lib.hid hcc2
                        clear hcc2
                        have RH := Lib.hid R
                        clear R
                        gi_wp2
                        refine ⟨trivial, ?_⟩
                        gi_wp2
                        exact RH.out
                    · have hq : (x.key.toList == key.toList) = false := by rw [beq_data, decide_eq_false hkey]
                      have R := hgo W (Below.refl _ _) (by rw [hfi, decide_eq_false hkey]; rfl)
                      have hxH := Lib.hid hx
                      clear hx
                      have hxeH := Lib.hid hxe
                      clear hxe
                      have hkeyH := Lib.hid hkey
                      clear hkey
                      have hb0WH := Lib.hid hb0W
                      clear hb0W
                      have hfiH := Lib.hid hfi
                      clear hfi
                      have hboH := Lib.hid hbo
                      clear hbo
                      have hok2H := Lib.hid hok2
                      clear hok2
                      have hgoH := Lib.hid hgo
                      clear hgo
                      have htbH := Lib.hid htb
                      clear htb
                      have hI1H := Lib.hid hI1
                      clear hI1
                      have hB1H := Lib.hid hB1
                      clear hB1
                      have hcc2H := Lib.hid hcc2
                      clear hcc2
                      have RH := Lib.hid R
                      clear R
                      gi_wp2
                      refine ⟨trivial, ?_⟩
                      gi_wp2
                      exact RH.out
                  · have R := hgo W (Below.refl _ _) (by rw [hfi, decide_eq_false hat]; simp)
                    have hat2 : at_ < x.at_ := by omega
                    have hxH := Lib.hid hx
                    clear hx
                    have hxeH := Lib.hid hxe
                    clear hxe
                    have hb0WH := Lib.hid hb0W
                    clear hb0W
                    have hfiH := Lib.hid hfi
                    clear hfi
                    have hboH := Lib.hid hbo
                    clear hbo
                    have hok2H := Lib.hid hok2
                    clear hok2
                    have hgoH := Lib.hid hgo
                    clear hgo
                    have htbH := Lib.hid htb
                    clear htb
                    have hI1H := Lib.hid hI1
                    clear hI1
                    have hB1H := Lib.hid hB1
                    clear hB1
                    have hcc2H := Lib.hid hcc2
                    clear hcc2
                    have RH := Lib.hid R
                    clear R
                    gi_wp2
                    refine ⟨trivial, ?_⟩
                    gi_wp2
                    exact RH.out
                case done =>
                  rintro D ys W hD rfl ⟨hI1, hB1⟩ hK
                  have hb0W := hb0SH.out.trans (hB1.mono hb0SH.out.size)
                  have hF := hFH.out
                  have hll := hllH.out
                  rw [← hll, last_none hI1] at hF
                  obtain ⟨rfl, rfl, rfl⟩ := hF
                  obtain ⟨q0, q1, q2, q3, q4, q5, f3, f4, f5, hltz⟩ := zSH.out.below hB1 zSH.out.lt
                  obtain ⟨d3, d4, d5, hb3⟩ := tr_three q3 q4 q5 (.string ⟨#[]⟩) (.bool false) (.int .i64 0) hb0W (Nat.le_refl _)
                  have hK' := (((KeepsOthers.setCell W ⟨w.heap.size + 1 + 1 + 1, 0, none⟩ (.string ⟨#[]⟩)).trans (KeepsOthers.setCell _ ⟨w.heap.size + 1 + 1 + 1 + 1, 0, none⟩ (.bool false))).trans (KeepsOthers.setCell _ ⟨w.heap.size + 1 + 1 + 1 + 1 + 1, 0, none⟩ (.int .i64 0))).same D _ hK rfl
                  have hdw : w.heap.size ≤ D := Nat.le_trans hb0SH.out.size hD
                  clear hll
                  have hI1H := Lib.hid hI1
                  clear hI1
                  have hB1H := Lib.hid hB1
                  clear hB1
                  have hb0WH := Lib.hid hb0W
                  clear hb0W
                  have hb3H := Lib.hid hb3
                  clear hb3
                  have hKH := Lib.hid hK
                  clear hK
                  have hK'H := Lib.hid hK'
                  clear hK'
                  have d3H := Lib.hid d3
                  clear d3
                  have d4H := Lib.hid d4
                  clear d4
                  have d5H := Lib.hid d5
                  clear d5
                  gi_wp2
                  refine ⟨by simp, .inl ⟨_, _, rfl, run_takeDeferred hK'H.out, ?_⟩⟩
                  have k3 := cell_kept d3H.out (grownBy_putObj' _ D (.deferred none)) (fun r e => by cases e; exact ⟨_, hK'H.out, rfl⟩)
                  have k4 := cell_kept d4H.out (grownBy_putObj' _ D (.deferred none)) (fun r e => by cases e; exact ⟨_, hK'H.out, rfl⟩)
                  have k5 := cell_kept d5H.out (grownBy_putObj' _ D (.deferred none)) (fun r e => by cases e; exact ⟨_, hK'H.out, rfl⟩)
                  exact ⟨.tuple #[.string ⟨#[]⟩, .bool false, .int .i64 0], by simp [results, Tryz.f22, go_sem, k3, k4, k5], rfl, hb3H.out.trans (belowK_b (w := w) (Nat.le_refl _) _ D _ _ hdw hK'H.out rfl rfl)⟩
                case stop =>
                  rintro D cd pre W hD ⟨k', hk', rfl⟩ ⟨⟨rfl, q, i, hq, hqf, hif, d3, d4, d5⟩, hB⟩ hK
                  have hF := hFH.out
                  have hll := hllH.out
                  rw [← hll, last_down hk' hq hqf hif] at hF
                  have hri : resOf l (i.val : Nat) = l[i].result := resOf_get (List.getElem?_eq_getElem i.isLt)
                  obtain ⟨rfl, rfl, rfl⟩ := hF
                  rw [← hri] at d3
                  have hdw : w.heap.size ≤ D := Nat.le_trans hb0SH.out.size hD
                  clear hll
                  have hBH := Lib.hid hB
                  clear hB
                  have hKH := Lib.hid hK
                  clear hK
                  have hqH := Lib.hid hq
                  clear hq
                  have hqfH := Lib.hid hqf
                  clear hqf
                  have hifH := Lib.hid hif
                  clear hif
                  have d3H := Lib.hid d3
                  clear d3
                  have d4H := Lib.hid d4
                  clear d4
                  have d5H := Lib.hid d5
                  clear d5
                  have hriH := Lib.hid hri
                  clear hri
                  gi_wp2
                  refine ⟨by simp, .inl ⟨_, _, rfl, run_takeDeferred hKH.out, ?_⟩⟩
                  have k3 := cell_kept d3H.out (grownBy_putObj' _ D (.deferred none)) (fun r e => by cases e; exact ⟨_, hKH.out, rfl⟩)
                  have k4 := cell_kept d4H.out (grownBy_putObj' _ D (.deferred none)) (fun r e => by cases e; exact ⟨_, hKH.out, rfl⟩)
                  have k5 := cell_kept d5H.out (grownBy_putObj' _ D (.deferred none)) (fun r e => by cases e; exact ⟨_, hKH.out, rfl⟩)
                  exact ⟨.tuple #[.string (resOf l (i.val : Nat)), .bool true, .int .i64 0], by simp [results, Tryz.f22, go_sem, k3, k4, k5], rfl, hBH.out.trans (belowK_b (w := w) (Nat.le_refl _) _ D _ _ hdw hKH.out rfl rfl)⟩
    · simp only [g2, if_false, Prod.mk.injEq] at hF
      have e5 : (e2 != 0) = true := by simpa using g2
      obtain ⟨rfl, rfl, rfl⟩ := hF
      have hb3 := tr_three z2.c3 z2.c4 z2.c5 (.string ⟨#[]⟩) (.bool false) (.int .i64 e2) hb02 (Nat.le_refl _)
      obtain ⟨d3, d4, d5, hb3⟩ := hb3
      obtain ⟨c0, c1, c2, c3, c4, c5, f3, f4, f5, lt⟩ := z2
      have hb3H := Lib.hid hb3
      clear hb3
      gi_wp2
      exact ⟨.tuple #[.string ⟨#[]⟩, .bool false, .int .i64 e2], by simp [results, Tryz.f22, go_sem, d3, d4, d5], rfl, hb3H.out⟩
  · simp only [g1, if_false, Prod.mk.injEq] at hF
    have e5 : (e1 != 0) = true := by simpa using g1
    obtain ⟨rfl, rfl, rfl⟩ := hF
    have hb3 := tr_three z1.c3 z1.c4 z1.c5 (.string ⟨#[]⟩) (.bool false) (.int .i64 e1) hb01 (Nat.le_refl _)
    obtain ⟨d3, d4, d5, hb3⟩ := hb3
    obtain ⟨c0, c1, c2, c3, c4, c5, f3, f4, f5, lt⟩ := z1
    have hb3H := Lib.hid hb3
    clear hb3
    gi_wp2
    exact ⟨.tuple #[.string ⟨#[]⟩, .bool false, .int .i64 e1], by simp [results, Tryz.f22, go_sem, d3, d4, d5], rfl, hb3H.out⟩
end Go.Proofs.YtaeeicnbnohghaaGreatDoor.C11

namespace Go.Proofs.YtaeeicnbnohghaaGreatDoor.C11
open Go.RowKit
set_option linter.unusedVariables false

theorem cont_intG (A : Option Addr) (n c : Nat) (l : List Int) (x : Int) (w : World) (hn : n ≤ 9223372036854775807) (hl : SlAt RInt w A n l) (v : Bool) (hv : l.contains x = v) :
    Calls Tryz.prog 24 #[.slice A n c, .int .i64 x] w fun e w' => e = .returned (.bool v) ∧ w = w' := by
  by_cases h0 : n = 0
  · subst h0
    obtain rfl : l = [] := List.eq_nil_of_length_eq_zero hl.1
    refine (Tryz.slices_Contains_int_empty A c x w).mono ?_
    rintro e w' ⟨rfl, rfl⟩
    subst hv
    exact ⟨rfl, rfl⟩
  · obtain ⟨b, off, rfl, hc⟩ := hl.2.1 (by omega)
    have hll := hl.1
    refine (Tryz.slices_Contains_int b off n c l x w (by omega) hn (fun j hj => ?_)).mono ?_
    · have := hc j l[j] (List.getElem?_eq_getElem hj) 0 (.int .i64 l[j]) rfl
      rw [List.getD_eq_getElem?_getD, List.getElem?_eq_getElem hj]
      simpa [RInt] using this
    · rintro e w' ⟨rfl, rfl⟩
      rw [List.take_of_length_le (by omega), hv]
      exact ⟨rfl, rfl⟩
theorem trR_empty {wl : List Writer} {l : List Claimed} {m : List Audit} {key : ByteArray} {at_ : Int} {s : ByteArray} {r : Bool} {F : Int} (h : trR wl l m key at_ = (s, r, F)) (hn : F ≠ 0 ∨ r = false) : s = ⟨#[]⟩ := by
  unfold trR at h
  by_cases h0 : trF wl l m key at_ = 0
  · rw [if_pos h0, Prod.mk.injEq, Prod.mk.injEq] at h
    obtain ⟨h1, h2, h3⟩ := h
    rcases hn with hn | hn
    · exact absurd h3.symm hn
    · subst hn
      cases hp : lastF (okJ wl l m key at_) l.length with
      | none => rw [hp] at h1; exact h1.symm
      | some j => rw [hp] at h2; cases h2
  · rw [if_neg h0, Prod.mk.injEq] at h
    exact h.1.symm
theorem trR_good {wl : List Writer} {l : List Claimed} {m : List Audit} {key : ByteArray} {at_ : Int} {s : ByteArray} (h : trR wl l m key at_ = (s, true, 0)) :
    trF wl l m key at_ = 0 ∧ ∃ (j : Nat) (x : Claimed), l[j]? = some x ∧ x.key = key ∧ x.result = s ∧ x.at_ ≤ at_ ∧ tntB l (m.take (manyN m at_)) j = false ∧ genF wl x = 1 := by
  unfold trR at h
  by_cases h0 : trF wl l m key at_ = 0
  · rw [if_pos h0, Prod.mk.injEq, Prod.mk.injEq] at h
    obtain ⟨h1, h2, _⟩ := h
    cases hp : lastF (okJ wl l m key at_) l.length with
    | none => rw [hp] at h2; cases h2
    | some j =>
      rw [hp] at h1
      obtain ⟨g1, g2⟩ := lastF_some hp
      have hx : l[j]? = some l[j] := List.getElem?_eq_getElem g1
      rw [okJ_get hx] at g2
      simp only [Bool.and_eq_true, decide_eq_true_iff, Bool.not_eq_true'] at g2
      refine ⟨h0, j, l[j], hx, g2.1, ?_, g2.2.1, g2.2.2.1, g2.2.2.2⟩
      rw [← h1]
      exact (resOf_get hx).symm
  · rw [if_neg h0, Prod.mk.injEq, Prod.mk.injEq] at h
    exact absurd h.2.2 h0
theorem numsN_cont {f : Nat → Bool} {k n : Nat} (hk : k < n) : (numsN f n).contains (k : Int) = f k := by
  cases hf : f k
  · cases hc : (numsN f n).contains (k : Int)
    · rfl
    · obtain ⟨i, _, h2, h3⟩ := numsN_mem.1 (List.contains_iff_mem.1 hc)
      obtain rfl : k = i := by omega
      rw [hf] at h2; cases h2
  · exact List.contains_iff_mem.2 (numsN_mem.2 ⟨k, hk, hf, rfl⟩)
def Gd1 (m : List Audit) (at_ : Int) (w0 : World) (i : Value) (wr : World) : Prop := ∃ k : Nat, k ≤ manyN m at_ ∧ i = .int .i64 k ∧ Below w0.heap.size w0 wr
def Gd2 (j : Nat) (w0 : World) (i : Value) (wr : World) : Prop := ∃ k : Nat, k ≤ j ∧ i = .int .i64 k ∧ Below w0.heap.size w0 wr


set_option maxRecDepth 100000 in
set_option maxHeartbeats 8000000 in
theorem law_good (wl : SlD Writer) (l : SlD Claimed) (m : SlD Audit) (key : ByteArray) (at_ : Int) (w : World) (hwl : (RSl RWriter).ok w wl) (hl : (RSl RClaimed).ok w l) (hma : (RSl RAudit).ok w m) (hk : RStr.ok w key) (hat : RInt.ok w at_) (hm : MaxLenAt w) (ht : PowTab w) :
    Calls Tryz.prog 6 #[.slice wl.A wl.n wl.cap, .slice l.A l.n l.cap, .slice m.A m.n m.cap, .string key, .int .i64 at_] w fun e w' => e = .returned (.bool true) ∧ Below w.heap.size w w' := by
  clear hat
  obtain ⟨WA, wn, wc, wl⟩ := wl
  obtain ⟨A, n, c, l⟩ := l
  obtain ⟨B, mn, mc, m⟩ := m
  obtain ⟨hwl, hd1, hd2, hd3⟩ := hwl
  clear hd1 hd2 hd3
  obtain ⟨hl, hd1, hd2, hd3⟩ := hl
  clear hd1 hd2 hd3
  obtain ⟨hma, hmc, hd2, hd3⟩ := hma
  clear hd2 hd3
  simp only at hwl hl hma hmc ⊢
  obtain ⟨r0, hF⟩ : ∃ r0, trR wl l m key at_ = r0 := ⟨_, rfl⟩
  obtain ⟨s, r, F⟩ := r0
  have hwlH := Lib.hid hwl
  clear hwl
  have hlH := Lib.hid hl
  clear hl
  have hmaH := Lib.hid hma
  clear hma
  have hmH := Lib.hid hm
  clear hm
  have htH := Lib.hid ht
  clear ht
  have hFH := Lib.hid hF
  clear hF
  go_enter Tryz.func6, Tryz.ntmps6
  go_wp2_with fail
  refine (Trusted_any WA wn wc wl A n c l B mn mc m key at_ _ hmH.out htH.out hwlH.out hlH.out hmaH.out hmc s r F hFH.out).mono ?_
  rintro e w1 ⟨rfl, hb1⟩
  by_cases f0 : F = 0
  · subst f0
    cases r
    · obtain rfl := trR_empty hFH.out (.inr rfl)
      have he : ((⟨#[]⟩ : ByteArray).toList == []) = true := by decide +kernel
      have hb1H := Lib.hid hb1
      clear hb1
      go_wp2_with fail
      refine (awake_any _ (hmH.out.below hb1H.out)).mono ?_
      rintro e w2 ⟨rfl, hw2⟩
      have hb2 := hb1H.out.trans (hw2.mono hb1H.out.size)
      clear hw2
      have hb2H := Lib.hid hb2
      clear hb2
      go_wp2
      go_ret
      exact ⟨rfl, hb2H.out⟩
    · obtain ⟨hz, j, xj, hxj, hg1, hg2, hg3, hg4, hg5⟩ := trR_good hFH.out
      obtain ⟨hwr, haud, _, _⟩ := trF_parts hz
      have hcl := logF_each3 haud
      obtain ⟨t1, t2, t3⟩ := audits_range haud
      have hll := hlH.out.1
      have hml := hmaH.out.1
      have hn : n ≤ 1000 := by omega
      have hmn : mn ≤ 1000 := by omega
      have hjn : j < n := by have := (List.getElem?_eq_some_iff.1 hxj).1; omega
      have hMle := manyN_le m at_
      obtain ⟨k0, hk0⟩ : ∃ k0, manyN m at_ = k0 := ⟨_, rfl⟩
      have hgood : l[j]? = some xj ∧ xj.key = key ∧ xj.result = s ∧ xj.at_ ≤ at_ ∧ tntB l (m.take k0) j = false ∧ genF wl xj = 1 := ⟨hxj, hg1, hg2, hg3, by rw [← hk0]; exact hg4, hg5⟩
      have hma1 := hmaH.out.below hb1
      clear hz t1 t2 t3 hxj hg1 hg2 hg3 hg4 hg5
      have hb1H := Lib.hid hb1
      clear hb1
      have hwrH := Lib.hid hwr
      clear hwr
      have haudH := Lib.hid haud
      clear haud
      have hclH := Lib.hid hcl
      clear hcl
      have hllH := Lib.hid hll
      clear hll
      have hmlH := Lib.hid hml
      clear hml
      have hgoodH := Lib.hid hgood
      clear hgood
      have hma1H := Lib.hid hma1
      clear hma1
      go_wp2_with fail
      go_loopw [14] (fun i wr => Gd1 m at_ w1 i wr) (fun i _ => mn - (intOf i).toNat)
      case atStart => exact ⟨0, Nat.zero_le _, rfl, Below.refl _ _⟩
      case round =>
        obtain ⟨k, hk, rfl, hbk⟩ := hrel
        have hkm : k ≤ mn := by have := hmlH.out; omega
        by_cases hlt : k < manyN m at_
        · obtain ⟨a, ha, hle⟩ := manyN_lt hlt
          have hkmn : k < mn := by have := (List.getElem?_eq_some_iff.1 ha).1; have := hmlH.out; omega
          obtain ⟨b, off, hA, _⟩ := hma1H.out.2.1 (by omega)
          subst hA
          obtain ⟨c0, c1, c2⟩ := cells_Audit (hma1H.out.below hbk) ha
          have R : Gd1 m at_ w1 (.int .i64 (k + 1)) wr := ⟨k + 1, hlt, by go_num, hbk⟩
          have hk2 : (k : Int) < (mn : Int) := by omega
          have haH := Lib.hid ha
          clear ha
          have RH := Lib.hid R
          clear R
          have hbkH := Lib.hid hbk
          clear hbk
          go_wp2
          refine ⟨?rel, ?measure⟩
          case measure => (simp [intOf]; omega)
          case rel => first | exact RH.out | exact ⟨rfl, RH.out⟩ | ((try refine ⟨rfl, ?_⟩); (repeat apply Exists.intro); refine ⟨RH.out, ?_⟩; ((repeat' apply And.intro) <;> rfl))
        · have hkk : manyN m at_ = k := by omega
          obtain rfl : k0 = k := hk0.symm.trans hkk
          have s0 : (0 : Int) ≤ k0 := by omega
          have s1 : (k0 : Int) ≤ mc := by omega
          obtain ⟨wk, rfl⟩ : ∃ W, W = wr := ⟨_, rfl⟩
          by_cases hkmn : k0 < mn
          · obtain ⟨b, off, hA, _⟩ := hma1H.out.2.1 (by omega)
            subst hA
            obtain ⟨a, ha⟩ : ∃ a, m[k0]? = some a := ⟨m[k0]'(by have := hmlH.out; omega), List.getElem?_eq_getElem _⟩
            obtain ⟨c0, c1, c2⟩ := cells_Audit (hma1H.out.below hbk) ha
            have hgt : ¬ a.at_ ≤ at_ := manyN_end (by rw [hkk]; exact ha)
            have hk2 : (k0 : Int) < (mn : Int) := by omega
            obtain ⟨k, rfl⟩ : ∃ k, k = k0 := ⟨_, rfl⟩
            have haH := Lib.hid ha
            clear ha
            have hkkH := Lib.hid hkk
            clear hkk
            have hk0H := Lib.hid hk0
            clear hk0
            have hb02 := hb1H.out.trans (hbk.mono hb1H.out.size)
            have hb02H := Lib.hid hb02
            clear hb02
            go_wp2_with fail
            refine (Tainted_any A n c l _ k mc (m.take k) _ (hmH.out.below hb02H.out) (hlH.out.below hb02H.out) (slAt_takeT (hmaH.out.below hb02H.out) k hkm) (numsN (tntB l (m.take k)) l.length) 0 (by unfold taintR; rw [if_pos (audits_take haudH.out k)])).mono ?_
            rintro e w3 ⟨A3, n3, c3, rfl, hs3, hn3, hb3⟩
            have hb03 := hb02H.out.trans (hb3.mono hb02H.out.size)
            clear hb3 hb02H
            have hs3H := Lib.hid hs3
            clear hs3
            have hb03H := Lib.hid hb03
            clear hb03
            go_wp2_with fail
            refine (awake_any _ (hmH.out.below hb03H.out)).mono ?_
            rintro e w4 ⟨rfl, hw4⟩
            have hb04 := hb03H.out.trans (hw4.mono hb03H.out.size)
            have hs4 := hs3H.out.below hw4
            have hl4 := hlH.out.below hb04
            clear hw4 hb03H hs3H
            have hb04H := Lib.hid hb04
            clear hb04
            have hs4H := Lib.hid hs4
            clear hs4
            have hl4H := Lib.hid hl4
            clear hl4
            go_wp2_with fail
            go_loopw [16, 18, 19, 72] (fun _ _ _ i wr => Gd2 j w4 i wr) (fun _ _ _ i _ => n - (intOf i).toNat)
            case atStart => exact ⟨0, Nat.zero_le _, rfl, Below.refl _ _⟩
            case round =>
              obtain ⟨i, hi, rfl, hb⟩ := hrel
              have hin : i < n := by omega
              have hb0 := hb04H.out.trans (hb.mono hb04H.out.size)
              obtain ⟨b, off, hA, _⟩ := hl4H.out.2.1 (by omega)
              subst hA
              obtain ⟨x, hx⟩ : ∃ x, l[i]? = some x := ⟨l[i]'(by have := hllH.out; omega), List.getElem?_eq_getElem _⟩
              obtain ⟨d0, d1, d2, d3, d4, d5, d6⟩ := cells_Claimed (hl4H.out.below hb) hx
              have hba := hb.alloc hb.size (.cells #[.string x.key, .string x.label, .string x.result, .string x.writer, .int .i64 x.at_, .slice x.uses.A x.uses.n x.uses.cap, .string x.sign] 25)
              have hb0a := hb0.alloc hb0.size (.cells #[.string x.key, .string x.label, .string x.result, .string x.writer, .int .i64 x.at_, .slice x.uses.A x.uses.n x.uses.cap, .string x.sign] 25)
              have zc := Cl7.new wr x
              have hxm := List.mem_of_getElem? hx
              have hbo : bothF wl x = 0 := bothF_of hwrH.out (hclH.out x hxm)
              have hok2 := RClaimed.mono _ _ _ hb0a (hlH.out.2.2 x hxm)
              obtain ⟨v, hv⟩ : ∃ v, genF wl x = v := ⟨_, rfl⟩
              have hgv : genV wl x = v := by unfold genV; rw [if_pos hbo, hv]
              have hsl := hs4H.out.below hba
              have hct : (numsN (tntB l (m.take k)) l.length).contains (i : Int) = tntB l (m.take k) i := numsN_cont (by have := hllH.out; omega)
              obtain ⟨tb, htb⟩ : ∃ v, tntB l (m.take k) i = v := ⟨_, rfl⟩
              rw [htb] at hct
              have hgo : (x.key = key ∧ x.result = s ∧ x.at_ ≤ at_ ∧ tb = false ∧ v = 1 → False) → ∀ W : World, Below w4.heap.size w4 W → Gd2 j w4 (.int .i64 (i + 1)) W := fun h W hW => by
                refine ⟨i + 1, ?_, by go_num, hW⟩
                rcases Nat.eq_or_lt_of_le hi with e | e
                · subst e
                  obtain ⟨g1, g2, g3, g4, g5, g6⟩ := hgoodH.out
                  rw [hx] at g1
                  injection g1 with g1
                  subst g1
                  exact (h ⟨g2, g3, g4, by rw [← htb]; exact g5, by rw [← hv]; exact g6⟩).elim
                · exact e
              clear hxm
              have hxH := Lib.hid hx
              clear hx
              have hbH := Lib.hid hb
              clear hb
              have hb0H := Lib.hid hb0
              clear hb0
              have hbaH := Lib.hid hba
              clear hba
              have hb0aH := Lib.hid hb0a
              clear hb0a
              have zcH := Lib.hid zc
              clear zc
              have hboH := Lib.hid hbo
              clear hbo
              have hok2H := Lib.hid hok2
              clear hok2
              have hvH := Lib.hid hv
              clear hv
              have hgvH := Lib.hid hgv
              clear hgv
              have hslH := Lib.hid hsl
              clear hsl
              have hctH := Lib.hid hct
              clear hct
              have htbH := Lib.hid htb
              clear htb
              have hgoH := Lib.hid hgo
              clear hgo
              go_wp2_with fail
              refine (Genuine_any WA wn wc wl x _ (hmH.out.below hb0aH.out) (htH.out.below hb0aH.out) (hwlH.out.below hb0aH.out) hok2H.out 0 hboH.out v hgvH.out).mono ?_
              rintro e w7 ⟨rfl, hw7⟩
              have hb7 := hbaH.out.trans (hw7.mono hbaH.out.size)
              have hb07 := hb0aH.out.trans (hw7.mono hb0aH.out.size)
              obtain ⟨q0, q1, q2, q3, q4, q5, q6⟩ := zcH.out.below hw7
              have hsl7 := hslH.out.below hw7
              clear hw7 zcH hslH
              by_cases hv1 : v = 1
              · subst hv1
                by_cases hkey : x.key = key
                · have hq : (x.key.toList == key.toList) = true := by rw [beq_data, decide_eq_true hkey]
                  by_cases hres : x.result = s
                  · have hq2 : (x.result.toList == s.toList) = true := by rw [beq_data, decide_eq_true hres]
                    by_cases hat : x.at_ ≤ at_
                    · have hb7H := Lib.hid hb7
                      clear hb7
                      have hb07H := Lib.hid hb07
                      clear hb07
                      have hsl7H := Lib.hid hsl7
                      clear hsl7
                      have hkeyH := Lib.hid hkey
                      clear hkey
                      have hresH := Lib.hid hres
                      clear hres
                      go_wp2_with fail
                      refine (cont_intG A3 n3 c3 _ (i : Int) _ (by omega) hsl7H.out tb hctH.out).mono ?_
                      rintro e w8 ⟨rfl, rfl⟩
                      cases tb
                      · go_wp2
                        go_ret
                        exact ⟨rfl, hb07H.out⟩
                      · have R := hgoH.out (fun h => by cases h.2.2.2.1) _ hb7H.out
                        have RH := Lib.hid R
                        clear R
                        go_wp2
                        refine ⟨?rel, ?measure⟩
                        case measure => (simp [intOf]; omega)
                        case rel => first | exact RH.out | exact ⟨rfl, RH.out⟩ | ((try refine ⟨rfl, ?_⟩); (repeat apply Exists.intro); refine ⟨RH.out, ?_⟩; ((repeat' apply And.intro) <;> rfl))
                    · have R := hgoH.out (fun h => hat h.2.2.1) _ hb7
                      have hat2 : at_ < x.at_ := by omega
                      clear hb7 hsl7
                      have hb07H := Lib.hid hb07
                      clear hb07
                      have hkeyH := Lib.hid hkey
                      clear hkey
                      have hresH := Lib.hid hres
                      clear hres
                      have RH := Lib.hid R
                      clear R
                      go_wp2
                      refine ⟨?rel, ?measure⟩
                      case measure => (simp [intOf]; omega)
                      case rel => first | exact RH.out | exact ⟨rfl, RH.out⟩ | ((try refine ⟨rfl, ?_⟩); (repeat apply Exists.intro); refine ⟨RH.out, ?_⟩; ((repeat' apply And.intro) <;> rfl))
                  · have hq2 : (x.result.toList == s.toList) = false := by rw [beq_data, decide_eq_false hres]
                    have R := hgoH.out (fun h => hres h.2.1) _ hb7
                    clear hb7 hsl7
                    have hb07H := Lib.hid hb07
                    clear hb07
                    have hkeyH := Lib.hid hkey
                    clear hkey
                    have hresH := Lib.hid hres
                    clear hres
                    have RH := Lib.hid R
                    clear R
                    go_wp2
                    refine ⟨?rel, ?measure⟩
                    case measure => (simp [intOf]; omega)
                    case rel => first | exact RH.out | exact ⟨rfl, RH.out⟩ | ((try refine ⟨rfl, ?_⟩); (repeat apply Exists.intro); refine ⟨RH.out, ?_⟩; ((repeat' apply And.intro) <;> rfl))
                · have hq : (x.key.toList == key.toList) = false := by rw [beq_data, decide_eq_false hkey]
                  have R := hgoH.out (fun h => hkey h.1) _ hb7
                  clear hb7 hsl7
                  have hb07H := Lib.hid hb07
                  clear hb07
                  have hkeyH := Lib.hid hkey
                  clear hkey
                  have RH := Lib.hid R
                  clear R
                  go_wp2
                  refine ⟨?rel, ?measure⟩
                  case measure => (simp [intOf]; omega)
                  case rel => first | exact RH.out | exact ⟨rfl, RH.out⟩ | ((try refine ⟨rfl, ?_⟩); (repeat apply Exists.intro); refine ⟨RH.out, ?_⟩; ((repeat' apply And.intro) <;> rfl))
              · have e5 : (v == 1) = false := by simpa using hv1
                have R := hgoH.out (fun h => hv1 h.2.2.2.2) _ hb7
                clear hb7 hsl7 hv1
                have hb07H := Lib.hid hb07
                clear hb07
                have RH := Lib.hid R
                clear R
                go_wp2
                refine ⟨?rel, ?measure⟩
                case measure => (simp [intOf]; omega)
                case rel => first | exact RH.out | exact ⟨rfl, RH.out⟩ | ((try refine ⟨rfl, ?_⟩); (repeat apply Exists.intro); refine ⟨RH.out, ?_⟩; ((repeat' apply And.intro) <;> rfl))
          · obtain rfl : k0 = mn := by omega
            obtain ⟨k, rfl⟩ : ∃ k, k = k0 := ⟨_, rfl⟩
            have hkkH := Lib.hid hkk
            clear hkk
            have hk0H := Lib.hid hk0
            clear hk0
            have hb02 := hb1H.out.trans (hbk.mono hb1H.out.size)
            have hb02H := Lib.hid hb02
            clear hb02
            go_wp2_with fail
            refine (Tainted_any A n c l _ k mc (m.take k) _ (hmH.out.below hb02H.out) (hlH.out.below hb02H.out) (slAt_takeT (hmaH.out.below hb02H.out) k hkm) (numsN (tntB l (m.take k)) l.length) 0 (by unfold taintR; rw [if_pos (audits_take haudH.out k)])).mono ?_
            rintro e w3 ⟨A3, n3, c3, rfl, hs3, hn3, hb3⟩
            have hb03 := hb02H.out.trans (hb3.mono hb02H.out.size)
            clear hb3 hb02H
            have hs3H := Lib.hid hs3
            clear hs3
            have hb03H := Lib.hid hb03
            clear hb03
            go_wp2_with fail
            refine (awake_any _ (hmH.out.below hb03H.out)).mono ?_
            rintro e w4 ⟨rfl, hw4⟩
            have hb04 := hb03H.out.trans (hw4.mono hb03H.out.size)
            have hs4 := hs3H.out.below hw4
            have hl4 := hlH.out.below hb04
            clear hw4 hb03H hs3H
            have hb04H := Lib.hid hb04
            clear hb04
            have hs4H := Lib.hid hs4
            clear hs4
            have hl4H := Lib.hid hl4
            clear hl4
            go_wp2_with fail
            go_loopw [16, 18, 19, 72] (fun _ _ _ i wr => Gd2 j w4 i wr) (fun _ _ _ i _ => n - (intOf i).toNat)
            case atStart => exact ⟨0, Nat.zero_le _, rfl, Below.refl _ _⟩
            case round =>
              obtain ⟨i, hi, rfl, hb⟩ := hrel
              have hin : i < n := by omega
              have hb0 := hb04H.out.trans (hb.mono hb04H.out.size)
              obtain ⟨b, off, hA, _⟩ := hl4H.out.2.1 (by omega)
              subst hA
              obtain ⟨x, hx⟩ : ∃ x, l[i]? = some x := ⟨l[i]'(by have := hllH.out; omega), List.getElem?_eq_getElem _⟩
              obtain ⟨d0, d1, d2, d3, d4, d5, d6⟩ := cells_Claimed (hl4H.out.below hb) hx
              have hba := hb.alloc hb.size (.cells #[.string x.key, .string x.label, .string x.result, .string x.writer, .int .i64 x.at_, .slice x.uses.A x.uses.n x.uses.cap, .string x.sign] 25)
              have hb0a := hb0.alloc hb0.size (.cells #[.string x.key, .string x.label, .string x.result, .string x.writer, .int .i64 x.at_, .slice x.uses.A x.uses.n x.uses.cap, .string x.sign] 25)
              have zc := Cl7.new wr x
              have hxm := List.mem_of_getElem? hx
              have hbo : bothF wl x = 0 := bothF_of hwrH.out (hclH.out x hxm)
              have hok2 := RClaimed.mono _ _ _ hb0a (hlH.out.2.2 x hxm)
              obtain ⟨v, hv⟩ : ∃ v, genF wl x = v := ⟨_, rfl⟩
              have hgv : genV wl x = v := by unfold genV; rw [if_pos hbo, hv]
              have hsl := hs4H.out.below hba
              have hct : (numsN (tntB l (m.take k)) l.length).contains (i : Int) = tntB l (m.take k) i := numsN_cont (by have := hllH.out; omega)
              obtain ⟨tb, htb⟩ : ∃ v, tntB l (m.take k) i = v := ⟨_, rfl⟩
              rw [htb] at hct
              have hgo : (x.key = key ∧ x.result = s ∧ x.at_ ≤ at_ ∧ tb = false ∧ v = 1 → False) → ∀ W : World, Below w4.heap.size w4 W → Gd2 j w4 (.int .i64 (i + 1)) W := fun h W hW => by
                refine ⟨i + 1, ?_, by go_num, hW⟩
                rcases Nat.eq_or_lt_of_le hi with e | e
                · subst e
                  obtain ⟨g1, g2, g3, g4, g5, g6⟩ := hgoodH.out
                  rw [hx] at g1
                  injection g1 with g1
                  subst g1
                  exact (h ⟨g2, g3, g4, by rw [← htb]; exact g5, by rw [← hv]; exact g6⟩).elim
                · exact e
              clear hxm
              have hxH := Lib.hid hx
              clear hx
              have hbH := Lib.hid hb
              clear hb
              have hb0H := Lib.hid hb0
              clear hb0
              have hbaH := Lib.hid hba
              clear hba
              have hb0aH := Lib.hid hb0a
              clear hb0a
              have zcH := Lib.hid zc
              clear zc
              have hboH := Lib.hid hbo
              clear hbo
              have hok2H := Lib.hid hok2
              clear hok2
              have hvH := Lib.hid hv
              clear hv
              have hgvH := Lib.hid hgv
              clear hgv
              have hslH := Lib.hid hsl
              clear hsl
              have hctH := Lib.hid hct
              clear hct
              have htbH := Lib.hid htb
              clear htb
              have hgoH := Lib.hid hgo
              clear hgo
              go_wp2_with fail
              refine (Genuine_any WA wn wc wl x _ (hmH.out.below hb0aH.out) (htH.out.below hb0aH.out) (hwlH.out.below hb0aH.out) hok2H.out 0 hboH.out v hgvH.out).mono ?_
              rintro e w7 ⟨rfl, hw7⟩
              have hb7 := hbaH.out.trans (hw7.mono hbaH.out.size)
              have hb07 := hb0aH.out.trans (hw7.mono hb0aH.out.size)
              obtain ⟨q0, q1, q2, q3, q4, q5, q6⟩ := zcH.out.below hw7
              have hsl7 := hslH.out.below hw7
              clear hw7 zcH hslH
              by_cases hv1 : v = 1
              · subst hv1
                by_cases hkey : x.key = key
                · have hq : (x.key.toList == key.toList) = true := by rw [beq_data, decide_eq_true hkey]
                  by_cases hres : x.result = s
                  · have hq2 : (x.result.toList == s.toList) = true := by rw [beq_data, decide_eq_true hres]
                    by_cases hat : x.at_ ≤ at_
                    · have hb7H := Lib.hid hb7
                      clear hb7
                      have hb07H := Lib.hid hb07
                      clear hb07
                      have hsl7H := Lib.hid hsl7
                      clear hsl7
                      have hkeyH := Lib.hid hkey
                      clear hkey
                      have hresH := Lib.hid hres
                      clear hres
                      go_wp2_with fail
                      refine (cont_intG A3 n3 c3 _ (i : Int) _ (by omega) hsl7H.out tb hctH.out).mono ?_
                      rintro e w8 ⟨rfl, rfl⟩
                      cases tb
                      · go_wp2
                        go_ret
                        exact ⟨rfl, hb07H.out⟩
                      · have R := hgoH.out (fun h => by cases h.2.2.2.1) _ hb7H.out
                        have RH := Lib.hid R
                        clear R
                        go_wp2
                        refine ⟨?rel, ?measure⟩
                        case measure => (simp [intOf]; omega)
                        case rel => first | exact RH.out | exact ⟨rfl, RH.out⟩ | ((try refine ⟨rfl, ?_⟩); (repeat apply Exists.intro); refine ⟨RH.out, ?_⟩; ((repeat' apply And.intro) <;> rfl))
                    · have R := hgoH.out (fun h => hat h.2.2.1) _ hb7
                      have hat2 : at_ < x.at_ := by omega
                      clear hb7 hsl7
                      have hb07H := Lib.hid hb07
                      clear hb07
                      have hkeyH := Lib.hid hkey
                      clear hkey
                      have hresH := Lib.hid hres
                      clear hres
                      have RH := Lib.hid R
                      clear R
                      go_wp2
                      refine ⟨?rel, ?measure⟩
                      case measure => (simp [intOf]; omega)
                      case rel => first | exact RH.out | exact ⟨rfl, RH.out⟩ | ((try refine ⟨rfl, ?_⟩); (repeat apply Exists.intro); refine ⟨RH.out, ?_⟩; ((repeat' apply And.intro) <;> rfl))
                  · have hq2 : (x.result.toList == s.toList) = false := by rw [beq_data, decide_eq_false hres]
                    have R := hgoH.out (fun h => hres h.2.1) _ hb7
                    clear hb7 hsl7
                    have hb07H := Lib.hid hb07
                    clear hb07
                    have hkeyH := Lib.hid hkey
                    clear hkey
                    have hresH := Lib.hid hres
                    clear hres
                    have RH := Lib.hid R
                    clear R
                    go_wp2
                    refine ⟨?rel, ?measure⟩
                    case measure => (simp [intOf]; omega)
                    case rel => first | exact RH.out | exact ⟨rfl, RH.out⟩ | ((try refine ⟨rfl, ?_⟩); (repeat apply Exists.intro); refine ⟨RH.out, ?_⟩; ((repeat' apply And.intro) <;> rfl))
                · have hq : (x.key.toList == key.toList) = false := by rw [beq_data, decide_eq_false hkey]
                  have R := hgoH.out (fun h => hkey h.1) _ hb7
                  clear hb7 hsl7
                  have hb07H := Lib.hid hb07
                  clear hb07
                  have hkeyH := Lib.hid hkey
                  clear hkey
                  have RH := Lib.hid R
                  clear R
                  go_wp2
                  refine ⟨?rel, ?measure⟩
                  case measure => (simp [intOf]; omega)
                  case rel => first | exact RH.out | exact ⟨rfl, RH.out⟩ | ((try refine ⟨rfl, ?_⟩); (repeat apply Exists.intro); refine ⟨RH.out, ?_⟩; ((repeat' apply And.intro) <;> rfl))
              · have e5 : (v == 1) = false := by simpa using hv1
                have R := hgoH.out (fun h => hv1 h.2.2.2.2) _ hb7
                clear hb7 hsl7 hv1
                have hb07H := Lib.hid hb07
                clear hb07
                have RH := Lib.hid R
                clear R
                go_wp2
                refine ⟨?rel, ?measure⟩
                case measure => (simp [intOf]; omega)
                case rel => first | exact RH.out | exact ⟨rfl, RH.out⟩ | ((try refine ⟨rfl, ?_⟩); (repeat apply Exists.intro); refine ⟨RH.out, ?_⟩; ((repeat' apply And.intro) <;> rfl))
  · obtain rfl := trR_empty hFH.out (.inl f0)
    have he : ((⟨#[]⟩ : ByteArray).toList == []) = true := by decide +kernel
    have e1 : (F != 0) = true := by simpa using f0
    clear f0
    have hb1H := Lib.hid hb1
    clear hb1
    go_wp2_with fail
    refine (awake_any _ (hmH.out.below hb1H.out)).mono ?_
    rintro e w2 ⟨rfl, hw2⟩
    have hb2 := hb1H.out.trans (hw2.mono hb1H.out.size)
    clear hw2
    have hb2H := Lib.hid hb2
    clear hb2
    go_wp2
    go_ret
    exact ⟨rfl, hb2H.out⟩
end Go.Proofs.YtaeeicnbnohghaaGreatDoor.C11

namespace Go.Proofs.YtaeeicnbnohghaaGreatDoor.trustTrustedIsGood
open Go.Proofs.YtaeeicnbnohghaaGreatDoor.C11
open Go.ChangeShapes Go.WideShapes Go.ChangeAt Go.RowKit
open Go.ChangeMaps (open_string shut_string)
set_option linter.unusedVariables false

theorem pow_row {W : World} (h : laidMetH Tryz.prog Rows.trustTrustedIsGoodRow.laid W) : PowTab W := pow_one (laidMetH.filter (fun x => x.1 == "internal/strconv.uint64pow10") h)
theorem own : ownKnob Tryz.prog.godebug = none := by kernel_rfl
theorem laidOut : laidOutB Tryz.prog = true := by kernel_rfl

set_option maxRecDepth 100000 in
theorem contract (H : Type) (enc : TypeId × Value → H) (W : World) (base : Nat) (args : Array Value) (ds gs : List (DataW H)) (before : List MemPlace)
    (hval0 : ∀ (j : Nat) t v, Tryz.f6.params[j]? = some t → args[j]? = some v → Value.okWide Tryz.prog W .any base t v)
    (hW : DataW.Whole enc Tryz.prog Tryz.f6.params.toList Rows.trustTrustedIsGoodSpec.vars false W args.toList ds gs before) (hmx : MaxLenAt W) (hpw : PowTab W) :
    Calls Tryz.prog 6 args W fun e W' => ∃ v, e = .returned v ∧ Rows.trustTrustedIsGoodSpec.post enc Tryz.prog Tryz.f6 false true false false W args v W' := by
  have hval := hval0
  have hW' := hW
  obtain ⟨p, q, hA0, hV, rfl, hfz, hnd⟩ := hW
  have hA : DataW.TrodAll enc Tryz.prog W 0 (fun _ => true) true Tryz.f6.params.toList args.toList ds p := hA0
  rw [Tryz.params6] at hA hval
  obtain ⟨v0, vs0, d0, ds0, p0, q0, hargs, rfl, rfl, h0, r0⟩ := trodAll_cons hA
  obtain ⟨v1, vs1, d1, ds1, p1, q1, rfl, rfl, rfl, h1, r1⟩ := trodAll_cons r0
  obtain ⟨v2, vs2, d2, ds2, p2, q2, rfl, rfl, rfl, h2, r2⟩ := trodAll_cons r1
  obtain ⟨v3, vs3, d3, ds3, p3, q3, rfl, rfl, rfl, h3, r3⟩ := trodAll_cons r2
  obtain ⟨v4, vs4, d4, ds4, p4, q4, rfl, rfl, rfl, h4, r4⟩ := trodAll_cons r3
  obtain ⟨rfl, rfl, rfl⟩ := trodAll_nil r4
  obtain rfl : args = #[v0, v1, v2, v3, v4] := by cases args; simp_all
  obtain ⟨rfl, rfl⟩ := trodVars_none hV
  have m0 := h0
  have lt0 : ∀ x ∈ p0, x.block < W.heap.size := by obtain ⟨m, hm⟩ := m0; exact DataW.trod_lt m _ _ _ hm
  obtain ⟨a0, rfl, k0, b0⟩ := param_slice Tryz.underlying22 opens_t_sl_Writer (hval 0 22 v0 rfl rfl) h0
  have m1 := h1
  have lt1 : ∀ x ∈ p1, x.block < W.heap.size := by obtain ⟨m, hm⟩ := m1; exact DataW.trod_lt m _ _ _ hm
  obtain ⟨a1, rfl, k1, b1⟩ := param_slice Tryz.underlying40 opens_t_sl_Claimed (hval 1 40 v1 rfl rfl) h1
  have m2 := h2
  have lt2 : ∀ x ∈ p2, x.block < W.heap.size := by obtain ⟨m, hm⟩ := m2; exact DataW.trod_lt m _ _ _ hm
  obtain ⟨a2, rfl, k2, b2⟩ := param_slice Tryz.underlying45 opens_t_sl_Audit (hval 2 45 v2 rfl rfl) h2
  obtain ⟨a3, rfl, rfl, rfl, w3⟩ := open_string Tryz.underlying9 (hval 3 9 v3 rfl rfl) h3
  have k3 : RStr.ok W a3 := w3
  obtain ⟨a4, rfl, rfl, rfl, w4⟩ := open_int Tryz.underlying3 (hval 4 3 v4 rfl rfl) h4
  have k4 : RInt.ok W a4 := by show I64 a4; simpa [I64, Lit.wf, IntKind.min, IntKind.max, IntKind.signed, IntKind.bits] using w4
  clear hA0 hval0
  refine (law_good a0 a1 a2 a3 a4 W k0 k1 k2 k3 k4 hmx hpw).mono fun e W' ⟨he, bel⟩ => ?_
  subst he
  exact ⟨_, rfl, _, _, _, [], _, [], hW', trodAll_mk1 (shut_bool Tryz.underlying4 _), (trodAll_cons_mk (Below.trod laidOut (by kernel_rfl) (of_decide_eq_true (by kernel_rfl)) m0 bel lt0) (trodAll_cons_mk (Below.trod laidOut (by kernel_rfl) (of_decide_eq_true (by kernel_rfl)) m1 bel lt1) (trodAll_cons_mk (Below.trod laidOut (by kernel_rfl) (of_decide_eq_true (by kernel_rfl)) m2 bel lt2) (trodAll_cons_mk (shut_string Tryz.underlying9 w3) (trodAll_cons_mk (shut_int Tryz.underlying3 w4) trodAll_mk0))))), rfl, bel.frame _, fun h => by cases h⟩

/-- the two tables, laid -/
def litsOf : DataW Unit → List Value
  | .agg l => l.map fun
    | .lit (.int k n) => .int k n
    | _ => undef
  | _ => []
noncomputable def laidWorld (os : Os) : World :=
  let put (h : Array Obj) (g : Nat) (cs : Array Value) : Array Obj := h.modify g fun
    | .cells _ t frozen => .cells cs t frozen
    | o => o
  { World.holding Tryz.prog os ⟨#[], #[], []⟩ with heap := put (put (put (put (put (World.holding Tryz.prog os ⟨#[], #[], []⟩).heap 4 ((litsOf Rows.laid_math_bits_deBruijn32tab).toArray)) 5 ((litsOf Rows.laid_math_bits_deBruijn64tab).toArray)) 3 ((litsOf Rows.laid_internal_strconv_uint64pow10).toArray)) 2 (((List.range 16).flatMap fun i => [Value.int .u8 (Lib.accLo i), Value.int .u8 (Lib.accHi i)]).toArray)) 1 ((Lib.firstTab.map fun z => Value.int .u8 z).toArray) }
set_option maxRecDepth 1000000 in
theorem laid_met (os : Os) : laidMet Tryz.prog Rows.trustTrustedIsGoodRow.laid ((laidWorld os).forCall (fun _ _ => 0) ⟨#[], #[.slice none 0 0, .slice none 0 0, .slice none 0 0, .string ByteArray.empty, .int .i64 0], []⟩).memory :=
  laidMet_of_run' 8 (by kernel_rfl) (by kernel_rfl)
theorem reads (os : Os) {H : Type} (enc : TypeId × Value → H) : ∃ places, DataW.whole enc Tryz.prog ((laidWorld os).forCall (fun _ _ => 0) ⟨#[], #[.slice none 0 0, .slice none 0 0, .slice none 0 0, .string ByteArray.empty, .int .i64 0], []⟩).memory Tryz.f6.params.toList Rows.trustTrustedIsGoodSpec.vars false (#[.slice none 0 0, .slice none 0 0, .slice none 0 0, .string ByteArray.empty, .int .i64 0] : Array Value).toList 8 = some ([.nil, .nil, .nil, .lit (.string []), .lit (.int .i64 0)], [], places) :=
  ⟨[], by kernel_rfl⟩

set_option maxRecDepth 100000 in
theorem lifted (os : Os) (started : os.Started) (H : Type) (enc : TypeId × Value → H) (F : Stop.Interp) :
    ReturnsInHanded {} Tryz.checked os 6 .any ((OpenSpec.ofChange Rows.trustTrustedIsGoodSpec).preRow enc Tryz.prog Tryz.f6 Rows.trustTrustedIsGoodRow.domain false Rows.trustTrustedIsGoodRow.laid) (((OpenSpec.ofChange Rows.trustTrustedIsGoodSpec).at F).post enc Tryz.prog Tryz.f6 false true false false) := by
  obtain ⟨places, hx⟩ := reads os enc
  refine returnsInHanded_of_row (C := Tryz.checked) (s := (OpenSpec.ofChange Rows.trustTrustedIsGoodSpec)) own started (by kernel_rfl) Tryz.func6
    (witness_row_at (enc := enc) (C := Tryz.checked) false (laidWorld os) #[.slice none 0 0, .slice none 0 0, .slice none 0 0, .string ByteArray.empty, .int .i64 0] rfl (by kernel_rfl) (by kernel_rfl) (by kernel_rfl)
      (OpenSpec.preRow_of_cond 8 hx (by kernel_rfl) (fun k hk => by cases hk) (by kernel_rfl) (laid_met os))) ?_
  intro W base args ds gs before hval hW _ hcond hsz hlaid hsh _
  exact contract H enc W base args ds gs before hval hW (Tryz.laysM146.s1_3 W hsh) (pow_row hlaid)

theorem said : Rows.TrustTrustedIsGoodSaid :=
  OpenClaim.holds_of_cond 6 Tryz.f6 rfl rfl rfl rfl rfl rfl rfl ⟨rfl, rfl, rfl, rfl, rfl⟩ rfl rfl rfl rfl rfl (by kernel_rfl) Tryz.func6 (by kernel_rfl)
    (of_decide_eq_true (by kernel_rfl)) (by unfold Func.isWrapper; first | (rw [if_pos (by decide +kernel)]; kernel_rfl) | (rw [if_neg (by decide +kernel)]; exact ⟨rfl, rfl⟩))
    (fun os started H enc _ F => by rw [OpenClaim.pre_eq_preRow]; exact lifted os started H enc F)

theorem plain (f : FuncId) (fn : Func) (hf : Tryz.pinned.checked.prog.funcNamed "smithyard/smithyardlaw11.TrustTrustedIsGood" = some f) (hfn : Tryz.pinned.checked.prog.funcs[f]? = some fn) :
    false = Tryz.pinned.checked.prog.looks [] ∧ ∀ (j : Nat) t, fn.params[j]? = some t → Tryz.pinned.checked.prog.wantsStandIn t = false := by
  obtain rfl : f = 6 := Option.some.inj ((show Tryz.prog.funcNamed "smithyard/smithyardlaw11.TrustTrustedIsGood" = some 6 by kernel_rfl).symm.trans hf) |>.symm
  obtain rfl : fn = Tryz.f6 := (Option.some.inj (Tryz.func6.symm.trans hfn)).symm
  refine ⟨by kernel_rfl, fun j t ht => ?_⟩
  rw [Tryz.params6] at ht
  have hm : t = 22 ∨ t = 40 ∨ t = 45 ∨ t = 9 ∨ t = 3 := by have := Array.mem_of_getElem? ht; simpa using this
  rcases hm with rfl | rfl | rfl | rfl | rfl
  · exact (show Tryz.prog.wantsStandIn 22 = false by kernel_rfl)
  · exact (show Tryz.prog.wantsStandIn 40 = false by kernel_rfl)
  · exact (show Tryz.prog.wantsStandIn 45 = false by kernel_rfl)
  · exact (show Tryz.prog.wantsStandIn 9 = false by kernel_rfl)
  · exact (show Tryz.prog.wantsStandIn 3 = false by kernel_rfl)

theorem card : Rows.TrustTrustedIsGoodCardSaid :=
  Claim7.holds_tied_plain_at .later [] _ _ _ _ said (fun _ h => by cases h) (by kernel_rfl) (fun _ h => by cases h) trustTrustedIsGood_row_tie rfl ⟨rfl, rfl⟩ (by kernel_rfl) rfl plain (by kernel_rfl)
end Go.Proofs.YtaeeicnbnohghaaGreatDoor.trustTrustedIsGood
