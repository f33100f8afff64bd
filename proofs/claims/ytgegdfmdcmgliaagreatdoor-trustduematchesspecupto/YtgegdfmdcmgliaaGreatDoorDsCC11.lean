/-
  Several texts of mine as one: XDbt, XUses, XSortS, XKeys, XWrong, XMayP, XMayR, XMay, XAwake11, XLawWrong.
-/
import Derived.Test.YtgegdfmdcmgliaaGreatDoorDsBC11
import Derived.Test.YtgegdfmdcmgliaaGreatDoorDsG
import Derived.Test.YtgegdfmdcmgliaaGreatDoorShelf
import Derived.Test.YtgegdfmdcmgliaaGreatDoorDsAC11
import Derived.Sort.OwnSorted
import Derived.Sort.KeysCollected
import Derived.Lib.OwnBridge
import Derived.Lib.SlicesCompact
import Derived.Deep.RegionHeld3
namespace Go.Proofs.YtgegdfmdcmgliaaGreatDoor.C11
open Go.RowKit
set_option linter.unusedVariables false

def Db1 (l : List Claimed) (m : List Audit) (s : ByteArray) (n : Nat) (wb : World) (v i : Value) (wr : World) : Prop :=
  ∃ k : Nat, k ≤ n ∧ i = .int .i64 k ∧ v = .int .i64 (-1) ∧ (∀ j, j < k → ¬ (wrB l m j = true ∧ wriOf l j = s)) ∧ Below wb.heap.size wb wr
def Db2 (l : List Claimed) (m : List Audit) (s : ByteArray) (f : Nat) (wb : World) (g i : Value) (wr : World) : Prop :=
  ∃ k : Nat, k ≤ f ∧ i = .int .i64 k ∧ g = .int .i64 (gF l m s k) ∧ Below wb.heap.size wb wr
theorem gF_step {l : List Claimed} {m : List Audit} {s : ByteArray} {k : Nat} (h : (decide (wriOf l k = s) && (audB m k && !wrB l m k)) = true) : gF l m s (k + 1) = k := by
  show (if (decide (wriOf l k = s) && (audB m k && !wrB l m k)) = true then (k : Int) else gF l m s k) = _
  rw [if_pos h]
theorem gF_keep {l : List Claimed} {m : List Audit} {s : ByteArray} {k : Nat} (h : (decide (wriOf l k = s) && (audB m k && !wrB l m k)) = false) : gF l m s (k + 1) = gF l m s k := by
  show (if (decide (wriOf l k = s) && (audB m k && !wrB l m k)) = true then (k : Int) else gF l m s k) = _
  rw [if_neg (by rw [h]; decide)]

set_option maxRecDepth 100000 in
set_option maxHeartbeats 8000000 in
theorem doubtful_any (A : Option Addr) (n c : Nat) (l : List Claimed) (m : List Audit) (b1 b2 b3 : Nat) (sA : Option Addr) (sn sc i : Nat) (w : World) (hn : n ≤ 1000) (hi : i < n) (hl : SlAt RClaimed w A n l) (ra : BRow w b1 n (audB m)) (rw_ : BRow w b2 n (wrB l m))
    (l1 : b1 < w.heap.size) (l2 : b2 < w.heap.size) (hr : ∀ a ∈ m, 0 ≤ a.number ∧ a.number < l.length) (r : Bool) (hrr : dbtB l m i = r) :
    Calls Tryz.prog 55 #[.agg #[.slice (some ⟨b1, 0, none⟩) n n, .slice (some ⟨b2, 0, none⟩) n n, .slice (some ⟨b3, 0, none⟩) n n, .slice sA sn sc], .slice A n c, .int .i64 i] w fun e w' =>
      e = .returned (.bool r) ∧ Below w.heap.size w w' := by
  have hll := hl.1
  obtain ⟨y, hy⟩ : ∃ y, l[i]? = some y := ⟨l[i]'(by omega), List.getElem?_eq_getElem _⟩
  have hyi := wriOf_get hy
  obtain ⟨b, off, hA, hdrop⟩ := hl.2.1 (by omega)
  subst hA
  clear hdrop
  have hba := (Below.refl w.heap.size w).alloc (Nat.le_refl _) (.cells #[.slice (some ⟨b1, 0, none⟩) n n, .slice (some ⟨b2, 0, none⟩) n n, .slice (some ⟨b3, 0, none⟩) n n, .slice sA sn sc] 60)
  have hra := ra.below hba l1
  have hrw := rw_.below hba l2
  have hla := hl.below hba
  have hz : w.heap.size < (w.alloc (.cells #[.slice (some ⟨b1, 0, none⟩) n n, .slice (some ⟨b2, 0, none⟩) n n, .slice (some ⟨b3, 0, none⟩) n n, .slice sA sn sc] 60)).heap.size := by simp
  have e0 := cell_new w #[.slice (some ⟨b1, 0, none⟩) n n, .slice (some ⟨b2, 0, none⟩) n n, .slice (some ⟨b3, 0, none⟩) n n, .slice sA sn sc] 60 0
  have e1 := cell_new w #[.slice (some ⟨b1, 0, none⟩) n n, .slice (some ⟨b2, 0, none⟩) n n, .slice (some ⟨b3, 0, none⟩) n n, .slice sA sn sc] 60 1
  have g0 := (hra i hi).1
  obtain ⟨s, hs⟩ : ∃ s, y.writer = s := ⟨_, rfl⟩
  rw [hs] at hyi
  have hiI : (i : Int) < (n : Int) := by omega
  clear ra rw_ hl
  cases haI : audB m i
  · rw [haI] at g0
    have hllH := Lib.hid hll
    clear hll
    have hyH := Lib.hid hy
    clear hy
    have hyiH := Lib.hid hyi
    clear hyi
    have hbaH := Lib.hid hba
    clear hba
    have hraH := Lib.hid hra
    clear hra
    have hrwH := Lib.hid hrw
    clear hrw
    have hlaH := Lib.hid hla
    clear hla
    have hrH := Lib.hid hr
    clear hr
    have haIH := Lib.hid haI
    clear haI
    have hsH := Lib.hid hs
    clear hs
    have hrrH := Lib.hid hrr
    clear hrr
    go_enter Tryz.func55, Tryz.ntmps55
    go_wp2_with fail
    go_loopw [7, 19] (fun v i wr => Db1 l m s n (w.alloc (.cells #[.slice (some ⟨b1, 0, none⟩) n n, .slice (some ⟨b2, 0, none⟩) n n, .slice (some ⟨b3, 0, none⟩) n n, .slice sA sn sc] 60)) v i wr) (fun _ i _ => n - (intOf i).toNat)
    case atStart => exact ⟨0, Nat.zero_le _, rfl, rfl, (fun j hj => by omega), Below.refl _ _⟩
    case round =>
      obtain ⟨k, hk, rfl, rfl, hno, hb1⟩ := hrel
      obtain ⟨wq, rfl⟩ : ∃ W, W = wr := ⟨_, rfl⟩
      by_cases hlt : k < n
      · obtain ⟨x, hx⟩ : ∃ x, l[k]? = some x := ⟨l[k]'(by have := hllH.out; omega), List.getElem?_eq_getElem _⟩
        obtain ⟨d0, d1, d2, d3, d4, d5, d6⟩ := cells_Claimed (hlaH.out.below hb1) hx
        have hb1a := hb1.alloc hb1.size (.cells #[.string x.key, .string x.label, .string x.result, .string x.writer, .int .i64 x.at_, .slice x.uses.A x.uses.n x.uses.cap, .string x.sign] 51)
        obtain ⟨_, _, _, d3y, _, _, _⟩ := cells_Claimed (hlaH.out.below hb1a) hyH.out
        rw [hsH.out] at d3y
        have p1 := (hb1a.cell (p := ⟨w.heap.size, 1, none⟩) hz).trans e1
        have gw := ((hrwH.out.below hb1a (cell?_lt (hrwH.out k hlt).1)) k hlt).1
        have hwx := wriOf_get hx
        have hbq : ∀ nq, Below (w.alloc (.cells #[.slice (some ⟨b1, 0, none⟩) n n, .slice (some ⟨b2, 0, none⟩) n n, .slice (some ⟨b3, 0, none⟩) n n, .slice sA sn sc] 60)).heap.size (w.alloc (.cells #[.slice (some ⟨b1, 0, none⟩) n n, .slice (some ⟨b2, 0, none⟩) n n, .slice (some ⟨b3, 0, none⟩) n n, .slice sA sn sc] 60)) ((wq.alloc (.cells #[.string x.key, .string x.label, .string x.result, .string x.writer, .int .i64 x.at_, .slice x.uses.A x.uses.n x.uses.cap, .string x.sign] 51)).drewN nq) := fun nq => bel_drewN hb1a nq
        by_cases hsame : x.writer = s
        · have hq : (x.writer.toList == s.toList) = true := by rw [beq_data, decide_eq_true hsame]
          cases hwB : wrB l m k
          · rw [hwB] at gw
            have R : ∀ nq, Db1 l m s n (w.alloc (.cells #[.slice (some ⟨b1, 0, none⟩) n n, .slice (some ⟨b2, 0, none⟩) n n, .slice (some ⟨b3, 0, none⟩) n n, .slice sA sn sc] 60)) (.int .i64 (-1)) (.int .i64 (k + 1)) ((wq.alloc (.cells #[.string x.key, .string x.label, .string x.result, .string x.writer, .int .i64 x.at_, .slice x.uses.A x.uses.n x.uses.cap, .string x.sign] 51)).drewN nq) := fun nq =>
              ⟨k + 1, hlt, by go_num, rfl, (by
                intro j hj
                rcases Nat.lt_or_ge j k with h | h
                · exact hno j h
                · obtain rfl : j = k := by omega
                  rw [hwB]; rintro ⟨h, _⟩; cases h), hbq nq⟩
            have hxH := Lib.hid hx
            clear hx
            have hwxH := Lib.hid hwx
            clear hwx
            have hsameH := Lib.hid hsame
            clear hsame
            have hwBH := Lib.hid hwB
            clear hwB
            have hnoH := Lib.hid hno
            clear hno
            have hb1H := Lib.hid hb1
            clear hb1
            have hb1aH := Lib.hid hb1a
            clear hb1a
            have hbqH := Lib.hid hbq
            clear hbq
            have RH := Lib.hid R
            clear R
            go_wp2_with fail
            go_quiet (fail)
            go_wp2
            refine ⟨?rel, ?measure⟩
            case measure => (simp [intOf]; omega)
            case rel => first | exact (RH.out _) | exact ⟨rfl, (RH.out _)⟩ | ((try refine ⟨rfl, ?_⟩); (repeat apply Exists.intro); refine ⟨(RH.out _), ?_⟩; ((repeat' apply And.intro) <;> rfl))
          · rw [hwB] at gw
            have hfst : IsFst l m s k := ⟨hwB, by rw [hwx, hsame], hno⟩
            have hdb : dbtB l m i = decide (gF l m s k < (i : Int)) := by
              have := dbt_fst (i := i) hrH.out haIH.out (by rw [hyiH.out]; exact hfst) (by have := hllH.out; omega)
              rw [this, hyiH.out]
            have hxH := Lib.hid hx
            clear hx
            have hwxH := Lib.hid hwx
            clear hwx
            have hsameH := Lib.hid hsame
            clear hsame
            have hwBH := Lib.hid hwB
            clear hwB
            have hnoH := Lib.hid hno
            clear hno
            have hb1H := Lib.hid hb1
            clear hb1
            have hb1aH := Lib.hid hb1a
            clear hb1a
            have hbqH := Lib.hid hbq
            clear hbq
            have hfstH := Lib.hid hfst
            clear hfst
            have hdbH := Lib.hid hdb
            clear hdb
            go_wp2_with fail
            go_quiet (fail)
            clear d0 d1 d2 d3 d4 d5 d6 d3y p1 gw
            go_wp2_with fail
            go_loopw [10, 11] (fun g i wr => Db2 l m s k (w.alloc (.cells #[.slice (some ⟨b1, 0, none⟩) n n, .slice (some ⟨b2, 0, none⟩) n n, .slice (some ⟨b3, 0, none⟩) n n, .slice sA sn sc] 60)) g i wr) (fun _ i _ => k - (intOf i).toNat)
            case atStart => exact ⟨0, Nat.zero_le _, rfl, rfl, (hbqH.out _)⟩
            case round =>
              obtain ⟨k2, hk2, rfl, rfl, hb2⟩ := hrel
              by_cases hlt2 : k2 < k
              · obtain ⟨x2, hx2⟩ : ∃ x, l[k2]? = some x := ⟨l[k2]'(by have := hllH.out; omega), List.getElem?_eq_getElem _⟩
                obtain ⟨_, _, _, d3, _, _, _⟩ := cells_Claimed (hlaH.out.below hb2) hx2
                obtain ⟨_, _, _, d3y, _, _, _⟩ := cells_Claimed (hlaH.out.below hb2) hyH.out
                rw [hsH.out] at d3y
                have p0 := (hb2.cell (p := ⟨w.heap.size, 0, none⟩) hz).trans e0
                have p1 := (hb2.cell (p := ⟨w.heap.size, 1, none⟩) hz).trans e1
                have ga := ((hraH.out.below hb2 (cell?_lt (hraH.out k2 (by omega)).1)) k2 (by omega)).1
                have gw := ((hrwH.out.below hb2 (cell?_lt (hrwH.out k2 (by omega)).1)) k2 (by omega)).1
                have hwx := wriOf_get hx2
                have hbq : ∀ nq, Below (w.alloc (.cells #[.slice (some ⟨b1, 0, none⟩) n n, .slice (some ⟨b2, 0, none⟩) n n, .slice (some ⟨b3, 0, none⟩) n n, .slice sA sn sc] 60)).heap.size (w.alloc (.cells #[.slice (some ⟨b1, 0, none⟩) n n, .slice (some ⟨b2, 0, none⟩) n n, .slice (some ⟨b3, 0, none⟩) n n, .slice sA sn sc] 60)) (wr.drewN nq) := fun nq => bel_drewN hb2 nq
                have hgr := gF_range l m s k2
                have hk2I : (k2 : Int) < (n : Int) := by omega
                by_cases hsame : x2.writer = s
                · have hq : (x2.writer.toList == s.toList) = true := by rw [beq_data, decide_eq_true hsame]
                  have hws : decide (wriOf l k2 = s) = true := decide_eq_true (by rw [hwx, hsame])
                  cases haB : audB m k2
                  · rw [haB] at ga
                    have hg := gF_keep (l := l) (m := m) (s := s) (k := k2) (by rw [hws, haB]; rfl)
                    have R : ∀ nq, Db2 l m s k (w.alloc (.cells #[.slice (some ⟨b1, 0, none⟩) n n, .slice (some ⟨b2, 0, none⟩) n n, .slice (some ⟨b3, 0, none⟩) n n, .slice sA sn sc] 60)) (.int .i64 (gF l m s k2)) (.int .i64 (k2 + 1)) (wr.drewN nq) := fun nq => ⟨k2 + 1, by omega, by go_num, by rw [hg], hbq nq⟩
                    obtain ⟨gv, hgv⟩ : ∃ v, gF l m s k2 = v := ⟨_, rfl⟩
                    rw [hgv] at R hgr ⊢
                    clear hg gw
                    have hx2H := Lib.hid hx2
                    clear hx2
                    have hwxH := Lib.hid hwx
                    clear hwx
                    have hwsH := Lib.hid hws
                    clear hws
                    have hsameH := Lib.hid hsame
                    clear hsame
                    have haBH := Lib.hid haB
                    clear haB
                    have hb2H := Lib.hid hb2
                    clear hb2
                    have hbqH := Lib.hid hbq
                    clear hbq
                    have RH := Lib.hid R
                    clear R
                    have hgvH := Lib.hid hgv
                    clear hgv
                    go_wp2_with fail
                    go_quiet (fail)
                    go_wp2
                    refine ⟨?rel, ?measure⟩
                    case measure => (simp [intOf]; omega)
                    case rel => first | exact (RH.out _) | exact ⟨rfl, (RH.out _)⟩ | ((try refine ⟨rfl, ?_⟩); (repeat apply Exists.intro); refine ⟨(RH.out _), ?_⟩; ((repeat' apply And.intro) <;> rfl))
                  · rw [haB] at ga
                    cases hwB : wrB l m k2
                    · rw [hwB] at gw
                      have hg := gF_step (l := l) (m := m) (s := s) (k := k2) (by rw [hws, haB, hwB]; rfl)
                      have R : ∀ nq, Db2 l m s k (w.alloc (.cells #[.slice (some ⟨b1, 0, none⟩) n n, .slice (some ⟨b2, 0, none⟩) n n, .slice (some ⟨b3, 0, none⟩) n n, .slice sA sn sc] 60)) (.int .i64 k2) (.int .i64 (k2 + 1)) (wr.drewN nq) := fun nq => ⟨k2 + 1, by omega, by go_num, by rw [hg], hbq nq⟩
                      obtain ⟨gv, hgv⟩ : ∃ v, gF l m s k2 = v := ⟨_, rfl⟩
                      rw [hgv] at hgr ⊢
                      clear hg
                      have hx2H := Lib.hid hx2
                      clear hx2
                      have hwxH := Lib.hid hwx
                      clear hwx
                      have hwsH := Lib.hid hws
                      clear hws
                      have hsameH := Lib.hid hsame
                      clear hsame
                      have haBH := Lib.hid haB
                      clear haB
                      have hwBH := Lib.hid hwB
                      clear hwB
                      have hb2H := Lib.hid hb2
                      clear hb2
                      have hbqH := Lib.hid hbq
                      clear hbq
                      have RH := Lib.hid R
                      clear R
                      have hgvH := Lib.hid hgv
                      clear hgv
                      go_wp2_with fail
                      go_quiet (fail)
                      go_wp2
                      refine ⟨?rel, ?measure⟩
                      case measure => (simp [intOf]; omega)
                      case rel => first | exact (RH.out _) | exact ⟨rfl, (RH.out _)⟩ | ((try refine ⟨rfl, ?_⟩); (repeat apply Exists.intro); refine ⟨(RH.out _), ?_⟩; ((repeat' apply And.intro) <;> rfl))
                    · rw [hwB] at gw
                      have hg := gF_keep (l := l) (m := m) (s := s) (k := k2) (by rw [hws, haB, hwB]; rfl)
                      have R : ∀ nq, Db2 l m s k (w.alloc (.cells #[.slice (some ⟨b1, 0, none⟩) n n, .slice (some ⟨b2, 0, none⟩) n n, .slice (some ⟨b3, 0, none⟩) n n, .slice sA sn sc] 60)) (.int .i64 (gF l m s k2)) (.int .i64 (k2 + 1)) (wr.drewN nq) := fun nq => ⟨k2 + 1, by omega, by go_num, by rw [hg], hbq nq⟩
                      obtain ⟨gv, hgv⟩ : ∃ v, gF l m s k2 = v := ⟨_, rfl⟩
                      rw [hgv] at R hgr ⊢
                      clear hg
                      have hx2H := Lib.hid hx2
                      clear hx2
                      have hwxH := Lib.hid hwx
                      clear hwx
                      have hwsH := Lib.hid hws
                      clear hws
                      have hsameH := Lib.hid hsame
                      clear hsame
                      have haBH := Lib.hid haB
                      clear haB
                      have hwBH := Lib.hid hwB
                      clear hwB
                      have hb2H := Lib.hid hb2
                      clear hb2
                      have hbqH := Lib.hid hbq
                      clear hbq
                      have RH := Lib.hid R
                      clear R
                      have hgvH := Lib.hid hgv
                      clear hgv
                      go_wp2_with fail
                      go_quiet (fail)
                      go_wp2
                      refine ⟨?rel, ?measure⟩
                      case measure => (simp [intOf]; omega)
                      case rel => first | exact (RH.out _) | exact ⟨rfl, (RH.out _)⟩ | ((try refine ⟨rfl, ?_⟩); (repeat apply Exists.intro); refine ⟨(RH.out _), ?_⟩; ((repeat' apply And.intro) <;> rfl))
                · have hq : (x2.writer.toList == s.toList) = false := by rw [beq_data, decide_eq_false hsame]
                  have hws : decide (wriOf l k2 = s) = false := decide_eq_false (by rw [hwx]; exact hsame)
                  have hg := gF_keep (l := l) (m := m) (s := s) (k := k2) (by rw [hws]; rfl)
                  have R : ∀ nq, Db2 l m s k (w.alloc (.cells #[.slice (some ⟨b1, 0, none⟩) n n, .slice (some ⟨b2, 0, none⟩) n n, .slice (some ⟨b3, 0, none⟩) n n, .slice sA sn sc] 60)) (.int .i64 (gF l m s k2)) (.int .i64 (k2 + 1)) (wr.drewN nq) := fun nq => ⟨k2 + 1, by omega, by go_num, by rw [hg], hbq nq⟩
                  obtain ⟨gv, hgv⟩ : ∃ v, gF l m s k2 = v := ⟨_, rfl⟩
                  rw [hgv] at R hgr ⊢
                  clear hg ga gw
                  have hx2H := Lib.hid hx2
                  clear hx2
                  have hwxH := Lib.hid hwx
                  clear hwx
                  have hwsH := Lib.hid hws
                  clear hws
                  have hsameH := Lib.hid hsame
                  clear hsame
                  have hb2H := Lib.hid hb2
                  clear hb2
                  have hbqH := Lib.hid hbq
                  clear hbq
                  have RH := Lib.hid R
                  clear R
                  have hgvH := Lib.hid hgv
                  clear hgv
                  go_wp2_with fail
                  go_quiet (fail)
                  go_wp2
                  refine ⟨?rel, ?measure⟩
                  case measure => (simp [intOf]; omega)
                  case rel => first | exact (RH.out _) | exact ⟨rfl, (RH.out _)⟩ | ((try refine ⟨rfl, ?_⟩); (repeat apply Exists.intro); refine ⟨(RH.out _), ?_⟩; ((repeat' apply And.intro) <;> rfl))
              · obtain rfl : k2 = k := by omega
                have hgr := gF_range l m s k2
                have hres : r = decide (gF l m s k2 < (i : Int)) := hrrH.out.symm.trans hdbH.out
                have hbe := hbaH.out.trans (hb2.mono hbaH.out.size)
                clear hb2
                obtain ⟨gv, hgv⟩ : ∃ v, gF l m s k2 = v := ⟨_, rfl⟩
                rw [hgv] at hres hgr ⊢
                by_cases hgi : gv < (i : Int)
                · have hgd : decide (gv < (i : Int)) = true := decide_eq_true hgi
                  rw [hgd] at hres
                  subst hres
                  have hbeH := Lib.hid hbe
                  clear hbe
                  have hgvH := Lib.hid hgv
                  clear hgv
                  go_wp2
                  go_ret
                  exact ⟨rfl, hbeH.out⟩
                · have hgd : decide (gv < (i : Int)) = false := decide_eq_false hgi
                  rw [hgd] at hres
                  subst hres
                  have hbeH := Lib.hid hbe
                  clear hbe
                  have hgvH := Lib.hid hgv
                  clear hgv
                  go_wp2
                  go_ret
                  exact ⟨rfl, hbeH.out⟩
        · have hq : (x.writer.toList == s.toList) = false := by rw [beq_data, decide_eq_false hsame]
          have R : ∀ nq, Db1 l m s n (w.alloc (.cells #[.slice (some ⟨b1, 0, none⟩) n n, .slice (some ⟨b2, 0, none⟩) n n, .slice (some ⟨b3, 0, none⟩) n n, .slice sA sn sc] 60)) (.int .i64 (-1)) (.int .i64 (k + 1)) ((wq.alloc (.cells #[.string x.key, .string x.label, .string x.result, .string x.writer, .int .i64 x.at_, .slice x.uses.A x.uses.n x.uses.cap, .string x.sign] 51)).drewN nq) := fun nq =>
            ⟨k + 1, hlt, by go_num, rfl, (by
              intro j hj
              rcases Nat.lt_or_ge j k with h | h
              · exact hno j h
              · obtain rfl : j = k := by omega
                rw [hwx]; rintro ⟨_, h⟩; exact hsame h), hbq nq⟩
          clear gw
          have hxH := Lib.hid hx
          clear hx
          have hwxH := Lib.hid hwx
          clear hwx
          have hsameH := Lib.hid hsame
          clear hsame
          have hnoH := Lib.hid hno
          clear hno
          have hb1H := Lib.hid hb1
          clear hb1
          have hb1aH := Lib.hid hb1a
          clear hb1a
          have hbqH := Lib.hid hbq
          clear hbq
          have RH := Lib.hid R
          clear R
          go_wp2_with fail
          go_quiet (fail)
          go_wp2
          refine ⟨?rel, ?measure⟩
          case measure => (simp [intOf]; omega)
          case rel => first | exact (RH.out _) | exact ⟨rfl, (RH.out _)⟩ | ((try refine ⟨rfl, ?_⟩); (repeat apply Exists.intro); refine ⟨(RH.out _), ?_⟩; ((repeat' apply And.intro) <;> rfl))
      · obtain rfl : k = n := by omega
        have hres : r = false := hrrH.out.symm.trans <| dbt_none (by
          rw [hyiH.out, suB_end hrH.out]
          cases hc : endB l m l.length s
          · rfl
          · obtain ⟨j, h1, h2, h3⟩ := endB_iff.1 hc
            exact absurd ⟨h2, h3⟩ (hno j (by have := hllH.out; omega)))
        have hbe := hbaH.out.trans (hb1.mono hbaH.out.size)
        subst hres
        have hbeH := Lib.hid hbe
        clear hbe
        have hb1H := Lib.hid hb1
        clear hb1
        have hnoH := Lib.hid hno
        clear hno
        go_wp2_with fail
        go_loopw [11] (fun i wr => i = .int .i64 0 ∧ wr = wq) (fun _ _ => 0)
        case atStart => exact ⟨rfl, rfl⟩
        case round =>
          obtain ⟨rfl, rfl⟩ := hrel
          go_wp2
          go_ret
          exact ⟨rfl, hbeH.out⟩
  · rw [haI] at g0
    have hres : r = false := hrr.symm.trans (dbt_aud (l := l) haI)
    subst hres
    have hllH := Lib.hid hll
    clear hll
    have hyH := Lib.hid hy
    clear hy
    have hyiH := Lib.hid hyi
    clear hyi
    have hbaH := Lib.hid hba
    clear hba
    have hraH := Lib.hid hra
    clear hra
    have hrwH := Lib.hid hrw
    clear hrw
    have hlaH := Lib.hid hla
    clear hla
    have hrH := Lib.hid hr
    clear hr
    have haIH := Lib.hid haI
    clear haI
    have hsH := Lib.hid hs
    clear hs
    go_enter Tryz.func55, Tryz.ntmps55
    go_wp2
    go_ret
    exact ⟨rfl, hbaH.out⟩
end Go.Proofs.YtgegdfmdcmgliaaGreatDoor.C11

namespace Go.Proofs.YtgegdfmdcmgliaaGreatDoor.C11
open Go.RowKit
set_option linter.unusedVariables false

/-- the inner loop, round by round -/
theorem anyB_step {l : List Claimed} {f : Nat → Bool} {k : Nat} {u : ByteArray} : anyB l f (k + 1) u = (anyB l f k u || (f k && decide (resOf l k = u))) := rfl
def Us1 (l : List Claimed) (f : Nat → Bool) (L : List ByteArray) (i : Nat) (r : Bool) (w0 : World) (j : Value) (wr : World) : Prop :=
  ∃ k : Nat, k ≤ L.length ∧ j = .int .i64 k ∧ (L.drop k).any (fun u => anyB l f i u && !anyB l (fun j => !f j) i u) = r ∧ Below w0.heap.size w0 wr
def Us2 (l : List Claimed) (f : Nat → Bool) (u : ByteArray) (i : Nat) (w0 : World) (bad good j : Value) (wr : World) : Prop :=
  ∃ k : Nat, k ≤ i ∧ j = .int .i64 k ∧ bad = .bool (anyB l f k u) ∧ good = .bool (anyB l (fun j => !f j) k u) ∧ Below w0.heap.size w0 wr

set_option maxRecDepth 100000 in
set_option maxHeartbeats 8000000 in
theorem uses_any (A : Option Addr) (n c : Nat) (l : List Claimed) (b1 b2 b3 : Nat) (sA : Option Addr) (sn sc i : Nat) (f : Nat → Bool) (w : World) (hn : n ≤ 1000) (hi : i < n) (hl : SlAt RClaimed w A n l) (rt : BRow w b3 n f) (l3 : b3 < w.heap.size) (r : Bool) (hr : useB l f i = r) :
    Calls Tryz.prog 56 #[.agg #[.slice (some ⟨b1, 0, none⟩) n n, .slice (some ⟨b2, 0, none⟩) n n, .slice (some ⟨b3, 0, none⟩) n n, .slice sA sn sc], .slice A n c, .int .i64 i] w fun e w' =>
      e = .returned (.bool r) ∧ Below w.heap.size w w' := by
  have hll := hl.1
  obtain ⟨y, hy⟩ : ∃ y, l[i]? = some y := ⟨l[i]'(by omega), List.getElem?_eq_getElem _⟩
  have hyi := useOf_get hy
  obtain ⟨b, off, hA, hdrop⟩ := hl.2.1 (by omega)
  subst hA
  clear hdrop
  have hba := (Below.refl w.heap.size w).alloc (Nat.le_refl _) (.cells #[.slice (some ⟨b1, 0, none⟩) n n, .slice (some ⟨b2, 0, none⟩) n n, .slice (some ⟨b3, 0, none⟩) n n, .slice sA sn sc] 60)
  have hrt := rt.below hba l3
  have hla := hl.below hba
  have hz : w.heap.size < (w.alloc (.cells #[.slice (some ⟨b1, 0, none⟩) n n, .slice (some ⟨b2, 0, none⟩) n n, .slice (some ⟨b3, 0, none⟩) n n, .slice sA sn sc] 60)).heap.size := by simp
  have e2 := cell_new w #[.slice (some ⟨b1, 0, none⟩) n n, .slice (some ⟨b2, 0, none⟩) n n, .slice (some ⟨b3, 0, none⟩) n n, .slice sA sn sc] 60 2
  obtain ⟨_, _, _, _, _, d5, _⟩ := cells_Claimed hla hy
  have hyok := hla.2.2 y (List.mem_of_getElem? hy)
  have hus : SlAt RStr (w.alloc (.cells #[.slice (some ⟨b1, 0, none⟩) n n, .slice (some ⟨b2, 0, none⟩) n n, .slice (some ⟨b3, 0, none⟩) n n, .slice sA sn sc] 60)) y.uses.A y.uses.n y.uses.l := hyok.2.2.2.2.2.1.1
  have hul := hus.1
  have hun : y.uses.n ≤ maxLen := Nat.le_trans hyok.2.2.2.2.2.1.2.1 hyok.2.2.2.2.2.1.2.2.1
  unfold maxLen at hun
  have hiI : (i : Int) < (n : Int) := by omega
  unfold useB at hr
  rw [hyi] at hr
  clear rt hl hyok
  have hllH := Lib.hid hll
  clear hll
  have hyH := Lib.hid hy
  clear hy
  have hyiH := Lib.hid hyi
  clear hyi
  have hbaH := Lib.hid hba
  clear hba
  have hrtH := Lib.hid hrt
  clear hrt
  have hlaH := Lib.hid hla
  clear hla
  have husH := Lib.hid hus
  clear hus
  have hulH := Lib.hid hul
  clear hul
  have hrH := Lib.hid hr
  clear hr
  go_enter Tryz.func56, Tryz.ntmps56
  go_wp2_with fail
  go_loopw [18] (fun j wr => Us1 l f y.uses.l i r (w.alloc (.cells #[.slice (some ⟨b1, 0, none⟩) n n, .slice (some ⟨b2, 0, none⟩) n n, .slice (some ⟨b3, 0, none⟩) n n, .slice sA sn sc] 60)) j wr) (fun j _ => y.uses.n - (intOf j).toNat)
  case atStart => exact ⟨0, Nat.zero_le _, rfl, hrH.out, Below.refl _ _⟩
  case round =>
    obtain ⟨k, hk, rfl, hany, hb1⟩ := hrel
    have hkn : k ≤ y.uses.n := by have := hulH.out; omega
    obtain ⟨wq, rfl⟩ : ∃ W, W = wr := ⟨_, rfl⟩
    by_cases hlt : k < y.uses.n
    · obtain ⟨bu, ou, hAu, hdrop⟩ := husH.out.2.1 (by omega)
      obtain ⟨u, hu⟩ : ∃ u, y.uses.l[k]? = some u := ⟨y.uses.l[k]'(by have := hulH.out; omega), List.getElem?_eq_getElem _⟩
      have hsu := husH.out.below hb1
      rw [hAu] at hsu
      have cu := cell_Str hsu hu
      rw [drop_cons hu, List.any_cons] at hany
      have hk1 : k + 1 ≤ y.uses.l.length := by have := hulH.out; omega
      clear hdrop hsu
      have hanyH := Lib.hid hany
      clear hany
      have hb1H := Lib.hid hb1
      clear hb1
      have huH := Lib.hid hu
      clear hu
      rw [hAu]
      go_wp2_with fail
      go_loopw [9, 10, 23] (fun bad good j wr => Us2 l f u i (w.alloc (.cells #[.slice (some ⟨b1, 0, none⟩) n n, .slice (some ⟨b2, 0, none⟩) n n, .slice (some ⟨b3, 0, none⟩) n n, .slice sA sn sc] 60)) bad good j wr) (fun _ _ j _ => i - (intOf j).toNat)
      case atStart => exact ⟨0, Nat.zero_le _, rfl, rfl, rfl, hb1H.out⟩
      case round =>
        obtain ⟨k2, hk2, rfl, rfl, rfl, hb2⟩ := hrel
        by_cases hlt2 : k2 < i
        · obtain ⟨x2, hx2⟩ : ∃ x, l[k2]? = some x := ⟨l[k2]'(by have := hllH.out; omega), List.getElem?_eq_getElem _⟩
          obtain ⟨_, _, d2, _, _, _, _⟩ := cells_Claimed (hlaH.out.below hb2) hx2
          have p2 := (hb2.cell (p := ⟨w.heap.size, 2, none⟩) hz).trans e2
          have gt := ((hrtH.out.below hb2 (cell?_lt (hrtH.out k2 (by omega)).1)) k2 (by omega)).1
          have hrx := resOf_get hx2
          have hbq : ∀ nq, Below (w.alloc (.cells #[.slice (some ⟨b1, 0, none⟩) n n, .slice (some ⟨b2, 0, none⟩) n n, .slice (some ⟨b3, 0, none⟩) n n, .slice sA sn sc] 60)).heap.size (w.alloc (.cells #[.slice (some ⟨b1, 0, none⟩) n n, .slice (some ⟨b2, 0, none⟩) n n, .slice (some ⟨b3, 0, none⟩) n n, .slice sA sn sc] 60)) (wr.drewN nq) := fun nq => bel_drewN hb2 nq
          have hk2I : (k2 : Int) < (n : Int) := by omega
          obtain ⟨pv, hpv⟩ : ∃ v, anyB l f k2 u = v := ⟨_, rfl⟩
          obtain ⟨gv, hgv⟩ : ∃ v, anyB l (fun j => !f j) k2 u = v := ⟨_, rfl⟩
          obtain ⟨fv, hfv⟩ : ∃ v, f k2 = v := ⟨_, rfl⟩
          rw [hfv] at gt
          rw [hpv, hgv]
          by_cases hsame : x2.result = u
          · have hq : (x2.result.toList == u.toList) = true := by rw [beq_data, decide_eq_true hsame]
            have h1 : anyB l f (k2 + 1) u = (pv || fv) := by rw [anyB_step, hpv, hfv, hrx, decide_eq_true hsame, Bool.and_true]
            have h2 : anyB l (fun j => !f j) (k2 + 1) u = (gv || !fv) := by rw [anyB_step, hgv, hfv, hrx, decide_eq_true hsame, Bool.and_true]
            have R : ∀ nq, Us2 l f u i (w.alloc (.cells #[.slice (some ⟨b1, 0, none⟩) n n, .slice (some ⟨b2, 0, none⟩) n n, .slice (some ⟨b3, 0, none⟩) n n, .slice sA sn sc] 60)) (.bool (pv || fv)) (.bool (gv || !fv)) (.int .i64 (k2 + 1)) (wr.drewN nq) := fun nq => ⟨k2 + 1, by omega, by go_num, by rw [h1], by rw [h2], hbq nq⟩
            clear h1 h2
            have hx2H := Lib.hid hx2
            clear hx2
            have hrxH := Lib.hid hrx
            clear hrx
            have hsameH := Lib.hid hsame
            clear hsame
            have hb2H := Lib.hid hb2
            clear hb2
            have hbqH := Lib.hid hbq
            clear hbq
            have RH := Lib.hid R
            clear R
            have hpvH := Lib.hid hpv
            clear hpv
            have hgvH := Lib.hid hgv
            clear hgv
            have hfvH := Lib.hid hfv
            clear hfv
            cases pv <;> cases gv <;> cases fv
            all_goals
              go_wp2_with fail
              go_quiet (fail)
              go_wp2
              refine ⟨?rel, ?measure⟩
              case measure => (simp [intOf]; omega)
              case rel => first | exact (RH.out _) | exact ⟨rfl, (RH.out _)⟩ | ((try refine ⟨rfl, ?_⟩); (repeat apply Exists.intro); refine ⟨(RH.out _), ?_⟩; ((repeat' apply And.intro) <;> rfl))
          · have hq : (x2.result.toList == u.toList) = false := by rw [beq_data, decide_eq_false hsame]
            have h1 : anyB l f (k2 + 1) u = pv := by rw [anyB_step, hpv, hrx, decide_eq_false hsame, Bool.and_false, Bool.or_false]
            have h2 : anyB l (fun j => !f j) (k2 + 1) u = gv := by rw [anyB_step, hgv, hrx, decide_eq_false hsame, Bool.and_false, Bool.or_false]
            have R : Us2 l f u i (w.alloc (.cells #[.slice (some ⟨b1, 0, none⟩) n n, .slice (some ⟨b2, 0, none⟩) n n, .slice (some ⟨b3, 0, none⟩) n n, .slice sA sn sc] 60)) (.bool pv) (.bool gv) (.int .i64 (k2 + 1)) wr := ⟨k2 + 1, by omega, by go_num, by rw [h1], by rw [h2], hb2⟩
            clear h1 h2 gt p2
            have hx2H := Lib.hid hx2
            clear hx2
            have hrxH := Lib.hid hrx
            clear hrx
            have hsameH := Lib.hid hsame
            clear hsame
            have hb2H := Lib.hid hb2
            clear hb2
            have hbqH := Lib.hid hbq
            clear hbq
            have RH := Lib.hid R
            clear R
            have hpvH := Lib.hid hpv
            clear hpv
            have hgvH := Lib.hid hgv
            clear hgv
            have hfvH := Lib.hid hfv
            clear hfv
            go_wp2
            refine ⟨?rel, ?measure⟩
            case measure => (simp [intOf]; omega)
            case rel => first | exact RH.out | exact ⟨rfl, RH.out⟩ | ((try refine ⟨rfl, ?_⟩); (repeat apply Exists.intro); refine ⟨RH.out, ?_⟩; ((repeat' apply And.intro) <;> rfl))
        · obtain rfl : k2 = i := by omega
          have hany := hanyH.out
          obtain ⟨pv, hpv⟩ : ∃ v, anyB l f k2 u = v := ⟨_, rfl⟩
          obtain ⟨gv, hgv⟩ : ∃ v, anyB l (fun j => !f j) k2 u = v := ⟨_, rfl⟩
          rw [hpv, hgv] at hany
          rw [hpv, hgv]
          clear hanyH
          have hbe := hbaH.out.trans (hb2.mono hbaH.out.size)
          have Rk : (y.uses.l.drop (k + 1)).any (fun u => anyB l f k2 u && !anyB l (fun j => !f j) k2 u) = r → Us1 l f y.uses.l k2 r (w.alloc (.cells #[.slice (some ⟨b1, 0, none⟩) n n, .slice (some ⟨b2, 0, none⟩) n n, .slice (some ⟨b3, 0, none⟩) n n, .slice sA sn sc] 60)) (.int .i64 (k + 1)) wr := fun h => ⟨k + 1, hk1, by go_num, h, hb2⟩
          cases pv
          · rw [Bool.false_and, Bool.false_or] at hany
            have R := Rk hany
            clear hany Rk
            have hb2H := Lib.hid hb2
            clear hb2
            have hbeH := Lib.hid hbe
            clear hbe
            have hpvH := Lib.hid hpv
            clear hpv
            have hgvH := Lib.hid hgv
            clear hgv
            have RH := Lib.hid R
            clear R
            go_wp2
            refine ⟨?rel, ?measure⟩
            case measure => (simp [intOf]; omega)
            case rel => first | exact RH.out | exact ⟨rfl, RH.out⟩ | ((try refine ⟨rfl, ?_⟩); (repeat apply Exists.intro); refine ⟨RH.out, ?_⟩; ((repeat' apply And.intro) <;> rfl))
          · cases gv
            · rw [Bool.not_false, Bool.and_true, Bool.true_or] at hany
              subst hany
              clear Rk
              have hb2H := Lib.hid hb2
              clear hb2
              have hbeH := Lib.hid hbe
              clear hbe
              have hpvH := Lib.hid hpv
              clear hpv
              have hgvH := Lib.hid hgv
              clear hgv
              go_wp2
              go_ret
              exact ⟨rfl, hbeH.out⟩
            · rw [Bool.not_true, Bool.and_false, Bool.false_or] at hany
              have R := Rk hany
              clear hany Rk
              have hb2H := Lib.hid hb2
              clear hb2
              have hbeH := Lib.hid hbe
              clear hbe
              have hpvH := Lib.hid hpv
              clear hpv
              have hgvH := Lib.hid hgv
              clear hgv
              have RH := Lib.hid R
              clear R
              go_wp2
              refine ⟨?rel, ?measure⟩
              case measure => (simp [intOf]; omega)
              case rel => first | exact RH.out | exact ⟨rfl, RH.out⟩ | ((try refine ⟨rfl, ?_⟩); (repeat apply Exists.intro); refine ⟨RH.out, ?_⟩; ((repeat' apply And.intro) <;> rfl))
    · have e : y.uses.l.drop k = [] := List.drop_eq_nil_of_le (by have := hulH.out; omega)
      rw [e] at hany
      have hany : false = r := hany
      subst hany
      have hbe := hbaH.out.trans (hb1.mono hbaH.out.size)
      clear e
      have hb1H := Lib.hid hb1
      clear hb1
      have hbeH := Lib.hid hbe
      clear hbe
      go_wp2
      go_ret
      exact ⟨rfl, hbeH.out⟩
end Go.Proofs.YtgegdfmdcmgliaaGreatDoor.C11

namespace Go.Proofs.YtgegdfmdcmgliaaGreatDoor.C11
open Go.ChangeShapes Go.WideShapes Go.Deep Go.RowKit Go.Sort
set_option linter.unusedVariables false

def bsOf (x : List UInt8) : ByteArray := ⟨x.toArray⟩
theorem bsOf_data (s : ByteArray) : bsOf s.data.toList = s := by cases s; simp [bsOf]
theorem data_bsOf (x : List UInt8) : (bsOf x).data.toList = x := by simp [bsOf]
def dat (l : List ByteArray) : List (List UInt8) := l.map (·.data.toList)
def und (l : List (List UInt8)) : List ByteArray := l.map bsOf
theorem und_dat (l : List ByteArray) : und (dat l) = l := by simp [und, dat, Function.comp_def, bsOf_data]
theorem dat_und (l : List (List UInt8)) : dat (und l) = l := by simp [und, dat, Function.comp_def, data_bsOf]
theorem vals_dat (l : List ByteArray) : l.flatMap RStr.vals = (dat l).map encStr := by
  have h : l.flatMap RStr.vals = l.map Value.string := by
    induction l with
    | nil => rfl
    | cons x s ih => rw [List.flatMap_cons, ih]; rfl
  rw [h, dat, Lib.map_encStr]
theorem own_dat {e : TypeId} {w : World} {base : Nat} {v : Value} {l : List ByteArray} (h : Own RStr e w base v l) : w.ownsRow base e 1 v l.length ((dat l).map encStr) := by
  have := h.1
  rwa [vals_dat] at this
theorem own_und {e : TypeId} {w : World} {base n : Nat} {v : Value} {l : List (List UInt8)} (h : w.ownsRow base e 1 v n (l.map encStr)) (hn : n = l.length) (hs : ∀ x ∈ l, x.length ≤ maxLen) : Own RStr e w base v (und l) := by
  subst hn
  refine ⟨?_, fun x hx => ?_⟩
  · rw [vals_dat, dat_und, show (und l).length = l.length by simp [und]]
    exact h
  · obtain ⟨y, hy, rfl⟩ := List.mem_map.1 hx
    have := hs y hy
    show y.toArray.size ≤ maxLen
    simpa using this

/-- Go's sorted row -/
def sortB (l : List ByteArray) : List ByteArray := und ((dat l).mergeSort (fun x y => decide (x ≤ y)))
def compB (l : List ByteArray) : List ByteArray := und (Lib.compact (dat l))

theorem mem_und {l : List (List UInt8)} {s : ByteArray} : s ∈ und l ↔ s.data.toList ∈ l := by
  constructor
  · intro h
    obtain ⟨y, hy, rfl⟩ := List.mem_map.1 h
    rwa [data_bsOf]
  · intro h
    exact List.mem_map.2 ⟨_, h, bsOf_data s⟩
theorem mem_dat {l : List ByteArray} {x : List UInt8} : x ∈ dat l ↔ bsOf x ∈ l := by
  constructor
  · intro h
    obtain ⟨y, hy, rfl⟩ := List.mem_map.1 h
    rwa [bsOf_data]
  · intro h
    exact List.mem_map.2 ⟨_, h, data_bsOf x⟩
theorem mem_sortB {l : List ByteArray} {s : ByteArray} : s ∈ sortB l ↔ s ∈ l := by
  rw [sortB, mem_und, List.mem_mergeSort, mem_dat, bsOf_data]
theorem leB_trans : ∀ a b c : List UInt8, decide (a ≤ b) = true → decide (b ≤ c) = true → decide (a ≤ c) = true := fun a b c h1 h2 => by simp only [decide_eq_true_eq] at *; exact List.le_trans h1 h2
theorem leB_total : ∀ a b : List UInt8, (decide (a ≤ b) || decide (b ≤ a)) = true := fun a b => by simp only [Bool.or_eq_true, decide_eq_true_eq]; exact List.le_total a b

/-- strictly rising -/
def Rising (l : List ByteArray) : Prop := (dat l).Pairwise (fun a b => a ≤ b ∧ a ≠ b)
theorem Rising.eq {l l' : List ByteArray} (h : Rising l) (h' : Rising l') (hm : ∀ s, s ∈ l ↔ s ∈ l') : l = l' := by
  have hp : (dat l).Perm (dat l') := by
    refine (List.perm_ext_iff_of_nodup (h.imp fun h => h.2) (h'.imp fun h => h.2)).2 fun x => ?_
    rw [mem_dat, mem_dat, hm]
  have he : dat l = dat l' := List.Perm.eq_of_pairwise (le := fun a b : List UInt8 => a ≤ b) (fun a b _ _ h1 h2 => List.le_antisymm h1 h2) (h.imp fun h => h.1) (h'.imp fun h => h.1) hp
  rw [← und_dat l, he, und_dat]

theorem compact_rise (d : Array (List UInt8)) (hs : ∀ i j, i ≤ j → j < d.size → d[i]! ≤ d[j]!) : ∀ m, m ≤ d.size → (Lib.compactUpTo d m).Pairwise (fun a b => a ≤ b ∧ a ≠ b) ∧ ∀ x, x ∈ Lib.compactUpTo d m ↔ ∃ j, j < m ∧ d[j]! = x
  | 0, _ => ⟨by simp [Lib.compactUpTo], fun x => by simp [Lib.compactUpTo]⟩
  | m + 1, hm => by
    obtain ⟨h1, h2⟩ := compact_rise d hs m (by omega)
    rw [Lib.compactUpTo_succ]
    by_cases hk : Lib.keeps d m = true
    · rw [if_pos hk]
      refine ⟨List.pairwise_append.2 ⟨h1, by simp, fun a ha b hb => ?_⟩, fun x => ?_⟩
      · simp only [List.mem_singleton] at hb
        subst hb
        obtain ⟨j, hj, rfl⟩ := (h2 a).1 ha
        refine ⟨hs j m (by omega) (by omega), fun e => ?_⟩
        have hk' : m = 0 ∨ d[m]! ≠ d[m - 1]! := by simpa [Lib.keeps] using hk
        rcases hk' with h0 | h0
        · omega
        · refine h0 (List.le_antisymm ?_ (hs (m - 1) m (by omega) (by omega)))
          rw [← e]
          exact hs j (m - 1) (by omega) (by omega)
      · rw [List.mem_append, h2, List.mem_singleton]
        constructor
        · rintro (⟨j, hj, rfl⟩ | rfl)
          · exact ⟨j, by omega, rfl⟩
          · exact ⟨m, by omega, rfl⟩
        · rintro ⟨j, hj, rfl⟩
          by_cases e : j = m
          · subst e; exact Or.inr rfl
          · exact Or.inl ⟨j, by omega, rfl⟩
    · rw [if_neg hk, List.append_nil]
      have hk' : ¬ m = 0 ∧ d[m]! = d[m - 1]! := by simpa [Lib.keeps] using hk
      refine ⟨h1, fun x => ?_⟩
      rw [h2]
      constructor
      · rintro ⟨j, hj, rfl⟩
        exact ⟨j, by omega, rfl⟩
      · rintro ⟨j, hj, rfl⟩
        by_cases e : j = m
        · subst e; exact ⟨j - 1, by omega, hk'.2.symm⟩
        · exact ⟨j, by omega, rfl⟩

/-- what is sorted and compacted is strictly rising, and holds the same -/
theorem rising_comp (l : List ByteArray) : Rising (compB (sortB l)) ∧ ∀ s, s ∈ compB (sortB l) ↔ s ∈ l := by
  have hp := List.pairwise_mergeSort leB_trans leB_total (dat l)
  obtain ⟨ss, hss⟩ : ∃ ss, (dat l).mergeSort (fun x y => decide (x ≤ y)) = ss := ⟨_, rfl⟩
  rw [hss] at hp
  have hs : ∀ i j, i ≤ j → j < ss.toArray.size → ss.toArray[i]! ≤ ss.toArray[j]! := by
    intro i j hij hj
    have hj' : j < ss.length := by simpa using hj
    rw [getElem!_pos _ i (by simp; omega), getElem!_pos _ j hj]
    by_cases e : i = j
    · subst e; exact List.le_refl _
    · have := List.pairwise_iff_getElem.1 hp i j (by omega) hj' (by omega)
      simpa using this
  obtain ⟨h1, h2⟩ := compact_rise ss.toArray hs ss.length (by simp)
  have hd : dat (sortB l) = ss := by rw [sortB, dat_und, hss]
  refine ⟨?_, fun s => ?_⟩
  · rw [Rising, compB, dat_und, hd]
    exact h1
  · rw [compB, mem_und, hd, ← mem_sortB (l := l), sortB, hss, mem_und]
    show _ ∈ Lib.compactUpTo ss.toArray ss.length ↔ _
    rw [h2]
    constructor
    · rintro ⟨j, hj, e⟩
      rw [← e, getElem!_pos _ j (by simpa using hj)]
      simp
    · intro h
      obtain ⟨j, hj, e⟩ := List.getElem_of_mem h
      exact ⟨j, hj, by rw [getElem!_pos _ j (by simpa using hj)]; simpa using e⟩
theorem rising_sorted {ss : List (List UInt8)} (hn : ss.Nodup) : Rising (und (ss.mergeSort (fun x y => decide (x ≤ y)))) := by
  rw [Rising, dat_und]
  have hp := List.pairwise_mergeSort leB_trans leB_total ss
  have hnd : (ss.mergeSort (fun x y => decide (x ≤ y))).Nodup := (List.mergeSort_perm ss _).nodup_iff.2 hn
  exact (hp.and hnd).imp fun ⟨a, b⟩ => ⟨by simpa using a, b⟩
theorem strKeys_spec {H : Type} {P : Program} {k : TypeId} {R : Value → Option (DataW H × List MemPlace)} {w : World} {b n : Nat} {D0 : DataW H} (hown : w.ownsMap P k R b n D0) (K : Maps.Keyed P k) (hk : P.underlying k = some .string) :
    (strKeys D0).Nodup ∧ ∀ x, x ∈ strKeys D0 ↔ Maps.has D0 (.string x) = true := by
  obtain ⟨es, hD, hpw, _⟩ := hown.entries K
  obtain ⟨es', hD', hko⟩ := hown.keysOf
  obtain rfl : es = es' := by rw [hD] at hD'; simpa using hD'
  subst hD
  have hstr : ∀ p ∈ es, ∃ x, p.1 = .string x := fun p hp => by
    obtain ⟨v, hv⟩ := hko p hp
    obtain ⟨x, _, hx, _⟩ := Maps.keyOf_str hk hv
    exact ⟨x, hx⟩
  refine ⟨?_, fun x => ?_⟩
  · show (es.map fun p => strOf p.1).Nodup
    refine List.pairwise_map.2 (hpw.imp_of_mem fun {p q} hp' hq' hne e => hne ?_)
    obtain ⟨a, ha⟩ := hstr p hp'
    obtain ⟨b, hb⟩ := hstr q hq'
    rw [ha, hb] at e ⊢
    exact congrArg _ e
  · rw [Maps.has_eq, List.any_eq_true]
    show x ∈ (es.map fun p => strOf p.1) ↔ _
    rw [List.mem_map]
    constructor
    · rintro ⟨p, hp', rfl⟩
      obtain ⟨a, ha⟩ := hstr p hp'
      exact ⟨p, hp', by rw [ha]; simp [Lit.sameKey, strOf]⟩
    · rintro ⟨p, hp', hs⟩
      obtain ⟨a, ha⟩ := hstr p hp'
      rw [ha] at hs
      exact ⟨p, hp', by rw [ha]; simpa [Lit.sameKey, strOf] using hs⟩

theorem sort_own (A : Option Addr) (n cap : Nat) (l : List ByteArray) (w : World) (base : Nat) (h : Own RStr 9 w base (.slice A n cap) l) (hn : n ≤ 1000000) :
    Calls Tryz.prog 53 #[.slice A n cap] w fun e w' => e = .returned (.tuple #[]) ∧ Own RStr 9 w' base (.slice A n cap) (sortB l) ∧ w.grownBy w' (Value.ownBlock (.slice A n cap)) := by
  have hd := own_dat h
  have hl := h.len
  rcases hd.2 with ⟨e0, hn0⟩ | ⟨g, cap', cur, e0, hb, hg, h1, h2, h3, h4⟩
  · injection e0 with e1 e2 e3
    subst e1 e2 e3
    obtain rfl : l = [] := List.eq_nil_of_length_eq_zero hl
    refine (Tryz.slices_Sort_string_none none 0 w).mono ?_
    rintro e w' ⟨rfl, rfl⟩
    exact ⟨rfl, by rw [show sortB [] = [] by simp [sortB, dat, und]]; exact h, World.grownBy.refl _ _⟩
  · injection e0 with e1 e2 e3
    subst e1 e3
    subst e2
    have hdl : (dat l).length = l.length := by simp [dat]
    have hlt : g < w.heap.size := (Array.getElem?_eq_some_iff.1 hg).1
    have hc := Tryz.slices_Sort_string g 0 cap (dat l) w (holds_of_block hg (by rw [hdl]; simpa using h4)) hlt (by rw [hdl]; omega)
    rw [hdl] at hc
    refine hc.mono ?_
    rintro e w' ⟨rfl, m, os, rfl⟩
    have hr := ownsRow_sorted (n := m) (os := os) (ss := dat l) (ts := (dat l).mergeSort fun x y => decide (x ≤ y)) (by simp) hb hg (by rw [hdl]; exact h1) h2 h3
    rw [hdl] at hr
    refine ⟨rfl, own_und hr (by simp [dat]) (fun x hx => ?_), grownBy_sorted _⟩
    have hx := List.mem_mergeSort.1 hx
    rw [mem_dat] at hx
    have := h.2 _ hx
    have h5 : x.toArray.size ≤ maxLen := this
    simpa using h5

theorem comp_own (A : Option Addr) (n cap : Nat) (l : List ByteArray) (w : World) (base : Nat) (h : Own RStr 9 w base (.slice A n cap) l) (hn : n ≤ 1000000) (hbase : base ≤ w.heap.size) :
    Calls Tryz.prog 54 #[.slice A n cap] w fun e w' => ∃ k, k ≤ n ∧ e = .returned (.slice A k cap) ∧ Own RStr 9 w' base (.slice A k cap) (compB l) ∧ Below base w w' := by
  have hd := own_dat h
  have hl := h.len
  rcases hd.2 with ⟨e0, hn0⟩ | ⟨g, cap', cur, e0, hb, hg, h1, h2, h3, h4⟩
  · injection e0 with e1 e2 e3
    subst e1 e2 e3
    obtain rfl : l = [] := List.eq_nil_of_length_eq_zero hl
    refine (Tryz.slices_Compact_string_empty none 0 w).mono ?_
    rintro e w' ⟨rfl, rfl⟩
    exact ⟨0, Nat.le_refl _, rfl, by rw [show compB [] = [] by rfl]; exact h, (Below.refl _ _).mono hbase⟩
  · injection e0 with e1 e2 e3
    subst e1 e3
    subst e2
    have hdl : (dat l).length = l.length := by simp [dat]
    have hc := Tryz.slices_Compact_string g 0 cap (dat l) w (holds_of_block hg (by rw [hdl]; simpa using h4)) (by rw [hdl]; omega) (by rw [hdl]; exact h1)
    rw [hdl] at hc
    refine hc.mono ?_
    rintro e w' ⟨rfl, q, rfl⟩
    have hk : (Lib.compact (dat l)).length ≤ l.length := by have := Lib.compact_length_le (dat l); omega
    have hr := Lib.ownsRow_putRow (q := q) (k := (Lib.compact (dat l)).length) (zs := dat l) (ys := Lib.compact (dat l) ++ List.replicate (l.length - (Lib.compact (dat l)).length) []) hd (by simp; omega) hk
    rw [List.take_left] at hr
    refine ⟨_, hk, rfl, own_und hr rfl (fun x hx => ?_), Lib.below_putRow ((Below.refl _ _).mono hbase) hb⟩
    have hx : bsOf x ∈ compB l := by rw [compB, mem_und, data_bsOf]; exact hx
    have hsub : ∀ s, s ∈ compB l → s ∈ l := by
      intro s hs
      rw [compB, mem_und] at hs
      obtain ⟨j, hj, e⟩ := List.mem_map.1 (show s.data.toList ∈ ((List.range (dat l).length).filter (Lib.keeps (dat l).toArray)).map ((dat l).toArray[·]!) from hs)
      have hj2 : j < (dat l).length := List.mem_range.1 (List.mem_filter.1 hj).1
      have hm : s.data.toList ∈ dat l := by rw [← e, getElem!_pos _ j (by simpa using hj2)]; simp
      rw [mem_dat, bsOf_data] at hm
      exact hm
    have := h.2 _ (hsub _ hx)
    have h5 : x.toArray.size ≤ maxLen := this
    simpa using h5

/-- slices.Equal of two rows that read as one list -/
theorem equal_same (A1 A2 : Option Addr) (n1 c1 n2 c2 : Nat) (L : List ByteArray) (w : World) (h1 : SlAt RStr w A1 n1 L) (h2 : SlAt RStr w A2 n2 L) (hn : n1 ≤ 9223372036854775807) :
    Calls Tryz.prog 72 #[.slice A1 n1 c1, .slice A2 n2 c2] w fun e w' => e = .returned (.bool true) ∧ Below w.heap.size w w' := by
  obtain rfl : n1 = n2 := h1.1.symm.trans h2.1
  by_cases h0 : n1 = 0
  · subst h0
    refine (Tryz.slices_Equal_string_empty A1 A2 c1 0 c2 w (by omega)).mono ?_
    rintro e w' ⟨rfl, rfl⟩
    exact ⟨by simp, Below.refl _ _⟩
  · obtain ⟨b1, o1, rfl, _⟩ := h1.2.1 (by omega)
    obtain ⟨b2, o2, rfl, _⟩ := h2.2.1 (by omega)
    have hcell : ∀ {b o : Nat}, SlAt RStr w (some ⟨b, o, none⟩) n1 L → ∀ j, j < L.length → w.cell? ⟨b, o + j, none⟩ = some (.string (L.getD j ByteArray.empty)) := fun {b o} h j hj => by
      rw [List.getD_eq_getElem?_getD, List.getElem?_eq_getElem hj, Option.getD_some]
      exact cell_Str h (List.getElem?_eq_getElem hj)
    refine (Tryz.slices_Equal_string b1 o1 n1 c1 b2 o2 n1 c2 L L w (by rw [h1.1]; exact Nat.le_refl _) (by rw [h1.1]; exact Nat.le_refl _) hn hn (hcell h1) (hcell h2)).mono ?_
    rintro e w' ⟨rfl, q, rfl⟩
    exact ⟨by simp, bel_drewN (Below.refl _ _) q⟩
end Go.Proofs.YtgegdfmdcmgliaaGreatDoor.C11

namespace Go.Proofs.YtgegdfmdcmgliaaGreatDoor.C11
open Go.ChangeShapes Go.WideShapes Go.Deep Go.RowKit Go.Sort Go.Maps Go.Shelf
set_option linter.unusedVariables false

noncomputable def KB : KD Tryz.prog 9 ByteArray := KStr Tryz.underlying9
def valB (b : Bool) : Value := .bool b
theorem injB : InjV valB := fun _ _ h => by injection h

end Go.Proofs.YtgegdfmdcmgliaaGreatDoor.C11

namespace Go.Proofs.YtgegdfmdcmgliaaGreatDoor.C11
open Go.RowKit
set_option linter.unusedVariables false

/-- what Wrong hands back -/
def wrongR (l : List Claimed) (m : List Audit) : List Int × Int := if auditsF l m = 0 then (numsN (wrB l m) l.length, 0) else ([], auditsF l m)
/-- what Suspected hands back -/
def SuspAns (l : List Claimed) (m : List Audit) (c : Int) (L : List ByteArray) : Prop := if c = 0 then Rising L ∧ ∀ s, s ∈ L ↔ suB l m s = true else L = []
theorem SuspAns.eq {l : List Claimed} {m : List Audit} {c : Int} {L L' : List ByteArray} (h : SuspAns l m c L) (h' : SuspAns l m c L') : L = L' := by
  unfold SuspAns at h h'
  by_cases hc : c = 0
  · rw [if_pos hc] at h h'
    exact h.1.eq h'.1 (fun s => (h.2 s).trans (h'.2 s).symm)
  · rw [if_neg hc] at h h'
    rw [h, h']
theorem suB_size {l : List Claimed} {m : List Audit} (hr : ∀ a ∈ m, 0 ≤ a.number ∧ a.number < l.length) (hz : ∀ x ∈ l, x.writer.size ≤ maxLen) {s : ByteArray} (h : suB l m s = true) : s.size ≤ maxLen := by
  obtain ⟨a, h1, _, h3⟩ := suB_iff.1 h
  have h4 := hr a h1
  obtain ⟨k, hk⟩ : ∃ k : Nat, a.number = k := ⟨a.number.toNat, by omega⟩
  obtain ⟨x, hx⟩ : ∃ x, l[k]? = some x := ⟨l[k]'(by omega), List.getElem?_eq_getElem _⟩
  rw [hk, wriOf_get hx] at h3
  rw [← h3]
  exact hz x (List.mem_of_getElem? hx)
def StrsAns (l : List Claimed) (m : List Audit) (c : Int) (w0 : World) (e : Ending) (w' : World) : Prop :=
  ∃ (A : Option Addr) (n cap : Nat) (L : List ByteArray), e = .returned (.tuple #[.slice A n cap, .int .i64 c]) ∧ SlAt RStr w' A n L ∧ SuspAns l m c L ∧ n ≤ 1000 ∧ Below w0.heap.size w0 w'
theorem field_w (W : World) (v0 v1 v2 : Value) : (Instr.field 47 (.agg #[v0, v1, v2]) 1).run Tryz.prog W = .ok v1 W := by kernel_rfl
theorem field_s (W : World) (v0 v1 v2 : Value) : (Instr.field 47 (.agg #[v0, v1, v2]) 2).run Tryz.prog W = .ok v2 W := by kernel_rfl
theorem slAt_nilS (w : World) : SlAt RStr w none 0 [] := ⟨rfl, fun h => by omega, fun x hx => by cases hx⟩

set_option maxRecDepth 100000 in
set_option maxHeartbeats 1000000 in
theorem Wrong_any (A : Option Addr) (len cap : Nat) (l : List Claimed) (B : Option Addr) (mlen mcap : Nat) (m : List Audit) (w : World) (hm : MaxLenAt w) (hl : SlAt RClaimed w A len l) (hma : SlAt RAudit w B mlen m) (L : List Int) (c : Int) (hF : wrongR l m = (L, c)) :
    Calls Tryz.prog 13 #[.slice A len cap, .slice B mlen mcap] w (NumsAns L c w) := by
  unfold wrongR at hF
  obtain ⟨d, hd⟩ : ∃ d, auditsF l m = d := ⟨_, rfl⟩
  rw [hd] at hF
  have hmH := Lib.hid hm
  clear hm
  have hlH := Lib.hid hl
  clear hl
  have hmaH := Lib.hid hma
  clear hma
  have hdH := Lib.hid hd
  clear hd
  have hFH := Lib.hid hF
  clear hF
  go_enter Tryz.func13, Tryz.ntmps13
  go_wp2_with fail
  refine (audits_any A len cap l B mlen mcap m _ hmH.out hlH.out hmaH.out d hdH.out).mono ?_
  rintro e w1 ⟨rfl, hb1⟩
  have hb1H := Lib.hid hb1
  clear hb1
  have hF := hFH.out
  clear hFH
  by_cases e0 : d = 0
  · subst e0
    rw [if_pos rfl, Prod.mk.injEq] at hF
    obtain ⟨hL, rfl⟩ := hF
    obtain ⟨h1, h2, h3⟩ := audits_range hdH.out
    have hll := hlH.out.1
    have hml := hmaH.out.1
    have hn : len ≤ 1000 := by omega
    have hmn : mlen ≤ 1000 := by omega
    have h4 : ∀ a ∈ m, 0 ≤ a.number ∧ a.number < len := fun a ha => by have := h3 a ha; omega
    clear h1 h2 h3 hml
    have hLH := Lib.hid hL
    clear hL
    have hllH := Lib.hid hll
    clear hll
    have h4H := Lib.hid h4
    clear h4
    go_wp2_with fail
    refine (facts_any A len cap l B mlen mcap m _ hn hmn (hlH.out.below hb1H.out) (hmaH.out.below hb1H.out) h4H.out).mono ?_
    rintro e w2 ⟨b1, b2, b3, c3, rfl, hf, hb2⟩
    have hbb := hb1H.out.trans (hb2.mono hb1H.out.size)
    clear hb2
    have hfH := Lib.hid hf
    clear hf
    have hbbH := Lib.hid hbb
    clear hbb
    have hfd := field_w w2 (.slice (some ⟨b1, 0, none⟩) len len) (.slice (some ⟨b2, 0, none⟩) len len) (.map (some b3))
    go_wp2_with fail
    refine (numbers_any b2 len len (wrB l m) _ hn hfH.out.rw_).mono ?_
    rintro e w3 ⟨A3, k3, c3, rfl, hown, hk3, hb3⟩
    have hb4 := hbbH.out.trans (hb3.mono hbbH.out.size)
    have hsl := hown.slAt
    rw [← hllH.out, hLH.out] at hsl
    clear hown hb3
    have hslH := Lib.hid hsl
    clear hsl
    have hb4H := Lib.hid hb4
    clear hb4
    go_wp2
    go_ret2
    exact ⟨A3, k3, c3, rfl, hslH.out, by omega, hb4H.out⟩
  · rw [if_neg e0, Prod.mk.injEq] at hF
    obtain ⟨rfl, rfl⟩ := hF
    have e1 : (d != 0) = true := by simpa using e0
    clear e0
    go_wp2
    go_ret2
    exact ⟨none, 0, 0, rfl, slAt_nilI _, by omega, hb1H.out⟩

end Go.Proofs.YtgegdfmdcmgliaaGreatDoor.C11

namespace Go.Proofs.YtgegdfmdcmgliaaGreatDoor.C11
open Go.RowKit
set_option linter.unusedVariables false

theorem res5 {w wr : World} {v0 v1 v2 v3 v4 : Value} {T : TypeId} (hb : Below (w.alloc (.cells #[v0, v1, v2, v3, v4] T)).heap.size (w.alloc (.cells #[v0, v1, v2, v3, v4] T)) wr) :
    (wr.cell? ⟨w.heap.size, 0, none⟩ = some v0 ∧ wr.cell? ⟨w.heap.size, 1, none⟩ = some v1 ∧ wr.cell? ⟨w.heap.size, 2, none⟩ = some v2 ∧ wr.cell? ⟨w.heap.size, 3, none⟩ = some v3 ∧ wr.cell? ⟨w.heap.size, 4, none⟩ = some v4) ∧
    (wr.frozen? ⟨w.heap.size, 0, none⟩ = false ∧ wr.frozen? ⟨w.heap.size, 1, none⟩ = false ∧ wr.frozen? ⟨w.heap.size, 2, none⟩ = false ∧ wr.frozen? ⟨w.heap.size, 3, none⟩ = false ∧ wr.frozen? ⟨w.heap.size, 4, none⟩ = false) := by
  have hf : ∀ j, wr.frozen? ⟨w.heap.size, j, none⟩ = false := fun j => (hb.frozen (by simp)).trans (by simp only [World.frozen?, (MapKept.heap_alloc w (.cells #[v0, v1, v2, v3, v4] T)).1]; simp)
  exact ⟨⟨(hb.cell (by simp)).trans (by simp [go_sem]), (hb.cell (by simp)).trans (by simp [go_sem]), (hb.cell (by simp)).trans (by simp [go_sem]), (hb.cell (by simp)).trans (by simp [go_sem]), (hb.cell (by simp)).trans (by simp [go_sem])⟩, hf 0, hf 1, hf 2, hf 3, hf 4⟩

theorem five_set {w : World} {b : Nat} {u0 u1 u2 u3 u4 : Value} (v0 v1 v2 v3 v4 : Value) (h : w.cell? ⟨b, 0, none⟩ = some u0 ∧ w.cell? ⟨b, 1, none⟩ = some u1 ∧ w.cell? ⟨b, 2, none⟩ = some u2 ∧ w.cell? ⟨b, 3, none⟩ = some u3 ∧ w.cell? ⟨b, 4, none⟩ = some u4) :
    (((((w.setCell ⟨b, 0, none⟩ v0).setCell ⟨b, 1, none⟩ v1).setCell ⟨b, 2, none⟩ v2).setCell ⟨b, 3, none⟩ v3).setCell ⟨b, 4, none⟩ v4).cell? ⟨b, 0, none⟩ = some v0 ∧
    (((((w.setCell ⟨b, 0, none⟩ v0).setCell ⟨b, 1, none⟩ v1).setCell ⟨b, 2, none⟩ v2).setCell ⟨b, 3, none⟩ v3).setCell ⟨b, 4, none⟩ v4).cell? ⟨b, 1, none⟩ = some v1 ∧
    (((((w.setCell ⟨b, 0, none⟩ v0).setCell ⟨b, 1, none⟩ v1).setCell ⟨b, 2, none⟩ v2).setCell ⟨b, 3, none⟩ v3).setCell ⟨b, 4, none⟩ v4).cell? ⟨b, 2, none⟩ = some v2 ∧
    (((((w.setCell ⟨b, 0, none⟩ v0).setCell ⟨b, 1, none⟩ v1).setCell ⟨b, 2, none⟩ v2).setCell ⟨b, 3, none⟩ v3).setCell ⟨b, 4, none⟩ v4).cell? ⟨b, 3, none⟩ = some v3 ∧
    (((((w.setCell ⟨b, 0, none⟩ v0).setCell ⟨b, 1, none⟩ v1).setCell ⟨b, 2, none⟩ v2).setCell ⟨b, 3, none⟩ v3).setCell ⟨b, 4, none⟩ v4).cell? ⟨b, 4, none⟩ = some v4 := by
  obtain ⟨h0, h1, h2, h3, h4⟩ := h
  have o : ∀ (W : World) (i j : Nat) (v : Value), i ≠ j → (W.setCell ⟨b, i, none⟩ v).cell? ⟨b, j, none⟩ = W.cell? ⟨b, j, none⟩ := fun W i j v hij => World.cell?_setCell_other _ _ _ _ (by simp)
  have s : ∀ (W : World) (i : Nat) (v u : Value), W.cell? ⟨b, i, none⟩ = some u → (W.setCell ⟨b, i, none⟩ v).cell? ⟨b, i, none⟩ = some v := fun W i v u hu => World.cell?_setCell_same' _ _ _ (by rw [hu]; rfl)
  refine ⟨?_, ?_, ?_, ?_, ?_⟩
  · rw [o _ 4 0 _ (by omega), o _ 3 0 _ (by omega), o _ 2 0 _ (by omega), o _ 1 0 _ (by omega)]; exact s _ 0 _ u0 h0
  · rw [o _ 4 1 _ (by omega), o _ 3 1 _ (by omega), o _ 2 1 _ (by omega)]; exact s _ 1 _ u1 (by rw [o _ 0 1 _ (by omega)]; exact h1)
  · rw [o _ 4 2 _ (by omega), o _ 3 2 _ (by omega)]; exact s _ 2 _ u2 (by rw [o _ 1 2 _ (by omega), o _ 0 2 _ (by omega)]; exact h2)
  · rw [o _ 4 3 _ (by omega)]; exact s _ 3 _ u3 (by rw [o _ 2 3 _ (by omega), o _ 1 3 _ (by omega), o _ 0 3 _ (by omega)]; exact h3)
  · exact s _ 4 _ u4 (by rw [o _ 3 4 _ (by omega), o _ 2 4 _ (by omega), o _ 1 4 _ (by omega), o _ 0 4 _ (by omega)]; exact h4)

def zwr : Writer := ⟨⟨#[]⟩, ⟨#[]⟩, ⟨none, 0, 0, []⟩, 0, 0⟩
def wrV (x : Writer) : Value := .agg #[.string x.name, .string x.secret, .slice x.prefixes.A x.prefixes.n x.prefixes.cap, .int .i64 x.from_, .int .i64 x.to_]
def FindAns (l : List Writer) (s : ByteArray) (w0 : World) (e : Ending) (w' : World) : Prop :=
  ∃ x : Writer, e = .returned (.tuple #[.agg #[.string x.name, .string x.secret, .slice x.prefixes.A x.prefixes.n x.prefixes.cap, .int .i64 x.from_, .int .i64 x.to_], .bool (hasName l s)]) ∧ (hasName l s = true → l[ixName l s]? = some x) ∧ Below w0.heap.size w0 w'

set_option maxHeartbeats 2000000 in
theorem find_any (A : Option Addr) (n c : Nat) (l : List Writer) (s : ByteArray) (w : World) (hn : n ≤ 50) (hl : SlAt RWriter w A n l) (hr : l.Pairwise fun a b => cmpS a.name b.name = -1) :
    Calls Tryz.prog 51 #[.slice A n c, .string s] w (FindAns l s w) := by
  have hba := (Below.refl w.heap.size w).alloc (Nat.le_refl _) (.cells #[.string ⟨#[]⟩, .string ⟨#[]⟩, .slice none 0 0, .int .i64 0, .int .i64 0] 55)
  have hll := hl.1
  have hlH := Lib.hid hl
  clear hl
  have hrH := Lib.hid hr
  clear hr
  have hbaH := Lib.hid hba
  clear hba
  have hllH := Lib.hid hll
  clear hll
  go_enter Tryz.func51, Tryz.ntmps51
  go_wp2_with fail
  refine (bsf_writer A n c l s _ hn (hlH.out.below hbaH.out) hrH.out).mono ?_
  rintro e w1 ⟨i, rfl, hi, hw1⟩
  obtain ⟨q, f0, f1, f2, f3, f4⟩ := res5 hw1
  have hbr := hbaH.out.trans (hw1.mono hbaH.out.size)
  obtain ⟨h, hh⟩ : ∃ h, hasName l s = h := ⟨_, rfl⟩
  rw [hh] at hi ⊢
  cases h
  · obtain ⟨d0, d1, d2, d3, d4⟩ := five_set (.string ⟨#[]⟩) (.string ⟨#[]⟩) (.slice none 0 0) (.int .i64 0) (.int .i64 0) q
    obtain ⟨q0, q1, q2, q3, q4⟩ := q
    clear hi
    have hbrH := Lib.hid hbr
    clear hbr
    have hw1H := Lib.hid hw1
    clear hw1
    have hhH := Lib.hid hh
    clear hh
    go_wp2
    exact bodyPost_ret (v := .tuple #[.agg #[.string ⟨#[]⟩, .string ⟨#[]⟩, .slice none 0 0, .int .i64 0, .int .i64 0], .bool false]) (by simp [results, Tryz.results51, go_sem, d0, d1, d2, d3, d4]) rfl ⟨zwr, by rw [hhH.out]; rfl, fun h => (by rw [hhH.out] at h; cases h), (((((hbrH.out).setCell (Nat.le_refl _) _).setCell (Nat.le_refl _) _).setCell (Nat.le_refl _) _).setCell (Nat.le_refl _) _).setCell (Nat.le_refl _) _⟩
  · obtain rfl : i = ixName l s := hi rfl
    obtain ⟨x, hx, hxs⟩ := ixName_get hh
    have hlt := ixName_lt hh
    obtain ⟨k, hk⟩ : ∃ k, ixName l s = k := ⟨_, rfl⟩
    rw [hk] at hx hlt ⊢
    have hln := hllH.out
    obtain ⟨b, off, hA, _⟩ := hlH.out.2.1 (by omega)
    subst hA
    obtain ⟨c0, c1, c2, c3, c4⟩ := cells_Writer (hlH.out.below hbr) hx
    obtain ⟨d0, d1, d2, d3, d4⟩ := five_set (.string x.name) (.string x.secret) (.slice x.prefixes.A x.prefixes.n x.prefixes.cap) (.int .i64 x.from_) (.int .i64 x.to_) q
    obtain ⟨q0, q1, q2, q3, q4⟩ := q
    have hkn : k < n := by omega
    clear hi hln hlt
    have hbrH := Lib.hid hbr
    clear hbr
    have hw1H := Lib.hid hw1
    clear hw1
    have hhH := Lib.hid hh
    clear hh
    have hxH := Lib.hid hx
    clear hx
    have hxsH := Lib.hid hxs
    clear hxs
    have hkH := Lib.hid hk
    clear hk
    go_wp2
    exact bodyPost_ret (v := .tuple #[.agg #[.string x.name, .string x.secret, .slice x.prefixes.A x.prefixes.n x.prefixes.cap, .int .i64 x.from_, .int .i64 x.to_], .bool true]) (by simp [results, Tryz.results51, go_sem, d0, d1, d2, d3, d4]) rfl ⟨x, by rw [hhH.out], fun _ => (by rw [hkH.out]; exact hxH.out), (((((hbrH.out).setCell (Nat.le_refl _) _).setCell (Nat.le_refl _) _).setCell (Nat.le_refl _) _).setCell (Nat.le_refl _) _).setCell (Nat.le_refl _) _⟩
end Go.Proofs.YtgegdfmdcmgliaaGreatDoor.C11

namespace Go.Proofs.YtgegdfmdcmgliaaGreatDoor.C11
open Go.RowKit
set_option linter.unusedVariables false

theorem mayfn_any (label p : ByteArray) (w : World) (a : Addr) (ha : w.cell? a = some (.string label)) :
    Calls Tryz.prog 84 #[.string p, .pointer (some a)] w fun e w' => e = .returned (.bool (Lib.hasPrefix label.data.toList p.data.toList)) ∧ Below w.heap.size w w' := by
  go_enter Tryz.func84, Tryz.ntmps84
  go_wp2_with (go_at_call 85; refine (Tryz.strings_HasPrefix _ _ _).mono ?_; rintro e wz ⟨rfl, hwz⟩; rw [hwz]; clear hwz; clear wz)
  go_ret
  exact ⟨rfl, Below.refl _ _⟩

set_option maxHeartbeats 2000000 in
theorem may_any (x : Writer) (label : ByteArray) (at_ : Int) (w : World) (hok : RWriter.ok w x) (b : Bool) (hb : mayB x label at_ = b) :
    Calls Tryz.prog 52 #[.agg #[.string x.name, .string x.secret, .slice x.prefixes.A x.prefixes.n x.prefixes.cap, .int .i64 x.from_, .int .i64 x.to_], .string label, .int .i64 at_] w fun e w' =>
      e = .returned (.bool b) ∧ Below w.heap.size w w' := by
  obtain ⟨nm, se, ⟨A, n, cap, l⟩, fr, tt⟩ := x
  obtain ⟨o0, o1, o2, o3, o4⟩ := hok
  simp only at o0 o1 o2 o3 o4 ⊢
  unfold mayB at hb
  simp only at hb
  have han9 : n ≤ 9223372036854775807 := Nat.le_trans o2.2.1 o2.2.2.1
  have hl : SlAt RStr w A n l := o2.1
  have hba := ((Below.refl w.heap.size w).alloc (Nat.le_refl _) (.cells #[.string nm, .string se, .slice A n cap, .int .i64 fr, .int .i64 tt] 55)).alloc (by simp) (.cells #[.string label] 9)
  have hcell : ((w.alloc (.cells #[.string nm, .string se, .slice A n cap, .int .i64 fr, .int .i64 tt] 55)).alloc (.cells #[.string label] 9)).cell? ⟨w.heap.size + 1, 0, none⟩ = some (.string label) := by simp [go_sem]
  obtain ⟨r, hr⟩ : ∃ r, l.any (fun p => Lib.hasPrefix label.data.toList p.data.toList) = r := ⟨_, rfl⟩
  rw [hr] at hb
  by_cases h1 : fr ≤ at_
  · by_cases h2 : at_ < tt
    · rw [decide_eq_true h1, decide_eq_true h2] at hb
      have hb : r = b := hb
      subst hb
      have hlH := Lib.hid hl
      clear hl
      have hbaH := Lib.hid hba
      clear hba
      have o0H := Lib.hid o0
      clear o0
      have o1H := Lib.hid o1
      clear o1
      have o2H := Lib.hid o2
      clear o2
      have o3H := Lib.hid o3
      clear o3
      have o4H := Lib.hid o4
      clear o4
      have hrH := Lib.hid hr
      clear hr
      have hcellH := Lib.hid hcell
      clear hcell
      go_enter Tryz.func52, Tryz.ntmps52
      go_wp2_with fail
      refine (containsFunc_any 84 #[.pointer (some ⟨w.heap.size + 1, 0, none⟩)] (enters_of Tryz.func84 (by kernel_rfl) rfl) (fun p => Lib.hasPrefix label.data.toList p.data.toList) A n cap l _ (hlH.out.below hbaH.out) han9 (fun W p _ hW => mayfn_any label p W _ ((hW.cell (by simp)).trans hcellH.out)) r hrH.out).mono ?_
      rintro e w1 ⟨rfl, hw1⟩
      have hbr := hbaH.out.trans (hw1.mono hbaH.out.size)
      have hbrH := Lib.hid hbr
      clear hbr
      have hw1H := Lib.hid hw1
      clear hw1
      go_wp2
      go_ret
      exact ⟨rfl, hbrH.out⟩
    · have h2d : decide (at_ < tt) = false := decide_eq_false h2
      rw [h2d, Bool.and_false, Bool.false_and] at hb
      subst hb
      have hlH := Lib.hid hl
      clear hl
      have hbaH := Lib.hid hba
      clear hba
      have o0H := Lib.hid o0
      clear o0
      have o1H := Lib.hid o1
      clear o1
      have o2H := Lib.hid o2
      clear o2
      have o3H := Lib.hid o3
      clear o3
      have o4H := Lib.hid o4
      clear o4
      have hrH := Lib.hid hr
      clear hr
      have hcellH := Lib.hid hcell
      clear hcell
      go_enter Tryz.func52, Tryz.ntmps52
      go_wp2_with fail
      go_ret
      exact ⟨rfl, hbaH.out⟩
  · have h1d : decide (fr ≤ at_) = false := decide_eq_false h1
    rw [h1d, Bool.false_and, Bool.false_and] at hb
    subst hb
    have hlH := Lib.hid hl
    clear hl
    have hbaH := Lib.hid hba
    clear hba
    have o0H := Lib.hid o0
    clear o0
    have o1H := Lib.hid o1
    clear o1
    have o2H := Lib.hid o2
    clear o2
    have o3H := Lib.hid o3
    clear o3
    have o4H := Lib.hid o4
    clear o4
    have hrH := Lib.hid hr
    clear hr
    have hcellH := Lib.hid hcell
    clear hcell
    go_enter Tryz.func52, Tryz.ntmps52
    go_wp2_with fail
    go_ret
    exact ⟨rfl, hbaH.out⟩

end Go.Proofs.YtgegdfmdcmgliaaGreatDoor.C11

namespace Go.Proofs.YtgegdfmdcmgliaaGreatDoor.C11
open Go.RowKit
set_option linter.unusedVariables false


set_option maxHeartbeats 2000000 in
theorem May_any (A : Option Addr) (n c : Nat) (l : List Writer) (s label : ByteArray) (at_ : Int) (w : World) (hm : MaxLenAt w) (hl : SlAt RWriter w A n l) (hs : s.size ≤ maxLen) (hls : label.size ≤ 1048576) (f : Int) (hf : mayF l s label at_ = f) (r : Bool) (hr : mayR l s label at_ = r) :
    Calls Tryz.prog 24 #[.slice A n c, .string s, .string label, .int .i64 at_] w fun e w' => e = .returned (.tuple #[.bool r, .int .i64 f]) ∧ Below w.heap.size w w' := by
  have hb := Below.refl w.heap.size w
  have hll := hl.1
  unfold mayR at hr
  rw [hf] at hr
  unfold mayF at hf
  obtain ⟨f1, hf1⟩ : ∃ x, writersF l = x := ⟨_, rfl⟩
  obtain ⟨b2, hb2⟩ : ∃ x, wordB s = x := ⟨_, rfl⟩
  obtain ⟨b3, hb3⟩ : ∃ x, labelL label.data.toList = x := ⟨_, rfl⟩
  rw [hf1, hb2, hb3] at hf
  have hlH := Lib.hid hl
  clear hl
  have hmH := Lib.hid hm
  clear hm
  have hbH := Lib.hid hb
  clear hb
  have hllH := Lib.hid hll
  clear hll
  have hsH := Lib.hid hs
  clear hs
  have hrH := Lib.hid hr
  clear hr
  have hfH := Lib.hid hf
  clear hf
  have hf1H := Lib.hid hf1
  clear hf1
  have hb2H := Lib.hid hb2
  clear hb2
  have hb3H := Lib.hid hb3
  clear hb3
  go_enter Tryz.func24, Tryz.ntmps24
  go_wp2_with fail
  refine (writers_any A n c l _ (hlH.out.below hbH.out) f1 hf1H.out).mono ?_
  rintro e w1 ⟨rfl, hw⟩
  have hb := hbH.out.trans (hw.mono hbH.out.size)
  clear hbH hw
  have hbH := Lib.hid hb
  clear hb
  have hf := hfH.out
  have hr := hrH.out
  clear hfH hrH
  by_cases e1 : f1 = 0
  · subst e1
    rw [if_pos rfl] at hf
    cases b2
    · rw [if_neg (by decide)] at hf
      subst hf
      rw [if_neg (by decide)] at hr
      subst hr
      go_wp2_with fail
      refine (word_any s false _ hsH.out hb2H.out).mono ?_
      rintro e w2 ⟨rfl, hw⟩
      have hb := hbH.out.trans (hw.mono hbH.out.size)
      clear hbH hw
      have hbH := Lib.hid hb
      clear hb
      go_wp2
      go_ret2
      exact ⟨rfl, hbH.out⟩
    · rw [if_pos rfl] at hf
      cases b3
      · rw [if_neg (by decide)] at hf
        subst hf
        rw [if_neg (by decide)] at hr
        subst hr
        go_wp2_with fail
        refine (word_any s true _ hsH.out hb2H.out).mono ?_
        rintro e w2 ⟨rfl, hw⟩
        have hb := hbH.out.trans (hw.mono hbH.out.size)
        clear hbH hw
        have hbH := Lib.hid hb
        clear hb
        go_wp2_with fail
        refine (isWhole_any label _ (hmH.out.below hbH.out) hls false hb3H.out).mono ?_
        rintro e w3 ⟨rfl, hw⟩
        have hb := hbH.out.trans (hw.mono hbH.out.size)
        clear hbH hw
        have hbH := Lib.hid hb
        clear hb
        go_wp2
        go_ret2
        exact ⟨rfl, hbH.out⟩
      · rw [if_pos rfl] at hf
        by_cases i1 : inR 0 1000000000 at_ = true
        · rw [if_pos i1] at hf
          subst hf
          rw [if_pos rfl] at hr
          obtain ⟨h50, hwe⟩ := writers_len hf1H.out
          have hn50 : n ≤ 50 := by have := hllH.out; omega
          have hrise := (writers_rise l none hwe).1
          clear h50 hwe
          have hrH := Lib.hid hr
          clear hr
          have hriseH := Lib.hid hrise
          clear hrise
          go_wp2_with fail
          refine (word_any s true _ hsH.out hb2H.out).mono ?_
          rintro e w2 ⟨rfl, hw⟩
          have hb := hbH.out.trans (hw.mono hbH.out.size)
          clear hbH hw
          have hbH := Lib.hid hb
          clear hb
          go_wp2_with fail
          refine (isWhole_any label _ (hmH.out.below hbH.out) hls true hb3H.out).mono ?_
          rintro e w3 ⟨rfl, hw⟩
          have hb := hbH.out.trans (hw.mono hbH.out.size)
          clear hbH hw
          have hbH := Lib.hid hb
          clear hb
          go_wp2_with (go_at_call 20; refine (within_p _ _ _ _).mono ?_; rintro e wz ⟨rfl, rfl⟩)
          obtain ⟨w4, rfl⟩ : ∃ W, W = wz := ⟨_, rfl⟩
          refine (find_any A n c l s _ hn50 (hlH.out.below hbH.out) hriseH.out).mono ?_
          rintro e w5 ⟨x, rfl, hx, hw⟩
          have hb := hbH.out.trans (hw.mono hbH.out.size)
          clear hbH hw
          have hr := hrH.out
          clear hrH
          obtain ⟨h, hh⟩ : ∃ h, hasName l s = h := ⟨_, rfl⟩
          rw [hh] at hx ⊢
          cases h
          · rw [mayOf_out hh] at hr
            subst hr
            have hbq := hb.alloc hb.size (.cells #[.string x.name, .string x.secret, .slice x.prefixes.A x.prefixes.n x.prefixes.cap, .int .i64 x.from_, .int .i64 x.to_] 55)
            clear hx
            have hbH := Lib.hid hb
            clear hb
            have hbqH := Lib.hid hbq
            clear hbq
            have hhH := Lib.hid hh
            clear hh
            go_wp2
            go_ret2
            exact ⟨rfl, hbqH.out⟩
          · have hx := hx rfl
            rw [mayOf_in hh hx] at hr
            have hok := hlH.out.2.2 x (List.mem_of_getElem? hx)
            have hbq := hb.alloc hb.size (.cells #[.string x.name, .string x.secret, .slice x.prefixes.A x.prefixes.n x.prefixes.cap, .int .i64 x.from_, .int .i64 x.to_] 55)
            have hcall := may_any x label at_ _ (RWriter.mono _ _ _ hbq hok) r hr
            have hbH := Lib.hid hb
            clear hb
            have hbqH := Lib.hid hbq
            clear hbq
            have hhH := Lib.hid hh
            clear hh
            have hxH := Lib.hid hx
            clear hx
            have hrH := Lib.hid hr
            clear hr
            have hokH := Lib.hid hok
            clear hok
            have hcallH := Lib.hid hcall
            clear hcall
            go_wp2_with fail
            refine hcallH.out.mono ?_
            rintro e w6 ⟨rfl, hw⟩
            have hb := hbqH.out.trans (hw.mono hbqH.out.size)
            have hbH := Lib.hid hb
            clear hb
            have hwH := Lib.hid hw
            clear hw
            go_wp2
            go_ret2
            exact ⟨rfl, by assumption⟩
        · rw [if_neg i1] at hf
          have i1 : inR 0 1000000000 at_ = false := by simpa using i1
          subst hf
          rw [if_neg (by decide)] at hr
          subst hr
          go_wp2_with fail
          refine (word_any s true _ hsH.out hb2H.out).mono ?_
          rintro e w2 ⟨rfl, hw⟩
          have hb := hbH.out.trans (hw.mono hbH.out.size)
          clear hbH hw
          have hbH := Lib.hid hb
          clear hb
          go_wp2_with fail
          refine (isWhole_any label _ (hmH.out.below hbH.out) hls true hb3H.out).mono ?_
          rintro e w3 ⟨rfl, hw⟩
          have hb := hbH.out.trans (hw.mono hbH.out.size)
          clear hbH hw
          have hbH := Lib.hid hb
          clear hb
          go_wp2_with (go_at_call 20; refine (within_p _ _ _ _).mono ?_; rintro e wz ⟨rfl, rfl⟩)
          go_ret2
          exact ⟨rfl, hbH.out⟩
  · rw [if_neg e1] at hf
    subst hf
    have e2 : (f1 != 0) = true := by simpa using e1
    rw [if_neg e1] at hr
    subst hr
    clear e1
    go_wp2
    go_ret2
    exact ⟨rfl, hbH.out⟩
end Go.Proofs.YtgegdfmdcmgliaaGreatDoor.C11

namespace Go.Proofs.YtgegdfmdcmgliaaGreatDoor.C11
open Go.RowKit
set_option linter.unusedVariables false

def apS : ByteArray := ⟨#[47, 47, 97, 112, 112]⟩
def apL : ByteArray := ⟨#[47, 47, 97, 112, 112, 108, 101, 58, 120]⟩
def awW (b : Nat) : Writer := ⟨⟨#[97]⟩, ⟨#[115]⟩, ⟨some ⟨b, 0, none⟩, 1, 1, [apS]⟩, 0, 5⟩
theorem cells_one {α : Type} {R : Rd α} {W : World} {b : Nat} {x : α} (h : ∀ j v, (R.vals x)[j]? = some v → W.cell? ⟨b, j, none⟩ = some v) (hx : R.ok W x) : SlAt R W (some ⟨b, 0, none⟩) 1 [x] := by
  refine ⟨rfl, fun _ => ⟨b, 0, rfl, fun i y hy j v hv => ?_⟩, fun y hy => ?_⟩
  · match i, hy with
    | 0, hy =>
      simp only [List.getElem?_cons_zero, Option.some.injEq] at hy
      subst hy
      simpa using h j v hv
    | i + 1, hy => simp at hy
  · rw [List.mem_singleton.1 hy]; exact hx
theorem awW_at {W : World} {b0 b1 : Nat} (h : W.cell? ⟨b0, 0, none⟩ = some (.string apS)) (h0 : W.cell? ⟨b1, 0, none⟩ = some (.string ⟨#[97]⟩)) (h1 : W.cell? ⟨b1, 1, none⟩ = some (.string ⟨#[115]⟩))
    (h2 : W.cell? ⟨b1, 2, none⟩ = some (.slice (some ⟨b0, 0, none⟩) 1 1)) (h3 : W.cell? ⟨b1, 3, none⟩ = some (.int .i64 0)) (h4 : W.cell? ⟨b1, 4, none⟩ = some (.int .i64 5)) :
    SlAt RWriter W (some ⟨b1, 0, none⟩) 1 [awW b0] := by
  refine cells_one (fun j v hv => ?_) ⟨?_, ?_, ⟨cells_one (fun j v hv => ?_) ?_, Nat.le_refl _, ?_, ?_⟩, ?_, ?_⟩
  · match j, hv with
    | 0, hv => simp [RWriter, awW] at hv; subst hv; exact h0
    | 1, hv => simp [RWriter, awW] at hv; subst hv; exact h1
    | 2, hv => simp [RWriter, awW] at hv; subst hv; exact h2
    | 3, hv => simp [RWriter, awW] at hv; subst hv; exact h3
    | 4, hv => simp [RWriter, awW] at hv; subst hv; exact h4
    | j + 5, hv => simp [RWriter] at hv
  · show ByteArray.size ⟨#[97]⟩ ≤ maxLen
    decide +kernel
  · show ByteArray.size ⟨#[115]⟩ ≤ maxLen
    decide +kernel
  · match j, hv with
    | 0, hv => simp [RStr] at hv; subst hv; exact h
    | j + 1, hv => simp [RStr] at hv
  · show apS.size ≤ maxLen
    decide +kernel
  · show 1 ≤ maxLen
    decide
  · intro h; cases h
  · show RInt.ok W 0
    exact ⟨by decide, by decide⟩
  · show RInt.ok W 5
    exact ⟨by decide, by decide⟩
theorem aw_F (b : Nat) : mayF [awW b] ⟨#[97]⟩ apL 4 = 0 ∧ mayF [awW b] ⟨#[97]⟩ apL 5 = 0 ∧ mayR [awW b] ⟨#[97]⟩ apL 4 = true ∧ mayR [awW b] ⟨#[97]⟩ apL 5 = false := by
  have e : ∀ b, mayF [awW b] ⟨#[97]⟩ apL 4 = mayF [awW 0] ⟨#[97]⟩ apL 4 ∧ mayF [awW b] ⟨#[97]⟩ apL 5 = mayF [awW 0] ⟨#[97]⟩ apL 5 ∧ mayR [awW b] ⟨#[97]⟩ apL 4 = mayR [awW 0] ⟨#[97]⟩ apL 4 ∧ mayR [awW b] ⟨#[97]⟩ apL 5 = mayR [awW 0] ⟨#[97]⟩ apL 5 := fun b => ⟨rfl, rfl, rfl, rfl⟩
  obtain ⟨e1, e2, e3, e4⟩ := e b
  rw [e1, e2, e3, e4]
  decide +kernel

theorem awake_any (w : World) (hm : MaxLenAt w) : Calls Tryz.prog 8 #[] w fun e w' => e = .returned (.bool true) ∧ Below w.heap.size w w' := by
  obtain ⟨f1, f2, r1, r2⟩ := aw_F w.heap.size
  have ha : ByteArray.size ⟨#[97]⟩ ≤ maxLen := by decide +kernel
  have hs : apL.size ≤ 1048576 := by decide +kernel
  go_enter Tryz.func8, Tryz.ntmps8
  go_wp2_with fail
  have hb := ((Below.refl w.heap.size w).alloc (Nat.le_refl _) (.cells #[.string apS] 9)).alloc (by simp) (.cells #[.string ⟨#[97]⟩, .string ⟨#[115]⟩, .slice (some ⟨w.heap.size, 0, none⟩) 1 1, .int .i64 0, .int .i64 5] 55)
  have hl : SlAt RWriter ((w.alloc (.cells #[.string apS] 9)).alloc (.cells #[.string ⟨#[97]⟩, .string ⟨#[115]⟩, .slice (some ⟨w.heap.size, 0, none⟩) 1 1, .int .i64 0, .int .i64 5] 55)) (some ⟨w.heap.size + 1, 0, none⟩) 1 [awW w.heap.size] :=
    awW_at (by simp [go_sem]) (by simp [go_sem]) (by simp [go_sem]) (by simp [go_sem]) (by simp [go_sem]) (by simp [go_sem])
  have hbH := Lib.hid hb
  clear hb
  have hlH := Lib.hid hl
  clear hl
  have f1H := Lib.hid f1
  clear f1
  have f2H := Lib.hid f2
  clear f2
  have r1H := Lib.hid r1
  clear r1
  have r2H := Lib.hid r2
  clear r2
  have haH := Lib.hid ha
  clear ha
  have hsH := Lib.hid hs
  clear hs
  have hmH := Lib.hid hm
  clear hm
  refine (May_any (some ⟨w.heap.size + 1, 0, none⟩) 1 1 [awW w.heap.size] ⟨#[97]⟩ apL 4 _ (hmH.out.below hbH.out) hlH.out haH.out hsH.out 0 f1H.out true r1H.out).mono ?_
  rintro e w1 ⟨rfl, hw⟩
  have hb := hbH.out.trans (hw.mono hbH.out.size)
  have hl := hlH.out.below hw
  clear hbH hlH
  have hbH := Lib.hid hb
  clear hb
  have hlH := Lib.hid hl
  clear hl
  have hwH := Lib.hid hw
  clear hw
  go_wp2_with fail
  refine (May_any (some ⟨w.heap.size + 1, 0, none⟩) 1 1 [awW w.heap.size] ⟨#[97]⟩ apL 5 _ (hmH.out.below hbH.out) hlH.out haH.out hsH.out 0 f2H.out false r2H.out).mono ?_
  rintro e w2 ⟨rfl, hw⟩
  have hb := hbH.out.trans (hw.mono hbH.out.size)
  clear hbH hlH hwH
  have hbH := Lib.hid hb
  clear hb
  have hwH := Lib.hid hw
  clear hw
  go_wp2
  go_ret
  exact ⟨rfl, hbH.out⟩
end Go.Proofs.YtgegdfmdcmgliaaGreatDoor.C11

namespace Go.Proofs.YtgegdfmdcmgliaaGreatDoor.C11
open Go.RowKit
set_option linter.unusedVariables false

theorem elem_Str : Elem Tryz.prog 9 RStr.size 16 := elem_of (z := .string ByteArray.empty) (by kernel_rfl) (by decide)
def namesOf (l : List Claimed) (L : List Int) : List ByteArray := L.map (wriOf l)
theorem names_mem {l : List Claimed} {m : List Audit} (hr : ∀ a ∈ m, 0 ≤ a.number ∧ a.number < l.length) (s : ByteArray) : s ∈ namesOf l (numsN (wrB l m) l.length) ↔ suB l m s = true := by
  unfold namesOf
  rw [List.mem_map, suB_end hr, endB_iff]
  constructor
  · rintro ⟨z, hz, rfl⟩
    obtain ⟨i, h1, h2, rfl⟩ := numsN_mem.1 hz
    exact ⟨i, h1, h2, rfl⟩
  · rintro ⟨k, h1, h2, h3⟩
    exact ⟨(k : Int), numsN_mem.2 ⟨k, h1, h2, rfl⟩, h3⟩
def WnRel (l : List Claimed) (L : List Int) (w0 : World) (v i : Value) (wr : World) : Prop :=
  ∃ (j n cap : Nat) (A : Option Addr), j ≤ L.length ∧ i = .int .i64 j ∧ v = .slice A n cap ∧ Own RStr 9 wr w0.heap.size v (namesOf l (L.take j)) ∧ Below w0.heap.size w0 wr

end Go.Proofs.YtgegdfmdcmgliaaGreatDoor.C11
