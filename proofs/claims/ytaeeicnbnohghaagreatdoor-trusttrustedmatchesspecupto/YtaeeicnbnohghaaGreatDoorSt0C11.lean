/-
  Several texts of mine as one: XStateP, XDbt, XUses, XWrong, XContI, XLawWrong.
-/
import Derived.Test.YtaeeicnbnohghaaGreatDoorFactsDC11
import Derived.Test.YtaeeicnbnohghaaGreatDoorFactsC11
import Derived.Test.YtaeeicnbnohghaaGreatDoorStr
import Derived.Test.YtaeeicnbnohghaaGreatDoorTaintedC11
import Derived.Test.YtaeeicnbnohghaaGreatDoorKeysC11
import Derived.Test.YtaeeicnbnohghaaGreatDoorRead
import Derived.Test.YtaeeicnbnohghaaGreatDoorShelf
import Derived.Test.YtaeeicnbnohghaaGreatDoorAwake11C11
namespace Go.Proofs.YtaeeicnbnohghaaGreatDoor.C11
open Go.RowKit
set_option linter.unusedVariables false

theorem wrB_iff {l : List Claimed} {m : List Audit} {k : Nat} : wrB l m k = true ↔ ∃ a ∈ m, a.number = k ∧ badA l a = true := by
  unfold wrB
  rw [List.any_eq_true]
  constructor
  · rintro ⟨a, h1, h2⟩
    rw [Bool.and_eq_true, decide_eq_true_iff] at h2
    exact ⟨a, h1, h2.1, h2.2⟩
  · rintro ⟨a, h1, h2, h3⟩
    exact ⟨a, h1, by rw [Bool.and_eq_true, decide_eq_true_iff]; exact ⟨h2, h3⟩⟩
theorem endB_iff {l : List Claimed} {m : List Audit} : ∀ {n : Nat} {s : ByteArray}, endB l m n s = true ↔ ∃ k, k < n ∧ wrB l m k = true ∧ wriOf l k = s
  | 0, s => by
    constructor
    · intro h; cases h
    · rintro ⟨k, h, _⟩; omega
  | n + 1, s => by
    show (endB l m n s || (wrB l m n && decide (wriOf l n = s))) = true ↔ _
    rw [Bool.or_eq_true, Bool.and_eq_true, decide_eq_true_iff, endB_iff]
    constructor
    · rintro (⟨k, h1, h2, h3⟩ | ⟨h1, h2⟩)
      · exact ⟨k, by omega, h2, h3⟩
      · exact ⟨n, by omega, h1, h2⟩
    · rintro ⟨k, h1, h2, h3⟩
      rcases Nat.lt_or_ge k n with h | h
      · exact .inl ⟨k, h, h2, h3⟩
      · obtain rfl : k = n := by omega
        exact .inr ⟨h2, h3⟩
theorem suB_iff {l : List Claimed} {m : List Audit} {s : ByteArray} : suB l m s = true ↔ ∃ a ∈ m, badA l a = true ∧ wriOf l a.number = s := by
  unfold suB
  rw [List.any_eq_true]
  constructor
  · rintro ⟨a, h1, h2⟩
    rw [Bool.and_eq_true, decide_eq_true_iff] at h2
    exact ⟨a, h1, h2.1, h2.2⟩
  · rintro ⟨a, h1, h2, h3⟩
    exact ⟨a, h1, by rw [Bool.and_eq_true, decide_eq_true_iff]; exact ⟨h2, h3⟩⟩
theorem suB_end {l : List Claimed} {m : List Audit} {n : Nat} (hr : ∀ a ∈ m, 0 ≤ a.number ∧ a.number < n) (s : ByteArray) : suB l m s = endB l m n s := by
  rw [Bool.eq_iff_iff, suB_iff, endB_iff]
  constructor
  · rintro ⟨a, h1, h2, h3⟩
    have h4 := hr a h1
    refine ⟨a.number.toNat, by omega, wrB_iff.2 ⟨a, h1, by omega, h2⟩, ?_⟩
    rw [show ((a.number.toNat : Nat) : Int) = a.number by omega]
    exact h3
  · rintro ⟨k, h1, h2, h3⟩
    obtain ⟨a, g1, g2, g3⟩ := wrB_iff.1 h2
    exact ⟨a, g1, g3, by rw [g2]; exact h3⟩

/-- the writer's last right one among the first k -/
def gF (l : List Claimed) (m : List Audit) (s : ByteArray) : Nat → Int
  | 0 => -1
  | k + 1 => if (decide (wriOf l k = s) && (audB m k && !wrB l m k)) = true then k else gF l m s k
/-- w is the writer's first wrong one -/
def IsFst (l : List Claimed) (m : List Audit) (s : ByteArray) (w : Nat) : Prop := wrB l m w = true ∧ wriOf l w = s ∧ ∀ j, j < w → ¬ (wrB l m j = true ∧ wriOf l j = s)
theorem rgt_gF {l : List Claimed} {m : List Audit} {s : ByteArray} {w : Nat} (h : IsFst l m s w) : ∀ k, k ≤ w → rgt l m k s = gF l m s k
  | 0, _ => rfl
  | k + 1, hk => by
    show (if (!wrB l m k && (audB m k && !endB l m k (wriOf l k)) && decide (wriOf l k = s)) = true then (k : Int) else rgt l m k s) = (if (decide (wriOf l k = s) && (audB m k && !wrB l m k)) = true then (k : Int) else gF l m s k)
    rw [rgt_gF h k (by omega)]
    have e : (!wrB l m k && (audB m k && !endB l m k (wriOf l k)) && decide (wriOf l k = s)) = (decide (wriOf l k = s) && (audB m k && !wrB l m k)) := by
      by_cases hs : wriOf l k = s
      · have he : endB l m k (wriOf l k) = false := by
          rw [hs]
          cases hc : endB l m k s
          · rfl
          · obtain ⟨j, h1, h2, h3⟩ := endB_iff.1 hc
            exact absurd ⟨h2, h3⟩ (h.2.2 j (by omega))
        rw [he, decide_eq_true hs]
        cases wrB l m k <;> cases audB m k <;> rfl
      · rw [decide_eq_false hs, Bool.and_false, Bool.false_and]
    rw [e]
theorem rgt_past {l : List Claimed} {m : List Audit} {s : ByteArray} {w : Nat} (h : IsFst l m s w) : ∀ k, w ≤ k → rgt l m k s = gF l m s w
  | 0, hk => by
    obtain rfl : w = 0 := by omega
    rfl
  | k + 1, hk => by
    rcases Nat.lt_or_ge k w with h1 | h1
    · obtain rfl : w = k + 1 := by omega
      exact rgt_gF h (k + 1) (Nat.le_refl _)
    · show (if (!wrB l m k && (audB m k && !endB l m k (wriOf l k)) && decide (wriOf l k = s)) = true then (k : Int) else rgt l m k s) = _
      rw [rgt_past h k h1, if_neg]
      intro hc
      simp only [Bool.and_eq_true, Bool.not_eq_true', decide_eq_true_iff] at hc
      obtain ⟨⟨h2, _, h3⟩, h4⟩ := hc
      rcases Nat.eq_or_lt_of_le h1 with h5 | h5
      · subst h5
        rw [h.1] at h2; cases h2
      · have : endB l m k (wriOf l k) = true := endB_iff.2 ⟨w, h5, h.1, by rw [h4]; exact h.2.1⟩
        rw [h3] at this; cases this
/-- the reference's word for it: not audited, the writer has a wrong one, and this one lies behind the last right one before that -/
def dbtB (l : List Claimed) (m : List Audit) (i : Nat) : Bool := (suB l m (wriOf l i) && !audB m i) && decide (rgt l m l.length (wriOf l i) < (i : Int))
def useB (l : List Claimed) (f : Nat → Bool) (i : Nat) : Bool := (useOf l i).any (fun u => anyB l f i u && !anyB l (fun j => !f j) i u)
theorem tStep_split (l : List Claimed) (m : List Audit) (f : Nat → Bool) (k : Nat) : tStep l m f k = (wrB l m k || dbtB l m k || useB l f k) := rfl
theorem dbt_none {l : List Claimed} {m : List Audit} {i : Nat} (h : suB l m (wriOf l i) = false) : dbtB l m i = false := by unfold dbtB; rw [h]; rfl
theorem dbt_aud {l : List Claimed} {m : List Audit} {i : Nat} (h : audB m i = true) : dbtB l m i = false := by unfold dbtB; rw [h]; simp
theorem dbt_fst {l : List Claimed} {m : List Audit} {i w : Nat} (hr : ∀ a ∈ m, 0 ≤ a.number ∧ a.number < l.length) (ha : audB m i = false) (hw : IsFst l m (wriOf l i) w) (hwl : w < l.length) : dbtB l m i = decide (gF l m (wriOf l i) w < (i : Int)) := by
  unfold dbtB
  rw [rgt_past hw l.length (by omega), ha, suB_end hr, endB_iff.2 ⟨w, hwl, hw.1, hw.2.1⟩]
  rfl
theorem gF_range (l : List Claimed) (m : List Audit) (s : ByteArray) : ∀ k, -1 ≤ gF l m s k ∧ gF l m s k < k
  | 0 => by show -1 ≤ (-1 : Int) ∧ (-1 : Int) < ((0 : Nat) : Int); omega
  | k + 1 => by
    have := gF_range l m s k
    show -1 ≤ (if _ then _ else _ : Int) ∧ (if _ then _ else _ : Int) < _
    split <;> omega

/-! ### laws -/
theorem wrong_tainted {l : List Claimed} {m : List Audit} {z : Int} (h : z ∈ numsN (wrB l m) l.length) : z ∈ numsN (tntB l m) l.length := by
  obtain ⟨i, h1, h2, h3⟩ := numsN_mem.1 h
  exact numsN_mem.2 ⟨i, h1, by rw [tntB_eq l m i h1, tStep_split, h2, Bool.true_or, Bool.true_or], h3⟩
theorem anyB_false (l : List Claimed) : ∀ (f : Nat → Bool) (k : Nat) (u : ByteArray), (∀ j, j < k → f j = false) → anyB l f k u = false
  | f, 0, u, _ => rfl
  | f, k + 1, u, h => by
    show (anyB l f k u || (f k && decide (resOf l k = u))) = false
    rw [anyB_false l f k u (fun j hj => h j (by omega)), h k (by omega)]
    rfl
theorem none_tainted {l : List Claimed} {m : List Audit} (hr : ∀ a ∈ m, 0 ≤ a.number ∧ a.number < l.length) (h : numsN (wrB l m) l.length = []) : numsN (tntB l m) l.length = [] := by
  have hw : ∀ k, k < l.length → wrB l m k = false := fun k hk => by
    cases hc : wrB l m k
    · rfl
    · have : (k : Int) ∈ numsN (wrB l m) l.length := numsN_mem.2 ⟨k, hk, hc, rfl⟩
      rw [h] at this; cases this
  have hs : ∀ s, suB l m s = false := fun s => by
    rw [suB_end hr]
    cases hc : endB l m l.length s
    · rfl
    · obtain ⟨k, h1, h2, _⟩ := endB_iff.1 hc
      rw [hw k h1] at h2; cases h2
  have ht : ∀ k, k < l.length → tntB l m k = false := by
    intro k
    induction k using Nat.strongRecOn with
    | _ k ih =>
      intro hk
      rw [tntB_eq l m k hk, tStep_split, hw k hk, dbt_none (hs _)]
      unfold useB
      rw [Bool.or_false, Bool.false_or, List.any_eq_false]
      intro u _
      rw [anyB_false l (tntB l m) k u (fun j hj => ih j hj (by omega))]
      simp
  cases hn : numsN (tntB l m) l.length with
  | nil => rfl
  | cons z r =>
    obtain ⟨i, h1, h2, _⟩ := numsN_mem.1 (show z ∈ numsN (tntB l m) l.length by rw [hn]; exact List.mem_cons_self)
    rw [ht i h1] at h2; cases h2
end Go.Proofs.YtaeeicnbnohghaaGreatDoor.C11

namespace Go.Proofs.YtaeeicnbnohghaaGreatDoor.C11
open Go.RowKit
set_option linter.unusedVariables false

def Db1 (l : List Claimed) (m : List Audit) (s : ByteArray) (n : Nat) (wb : World) (v i : Value) (wr : World) : Prop :=
  ∃ k : Nat, k ≤ n ∧ i = .int .i64 k ∧ v = .int .i64 (-1) ∧ (∀ j, j < k → ¬ (wrB l m j = true ∧ wriOf l j = s)) ∧ Below wb.heap.size wb wr
def Db2 (l : List Claimed) (m : List Audit) (s : ByteArray) (f : Nat) (wb : World) (g i : Value) (wr : World) : Prop :=
  ∃ k : Nat, k ≤ f ∧ i = .int .i64 k ∧ g = .int .i64 (gF l m s k) ∧ Below wb.heap.size wb wr
theorem gF_step {l : List Claimed} {m : List Audit} {s : ByteArray} {k : Nat} (h : (decide (wriOf l k = s) && (audB m k && !wrB l m k)) = true) : gF l m s (k + 1) = k := by
  show (if (decide (wriOf l k = s) && (audB m k && !wrB l m k)) = true then (k : Int) else gF l m s k) = _
  rw [if_pos h]
theorem gF_keep {l : List Claimed} {m : List Audit} {s : ByteArray} {k : Nat} (h : (decide (wriOf l k = s) && (audB m k && !wrB l m k)) = false) : gF l m s (k + 1) = gF l m s k := by
  show (if (decide (wriOf l k = s) && (audB m k && !wrB l m k)) = true then (k : Int) else gF l m s k) = _
  rw [if_neg (by rw [h]; decide)]

set_option maxRecDepth 100000 in
set_option maxHeartbeats 8000000 in
theorem doubtful_any (A : Option Addr) (n c : Nat) (l : List Claimed) (m : List Audit) (b1 b2 b3 : Nat) (sA : Option Addr) (sn sc i : Nat) (w : World) (hn : n ≤ 1000) (hi : i < n) (hl : SlAt RClaimed w A n l) (ra : BRow w b1 n (audB m)) (rw_ : BRow w b2 n (wrB l m))
    (l1 : b1 < w.heap.size) (l2 : b2 < w.heap.size) (hr : ∀ a ∈ m, 0 ≤ a.number ∧ a.number < l.length) (r : Bool) (hrr : dbtB l m i = r) :
    Calls Tryz.prog 96 #[.agg #[.slice (some ⟨b1, 0, none⟩) n n, .slice (some ⟨b2, 0, none⟩) n n, .slice (some ⟨b3, 0, none⟩) n n, .slice sA sn sc], .slice A n c, .int .i64 i] w fun e w' =>
      e = .returned (.bool r) ∧ Below w.heap.size w w' := by
  have hll := hl.1
  obtain ⟨y, hy⟩ : ∃ y, l[i]? = some y := ⟨l[i]'(by omega), List.getElem?_eq_getElem _⟩
  have hyi := wriOf_get hy
  obtain ⟨b, off, hA, hdrop⟩ := hl.2.1 (by omega)
  subst hA
  clear hdrop
  have hba := (Below.refl w.heap.size w).alloc (Nat.le_refl _) (.cells #[.slice (some ⟨b1, 0, none⟩) n n, .slice (some ⟨b2, 0, none⟩) n n, .slice (some ⟨b3, 0, none⟩) n n, .slice sA sn sc] 98)
  have hra := ra.below hba l1
  have hrw := rw_.below hba l2
  have hla := hl.below hba
  have hz : w.heap.size < (w.alloc (.cells #[.slice (some ⟨b1, 0, none⟩) n n, .slice (some ⟨b2, 0, none⟩) n n, .slice (some ⟨b3, 0, none⟩) n n, .slice sA sn sc] 98)).heap.size := by simp
  have e0 := cell_new w #[.slice (some ⟨b1, 0, none⟩) n n, .slice (some ⟨b2, 0, none⟩) n n, .slice (some ⟨b3, 0, none⟩) n n, .slice sA sn sc] 98 0
  have e1 := cell_new w #[.slice (some ⟨b1, 0, none⟩) n n, .slice (some ⟨b2, 0, none⟩) n n, .slice (some ⟨b3, 0, none⟩) n n, .slice sA sn sc] 98 1
  have g0 := (hra i hi).1
  obtain ⟨s, hs⟩ : ∃ s, y.writer = s := ⟨_, rfl⟩
  rw [hs] at hyi
  have hiI : (i : Int) < (n : Int) := by omega
  clear ra rw_ hl
  cases haI : audB m i
  · rw [haI] at g0
    have hllH := Lib.hid hll
    clear hll
    have hyH := Lib.hid hy
    clear hy
    have hyiH := Lib.hid hyi
    clear hyi
    have hbaH := Lib.hid hba
    clear hba
    have hraH := Lib.hid hra
    clear hra
    have hrwH := Lib.hid hrw
    clear hrw
    have hlaH := Lib.hid hla
    clear hla
    have hrH := Lib.hid hr
    clear hr
    have haIH := Lib.hid haI
    clear haI
    have hsH := Lib.hid hs
    clear hs
    have hrrH := Lib.hid hrr
    clear hrr
    go_enter Tryz.func96, Tryz.ntmps96
    go_wp2_with fail
    go_loopw [7, 19] (fun v i wr => Db1 l m s n (w.alloc (.cells #[.slice (some ⟨b1, 0, none⟩) n n, .slice (some ⟨b2, 0, none⟩) n n, .slice (some ⟨b3, 0, none⟩) n n, .slice sA sn sc] 98)) v i wr) (fun _ i _ => n - (intOf i).toNat)
    case atStart => exact ⟨0, Nat.zero_le _, rfl, rfl, (fun j hj => by omega), Below.refl _ _⟩
    case round =>
      obtain ⟨k, hk, rfl, rfl, hno, hb1⟩ := hrel
      obtain ⟨wq, rfl⟩ : ∃ W, W = wr := ⟨_, rfl⟩
      by_cases hlt : k < n
      · obtain ⟨x, hx⟩ : ∃ x, l[k]? = some x := ⟨l[k]'(by have := hllH.out; omega), List.getElem?_eq_getElem _⟩
        obtain ⟨d0, d1, d2, d3, d4, d5, d6⟩ := cells_Claimed (hlaH.out.below hb1) hx
        have hb1a := hb1.alloc hb1.size (.cells #[.string x.key, .string x.label, .string x.result, .string x.writer, .int .i64 x.at_, .slice x.uses.A x.uses.n x.uses.cap, .string x.sign] 25)
        obtain ⟨_, _, _, d3y, _, _, _⟩ := cells_Claimed (hlaH.out.below hb1a) hyH.out
        rw [hsH.out] at d3y
        have p1 := (hb1a.cell (p := ⟨w.heap.size, 1, none⟩) hz).trans e1
        have gw := ((hrwH.out.below hb1a (cell?_lt (hrwH.out k hlt).1)) k hlt).1
        have hwx := wriOf_get hx
        have hbq : ∀ nq, Below (w.alloc (.cells #[.slice (some ⟨b1, 0, none⟩) n n, .slice (some ⟨b2, 0, none⟩) n n, .slice (some ⟨b3, 0, none⟩) n n, .slice sA sn sc] 98)).heap.size (w.alloc (.cells #[.slice (some ⟨b1, 0, none⟩) n n, .slice (some ⟨b2, 0, none⟩) n n, .slice (some ⟨b3, 0, none⟩) n n, .slice sA sn sc] 98)) ((wq.alloc (.cells #[.string x.key, .string x.label, .string x.result, .string x.writer, .int .i64 x.at_, .slice x.uses.A x.uses.n x.uses.cap, .string x.sign] 25)).drewN nq) := fun nq => bel_drewN hb1a nq
        by_cases hsame : x.writer = s
        · have hq : (x.writer.toList == s.toList) = true := by rw [beq_data, decide_eq_true hsame]
          cases hwB : wrB l m k
          · rw [hwB] at gw
            have R : ∀ nq, Db1 l m s n (w.alloc (.cells #[.slice (some ⟨b1, 0, none⟩) n n, .slice (some ⟨b2, 0, none⟩) n n, .slice (some ⟨b3, 0, none⟩) n n, .slice sA sn sc] 98)) (.int .i64 (-1)) (.int .i64 (k + 1)) ((wq.alloc (.cells #[.string x.key, .string x.label, .string x.result, .string x.writer, .int .i64 x.at_, .slice x.uses.A x.uses.n x.uses.cap, .string x.sign] 25)).drewN nq) := fun nq =>
              ⟨k + 1, hlt, by go_num, rfl, (by
                intro j hj
                rcases Nat.lt_or_ge j k with h | h
                · exact hno j h
                · obtain rfl : j = k := by omega
                  rw [hwB]; rintro ⟨h, _⟩; cases h), hbq nq⟩
            have hxH := Lib.hid hx
            clear hx
            have hwxH := Lib.hid hwx
            clear hwx
            have hsameH := Lib.hid hsame
            clear hsame
            have hwBH := Lib.hid hwB
            clear hwB
            have hnoH := Lib.hid hno
            clear hno
            have hb1H := Lib.hid hb1
            clear hb1
            have hb1aH := Lib.hid hb1a
            clear hb1a
            have hbqH := Lib.hid hbq
            clear hbq
            have RH := Lib.hid R
            clear R
            go_wp2_with fail
            go_quiet (fail)
            go_wp2
            refine ⟨?rel, ?measure⟩
            case measure => (simp [intOf]; omega)
            case rel => first | exact (RH.out _) | exact ⟨rfl, (RH.out _)⟩ | ((try refine ⟨rfl, ?_⟩); (repeat apply Exists.intro); refine ⟨(RH.out _), ?_⟩; ((repeat' apply And.intro) <;> rfl))
          · rw [hwB] at gw
            have hfst : IsFst l m s k := ⟨hwB, by rw [hwx, hsame], hno⟩
            have hdb : dbtB l m i = decide (gF l m s k < (i : Int)) := by
              have := dbt_fst (i := i) hrH.out haIH.out (by rw [hyiH.out]; exact hfst) (by have := hllH.out; omega)
              rw [this, hyiH.out]
            have hxH := Lib.hid hx
            clear hx
            have hwxH := Lib.hid hwx
            clear hwx
            have hsameH := Lib.hid hsame
            clear hsame
            have hwBH := Lib.hid hwB
            clear hwB
            have hnoH := Lib.hid hno
            clear hno
            have hb1H := Lib.hid hb1
            clear hb1
            have hb1aH := Lib.hid hb1a
            clear hb1a
            have hbqH := Lib.hid hbq
            clear hbq
            have hfstH := Lib.hid hfst
            clear hfst
            have hdbH := Lib.hid hdb
            clear hdb
            go_wp2_with fail
            go_quiet (fail)
            clear d0 d1 d2 d3 d4 d5 d6 d3y p1 gw
            go_wp2_with fail
            go_loopw [10, 11] (fun g i wr => Db2 l m s k (w.alloc (.cells #[.slice (some ⟨b1, 0, none⟩) n n, .slice (some ⟨b2, 0, none⟩) n n, .slice (some ⟨b3, 0, none⟩) n n, .slice sA sn sc] 98)) g i wr) (fun _ i _ => k - (intOf i).toNat)
            case atStart => exact ⟨0, Nat.zero_le _, rfl, rfl, (hbqH.out _)⟩
            case round =>
              obtain ⟨k2, hk2, rfl, rfl, hb2⟩ := hrel
              by_cases hlt2 : k2 < k
              · obtain ⟨x2, hx2⟩ : ∃ x, l[k2]? = some x := ⟨l[k2]'(by have := hllH.out; omega), List.getElem?_eq_getElem _⟩
                obtain ⟨_, _, _, d3, _, _, _⟩ := cells_Claimed (hlaH.out.below hb2) hx2
                obtain ⟨_, _, _, d3y, _, _, _⟩ := cells_Claimed (hlaH.out.below hb2) hyH.out
                rw [hsH.out] at d3y
                have p0 := (hb2.cell (p := ⟨w.heap.size, 0, none⟩) hz).trans e0
                have p1 := (hb2.cell (p := ⟨w.heap.size, 1, none⟩) hz).trans e1
                have ga := ((hraH.out.below hb2 (cell?_lt (hraH.out k2 (by omega)).1)) k2 (by omega)).1
                have gw := ((hrwH.out.below hb2 (cell?_lt (hrwH.out k2 (by omega)).1)) k2 (by omega)).1
                have hwx := wriOf_get hx2
                have hbq : ∀ nq, Below (w.alloc (.cells #[.slice (some ⟨b1, 0, none⟩) n n, .slice (some ⟨b2, 0, none⟩) n n, .slice (some ⟨b3, 0, none⟩) n n, .slice sA sn sc] 98)).heap.size (w.alloc (.cells #[.slice (some ⟨b1, 0, none⟩) n n, .slice (some ⟨b2, 0, none⟩) n n, .slice (some ⟨b3, 0, none⟩) n n, .slice sA sn sc] 98)) (wr.drewN nq) := fun nq => bel_drewN hb2 nq
                have hgr := gF_range l m s k2
                have hk2I : (k2 : Int) < (n : Int) := by omega
                by_cases hsame : x2.writer = s
                · have hq : (x2.writer.toList == s.toList) = true := by rw [beq_data, decide_eq_true hsame]
                  have hws : decide (wriOf l k2 = s) = true := decide_eq_true (by rw [hwx, hsame])
                  cases haB : audB m k2
                  · rw [haB] at ga
                    have hg := gF_keep (l := l) (m := m) (s := s) (k := k2) (by rw [hws, haB]; rfl)
                    have R : ∀ nq, Db2 l m s k (w.alloc (.cells #[.slice (some ⟨b1, 0, none⟩) n n, .slice (some ⟨b2, 0, none⟩) n n, .slice (some ⟨b3, 0, none⟩) n n, .slice sA sn sc] 98)) (.int .i64 (gF l m s k2)) (.int .i64 (k2 + 1)) (wr.drewN nq) := fun nq => ⟨k2 + 1, by omega, by go_num, by rw [hg], hbq nq⟩
                    obtain ⟨gv, hgv⟩ : ∃ v, gF l m s k2 = v := ⟨_, rfl⟩
                    rw [hgv] at R hgr ⊢
                    clear hg gw
                    have hx2H := Lib.hid hx2
                    clear hx2
                    have hwxH := Lib.hid hwx
                    clear hwx
                    have hwsH := Lib.hid hws
                    clear hws
                    have hsameH := Lib.hid hsame
                    clear hsame
                    have haBH := Lib.hid haB
                    clear haB
                    have hb2H := Lib.hid hb2
                    clear hb2
                    have hbqH := Lib.hid hbq
                    clear hbq
                    have RH := Lib.hid R
                    clear R
                    have hgvH := Lib.hid hgv
                    clear hgv
                    go_wp2_with fail
                    go_quiet (fail)
                    go_wp2
                    refine ⟨?rel, ?measure⟩
                    case measure => (simp [intOf]; omega)
                    case rel => first | exact (RH.out _) | exact ⟨rfl, (RH.out _)⟩ | ((try refine ⟨rfl, ?_⟩); (repeat apply Exists.intro); refine ⟨(RH.out _), ?_⟩; ((repeat' apply And.intro) <;> rfl))
                  · rw [haB] at ga
                    cases hwB : wrB l m k2
                    · rw [hwB] at gw
                      have hg := gF_step (l := l) (m := m) (s := s) (k := k2) (by rw [hws, haB, hwB]; rfl)
                      have R : ∀ nq, Db2 l m s k (w.alloc (.cells #[.slice (some ⟨b1, 0, none⟩) n n, .slice (some ⟨b2, 0, none⟩) n n, .slice (some ⟨b3, 0, none⟩) n n, .slice sA sn sc] 98)) (.int .i64 k2) (.int .i64 (k2 + 1)) (wr.drewN nq) := fun nq => ⟨k2 + 1, by omega, by go_num, by rw [hg], hbq nq⟩
                      obtain ⟨gv, hgv⟩ : ∃ v, gF l m s k2 = v := ⟨_, rfl⟩
                      rw [hgv] at hgr ⊢
                      clear hg
                      have hx2H := Lib.hid hx2
                      clear hx2
                      have hwxH := Lib.hid hwx
                      clear hwx
                      have hwsH := Lib.hid hws
                      clear hws
                      have hsameH := Lib.hid hsame
                      clear hsame
                      have haBH := Lib.hid haB
                      clear haB
                      have hwBH := Lib.hid hwB
                      clear hwB
                      have hb2H := Lib.hid hb2
                      clear hb2
                      have hbqH := Lib.hid hbq
                      clear hbq
                      have RH := Lib.hid R
                      clear R
                      have hgvH := Lib.hid hgv
                      clear hgv
                      go_wp2_with fail
                      go_quiet (fail)
                      go_wp2
                      refine ⟨?rel, ?measure⟩
                      case measure => (simp [intOf]; omega)
                      case rel => first | exact (RH.out _) | exact ⟨rfl, (RH.out _)⟩ | ((try refine ⟨rfl, ?_⟩); (repeat apply Exists.intro); refine ⟨(RH.out _), ?_⟩; ((repeat' apply And.intro) <;> rfl))
                    · rw [hwB] at gw
                      have hg := gF_keep (l := l) (m := m) (s := s) (k := k2) (by rw [hws, haB, hwB]; rfl)
                      have R : ∀ nq, Db2 l m s k (w.alloc (.cells #[.slice (some ⟨b1, 0, none⟩) n n, .slice (some ⟨b2, 0, none⟩) n n, .slice (some ⟨b3, 0, none⟩) n n, .slice sA sn sc] 98)) (.int .i64 (gF l m s k2)) (.int .i64 (k2 + 1)) (wr.drewN nq) := fun nq => ⟨k2 + 1, by omega, by go_num, by rw [hg], hbq nq⟩
                      obtain ⟨gv, hgv⟩ : ∃ v, gF l m s k2 = v := ⟨_, rfl⟩
                      rw [hgv] at R hgr ⊢
                      clear hg
                      have hx2H := Lib.hid hx2
                      clear hx2
                      have hwxH := Lib.hid hwx
                      clear hwx
                      have hwsH := Lib.hid hws
                      clear hws
                      have hsameH := Lib.hid hsame
                      clear hsame
                      have haBH := Lib.hid haB
                      clear haB
                      have hwBH := Lib.hid hwB
                      clear hwB
                      have hb2H := Lib.hid hb2
                      clear hb2
                      have hbqH := Lib.hid hbq
                      clear hbq
                      have RH := Lib.hid R
                      clear R
                      have hgvH := Lib.hid hgv
                      clear hgv
                      go_wp2_with fail
                      go_quiet (fail)
                      go_wp2
                      refine ⟨?rel, ?measure⟩
                      case measure => (simp [intOf]; omega)
                      case rel => first | exact (RH.out _) | exact ⟨rfl, (RH.out _)⟩ | ((try refine ⟨rfl, ?_⟩); (repeat apply Exists.intro); refine ⟨(RH.out _), ?_⟩; ((repeat' apply And.intro) <;> rfl))
                · have hq : (x2.writer.toList == s.toList) = false := by rw [beq_data, decide_eq_false hsame]
                  have hws : decide (wriOf l k2 = s) = false := decide_eq_false (by rw [hwx]; exact hsame)
                  have hg := gF_keep (l := l) (m := m) (s := s) (k := k2) (by rw [hws]; rfl)
                  have R : ∀ nq, Db2 l m s k (w.alloc (.cells #[.slice (some ⟨b1, 0, none⟩) n n, .slice (some ⟨b2, 0, none⟩) n n, .slice (some ⟨b3, 0, none⟩) n n, .slice sA sn sc] 98)) (.int .i64 (gF l m s k2)) (.int .i64 (k2 + 1)) (wr.drewN nq) := fun nq => ⟨k2 + 1, by omega, by go_num, by rw [hg], hbq nq⟩
                  obtain ⟨gv, hgv⟩ : ∃ v, gF l m s k2 = v := ⟨_, rfl⟩
                  rw [hgv] at R hgr ⊢
                  clear hg ga gw
                  have hx2H := Lib.hid hx2
                  clear hx2
                  have hwxH := Lib.hid hwx
                  clear hwx
                  have hwsH := Lib.hid hws
                  clear hws
                  have hsameH := Lib.hid hsame
                  clear hsame
                  have hb2H := Lib.hid hb2
                  clear hb2
                  have hbqH := Lib.hid hbq
                  clear hbq
                  have RH := Lib.hid R
                  clear R
                  have hgvH := Lib.hid hgv
                  clear hgv
                  go_wp2_with fail
                  go_quiet (fail)
                  go_wp2
                  refine ⟨?rel, ?measure⟩
                  case measure => (simp [intOf]; omega)
                  case rel => first | exact (RH.out _) | exact ⟨rfl, (RH.out _)⟩ | ((try refine ⟨rfl, ?_⟩); (repeat apply Exists.intro); refine ⟨(RH.out _), ?_⟩; ((repeat' apply And.intro) <;> rfl))
              · obtain rfl : k2 = k := by omega
                have hgr := gF_range l m s k2
                have hres : r = decide (gF l m s k2 < (i : Int)) := hrrH.out.symm.trans hdbH.out
                have hbe := hbaH.out.trans (hb2.mono hbaH.out.size)
                clear hb2
                obtain ⟨gv, hgv⟩ : ∃ v, gF l m s k2 = v := ⟨_, rfl⟩
                rw [hgv] at hres hgr ⊢
                by_cases hgi : gv < (i : Int)
                · have hgd : decide (gv < (i : Int)) = true := decide_eq_true hgi
                  rw [hgd] at hres
                  subst hres
                  have hbeH := Lib.hid hbe
                  clear hbe
                  have hgvH := Lib.hid hgv
                  clear hgv
                  go_wp2
                  go_ret
                  exact ⟨rfl, hbeH.out⟩
                · have hgd : decide (gv < (i : Int)) = false := decide_eq_false hgi
                  rw [hgd] at hres
                  subst hres
                  have hbeH := Lib.hid hbe
                  clear hbe
                  have hgvH := Lib.hid hgv
                  clear hgv
                  go_wp2
                  go_ret
                  exact ⟨rfl, hbeH.out⟩
        · have hq : (x.writer.toList == s.toList) = false := by rw [beq_data, decide_eq_false hsame]
          have R : ∀ nq, Db1 l m s n (w.alloc (.cells #[.slice (some ⟨b1, 0, none⟩) n n, .slice (some ⟨b2, 0, none⟩) n n, .slice (some ⟨b3, 0, none⟩) n n, .slice sA sn sc] 98)) (.int .i64 (-1)) (.int .i64 (k + 1)) ((wq.alloc (.cells #[.string x.key, .string x.label, .string x.result, .string x.writer, .int .i64 x.at_, .slice x.uses.A x.uses.n x.uses.cap, .string x.sign] 25)).drewN nq) := fun nq =>
            ⟨k + 1, hlt, by go_num, rfl, (by
              intro j hj
              rcases Nat.lt_or_ge j k with h | h
              · exact hno j h
              · obtain rfl : j = k := by omega
                rw [hwx]; rintro ⟨_, h⟩; exact hsame h), hbq nq⟩
          clear gw
          have hxH := Lib.hid hx
          clear hx
          have hwxH := Lib.hid hwx
          clear hwx
          have hsameH := Lib.hid hsame
          clear hsame
          have hnoH := Lib.hid hno
          clear hno
          have hb1H := Lib.hid hb1
          clear hb1
          have hb1aH := Lib.hid hb1a
          clear hb1a
          have hbqH := Lib.hid hbq
          clear hbq
          have RH := Lib.hid R
          clear R
          go_wp2_with fail
          go_quiet (fail)
          go_wp2
          refine ⟨?rel, ?measure⟩
          case measure => (simp [intOf]; omega)
          case rel => first | exact (RH.out _) | exact ⟨rfl, (RH.out _)⟩ | ((try refine ⟨rfl, ?_⟩); (repeat apply Exists.intro); refine ⟨(RH.out _), ?_⟩; ((repeat' apply And.intro) <;> rfl))
      · obtain rfl : k = n := by omega
        have hres : r = false := hrrH.out.symm.trans <| dbt_none (by
          rw [hyiH.out, suB_end hrH.out]
          cases hc : endB l m l.length s
          · rfl
          · obtain ⟨j, h1, h2, h3⟩ := endB_iff.1 hc
            exact absurd ⟨h2, h3⟩ (hno j (by have := hllH.out; omega)))
        have hbe := hbaH.out.trans (hb1.mono hbaH.out.size)
        subst hres
        have hbeH := Lib.hid hbe
        clear hbe
        have hb1H := Lib.hid hb1
        clear hb1
        have hnoH := Lib.hid hno
        clear hno
        go_wp2_with fail
        go_loopw [11] (fun i wr => i = .int .i64 0 ∧ wr = wq) (fun _ _ => 0)
        case atStart => exact ⟨rfl, rfl⟩
        case round =>
          obtain ⟨rfl, rfl⟩ := hrel
          go_wp2
          go_ret
          exact ⟨rfl, hbeH.out⟩
  · rw [haI] at g0
    have hres : r = false := hrr.symm.trans (dbt_aud (l := l) haI)
    subst hres
    have hllH := Lib.hid hll
    clear hll
    have hyH := Lib.hid hy
    clear hy
    have hyiH := Lib.hid hyi
    clear hyi
    have hbaH := Lib.hid hba
    clear hba
    have hraH := Lib.hid hra
    clear hra
    have hrwH := Lib.hid hrw
    clear hrw
    have hlaH := Lib.hid hla
    clear hla
    have hrH := Lib.hid hr
    clear hr
    have haIH := Lib.hid haI
    clear haI
    have hsH := Lib.hid hs
    clear hs
    go_enter Tryz.func96, Tryz.ntmps96
    go_wp2
    go_ret
    exact ⟨rfl, hbaH.out⟩
end Go.Proofs.YtaeeicnbnohghaaGreatDoor.C11

namespace Go.Proofs.YtaeeicnbnohghaaGreatDoor.C11
open Go.RowKit
set_option linter.unusedVariables false

/-- the inner loop, round by round -/
theorem anyB_step {l : List Claimed} {f : Nat → Bool} {k : Nat} {u : ByteArray} : anyB l f (k + 1) u = (anyB l f k u || (f k && decide (resOf l k = u))) := rfl
def Us1 (l : List Claimed) (f : Nat → Bool) (L : List ByteArray) (i : Nat) (r : Bool) (w0 : World) (j : Value) (wr : World) : Prop :=
  ∃ k : Nat, k ≤ L.length ∧ j = .int .i64 k ∧ (L.drop k).any (fun u => anyB l f i u && !anyB l (fun j => !f j) i u) = r ∧ Below w0.heap.size w0 wr
def Us2 (l : List Claimed) (f : Nat → Bool) (u : ByteArray) (i : Nat) (w0 : World) (bad good j : Value) (wr : World) : Prop :=
  ∃ k : Nat, k ≤ i ∧ j = .int .i64 k ∧ bad = .bool (anyB l f k u) ∧ good = .bool (anyB l (fun j => !f j) k u) ∧ Below w0.heap.size w0 wr

set_option maxRecDepth 100000 in
set_option maxHeartbeats 8000000 in
theorem uses_any (A : Option Addr) (n c : Nat) (l : List Claimed) (b1 b2 b3 : Nat) (sA : Option Addr) (sn sc i : Nat) (f : Nat → Bool) (w : World) (hn : n ≤ 1000) (hi : i < n) (hl : SlAt RClaimed w A n l) (rt : BRow w b3 n f) (l3 : b3 < w.heap.size) (r : Bool) (hr : useB l f i = r) :
    Calls Tryz.prog 97 #[.agg #[.slice (some ⟨b1, 0, none⟩) n n, .slice (some ⟨b2, 0, none⟩) n n, .slice (some ⟨b3, 0, none⟩) n n, .slice sA sn sc], .slice A n c, .int .i64 i] w fun e w' =>
      e = .returned (.bool r) ∧ Below w.heap.size w w' := by
  have hll := hl.1
  obtain ⟨y, hy⟩ : ∃ y, l[i]? = some y := ⟨l[i]'(by omega), List.getElem?_eq_getElem _⟩
  have hyi := useOf_get hy
  obtain ⟨b, off, hA, hdrop⟩ := hl.2.1 (by omega)
  subst hA
  clear hdrop
  have hba := (Below.refl w.heap.size w).alloc (Nat.le_refl _) (.cells #[.slice (some ⟨b1, 0, none⟩) n n, .slice (some ⟨b2, 0, none⟩) n n, .slice (some ⟨b3, 0, none⟩) n n, .slice sA sn sc] 98)
  have hrt := rt.below hba l3
  have hla := hl.below hba
  have hz : w.heap.size < (w.alloc (.cells #[.slice (some ⟨b1, 0, none⟩) n n, .slice (some ⟨b2, 0, none⟩) n n, .slice (some ⟨b3, 0, none⟩) n n, .slice sA sn sc] 98)).heap.size := by simp
  have e2 := cell_new w #[.slice (some ⟨b1, 0, none⟩) n n, .slice (some ⟨b2, 0, none⟩) n n, .slice (some ⟨b3, 0, none⟩) n n, .slice sA sn sc] 98 2
  obtain ⟨_, _, _, _, _, d5, _⟩ := cells_Claimed hla hy
  have hyok := hla.2.2 y (List.mem_of_getElem? hy)
  have hus : SlAt RStr (w.alloc (.cells #[.slice (some ⟨b1, 0, none⟩) n n, .slice (some ⟨b2, 0, none⟩) n n, .slice (some ⟨b3, 0, none⟩) n n, .slice sA sn sc] 98)) y.uses.A y.uses.n y.uses.l := hyok.2.2.2.2.2.1.1
  have hul := hus.1
  have hun : y.uses.n ≤ maxLen := Nat.le_trans hyok.2.2.2.2.2.1.2.1 hyok.2.2.2.2.2.1.2.2.1
  unfold maxLen at hun
  have hiI : (i : Int) < (n : Int) := by omega
  unfold useB at hr
  rw [hyi] at hr
  clear rt hl hyok
  have hllH := Lib.hid hll
  clear hll
  have hyH := Lib.hid hy
  clear hy
  have hyiH := Lib.hid hyi
  clear hyi
  have hbaH := Lib.hid hba
  clear hba
  have hrtH := Lib.hid hrt
  clear hrt
  have hlaH := Lib.hid hla
  clear hla
  have husH := Lib.hid hus
  clear hus
  have hulH := Lib.hid hul
  clear hul
  have hrH := Lib.hid hr
  clear hr
  go_enter Tryz.func97, Tryz.ntmps97
  go_wp2_with fail
  go_loopw [18] (fun j wr => Us1 l f y.uses.l i r (w.alloc (.cells #[.slice (some ⟨b1, 0, none⟩) n n, .slice (some ⟨b2, 0, none⟩) n n, .slice (some ⟨b3, 0, none⟩) n n, .slice sA sn sc] 98)) j wr) (fun j _ => y.uses.n - (intOf j).toNat)
  case atStart => exact ⟨0, Nat.zero_le _, rfl, hrH.out, Below.refl _ _⟩
  case round =>
    obtain ⟨k, hk, rfl, hany, hb1⟩ := hrel
    have hkn : k ≤ y.uses.n := by have := hulH.out; omega
    obtain ⟨wq, rfl⟩ : ∃ W, W = wr := ⟨_, rfl⟩
    by_cases hlt : k < y.uses.n
    · obtain ⟨bu, ou, hAu, hdrop⟩ := husH.out.2.1 (by omega)
      obtain ⟨u, hu⟩ : ∃ u, y.uses.l[k]? = some u := ⟨y.uses.l[k]'(by have := hulH.out; omega), List.getElem?_eq_getElem _⟩
      have hsu := husH.out.below hb1
      rw [hAu] at hsu
      have cu := cell_Str hsu hu
      rw [drop_cons hu, List.any_cons] at hany
      have hk1 : k + 1 ≤ y.uses.l.length := by have := hulH.out; omega
      clear hdrop hsu
      have hanyH := Lib.hid hany
      clear hany
      have hb1H := Lib.hid hb1
      clear hb1
      have huH := Lib.hid hu
      clear hu
      rw [hAu]
      go_wp2_with fail
      go_loopw [9, 10, 23] (fun bad good j wr => Us2 l f u i (w.alloc (.cells #[.slice (some ⟨b1, 0, none⟩) n n, .slice (some ⟨b2, 0, none⟩) n n, .slice (some ⟨b3, 0, none⟩) n n, .slice sA sn sc] 98)) bad good j wr) (fun _ _ j _ => i - (intOf j).toNat)
      case atStart => exact ⟨0, Nat.zero_le _, rfl, rfl, rfl, hb1H.out⟩
      case round =>
        obtain ⟨k2, hk2, rfl, rfl, rfl, hb2⟩ := hrel
        by_cases hlt2 : k2 < i
        · obtain ⟨x2, hx2⟩ : ∃ x, l[k2]? = some x := ⟨l[k2]'(by have := hllH.out; omega), List.getElem?_eq_getElem _⟩
          obtain ⟨_, _, d2, _, _, _, _⟩ := cells_Claimed (hlaH.out.below hb2) hx2
          have p2 := (hb2.cell (p := ⟨w.heap.size, 2, none⟩) hz).trans e2
          have gt := ((hrtH.out.below hb2 (cell?_lt (hrtH.out k2 (by omega)).1)) k2 (by omega)).1
          have hrx := resOf_get hx2
          have hbq : ∀ nq, Below (w.alloc (.cells #[.slice (some ⟨b1, 0, none⟩) n n, .slice (some ⟨b2, 0, none⟩) n n, .slice (some ⟨b3, 0, none⟩) n n, .slice sA sn sc] 98)).heap.size (w.alloc (.cells #[.slice (some ⟨b1, 0, none⟩) n n, .slice (some ⟨b2, 0, none⟩) n n, .slice (some ⟨b3, 0, none⟩) n n, .slice sA sn sc] 98)) (wr.drewN nq) := fun nq => bel_drewN hb2 nq
          have hk2I : (k2 : Int) < (n : Int) := by omega
          obtain ⟨pv, hpv⟩ : ∃ v, anyB l f k2 u = v := ⟨_, rfl⟩
          obtain ⟨gv, hgv⟩ : ∃ v, anyB l (fun j => !f j) k2 u = v := ⟨_, rfl⟩
          obtain ⟨fv, hfv⟩ : ∃ v, f k2 = v := ⟨_, rfl⟩
          rw [hfv] at gt
          rw [hpv, hgv]
          by_cases hsame : x2.result = u
          · have hq : (x2.result.toList == u.toList) = true := by rw [beq_data, decide_eq_true hsame]
            have h1 : anyB l f (k2 + 1) u = (pv || fv) := by rw [anyB_step, hpv, hfv, hrx, decide_eq_true hsame, Bool.and_true]
            have h2 : anyB l (fun j => !f j) (k2 + 1) u = (gv || !fv) := by rw [anyB_step, hgv, hfv, hrx, decide_eq_true hsame, Bool.and_true]
            have R : ∀ nq, Us2 l f u i (w.alloc (.cells #[.slice (some ⟨b1, 0, none⟩) n n, .slice (some ⟨b2, 0, none⟩) n n, .slice (some ⟨b3, 0, none⟩) n n, .slice sA sn sc] 98)) (.bool (pv || fv)) (.bool (gv || !fv)) (.int .i64 (k2 + 1)) (wr.drewN nq) := fun nq => ⟨k2 + 1, by omega, by go_num, by rw [h1], by rw [h2], hbq nq⟩
            clear h1 h2
            have hx2H := Lib.hid hx2
            clear hx2
            have hrxH := Lib.hid hrx
            clear hrx
            have hsameH := Lib.hid hsame
            clear hsame
            have hb2H := Lib.hid hb2
            clear hb2
            have hbqH := Lib.hid hbq
            clear hbq
            have RH := Lib.hid R
            clear R
            have hpvH := Lib.hid hpv
            clear hpv
            have hgvH := Lib.hid hgv
            clear hgv
            have hfvH := Lib.hid hfv
            clear hfv
            cases pv <;> cases gv <;> cases fv
            all_goals
              go_wp2_with fail
              go_quiet (fail)
              go_wp2
              refine ⟨?rel, ?measure⟩
              case measure => (simp [intOf]; omega)
              case rel => first | exact (RH.out _) | exact ⟨rfl, (RH.out _)⟩ | ((try refine ⟨rfl, ?_⟩); (repeat apply Exists.intro); refine ⟨(RH.out _), ?_⟩; ((repeat' apply And.intro) <;> rfl))
          · have hq : (x2.result.toList == u.toList) = false := by rw [beq_data, decide_eq_false hsame]
            have h1 : anyB l f (k2 + 1) u = pv := by rw [anyB_step, hpv, hrx, decide_eq_false hsame, Bool.and_false, Bool.or_false]
            have h2 : anyB l (fun j => !f j) (k2 + 1) u = gv := by rw [anyB_step, hgv, hrx, decide_eq_false hsame, Bool.and_false, Bool.or_false]
            have R : Us2 l f u i (w.alloc (.cells #[.slice (some ⟨b1, 0, none⟩) n n, .slice (some ⟨b2, 0, none⟩) n n, .slice (some ⟨b3, 0, none⟩) n n, .slice sA sn sc] 98)) (.bool pv) (.bool gv) (.int .i64 (k2 + 1)) wr := ⟨k2 + 1, by omega, by go_num, by rw [h1], by rw [h2], hb2⟩
            clear h1 h2 gt p2
            have hx2H := Lib.hid hx2
            clear hx2
            have hrxH := Lib.hid hrx
            clear hrx
            have hsameH := Lib.hid hsame
            clear hsame
            have hb2H := Lib.hid hb2
            clear hb2
            have hbqH := Lib.hid hbq
            clear hbq
            have RH := Lib.hid R
            clear R
            have hpvH := Lib.hid hpv
            clear hpv
            have hgvH := Lib.hid hgv
            clear hgv
            have hfvH := Lib.hid hfv
            clear hfv
            go_wp2
            refine ⟨?rel, ?measure⟩
            case measure => (simp [intOf]; omega)
            case rel => first | exact RH.out | exact ⟨rfl, RH.out⟩ | ((try refine ⟨rfl, ?_⟩); (repeat apply Exists.intro); refine ⟨RH.out, ?_⟩; ((repeat' apply And.intro) <;> rfl))
        · obtain rfl : k2 = i := by omega
          have hany := hanyH.out
          obtain ⟨pv, hpv⟩ : ∃ v, anyB l f k2 u = v := ⟨_, rfl⟩
          obtain ⟨gv, hgv⟩ : ∃ v, anyB l (fun j => !f j) k2 u = v := ⟨_, rfl⟩
          rw [hpv, hgv] at hany
          rw [hpv, hgv]
          clear hanyH
          have hbe := hbaH.out.trans (hb2.mono hbaH.out.size)
          have Rk : (y.uses.l.drop (k + 1)).any (fun u => anyB l f k2 u && !anyB l (fun j => !f j) k2 u) = r → Us1 l f y.uses.l k2 r (w.alloc (.cells #[.slice (some ⟨b1, 0, none⟩) n n, .slice (some ⟨b2, 0, none⟩) n n, .slice (some ⟨b3, 0, none⟩) n n, .slice sA sn sc] 98)) (.int .i64 (k + 1)) wr := fun h => ⟨k + 1, hk1, by go_num, h, hb2⟩
          cases pv
          · rw [Bool.false_and, Bool.false_or] at hany
            have R := Rk hany
            clear hany Rk
            have hb2H := Lib.hid hb2
            clear hb2
            have hbeH := Lib.hid hbe
            clear hbe
            have hpvH := Lib.hid hpv
            clear hpv
            have hgvH := Lib.hid hgv
            clear hgv
            have RH := Lib.hid R
            clear R
            go_wp2
            refine ⟨?rel, ?measure⟩
            case measure => (simp [intOf]; omega)
            case rel => first | exact RH.out | exact ⟨rfl, RH.out⟩ | ((try refine ⟨rfl, ?_⟩); (repeat apply Exists.intro); refine ⟨RH.out, ?_⟩; ((repeat' apply And.intro) <;> rfl))
          · cases gv
            · rw [Bool.not_false, Bool.and_true, Bool.true_or] at hany
              subst hany
              clear Rk
              have hb2H := Lib.hid hb2
              clear hb2
              have hbeH := Lib.hid hbe
              clear hbe
              have hpvH := Lib.hid hpv
              clear hpv
              have hgvH := Lib.hid hgv
              clear hgv
              go_wp2
              go_ret
              exact ⟨rfl, hbeH.out⟩
            · rw [Bool.not_true, Bool.and_false, Bool.false_or] at hany
              have R := Rk hany
              clear hany Rk
              have hb2H := Lib.hid hb2
              clear hb2
              have hbeH := Lib.hid hbe
              clear hbe
              have hpvH := Lib.hid hpv
              clear hpv
              have hgvH := Lib.hid hgv
              clear hgv
              have RH := Lib.hid R
              clear R
              go_wp2
              refine ⟨?rel, ?measure⟩
              case measure => (simp [intOf]; omega)
              case rel => first | exact RH.out | exact ⟨rfl, RH.out⟩ | ((try refine ⟨rfl, ?_⟩); (repeat apply Exists.intro); refine ⟨RH.out, ?_⟩; ((repeat' apply And.intro) <;> rfl))
    · have e : y.uses.l.drop k = [] := List.drop_eq_nil_of_le (by have := hulH.out; omega)
      rw [e] at hany
      have hany : false = r := hany
      subst hany
      have hbe := hbaH.out.trans (hb1.mono hbaH.out.size)
      clear e
      have hb1H := Lib.hid hb1
      clear hb1
      have hbeH := Lib.hid hbe
      clear hbe
      go_wp2
      go_ret
      exact ⟨rfl, hbeH.out⟩
end Go.Proofs.YtaeeicnbnohghaaGreatDoor.C11

namespace Go.Proofs.YtaeeicnbnohghaaGreatDoor.C11
open Go.RowKit
set_option linter.unusedVariables false

/-- what Wrong hands back -/
def wrongR (l : List Claimed) (m : List Audit) : List Int × Int := if auditsF l m = 0 then (numsN (wrB l m) l.length, 0) else ([], auditsF l m)
/-- what Suspected hands back -/
def SuspAns (l : List Claimed) (m : List Audit) (c : Int) (L : List ByteArray) : Prop := if c = 0 then Rising L ∧ ∀ s, s ∈ L ↔ suB l m s = true else L = []
theorem SuspAns.eq {l : List Claimed} {m : List Audit} {c : Int} {L L' : List ByteArray} (h : SuspAns l m c L) (h' : SuspAns l m c L') : L = L' := by
  unfold SuspAns at h h'
  by_cases hc : c = 0
  · rw [if_pos hc] at h h'
    exact h.1.eq h'.1 (fun s => (h.2 s).trans (h'.2 s).symm)
  · rw [if_neg hc] at h h'
    rw [h, h']
theorem suB_size {l : List Claimed} {m : List Audit} (hr : ∀ a ∈ m, 0 ≤ a.number ∧ a.number < l.length) (hz : ∀ x ∈ l, x.writer.size ≤ maxLen) {s : ByteArray} (h : suB l m s = true) : s.size ≤ maxLen := by
  obtain ⟨a, h1, _, h3⟩ := suB_iff.1 h
  have h4 := hr a h1
  obtain ⟨k, hk⟩ : ∃ k : Nat, a.number = k := ⟨a.number.toNat, by omega⟩
  obtain ⟨x, hx⟩ : ∃ x, l[k]? = some x := ⟨l[k]'(by omega), List.getElem?_eq_getElem _⟩
  rw [hk, wriOf_get hx] at h3
  rw [← h3]
  exact hz x (List.mem_of_getElem? hx)
def StrsAns (l : List Claimed) (m : List Audit) (c : Int) (w0 : World) (e : Ending) (w' : World) : Prop :=
  ∃ (A : Option Addr) (n cap : Nat) (L : List ByteArray), e = .returned (.tuple #[.slice A n cap, .int .i64 c]) ∧ SlAt RStr w' A n L ∧ SuspAns l m c L ∧ n ≤ 1000 ∧ Below w0.heap.size w0 w'
theorem field_w (W : World) (v0 v1 v2 : Value) : (Instr.field 95 (.agg #[v0, v1, v2]) 1).run Tryz.prog W = .ok v1 W := by kernel_rfl
theorem field_s (W : World) (v0 v1 v2 : Value) : (Instr.field 95 (.agg #[v0, v1, v2]) 2).run Tryz.prog W = .ok v2 W := by kernel_rfl
theorem slAt_nilS (w : World) : SlAt RStr w none 0 [] := ⟨rfl, fun h => by omega, fun x hx => by cases hx⟩

set_option maxRecDepth 100000 in
set_option maxHeartbeats 1000000 in
theorem Susp_any (A : Option Addr) (len cap : Nat) (l : List Claimed) (B : Option Addr) (mlen mcap : Nat) (m : List Audit) (w : World) (hm : MaxLenAt w) (hl : SlAt RClaimed w A len l) (hma : SlAt RAudit w B mlen m) (c : Int) (hF : auditsF l m = c) :
    Calls Tryz.prog 25 #[.slice A len cap, .slice B mlen mcap] w (StrsAns l m c w) := by
  have hmH := Lib.hid hm
  clear hm
  have hlH := Lib.hid hl
  clear hl
  have hmaH := Lib.hid hma
  clear hma
  have hFH := Lib.hid hF
  clear hF
  go_enter Tryz.func25, Tryz.ntmps25
  go_wp2_with fail
  refine (audits_any A len cap l B mlen mcap m _ hmH.out hlH.out hmaH.out c hFH.out).mono ?_
  rintro e w1 ⟨rfl, hb1⟩
  have hb1H := Lib.hid hb1
  clear hb1
  by_cases e0 : c = 0
  · subst e0
    obtain ⟨h1, h2, h3⟩ := audits_range hFH.out
    have hll := hlH.out.1
    have hml := hmaH.out.1
    have hn : len ≤ 1000 := by omega
    have hmn : mlen ≤ 1000 := by omega
    have h4 : ∀ a ∈ m, 0 ≤ a.number ∧ a.number < len := fun a ha => by have := h3 a ha; omega
    have hwz : ∀ x ∈ l, x.writer.size ≤ maxLen := fun x hx => (hlH.out.2.2 x hx).2.2.2.1
    clear h1 h2 hml
    have hllH := Lib.hid hll
    clear hll
    have h4H := Lib.hid h4
    clear h4
    have h3H := Lib.hid h3
    clear h3
    have hwzH := Lib.hid hwz
    clear hwz
    go_wp2_with fail
    refine (facts_any A len cap l B mlen mcap m _ hn hmn (hlH.out.below hb1H.out) (hmaH.out.below hb1H.out) h4H.out).mono ?_
    rintro e w2 ⟨b1, b2, b3, c3, rfl, hf, hb2⟩
    have hbb := hb1H.out.trans (hb2.mono hb1H.out.size)
    have hc3 := hf.c3le
    clear hb2
    have hfH := Lib.hid hf
    clear hf
    have hbbH := Lib.hid hbb
    clear hbb
    have hfd := field_s w2 (.slice (some ⟨b1, 0, none⟩) len len) (.slice (some ⟨b2, 0, none⟩) len len) (.map (some b3))
    go_wp2_with fail
    refine (keys_b (some b3) _).mono ?_
    rintro e w3 ⟨rfl, rfl⟩
    go_wp2_with fail
    refine (sorted_b (f := setF (suB l m)) b3 c3 w2 hfH.out.mp (by omega)).mono ?_
    rintro e w4 ⟨A4, k4, c4, L, rfl, hown, hrise, hmem, hlen, hb4⟩
    have hb5 := hbbH.out.trans (hb4.mono hbbH.out.size)
    have hsl := hown.slAt
    have hk4 : k4 ≤ 1000 := by have := hown.len; omega
    have hans : SuspAns l m 0 L := by
      unfold SuspAns
      rw [if_pos rfl]
      refine ⟨hrise, fun s => ⟨fun hs => ?_, fun hs => ?_⟩⟩
      · have hz := hsl.2.2 s hs
        have := (hmem s hz).1 hs
        unfold setF at this
        split at this
        · assumption
        · cases this
      · have hz := suB_size h3H.out hwzH.out hs
        refine (hmem s hz).2 ?_
        unfold setF
        rw [if_pos hs]; rfl
    clear hown hb4 hrise hmem hlen
    have hslH := Lib.hid hsl
    clear hsl
    have hb5H := Lib.hid hb5
    clear hb5
    have hansH := Lib.hid hans
    clear hans
    go_wp2
    go_ret2
    exact ⟨A4, k4, c4, L, rfl, hslH.out, hansH.out, hk4, hb5H.out⟩
  · have e1 : (c != 0) = true := by simpa using e0
    have hans : SuspAns l m c [] := by unfold SuspAns; rw [if_neg e0]
    clear e0
    have hansH := Lib.hid hans
    clear hans
    go_wp2
    go_ret2
    exact ⟨none, 0, 0, [], rfl, slAt_nilS _, hansH.out, by omega, hb1H.out⟩
end Go.Proofs.YtaeeicnbnohghaaGreatDoor.C11

namespace Go.Proofs.YtaeeicnbnohghaaGreatDoor.C11
open Go.RowKit
set_option linter.unusedVariables false

theorem cont_int (A : Option Addr) (n c : Nat) (l : List Int) (x : Int) (w : World) (hn : n ≤ 9223372036854775807) (hl : SlAt RInt w A n l) (hx : x ∈ l) :
    Calls Tryz.prog 24 #[.slice A n c, .int .i64 x] w fun e w' => e = .returned (.bool true) ∧ w' = w := by
  by_cases h0 : n = 0
  · subst h0
    obtain rfl : l = [] := List.eq_nil_of_length_eq_zero hl.1
    cases hx
  · obtain ⟨b, off, rfl, hc⟩ := hl.2.1 (by omega)
    have hll := hl.1
    refine (Tryz.slices_Contains_int b off n c l x w (by omega) hn (fun j hj => ?_)).mono ?_
    · have := hc j l[j] (List.getElem?_eq_getElem hj) 0 (.int .i64 l[j]) rfl
      rw [List.getD_eq_getElem?_getD, List.getElem?_eq_getElem hj]
      simpa [RInt] using this
    · rintro e w' ⟨rfl, rfl⟩
      rw [List.take_of_length_le (by omega), List.contains_iff_mem.2 hx]
      exact ⟨rfl, rfl⟩
end Go.Proofs.YtaeeicnbnohghaaGreatDoor.C11

namespace Go.Proofs.YtaeeicnbnohghaaGreatDoor.C11
open Go.RowKit
set_option linter.unusedVariables false

theorem elem_Str : Elem Tryz.prog 9 RStr.size 16 := elem_of (z := .string ByteArray.empty) (by kernel_rfl) (by decide)
def namesOf (l : List Claimed) (L : List Int) : List ByteArray := L.map (wriOf l)
theorem names_mem {l : List Claimed} {m : List Audit} (hr : ∀ a ∈ m, 0 ≤ a.number ∧ a.number < l.length) (s : ByteArray) : s ∈ namesOf l (numsN (wrB l m) l.length) ↔ suB l m s = true := by
  unfold namesOf
  rw [List.mem_map, suB_end hr, endB_iff]
  constructor
  · rintro ⟨z, hz, rfl⟩
    obtain ⟨i, h1, h2, rfl⟩ := numsN_mem.1 hz
    exact ⟨i, h1, h2, rfl⟩
  · rintro ⟨k, h1, h2, h3⟩
    exact ⟨(k : Int), numsN_mem.2 ⟨k, h1, h2, rfl⟩, h3⟩
def WnRel (l : List Claimed) (L : List Int) (w0 : World) (v i : Value) (wr : World) : Prop :=
  ∃ (j n cap : Nat) (A : Option Addr), j ≤ L.length ∧ i = .int .i64 j ∧ v = .slice A n cap ∧ Own RStr 9 wr w0.heap.size v (namesOf l (L.take j)) ∧ Below w0.heap.size w0 wr

end Go.Proofs.YtaeeicnbnohghaaGreatDoor.C11
