/-
  What audits say of a log, as the reference computes it: in plain words, and that it is the same.
-/
import Derived.Test.YtcofpcadjbhafaaGreatDoorFactsDC11
namespace Go.Proofs.YtcofpcadjbhafaaGreatDoor.C11
open Go.RowKit
set_option linter.unusedVariables false

theorem wrB_iff {l : List Claimed} {m : List Audit} {k : Nat} : wrB l m k = true ↔ ∃ a ∈ m, a.number = k ∧ badA l a = true := by
  unfold wrB
  rw [List.any_eq_true]
  constructor
  · rintro ⟨a, h1, h2⟩
    rw [Bool.and_eq_true, decide_eq_true_iff] at h2
    exact ⟨a, h1, h2.1, h2.2⟩
  · rintro ⟨a, h1, h2, h3⟩
    exact ⟨a, h1, by rw [Bool.and_eq_true, decide_eq_true_iff]; exact ⟨h2, h3⟩⟩
theorem endB_iff {l : List Claimed} {m : List Audit} : ∀ {n : Nat} {s : ByteArray}, endB l m n s = true ↔ ∃ k, k < n ∧ wrB l m k = true ∧ wriOf l k = s
  | 0, s => by
    constructor
    · intro h; cases h
    · rintro ⟨k, h, _⟩; omega
  | n + 1, s => by
    show (endB l m n s || (wrB l m n && decide (wriOf l n = s))) = true ↔ _
    rw [Bool.or_eq_true, Bool.and_eq_true, decide_eq_true_iff, endB_iff]
    constructor
    · rintro (⟨k, h1, h2, h3⟩ | ⟨h1, h2⟩)
      · exact ⟨k, by omega, h2, h3⟩
      · exact ⟨n, by omega, h1, h2⟩
    · rintro ⟨k, h1, h2, h3⟩
      rcases Nat.lt_or_ge k n with h | h
      · exact .inl ⟨k, h, h2, h3⟩
      · obtain rfl : k = n := by omega
        exact .inr ⟨h2, h3⟩
theorem suB_iff {l : List Claimed} {m : List Audit} {s : ByteArray} : suB l m s = true ↔ ∃ a ∈ m, badA l a = true ∧ wriOf l a.number = s := by
  unfold suB
  rw [List.any_eq_true]
  constructor
  · rintro ⟨a, h1, h2⟩
    rw [Bool.and_eq_true, decide_eq_true_iff] at h2
    exact ⟨a, h1, h2.1, h2.2⟩
  · rintro ⟨a, h1, h2, h3⟩
    exact ⟨a, h1, by rw [Bool.and_eq_true, decide_eq_true_iff]; exact ⟨h2, h3⟩⟩
theorem suB_end {l : List Claimed} {m : List Audit} {n : Nat} (hr : ∀ a ∈ m, 0 ≤ a.number ∧ a.number < n) (s : ByteArray) : suB l m s = endB l m n s := by
  rw [Bool.eq_iff_iff, suB_iff, endB_iff]
  constructor
  · rintro ⟨a, h1, h2, h3⟩
    have h4 := hr a h1
    refine ⟨a.number.toNat, by omega, wrB_iff.2 ⟨a, h1, by omega, h2⟩, ?_⟩
    rw [show ((a.number.toNat : Nat) : Int) = a.number by omega]
    exact h3
  · rintro ⟨k, h1, h2, h3⟩
    obtain ⟨a, g1, g2, g3⟩ := wrB_iff.1 h2
    exact ⟨a, g1, g3, by rw [g2]; exact h3⟩

/-- the writer's last right one among the first k -/
def gF (l : List Claimed) (m : List Audit) (s : ByteArray) : Nat → Int
  | 0 => -1
  | k + 1 => if (decide (wriOf l k = s) && (audB m k && !wrB l m k)) = true then k else gF l m s k
/-- w is the writer's first wrong one -/
def IsFst (l : List Claimed) (m : List Audit) (s : ByteArray) (w : Nat) : Prop := wrB l m w = true ∧ wriOf l w = s ∧ ∀ j, j < w → ¬ (wrB l m j = true ∧ wriOf l j = s)
theorem rgt_gF {l : List Claimed} {m : List Audit} {s : ByteArray} {w : Nat} (h : IsFst l m s w) : ∀ k, k ≤ w → rgt l m k s = gF l m s k
  | 0, _ => rfl
  | k + 1, hk => by
    show (if (!wrB l m k && (audB m k && !endB l m k (wriOf l k)) && decide (wriOf l k = s)) = true then (k : Int) else rgt l m k s) = (if (decide (wriOf l k = s) && (audB m k && !wrB l m k)) = true then (k : Int) else gF l m s k)
    rw [rgt_gF h k (by omega)]
    have e : (!wrB l m k && (audB m k && !endB l m k (wriOf l k)) && decide (wriOf l k = s)) = (decide (wriOf l k = s) && (audB m k && !wrB l m k)) := by
      by_cases hs : wriOf l k = s
      · have he : endB l m k (wriOf l k) = false := by
          rw [hs]
          cases hc : endB l m k s
          · rfl
          · obtain ⟨j, h1, h2, h3⟩ := endB_iff.1 hc
            exact absurd ⟨h2, h3⟩ (h.2.2 j (by omega))
        rw [he, decide_eq_true hs]
        cases wrB l m k <;> cases audB m k <;> rfl
      · rw [decide_eq_false hs, Bool.and_false, Bool.false_and]
    rw [e]
theorem rgt_past {l : List Claimed} {m : List Audit} {s : ByteArray} {w : Nat} (h : IsFst l m s w) : ∀ k, w ≤ k → rgt l m k s = gF l m s w
  | 0, hk => by
    obtain rfl : w = 0 := by omega
    rfl
  | k + 1, hk => by
    rcases Nat.lt_or_ge k w with h1 | h1
    · obtain rfl : w = k + 1 := by omega
      exact rgt_gF h (k + 1) (Nat.le_refl _)
    · show (if (!wrB l m k && (audB m k && !endB l m k (wriOf l k)) && decide (wriOf l k = s)) = true then (k : Int) else rgt l m k s) = _
      rw [rgt_past h k h1, if_neg]
      intro hc
      simp only [Bool.and_eq_true, Bool.not_eq_true', decide_eq_true_iff] at hc
      obtain ⟨⟨h2, _, h3⟩, h4⟩ := hc
      rcases Nat.eq_or_lt_of_le h1 with h5 | h5
      · subst h5
        rw [h.1] at h2; cases h2
      · have : endB l m k (wriOf l k) = true := endB_iff.2 ⟨w, h5, h.1, by rw [h4]; exact h.2.1⟩
        rw [h3] at this; cases this
/-- the reference's word for it: not audited, the writer has a wrong one, and this one lies behind the last right one before that -/
def dbtB (l : List Claimed) (m : List Audit) (i : Nat) : Bool := (suB l m (wriOf l i) && !audB m i) && decide (rgt l m l.length (wriOf l i) < (i : Int))
def useB (l : List Claimed) (f : Nat → Bool) (i : Nat) : Bool := (useOf l i).any (fun u => anyB l f i u && !anyB l (fun j => !f j) i u)
theorem tStep_split (l : List Claimed) (m : List Audit) (f : Nat → Bool) (k : Nat) : tStep l m f k = (wrB l m k || dbtB l m k || useB l f k) := rfl
theorem dbt_none {l : List Claimed} {m : List Audit} {i : Nat} (h : suB l m (wriOf l i) = false) : dbtB l m i = false := by unfold dbtB; rw [h]; rfl
theorem dbt_aud {l : List Claimed} {m : List Audit} {i : Nat} (h : audB m i = true) : dbtB l m i = false := by unfold dbtB; rw [h]; simp
theorem dbt_fst {l : List Claimed} {m : List Audit} {i w : Nat} (hr : ∀ a ∈ m, 0 ≤ a.number ∧ a.number < l.length) (ha : audB m i = false) (hw : IsFst l m (wriOf l i) w) (hwl : w < l.length) : dbtB l m i = decide (gF l m (wriOf l i) w < (i : Int)) := by
  unfold dbtB
  rw [rgt_past hw l.length (by omega), ha, suB_end hr, endB_iff.2 ⟨w, hwl, hw.1, hw.2.1⟩]
  rfl
theorem gF_range (l : List Claimed) (m : List Audit) (s : ByteArray) : ∀ k, -1 ≤ gF l m s k ∧ gF l m s k < k
  | 0 => by show -1 ≤ (-1 : Int) ∧ (-1 : Int) < ((0 : Nat) : Int); omega
  | k + 1 => by
    have := gF_range l m s k
    show -1 ≤ (if _ then _ else _ : Int) ∧ (if _ then _ else _ : Int) < _
    split <;> omega

/-! ### laws -/
theorem wrong_tainted {l : List Claimed} {m : List Audit} {z : Int} (h : z ∈ numsN (wrB l m) l.length) : z ∈ numsN (tntB l m) l.length := by
  obtain ⟨i, h1, h2, h3⟩ := numsN_mem.1 h
  exact numsN_mem.2 ⟨i, h1, by rw [tntB_eq l m i h1, tStep_split, h2, Bool.true_or, Bool.true_or], h3⟩
theorem anyB_false (l : List Claimed) : ∀ (f : Nat → Bool) (k : Nat) (u : ByteArray), (∀ j, j < k → f j = false) → anyB l f k u = false
  | f, 0, u, _ => rfl
  | f, k + 1, u, h => by
    show (anyB l f k u || (f k && decide (resOf l k = u))) = false
    rw [anyB_false l f k u (fun j hj => h j (by omega)), h k (by omega)]
    rfl
theorem none_tainted {l : List Claimed} {m : List Audit} (hr : ∀ a ∈ m, 0 ≤ a.number ∧ a.number < l.length) (h : numsN (wrB l m) l.length = []) : numsN (tntB l m) l.length = [] := by
  have hw : ∀ k, k < l.length → wrB l m k = false := fun k hk => by
    cases hc : wrB l m k
    · rfl
    · have : (k : Int) ∈ numsN (wrB l m) l.length := numsN_mem.2 ⟨k, hk, hc, rfl⟩
      rw [h] at this; cases this
  have hs : ∀ s, suB l m s = false := fun s => by
    rw [suB_end hr]
    cases hc : endB l m l.length s
    · rfl
    · obtain ⟨k, h1, h2, _⟩ := endB_iff.1 hc
      rw [hw k h1] at h2; cases h2
  have ht : ∀ k, k < l.length → tntB l m k = false := by
    intro k
    induction k using Nat.strongRecOn with
    | _ k ih =>
      intro hk
      rw [tntB_eq l m k hk, tStep_split, hw k hk, dbt_none (hs _)]
      unfold useB
      rw [Bool.or_false, Bool.false_or, List.any_eq_false]
      intro u _
      rw [anyB_false l (tntB l m) k u (fun j hj => ih j hj (by omega))]
      simp
  cases hn : numsN (tntB l m) l.length with
  | nil => rfl
  | cons z r =>
    obtain ⟨i, h1, h2, _⟩ := numsN_mem.1 (show z ∈ numsN (tntB l m) l.length by rw [hn]; exact List.mem_cons_self)
    rw [ht i h1] at h2; cases h2
end Go.Proofs.YtcofpcadjbhafaaGreatDoor.C11
