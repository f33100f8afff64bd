/-
  What audits say of a log, in plain words: audited, wrong, suspected, right, tainted.
-/
import Derived.Test.YtgegdfmdcmgliaaGreatDoorClaimDC11
import Derived.Test.YtgegdfmdcmgliaaGreatDoorBRow
import Derived.Test.YtgegdfmdcmgliaaGreatDoorOwn
import Derived.Test.YtgegdfmdcmgliaaGreatDoorRange
namespace Go.Proofs.YtgegdfmdcmgliaaGreatDoor.C11
open Go.RowKit
set_option linter.unusedVariables false

noncomputable def KS : KD Tryz.prog 9 ByteArray := KStr Tryz.underlying9
def valS (b : Bool) : Value := .bool b
theorem injS : InjV valS := fun _ _ h => by injection h
theorem zeroS (w : World) : (zeroValue 4).run Tryz.prog w = .ok (valS false) w := by kernel_rfl

def audB (m : List Audit) (j : Nat) : Bool := m.any (fun a => decide (a.number = (j : Int)))
def resOf (l : List Claimed) (i : Int) : ByteArray := match l[i.toNat]? with | some x => x.result | none => ⟨#[]⟩
def wriOf (l : List Claimed) (i : Int) : ByteArray := match l[i.toNat]? with | some x => x.writer | none => ⟨#[]⟩
def useOf (l : List Claimed) (i : Int) : List ByteArray := match l[i.toNat]? with | some x => x.uses.l | none => []
theorem resOf_get {l : List Claimed} {k : Nat} {x : Claimed} (h : l[k]? = some x) : resOf l (k : Int) = x.result := by rw [resOf, show (k : Int).toNat = k from rfl, h]
theorem wriOf_get {l : List Claimed} {k : Nat} {x : Claimed} (h : l[k]? = some x) : wriOf l (k : Int) = x.writer := by rw [wriOf, show (k : Int).toNat = k from rfl, h]
theorem useOf_get {l : List Claimed} {k : Nat} {x : Claimed} (h : l[k]? = some x) : useOf l (k : Int) = x.uses.l := by rw [useOf, show (k : Int).toNat = k from rfl, h]
/-- an audit that found another result -/
def badA (l : List Claimed) (a : Audit) : Bool := !decide (a.result = resOf l a.number)
def wrB (l : List Claimed) (m : List Audit) (j : Nat) : Bool := m.any (fun a => decide (a.number = (j : Int)) && badA l a)
def suB (l : List Claimed) (m : List Audit) (s : ByteArray) : Bool := m.any (fun a => badA l a && decide (wriOf l a.number = s))
def setF (p : ByteArray → Bool) (s : ByteArray) : Option Bool := if p s = true then some true else none
theorem setF_getD (p : ByteArray → Bool) (s : ByteArray) : (setF p s).getD false = p s := by
  unfold setF
  cases h : p s <;> simp
theorem setF_upd (p : ByteArray → Bool) (x : ByteArray) : upd (setF p) x true = setF (fun s => p s || decide (x = s)) := by
  funext s
  unfold upd setF
  by_cases h : s = x
  · subst h; simp
  · simp [h, show ¬ x = s from fun e => h e.symm]
theorem setF_nil : setF (fun _ => false) = fun _ => none := by funext s; rfl

theorem audB_snoc (m : List Audit) (n : Nat) (r : ByteArray) (t : Int) : audB (m ++ [⟨n, r, t⟩]) = fun j => if j = n then true else audB m j := by
  funext j
  unfold audB
  rw [List.any_append, List.any_cons, List.any_nil, Bool.or_false]
  by_cases h : j = n
  · subst h; simp
  · have : ¬ ((n : Int) = (j : Int)) := by omega
    simp [h, this]
theorem wrB_snoc (l : List Claimed) (m : List Audit) (n : Nat) (r : ByteArray) (t : Int) : wrB l (m ++ [⟨n, r, t⟩]) = if badA l ⟨n, r, t⟩ = true then (fun j => if j = n then true else wrB l m j) else wrB l m := by
  by_cases hb : badA l ⟨n, r, t⟩ = true
  · rw [if_pos hb]
    funext j
    unfold wrB
    rw [List.any_append, List.any_cons, List.any_nil, Bool.or_false, hb, Bool.and_true]
    by_cases h : j = n
    · subst h; simp
    · have : ¬ ((n : Int) = (j : Int)) := by omega
      simp [h, this]
  · rw [if_neg hb]
    funext j
    unfold wrB
    rw [List.any_append, List.any_cons, List.any_nil, Bool.or_false, (by simpa using hb : badA l ⟨n, r, t⟩ = false), Bool.and_false, Bool.or_false]
theorem suB_snoc (l : List Claimed) (m : List Audit) (a : Audit) : suB l (m ++ [a]) = if badA l a = true then (fun s => suB l m s || decide (wriOf l a.number = s)) else suB l m := by
  by_cases hb : badA l a = true
  · rw [if_pos hb]
    funext s
    unfold suB
    rw [List.any_append, List.any_cons, List.any_nil, Bool.or_false, hb, Bool.true_and]
  · rw [if_neg hb]
    funext s
    unfold suB
    rw [List.any_append, List.any_cons, List.any_nil, Bool.or_false, (by simpa using hb : badA l a = false), Bool.false_and, Bool.or_false]

/-- whether a writer has a wrong result among the first k -/
def endB (l : List Claimed) (m : List Audit) : Nat → ByteArray → Bool
  | 0, _ => false
  | k + 1, s => endB l m k s || (wrB l m k && decide (wriOf l k = s))
/-- the last one among the first k that is audited, right, and before the first wrong one -/
def rgt (l : List Claimed) (m : List Audit) : Nat → ByteArray → Int
  | 0, _ => -1
  | k + 1, s => if (!wrB l m k && (audB m k && !endB l m k (wriOf l k)) && decide (wriOf l k = s)) = true then k else rgt l m k s
def rgtF (l : List Claimed) (m : List Audit) (k : Nat) (s : ByteArray) : Option Int := if suB l m s = true then some (rgt l m k s) else none
def anyB (l : List Claimed) (f : Nat → Bool) : Nat → ByteArray → Bool
  | 0, _ => false
  | k + 1, u => anyB l f k u || (f k && decide (resOf l k = u))
/-- whether the k-th is tainted, f saying so of those before it -/
def tStep (l : List Claimed) (m : List Audit) (f : Nat → Bool) (k : Nat) : Bool :=
  wrB l m k || ((suB l m (wriOf l k) && !audB m k) && decide (rgt l m l.length (wriOf l k) < (k : Int))) || (useOf l k).any (fun u => anyB l f k u && !anyB l (fun j => !f j) k u)
def pre (l : List Claimed) (m : List Audit) : Nat → Nat → Bool
  | 0 => fun _ => false
  | k + 1 => fun j => if j = k then tStep l m (pre l m k) k else pre l m k j
def tntB (l : List Claimed) (m : List Audit) (j : Nat) : Bool := pre l m l.length j
theorem pre_past (l : List Claimed) (m : List Audit) : ∀ k j, k ≤ j → pre l m k j = false
  | 0, _, _ => rfl
  | k + 1, j, h => by
    show (if j = k then tStep l m (pre l m k) k else pre l m k j) = false
    rw [if_neg (by omega), pre_past l m k j (by omega)]
theorem pre_le (l : List Claimed) (m : List Audit) : ∀ n k j, j < k → k ≤ n → pre l m n j = pre l m k j
  | 0, k, j, h1, h2 => by omega
  | n + 1, k, j, h1, h2 => by
    rcases Nat.lt_or_ge n k with h | h
    · obtain rfl : k = n + 1 := by omega
      rfl
    · show (if j = n then tStep l m (pre l m n) n else pre l m n j) = pre l m k j
      rw [if_neg (by omega)]
      exact pre_le l m n k j h1 h
theorem anyB_congr (l : List Claimed) {f g : Nat → Bool} : ∀ k, (∀ j, j < k → f j = g j) → anyB l f k = anyB l g k
  | 0, _ => rfl
  | k + 1, h => by
    funext u
    show (anyB l f k u || (f k && decide (resOf l k = u))) = (anyB l g k u || (g k && decide (resOf l k = u)))
    rw [anyB_congr l k (fun j hj => h j (by omega)), h k (by omega)]
theorem tStep_congr (l : List Claimed) (m : List Audit) {f g : Nat → Bool} (k : Nat) (h : ∀ j, j < k → f j = g j) : tStep l m f k = tStep l m g k := by
  unfold tStep
  rw [anyB_congr l k h, anyB_congr l (f := fun j => !f j) (g := fun j => !g j) k (fun j hj => by rw [h j hj])]
/-- tainted, by itself -/
theorem tntB_eq (l : List Claimed) (m : List Audit) (k : Nat) (hk : k < l.length) : tntB l m k = tStep l m (tntB l m) k := by
  unfold tntB
  rw [pre_le l m l.length (k + 1) k (by omega) hk]
  show (if k = k then tStep l m (pre l m k) k else pre l m k k) = _
  rw [if_pos rfl]
  exact tStep_congr l m k (fun j hj => (pre_le l m l.length k j hj (by omega)).symm)
def numsN (f : Nat → Bool) : Nat → List Int
  | 0 => []
  | k + 1 => numsN f k ++ (if f k = true then [(k : Int)] else [])
theorem numsN_len (f : Nat → Bool) : ∀ k, (numsN f k).length ≤ k
  | 0 => Nat.le_refl _
  | k + 1 => by
    have := numsN_len f k
    rw [numsN, List.length_append]
    split <;> simp <;> omega
theorem numsN_mem {f : Nat → Bool} : ∀ {k : Nat} {z : Int}, z ∈ numsN f k ↔ ∃ i : Nat, i < k ∧ f i = true ∧ z = i
  | 0, z => by simp [numsN]
  | k + 1, z => by
    rw [numsN, List.mem_append, numsN_mem]
    constructor
    · rintro (⟨i, h1, h2, rfl⟩ | h)
      · exact ⟨i, by omega, h2, rfl⟩
      · by_cases hf : f k = true
        · rw [if_pos hf] at h
          exact ⟨k, by omega, hf, by simpa using h⟩
        · rw [if_neg hf] at h; cases h
    · rintro ⟨i, h1, h2, rfl⟩
      rcases Nat.lt_or_ge i k with h | h
      · exact .inl ⟨i, h, h2, rfl⟩
      · obtain rfl : i = k := by omega
        rw [if_pos h2]
        exact .inr (by simp)
theorem numsN_congr {f g : Nat → Bool} : ∀ k, (∀ j, j < k → f j = g j) → numsN f k = numsN g k
  | 0, _ => rfl
  | k + 1, h => by rw [numsN, numsN, numsN_congr k (fun j hj => h j (by omega)), h k (by omega)]
theorem rgt_range (l : List Claimed) (m : List Audit) : ∀ k s, -1 ≤ rgt l m k s ∧ rgt l m k s < k
  | 0, s => by show -1 ≤ (-1 : Int) ∧ (-1 : Int) < ((0 : Nat) : Int); omega
  | k + 1, s => by
    have := rgt_range l m k s
    show -1 ≤ (if _ then _ else _ : Int) ∧ (if _ then _ else _ : Int) < _
    split <;> omega
end Go.Proofs.YtgegdfmdcmgliaaGreatDoor.C11
