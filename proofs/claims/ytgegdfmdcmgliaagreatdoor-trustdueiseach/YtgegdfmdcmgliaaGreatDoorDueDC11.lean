/-
  Due, in plain words: the lot of a result, what is due.
-/
import Derived.Test.YtgegdfmdcmgliaaGreatDoorLotP
import Derived.Test.YtgegdfmdcmgliaaGreatDoorFactsDC11
import Derived.Test.YtgegdfmdcmgliaaGreatDoorClaimBC11
namespace Go.Proofs.YtgegdfmdcmgliaaGreatDoor.C11
open Go.RowKit
set_option linter.unusedVariables false

def spS : ByteArray := ⟨#[32]⟩
def lotT (round i : Int) (key : ByteArray) : ByteArray := itoaS round ++ spS ++ itoaS i ++ spS ++ key
def lotN (round i : Int) (key : ByteArray) : Nat := hexV ((digF (lotT round i key).data.toList).data.toList.take 8)
theorem lotN_lt (round i : Int) (key : ByteArray) : lotN round i key < 4294967296 := by
  unfold lotN
  rw [digF_data]
  have := hexV_lt (hex16 (fnv (lotT round i key).data.toList)) (fun c hc => hex16_mem hc) 8 (by simp [hex16])
  simpa using this
def lotF (round i : Int) (key : ByteArray) (every : Int) : Int := (lotN round i key : Int) % every
def keyOf (l : List Claimed) (i : Int) : ByteArray := match l[i.toNat]? with | some x => x.key | none => ⟨#[]⟩
theorem keyOf_get {l : List Claimed} {k : Nat} {x : Claimed} (h : l[k]? = some x) : keyOf l (k : Int) = x.key := by rw [keyOf, show (k : Int).toNat = k from rfl, h]
/-- what is due -/
def dueB (l : List Claimed) (m : List Audit) (every round : Int) (j : Nat) : Bool := !audB m j && (suB l m (wriOf l j) || decide (lotF round j (keyOf l j) every = 0))
/-- the fault of a call of Due -/
def dueF (l : List Claimed) (m : List Audit) (every round : Int) : Int :=
  if auditsF l m = 0 then (if inR 1 1000000 every = true then (if inR 0 1000000000 round = true then 0 else 1) else 1) else auditsF l m
def dueR (l : List Claimed) (m : List Audit) (every round : Int) : List Int × Int :=
  if dueF l m every round = 0 then (numsN (dueB l m every round) l.length, 0) else ([], dueF l m every round)
theorem due_one (l : List Claimed) (m : List Audit) (round : Int) : dueB l m 1 round = fun j => !audB m j := by
  funext j
  unfold dueB lotF
  rw [Int.emod_one]
  simp
/-- the numbers for which f says yes, one by one -/
theorem numsN_step (f : Nat → Bool) (k : Nat) : numsN f (k + 1) = numsN f k ++ (if f k = true then [(k : Int)] else []) := rfl
theorem numsN_pre (f : Nat → Bool) (k : Nat) : ∀ n, k ≤ n → ∃ r, numsN f n = numsN f k ++ r
  | 0, h => by
    obtain rfl : k = 0 := by omega
    exact ⟨[], by simp⟩
  | n + 1, h => by
    rcases Nat.eq_or_lt_of_le h with rfl | hlt
    · exact ⟨[], by simp⟩
    · obtain ⟨r, hr⟩ := numsN_pre f k n (by omega)
      exact ⟨r ++ (if f n = true then [(n : Int)] else []), by rw [numsN_step, hr, List.append_assoc]⟩
theorem numsN_at {f : Nat → Bool} {k n : Nat} (hk : k < n) (hf : f k = true) : (numsN f n)[(numsN f k).length]? = some (k : Int) := by
  obtain ⟨r, hr⟩ := numsN_pre f (k + 1) n hk
  rw [hr, numsN_step, if_pos hf, List.append_assoc, List.getElem?_append_right (Nat.le_refl _), Nat.sub_self]
  rfl
end Go.Proofs.YtgegdfmdcmgliaaGreatDoor.C11
