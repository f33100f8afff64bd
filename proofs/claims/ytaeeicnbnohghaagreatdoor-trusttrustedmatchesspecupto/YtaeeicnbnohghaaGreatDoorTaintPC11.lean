/-
  tainted, round by round: in plain words.
-/
import Derived.Test.YtaeeicnbnohghaaGreatDoorFactsDC11
namespace Go.Proofs.YtaeeicnbnohghaaGreatDoor.C11
open Go.RowKit
set_option linter.unusedVariables false

theorem pre_old {l : List Claimed} {m : List Audit} {k j : Nat} (h : j < k) : pre l m (k + 1) j = pre l m k j := by
  show (if j = k then tStep l m (pre l m k) k else pre l m k j) = _
  rw [if_neg (by omega)]
theorem pre_new (l : List Claimed) (m : List Audit) (k : Nat) : pre l m (k + 1) k = tStep l m (pre l m k) k := by
  show (if k = k then tStep l m (pre l m k) k else pre l m k k) = _
  rw [if_pos rfl]
/-- the results of tainted ones so far -/
def badF (l : List Claimed) (m : List Audit) (k : Nat) : ByteArray → Bool := anyB l (pre l m k) k
/-- the results of others so far -/
def goodF (l : List Claimed) (m : List Audit) (k : Nat) : ByteArray → Bool := anyB l (fun j => !pre l m k j) k
theorem bad_step {l : List Claimed} {m : List Audit} {k : Nat} (h : tStep l m (pre l m k) k = true) : badF l m (k + 1) = fun s => badF l m k s || decide (resOf l k = s) := by
  funext s
  show (anyB l (pre l m (k + 1)) k s || (pre l m (k + 1) k && decide (resOf l k = s))) = _
  rw [anyB_congr l k (fun j hj => pre_old hj), pre_new, h, Bool.true_and]
  rfl
theorem bad_keep {l : List Claimed} {m : List Audit} {k : Nat} (h : tStep l m (pre l m k) k = false) : badF l m (k + 1) = badF l m k := by
  funext s
  show (anyB l (pre l m (k + 1)) k s || (pre l m (k + 1) k && decide (resOf l k = s))) = _
  rw [anyB_congr l k (fun j hj => pre_old hj), pre_new, h, Bool.false_and, Bool.or_false]
  rfl
theorem good_step {l : List Claimed} {m : List Audit} {k : Nat} (h : tStep l m (pre l m k) k = false) : goodF l m (k + 1) = fun s => goodF l m k s || decide (resOf l k = s) := by
  funext s
  show (anyB l (fun j => !pre l m (k + 1) j) k s || (!pre l m (k + 1) k && decide (resOf l k = s))) = _
  rw [anyB_congr l (f := fun j => !pre l m (k + 1) j) (g := fun j => !pre l m k j) k (fun j hj => by show (!pre l m (k + 1) j) = (!pre l m k j); rw [pre_old hj]), pre_new, h]
  rfl
theorem good_keep {l : List Claimed} {m : List Audit} {k : Nat} (h : tStep l m (pre l m k) k = true) : goodF l m (k + 1) = goodF l m k := by
  funext s
  show (anyB l (fun j => !pre l m (k + 1) j) k s || (!pre l m (k + 1) k && decide (resOf l k = s))) = _
  rw [anyB_congr l (f := fun j => !pre l m (k + 1) j) (g := fun j => !pre l m k j) k (fun j hj => by show (!pre l m (k + 1) j) = (!pre l m k j); rw [pre_old hj]), pre_new, h]
  simp only [Bool.not_true, Bool.false_and, Bool.or_false]
  rfl
def useP (l : List Claimed) (m : List Audit) (k : Nat) (u : ByteArray) : Bool := badF l m k u && !goodF l m k u
theorem tStep_parts {l : List Claimed} {m : List Audit} {k : Nat} : tStep l m (pre l m k) k = (wrB l m k || ((suB l m (wriOf l k) && !audB m k) && decide (rgt l m l.length (wriOf l k) < (k : Int))) || (useOf l k).any (useP l m k)) := rfl
theorem pre_upd (l : List Claimed) (m : List Audit) (k : Nat) : pre l m (k + 1) = fun j => if j = k then tStep l m (pre l m k) k else pre l m k j := rfl
/-- what 'right' tells of a writer -/
theorem rgtF_some {l : List Claimed} {m : List Audit} {n : Nat} {s : ByteArray} : (rgtF l m n s).isSome = suB l m s := by
  unfold rgtF
  cases suB l m s <;> rfl
theorem rgtF_get {l : List Claimed} {m : List Audit} {n : Nat} {s : ByteArray} (h : suB l m s = true) : (rgtF l m n s).getD 0 = rgt l m n s := by
  unfold rgtF
  rw [if_pos h]; rfl
theorem rgtF_none {l : List Claimed} {m : List Audit} {n : Nat} {s : ByteArray} (h : suB l m s = false) : (rgtF l m n s).getD 0 = 0 := by
  unfold rgtF
  rw [h]; rfl
end Go.Proofs.YtaeeicnbnohghaaGreatDoor.C11
