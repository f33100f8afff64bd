/-
  The claim of a result, as a text; claim of the program.
-/
import Derived.Test.YtgegdfmdcmgliaaGreatDoorClaimDC11
import Derived.Test.YtgegdfmdcmgliaaGreatDoorStr
import Derived.Test.YtgegdfmdcmgliaaGreatDoorStepApp
import Derived.Test.YtgegdfmdcmgliaaGreatDoorInC11
import Derived.Lib.AppendIntMem
import Derived.Lib.ItoaLen
import Derived.Lib.Join
namespace Go.Proofs.YtgegdfmdcmgliaaGreatDoor.C11
open Go.ChangeShapes Go.WideShapes Go.Deep Go.RowKit
set_option linter.unusedVariables false

def itoaS (n : Int) : ByteArray := ⟨(Lib.itoa n).toArray⟩
def claimW (x : Claimed) : List ByteArray := [x.key, x.label, x.result, x.writer, itoaS x.at_] ++ x.uses.l
def claimB (x : Claimed) : ByteArray := ⟨(Lib.join ((claimW x).map (·.data.toList)) [32]).toArray⟩
theorem path_sz {s : ByteArray} (h : pathB s = true) : s.size ≤ 200 := by
  unfold pathB at h
  rw [Bool.and_eq_true] at h
  have := inR_true h.1
  omega
theorem okPkg_sz {s : ByteArray} (h : okPkgB s = true) : s.size ≤ 200 := by
  unfold okPkgB at h
  rw [Bool.or_eq_true] at h
  rcases h with h | h
  · have := of_decide_eq_true h
    rw [this, bs_size]; simp
  · exact path_sz h
theorem word_sz {s : ByteArray} (h : wordB s = true) : s.size ≤ 40 := by
  unfold wordB at h
  have h3 : s.size = s.data.toList.length := by simp
  cases hd : s.data.toList with
  | nil => rw [hd] at h; cases h
  | cons c r =>
    rw [hd] at h h3
    rw [wordL, Bool.and_eq_true, Bool.and_eq_true] at h
    have h1 := of_decide_eq_true h.1.2
    rw [List.length_cons] at h3
    omega
theorem label_size {s : ByteArray} (h : labelL s.data.toList = true) : s.size ≤ 403 := by
  unfold labelL at h
  rw [Bool.and_eq_true, Bool.and_eq_true] at h
  obtain ⟨h1, h2, h3⟩ := h
  have hp := pref2 h1
  have hl : s.size = s.data.toList.length := by simp
  obtain ⟨t, ht⟩ : ∃ t, s.data.toList.drop 2 = t := ⟨_, rfl⟩
  rw [ht] at h2 h3 hp
  have hlen : s.data.toList.length = t.length + 2 := by rw [hp]; simp
  unfold checkB at h3
  rw [Bool.and_eq_true] at h3
  obtain ⟨h4, h5⟩ := h3
  have hz := path_sz h5
  have hy := okPkg_sz h4
  rw [bs_size] at hz hy
  unfold Lib.cut at h2 hz hy
  by_cases hi : 0 ≤ Lib.index t [58]
  · rw [if_pos hi] at hz hy
    have hroom := Lib.index_room t [58] hi
    simp only [List.length_singleton, List.length_take, List.length_drop] at hroom hz hy
    omega
  · rw [if_neg hi] at h2
    cases h2
theorem join_le (x : List UInt8) (r : List (List UInt8)) (K : Nat) (hx : x.length ≤ K) (hr : ∀ y ∈ r, y.length ≤ K) : (Lib.join (x :: r) [32]).length ≤ K + r.length * (K + 1) := by
  rw [Lib.join_cons, List.length_append]
  have : ∀ r : List (List UInt8), (∀ y ∈ r, y.length ≤ K) → (Lib.joinTail [32] r).length ≤ r.length * (K + 1) := by
    intro r
    induction r with
    | nil => intro _; simp [Lib.joinTail]
    | cons y s ih =>
      intro h
      have h1 := h y List.mem_cons_self
      have h2 := ih (fun z hz => h z (List.mem_cons_of_mem _ hz))
      have e : Lib.joinTail [32] (y :: s) = [32] ++ y ++ Lib.joinTail [32] s := by simp [Lib.joinTail]
      rw [e, List.length_append, List.length_append, List.length_singleton, List.length_cons, Nat.add_mul]
      omega
  have := this r hr
  omega
theorem itoaS_size {n : Int} (h : I64 n) : (itoaS n).size ≤ 21 := by
  have := Lib.itoa_length_le n h.1 h.2
  show (Lib.itoa n).toArray.size ≤ 21
  rw [List.size_toArray]; exact this
theorem claimW_size {x : Claimed} (h : ClaimedOk x) : ∀ s ∈ claimW x, s.size ≤ 403 := by
  intro s hs
  have hat := itoaS_size (n := x.at_) ⟨by have := h.at0; omega, by have := h.at1; omega⟩
  have hw := word_sz h.writer
  simp only [claimW, List.mem_append, List.mem_cons, List.not_mem_nil, or_false] at hs
  rcases hs with (rfl | rfl | rfl | rfl | rfl) | hs
  · have := h.key; omega
  · exact label_size h.label
  · have := h.result; omega
  · omega
  · omega
  · have := h.each s hs; omega
theorem claimB_size {x : Claimed} (h : ClaimedOk x) : (claimB x).size ≤ 30000 := by
  have e : (claimB x).size = (Lib.join ((claimW x).map (·.data.toList)) [32]).length := by
    show (Lib.join ((claimW x).map (·.data.toList)) [32]).toArray.size = _
    rw [List.size_toArray]
  have hz : ∀ y ∈ (claimW x).map (·.data.toList), y.length ≤ 403 := fun y hy => by
    obtain ⟨s, hs, rfl⟩ := List.mem_map.1 hy
    have := claimW_size h s hs
    have e : s.size = s.data.toList.length := by simp
    omega
  have hl : ((claimW x).map (·.data.toList)).length = 5 + x.uses.l.length := by simp [claimW]; omega
  have hu := h.uses
  cases hc : (claimW x).map (·.data.toList) with
  | nil => rw [hc] at hl; simp at hl; omega
  | cons a r =>
    rw [hc] at hz hl e
    have := join_le a r 403 (hz a List.mem_cons_self) (fun y hy => hz y (List.mem_cons_of_mem _ hy))
    rw [List.length_cons] at hl
    have h2 : r.length ≤ 54 := by omega
    have h3 : r.length * 404 ≤ 54 * 404 := Nat.mul_le_mul_right _ h2
    omega
end Go.Proofs.YtgegdfmdcmgliaaGreatDoor.C11
