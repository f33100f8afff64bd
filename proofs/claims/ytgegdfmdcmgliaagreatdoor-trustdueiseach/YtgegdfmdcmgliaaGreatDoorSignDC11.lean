/-
  Signatures: what signing says, and what a claimed result is, in plain words.
-/
import Derived.Test.YtgegdfmdcmgliaaGreatDoorClaimBC11
import Derived.Test.YtgegdfmdcmgliaaGreatDoorDigP
import Derived.Test.YtgegdfmdcmgliaaGreatDoorWritDC11
namespace Go.Proofs.YtgegdfmdcmgliaaGreatDoor.C11
open Go.RowKit
set_option linter.unusedVariables false

theorem hexN_hex : ∀ k : Fin 16, hexcut.contains (hexN k.val) = true := by decide
theorem digB_digF (l : List UInt8) : digB (digF l) = true := by
  unfold digB
  rw [decide_eq_true (digF_size l), Bool.true_and, digF_data, List.all_eq_true]
  intro x hx
  obtain ⟨j, hj, rfl⟩ := List.mem_map.1 hx
  exact hexN_hex ⟨_, Nat.mod_lt _ (by decide)⟩
def nlS : ByteArray := ⟨#[10]⟩
def signT (s : ByteArray) (x : Claimed) : ByteArray := s ++ nlS ++ claimB x ++ nlS ++ s
def signF (s : ByteArray) (x : Claimed) : ByteArray := digF (signT s x).data.toList
/-- what Signature answers -/
def sigF (s : ByteArray) (x : Claimed) : Int := if secretB s = true then claimedF x else 3
def sigV (s : ByteArray) (x : Claimed) : ByteArray := if sigF s x = 0 then signF s x else ⟨#[]⟩
def bothF (l : List Writer) (x : Claimed) : Int := if writersF l = 0 then claimedF x else writersF l
def signedF (l : List Writer) (x : Claimed) : Int := if bothF l x = 0 then (if hasName l x.writer = true then 0 else 9) else bothF l x
def secOf (l : List Writer) (s : ByteArray) : ByteArray := match l[ixName l s]? with | some x => x.secret | none => ⟨#[]⟩
/-- what a claimed result is -/
def genF (l : List Writer) (x : Claimed) : Int :=
  if hasName l x.writer = true then (if x.sign = signF (secOf l x.writer) x then (if mayOf l x.writer x.label x.at_ = true then 1 else 4) else 2) else 3
def genV (l : List Writer) (x : Claimed) : Int := if bothF l x = 0 then genF l x else 0
/-- the same claim -/
structure SameC (x y : Claimed) : Prop where
  key : y.key = x.key
  label : y.label = x.label
  result : y.result = x.result
  writer : y.writer = x.writer
  at_ : y.at_ = x.at_
  uses : y.uses.l = x.uses.l
theorem SameC.rfl' (x : Claimed) : SameC x x := ⟨rfl, rfl, rfl, rfl, rfl, rfl⟩
theorem SameC.trans {x y z : Claimed} (h : SameC x y) (g : SameC y z) : SameC x z :=
  ⟨g.key.trans h.key, g.label.trans h.label, g.result.trans h.result, g.writer.trans h.writer, g.at_.trans h.at_, g.uses.trans h.uses⟩
theorem SameC.eqB {x y : Claimed} (h : SameC x y) : claimB y = claimB x := by
  unfold claimB claimW
  rw [h.key, h.label, h.result, h.writer, h.at_, h.uses]
theorem SameC.eqS {x y : Claimed} (h : SameC x y) (s : ByteArray) : signF s y = signF s x := by
  unfold signF signT
  rw [h.eqB]
theorem SameC.eqF {x y : Claimed} (h : SameC x y) (hs : signB y.sign = true) (hx : claimedF x = 0) : claimedF y = 0 := by
  unfold claimedF at hx ⊢
  rw [h.key, h.label, h.result, h.writer, h.at_, h.uses, if_pos hs]
  repeat' split at hx
  all_goals first | (cases hx; done) | skip
  all_goals simp_all
theorem secret_le {s : ByteArray} (h : secretB s = true) : s.size ≤ 100 := by
  unfold secretB at h
  rw [Bool.and_eq_true, Bool.and_eq_true] at h
  exact of_decide_eq_true h.2.1
theorem writersErr_each : ∀ (l : List Writer) (p : Option ByteArray), writersErr p l = 0 → ∀ x ∈ l, writerF x = 0
  | [], p, _ => fun x hx => by cases hx
  | s :: r, p, h => by
    rw [writersErr] at h
    by_cases hb : writerF s = 0
    · rw [if_pos hb] at h
      by_cases hp : p.map (sle s.name ·) = some true
      · rw [if_pos hp] at h; cases h
      · rw [if_neg hp] at h
        intro x hx
        rcases List.mem_cons.1 hx with rfl | hx
        · exact hb
        · exact writersErr_each r _ h x hx
    · rw [if_neg hb] at h; exact absurd h hb
theorem writer_secret {x : Writer} (h : writerF x = 0) : secretB x.secret = true := by
  unfold writerF at h
  by_cases h1 : wordB x.name = true
  · rw [if_pos h1] at h
    by_cases h2 : secretB x.secret = true
    · exact h2
    · rw [if_neg h2] at h; cases h
  · rw [if_neg h1] at h; cases h
theorem secOf_in {l : List Writer} {s : ByteArray} {x : Writer} (hx : l[ixName l s]? = some x) : secOf l s = x.secret := by rw [secOf, hx]
theorem bothF_zero {l : List Writer} {x : Claimed} (h : bothF l x = 0) : writersF l = 0 ∧ claimedF x = 0 := by
  unfold bothF at h
  by_cases h1 : writersF l = 0
  · rw [if_pos h1] at h; exact ⟨h1, h⟩
  · rw [if_neg h1] at h; exact absurd h h1
theorem bothF_of {l : List Writer} {x : Claimed} (h1 : writersF l = 0) (h2 : claimedF x = 0) : bothF l x = 0 := by
  unfold bothF
  rw [if_pos h1]; exact h2
end Go.Proofs.YtgegdfmdcmgliaaGreatDoor.C11
