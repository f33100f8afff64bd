/-
  Claimed results, logs and audits: what is wrong with them, in plain words.
-/
import Derived.Test.YtgegdfmdcmgliaaGreatDoorDigBC11
import Derived.Test.YtgegdfmdcmgliaaGreatDoorLabelPC11
import Derived.Test.YtgegdfmdcmgliaaGreatDoorTypesM
import Derived.Test.YtgegdfmdcmgliaaGreatDoorOrd
namespace Go.Proofs.YtgegdfmdcmgliaaGreatDoor.C11
open Go.RowKit
set_option linter.unusedVariables false

def usesErr : Option ByteArray → List ByteArray → Int
  | _, [] => 0
  | q, p :: r => if digB p = true then (if q.map (sle p ·) = some true then 8 else usesErr (some p) r) else 3
def prevU (l : List ByteArray) (k : Nat) : Option ByteArray := if k = 0 then none else l[k - 1]?
def signB (s : ByteArray) : Bool := (s.toList == []) || digB s
/-- the fault of a claimed result by itself -/
def claimedF (x : Claimed) : Int :=
  if digB x.key = true then
    if labelL x.label.data.toList = true then
      if digB x.result = true then
        if wordB x.writer = true then
          if inR 0 1000000000 x.at_ = true then
            if x.uses.l.length ≤ 50 then
              if usesErr none x.uses.l = 0 then (if signB x.sign = true then 0 else 3) else usesErr none x.uses.l
            else 2
          else 1
        else 5
      else 3
    else 10
  else 3
def logErr : Option Int → List Claimed → Int
  | _, [] => 0
  | p, x :: r => if claimedF x = 0 then (if (x.sign.toList == []) = true then 3 else if p.map (fun q => decide (x.at_ < q)) = some true then 8 else logErr (some x.at_) r) else claimedF x
def prevL (l : List Claimed) (k : Nat) : Option Int := if k = 0 then none else (l[k - 1]?).map (·.at_)
def logF (l : List Claimed) : Int := if l.length ≤ 1000 then logErr none l else 2
def atOf (l : List Claimed) (i : Int) : Int := match l[i.toNat]? with | some x => x.at_ | none => 0
/-- the fault of an audit -/
def auditF (l : List Claimed) (p : Option Int) (a : Audit) : Int :=
  if inR 0 ((l.length : Int) - 1) a.number = true then
    if digB a.result = true then
      if inR (atOf l a.number) 1000000000 a.at_ = true then (if p.map (fun q => decide (a.at_ < q)) = some true then 8 else 0) else 1
    else 3
  else 9
def auditsErr (l : List Claimed) : Option Int → List Audit → Int
  | _, [] => 0
  | p, a :: r => if auditF l p a = 0 then auditsErr l (some a.at_) r else auditF l p a
def prevA (l : List Audit) (k : Nat) : Option Int := if k = 0 then none else (l[k - 1]?).map (·.at_)
def auditsF (l : List Claimed) (m : List Audit) : Int := if logF l = 0 then (if m.length ≤ 1000 then auditsErr l none m else 2) else logF l

theorem logF_zero {l : List Claimed} (h : logF l = 0) : l.length ≤ 1000 ∧ logErr none l = 0 := by
  unfold logF at h
  by_cases h1 : l.length ≤ 1000
  · rw [if_pos h1] at h; exact ⟨h1, h⟩
  · rw [if_neg h1] at h; cases h
theorem auditsF_zero {l : List Claimed} {m : List Audit} (h : auditsF l m = 0) : logF l = 0 ∧ m.length ≤ 1000 ∧ auditsErr l none m = 0 := by
  unfold auditsF at h
  by_cases h1 : logF l = 0
  · rw [if_pos h1] at h
    by_cases h2 : m.length ≤ 1000
    · rw [if_pos h2] at h; exact ⟨h1, h2, h⟩
    · rw [if_neg h2] at h; cases h
  · rw [if_neg h1] at h; exact absurd h h1
theorem logErr_each : ∀ (l : List Claimed) (p : Option Int), logErr p l = 0 → ∀ x ∈ l, claimedF x = 0 ∧ (x.sign.toList == []) = false
  | [], p, _ => fun x hx => by cases hx
  | s :: r, p, h => by
    rw [logErr] at h
    by_cases hb : claimedF s = 0
    · rw [if_pos hb] at h
      by_cases he : (s.sign.toList == []) = true
      · rw [if_pos he] at h; cases h
      · rw [if_neg he] at h
        by_cases hp : p.map (fun q => decide (s.at_ < q)) = some true
        · rw [if_pos hp] at h; cases h
        · rw [if_neg hp] at h
          intro x hx
          rcases List.mem_cons.1 hx with rfl | hx
          · exact ⟨hb, by simpa using he⟩
          · exact logErr_each r _ h x hx
    · rw [if_neg hb] at h; exact absurd h hb
theorem auditF_zero {l : List Claimed} {p : Option Int} {a : Audit} (h : auditF l p a = 0) : (0 ≤ a.number ∧ a.number < l.length) ∧ digB a.result = true ∧ (atOf l a.number ≤ a.at_ ∧ a.at_ ≤ 1000000000) := by
  unfold auditF at h
  by_cases h1 : inR 0 ((l.length : Int) - 1) a.number = true
  · rw [if_pos h1] at h
    by_cases h2 : digB a.result = true
    · rw [if_pos h2] at h
      by_cases h3 : inR (atOf l a.number) 1000000000 a.at_ = true
      · have i1 := inR_true h1
        exact ⟨⟨i1.1, by omega⟩, h2, inR_true h3⟩
      · rw [if_neg h3] at h; cases h
    · rw [if_neg h2] at h; cases h
  · rw [if_neg h1] at h; cases h
theorem auditsErr_each (l : List Claimed) : ∀ (m : List Audit) (p : Option Int), auditsErr l p m = 0 → ∀ a ∈ m, (0 ≤ a.number ∧ a.number < l.length) ∧ digB a.result = true ∧ (atOf l a.number ≤ a.at_ ∧ a.at_ ≤ 1000000000)
  | [], p, _ => fun a ha => by cases ha
  | s :: r, p, h => by
    rw [auditsErr] at h
    by_cases hb : auditF l p s = 0
    · rw [if_pos hb] at h
      intro a ha
      rcases List.mem_cons.1 ha with rfl | ha
      · exact auditF_zero hb
      · exact auditsErr_each l r _ h a ha
    · rw [if_neg hb] at h; exact absurd h hb
/-- what is known of a claimed result without fault -/
structure ClaimedOk (x : Claimed) : Prop where
  key : x.key.size = 16
  label : labelL x.label.data.toList = true
  result : x.result.size = 16
  writer : wordB x.writer = true
  at0 : 0 ≤ x.at_
  at1 : x.at_ ≤ 1000000000
  uses : x.uses.l.length ≤ 50
  each : ∀ u ∈ x.uses.l, u.size = 16
  sign : x.sign.size ≤ 16
theorem usesErr_each : ∀ (l : List ByteArray) (p : Option ByteArray), usesErr p l = 0 → ∀ x ∈ l, digB x = true
  | [], p, _ => fun x hx => by cases hx
  | s :: r, p, h => by
    rw [usesErr] at h
    by_cases hb : digB s = true
    · rw [if_pos hb] at h
      by_cases hp : p.map (sle s ·) = some true
      · rw [if_pos hp] at h; cases h
      · rw [if_neg hp] at h
        intro x hx
        rcases List.mem_cons.1 hx with rfl | hx
        · exact hb
        · exact usesErr_each r _ h x hx
    · rw [if_neg hb] at h; cases h
theorem claimed_ok {x : Claimed} (h : claimedF x = 0) : ClaimedOk x := by
  unfold claimedF at h
  by_cases h1 : digB x.key = true
  · rw [if_pos h1] at h
    by_cases h2 : labelL x.label.data.toList = true
    · rw [if_pos h2] at h
      by_cases h3 : digB x.result = true
      · rw [if_pos h3] at h
        by_cases h4 : wordB x.writer = true
        · rw [if_pos h4] at h
          by_cases h5 : inR 0 1000000000 x.at_ = true
          · rw [if_pos h5] at h
            by_cases h6 : x.uses.l.length ≤ 50
            · rw [if_pos h6] at h
              by_cases h7 : usesErr none x.uses.l = 0
              · rw [if_pos h7] at h
                by_cases h8 : signB x.sign = true
                · have i5 := inR_true h5
                  refine ⟨digB_size h1, h2, digB_size h3, h4, i5.1, i5.2, h6, fun u hu => digB_size (usesErr_each _ _ h7 u hu), ?_⟩
                  unfold signB at h8
                  rw [Bool.or_eq_true] at h8
                  rcases h8 with h8 | h8
                  · rw [beq_iff_eq, Lib.toList_data] at h8
                    have : x.sign.data.toList.length = 0 := by rw [h8]; rfl
                    rw [Array.length_toList] at this
                    have e : x.sign.size = x.sign.data.size := rfl
                    omega
                  · have := digB_size h8; omega
                · rw [if_neg h8] at h; cases h
              · rw [if_neg h7] at h; exact absurd h h7
            · rw [if_neg h6] at h; cases h
          · rw [if_neg h5] at h; cases h
        · rw [if_neg h4] at h; cases h
      · rw [if_neg h3] at h; cases h
    · rw [if_neg h2] at h; cases h
  · rw [if_neg h1] at h; cases h
end Go.Proofs.YtgegdfmdcmgliaaGreatDoor.C11
