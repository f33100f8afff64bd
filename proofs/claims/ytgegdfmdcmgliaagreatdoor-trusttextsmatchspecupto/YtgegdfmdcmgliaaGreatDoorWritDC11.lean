/-
  Writers: what is wrong with them, in plain words.
-/
import Derived.Test.YtgegdfmdcmgliaaGreatDoorSecretC11
import Derived.Test.YtgegdfmdcmgliaaGreatDoorTypesM
import Derived.Test.YtgegdfmdcmgliaaGreatDoorInC11
import Derived.Test.YtgegdfmdcmgliaaGreatDoorWordPC11
import Derived.Test.YtgegdfmdcmgliaaGreatDoorLabelRC11
namespace Go.Proofs.YtgegdfmdcmgliaaGreatDoor.C11
open Go.RowKit
set_option linter.unusedVariables false

def slsl : ByteArray := ⟨#[47, 47]⟩
def prefB (s : ByteArray) : Bool := Lib.hasPrefix s.data.toList slsl.data.toList && (decide (s.size ≤ 1000) && plainB s)
def prefsErr : Option ByteArray → List ByteArray → Int
  | _, [] => 0
  | q, p :: r => if prefB p = true then (if q.map (sle p ·) = some true then 8 else prefsErr (some p) r) else 3
def prevP (l : List ByteArray) (k : Nat) : Option ByteArray := if k = 0 then none else l[k - 1]?
def prefsF (l : List ByteArray) : Int := if l.length ≤ 30 then prefsErr none l else 2
/-- the fault of a writer by itself -/
def writerF (x : Writer) : Int :=
  if wordB x.name = true then
    if secretB x.secret = true then
      if prefsF x.prefixes.l = 0 then
        if inR 0 1000000000 x.from_ = true ∧ inR 0 1000000001 x.to_ = true then
          if x.to_ ≤ x.from_ then 8 else 0
        else 1
      else prefsF x.prefixes.l
    else 3
  else 5
def writersErr : Option ByteArray → List Writer → Int
  | _, [] => 0
  | p, x :: r => if writerF x = 0 then (if p.map (sle x.name ·) = some true then 8 else writersErr (some x.name) r) else writerF x
def prevWr (l : List Writer) (k : Nat) : Option ByteArray := if k = 0 then none else (l[k - 1]?).map (·.name)
def writersF (l : List Writer) : Int := if l.length ≤ 50 then writersErr none l else 2
def hasName (l : List Writer) (s : ByteArray) : Bool := l.any (fun x => decide (x.name = s))
def ixName (l : List Writer) (s : ByteArray) : Nat := l.findIdx (fun x => decide (x.name = s))
/-- whether a writer may store a result -/
def mayB (x : Writer) (label : ByteArray) (at_ : Int) : Bool :=
  (decide (x.from_ ≤ at_) && decide (at_ < x.to_)) && x.prefixes.l.any (fun p => Lib.hasPrefix label.data.toList p.data.toList)
def mayOf (l : List Writer) (s label : ByteArray) (at_ : Int) : Bool := match l.find? (fun x => decide (x.name = s)) with | some x => mayB x label at_ | none => false
/-- the fault of a call of May -/
def mayF (l : List Writer) (s label : ByteArray) (at_ : Int) : Int :=
  if writersF l = 0 then
    if wordB s = true then
      if labelL label.data.toList = true then
        if inR 0 1000000000 at_ = true then 0 else 1
      else 10
    else 5
  else writersF l
def mayR (l : List Writer) (s label : ByteArray) (at_ : Int) : Bool := if mayF l s label at_ = 0 then mayOf l s label at_ else false

theorem ltN_of_sle {a b : ByteArray} (h : sle b a = false) : cmpS a b = -1 := by
  rw [sle_cmp, decide_eq_false_iff_not] at h
  have := cmpS_range b a
  rw [cmpS_swap b a]; omega
theorem writers_rise : ∀ (l : List Writer) (p : Option ByteArray), writersErr p l = 0 → (l.Pairwise fun a b => cmpS a.name b.name = -1) ∧ ∀ q, p = some q → ∀ a ∈ l, cmpS q a.name = -1
  | [], p, _ => ⟨List.Pairwise.nil, fun q _ a ha => by cases ha⟩
  | s :: r, p, h => by
    rw [writersErr] at h
    by_cases hb : writerF s = 0
    · rw [if_pos hb] at h
      by_cases hp : p.map (sle s.name ·) = some true
      · rw [if_pos hp] at h; cases h
      · rw [if_neg hp] at h
        obtain ⟨h1, h2⟩ := writers_rise r _ h
        refine ⟨List.pairwise_cons.2 ⟨h2 s.name rfl, h1⟩, fun q hq a ha => ?_⟩
        subst hq
        have hs : cmpS q s.name = -1 := by
          cases hs : sle s.name q
          · exact ltN_of_sle hs
          · rw [Option.map_some, hs] at hp; exact absurd rfl hp
        rcases List.mem_cons.1 ha with rfl | ha
        · exact hs
        · exact cmpS_trans hs (h2 s.name rfl a ha)
    · rw [if_neg hb] at h; exact absurd h hb
theorem writers_len {l : List Writer} (h : writersF l = 0) : l.length ≤ 50 ∧ writersErr none l = 0 := by
  unfold writersF at h
  by_cases h1 : l.length ≤ 50
  · rw [if_pos h1] at h; exact ⟨h1, h⟩
  · rw [if_neg h1] at h; cases h
theorem ixName_get {l : List Writer} {s : ByteArray} (h : hasName l s = true) : ∃ x, l[ixName l s]? = some x ∧ x.name = s := by
  have hlt : ixName l s < l.length := by
    rw [hasName, List.any_eq_true] at h
    exact List.findIdx_lt_length_of_exists h
  refine ⟨l[ixName l s], List.getElem?_eq_getElem hlt, ?_⟩
  have := List.findIdx_getElem (w := hlt)
  exact of_decide_eq_true this
theorem ixName_lt {l : List Writer} {s : ByteArray} (h : hasName l s = true) : ixName l s < l.length := by
  obtain ⟨x, hx, _⟩ := ixName_get h
  exact (List.getElem?_eq_some_iff.1 hx).1
theorem ixName_eq {l : List Writer} (hr : l.Pairwise fun a b => cmpS a.name b.name = -1) {k : Nat} {x : Writer} (hx : l[k]? = some x) : ixName l x.name = k ∧ hasName l x.name = true := by
  have hin : hasName l x.name = true := by
    rw [hasName, List.any_eq_true]
    exact ⟨x, List.mem_of_getElem? hx, decide_eq_true rfl⟩
  refine ⟨?_, hin⟩
  obtain ⟨y, hy, hyx⟩ := ixName_get hin
  obtain ⟨h1, e1⟩ := List.getElem?_eq_some_iff.1 hx
  obtain ⟨h2, e2⟩ := List.getElem?_eq_some_iff.1 hy
  have hp := List.pairwise_iff_getElem.1 hr
  rcases Nat.lt_trichotomy (ixName l x.name) k with h | h | h
  · have := hp _ _ h2 h1 h
    rw [e1, e2, hyx, (cmpS_zero _ _).2 rfl] at this
    cases this
  · exact h
  · have := hp _ _ h1 h2 h
    rw [e1, e2, hyx, (cmpS_zero _ _).2 rfl] at this
    cases this
theorem mayOf_in {l : List Writer} {s label : ByteArray} {at_ : Int} {x : Writer} (h : hasName l s = true) (hx : l[ixName l s]? = some x) : mayOf l s label at_ = mayB x label at_ := by
  have : l.find? (fun x => decide (x.name = s)) = some x := by
    rw [List.find?_eq_getElem?_findIdx]
    exact hx
  rw [mayOf, this]
theorem mayOf_out {l : List Writer} {s label : ByteArray} {at_ : Int} (h : hasName l s = false) : mayOf l s label at_ = false := by
  have : l.find? (fun x => decide (x.name = s)) = none := by
    rw [List.find?_eq_none]
    rw [hasName, List.any_eq_false] at h
    intro x hx
    simpa using h x hx
  rw [mayOf, this]
end Go.Proofs.YtgegdfmdcmgliaaGreatDoor.C11
