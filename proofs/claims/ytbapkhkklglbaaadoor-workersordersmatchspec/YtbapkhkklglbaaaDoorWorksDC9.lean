/-
  Works: what is wrong with them, in plain words; the numbers of those that must be done before one.
-/
import Derived.Test.YtbapkhkklglbaaaDoorGraph
import Derived.Test.YtbapkhkklglbaaaDoorPairsC9
import Derived.Test.YtbapkhkklglbaaaDoorInC9
namespace Go.Proofs.YtbapkhkklglbaaaDoor.C9
open Go.RowKit
set_option linter.unusedVariables false

def afterErr : Option ByteArray → List ByteArray → Int
  | _, [] => 0
  | p, s :: r => if wordB s = true then (if p.map (sle s ·) = some true then 8 else afterErr (some s) r) else 5
def prevS (l : List ByteArray) (k : Nat) : Option ByteArray := if k = 0 then none else l[k - 1]?
def workF (x : Work) : Int := if wordB x.id_ = true then (if pairsF x.needs.l = 0 then (if inR 1 1000000 x.size = true then afterErr none x.after.l else 1) else pairsF x.needs.l) else 5
def worksErr : Option ByteArray → List Work → Int
  | _, [] => 0
  | p, x :: r => if workF x = 0 then (if p.map (sle x.id_ ·) = some true then 8 else worksErr (some x.id_) r) else workF x
def prevId (l : List Work) (k : Nat) : Option ByteArray := if k = 0 then none else (l[k - 1]?).map (·.id_)

def hasId (l : List Work) (s : ByteArray) : Bool := l.any (fun x => decide (x.id_ = s))
def ixOf (l : List Work) (s : ByteArray) : Nat := l.findIdx (fun x => decide (x.id_ = s))
def gOf (l : List Work) (i : Nat) : List Nat := match l[i]? with | some x => x.after.l.map (ixOf l) | none => []
/-- whether there are all those that must be done before one of the first k -/
def allThere (l : List Work) (k : Nat) : Bool := (l.take k).all (fun x => x.after.l.all (hasId l))
noncomputable def loopB (l : List Work) : Bool := open Classical in decide (Cyc (gOf l) l.length)
noncomputable def worksF (l : List Work) : Int := if l.length ≤ 200 then (if worksErr none l = 0 then (if allThere l l.length = true then (if loopB l = true then 17 else 0) else 9) else worksErr none l) else 2

theorem ltS_of_sle {a b : ByteArray} (h : sle b a = false) : cmpS a b = -1 := by
  rw [sle_cmp, decide_eq_false_iff_not] at h
  have := cmpS_range b a
  rw [cmpS_swap b a]; omega
theorem works_rise : ∀ (l : List Work) (p : Option ByteArray), worksErr p l = 0 → (l.Pairwise fun a b => cmpS a.id_ b.id_ = -1) ∧ ∀ q, p = some q → ∀ a ∈ l, cmpS q a.id_ = -1
  | [], p, _ => ⟨List.Pairwise.nil, fun q _ a ha => by cases ha⟩
  | s :: r, p, h => by
    rw [worksErr] at h
    by_cases hb : workF s = 0
    · rw [if_pos hb] at h
      by_cases hp : p.map (sle s.id_ ·) = some true
      · rw [if_pos hp] at h; cases h
      · rw [if_neg hp] at h
        obtain ⟨h1, h2⟩ := works_rise r _ h
        refine ⟨List.pairwise_cons.2 ⟨h2 s.id_ rfl, h1⟩, fun q hq a ha => ?_⟩
        subst hq
        have hs : cmpS q s.id_ = -1 := by
          cases hs : sle s.id_ q
          · exact ltS_of_sle hs
          · rw [Option.map_some, hs] at hp; exact absurd rfl hp
        rcases List.mem_cons.1 ha with rfl | ha
        · exact hs
        · exact cmpS_trans hs (h2 s.id_ rfl a ha)
    · rw [if_neg hb] at h; exact absurd h hb
theorem works_each : ∀ (l : List Work) (p : Option ByteArray), worksErr p l = 0 → ∀ x ∈ l, workF x = 0
  | [], p, _ => fun x hx => by cases hx
  | s :: r, p, h => by
    rw [worksErr] at h
    by_cases hb : workF s = 0
    · rw [if_pos hb] at h
      by_cases hp : p.map (sle s.id_ ·) = some true
      · rw [if_pos hp] at h; cases h
      · rw [if_neg hp] at h
        intro x hx
        rcases List.mem_cons.1 hx with rfl | hx
        · exact hb
        · exact works_each r _ h x hx
    · rw [if_neg hb] at h; exact absurd h hb

theorem ixOf_get {l : List Work} {s : ByteArray} (h : hasId l s = true) : ∃ x, l[ixOf l s]? = some x ∧ x.id_ = s := by
  have hlt : ixOf l s < l.length := by
    rw [hasId, List.any_eq_true] at h
    exact List.findIdx_lt_length_of_exists h
  refine ⟨l[ixOf l s], List.getElem?_eq_getElem hlt, ?_⟩
  have := List.findIdx_getElem (w := hlt)
  exact of_decide_eq_true this
theorem ixOf_lt {l : List Work} {s : ByteArray} (h : hasId l s = true) : ixOf l s < l.length := by
  obtain ⟨x, hx, _⟩ := ixOf_get h
  exact (List.getElem?_eq_some_iff.1 hx).1
/-- in a rising list the number is what any search finds -/
theorem ixOf_eq {l : List Work} (hr : l.Pairwise fun a b => cmpS a.id_ b.id_ = -1) {k : Nat} {x : Work} (hx : l[k]? = some x) : ixOf l x.id_ = k ∧ hasId l x.id_ = true := by
  have hin : hasId l x.id_ = true := by
    rw [hasId, List.any_eq_true]
    exact ⟨x, List.mem_of_getElem? hx, decide_eq_true rfl⟩
  refine ⟨?_, hin⟩
  obtain ⟨y, hy, hyx⟩ := ixOf_get hin
  obtain ⟨h1, e1⟩ := List.getElem?_eq_some_iff.1 hx
  obtain ⟨h2, e2⟩ := List.getElem?_eq_some_iff.1 hy
  have hp := List.pairwise_iff_getElem.1 hr
  rcases Nat.lt_trichotomy (ixOf l x.id_) k with h | h | h
  · have := hp _ _ h2 h1 h
    rw [e1, e2, hyx, (cmpS_zero _ _).2 rfl] at this
    cases this
  · exact h
  · have := hp _ _ h1 h2 h
    rw [e1, e2, hyx, (cmpS_zero _ _).2 rfl] at this
    cases this
theorem gOf_get {l : List Work} {i : Nat} {x : Work} (hx : l[i]? = some x) : gOf l i = x.after.l.map (ixOf l) := by rw [gOf, hx]
theorem allThere_get {l : List Work} (h : allThere l l.length = true) {i : Nat} {x : Work} (hx : l[i]? = some x) {s : ByteArray} (hs : s ∈ x.after.l) : hasId l s = true := by
  rw [allThere, List.take_length, List.all_eq_true] at h
  have := h x (List.mem_of_getElem? hx)
  rw [List.all_eq_true] at this
  exact this s hs
theorem gOf_lt {l : List Work} (h : allThere l l.length = true) : ∀ i, i < l.length → ∀ k ∈ gOf l i, k < l.length := by
  intro i hi k hk
  rw [gOf_get (List.getElem?_eq_getElem hi)] at hk
  obtain ⟨s, hs, rfl⟩ := List.mem_map.1 hk
  exact ixOf_lt (allThere_get h (List.getElem?_eq_getElem hi) hs)
theorem allThere_snoc {l : List Work} {k : Nat} {x : Work} (hx : l[k]? = some x) : allThere l (k + 1) = (allThere l k && x.after.l.all (hasId l)) := by
  rw [allThere, List.take_add_one, hx]
  simp [allThere, List.all_append]
theorem allThere_le {l : List Work} {j : Nat} (h : allThere l j = false) : ∀ k, j ≤ k → allThere l k = false := by
  intro k hk
  rw [allThere, List.all_eq_false] at h ⊢
  obtain ⟨x, hx, hb⟩ := h
  exact ⟨x, (List.take_subset_take_left l hk) hx, hb⟩
end Go.Proofs.YtbapkhkklglbaaaDoor.C9
