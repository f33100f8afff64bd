/-
  What the probes come to: plain Lean.
-/
import Derived.Test.YtjiijiamhpkahaaTypesP
namespace Go.Proofs.Ytjiijiamhpkahaa

/-- the error of probes by themselves -/
def chkP (n : Int) : List Probe → Int
  | [] => 0
  | p :: r => if 0 ≤ p.place ∧ p.place ≤ n then (if p.place = 0 ∧ p.pass = false then 12 else chkP n r) else 1
/-- the greatest change that it can have been -/
def grt (m : Int) : List Probe → Int
  | [] => m
  | p :: r => grt (if p.pass then m else min m p.place) r
def susF (n : Int) (l : List Probe) : Int × Int × Int :=
  if 1 ≤ n ∧ n ≤ 100000 then (if l.length ≤ 3000 then (if chkP n l = 0 then (1, grt n l, 0) else (0, 0, chkP n l)) else (0, 0, 2)) else (0, 0, 1)
/-- how often a place passed -/
def cntP (mid : Int) : List Probe → Nat
  | [] => 0
  | p :: r => (if p.place = mid ∧ p.pass = true then 1 else 0) + cntP mid r
def nextGo (sure : Int) (l : List Probe) (lo hi : Int) : Int × Bool :=
  if hi > lo + 1 then (if (cntP ((lo + hi) / 2) l : Int) < sure then ((lo + hi) / 2, true) else nextGo sure l ((lo + hi) / 2) hi) else (0, false)
termination_by (hi - lo).toNat
decreasing_by omega
def nextF (n : Int) (l : List Probe) (sure : Int) : Int × Bool × Int :=
  if (susF n l).2.2 = 0 then (if 1 ≤ sure ∧ sure ≤ 100 then ((nextGo sure l 0 (susF n l).2.1).1, (nextGo sure l 0 (susF n l).2.1).2, 0) else (0, false, 1)) else (0, false, (susF n l).2.2)

theorem drop_cons {α : Type} {l : List α} {k : Nat} {x : α} (h : l[k]? = some x) : l.drop k = x :: l.drop (k + 1) := by
  obtain ⟨hk, rfl⟩ := List.getElem?_eq_some_iff.1 h
  exact List.drop_eq_getElem_cons hk

theorem grt_bd (l : List Probe) (n : Int) (hc : chkP n l = 0) : ∀ m, 0 ≤ m → m ≤ n → 0 ≤ grt m l ∧ grt m l ≤ n := by
  induction l with
  | nil => intro m h1 h2; exact ⟨h1, h2⟩
  | cons p r ih =>
    intro m h1 h2
    unfold chkP at hc
    by_cases hr : 0 ≤ p.place ∧ p.place ≤ n
    · rw [if_pos hr] at hc
      split at hc
      · omega
      · unfold grt
        refine ih hc _ ?_ ?_
        · split <;> omega
        · split <;> omega
    · rw [if_neg hr] at hc; omega
theorem chkP_val (n : Int) (l : List Probe) : chkP n l = 0 ∨ chkP n l = 1 ∨ chkP n l = 12 := by
  induction l with
  | nil => exact .inl rfl
  | cons p r ih =>
    unfold chkP
    split
    · split
      · exact .inr (.inr rfl)
      · exact ih
    · exact .inr (.inl rfl)

theorem chk_bad {n pl : Int} {ps : Bool} {r : List Probe} (h : ¬ (0 ≤ pl ∧ pl ≤ n)) : chkP n (⟨pl, ps⟩ :: r) = 1 := by unfold chkP; rw [if_neg h]
theorem chk_clash {n : Int} {r : List Probe} (h : 0 ≤ n) : chkP n (⟨0, false⟩ :: r) = 12 := by unfold chkP; rw [if_pos ⟨Int.le_refl _, h⟩, if_pos ⟨rfl, rfl⟩]
theorem chk_on {n pl : Int} {ps : Bool} {r : List Probe} (h0 : 0 ≤ pl) (h1 : pl ≤ n) (h : ¬ (pl = 0 ∧ ps = false)) : chkP n (⟨pl, ps⟩ :: r) = chkP n r := by
  rw [chkP, if_pos ⟨h0, h1⟩, if_neg h]
theorem sus_err {n : Int} {l : List Probe} {a b c f : Int} (hF : (if chkP n l = 0 then (1, grt n l, 0) else (0, 0, chkP n l)) = (a, b, c)) (h : chkP n l = f) (hf : f ≠ 0) : 0 = a ∧ 0 = b ∧ f = c := by
  subst h
  rw [if_neg hf] at hF
  simpa using hF
theorem sus_fine {n : Int} {l : List Probe} {a b c : Int} (hF : (if chkP n l = 0 then (1, grt n l, 0) else (0, 0, chkP n l)) = (a, b, c)) (h : chkP n l = 0) : 1 = a ∧ grt n l = b ∧ 0 = c := by
  rw [if_pos h] at hF
  simpa using hF
end Go.Proofs.Ytjiijiamhpkahaa
