/-
  A further audit that finds right what it audits taints nothing more, in plain words.
-/
import Derived.Test.YtaeeicnbnohghaaGreatDoorFactsDC11
namespace Go.Proofs.YtaeeicnbnohghaaGreatDoor.C11
open Go.RowKit
set_option linter.unusedVariables false

theorem wrB_app {l : List Claimed} {m : List Audit} {a : Audit} (h : badA l a = false) : wrB l (m ++ [a]) = wrB l m := by
  funext j
  unfold wrB
  rw [List.any_append, List.any_cons, List.any_nil, Bool.or_false, h, Bool.and_false, Bool.or_false]
theorem suB_app {l : List Claimed} {m : List Audit} {a : Audit} (h : badA l a = false) : suB l (m ++ [a]) = suB l m := by
  rw [suB_snoc, if_neg (by rw [h]; decide)]
theorem audB_app {m : List Audit} {a : Audit} {j : Nat} (h : audB m j = true) : audB (m ++ [a]) j = true := by
  unfold audB at h ⊢
  rw [List.any_append, h, Bool.true_or]
theorem endB_congr {l : List Claimed} {m m' : List Audit} (h : wrB l m' = wrB l m) : ∀ k s, endB l m' k s = endB l m k s
  | 0, s => rfl
  | k + 1, s => by
    show (endB l m' k s || (wrB l m' k && decide (wriOf l k = s))) = (endB l m k s || (wrB l m k && decide (wriOf l k = s)))
    rw [endB_congr h k s, h]
theorem rgt_mono {l : List Claimed} {m m' : List Audit} (hw : wrB l m' = wrB l m) (ha : ∀ j, audB m j = true → audB m' j = true) : ∀ k s, rgt l m k s ≤ rgt l m' k s
  | 0, s => Int.le_refl _
  | k + 1, s => by
    show (if (!wrB l m k && (audB m k && !endB l m k (wriOf l k)) && decide (wriOf l k = s)) = true then (k : Int) else rgt l m k s) ≤ (if (!wrB l m' k && (audB m' k && !endB l m' k (wriOf l k)) && decide (wriOf l k = s)) = true then (k : Int) else rgt l m' k s)
    rw [hw, endB_congr hw]
    have r1 := rgt_range l m k s
    have r2 := rgt_mono hw ha k s
    have h := ha k
    by_cases hc : (!wrB l m k && (audB m k && !endB l m k (wriOf l k)) && decide (wriOf l k = s)) = true
    · have hc' : (!wrB l m k && (audB m' k && !endB l m k (wriOf l k)) && decide (wriOf l k = s)) = true := by
        simp only [Bool.and_eq_true] at hc ⊢
        exact ⟨⟨hc.1.1, h hc.1.2.1, hc.1.2.2⟩, hc.2⟩
      rw [if_pos hc, if_pos hc']
      exact Int.le_refl _
    · rw [if_neg hc]
      split <;> omega
theorem anyB_mono {l : List Claimed} {f g : Nat → Bool} : ∀ (k : Nat) (u : ByteArray), (∀ j, j < k → f j = true → g j = true) → anyB l f k u = true → anyB l g k u = true
  | 0, u, _, h => h
  | k + 1, u, hf, h => by
    have h : (anyB l f k u || (f k && decide (resOf l k = u))) = true := h
    show (anyB l g k u || (g k && decide (resOf l k = u))) = true
    rw [Bool.or_eq_true, Bool.and_eq_true] at h ⊢
    rcases h with h | h
    · exact .inl (anyB_mono k u (fun j hj => hf j (by omega)) h)
    · exact .inr ⟨hf k (by omega) h.1, h.2⟩
theorem tStep_mono {l : List Claimed} {m m' : List Audit} (hw : wrB l m' = wrB l m) (hs : suB l m' = suB l m) (ha : ∀ j, audB m j = true → audB m' j = true) {f f' : Nat → Bool} {k : Nat} (hf : ∀ j, j < k → f' j = true → f j = true)
    (h : tStep l m' f' k = true) : tStep l m f k = true := by
  unfold tStep at h ⊢
  rw [Bool.or_eq_true, Bool.or_eq_true] at h ⊢
  rw [hw, hs] at h
  rcases h with (h | h) | h
  · exact .inl (.inl h)
  · refine .inl (.inr ?_)
    simp only [Bool.and_eq_true, Bool.not_eq_true', decide_eq_true_iff] at h ⊢
    have hr := rgt_mono hw ha l.length (wriOf l k)
    refine ⟨⟨h.1.1, ?_⟩, by omega⟩
    cases e : audB m k
    · rfl
    · have := ha k e
      rw [h.1.2] at this
      cases this
  · refine .inr ?_
    rw [List.any_eq_true] at h ⊢
    obtain ⟨u, hu, h⟩ := h
    refine ⟨u, hu, ?_⟩
    simp only [Bool.and_eq_true, Bool.not_eq_true'] at h ⊢
    refine ⟨anyB_mono k u hf h.1, ?_⟩
    cases e : anyB l (fun j => !f j) k u
    · rfl
    · have := anyB_mono (g := fun j => !f' j) k u (fun j hj hj2 => by
        cases e2 : f' j
        · rfl
        · have := hf j hj e2
          simp [this] at hj2) e
      rw [h.2] at this
      cases this
theorem tntB_mono {l : List Claimed} {m m' : List Audit} (hw : wrB l m' = wrB l m) (hs : suB l m' = suB l m) (ha : ∀ j, audB m j = true → audB m' j = true) : ∀ k, k < l.length → tntB l m' k = true → tntB l m k = true := by
  intro k
  induction k using Nat.strongRecOn with
  | _ k ih =>
    intro hk h
    rw [tntB_eq l m' k hk] at h
    rw [tntB_eq l m k hk]
    exact tStep_mono hw hs ha (fun j hj => ih j hj (by omega)) h
/-- the further audit taints nothing more -/
theorem tntB_right {l : List Claimed} {m : List Audit} {a : Audit} (h : badA l a = false) {k : Nat} (hk : k < l.length) (ht : tntB l (m ++ [a]) k = true) : tntB l m k = true :=
  tntB_mono (wrB_app h) (suB_app h) (fun j hj => audB_app hj) k hk ht
theorem nums_right {l : List Claimed} {m : List Audit} {a : Audit} (h : badA l a = false) {z : Int} (hz : z ∈ numsN (tntB l (m ++ [a])) l.length) : z ∈ numsN (tntB l m) l.length := by
  obtain ⟨i, h1, h2, h3⟩ := numsN_mem.1 hz
  exact numsN_mem.2 ⟨i, h1, tntB_right h h1 h2, h3⟩
/-- its own faults: only too many audits -/
theorem auditsErr_snoc {l : List Claimed} {a : Audit} : ∀ (m : List Audit) (p : Option Int), auditsErr l p m = 0 → auditF l (if m = [] then p else (m.getLast?).map (·.at_)) a = 0 → auditsErr l p (m ++ [a]) = 0
  | [], p, _, h => by
    show (if auditF l p a = 0 then auditsErr l (some a.at_) [] else auditF l p a) = 0
    rw [if_pos rfl] at h
    rw [if_pos h]; rfl
  | b :: r, p, h1, h => by
    rw [auditsErr] at h1
    show (if auditF l p b = 0 then auditsErr l (some b.at_) (r ++ [a]) else auditF l p b) = 0
    by_cases hb : auditF l p b = 0
    · rw [if_pos hb] at h1 ⊢
      refine auditsErr_snoc r _ h1 ?_
      rw [if_neg (by simp)] at h
      by_cases hr : r = []
      · subst hr; exact h
      · rw [if_neg hr]
        rw [List.getLast?_cons] at h
        rw [List.getLast?_eq_some_getLast hr] at h ⊢
        exact h
    · rw [if_neg hb] at h1; exact absurd h1 hb
/-- the greatest moment -/
def maxAt (b : Int) : List Audit → Int
  | [] => b
  | a :: r => maxAt (max b a.at_) r
theorem maxAt_snoc : ∀ (m : List Audit) (b : Int) (a : Audit), maxAt b (m ++ [a]) = max (maxAt b m) a.at_
  | [], b, a => rfl
  | c :: r, b, a => maxAt_snoc r _ a
theorem maxAt_ge : ∀ (m : List Audit) (b : Int), b ≤ maxAt b m
  | [], b => Int.le_refl _
  | c :: r, b => by
    have := maxAt_ge r (max b c.at_)
    show b ≤ maxAt (max b c.at_) r
    omega
theorem maxAt_mem : ∀ (m : List Audit) (b : Int), ∀ a ∈ m, a.at_ ≤ maxAt b m
  | c :: r, b, a, h => by
    rcases List.mem_cons.1 h with rfl | h
    · have := maxAt_ge r (max b a.at_)
      show a.at_ ≤ maxAt (max b a.at_) r
      omega
    · exact maxAt_mem r _ a h
theorem maxAt_le : ∀ (m : List Audit) (b C : Int), b ≤ C → (∀ a ∈ m, a.at_ ≤ C) → maxAt b m ≤ C
  | [], b, C, h, _ => h
  | c :: r, b, C, h, hm => by
    have := hm c List.mem_cons_self
    exact maxAt_le r _ C (by omega) (fun a ha => hm a (List.mem_cons_of_mem _ ha))
theorem audits_right {l : List Claimed} {m : List Audit} {k : Nat} {x : Claimed} (h : auditsF l m = 0) (hx : l[k]? = some x) :
    auditsF l (m ++ [⟨(k : Int), x.result, maxAt x.at_ m⟩]) = if m.length + 1 ≤ 1000 then 0 else 2 := by
  obtain ⟨h1, h2, h3⟩ := auditsF_zero h
  obtain ⟨_, h5⟩ := logF_zero h1
  obtain ⟨hc, _⟩ := logErr_each l none h5 x (List.mem_of_getElem? hx)
  have hk := (List.getElem?_eq_some_iff.1 hx).1
  have hdig : digB x.result = true := by
    unfold claimedF at hc
    by_cases g1 : digB x.key = true
    · rw [if_pos g1] at hc
      by_cases g2 : labelL x.label.data.toList = true
      · rw [if_pos g2] at hc
        by_cases g3 : digB x.result = true
        · exact g3
        · rw [if_neg g3] at hc; cases hc
      · rw [if_neg g2] at hc; cases hc
    · rw [if_neg g1] at hc; cases hc
  have hok := claimed_ok hc
  have heach := auditsErr_each l m none h3
  have hmx : maxAt x.at_ m ≤ 1000000000 := maxAt_le m _ _ hok.at1 (fun a ha => (heach a ha).2.2.2)
  have hge := maxAt_ge m x.at_
  have hat : atOf l (k : Int) = x.at_ := by rw [atOf, show (k : Int).toNat = k from rfl, hx]
  unfold auditsF
  rw [if_pos h1, List.length_append, List.length_singleton]
  by_cases hl : m.length + 1 ≤ 1000
  · rw [if_pos hl, if_pos hl]
    refine auditsErr_snoc m none h3 ?_
    unfold auditF
    simp only
    rw [if_pos (inR_of ⟨by omega, by omega⟩), if_pos hdig, hat, if_pos (inR_of ⟨hge, hmx⟩), if_neg]
    by_cases hm : m = []
    · rw [if_pos hm]; simp
    · rw [if_neg hm, List.getLast?_eq_some_getLast hm]
      simp only [Option.map_some, Option.some.injEq, decide_eq_true_iff]
      have := maxAt_mem m x.at_ _ (List.getLast_mem hm)
      omega
  · rw [if_neg hl, if_neg hl]
theorem badA_right {l : List Claimed} {k : Nat} {x : Claimed} (hx : l[k]? = some x) (t : Int) : badA l ⟨(k : Int), x.result, t⟩ = false := by
  unfold badA
  simp only
  rw [resOf_get hx]
  simp
/-- what Tainted hands back -/
def taintR (l : List Claimed) (m : List Audit) : List Int × Int := if auditsF l m = 0 then (numsN (tntB l m) l.length, 0) else ([], auditsF l m)
end Go.Proofs.YtaeeicnbnohghaaGreatDoor.C11
