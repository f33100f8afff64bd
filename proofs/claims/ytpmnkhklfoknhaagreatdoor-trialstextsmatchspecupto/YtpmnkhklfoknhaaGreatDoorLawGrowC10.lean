/-
  The walk of TrialsVerdictsGrow.
-/
import Derived.Test.YtpmnkhklfoknhaaGreatDoorLawVerdC10
import Derived.Test.YtpmnkhklfoknhaaGreatDoorOwn
import Derived.Lib.SliceRun
import Derived.WalkSpells
namespace Go.Proofs.YtpmnkhklfoknhaaGreatDoor.C10
open Go.RowKit
set_option linter.unusedVariables false

theorem elem_TestRun : Elem Tryz.prog 40 RTestRun.size 56 := elem_of (z := .agg #[.string ByteArray.empty, .string ByteArray.empty, .int .i64 0, .bool false, .int .i64 0]) (by kernel_rfl) (by decide)

/-! ### plain -/
def lastAt : Option Int → List TestRun → Option Int
  | p, [] => p
  | _, r :: s => lastAt (some r.at_) s
theorem lastAt_get : ∀ (l : List TestRun) (p : Option Int) (j : Nat) (y : TestRun), l.length = j + 1 → l[j]? = some y → lastAt p l = some y.at_
  | [], _, _, _, h, _ => by simp at h
  | [r], p, j, y, h, hy => by
    obtain rfl : j = 0 := by simpa using h.symm
    simp at hy
    subst hy
    rfl
  | r :: r2 :: s, p, j, y, h, hy => by
    obtain ⟨j, rfl⟩ : ∃ i, j = i + 1 := ⟨j - 1, by simp at h; omega⟩
    rw [lastAt]
    exact lastAt_get (r2 :: s) _ j y (by simpa using h) (by simpa using hy)
theorem hist_in : ∀ (l : List TestRun) (p : Option Int), histErr p l = 0 → ∀ y ∈ l, 0 ≤ y.at_ ∧ y.at_ ≤ 1000000000 ∧ 0 ≤ y.seconds ∧ y.seconds ≤ 100000
  | r :: s, p, h, y, hy => by
    unfold histErr at h
    by_cases a : pathB r.test = true
    · rw [if_pos a] at h
      by_cases b : digB r.key = true
      · rw [if_pos b] at h
        by_cases c : inR 0 1000000000 r.at_ = true ∧ inR 0 100000 r.seconds = true
        · rw [if_pos c] at h
          by_cases d : p.map (fun t => decide (r.at_ < t)) = some true
          · rw [if_pos d] at h; cases h
          · rw [if_neg d] at h
            rcases List.mem_cons.1 hy with rfl | hy
            · have := inR_true c.1
              have := inR_true c.2
              omega
            · exact hist_in s _ h y hy
        · rw [if_neg c] at h; cases h
      · rw [if_neg b] at h; cases h
    · rw [if_neg a] at h; cases h
theorem histErr_snoc (r : TestRun) (h1 : pathB r.test = true) (h2 : digB r.key = true) (h3 : inR 0 1000000000 r.at_ = true ∧ inR 0 100000 r.seconds = true) :
    ∀ (l : List TestRun) (p : Option Int), histErr p l = 0 → (∀ t, lastAt p l = some t → t ≤ r.at_) → histErr p (l ++ [r]) = 0
  | [], p, _, hl => by
    rw [List.nil_append, histErr, if_pos h1, if_pos h2, if_pos h3, if_neg, histErr]
    cases p with
    | none => simp
    | some t =>
      have := hl t rfl
      simp; omega
  | y :: s, p, h, hl => by
    rw [List.cons_append]
    unfold histErr at h ⊢
    by_cases a : pathB y.test = true
    · rw [if_pos a] at h ⊢
      by_cases b : digB y.key = true
      · rw [if_pos b] at h ⊢
        by_cases c : inR 0 1000000000 y.at_ = true ∧ inR 0 100000 y.seconds = true
        · rw [if_pos c] at h ⊢
          by_cases d : p.map (fun t => decide (y.at_ < t)) = some true
          · rw [if_pos d] at h; cases h
          · rw [if_neg d] at h ⊢
            exact histErr_snoc r h1 h2 h3 s _ h hl
        · rw [if_neg c] at h; cases h
      · rw [if_neg b] at h; cases h
    · rw [if_neg a] at h; cases h
/-- the moment of the further run -/
def growAt (l : List TestRun) : Int := (lastAt none l).getD 0
theorem key_grow {l : List TestRun} {te ke : ByteArray} {pass : Bool} (h : keyF l te ke = 0) : keyF (l ++ [⟨te, ke, growAt l, pass, 0⟩]) te ke = if l.length + 1 ≤ 3000 then 0 else 2 := by
  obtain ⟨h0, hlen, h1, h2⟩ := key_good h
  have hh : histErr none l = 0 := by
    unfold histF at h0
    rwa [if_pos hlen] at h0
  have hin := hist_in l none hh
  have hat : 0 ≤ growAt l ∧ growAt l ≤ 1000000000 := by
    unfold growAt
    cases l with
    | nil => simp [lastAt]
    | cons r s =>
      obtain ⟨y, hy⟩ : ∃ y, (r :: s)[s.length]? = some y := ⟨(r :: s)[s.length], List.getElem?_eq_getElem _⟩
      rw [lastAt_get (r :: s) none s.length y rfl hy]
      have := hin y (List.mem_of_getElem? hy)
      simp only [Option.getD_some]; omega
  have hsn := histErr_snoc ⟨te, ke, growAt l, pass, 0⟩ h1 h2 ⟨inR_of hat, inR_of (by simp)⟩ l none hh (fun t ht => by unfold growAt; simp only; rw [ht]; simp)
  unfold keyF histF
  rw [List.length_append, List.length_singleton]
  by_cases hl : l.length + 1 ≤ 3000
  · rw [if_pos hl, hsn, if_pos hl, if_pos rfl, if_pos h1, if_pos h2]
  · rw [if_neg hl, if_neg hl, if_neg (by decide)]
def wantF (pass : Bool) (v : Int) : Int := if v ≠ 1 ∧ v ≠ (if pass = true then 2 else 3) then 4 else if pass = true then 2 else 3
theorem verd_grow (l : List TestRun) (te ke : ByteArray) (t : Int) (pass : Bool) : verdF (tal (l ++ [⟨te, ke, t, pass, 0⟩]) (te, ke)) = wantF pass (verdF (tal l (te, ke))) := by
  have hn := tal_nonneg l (te, ke)
  rw [tal_snoc, if_pos rfl]
  obtain ⟨⟨p, f⟩, hpf⟩ : ∃ y, tal l (te, ke) = y := ⟨_, rfl⟩
  rw [hpf] at hn ⊢
  simp only at hn ⊢
  unfold wantF verdF
  cases pass
  · simp only [Bool.false_eq_true, if_false]
    by_cases h1 : p + f = 0
    · rw [if_pos h1, if_neg (by omega), if_neg (by omega), if_pos (by omega)]; rfl
    · rw [if_neg h1, if_neg (by omega), if_neg (by omega)]
      by_cases h2 : f = 0
      · rw [if_pos h2, if_neg (by omega)]; rfl
      · rw [if_neg h2]
        by_cases h3 : p = 0
        · rw [if_pos h3]; rfl
        · rw [if_neg h3]; rfl
  · simp only [if_true]
    by_cases h1 : p + f = 0
    · rw [if_pos h1, if_neg (by omega), if_pos (by omega)]; rfl
    · rw [if_neg h1, if_neg (by omega)]
      by_cases h2 : f = 0
      · rw [if_pos h2, if_pos h2]; rfl
      · rw [if_neg h2, if_neg h2, if_neg (by omega)]
        by_cases h3 : p = 0
        · rw [if_pos h3]; rfl
        · rw [if_neg h3]; rfl
theorem verdR_ok {l : List TestRun} {te ke : ByteArray} {a : Int} (h : verdR l te ke = (a, 0)) : keyF l te ke = 0 ∧ verdF (tal l (te, ke)) = a := by
  unfold verdR at h
  by_cases hk : keyF l te ke = 0
  · rw [if_pos hk, Prod.mk.injEq] at h
    exact ⟨hk, h.1⟩
  · rw [if_neg hk, Prod.mk.injEq] at h
    exact absurd h.2 hk
theorem verdR_bad {l : List TestRun} {te ke : ByteArray} {a c : Int} (h : verdR l te ke = (a, c)) (hc : ¬ c = 0) : a = 0 := by
  unfold verdR at h
  by_cases hk : keyF l te ke = 0
  · rw [if_pos hk, Prod.mk.injEq] at h
    exact absurd h.2.symm hc
  · rw [if_neg hk, Prod.mk.injEq] at h
    exact h.1.symm
theorem grow_case {l l2 : List TestRun} {te ke : ByteArray} {pass : Bool} {a a2 c2 : Int} (h : verdR l te ke = (a, 0)) (h2 : l ++ [⟨te, ke, growAt l, pass, 0⟩] = l2) (h3 : verdR l2 te ke = (a2, c2)) : (c2 = 2 ∧ a2 = 0) ∨ (c2 = 0 ∧ a2 = wantF pass a) := by
  subst h2
  obtain ⟨hk, hv⟩ := verdR_ok h
  have hg := key_grow (pass := pass) hk
  have hw := verd_grow l te ke (growAt l) pass
  rw [hv] at hw
  unfold verdR at h3
  rw [hw, hg] at h3
  by_cases hl : l.length + 1 ≤ 3000
  · rw [if_pos hl, if_pos rfl, Prod.mk.injEq] at h3
    exact Or.inr ⟨h3.2.symm, h3.1.symm⟩
  · rw [if_neg hl, if_neg (by decide), Prod.mk.injEq] at h3
    exact Or.inl ⟨h3.2.symm, h3.1.symm⟩
theorem growAt_nil : growAt [] = 0 := rfl
theorem growAt_last {l : List TestRun} {j : Nat} {y : TestRun} (h : l.length = j + 1) (hy : l[j]? = some y) : growAt l = y.at_ := by rw [growAt, lastAt_get l none j y h hy]; rfl

end Go.Proofs.YtpmnkhklfoknhaaGreatDoor.C10
