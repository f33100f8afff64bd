/-
  What Aside answers, and the laws of it, in plain words.
-/
import Derived.Test.YtoakhcajhfponaaDoorFamC10
namespace Go.Proofs.YtoakhcajhfponaaDoor.C10
open Go.RowKit Go.Maps
set_option linter.unusedVariables false

/-- how many runs are looked at -/
def cntAt (l : List TestRun) (at_ : Int) : Nat := (l.takeWhile fun r => decide (r.at_ ≤ at_)).length
def asideF (l : List TestRun) (many window good at_ : Int) : Int :=
  if histF l = 0 then (if inR 1 100 many = true ∧ inR 1 1000000000 window = true ∧ inR 1 100 good = true ∧ inR 0 1000000000 at_ = true then 0 else 1) else histF l
def AsIn (l : List TestRun) (many window good : Int) (n : Nat) (s : ByteArray) : Prop := ∃ x, hstK many window good l n s = some x ∧ x.aside = true
def AsideAns (l : List TestRun) (many window good at_ : Int) (c : Int) (L : List ByteArray) : Prop :=
  if c = 0 then Rising L ∧ ∀ s, s ∈ L ↔ AsIn l many window good (cntAt l at_) s else L = []

theorem cntAt_le (l : List TestRun) (at_ : Int) : cntAt l at_ ≤ l.length := (List.takeWhile_prefix _).length_le
theorem cntAt_in {l : List TestRun} {at_ : Int} {k : Nat} (hk : k < cntAt l at_) : ∃ r, l[k]? = some r ∧ r.at_ ≤ at_ := by
  have hp : (l.takeWhile fun r => decide (r.at_ ≤ at_)) <+: l := List.takeWhile_prefix _
  obtain ⟨t, ht⟩ := hp
  have hlt : k < (l.takeWhile fun r => decide (r.at_ ≤ at_)).length := hk
  have hg : (l.takeWhile fun r => decide (r.at_ ≤ at_))[k]? = some (l.takeWhile fun r => decide (r.at_ ≤ at_))[k] := List.getElem?_eq_getElem hlt
  refine ⟨(l.takeWhile fun r => decide (r.at_ ≤ at_))[k], ?_, ?_⟩
  · rw [← hg]
    conv => lhs; rw [← ht]
    exact List.getElem?_append_left hlt
  · have := List.all_takeWhile (p := fun r : TestRun => decide (r.at_ ≤ at_)) (l := l)
    rw [List.all_eq_true] at this
    simpa using this _ (List.getElem_mem hlt)
theorem cntAt_end : ∀ {l : List TestRun} {at_ : Int} {k : Nat} {r : TestRun}, l[k]? = some r → k = cntAt l at_ → at_ < r.at_
  | [], at_, k, r, h, _ => by simp at h
  | y :: l, at_, k, r, h, e => by
    unfold cntAt at e
    by_cases hy : y.at_ ≤ at_
    · rw [List.takeWhile_cons_of_pos (by simpa using hy), List.length_cons] at e
      subst e
      rw [List.getElem?_cons_succ] at h
      exact cntAt_end h rfl
    · rw [List.takeWhile_cons_of_neg (by simpa using hy)] at e
      simp only [List.length_nil] at e
      subst e
      simp only [List.getElem?_cons_zero] at h
      injection h with h
      subst h
      omega
theorem cntAt_take : ∀ (l : List TestRun) (at_ : Int) (m : Nat), cntAt l at_ ≤ m → cntAt (l.take m) at_ = cntAt l at_
  | [], at_, m, _ => by simp
  | y :: l, at_, m, h => by
    unfold cntAt at h ⊢
    by_cases hy : y.at_ ≤ at_
    · rw [List.takeWhile_cons_of_pos (by simpa using hy), List.length_cons] at h ⊢
      obtain ⟨m', rfl⟩ : ∃ m', m = m' + 1 := ⟨m - 1, by omega⟩
      rw [List.take_succ_cons, List.takeWhile_cons_of_pos (by simpa using hy), List.length_cons]
      have := cntAt_take l at_ m' (by unfold cntAt; omega)
      unfold cntAt at this
      omega
    · rw [List.takeWhile_cons_of_neg (by simpa using hy)]
      cases m with
      | zero => simp
      | succ m => rw [List.take_succ_cons, List.takeWhile_cons_of_neg (by simpa using hy)]

theorem AsideAns.eq {l : List TestRun} {many window good at_ c : Int} {m : Nat} {L L' : List ByteArray} (hm : cntAt l at_ ≤ m) (h : AsideAns l many window good at_ c L) (h' : AsideAns (l.take m) many window good at_ c L') : L = L' := by
  unfold AsideAns at h h'
  split at h
  · rename_i hc
    rw [if_pos hc] at h'
    refine h.1.eq h'.1 (fun s => (h.2 s).trans (Iff.trans ?_ (h'.2 s).symm))
    rw [cntAt_take l at_ m hm]
    unfold AsIn
    rw [hstK_take many window good l m _ hm]
  · rename_i hc
    rw [if_neg hc] at h'
    rw [h, h']

/-- a run that ended otherwise than one before with its key -/
def Shook (l : List TestRun) (k : Nat) (s : ByteArray) : Prop := ∃ i r, i < k ∧ l[i]? = some r ∧ r.test = s ∧ shakenB (tal (l.take i) (s, r.key)) r.pass = true
theorem Shook.up {l : List TestRun} {k : Nat} {s : ByteArray} (h : Shook l k s) : Shook l (k + 1) s := by
  obtain ⟨i, r, hi, h⟩ := h
  exact ⟨i, r, by omega, h⟩
theorem stepH_shook {many window good : Int} {k : Bool} {r : TestRun} {x : Hst} (hm : 1 ≤ many) (P : Prop) (hx : x.sh ≠ [] ∨ x.aside = true → P) (hk : k = true → P) :
    (stepH many window good k r x).sh ≠ [] ∨ (stepH many window good k r x).aside = true → P := by
  have hs : (if k = true then x.sh ++ [r.at_] else x.sh) ≠ [] → P := by
    intro h
    by_cases hk2 : k = true
    · exact hk hk2
    · rw [if_neg hk2] at h; exact hx (.inl h)
  have hf : ((if k = true then x.sh ++ [r.at_] else x.sh).filter fun t => !decide (t ≤ r.at_ - window)) ≠ [] → P := fun h => hs (fun e => h (by rw [e]; rfl))
  unfold stepH
  by_cases ha : x.aside = true
  · exact fun _ => hx (.inr ha)
  · rw [if_neg ha]
    by_cases hc : many ≤ (((if k = true then x.sh ++ [r.at_] else x.sh).filter fun t => !decide (t ≤ r.at_ - window)).length : Int)
    · intro _
      apply hf
      intro e
      rw [e] at hc
      simp at hc
      omega
    · rw [if_neg hc]
      rintro (h | h)
      · exact hf h
      · cases h
theorem hstK_shook {many window good : Int} (hm : 1 ≤ many) (l : List TestRun) : ∀ (k : Nat) (s : ByteArray) (x : Hst), hstK many window good l k s = some x → (x.sh ≠ [] ∨ x.aside = true) → Shook l k s
  | 0, s, x, h, _ => by cases h
  | k + 1, s, x, h, hx => by
    have ih := hstK_shook hm (window := window) (good := good) l k
    cases hr : l[k]? with
    | none => rw [hstK, hr] at h; exact (ih s x h hx).up
    | some r =>
      rw [hstK_succ hr] at h
      unfold upd at h
      split at h
      · rename_i e0
        injection h with h
        subst h e0
        refine stepH_shook hm _ (fun hy => ?_) (fun hk => ⟨k, r, by omega, hr, rfl, hk⟩) hx
        cases hq : hstK many window good l k r.test with
        | none => rw [hq] at hy; simp [hst0] at hy
        | some y => rw [hq] at hy; exact (ih _ y hq hy).up
      · exact (ih s x h hx).up
theorem tal_app : ∀ (a b : List TestRun) (x : ByteArray × ByteArray), (tal a x).1 ≤ (tal (a ++ b) x).1 ∧ (tal a x).2 ≤ (tal (a ++ b) x).2
  | [], b, x => by
    have := tal_nonneg b x
    simp [tal]; omega
  | r :: a, b, x => by
    have := tal_app a b x
    rw [List.cons_append, tal, tal]
    by_cases h1 : (r.test, r.key) = x
    · rw [if_pos h1, if_pos h1]
      by_cases h2 : r.pass = true
      · rw [if_pos h2, if_pos h2]; simp only; omega
      · rw [if_neg h2, if_neg h2]; simp only; omega
    · rw [if_neg h1, if_neg h1]; exact this
theorem shook_flaky {l : List TestRun} {k : Nat} {s : ByteArray} (h : Shook l k s) : FlakyIn l s := by
  obtain ⟨i, r, _, hr, hs, hk⟩ := h
  refine ⟨r.key, ?_⟩
  have h1 := tal_snoc (l.take i) r (s, r.key)
  rw [if_pos (by rw [hs])] at h1
  have h2 := tal_app (l.take i ++ [r]) (l.drop (i + 1)) (s, r.key)
  have e : l.take i ++ [r] ++ l.drop (i + 1) = l := by
    have : l.take i ++ [r] = l.take (i + 1) := by rw [List.take_add_one, hr]; rfl
    rw [this, List.take_append_drop]
  rw [e] at h2
  have h0 := tal_nonneg (l.take i) (s, r.key)
  have hboth : 0 < (tal l (s, r.key)).1 ∧ 0 < (tal l (s, r.key)).2 := by
    unfold shakenB at hk
    by_cases hp : r.pass = true
    · rw [hp] at hk
      simp at hk
      rw [if_pos hp] at h1
      rw [h1] at h2
      simp only at h2
      omega
    · have hp : r.pass = false := by simpa using hp
      rw [hp] at hk
      simp at hk
      rw [if_neg (by rw [hp]; decide)] at h1
      rw [h1] at h2
      simp only at h2
      omega
  unfold verdF
  rw [if_neg (by omega), if_neg (by omega), if_neg (by omega)]
theorem aside_flaky {l : List TestRun} {many window good : Int} {n : Nat} {s : ByteArray} (hm : 1 ≤ many) (h : AsIn l many window good n s) : FlakyIn l s := by
  obtain ⟨x, hx, ha⟩ := h
  exact shook_flaky (hstK_shook hm l n s x hx (.inr ha))
theorem hist_inA : ∀ (l : List TestRun) (p : Option Int), histErr p l = 0 → ∀ y ∈ l, 0 ≤ y.at_ ∧ y.at_ ≤ 1000000000 ∧ 0 ≤ y.seconds ∧ y.seconds ≤ 100000
  | r :: s, p, h, y, hy => by
    unfold histErr at h
    by_cases a : pathB r.test = true
    · rw [if_pos a] at h
      by_cases b : digB r.key = true
      · rw [if_pos b] at h
        by_cases c : inR 0 1000000000 r.at_ = true ∧ inR 0 100000 r.seconds = true
        · rw [if_pos c] at h
          by_cases d : p.map (fun t => decide (r.at_ < t)) = some true
          · rw [if_pos d] at h; cases h
          · rw [if_neg d] at h
            rcases List.mem_cons.1 hy with rfl | hy
            · have := inR_true c.1
              have := inR_true c.2
              omega
            · exact hist_inA s _ h y hy
        · rw [if_neg c] at h; cases h
      · rw [if_neg b] at h; cases h
    · rw [if_neg a] at h; cases h
theorem histErr_take : ∀ (l : List TestRun) (p : Option Int) (m : Nat), histErr p l = 0 → histErr p (l.take m) = 0
  | [], p, m, h => by simp [histErr]
  | r :: s, p, 0, h => by simp [histErr]
  | r :: s, p, m + 1, h => by
    rw [List.take_succ_cons]
    unfold histErr at h ⊢
    by_cases a : pathB r.test = true
    · rw [if_pos a] at h ⊢
      by_cases b : digB r.key = true
      · rw [if_pos b] at h ⊢
        by_cases c : inR 0 1000000000 r.at_ = true ∧ inR 0 100000 r.seconds = true
        · rw [if_pos c] at h ⊢
          by_cases d : p.map (fun t => decide (r.at_ < t)) = some true
          · rw [if_pos d] at h; cases h
          · rw [if_neg d] at h ⊢
            exact histErr_take s _ m h
        · rw [if_neg c] at h; cases h
      · rw [if_neg b] at h; cases h
    · rw [if_neg a] at h; cases h
theorem histF_take (l : List TestRun) (m : Nat) (h : histF l = 0) : histF (l.take m) = 0 := by
  unfold histF at h ⊢
  by_cases hl : l.length ≤ 3000
  · rw [if_pos hl] at h
    rw [if_pos (by rw [List.length_take]; omega)]
    exact histErr_take l none m h
  · rw [if_neg hl] at h; cases h
theorem histF_ok {l : List TestRun} (h : histF l = 0) : l.length ≤ 3000 ∧ ∀ y ∈ l, 0 ≤ y.at_ ∧ y.at_ ≤ 1000000000 := by
  unfold histF at h
  by_cases hl : l.length ≤ 3000
  · rw [if_pos hl] at h
    exact ⟨hl, fun y hy => by have := hist_inA l none h y hy; omega⟩
  · rw [if_neg hl] at h; cases h
end Go.Proofs.YtoakhcajhfponaaDoor.C10
