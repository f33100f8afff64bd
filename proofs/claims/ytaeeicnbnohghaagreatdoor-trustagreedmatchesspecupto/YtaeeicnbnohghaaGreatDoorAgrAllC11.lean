/-
  Several texts of mine as one: XAgrD, XRAgrP, XAgrM, XAgr, XRAgr, XLawAgr, XAgrRow.
-/
import Derived.Test.YtaeeicnbnohghaaGreatDoorFactsDC11
import Derived.Test.YtaeeicnbnohghaaGreatDoorSignDC11
import Derived.Test.YtaeeicnbnohghaaGreatDoorSortSC11
import Derived.Test.YtaeeicnbnohghaaGreatDoorSignGC11
import Derived.Test.YtaeeicnbnohghaaGreatDoorCAuditsC11
import Derived.Test.YtaeeicnbnohghaaGreatDoorAt7
import Derived.WalkSpells
import Derived.Test.YtaeeicnbnohghaaGreatDoorCloneS
import Derived.Test.YtaeeicnbnohghaaGreatDoorAwake11C11
import Derived.Test.YtaeeicnbnohghaaGreatDoorPowRowC11
import Derived.Test.YtaeeicnbnohghaaGreatDoorCards
import Derived.Test.YtaeeicnbnohghaaGreatDoorTie
import Derived.OpenShut
import Derived.ShutString
import Derived.ChangeOld
import Derived.Deep.DeepHandedRow
import Derived.Lib.LaidTab
import Derived.Lib.LaidU8
import Derived.JoinedCond
import Derived.Deep.CondSized
namespace Go.Proofs.YtaeeicnbnohghaaGreatDoor.C11
open Go.RowKit
set_option linter.unusedVariables false

def goodJ (wl : List Writer) (l : List Claimed) (key : ByteArray) (j : Nat) : Bool := match l[j]? with | some x => decide (x.key = key) && decide (genF wl x = 1) | none => false
theorem goodJ_get {wl : List Writer} {l : List Claimed} {key : ByteArray} {j : Nat} {x : Claimed} (h : l[j]? = some x) : goodJ wl l key j = (decide (x.key = key) && decide (genF wl x = 1)) := by unfold goodJ; rw [h]
theorem gen_has {wl : List Writer} {x : Claimed} (h : genF wl x = 1) : hasName wl x.writer = true := by
  unfold genF at h
  by_cases h1 : hasName wl x.writer = true
  · exact h1
  · rw [if_neg h1] at h; cases h
theorem goodJ_has {wl : List Writer} {l : List Claimed} {key : ByteArray} {j : Nat} (h : goodJ wl l key j = true) : hasName wl (wriOf l j) = true := by
  unfold goodJ at h
  cases hx : l[j]? with
  | none => rw [hx] at h; cases h
  | some x =>
    rw [hx] at h
    simp only [Bool.and_eq_true, decide_eq_true_iff] at h
    rw [wriOf_get hx]
    exact gen_has h.2
/-- f says which of the results count -/
def supB (l : List Claimed) (f : Nat → Bool) : Nat → ByteArray → ByteArray → Bool
  | 0 => fun _ _ => false
  | k + 1 => fun s x => supB l f k s x || (f k && (decide (resOf l k = s) && decide (wriOf l k = x)))
def hasR (l : List Claimed) (f : Nat → Bool) : Nat → ByteArray → Bool
  | 0 => fun _ => false
  | k + 1 => fun s => hasR l f k s || (f k && decide (resOf l k = s))
def cntS (l : List Claimed) (f : Nat → Bool) : Nat → ByteArray → Nat
  | 0 => fun _ => 0
  | k + 1 => fun s => if (f k && (decide (resOf l k = s) && !supB l f k s (wriOf l k))) = true then cntS l f k s + 1 else cntS l f k s
theorem sup_keep {l : List Claimed} {f : Nat → Bool} {k : Nat} (h : f k = false) : supB l f (k + 1) = supB l f k := by
  funext s x
  show (supB l f k s x || (f k && _)) = _
  rw [h, Bool.false_and, Bool.or_false]
theorem has_keep {l : List Claimed} {f : Nat → Bool} {k : Nat} (h : f k = false) : hasR l f (k + 1) = hasR l f k := by
  funext s
  show (hasR l f k s || (f k && _)) = _
  rw [h, Bool.false_and, Bool.or_false]
theorem cnt_keep {l : List Claimed} {f : Nat → Bool} {k : Nat} (h : f k = false) : cntS l f (k + 1) = cntS l f k := by
  funext s
  show (if (f k && _) = true then _ else _) = _
  rw [h, Bool.false_and, if_neg (by decide)]
theorem sup_other {l : List Claimed} {f : Nat → Bool} {k : Nat} {s : ByteArray} (h : ¬ resOf l k = s) : supB l f (k + 1) s = supB l f k s := by
  funext x
  show (supB l f k s x || (f k && (decide (resOf l k = s) && _))) = _
  rw [decide_eq_false h, Bool.false_and, Bool.and_false, Bool.or_false]
theorem cnt_other {l : List Claimed} {f : Nat → Bool} {k : Nat} {s : ByteArray} (h : ¬ resOf l k = s) : cntS l f (k + 1) s = cntS l f k s := by
  show (if (f k && (decide (resOf l k = s) && _)) = true then _ else _) = _
  rw [decide_eq_false h, Bool.false_and, Bool.and_false, if_neg (by decide)]
theorem sup_same {l : List Claimed} {f : Nat → Bool} {k : Nat} (hf : f k = true) : supB l f (k + 1) (resOf l k) = fun x => supB l f k (resOf l k) x || decide (wriOf l k = x) := by
  funext x
  show (supB l f k (resOf l k) x || (f k && (decide (resOf l k = resOf l k) && decide (wriOf l k = x)))) = _
  rw [hf, decide_eq_true rfl, Bool.true_and, Bool.true_and]
theorem cnt_same {l : List Claimed} {f : Nat → Bool} {k : Nat} (hf : f k = true) : cntS l f (k + 1) (resOf l k) = if supB l f k (resOf l k) (wriOf l k) = true then cntS l f k (resOf l k) else cntS l f k (resOf l k) + 1 := by
  show (if (f k && (decide (resOf l k = resOf l k) && !supB l f k (resOf l k) (wriOf l k))) = true then _ else _) = _
  rw [hf, decide_eq_true rfl, Bool.true_and, Bool.true_and]
  cases supB l f k (resOf l k) (wriOf l k) <;> rfl
theorem has_same {l : List Claimed} {f : Nat → Bool} {k : Nat} (hf : f k = true) : hasR l f (k + 1) = fun s => hasR l f k s || decide (resOf l k = s) := by
  funext s
  show (hasR l f k s || (f k && decide (resOf l k = s))) = _
  rw [hf, Bool.true_and]
theorem cnt_le (l : List Claimed) (f : Nat → Bool) : ∀ k s, cntS l f k s ≤ k
  | 0, s => Nat.le_refl _
  | k + 1, s => by
    have := cnt_le l f k s
    have e : cntS l f (k + 1) s = if (f k && (decide (resOf l k = s) && !supB l f k s (wriOf l k))) = true then cntS l f k s + 1 else cntS l f k s := rfl
    rw [e]
    split <;> omega
theorem has_cnt (l : List Claimed) (f : Nat → Bool) : ∀ k s, hasR l f k s = true ↔ 1 ≤ cntS l f k s
  | 0, s => by
    constructor
    · intro h; cases h
    · intro h; exact absurd h (by show ¬ 1 ≤ 0; omega)
  | k + 1, s => by
    have ih := has_cnt l f k
    by_cases hs : resOf l k = s
    · cases hf : f k
      · rw [has_keep hf, cnt_keep hf]; exact ih s
      · subst hs
        rw [has_same hf, cnt_same hf]
        simp only [decide_true, Bool.or_true, true_iff]
        split
        · rename_i hp
          -- a writer stands behind it already
          have : ∀ k s x, supB l f k s x = true → hasR l f k s = true := by
            intro k
            induction k with
            | zero => intro s x h; cases h
            | succ k ih2 =>
              intro s x h
              have h' : (supB l f k s x || (f k && (decide (resOf l k = s) && decide (wriOf l k = x)))) = true := h
              show (hasR l f k s || (f k && decide (resOf l k = s))) = true
              rw [Bool.or_eq_true] at h' ⊢
              rcases h' with h' | h'
              · exact .inl (ih2 s x h')
              · simp only [Bool.and_eq_true] at h' ⊢
                exact .inr ⟨h'.1, h'.2.1⟩
          exact (ih _).1 (this _ _ _ hp)
        · omega
    · rw [cnt_other hs, ← ih s]
      show (hasR l f k s || (f k && decide (resOf l k = s))) = true ↔ _
      rw [decide_eq_false hs, Bool.and_false, Bool.or_false]

/-! ### the count, by the writers -/
theorem countP_upd {wl : List Writer} (hp : wl.Pairwise fun a b => a.name ≠ b.name) (p : ByteArray → Bool) {y : Writer} (hy : y ∈ wl) (h0 : p y.name = false) :
    wl.countP (fun x => p x.name || decide (y.name = x.name)) = wl.countP (fun x => p x.name) + 1 := by
  induction wl with
  | nil => cases hy
  | cons a r ih =>
    rw [List.pairwise_cons] at hp
    rw [List.countP_cons, List.countP_cons]
    by_cases ha : y.name = a.name
    · have hr : r.countP (fun x => p x.name || decide (y.name = x.name)) = r.countP (fun x => p x.name) := by
        refine List.countP_congr fun x hx => ?_
        have : ¬ y.name = x.name := fun e => hp.1 x hx (ha.symm.trans e)
        simp [this]
      rw [hr, decide_eq_true ha, Bool.or_true, ← ha, h0]
      simp
    · have hyr : y ∈ r := by
        rcases List.mem_cons.1 hy with rfl | h
        · exact absurd rfl ha
        · exact h
      rw [ih hp.2 hyr, decide_eq_false ha, Bool.or_false]
      omega
theorem cnt_writers {wl : List Writer} {l : List Claimed} {f : Nat → Bool} (hp : wl.Pairwise fun a b => a.name ≠ b.name) (hh : ∀ j, f j = true → hasName wl (wriOf l j) = true) : ∀ k s, cntS l f k s = wl.countP (fun x => supB l f k s x.name)
  | 0, s => by
    show 0 = _
    rw [eq_comm, List.countP_eq_zero]
    intro x _ h; cases h
  | k + 1, s => by
    have ih := cnt_writers hp hh k s
    by_cases hs : resOf l k = s
    · cases hf : f k
      · rw [cnt_keep hf, sup_keep hf]; exact ih
      · subst hs
        rw [cnt_same hf, sup_same hf]
        obtain ⟨y, hy, hyn⟩ := ixName_get (hh k hf)
        have hym := List.mem_of_getElem? hy
        by_cases hsp : supB l f k (resOf l k) (wriOf l k) = true
        · rw [if_pos hsp, ih]
          refine List.countP_congr fun x _ => ?_
          by_cases e : wriOf l k = x.name
          · rw [← e, hsp]; simp
          · simp [e]
        · rw [if_neg hsp, ih]
          have := countP_upd hp (supB l f k (resOf l k)) hym (by rw [hyn]; simpa using hsp)
          rw [hyn] at this
          exact this.symm
    · rw [cnt_other hs, sup_other hs]; exact ih

/-! ### the result with the most -/
def Top (c : ByteArray → Nat) (many : Int) (u : ByteArray) : Prop := 1 ≤ c u ∧ many ≤ c u ∧ ∀ t, t ≠ u → c t < c u
def AgrA (c : ByteArray → Nat) (many : Int) (s : ByteArray) (x : Bool) : Prop := (x = true ∧ Top c many s) ∨ (x = false ∧ s = ⟨#[]⟩ ∧ ¬ ∃ u, Top c many u)
theorem Top.eq {c : ByteArray → Nat} {m n : Int} {u v : ByteArray} (h : Top c m u) (g : Top c n v) : u = v := by
  by_cases e : u = v
  · exact e
  · have h1 := h.2.2 v (fun h => e h.symm)
    have h2 := g.2.2 u e
    omega
theorem AgrA.eq {c : ByteArray → Nat} {many : Int} {s t : ByteArray} {x y : Bool} (h : AgrA c many s x) (g : AgrA c many t y) : s = t ∧ x = y := by
  rcases h with ⟨rfl, h⟩ | ⟨rfl, rfl, h⟩
  · rcases g with ⟨rfl, g⟩ | ⟨rfl, rfl, g⟩
    · exact ⟨h.eq g, rfl⟩
    · exact absurd ⟨_, h⟩ g
  · rcases g with ⟨rfl, g⟩ | ⟨rfl, rfl, g⟩
    · exact absurd ⟨_, g⟩ h
    · exact ⟨rfl, rfl⟩
theorem Top.fewer {c : ByteArray → Nat} {many few : Int} {u : ByteArray} (h : Top c many u) (hf : few ≤ many) : Top c few u := ⟨h.1, Int.le_trans hf h.2.1, h.2.2⟩
theorem AgrA.fewer {c : ByteArray → Nat} {many few : Int} {s t : ByteArray} {y : Bool} (h : AgrA c many s true) (hf : few ≤ many) (g : AgrA c few t y) : y = true ∧ s = t := by
  rcases h with ⟨_, h⟩ | ⟨h, _⟩
  · rcases g with ⟨rfl, g⟩ | ⟨rfl, rfl, g⟩
    · exact ⟨rfl, h.eq g⟩
    · exact absurd ⟨_, h.fewer hf⟩ g
  · cases h
/-- D: what has been looked at -/
structure AgrI (c : ByteArray → Nat) (D : ByteArray → Prop) (best : ByteArray) (most : Nat) (sev : Bool) : Prop where
  le : ∀ t, D t → c t ≤ most
  zero : most = 0 → sev = false
  best : 0 < most → D best ∧ c best = most ∧ (sev = true ↔ ∃ t, t ≠ best ∧ D t ∧ c t = most)
theorem AgrI.start (c : ByteArray → Nat) (D : ByteArray → Prop) (hD : ∀ t, ¬ D t) (b : ByteArray) : AgrI c D b 0 false := ⟨fun t h => absurd h (hD t), fun _ => rfl, fun h => by omega⟩
theorem AgrI.congr {c : ByteArray → Nat} {D D' : ByteArray → Prop} {best : ByteArray} {most : Nat} {sev : Bool} (h : AgrI c D best most sev) (e : ∀ t, D t ↔ D' t) : AgrI c D' best most sev := by
  obtain rfl : D = D' := funext fun t => propext (e t)
  exact h
theorem AgrI.more {c : ByteArray → Nat} {D D' : ByteArray → Prop} {best : ByteArray} {most : Nat} {sev : Bool} {s : ByteArray} (h : AgrI c D best most sev) (hD : ∀ t, D' t ↔ D t ∨ t = s) (hn : most < c s) : AgrI c D' s (c s) false := by
  refine ⟨fun t ht => ?_, fun h => rfl, fun _ => ⟨(hD s).2 (.inr rfl), rfl, ?_⟩⟩
  · rcases (hD t).1 ht with ht | rfl
    · have := h.le t ht; omega
    · exact Nat.le_refl _
  · constructor
    · intro h; cases h
    · rintro ⟨t, h1, h2, h3⟩
      rcases (hD t).1 h2 with h4 | rfl
      · have := h.le t h4; omega
      · exact absurd rfl h1
theorem AgrI.same {c : ByteArray → Nat} {D D' : ByteArray → Prop} {best : ByteArray} {most : Nat} {sev : Bool} {s : ByteArray} (h : AgrI c D best most sev) (hD : ∀ t, D' t ↔ D t ∨ t = s) (hs : ¬ D s) (hn : c s = most) (h0 : 0 < most) : AgrI c D' best most true := by
  obtain ⟨h1, h2, h3⟩ := h.best h0
  refine ⟨fun t ht => ?_, fun h => by omega, fun _ => ⟨(hD best).2 (.inl h1), h2, ?_⟩⟩
  · rcases (hD t).1 ht with ht | rfl
    · exact h.le t ht
    · omega
  · constructor
    · intro _
      exact ⟨s, fun e => hs (by rw [e]; exact h1), (hD s).2 (.inr rfl), hn⟩
    · intro _; rfl
theorem AgrI.less {c : ByteArray → Nat} {D D' : ByteArray → Prop} {best : ByteArray} {most : Nat} {sev : Bool} {s : ByteArray} (h : AgrI c D best most sev) (hD : ∀ t, D' t ↔ D t ∨ t = s) (hn : c s < most ∨ most = 0 ∧ c s = 0) : AgrI c D' best most sev := by
  refine ⟨fun t ht => ?_, h.zero, fun h0 => ?_⟩
  · rcases (hD t).1 ht with ht | rfl
    · exact h.le t ht
    · omega
  · obtain ⟨h1, h2, h3⟩ := h.best h0
    refine ⟨(hD best).2 (.inl h1), h2, h3.trans ?_⟩
    constructor
    · rintro ⟨t, a, b, e⟩; exact ⟨t, a, (hD t).2 (.inl b), e⟩
    · rintro ⟨t, a, b, e⟩
      rcases (hD t).1 b with b | rfl
      · exact ⟨t, a, b, e⟩
      · omega
theorem AgrI.no {c : ByteArray → Nat} {D : ByteArray → Prop} {best : ByteArray} {most : Nat} {sev : Bool} {many : Int} (h : AgrI c D best most sev) (hD : ∀ t, 1 ≤ c t → D t) (hm : (most : Int) < many ∨ sev = true ∨ most = 0) : AgrA c many ⟨#[]⟩ false := by
  refine .inr ⟨rfl, rfl, ?_⟩
  rintro ⟨u, h1, h2, h3⟩
  have hle := h.le u (hD u h1)
  rcases hm with hm | hm | hm
  · omega
  · by_cases h0 : 0 < most
    · obtain ⟨g1, g2, g3⟩ := h.best h0
      obtain ⟨t, a, b, e⟩ := g3.1 hm
      by_cases hu : u = best
      · have := h3 t (fun e2 => a (e2.trans hu)); rw [hu] at this; omega
      · have := h3 best (fun e2 => hu e2.symm); omega
    · omega
  · omega
theorem AgrI.yes {c : ByteArray → Nat} {D : ByteArray → Prop} {best : ByteArray} {most : Nat} {sev : Bool} {many : Int} (h : AgrI c D best most sev) (hD : ∀ t, 1 ≤ c t → D t) (h1 : 0 < most) (hm : many ≤ most) (hs : sev = false) : AgrA c many best true := by
  obtain ⟨g1, g2, g3⟩ := h.best h1
  refine .inl ⟨rfl, by omega, by omega, fun t ht => ?_⟩
  by_cases h0 : 1 ≤ c t
  · have h4 := h.le t (hD t h0)
    rcases Nat.lt_or_ge (c t) most with h5 | h5
    · omega
    · have := g3.2 ⟨t, ht, hD t h0, by omega⟩
      rw [hs] at this; cases this
  · omega
/-- the fault of a call of Agreed -/
def agrF (wl : List Writer) (l : List Claimed) (key : ByteArray) (many : Int) : Int :=
  if writersF wl = 0 then (if logF l = 0 then (if digB key = true then (if inR 1 50 many = true then 0 else 1) else 3) else logF l) else writersF wl
def AgrAns (wl : List Writer) (l : List Claimed) (key : ByteArray) (many f : Int) (w0 : World) (e : Ending) (w' : World) : Prop :=
  ∃ (s : ByteArray) (x : Bool), e = .returned (.tuple #[.string s, .bool x, .int .i64 f]) ∧ s.size ≤ maxLen ∧ (f ≠ 0 → s = ⟨#[]⟩ ∧ x = false) ∧ (f = 0 → AgrA (cntS l (goodJ wl l key) l.length) many s x) ∧ Below w0.heap.size w0 w'
end Go.Proofs.YtaeeicnbnohghaaGreatDoor.C11

namespace Go.Proofs.YtaeeicnbnohghaaGreatDoor.C11
open Go.RowKit
set_option linter.unusedVariables false

theorem sup_mono {l : List Claimed} {f : Nat → Bool} {s x : ByteArray} {k : Nat} (h : supB l f k s x = true) : ∀ n, k ≤ n → supB l f n s x = true
  | 0, hk => by
    obtain rfl : k = 0 := by omega
    exact h
  | n + 1, hk => by
    rcases Nat.eq_or_lt_of_le hk with rfl | hlt
    · exact h
    · show (supB l f n s x || _) = true
      rw [sup_mono h n (by omega), Bool.true_or]
theorem writers_ne {wl : List Writer} (h : writersF wl = 0) : wl.Pairwise fun a b => a.name ≠ b.name :=
  (writers_rise wl none (writers_len h).2).1.imp fun h e => by rw [e, (cmpS_zero _ _).2 rfl] at h; cases h
theorem rising_new {L : List ByteArray} (h : Rising L) {j : Nat} {s : ByteArray} (hs : L[j]? = some s) : ¬ s ∈ L.take j := by
  intro hm
  obtain ⟨i, hi⟩ := List.getElem?_of_mem hm
  have hij : i < j := by
    have := (List.getElem?_eq_some_iff.1 hi).1
    rw [List.length_take] at this; omega
  rw [List.getElem?_take_of_lt hij] at hi
  obtain ⟨h1, e1⟩ := List.getElem?_eq_some_iff.1 hi
  obtain ⟨h2, e2⟩ := List.getElem?_eq_some_iff.1 hs
  have hp := List.pairwise_iff_getElem.1 h i j (by simp [dat]; omega) (by simp [dat]; omega) hij
  refine hp.2 ?_
  simp [dat, e1, e2]
def resL (l : List Claimed) : List ByteArray := compB (sortB (l.map (fun x : Claimed => x.result)))
theorem resL_rise (l : List Claimed) : Rising (resL l) := (rising_comp (l.map (fun x : Claimed => x.result))).1
theorem hasR_mem {l : List Claimed} {f : Nat → Bool} {s : ByteArray} : ∀ k, k ≤ l.length → hasR l f k s = true → s ∈ l.map (·.result)
  | 0, _, h => by cases h
  | k + 1, hk, h => by
    have h' : (hasR l f k s || (f k && decide (resOf l k = s))) = true := h
    rw [Bool.or_eq_true, Bool.and_eq_true, decide_eq_true_iff] at h'
    rcases h' with h' | ⟨_, h'⟩
    · exact hasR_mem k (by omega) h'
    · obtain ⟨x, hx⟩ : ∃ x, l[k]? = some x := ⟨l[k]'(by omega), List.getElem?_eq_getElem _⟩
      rw [resOf_get hx] at h'
      exact List.mem_map.2 ⟨x, List.mem_of_getElem? hx, h'⟩
theorem resL_all {l : List Claimed} {f : Nat → Bool} {s : ByteArray} (h : 1 ≤ cntS l f l.length s) : s ∈ resL l :=
  ((rising_comp (l.map (fun x : Claimed => x.result))).2 s).2 (hasR_mem l.length (Nat.le_refl _) ((has_cnt l f l.length s).2 h))
theorem resL_from {l : List Claimed} {s : ByteArray} (h : s ∈ resL l) : ∃ x ∈ l, x.result = s := List.mem_map.1 (((rising_comp (l.map (fun x : Claimed => x.result))).2 s).1 h)
theorem take_D {L : List ByteArray} {j : Nat} {s : ByteArray} (hs : L[j]? = some s) (t : ByteArray) : t ∈ L.take (j + 1) ↔ t ∈ L.take j ∨ t = s := by
  rw [List.take_add_one, hs]; simp
/-- alone, as the reference keeps it -/
def aloneB (most : Nat) (sev : Bool) : Bool := decide (0 < most) && !sev
theorem alone_yes {most : Nat} {sev : Bool} (h : aloneB most sev = true) : 0 < most ∧ sev = false := by
  unfold aloneB at h
  simpa using h
theorem alone_no {most : Nat} {sev : Bool} (h : aloneB most sev = false) : sev = true ∨ most = 0 := by
  unfold aloneB at h
  cases sev
  · right; simpa using h
  · exact .inl rfl
/-- one result more -/
theorem agr_step {c : ByteArray → Nat} {L : List ByteArray} {j : Nat} {s best : ByteArray} {most : Nat} {sev : Bool} (hr : Rising L) (hs : L[j]? = some s) (h : AgrI c (fun t => t ∈ L.take j) best most sev) :
    (most < c s → AgrI c (fun t => t ∈ L.take (j + 1)) s (c s) false ∧ aloneB (c s) false = true) ∧
    (c s = most → ∃ sev', AgrI c (fun t => t ∈ L.take (j + 1)) best most sev' ∧ aloneB most sev' = false) ∧
    (c s < most → AgrI c (fun t => t ∈ L.take (j + 1)) best most sev) := by
  refine ⟨fun hc => ⟨h.more (take_D hs) hc, ?_⟩, fun hc => ?_, fun hc => h.less (take_D hs) (.inl hc)⟩
  · unfold aloneB
    simp; omega
  · by_cases h0 : 0 < most
    · exact ⟨true, h.same (take_D hs) (rising_new hr hs) hc h0, by simp [aloneB]⟩
    · exact ⟨sev, h.less (take_D hs) (.inr ⟨by omega, by omega⟩), by simp [aloneB]; omega⟩
theorem count_step {wl : List Writer} {k : Nat} {x : Writer} (hx : wl[k]? = some x) (p : Writer → Bool) : (wl.take (k + 1)).countP p = (wl.take k).countP p + if p x = true then 1 else 0 := by
  rw [List.take_add_one, hx, Option.toList, List.countP_append, List.countP_singleton]
theorem count_take_le {wl : List Writer} (k : Nat) (p : Writer → Bool) : (wl.take k).countP p ≤ k := Nat.le_trans List.countP_le_length (by rw [List.length_take]; omega)
theorem elem_Str2 : Elem Tryz.prog 9 RStr.size 16 := elem_of (z := .string ByteArray.empty) (by kernel_rfl) (by decide)
theorem slAt_new3 {α : Type} {R : Rd α} (w : World) (o : Obj) (e : TypeId) {x : α} (hok : R.ok w x) : SlAt R ((w.alloc o).alloc (.cells (R.vals x).toArray e)) (some ⟨w.heap.size + 1, 0, none⟩) 1 [x] := by
  have := slAt_new (w.alloc o) e x (R.mono _ _ _ ((Below.refl _ _).alloc (Nat.le_refl _) _) hok)
  simpa using this
end Go.Proofs.YtaeeicnbnohghaaGreatDoor.C11

namespace Go.Proofs.YtaeeicnbnohghaaGreatDoor.C11
open Go.RowKit
set_option linter.unusedVariables false

def valM (o : Option Nat) : Value := .map o
theorem injM : InjV valM := fun a b h => by injection h
theorem zeroM (w : World) : (zeroValue 81).run Tryz.prog w = .ok (valM none) w := by kernel_rfl
def outF (h : ByteArray → Bool) (g : ByteArray → Nat) (s : ByteArray) : Option (Option Nat) := if h s = true then some (some (g s)) else none
theorem outF_getD (h : ByteArray → Bool) (g : ByteArray → Nat) (s : ByteArray) : (outF h g s).getD none = if h s = true then some (g s) else none := by
  unfold outF
  split <;> rfl
theorem outF_some (h : ByteArray → Bool) (g : ByteArray → Nat) (s : ByteArray) : (outF h g s).isSome = h s := by
  unfold outF
  cases h s <;> rfl
structure MM (l : List Claimed) (f : Nat → Bool) (k bo : Nat) (g : ByteArray → Nat) (c : Nat) (w : World) : Prop where
  outer : TMap KS valM w bo (outF (hasR l f k) g) c
  cle : c ≤ k
  inner : ∀ s, hasR l f k s = true → TMap KS valS w (g s) (setF (supB l f k s)) (cntS l f k s) ∧ bo < g s
  inj : ∀ s t, hasR l f k s = true → hasR l f k t = true → g s = g t → s = t
theorem MM.below {l : List Claimed} {f : Nat → Bool} {k bo : Nat} {g : ByteArray → Nat} {c : Nat} {w w' : World} (h : MM l f k bo g c w) (hb : Below w.heap.size w w') : MM l f k bo g c w' :=
  ⟨h.outer.below hb h.outer.lt, h.cle, fun s hs => ⟨(h.inner s hs).1.below hb (h.inner s hs).1.lt, (h.inner s hs).2⟩, h.inj⟩
theorem MM.keep {l : List Claimed} {f : Nat → Bool} {k bo : Nat} {g : ByteArray → Nat} {c : Nat} {w : World} (h : MM l f k bo g c w) (hf : f k = false) : MM l f (k + 1) bo g c w := by
  refine ⟨?_, by have := h.cle; omega, ?_, ?_⟩
  · rw [has_keep hf]; exact h.outer
  · rw [has_keep hf, sup_keep hf, cnt_keep hf]; exact h.inner
  · rw [has_keep hf]; exact h.inj
theorem sup_has {l : List Claimed} {f : Nat → Bool} : ∀ {k : Nat} {s x : ByteArray}, supB l f k s x = true → hasR l f k s = true
  | 0, s, x, h => by cases h
  | k + 1, s, x, h => by
    have h' : (supB l f k s x || (f k && (decide (resOf l k = s) && decide (wriOf l k = x)))) = true := h
    show (hasR l f k s || (f k && decide (resOf l k = s))) = true
    rw [Bool.or_eq_true] at h' ⊢
    rcases h' with h' | h'
    · exact .inl (sup_has h')
    · simp only [Bool.and_eq_true] at h' ⊢
      exact .inr ⟨h'.1, h'.2.1⟩
theorem MM.new {l : List Claimed} {f : Nat → Bool} {k bo : Nat} {g : ByteArray → Nat} {c c1 c2 : Nat} {w w1 w2 : World} {s x : ByteArray} (h : MM l f k bo g c w) (hf : f k = true) (hs : resOf l k = s) (hx : wriOf l k = x) (hn : hasR l f k s = false)
    (hm1 : TMap KS valM w1 bo (upd (outF (hasR l f k) g) s (some w.heap.size)) c1) (hc1 : c1 ≤ c + 1) (hg1 : (w.alloc (.map #[] 0)).grownBy w1 (some bo))
    (hm2 : TMap KS valS w2 w.heap.size (upd (fun _ => none) x true) c2) (hc2 : c2 = 1) (hg2 : w1.grownBy w2 (some w.heap.size)) :
    MM l f (k + 1) bo (fun t => if t = s then w.heap.size else g t) c1 w2 := by
  have hlo := h.outer.lt
  have hcle := h.cle
  have hh : ∀ t, hasR l f (k + 1) t = (hasR l f k t || decide (s = t)) := fun t => by rw [has_same hf, hs]
  have hs0 : ∀ y, supB l f k s y = false := fun y => by
    cases hy : supB l f k s y
    · rfl
    · rw [sup_has hy] at hn; cases hn
  have hc0 : cntS l f k s = 0 := by
    have := has_cnt l f k s
    rw [hn] at this
    have : ¬ 1 ≤ cntS l f k s := fun h => by have := this.2 h; cases this
    omega
  refine ⟨?_, by omega, fun t ht => ?_, fun t u ht hu e => ?_⟩
  · refine (hm1.kept hg2 (by simp; omega)).congr fun t _ => ?_
    unfold upd outF
    rw [hh]
    by_cases e : t = s
    · subst e; simp
    · have e2 : ¬ s = t := fun h => e h.symm
      simp [e, e2]
  · rw [hh] at ht
    by_cases e : t = s
    · subst e
      rw [if_pos rfl]
      refine ⟨?_, hlo⟩
      have e1 : setF (supB l f (k + 1) t) = upd (fun _ => none) x true := by
        rw [← hs, sup_same hf, hs, hx, ← setF_upd]
        congr 1
        funext y
        unfold setF
        rw [hs0 y, if_neg (by decide)]
      have e2 : cntS l f (k + 1) t = c2 := by
        rw [← hs, cnt_same hf, hs, hs0, if_neg (by decide), hc0, hc2]
      rw [e1, e2]
      exact hm2
    · have e2 : ¬ s = t := fun h => e h.symm
      rw [decide_eq_false e2, Bool.or_false] at ht
      rw [if_neg e, sup_other (by rw [hs]; exact e2), cnt_other (by rw [hs]; exact e2)]
      obtain ⟨h1, h2⟩ := h.inner t ht
      have hlt := h1.lt
      exact ⟨((h1.alloc _).kept hg1 (by simp; omega)).kept hg2 (by simp; omega), h2⟩
  · rw [hh] at ht hu
    by_cases e1 : t = s
    · by_cases e2 : u = s
      · rw [e1, e2]
      · rw [if_pos e1, if_neg e2] at e
        rw [decide_eq_false (fun h => e2 h.symm), Bool.or_false] at hu
        have := (h.inner u hu).1.lt
        omega
    · by_cases e2 : u = s
      · rw [if_neg e1, if_pos e2] at e
        rw [decide_eq_false (fun h => e1 h.symm), Bool.or_false] at ht
        have := (h.inner t ht).1.lt
        omega
      · rw [if_neg e1, if_neg e2] at e
        rw [decide_eq_false (fun h => e1 h.symm), Bool.or_false] at ht
        rw [decide_eq_false (fun h => e2 h.symm), Bool.or_false] at hu
        exact h.inj t u ht hu e
theorem MM.old {l : List Claimed} {f : Nat → Bool} {k bo : Nat} {g : ByteArray → Nat} {c c2 : Nat} {w w2 : World} {s x : ByteArray} (h : MM l f k bo g c w) (hf : f k = true) (hs : resOf l k = s) (hx : wriOf l k = x) (hn : hasR l f k s = true)
    (hm2 : TMap KS valS w2 (g s) (upd (setF (supB l f k s)) x true) c2) (hc2 : c2 = if (setF (supB l f k s) x).isSome = true then cntS l f k s else cntS l f k s + 1) (hg2 : w.grownBy w2 (some (g s))) :
    MM l f (k + 1) bo g c w2 := by
  obtain ⟨hi1, hi2⟩ := h.inner s hn
  have hlo := h.outer.lt
  have hcle := h.cle
  have hh : ∀ t, hasR l f (k + 1) t = hasR l f k t := fun t => by
    rw [has_same hf, hs]
    by_cases e : s = t
    · subst e; simp [hn]
    · simp [e]
  have hh2 : hasR l f (k + 1) = hasR l f k := funext hh
  refine ⟨?_, by omega, fun t ht => ?_, ?_⟩
  · rw [hh2]
    exact h.outer.kept hg2 (by simp; omega)
  · rw [hh] at ht
    obtain ⟨h1, h2⟩ := h.inner t ht
    by_cases e : t = s
    · subst e
      refine ⟨?_, h2⟩
      have e1 : setF (supB l f (k + 1) t) = upd (setF (supB l f k t)) x true := by
        rw [setF_upd, ← hs, sup_same hf, hs, hx]
      have e2 : cntS l f (k + 1) t = c2 := by
        rw [hc2, ← hs, cnt_same hf, hs, hx]
        unfold setF
        cases supB l f k t x <;> rfl
      rw [e1, e2]
      exact hm2
    · have e2 : ¬ s = t := fun h => e h.symm
      rw [sup_other (by rw [hs]; exact e2), cnt_other (by rw [hs]; exact e2)]
      have hne : g t ≠ g s := fun e3 => e (h.inj t s ht hn e3)
      exact ⟨h1.kept hg2 (by simpa using hne), h2⟩
  · rw [hh2]; exact h.inj
theorem lookM {w : World} {b c : Nat} {f : ByteArray → Option (Option Nat)} (h : TMap KS valM w b f c) (s : ByteArray) (hs : s.size ≤ maxLen) (v : Option Nat) (hv : (f s).getD none = v) :
    (Instr.lookup 80 (.map (some b)) (.string s) false).run Tryz.prog w = .ok (.map v) w := by
  have := (h.look Tryz.underlying80 (zeroM w) injM (x := s) hs).1
  rw [hv] at this
  exact this
end Go.Proofs.YtaeeicnbnohghaaGreatDoor.C11

namespace Go.Proofs.YtaeeicnbnohghaaGreatDoor.C11
open Go.RowKit
set_option linter.unusedVariables false

theorem logF_zero_each {l : List Claimed} (h : logF l = 0) : ∀ x ∈ l, claimedF x = 0 := by
  have key : ∀ (l : List Claimed) (p : Option Int), logErr p l = 0 → ∀ x ∈ l, claimedF x = 0 := by
    intro l
    induction l with
    | nil => intro p _ x hx; cases hx
    | cons y r ih =>
      intro p h x hx
      rw [logErr] at h
      by_cases h1 : claimedF y = 0
      · rw [if_pos h1] at h
        have hr : ∃ q, logErr q r = 0 := by
          repeat' split at h
          all_goals first | exact ⟨_, h⟩ | (exfalso; revert h; decide) | skip
        obtain ⟨q, hq⟩ := hr
        rcases List.mem_cons.1 hx with rfl | hx
        · exact h1
        · exact ih q hq x hx
      · rw [if_neg h1] at h
        exact absurd h h1
  exact key l none (logF_zero h).2
def Ag1 (l : List Claimed) (f : Nat → Bool) (n : Nat) (w3 : World) (i : Value) (wr : World) : Prop :=
  ∃ (k c : Nat) (g : ByteArray → Nat), k ≤ n ∧ i = .int .i64 k ∧ MM l f k w3.heap.size g c wr ∧ Below w3.heap.size w3 wr
structure Ag2 (l : List Claimed) (f : Nat → Bool) (n bo r c : Nat) (g : ByteArray → Nat) (w3 : World) (v16 v17 v18 : Value) (wr : World) : Prop where
  ex : ∃ (left : ByteArray → Bool) (cnt : Nat) (best : ByteArray) (most : Nat) (sev : Bool), TRange KS valM wr bo r c (outF (hasR l f n) g) left cnt ∧ v16 = .string best ∧ v17 = .int .i64 most ∧ v18 = .bool sev ∧ best.size ≤ maxLen ∧ most ≤ n ∧
    AgrI (cntS l f n) (fun t => hasR l f n t = true ∧ left t = false) best most sev
  inner : ∀ s, hasR l f n s = true → TMap KS valS wr (g s) (setF (supB l f n s)) (cntS l f n s) ∧ bo < g s
  bel : Below bo w3 wr
  big : bo ≤ wr.heap.size
  inr : ∀ s, hasR l f n s = true → g s < r

set_option maxRecDepth 100000 in
set_option maxHeartbeats 16000000 in
theorem Agreed_any (WA : Option Addr) (wn wc : Nat) (wl : List Writer) (A : Option Addr) (n c : Nat) (l : List Claimed) (key : ByteArray) (many : Int) (w : World) (hm : MaxLenAt w) (ht : PowTab w) (hwl : SlAt RWriter w WA wn wl) (hl : SlAt RClaimed w A n l) (F : Int) (hF : agrF wl l key many = F) :
    Calls Tryz.prog 20 #[.slice WA wn wc, .slice A n c, .string key, .int .i64 many] w (AgrAns wl l key many F w) := by
  have hmk := @run_makeMap Tryz.prog
  have qT : ∀ (w : World) (r : Option Nat), (binOp .eql 81 (.map r) (.map none)).run Tryz.prog w = .ok (.bool r.isNone) w := fun w r => run_eql_map_nil w _ _ _ r Tryz.underlying81
  unfold agrF at hF
  obtain ⟨e1, he1⟩ : ∃ e, writersF wl = e := ⟨_, rfl⟩
  obtain ⟨e2, he2⟩ : ∃ e, logF l = e := ⟨_, rfl⟩
  obtain ⟨e3, he3⟩ : ∃ e, digB key = e := ⟨_, rfl⟩
  obtain ⟨e4, he4⟩ : ∃ e, inR 1 50 many = e := ⟨_, rfl⟩
  rw [he1, he2, he3, he4] at hF
  have hz0 : (⟨#[]⟩ : ByteArray).size ≤ maxLen := by decide
  have h0w := Below.refl w.heap.size w
  have hmH := Lib.hid hm
  clear hm
  have htH := Lib.hid ht
  clear ht
  have hwlH := Lib.hid hwl
  clear hwl
  have hlH := Lib.hid hl
  clear hl
  have hFH := Lib.hid hF
  clear hF
  have he1H := Lib.hid he1
  clear he1
  have he2H := Lib.hid he2
  clear he2
  have he3H := Lib.hid he3
  clear he3
  have he4H := Lib.hid he4
  clear he4
  have hz0H := Lib.hid hz0
  clear hz0
  have h0wH := Lib.hid h0w
  clear h0w
  have qTH := Lib.hid qT
  clear qT
  go_enter Tryz.func20, Tryz.ntmps20
  go_wp2_with fail
  refine (writers_any WA wn wc wl _ hwlH.out e1 he1H.out).mono ?_
  rintro e w1 ⟨rfl, hb1⟩
  have hF := hFH.out
  clear hFH h0wH
  have hb1H := Lib.hid hb1
  clear hb1
  by_cases z1 : e1 = 0
  · subst z1
    rw [if_pos rfl] at hF
    have hFH := Lib.hid hF
    clear hF
    go_wp2_with fail
    refine (log_any A n c l _ (hmH.out.below hb1H.out) (hlH.out.below hb1H.out) e2 he2H.out).mono ?_
    rintro e w2 ⟨rfl, hb2⟩
    have hb12 := hb1H.out.trans (hb2.mono hb1H.out.size)
    have hF := hFH.out
    clear hFH hb2
    have hb12H := Lib.hid hb12
    clear hb12
    by_cases z2 : e2 = 0
    · subst z2
      rw [if_pos rfl] at hF
      have hFH := Lib.hid hF
      clear hF
      go_wp2_with fail
      refine (dig_any key _ e3 he3H.out).mono ?_
      rintro e w3 ⟨rfl, hb3⟩
      have hb13 := hb12H.out.trans (hb3.mono hb12H.out.size)
      have hF := hFH.out
      clear hFH hb3
      have hb13H := Lib.hid hb13
      clear hb13
      cases e3
      · rw [if_neg (by decide)] at hF
        subst hF
        go_wp2
        go_ret3
        exact ⟨⟨#[]⟩, false, rfl, hz0H.out, fun _ => ⟨rfl, rfl⟩, (fun h => by cases h), hb13H.out⟩
      · rw [if_pos rfl] at hF
        have hFH := Lib.hid hF
        clear hF
        go_wp2_with fail
        refine (within_p many 1 50 _).mono ?_
        rintro e w4 ⟨rfl, rfl⟩
        rw [he4H.out]
        have hF := hFH.out
        clear hFH
        cases e4
        · rw [if_neg (by decide)] at hF
          subst hF
          go_wp2
          go_ret3
          exact ⟨⟨#[]⟩, false, rfl, hz0H.out, fun _ => ⟨rfl, rfl⟩, (fun h => by cases h), hb13H.out⟩
        · rw [if_pos rfl] at hF
          subst hF
          obtain ⟨hmany1, hmany2⟩ := inR_true he4H.out
          have hll := hlH.out.1
          have hn : n ≤ 1000 := by have := (logF_zero he2H.out).1; omega
          have hcl := logF_zero_each he2H.out
          obtain ⟨f, hf⟩ : ∃ f, goodJ wl l key = f := ⟨_, rfl⟩
          have hl4 := hlH.out.below hb13H.out
          have hw4 := hwlH.out.below hb13H.out
          have ht4 := htH.out.below hb13H.out
          have hba := (Below.refl w4.heap.size w4).alloc (Nat.le_refl _) (.map #[] 0)
          have hmp0 := TMap.made w4 KS valM
          have hM0 : MM l f 0 w4.heap.size (fun _ => 0) 0 (w4.alloc (.map #[] 0)) := by
            refine ⟨hmp0.congr fun s _ => ?_, Nat.le_refl _, (fun s hs => by cases hs), (fun s t hs _ _ => by cases hs)⟩
            unfold outF
            rw [if_neg (by show ¬ false = true; decide)]
          clear hmp0
          have hllH := Lib.hid hll
          clear hll
          have hclH := Lib.hid hcl
          clear hcl
          have hfH := Lib.hid hf
          clear hf
          have hl4H := Lib.hid hl4
          clear hl4
          have hw4H := Lib.hid hw4
          clear hw4
          have ht4H := Lib.hid ht4
          clear ht4
          have hbaH := Lib.hid hba
          clear hba
          have hM0H := Lib.hid hM0
          clear hM0
          have qT := qTH.out
          go_wp2_with fail
          clear qT
          go_loopw [41] (fun i wr => Ag1 l f n w4 i wr) (fun i _ => n - (intOf i).toNat)
          case atStart => exact ⟨0, 0, _, Nat.zero_le _, rfl, hM0H.out, hbaH.out⟩
          case round =>
            obtain ⟨k, cm, g, hk, rfl, hM, hb⟩ := hrel
            have hbs := hb.size
            by_cases hlt : k < n
            · obtain ⟨b, off, hA, _⟩ := hl4H.out.2.1 (by omega)
              subst hA
              obtain ⟨x, hx⟩ : ∃ x, l[k]? = some x := ⟨l[k]'(by have := hllH.out; omega), List.getElem?_eq_getElem _⟩
              obtain ⟨d0, d1, d2, d3, d4, d5, d6⟩ := cells_Claimed (hl4H.out.below hb) hx
              have hxm := List.mem_of_getElem? hx
              have hxo := hl4H.out.2.2 x hxm
              have hrz : x.result.size ≤ maxLen := hxo.2.2.1
              have hwz : x.writer.size ≤ maxLen := hxo.2.2.2.1
              have hba2 := hb.alloc hbs (.cells #[.string x.key, .string x.label, .string x.result, .string x.writer, .int .i64 x.at_, .slice x.uses.A x.uses.n x.uses.cap, .string x.sign] 25)
              have hbw : w4.heap.size < wr.heap.size := hM.outer.lt
              have hM2 := hM.below ((Below.refl wr.heap.size wr).alloc (Nat.le_refl _) (.cells #[.string x.key, .string x.label, .string x.result, .string x.writer, .int .i64 x.at_, .slice x.uses.A x.uses.n x.uses.cap, .string x.sign] 25))
              have hfk : f k = (decide (x.key = key) && decide (genF wl x = 1)) := by rw [← hfH.out]; exact goodJ_get hx
              have hri := resOf_get hx
              have hwi := wriOf_get hx
              have hbo : bothF wl x = 0 := bothF_of he1H.out (hclH.out x hxm)
              have zc := At7.new wr (.string x.key) (.string x.label) (.string x.result) (.string x.writer) (.int .i64 x.at_) (.slice x.uses.A x.uses.n x.uses.cap) (.string x.sign) 25
              have hok2 := RClaimed.mono _ _ _ hba2 hxo
              clear hxm hxo hM
              by_cases hkey : x.key = key
              · have hq : (x.key.toList == key.toList) = true := by rw [beq_data, decide_eq_true hkey]
                rw [decide_eq_true hkey, Bool.true_and] at hfk
                obtain ⟨v, hv⟩ : ∃ v, genF wl x = v := ⟨_, rfl⟩
                rw [hv] at hfk
                have hxH := Lib.hid hx
                clear hx
                have hkeyH := Lib.hid hkey
                clear hkey
                have hrzH := Lib.hid hrz
                clear hrz
                have hwzH := Lib.hid hwz
                clear hwz
                have hba2H := Lib.hid hba2
                clear hba2
                have hM2H := Lib.hid hM2
                clear hM2
                have hbH := Lib.hid hb
                clear hb
                have hfkH := Lib.hid hfk
                clear hfk
                have hriH := Lib.hid hri
                clear hri
                have hwiH := Lib.hid hwi
                clear hwi
                have hboH := Lib.hid hbo
                clear hbo
                have zcH := Lib.hid zc
                clear zc
                have hok2H := Lib.hid hok2
                clear hok2
                have hvH := Lib.hid hv
                clear hv
                go_wp2_with fail
                refine (genuine_any WA wn wc wl x _ (ht4H.out.below hba2H.out) (hw4H.out.below hba2H.out) hok2H.out hboH.out v hvH.out).mono ?_
                rintro e w5 ⟨rfl, hw5⟩
                have hb5 := hba2H.out.trans (hw5.mono hba2H.out.size)
                have hM5 := hM2H.out.below hw5
                obtain ⟨q0, q1, q2, q3, q4, q5, q6, _, _, _, _, _, _, _⟩ := zcH.out.below hw5
                clear hw5 zcH hM2H hok2H
                by_cases hv1 : v = 1
                · subst hv1
                  have hfk := hfkH.out
                  rw [decide_eq_true rfl] at hfk
                  have hs5 := hb5.size
                  have hlo := hM5.outer.lt
                  cases hh : hasR l f k x.result
                  · -- a new one
                    have lk := lookM hM5.outer x.result hrzH.out none (by rw [outF_getD, hh]; rfl)
                    have qT := qTH.out
                    have hma := hM5.outer.alloc (.map #[] 0)
                    have hmi := TMap.made w5 KS valS
                    have hzl : 0 < maxLen := by decide
                    have q2a := (World.cell?_alloc_lt w5 (.map #[] 0) ⟨wr.heap.size, 2, none⟩ (cell?_lt q2)).trans q2
                    have q3a := (World.cell?_alloc_lt w5 (.map #[] 0) ⟨wr.heap.size, 3, none⟩ (cell?_lt q3)).trans q3
                    have hb5H := Lib.hid hb5
                    clear hb5
                    have hM5H := Lib.hid hM5
                    clear hM5
                    have hmaH := Lib.hid hma
                    clear hma
                    have hmiH := Lib.hid hmi
                    clear hmi
                    have hhH := Lib.hid hh
                    clear hh
                    have hfkH := Lib.hid hfk
                    clear hfk
                    go_wp2_with (first | (at_mapUpdate; (refine wpList_tstore rfl (.tmp 60) (.tmp 62) (.tmp 63) 80 rfl Tryz.underlying80 injM rfl hmaH.out (by simp only [maxLen]; have := hM5H.out.cle; omega) x.result rfl hrzH.out (some w5.heap.size) rfl ?_); intro w6 hm6 hg6; have hmi6 := hmiH.out.kept hg6 (by simp; omega); have lk6 := lookM hm6 x.result hrzH.out (some w5.heap.size) (by unfold upd; rw [if_pos rfl]; rfl); have q26 := hg6.cell q2a (by simp; omega); have q36 := hg6.cell q3a (by simp; omega); have hb6 := (hb5H.out.alloc hb5H.out.size (.map #[] 0)).trans (grown_below hg6 (Nat.le_refl _) (by simp; omega)); clear lk qT q2a q3a q0 q1 q2 q3 q4 q5 q6; have hm6H := Lib.hid hm6; clear hm6; have hg6H := Lib.hid hg6; clear hg6; have hmi6H := Lib.hid hmi6; clear hmi6; have hb6H := Lib.hid hb6; clear hb6) | (at_mapUpdate; (refine wpList_tstore rfl (.tmp 67) (.tmp 69) (.const (.bool true)) 81 rfl Tryz.underlying81 injS rfl hmi6H.out hzl x.writer rfl hwzH.out true rfl ?_); intro w7 hm7 hg7; have hm7H := Lib.hid hm7; clear hm7; have hg7H := Lib.hid hg7; clear hg7))
                    have R : Ag1 l f n w4 (.int .i64 (k + 1)) w7 := by
                      refine ⟨k + 1, _, _, hlt, by go_num, MM.new hM5H.out hfkH.out hriH.out hwiH.out hhH.out hm6H.out (by split <;> omega) hg6H.out hm7H.out (by rfl) hg7H.out, hb6H.out.trans (grown_below hg7H.out (by omega) (by have := hg6H.out.size; simp at this; omega))⟩
                    clear hm7H hg7H
                    have RH := Lib.hid R
                    clear R
                    refine ⟨?rel, ?measure⟩
                    case measure => (simp [intOf]; omega)
                    case rel => first | exact RH.out | exact ⟨rfl, RH.out⟩ | ((try refine ⟨rfl, ?_⟩); (repeat apply Exists.intro); refine ⟨RH.out, ?_⟩; ((repeat' apply And.intro) <;> rfl))
                  · -- one that is there
                    have lk := lookM hM5.outer x.result hrzH.out (some (g x.result)) (by rw [outF_getD, hh]; rfl)
                    have qT := qTH.out
                    obtain ⟨hin, hgl⟩ := hM5.inner x.result hh
                    have hcml : cntS l f k x.result < maxLen := by have := cnt_le l f k x.result; unfold maxLen; omega
                    have hb5H := Lib.hid hb5
                    clear hb5
                    have hM5H := Lib.hid hM5
                    clear hM5
                    have hhH := Lib.hid hh
                    clear hh
                    have hfkH := Lib.hid hfk
                    clear hfk
                    have hinH := Lib.hid hin
                    clear hin
                    go_wp2_with (at_mapUpdate; go_loud (refine wpList_tstore rfl (.tmp 67) (.tmp 69) (.const (.bool true)) 81 rfl Tryz.underlying81 injS rfl hinH.out hcml x.writer rfl hwzH.out true rfl ?_); intro w7 hm7 hg7)
                    have R : Ag1 l f n w4 (.int .i64 (k + 1)) w7 := by
                      refine ⟨k + 1, cm, g, hlt, by go_num, MM.old hM5H.out hfkH.out hriH.out hwiH.out hhH.out hm7 rfl hg7, hb5H.out.trans (grown_below hg7 (by omega) (by omega))⟩
                    clear hm7 hg7 lk qT
                    have RH := Lib.hid R
                    clear R
                    refine ⟨?rel, ?measure⟩
                    case measure => (simp [intOf]; omega)
                    case rel => first | exact RH.out | exact ⟨rfl, RH.out⟩ | ((try refine ⟨rfl, ?_⟩); (repeat apply Exists.intro); refine ⟨RH.out, ?_⟩; ((repeat' apply And.intro) <;> rfl))
                · have e5 : (v != 1) = true := by simpa using hv1
                  have hfk := hfkH.out
                  rw [decide_eq_false hv1] at hfk
                  have R : Ag1 l f n w4 (.int .i64 (k + 1)) w5 := ⟨k + 1, cm, g, hlt, by go_num, hM5.keep hfk, hb5⟩
                  clear hb5 hM5 hfk hv1 q0 q1 q2 q3 q4 q5 q6
                  have RH := Lib.hid R
                  clear R
                  go_wp2
                  refine ⟨?rel, ?measure⟩
                  case measure => (simp [intOf]; omega)
                  case rel => first | exact RH.out | exact ⟨rfl, RH.out⟩ | ((try refine ⟨rfl, ?_⟩); (repeat apply Exists.intro); refine ⟨RH.out, ?_⟩; ((repeat' apply And.intro) <;> rfl))
              · have hq : (x.key.toList == key.toList) = false := by rw [beq_data, decide_eq_false hkey]
                rw [decide_eq_false hkey, Bool.false_and] at hfk
                have R : Ag1 l f n w4 (.int .i64 (k + 1)) (wr.alloc (.cells #[.string x.key, .string x.label, .string x.result, .string x.writer, .int .i64 x.at_, .slice x.uses.A x.uses.n x.uses.cap, .string x.sign] 25)) := ⟨k + 1, cm, g, hlt, by go_num, hM2.keep hfk, hba2⟩
                clear hM2 hfk zc
                have hxH := Lib.hid hx
                clear hx
                have hkeyH := Lib.hid hkey
                clear hkey
                have hrzH := Lib.hid hrz
                clear hrz
                have hwzH := Lib.hid hwz
                clear hwz
                have hba2H := Lib.hid hba2
                clear hba2
                have hbH := Lib.hid hb
                clear hb
                have hriH := Lib.hid hri
                clear hri
                have hwiH := Lib.hid hwi
                clear hwi
                have hboH := Lib.hid hbo
                clear hbo
                have hok2H := Lib.hid hok2
                clear hok2
                have RH := Lib.hid R
                clear R
                go_wp2
                refine ⟨?rel, ?measure⟩
                case measure => (simp [intOf]; omega)
                case rel => first | exact RH.out | exact ⟨rfl, RH.out⟩ | ((try refine ⟨rfl, ?_⟩); (repeat apply Exists.intro); refine ⟨RH.out, ?_⟩; ((repeat' apply And.intro) <;> rfl))
            · obtain rfl : k = n := by omega
              have hin0 : ∀ s, hasR l f k s = true → s.size ≤ maxLen := by
                intro s hs
                have key2 : ∀ k, k ≤ l.length → hasR l f k s = true → s.size ≤ maxLen := by
                  intro k
                  induction k with
                  | zero => intro _ h; cases h
                  | succ k ih =>
                    intro hkl h
                    have h' : (hasR l f k s || (f k && decide (resOf l k = s))) = true := h
                    rw [Bool.or_eq_true, Bool.and_eq_true, decide_eq_true_iff] at h'
                    rcases h' with h' | h'
                    · exact ih (by omega) h'
                    · obtain ⟨x, hx⟩ : ∃ x, l[k]? = some x := ⟨l[k]'(by omega), List.getElem?_eq_getElem _⟩
                      rw [resOf_get hx] at h'
                      rw [← h'.2]
                      exact (hl4H.out.2.2 x (List.mem_of_getElem? hx)).2.2.1
                exact key2 k (by have := hllH.out; omega) hs
              have hlo := hM.outer.lt
              have hcle := hM.cle
              have hMH := Lib.hid hM
              clear hM
              have hbH := Lib.hid hb
              clear hb
              have hin0H := Lib.hid hin0
              clear hin0
              go_wp2_with (at_range; go_loud (refine wpList_trange rfl (.tmp 71) 80 rfl Tryz.underlying80 rfl hMH.out.outer ?_); intro w6 hr6 hg6 hs6; have hr6H := Lib.hid hr6; clear hr6; have hg6H := Lib.hid hg6; clear hg6)
              go_frame
              obtain ⟨r, hr⟩ : ∃ r, r = wr.heap.size := ⟨_, rfl⟩
              rw [← hr] at hr6H ⊢
              have hbr : w4.heap.size ≤ r := by omega
              have hrH := Lib.hid hr
              clear hr
              obtain ⟨wp, rfl⟩ : ∃ W, W = wr := ⟨_, rfl⟩
              go_loopw [16, 17, 18] (fun v16 v17 v18 wq => Ag2 l f k w4.heap.size r cm g w4 v16 v17 v18 wq) (fun _ _ _ wq => wq.rangeLeft w4.heap.size r)
              case atStart =>
                refine ⟨⟨_, cm, ⟨#[]⟩, 0, false, hr6H.out, rfl, rfl, rfl, hz0H.out, Nat.zero_le _, AgrI.start _ _ (fun t h => ?_) _⟩, fun s hs => ?_, ?_, by omega, fun s hs => ?_⟩
                · obtain ⟨h1, h2⟩ := h
                  rw [outF_some, h1] at h2; cases h2
                · obtain ⟨h1, h2⟩ := hMH.out.inner s hs
                  exact ⟨h1.kept hg6H.out (by simp), h2⟩
                · exact hbH.out.grown hg6H.out hbs (fun k hk => by cases hk)
                · rw [hrH.out]; exact (hMH.out.inner s hs).1.lt
              case round =>
                obtain ⟨⟨left, cnt, best, most, sev, hrg, rfl, rfl, rfl, hbz, hmn, hI⟩, hin, hbl, hbig, hgr⟩ := hrel
                have hrl := hrg.left_eq
                have hrlt := hrg.lt
                have hrgH := Lib.hid hrg
                clear hrg
                have hIH := Lib.hid hI
                clear hI
                have hinH := Lib.hid hin
                clear hin
                have hblH := Lib.hid hbl
                clear hbl
                have hgrH := Lib.hid hgr
                clear hgr
                have hrlH := Lib.hid hrl
                clear hrl
                have hbzH := Lib.hid hbz
                clear hbz
                go_wp2_with (at_next; go_loud (refine wpList_tnext rfl (.tmp 72) rfl rfl injM hrgH.out ?_ ?_))
                · intro hc0 hl0
                  have hI2 : AgrI (cntS l f k) (fun t => hasR l f k t = true) best most sev := hIH.out.congr fun t => ⟨fun h => h.1, fun h => ⟨h, hl0 t (hin0H.out t h)⟩⟩
                  have hD : ∀ t, 1 ≤ cntS l f k t → hasR l f k t = true := fun t h => (has_cnt l f k t).2 h
                  have hbe := hb13H.out.trans (hblH.out.mono hb13H.out.size)
                  have hkl : cntS l f k = cntS l (goodJ wl l key) l.length := by rw [hfH.out, hllH.out]
                  clear hl0 hc0
                  by_cases hmm : (most : Int) < many
                  · have hA := hI2.no (many := many) hD (.inl hmm)
                    rw [hkl] at hA
                    clear hD hkl hI2
                    have hAH := Lib.hid hA
                    clear hA
                    have hbeH := Lib.hid hbe
                    clear hbe
                    go_wp2
                    go_ret3
                    exact ⟨⟨#[]⟩, false, rfl, hz0H.out, fun h => absurd rfl h, fun _ => hAH.out, hbeH.out⟩
                  · cases sev
                    · have hA := hI2.yes (many := many) hD (by omega) (by omega) rfl
                      rw [hkl] at hA
                      clear hD hkl hI2
                      have hAH := Lib.hid hA
                      clear hA
                      have hbeH := Lib.hid hbe
                      clear hbe
                      go_wp2
                      go_ret3
                      exact ⟨best, true, rfl, hbzH.out, fun h => absurd rfl h, fun _ => hAH.out, hbeH.out⟩
                    · have hA := hI2.no (many := many) hD (.inr (.inl rfl))
                      rw [hkl] at hA
                      clear hD hkl hI2
                      have hAH := Lib.hid hA
                      clear hA
                      have hbeH := Lib.hid hbe
                      clear hbe
                      go_wp2
                      go_ret3
                      exact ⟨⟨#[]⟩, false, rfl, hz0H.out, fun h => absurd rfl h, fun _ => hAH.out, hbeH.out⟩
                · intro s y w7 cnt7 hgood hleft hf7 hr7 hlt7 hg7 hs7 hen
                  have hhs : hasR l f k s = true := by
                    have := congrArg Option.isSome hf7
                    rw [outF_some] at this
                    exact this
                  obtain rfl : y = some (g s) := by
                    unfold outF at hf7
                    rw [if_pos hhs] at hf7
                    exact (Option.some.inj hf7).symm
                  replace hen : (Instr.entry (.pointer (some ⟨r, 0, none⟩))).run Tryz.prog w7 = .ok (.tuple #[.string s, .map (some (g s))]) w7 := hen
                  have hsz : s.size ≤ maxLen := hgood
                  have hD : ∀ t, (hasR l f k t = true ∧ (left t && !decide (t = s)) = false) ↔ (hasR l f k t = true ∧ left t = false) ∨ t = s := by
                    intro t
                    by_cases e : t = s
                    · subst e; simp [hhs]
                    · simp [e]
                  have hnD : ¬ (hasR l f k s = true ∧ left s = false) := by rintro ⟨_, h⟩; rw [hleft] at h; cases h
                  have hin7 : ∀ s, hasR l f k s = true → TMap KS valS w7 (g s) (setF (supB l f k s)) (cntS l f k s) ∧ w4.heap.size < g s := fun s hs => by
                    obtain ⟨h1, h2⟩ := hinH.out s hs
                    have := hgrH.out s hs
                    exact ⟨h1.kept hg7 (by simp; omega), h2⟩
                  have hb7 : Below w4.heap.size w4 w7 := hblH.out.trans (grown_below hg7 (by omega) (by omega))
                  obtain ⟨hmap, _⟩ := hin7 s hhs
                  have hcs := cnt_le l f k s
                  have hc1 : 1 ≤ cntS l f k s := (has_cnt l f k s).1 hhs
                  obtain ⟨nn, hnn⟩ : ∃ nn, cntS l f k s = nn := ⟨_, rfl⟩
                  rw [hnn] at hmap hcs hc1
                  have M : w7.rangeLeft w4.heap.size r < wr.rangeLeft w4.heap.size r := by
                    rw [hr7.left_eq, hrlH.out]; exact hlt7
                  have hbig7 : w4.heap.size ≤ w7.heap.size := by omega
                  have RR : ∀ (best' : ByteArray) (most' : Nat) (sev' : Bool), best'.size ≤ maxLen → most' ≤ k → AgrI (cntS l f k) (fun t => hasR l f k t = true ∧ (left t && !decide (t = s)) = false) best' most' sev' → Ag2 l f k w4.heap.size r cm g w4 (.string best') (.int .i64 most') (.bool sev') w7 :=
                    fun best' most' sev' h1 h2 h3 => ⟨⟨_, cnt7, best', most', sev', hr7, rfl, rfl, rfl, h1, h2, h3⟩, hin7, hb7, hbig7, hgrH.out⟩
                  by_cases hgt : most < nn
                  · have R := RR s nn false hsz hcs (by have := hIH.out.more hD (by rw [hnn]; exact hgt); rw [hnn] at this; exact this)
                    clear RR hin7 hb7 hr7 hg7 hgood hf7 hD hnD hleft hlt7
                    have RH := Lib.hid R
                    clear R
                    have MH := Lib.hid M
                    clear M
                    have hnnH := Lib.hid hnn
                    clear hnn
                    have hhsH := Lib.hid hhs
                    clear hhs
                    have hmapH := Lib.hid hmap
                    clear hmap
                    go_wp2_with (at_len; go_loud (refine wpList_tlen rfl (.tmp 78) 81 rfl Tryz.underlying81 rfl hmapH.out ?_))
                    refine ⟨?rel, ?measure⟩
                    case measure => exact MH.out
                    case rel => first | exact RH.out | exact ⟨rfl, RH.out⟩ | ((try refine ⟨rfl, ?_⟩); (repeat apply Exists.intro); refine ⟨RH.out, ?_⟩; ((repeat' apply And.intro) <;> rfl))
                  · by_cases heq : nn = most
                    · have R := RR best most true hbzH.out hmn (hIH.out.same hD hnD (by rw [hnn]; exact heq) (by omega))
                      clear RR hin7 hb7 hr7 hg7 hgood hf7 hD hnD hleft hlt7
                      subst heq
                      have RH := Lib.hid R
                      clear R
                      have MH := Lib.hid M
                      clear M
                      have hnnH := Lib.hid hnn
                      clear hnn
                      have hhsH := Lib.hid hhs
                      clear hhs
                      have hmapH := Lib.hid hmap
                      clear hmap
                      go_wp2_with (at_len; go_loud (refine wpList_tlen rfl (.tmp 78) 81 rfl Tryz.underlying81 rfl hmapH.out ?_))
                      refine ⟨?rel, ?measure⟩
                      case measure => exact MH.out
                      case rel => first | exact RH.out | exact ⟨rfl, RH.out⟩ | ((try refine ⟨rfl, ?_⟩); (repeat apply Exists.intro); refine ⟨RH.out, ?_⟩; ((repeat' apply And.intro) <;> rfl))
                    · have R := RR best most sev hbzH.out hmn (hIH.out.less hD (.inl (by rw [hnn]; omega)))
                      have hne : ((nn : Int) == most) = false := by rw [beq_eq_false_iff_ne]; omega
                      clear RR hin7 hb7 hr7 hg7 hgood hf7 hD hnD hleft hlt7
                      have RH := Lib.hid R
                      clear R
                      have MH := Lib.hid M
                      clear M
                      have hnnH := Lib.hid hnn
                      clear hnn
                      have hhsH := Lib.hid hhs
                      clear hhs
                      have hmapH := Lib.hid hmap
                      clear hmap
                      have heqH := Lib.hid heq
                      clear heq
                      go_wp2_with (at_len; go_loud (refine wpList_tlen rfl (.tmp 78) 81 rfl Tryz.underlying81 rfl hmapH.out ?_))
                      refine ⟨?rel, ?measure⟩
                      case measure => exact MH.out
                      case rel => first | exact RH.out | exact ⟨rfl, RH.out⟩ | ((try refine ⟨rfl, ?_⟩); (repeat apply Exists.intro); refine ⟨RH.out, ?_⟩; ((repeat' apply And.intro) <;> rfl))
    · rw [if_neg z2] at hF
      subst hF
      have e5 : (e2 != 0) = true := by simpa using z2
      go_wp2
      go_ret3
      exact ⟨⟨#[]⟩, false, rfl, hz0H.out, fun _ => ⟨rfl, rfl⟩, fun h => absurd h z2, hb12H.out⟩
  · rw [if_neg z1] at hF
    subst hF
    have e5 : (e1 != 0) = true := by simpa using z1
    go_wp2
    go_ret3
    exact ⟨⟨#[]⟩, false, rfl, hz0H.out, fun _ => ⟨rfl, rfl⟩, fun h => absurd h z1, hb1H.out⟩
end Go.Proofs.YtaeeicnbnohghaaGreatDoor.C11

namespace Go.Proofs.YtaeeicnbnohghaaGreatDoor.C11
open Go.RowKit
set_option linter.unusedVariables false

def resT (l : List Claimed) (k : Nat) : List ByteArray := (l.take k).map (fun x => x.result)
theorem resT_step {l : List Claimed} {k : Nat} {x : Claimed} (hx : l[k]? = some x) : resT l (k + 1) = resT l k ++ [x.result] := by unfold resT; rw [List.take_add_one, hx, Option.toList, List.map_append]; rfl
theorem resT_len {l : List Claimed} {k : Nat} (h : k ≤ l.length) : (resT l k).length = k := by unfold resT; rw [List.length_map, List.length_take]; omega
theorem resT_all (l : List Claimed) : resT l l.length = l.map (fun x => x.result) := by unfold resT; rw [List.take_length]
def Ra1 (l : List Claimed) (w0 : World) (v i : Value) (wr : World) : Prop :=
  ∃ (k n cap : Nat) (A : Option Addr), k ≤ l.length ∧ i = .int .i64 k ∧ v = .slice A n cap ∧ Own RStr 9 wr w0.heap.size v (resT l k) ∧ Below w0.heap.size w0 wr
def Ra2 (c : ByteArray → Nat) (L : List ByteArray) (N : Nat) (w0 : World) (vb vm va i : Value) (wr : World) : Prop :=
  ∃ (j : Nat) (best : ByteArray) (most : Nat) (sev : Bool), j ≤ L.length ∧ i = .int .i64 j ∧ vb = .string best ∧ vm = .int .i64 most ∧ va = .bool (aloneB most sev) ∧ best.size ≤ maxLen ∧ most ≤ N ∧ AgrI c (fun t => t ∈ L.take j) best most sev ∧ Below w0.heap.size w0 wr
def Ra3 (wl : List Writer) (p : Writer → Bool) (w0 : World) (v i : Value) (wr : World) : Prop :=
  ∃ k : Nat, k ≤ wl.length ∧ i = .int .i64 k ∧ v = .int .i64 ((wl.take k).countP p : Nat) ∧ Below w0.heap.size w0 wr
def Ra4 (l : List Claimed) (f : Nat → Bool) (s t : ByteArray) (nn : Nat) (w0 : World) (v i : Value) (wr : World) : Prop :=
  ∃ k : Nat, k ≤ l.length ∧ i = .int .i64 k ∧ v = .int .i64 nn ∧ supB l f k s t = false ∧ Below w0.heap.size w0 wr


set_option maxRecDepth 100000 in
set_option maxHeartbeats 16000000 in
theorem rAgreed_any (WA : Option Addr) (wn wc : Nat) (wl : List Writer) (A : Option Addr) (n c : Nat) (l : List Claimed) (key : ByteArray) (many : Int) (w : World) (hm : MaxLenAt w) (ht : PowTab w) (hlb : LblOk l) (hwl : SlAt RWriter w WA wn wl) (hl : SlAt RClaimed w A n l) (F : Int) (hF : agrF wl l key many = F) :
    Calls Tryz.prog 33 #[.slice WA wn wc, .slice A n c, .string key, .int .i64 many] w (AgrAns wl l key many F w) := by
  unfold agrF at hF
  obtain ⟨e1, he1⟩ : ∃ e, writersF wl = e := ⟨_, rfl⟩
  obtain ⟨e2, he2⟩ : ∃ e, logF l = e := ⟨_, rfl⟩
  obtain ⟨e3, he3⟩ : ∃ e, digB key = e := ⟨_, rfl⟩
  obtain ⟨e4, he4⟩ : ∃ e, inR 1 50 many = e := ⟨_, rfl⟩
  rw [he1, he2, he3, he4] at hF
  have hz0 : (⟨#[]⟩ : ByteArray).size ≤ maxLen := by decide
  have hmH := Lib.hid hm
  clear hm
  have htH := Lib.hid ht
  clear ht
  have hlbH := Lib.hid hlb
  clear hlb
  have hwlH := Lib.hid hwl
  clear hwl
  have hlH := Lib.hid hl
  clear hl
  have hFH := Lib.hid hF
  clear hF
  have he1H := Lib.hid he1
  clear he1
  have he2H := Lib.hid he2
  clear he2
  have he3H := Lib.hid he3
  clear he3
  have he4H := Lib.hid he4
  clear he4
  have hz0H := Lib.hid hz0
  clear hz0
  go_enter Tryz.func33, Tryz.ntmps33
  go_wp2_with fail
  refine (rwriters_any WA wn wc wl _ hwlH.out e1 he1H.out).mono ?_
  rintro e w1 ⟨rfl, hb1⟩
  have hF := hFH.out
  clear hFH
  have hb1H := Lib.hid hb1
  clear hb1
  by_cases z1 : e1 = 0
  · subst z1
    rw [if_pos rfl] at hF
    have hFH := Lib.hid hF
    clear hF
    go_wp2_with fail
    refine (rlog_any A n c l _ (hmH.out.below hb1H.out) hlbH.out (hlH.out.below hb1H.out) e2 he2H.out).mono ?_
    rintro e w2 ⟨rfl, hb2⟩
    have hb12 := hb1H.out.trans (hb2.mono hb1H.out.size)
    have hF := hFH.out
    clear hFH hb2
    have hb12H := Lib.hid hb12
    clear hb12
    by_cases z2 : e2 = 0
    · subst z2
      rw [if_pos rfl] at hF
      have hFH := Lib.hid hF
      clear hF
      go_wp2_with fail
      refine (rdig_any key _ e3 he3H.out).mono ?_
      rintro e w3 ⟨rfl, hb3⟩
      have hb13 := hb12H.out.trans (hb3.mono hb12H.out.size)
      have hF := hFH.out
      clear hFH hb3
      have hb13H := Lib.hid hb13
      clear hb13
      cases e3
      · rw [if_neg (by decide)] at hF
        subst hF
        go_wp2
        go_ret3
        exact ⟨⟨#[]⟩, false, rfl, hz0H.out, fun _ => ⟨rfl, rfl⟩, (fun h => by cases h), hb13H.out⟩
      · rw [if_pos rfl] at hF
        have hFH := Lib.hid hF
        clear hF
        go_wp2_with fail
        refine (within_r many 1 50 _).mono ?_
        rintro e w4 ⟨rfl, rfl⟩
        rw [he4H.out]
        have hF := hFH.out
        clear hFH
        cases e4
        · rw [if_neg (by decide)] at hF
          subst hF
          go_wp2
          go_ret3
          exact ⟨⟨#[]⟩, false, rfl, hz0H.out, fun _ => ⟨rfl, rfl⟩, (fun h => by cases h), hb13H.out⟩
        · rw [if_pos rfl] at hF
          subst hF
          obtain ⟨hmany1, hmany2⟩ := inR_true he4H.out
          have hll := hlH.out.1
          have hwll := hwlH.out.1
          have hn : n ≤ 1000 := by have := (logF_zero he2H.out).1; omega
          have hwn : wn ≤ 50 := by have := (writers_len he1H.out).1; omega
          have hcl := logF_zero_each he2H.out
          have hne := writers_ne he1H.out
          obtain ⟨f, hf⟩ : ∃ f, goodJ wl l key = f := ⟨_, rfl⟩
          have hcw : ∀ s, cntS l f l.length s = wl.countP (fun x => supB l f l.length s x.name) := fun s => cnt_writers hne (fun j hj => by rw [← hf] at hj; exact goodJ_has hj) _ s
          have hl4 := hlH.out.below hb13H.out
          have hw4 := hwlH.out.below hb13H.out
          have ht4 := htH.out.below hb13H.out
          clear hne
          have hllH := Lib.hid hll
          clear hll
          have hwllH := Lib.hid hwll
          clear hwll
          have hclH := Lib.hid hcl
          clear hcl
          have hfH := Lib.hid hf
          clear hf
          have hcwH := Lib.hid hcw
          clear hcw
          have hl4H := Lib.hid hl4
          clear hl4
          have hw4H := Lib.hid hw4
          clear hw4
          have ht4H := Lib.hid ht4
          clear ht4
          go_wp2_with fail
          go_loopw [16, 44] (fun v i wr => Ra1 l w4 v i wr) (fun _ i _ => n - (intOf i).toNat)
          case atStart => exact ⟨0, 0, 0, none, Nat.zero_le _, rfl, rfl, Own.nil _ _, Below.refl _ _⟩
          case round =>
            obtain ⟨j, nn, cc, AA, hj, rfl, rfl, hown, hbj⟩ := hrel
            have hjn : j ≤ n := by have := hllH.out; omega
            have hbs := hbj.size
            have hnn := hown.len
            rw [resT_len hj] at hnn
            have hnj : nn = j := hnn.symm
            subst hnj
            by_cases hlt : nn < n
            · obtain ⟨b, off, hA, _⟩ := hl4H.out.2.1 (by omega)
              subst hA
              obtain ⟨x, hx⟩ : ∃ x, l[nn]? = some x := ⟨l[nn]'(by have := hllH.out; omega), List.getElem?_eq_getElem _⟩
              obtain ⟨d0, d1, d2, d3, d4, d5, d6⟩ := cells_Claimed (hl4H.out.below hbj) hx
              have hwz : RStr.ok wr x.result := (hl4H.out.2.2 x (List.mem_of_getElem? hx)).2.2.1
              have hat := resT_step hx
              have hj1 : nn + 1 ≤ l.length := by have := hllH.out; omega
              clear hnn
              have hownH := Lib.hid hown
              clear hown
              have hbjH := Lib.hid hbj
              clear hbj
              have hxH := Lib.hid hx
              clear hx
              have hwzH := Lib.hid hwz
              clear hwz
              have hatH := Lib.hid hat
              clear hat
              have hj1H := Lib.hid hj1
              clear hj1
              go_wp2_with (at_builtin; go_loud (refine wpList_app rfl (.tmp 48) (.tmp 51) 23 rfl Tryz.underlying23 elem_Str2 (by decide) rfl ((hownH.out.alloc _).alloc _) (some ⟨wr.heap.size + 1, 0, none⟩) 1 1 [x.result] rfl (slAt_new3 _ _ _ hwzH.out) ?z0 ?ok ?c1 ?c2 ?c3 (nn + 1) ?c4 ?_))
              try (case z0 => intro h; cases h)
              case ok => exact fun _ _ _ _ h => h
              case c1 => have := hownH.out.len; first | (unfold maxLen; omega) | (simp [maxLen] <;> omega)
              case c2 => have := hownH.out.len; omega
              case c3 => first | omega | (simp <;> omega)
              try (case c4 => have := hownH.out.len; omega)
              intro A' c' w7 hown7 hg7 hat7 hb7
              have R : Ra1 l w4 (.slice A' (nn + 1) c') (.int .i64 (nn + 1)) w7 := by
                refine ⟨nn + 1, nn + 1, c', A', hj1H.out, by go_num, rfl, ?_, ((hbjH.out.alloc hbs _).alloc (by simp; omega) _).trans hb7⟩
                rw [hatH.out]
                exact hown7
              clear hg7 hat7 hb7 hown7
              have RH := Lib.hid R
              clear R
              go_wp2
              refine ⟨?rel, ?measure⟩
              case measure => (simp [intOf]; omega)
              case rel => first | exact RH.out | exact ⟨rfl, RH.out⟩ | ((try refine ⟨rfl, ?_⟩); (repeat apply Exists.intro); refine ⟨RH.out, ?_⟩; ((repeat' apply And.intro) <;> rfl))
            · obtain rfl : nn = n := by omega
              have e : resT l nn = l.map (fun x => x.result) := by rw [← resT_all, hllH.out]
              rw [e] at hown
              clear hnn e
              have hownH := Lib.hid hown
              clear hown
              have hbjH := Lib.hid hbj
              clear hbj
              go_wp2_with fail
              refine (sort_own AA nn cc _ _ _ hownH.out (by omega)).mono ?_
              rintro e wb ⟨rfl, hown2, hg2⟩
              have hb4 := hbjH.out.trans ((Below.refl w4.heap.size wr).grown hg2 hbs (fun j hj => (hownH.out.1.lt j hj).1))
              have hs4 := hb4.size
              clear hg2 hownH hbjH
              have hown2H := Lib.hid hown2
              clear hown2
              have hb4H := Lib.hid hb4
              clear hb4
              go_wp2_with fail
              refine (comp_own AA nn cc _ _ _ hown2H.out (by omega) hs4).mono ?_
              rintro e w5 ⟨n5, hn5, rfl, hown3, hb5⟩
              have hb35 := hb4H.out.trans hb5
              have hsl : SlAt RStr w5 AA n5 (resL l) := hown3.slAt
              have hl5 := hl4H.out.below hb35
              have hw5 := hw4H.out.below hb35
              have ht5 := ht4H.out.below hb35
              have hb05 := hb13H.out.trans (hb35.mono hb13H.out.size)
              have hn5l := hsl.1
              have hcle : ∀ s, cntS l f l.length s ≤ nn := fun s => by have := cnt_le l f l.length s; have := hllH.out; omega
              clear hown3 hown2H hb4H hb5 hb35 hs4 hbs hl4H hw4H ht4H
              have hslH := Lib.hid hsl
              clear hsl
              have hl5H := Lib.hid hl5
              clear hl5
              have hw5H := Lib.hid hw5
              clear hw5
              have ht5H := Lib.hid ht5
              clear ht5
              have hb05H := Lib.hid hb05
              clear hb05
              have hn5lH := Lib.hid hn5l
              clear hn5l
              have hcleH := Lib.hid hcle
              clear hcle
              go_wp2_with fail
              go_loopw [13, 14, 15, 20, 21, 59] (fun vb vm va _ _ i wr => Ra2 (cntS l f l.length) (resL l) nn w5 vb vm va i wr) (fun _ _ _ _ _ i _ => n5 - (intOf i).toNat)
              case atStart =>
                refine ⟨0, ⟨#[]⟩, 0, false, Nat.zero_le _, rfl, rfl, rfl, rfl, hz0H.out, Nat.zero_le _, AgrI.start _ _ (fun t h => ?_) _, Below.refl _ _⟩
                rw [List.take_zero] at h; cases h
              case round =>
                obtain ⟨j, best, most, sev, hj, rfl, rfl, rfl, rfl, hbz, hmn, hI, hbj⟩ := hrel
                obtain ⟨wa, rfl⟩ : ∃ W, W = wr := ⟨_, rfl⟩
                have hjn : j ≤ n5 := by have := hn5lH.out; omega
                by_cases hlt : j < n5
                · obtain ⟨b4, o4, hA4, _⟩ := hslH.out.2.1 (by omega)
                  subst hA4
                  obtain ⟨s, hs⟩ : ∃ z, (resL l)[j]? = some z := ⟨(resL l)[j]'(by have := hn5lH.out; omega), List.getElem?_eq_getElem _⟩
                  have cs := cell_Str (hslH.out.below hbj) hs
                  have hsz : s.size ≤ maxLen := hslH.out.2.2 s (List.mem_of_getElem? hs)
                  have hstep := agr_step (resL_rise l) hs hI
                  have hj1 : j + 1 ≤ (resL l).length := by have := hn5lH.out; omega
                  obtain ⟨al, hal⟩ : ∃ v, aloneB most sev = v := ⟨_, rfl⟩
                  rw [hal]
                  have hbjH := Lib.hid hbj
                  clear hbj
                  have hsH := Lib.hid hs
                  clear hs
                  have hj1H := Lib.hid hj1
                  clear hj1
                  have hszH := Lib.hid hsz
                  clear hsz
                  have hstepH := Lib.hid hstep
                  clear hstep
                  have hbzH := Lib.hid hbz
                  clear hbz
                  have hIH := Lib.hid hI
                  clear hI
                  have halH := Lib.hid hal
                  clear hal
                  go_wp2_with fail
                  go_loopw [21, 65] (fun v i wr => Ra3 wl (fun x => supB l f l.length s x.name) wa v i wr) (fun _ i _ => wn - (intOf i).toNat)
                  case atStart => exact ⟨0, Nat.zero_le _, rfl, rfl, Below.refl _ _⟩
                  case round =>
                    obtain ⟨k3, hk3, rfl, rfl, hb3⟩ := hrel
                    obtain ⟨wb3, rfl⟩ : ∃ W, W = wr := ⟨_, rfl⟩
                    have hk3n : k3 ≤ wn := by have := hwllH.out; omega
                    have hct := count_take_le (wl := wl) k3 (fun x => supB l f l.length s x.name)
                    have hb53 := hbjH.out.trans (hb3.mono hbjH.out.size)
                    by_cases hlt3 : k3 < wn
                    · obtain ⟨bw, ow, hAw, _⟩ := hw5H.out.2.1 (by omega)
                      subst hAw
                      obtain ⟨y, hy⟩ : ∃ y, wl[k3]? = some y := ⟨wl[k3]'(by have := hwllH.out; omega), List.getElem?_eq_getElem _⟩
                      obtain ⟨c0, c1, c2, c3, c4⟩ := cells_Writer (hw5H.out.below hb53) hy
                      have hcs := count_step hy (fun x => supB l f l.length s x.name)
                      obtain ⟨nk, hnk⟩ : ∃ v, (wl.take k3).countP (fun x => supB l f l.length s x.name) = v := ⟨_, rfl⟩
                      rw [hnk] at hcs hct ⊢
                      have hba := hb3.alloc hb3.size (.cells #[.string y.name, .string y.secret, .slice y.prefixes.A y.prefixes.n y.prefixes.cap, .int .i64 y.from_, .int .i64 y.to_] 68)
                      have hb5a := hb53.alloc hb53.size (.cells #[.string y.name, .string y.secret, .slice y.prefixes.A y.prefixes.n y.prefixes.cap, .int .i64 y.from_, .int .i64 y.to_] 68)
                      have hk31 : k3 + 1 ≤ wl.length := by have := hwllH.out; omega
                      have p0 := cell_new wb3 #[.string y.name, .string y.secret, .slice y.prefixes.A y.prefixes.n y.prefixes.cap, .int .i64 y.from_, .int .i64 y.to_] 68 0
                      simp only [List.getElem?_toArray, List.getElem?_cons_zero] at p0
                      obtain ⟨w6, hw6⟩ : ∃ W, W = wb3.alloc (.cells #[.string y.name, .string y.secret, .slice y.prefixes.A y.prefixes.n y.prefixes.cap, .int .i64 y.from_, .int .i64 y.to_] 68) := ⟨_, rfl⟩
                      rw [← hw6] at p0 hba hb5a
                      have hlt6 : wb3.heap.size < w6.heap.size := by rw [hw6]; simp
                      have hyH := Lib.hid hy
                      clear hy
                      have hcsH := Lib.hid hcs
                      clear hcs
                      have hnkH := Lib.hid hnk
                      clear hnk
                      have hb3H := Lib.hid hb3
                      clear hb3
                      have hb53H := Lib.hid hb53
                      clear hb53
                      have hbaH := Lib.hid hba
                      clear hba
                      have hb5aH := Lib.hid hb5a
                      clear hb5a
                      have hk31H := Lib.hid hk31
                      clear hk31
                      have p0H := Lib.hid p0
                      clear p0
                      go_wp2_with fail
                      rw [← hw6]
                      clear hw6
                      go_loopw [21, 71] (fun v i wr => Ra4 l f s y.name nk w6 v i wr) (fun _ i _ => nn - (intOf i).toNat)
                      case atStart => exact ⟨0, Nat.zero_le _, rfl, rfl, rfl, Below.refl _ _⟩
                      case round =>
                        obtain ⟨k, hk, rfl, rfl, hsup, hb4⟩ := hrel
                        have hkn : k ≤ nn := by have := hllH.out; omega
                        have hb54 := hb5aH.out.trans (hb4.mono hb5aH.out.size)
                        have hb34 := hbaH.out.trans (hb4.mono hbaH.out.size)
                        have q0 := (hb4.cell (p := ⟨wb3.heap.size, 0, none⟩) hlt6).trans p0H.out
                        by_cases hlt4 : k < nn
                        · obtain ⟨b, off, hA, _⟩ := hl5H.out.2.1 (by omega)
                          subst hA
                          obtain ⟨x, hx⟩ : ∃ x, l[k]? = some x := ⟨l[k]'(by have := hllH.out; omega), List.getElem?_eq_getElem _⟩
                          obtain ⟨d0, d1, d2, d3, d4, d5, d6⟩ := cells_Claimed (hl5H.out.below hb54) hx
                          have hxm := List.mem_of_getElem? hx
                          have hxo := hl5H.out.2.2 x hxm
                          have hb4a := hb4.alloc hb4.size (.cells #[.string x.key, .string x.label, .string x.result, .string x.writer, .int .i64 x.at_, .slice x.uses.A x.uses.n x.uses.cap, .string x.sign] 25)
                          have hb54a := hb54.alloc hb54.size (.cells #[.string x.key, .string x.label, .string x.result, .string x.writer, .int .i64 x.at_, .slice x.uses.A x.uses.n x.uses.cap, .string x.sign] 25)
                          have hb34a := hb34.alloc hb34.size (.cells #[.string x.key, .string x.label, .string x.result, .string x.writer, .int .i64 x.at_, .slice x.uses.A x.uses.n x.uses.cap, .string x.sign] 25)
                          have q0a := (hb4a.cell (p := ⟨wb3.heap.size, 0, none⟩) hlt6).trans p0H.out
                          have hfk : f k = (decide (x.key = key) && decide (genF wl x = 1)) := by rw [← hfH.out]; exact goodJ_get hx
                          have hri := resOf_get hx
                          have hwi := wriOf_get hx
                          have hk1 : k + 1 ≤ l.length := by have := hllH.out; omega
                          have hbo : bothF wl x = 0 := bothF_of he1H.out (hclH.out x hxm)
                          have hok2 := RClaimed.mono _ _ _ hb54a hxo
                          have hgo : ∀ W : World, Below w6.heap.size w6 W → (f k && (decide (resOf l k = s) && decide (wriOf l k = y.name))) = false → Ra4 l f s y.name nk w6 (.int .i64 nk) (.int .i64 (k + 1)) W := fun W hW h =>
                            ⟨k + 1, hk1, by go_num, rfl, by show (supB l f k s y.name || _) = false; rw [hsup, h]; rfl, hW⟩
                          clear hxm hxo
                          by_cases hkey : x.key = key
                          · have hq : (x.key.toList == key.toList) = true := by rw [beq_data, decide_eq_true hkey]
                            rw [decide_eq_true hkey, Bool.true_and] at hfk
                            by_cases hres : x.result = s
                            · have hq2 : (x.result.toList == s.toList) = true := by rw [beq_data, decide_eq_true hres]
                              by_cases hwr : x.writer = y.name
                              · have hq3 : (x.writer.toList == y.name.toList) = true := by rw [beq_data, decide_eq_true hwr]
                                obtain ⟨v, hv⟩ : ∃ v, genF wl x = v := ⟨_, rfl⟩
                                rw [hv] at hfk
                                have hxH := Lib.hid hx
                                clear hx
                                have hkeyH := Lib.hid hkey
                                clear hkey
                                have hresH := Lib.hid hres
                                clear hres
                                have hwrH := Lib.hid hwr
                                clear hwr
                                have hb4H := Lib.hid hb4
                                clear hb4
                                have hb34H := Lib.hid hb34
                                clear hb34
                                have hb54H := Lib.hid hb54
                                clear hb54
                                have hb4aH := Lib.hid hb4a
                                clear hb4a
                                have hb34aH := Lib.hid hb34a
                                clear hb34a
                                have hb54aH := Lib.hid hb54a
                                clear hb54a
                                have hfkH := Lib.hid hfk
                                clear hfk
                                have hriH := Lib.hid hri
                                clear hri
                                have hwiH := Lib.hid hwi
                                clear hwi
                                have hboH := Lib.hid hbo
                                clear hbo
                                have hok2H := Lib.hid hok2
                                clear hok2
                                have hvH := Lib.hid hv
                                clear hv
                                have hgoH := Lib.hid hgo
                                clear hgo
                                have hk1H := Lib.hid hk1
                                clear hk1
                                have hsupH := Lib.hid hsup
                                clear hsup
                                go_wp2_with fail
                                refine (rgenuine_any _ wn wc wl x _ (ht5H.out.below hb54aH.out) (hw5H.out.below hb54aH.out) hok2H.out hboH.out v hvH.out).mono ?_
                                rintro e w7 ⟨rfl, hw7⟩
                                have hb47 := hb4aH.out.trans (hw7.mono hb4aH.out.size)
                                have hb37 := hb34aH.out.trans (hw7.mono hb34aH.out.size)
                                clear hw7
                                by_cases hv1 : v = 1
                                · subst hv1
                                  have hfk := hfkH.out
                                  rw [decide_eq_true rfl] at hfk
                                  have hsn : supB l f (k + 1) s y.name = true := by
                                    show (supB l f k s y.name || (f k && (decide (resOf l k = s) && decide (wriOf l k = y.name)))) = true
                                    rw [hfk, hriH.out, hwiH.out, decide_eq_true hresH.out, decide_eq_true hwrH.out]
                                    simp
                                  have hsl1 := sup_mono hsn l.length hk1H.out
                                  have R : Ra3 wl (fun x => supB l f l.length s x.name) wa (.int .i64 (nk + 1)) (.int .i64 (k3 + 1)) w7 := by
                                    refine ⟨k3 + 1, hk31H.out, by go_num, ?_, hb37⟩
                                    rw [hcsH.out, if_pos hsl1]
                                    go_num
                                  clear hb47 hb37 hsn hsl1 hfk
                                  have RH := Lib.hid R
                                  clear R
                                  go_wp2
                                  refine ⟨?rel, ?measure⟩
                                  case measure => (simp [intOf]; omega)
                                  case rel => first | exact RH.out | exact ⟨rfl, RH.out⟩ | ((try refine ⟨rfl, ?_⟩); (repeat apply Exists.intro); refine ⟨RH.out, ?_⟩; ((repeat' apply And.intro) <;> rfl))
                                · have e5 : (v == 1) = false := by simpa using hv1
                                  have hfk := hfkH.out
                                  rw [decide_eq_false hv1] at hfk
                                  have R := hgoH.out w7 hb47 (by rw [hfk]; rfl)
                                  clear hb47 hb37 hfk hv1
                                  have RH := Lib.hid R
                                  clear R
                                  go_wp2
                                  refine ⟨?rel, ?measure⟩
                                  case measure => (simp [intOf]; omega)
                                  case rel => first | exact RH.out | exact ⟨rfl, RH.out⟩ | ((try refine ⟨rfl, ?_⟩); (repeat apply Exists.intro); refine ⟨RH.out, ?_⟩; ((repeat' apply And.intro) <;> rfl))
                              · have hq3 : (x.writer.toList == y.name.toList) = false := by rw [beq_data, decide_eq_false hwr]
                                have R := hgo _ hb4a (by rw [hwi, decide_eq_false hwr, Bool.and_false, Bool.and_false])
                                have hxH := Lib.hid hx
                                clear hx
                                have hkeyH := Lib.hid hkey
                                clear hkey
                                have hresH := Lib.hid hres
                                clear hres
                                have hwrH := Lib.hid hwr
                                clear hwr
                                have hb4H := Lib.hid hb4
                                clear hb4
                                have hb34H := Lib.hid hb34
                                clear hb34
                                have hb54H := Lib.hid hb54
                                clear hb54
                                have hb4aH := Lib.hid hb4a
                                clear hb4a
                                have hb34aH := Lib.hid hb34a
                                clear hb34a
                                have hb54aH := Lib.hid hb54a
                                clear hb54a
                                have hfkH := Lib.hid hfk
                                clear hfk
                                have hriH := Lib.hid hri
                                clear hri
                                have hwiH := Lib.hid hwi
                                clear hwi
                                have hboH := Lib.hid hbo
                                clear hbo
                                have hok2H := Lib.hid hok2
                                clear hok2
                                have hgoH := Lib.hid hgo
                                clear hgo
                                have hk1H := Lib.hid hk1
                                clear hk1
                                have hsupH := Lib.hid hsup
                                clear hsup
                                have RH := Lib.hid R
                                clear R
                                go_wp2
                                refine ⟨?rel, ?measure⟩
                                case measure => (simp [intOf]; omega)
                                case rel => first | exact RH.out | exact ⟨rfl, RH.out⟩ | ((try refine ⟨rfl, ?_⟩); (repeat apply Exists.intro); refine ⟨RH.out, ?_⟩; ((repeat' apply And.intro) <;> rfl))
                            · have hq2 : (x.result.toList == s.toList) = false := by rw [beq_data, decide_eq_false hres]
                              have R := hgo _ hb4a (by rw [hri, decide_eq_false hres, Bool.false_and, Bool.and_false])
                              have hxH := Lib.hid hx
                              clear hx
                              have hkeyH := Lib.hid hkey
                              clear hkey
                              have hresH := Lib.hid hres
                              clear hres
                              have hb4H := Lib.hid hb4
                              clear hb4
                              have hb34H := Lib.hid hb34
                              clear hb34
                              have hb54H := Lib.hid hb54
                              clear hb54
                              have hb4aH := Lib.hid hb4a
                              clear hb4a
                              have hb34aH := Lib.hid hb34a
                              clear hb34a
                              have hb54aH := Lib.hid hb54a
                              clear hb54a
                              have hfkH := Lib.hid hfk
                              clear hfk
                              have hriH := Lib.hid hri
                              clear hri
                              have hwiH := Lib.hid hwi
                              clear hwi
                              have hboH := Lib.hid hbo
                              clear hbo
                              have hok2H := Lib.hid hok2
                              clear hok2
                              have hgoH := Lib.hid hgo
                              clear hgo
                              have hk1H := Lib.hid hk1
                              clear hk1
                              have hsupH := Lib.hid hsup
                              clear hsup
                              have RH := Lib.hid R
                              clear R
                              go_wp2
                              refine ⟨?rel, ?measure⟩
                              case measure => (simp [intOf]; omega)
                              case rel => first | exact RH.out | exact ⟨rfl, RH.out⟩ | ((try refine ⟨rfl, ?_⟩); (repeat apply Exists.intro); refine ⟨RH.out, ?_⟩; ((repeat' apply And.intro) <;> rfl))
                          · have hq : (x.key.toList == key.toList) = false := by rw [beq_data, decide_eq_false hkey]
                            rw [decide_eq_false hkey, Bool.false_and] at hfk
                            have R := hgo _ hb4a (by rw [hfk, Bool.false_and])
                            have hxH := Lib.hid hx
                            clear hx
                            have hkeyH := Lib.hid hkey
                            clear hkey
                            have hb4H := Lib.hid hb4
                            clear hb4
                            have hb34H := Lib.hid hb34
                            clear hb34
                            have hb54H := Lib.hid hb54
                            clear hb54
                            have hb4aH := Lib.hid hb4a
                            clear hb4a
                            have hb34aH := Lib.hid hb34a
                            clear hb34a
                            have hb54aH := Lib.hid hb54a
                            clear hb54a
                            have hfkH := Lib.hid hfk
                            clear hfk
                            have hriH := Lib.hid hri
                            clear hri
                            have hwiH := Lib.hid hwi
                            clear hwi
                            have hboH := Lib.hid hbo
                            clear hbo
                            have hok2H := Lib.hid hok2
                            clear hok2
                            have hgoH := Lib.hid hgo
                            clear hgo
                            have hk1H := Lib.hid hk1
                            clear hk1
                            have hsupH := Lib.hid hsup
                            clear hsup
                            have RH := Lib.hid R
                            clear R
                            go_wp2
                            refine ⟨?rel, ?measure⟩
                            case measure => (simp [intOf]; omega)
                            case rel => first | exact RH.out | exact ⟨rfl, RH.out⟩ | ((try refine ⟨rfl, ?_⟩); (repeat apply Exists.intro); refine ⟨RH.out, ?_⟩; ((repeat' apply And.intro) <;> rfl))
                        · obtain rfl : k = nn := by omega
                          have hsl1 : supB l f l.length s y.name = false := by rw [hllH.out]; exact hsup
                          have R : Ra3 wl (fun x => supB l f l.length s x.name) wa (.int .i64 nk) (.int .i64 (k3 + 1)) wr := by
                            refine ⟨k3 + 1, hk31H.out, by go_num, ?_, hb34⟩
                            rw [hcsH.out, if_neg (by rw [hsl1]; decide)]
                            rfl
                          clear hsup hsl1
                          have hb4H := Lib.hid hb4
                          clear hb4
                          have hb34H := Lib.hid hb34
                          clear hb34
                          have hb54H := Lib.hid hb54
                          clear hb54
                          have RH := Lib.hid R
                          clear R
                          go_wp2
                          refine ⟨?rel, ?measure⟩
                          case measure => (simp [intOf]; omega)
                          case rel => first | exact RH.out | exact ⟨rfl, RH.out⟩ | ((try refine ⟨rfl, ?_⟩); (repeat apply Exists.intro); refine ⟨RH.out, ?_⟩; ((repeat' apply And.intro) <;> rfl))
                    · obtain rfl : k3 = wn := by omega
                      have hcn : (wl.take k3).countP (fun x => supB l f l.length s x.name) = cntS l f l.length s := by
                        rw [List.take_of_length_le (by have := hwllH.out; omega), hcwH.out s]
                      have hcl2 := hcleH.out s
                      have hst := hstepH.out
                      rw [hcn]
                      obtain ⟨cc2, hcc⟩ : ∃ v, cntS l f l.length s = v := ⟨_, rfl⟩
                      rw [hcc] at hst hcl2 ⊢
                      obtain ⟨h1, h2, h3⟩ := hst
                      have RR : ∀ (best' : ByteArray) (most' : Nat) (sev' : Bool), best'.size ≤ maxLen → most' ≤ nn → AgrI (cntS l f l.length) (fun t => t ∈ (resL l).take (j + 1)) best' most' sev' → Ra2 (cntS l f l.length) (resL l) nn w5 (.string best') (.int .i64 most') (.bool (aloneB most' sev')) (.int .i64 (j + 1)) wb3 :=
                        fun best' most' sev' g1 g2 g3 => ⟨j + 1, best', most', sev', hj1H.out, by go_num, rfl, rfl, rfl, g1, g2, g3, hb53⟩
                      clear hcn hct
                      by_cases hgt : most < cc2
                      · obtain ⟨g1, g2⟩ := h1 hgt
                        have R := RR s cc2 false hszH.out hcl2 g1
                        rw [g2] at R
                        clear RR h1 h2 h3 g1 g2
                        have RH := Lib.hid R
                        clear R
                        have hccH := Lib.hid hcc
                        clear hcc
                        have hb3H := Lib.hid hb3
                        clear hb3
                        have hb53H := Lib.hid hb53
                        clear hb53
                        go_wp2
                        refine ⟨?rel, ?measure⟩
                        case measure => (simp [intOf]; omega)
                        case rel => first | exact RH.out | exact ⟨rfl, RH.out⟩ | ((try refine ⟨rfl, ?_⟩); (repeat apply Exists.intro); refine ⟨RH.out, ?_⟩; ((repeat' apply And.intro) <;> rfl))
                      · by_cases heq : cc2 = most
                        · obtain ⟨sev', g1, g2⟩ := h2 heq
                          have R := RR best most sev' hbzH.out hmn g1
                          rw [g2] at R
                          clear RR h1 h2 h3 g1 g2
                          subst heq
                          have RH := Lib.hid R
                          clear R
                          have hccH := Lib.hid hcc
                          clear hcc
                          have hb3H := Lib.hid hb3
                          clear hb3
                          have hb53H := Lib.hid hb53
                          clear hb53
                          go_wp2
                          refine ⟨?rel, ?measure⟩
                          case measure => (simp [intOf]; omega)
                          case rel => first | exact RH.out | exact ⟨rfl, RH.out⟩ | ((try refine ⟨rfl, ?_⟩); (repeat apply Exists.intro); refine ⟨RH.out, ?_⟩; ((repeat' apply And.intro) <;> rfl))
                        · have g1 := h3 (by omega)
                          have R := RR best most sev hbzH.out hmn g1
                          rw [halH.out] at R
                          have hne : ((cc2 : Int) == most) = false := by rw [beq_eq_false_iff_ne]; omega
                          clear RR h1 h2 h3 g1
                          have RH := Lib.hid R
                          clear R
                          have hccH := Lib.hid hcc
                          clear hcc
                          have hb3H := Lib.hid hb3
                          clear hb3
                          have hb53H := Lib.hid hb53
                          clear hb53
                          have heqH := Lib.hid heq
                          clear heq
                          go_wp2
                          refine ⟨?rel, ?measure⟩
                          case measure => (simp [intOf]; omega)
                          case rel => first | exact RH.out | exact ⟨rfl, RH.out⟩ | ((try refine ⟨rfl, ?_⟩); (repeat apply Exists.intro); refine ⟨RH.out, ?_⟩; ((repeat' apply And.intro) <;> rfl))
                · obtain rfl : j = n5 := by omega
                  have hD : ∀ t, 1 ≤ cntS l f l.length t → t ∈ (resL l).take j := fun t h => by
                    rw [List.take_of_length_le (by have := hn5lH.out; omega)]; exact resL_all h
                  have hbe := hb05H.out.trans (hbj.mono hb05H.out.size)
                  have hkl : cntS l f l.length = cntS l (goodJ wl l key) l.length := by rw [hfH.out]
                  obtain ⟨al, hal⟩ : ∃ v, aloneB most sev = v := ⟨_, rfl⟩
                  rw [hal]
                  cases al
                  · have hA := hI.no (many := many) hD (.inr (alone_no hal))
                    rw [hkl] at hA
                    clear hD hkl hI
                    have hAH := Lib.hid hA
                    clear hA
                    have hbeH := Lib.hid hbe
                    clear hbe
                    have hbjH := Lib.hid hbj
                    clear hbj
                    have halH := Lib.hid hal
                    clear hal
                    go_wp2
                    go_ret3
                    exact ⟨⟨#[]⟩, false, rfl, hz0H.out, fun h => absurd rfl h, fun _ => hAH.out, hbeH.out⟩
                  · obtain ⟨hp, hsv⟩ := alone_yes hal
                    by_cases hmm : (most : Int) < many
                    · have hA := hI.no (many := many) hD (.inl hmm)
                      rw [hkl] at hA
                      clear hD hkl hI
                      have hAH := Lib.hid hA
                      clear hA
                      have hbeH := Lib.hid hbe
                      clear hbe
                      have hbjH := Lib.hid hbj
                      clear hbj
                      have halH := Lib.hid hal
                      clear hal
                      have hsvH := Lib.hid hsv
                      clear hsv
                      go_wp2
                      go_ret3
                      exact ⟨⟨#[]⟩, false, rfl, hz0H.out, fun h => absurd rfl h, fun _ => hAH.out, hbeH.out⟩
                    · have hA := hI.yes (many := many) hD hp (by omega) hsv
                      rw [hkl] at hA
                      clear hD hkl hI
                      have hAH := Lib.hid hA
                      clear hA
                      have hbeH := Lib.hid hbe
                      clear hbe
                      have hbjH := Lib.hid hbj
                      clear hbj
                      have halH := Lib.hid hal
                      clear hal
                      have hsvH := Lib.hid hsv
                      clear hsv
                      go_wp2
                      go_ret3
                      exact ⟨best, true, rfl, hbz, fun h => absurd rfl h, fun _ => hAH.out, hbeH.out⟩
    · rw [if_neg z2] at hF
      subst hF
      have e5 : (e2 != 0) = true := by simpa using z2
      go_wp2
      go_ret3
      exact ⟨⟨#[]⟩, false, rfl, hz0H.out, fun _ => ⟨rfl, rfl⟩, (fun h => absurd h z2), hb12H.out⟩
  · rw [if_neg z1] at hF
    subst hF
    have e5 : (e1 != 0) = true := by simpa using z1
    go_wp2
    go_ret3
    exact ⟨⟨#[]⟩, false, rfl, hz0H.out, fun _ => ⟨rfl, rfl⟩, (fun h => absurd h z1), hb1H.out⟩
end Go.Proofs.YtaeeicnbnohghaaGreatDoor.C11

namespace Go.Proofs.YtaeeicnbnohghaaGreatDoor.C11
open Go.RowKit
set_option linter.unusedVariables false

theorem sumBulk_memA {α : Type} (f : α → Nat) : ∀ (l : List α) (x : α), x ∈ l → f x ≤ sumBulk f l
  | [], x, h => by cases h
  | y :: r, x, h => by
    rcases List.mem_cons.1 h with rfl | h
    · simp [sumBulk]
    · have := sumBulk_memA f r x h
      simp only [sumBulk]; omega
theorem lbl_of_bulkA {l : SlD Claimed} (h : (RSl RClaimed).bulk l ≤ 1048576) : LblOk l.l := fun x hx => by
  have h1 := sumBulk_memA RClaimed.bulk l.l x hx
  have h2 : sumBulk RClaimed.bulk l.l + 1 = (RSl RClaimed).bulk l := rfl
  have h3 : RStr.bulk x.label = x.label.size + 1 := rfl
  have h4 : RClaimed.bulk x = RStr.bulk x.key + RStr.bulk x.label + RStr.bulk x.result + RStr.bulk x.writer + RInt.bulk x.at_ + (RSl RStr).bulk x.uses + RStr.bulk x.sign := rfl
  omega

set_option maxRecDepth 100000 in
set_option maxHeartbeats 4000000 in
theorem law_agr (wl : SlD Writer) (l : SlD Claimed) (key : ByteArray) (many : Int) (w : World) (hwl : (RSl RWriter).ok w wl) (hl : (RSl RClaimed).ok w l) (hk : RStr.ok w key) (hmn : RInt.ok w many)
    (hbk : (RSl RWriter).bulk wl + (RSl RClaimed).bulk l + RStr.bulk key + RInt.bulk many ≤ 1048576) (hm : MaxLenAt w) (ht : PowTab w) :
    Calls Tryz.prog 8 #[.slice wl.A wl.n wl.cap, .slice l.A l.n l.cap, .string key, .int .i64 many] w fun e w' => e = .returned (.bool true) ∧ Below w.heap.size w w' := by
  have hlb : LblOk l.l := lbl_of_bulkA (by omega)
  clear hbk hk hmn
  obtain ⟨WA, wn, wc, wl⟩ := wl
  obtain ⟨A, n, c, l⟩ := l
  obtain ⟨hwl, hd1, hd2, hd3⟩ := hwl
  clear hd1 hd2 hd3
  obtain ⟨hl, hd1, hd2, hd3⟩ := hl
  clear hd1 hd2 hd3
  simp only at hwl hl hlb ⊢
  obtain ⟨F, hF⟩ : ∃ F, agrF wl l key many = F := ⟨_, rfl⟩
  have hwlH := Lib.hid hwl
  clear hwl
  have hlH := Lib.hid hl
  clear hl
  have hlbH := Lib.hid hlb
  clear hlb
  have hmH := Lib.hid hm
  clear hm
  have htH := Lib.hid ht
  clear ht
  have hFH := Lib.hid hF
  clear hF
  go_enter Tryz.func8, Tryz.ntmps8
  go_wp2_with fail
  refine (Agreed_any WA wn wc wl A n c l key many _ hmH.out htH.out hwlH.out hlH.out F hFH.out).mono ?_
  rintro e w1 ⟨s, x, rfl, hsz, hz, hA, hb1⟩
  have hszH := Lib.hid hsz
  clear hsz
  have hzH := Lib.hid hz
  clear hz
  have hAH := Lib.hid hA
  clear hA
  have hb1H := Lib.hid hb1
  clear hb1
  go_wp2_with fail
  refine (rAgreed_any WA wn wc wl A n c l key many _ (hmH.out.below hb1H.out) (htH.out.below hb1H.out) hlbH.out (hwlH.out.below hb1H.out) (hlH.out.below hb1H.out) F hFH.out).mono ?_
  rintro e w2 ⟨t, y, rfl, hsz2, hz2, hA2, hw2⟩
  have hb2 := hb1H.out.trans (hw2.mono hb1H.out.size)
  have hst : s = t ∧ x = y := by
    by_cases f0 : F = 0
    · exact (hAH.out f0).eq (hA2 f0)
    · obtain ⟨h1, h2⟩ := hzH.out f0
      obtain ⟨h3, h4⟩ := hz2 f0
      exact ⟨h1.trans h3.symm, h2.trans h4.symm⟩
  obtain ⟨rfl, rfl⟩ := hst
  have hq : (s.toList == s.toList) = true := by simp
  clear hsz2 hz2 hA2 hw2
  have hb2H := Lib.hid hb2
  clear hb2
  go_wp2_with fail
  refine (awake_any _ (hmH.out.below hb2H.out)).mono ?_
  rintro e w4 ⟨rfl, hw4⟩
  have hb4 := hb2H.out.trans (hw4.mono hb2H.out.size)
  clear hw4
  have hb4H := Lib.hid hb4
  clear hb4
  go_wp2
  go_ret
  exact ⟨rfl, hb4H.out⟩
end Go.Proofs.YtaeeicnbnohghaaGreatDoor.C11

namespace Go.Proofs.YtaeeicnbnohghaaGreatDoor.trustAgreedMatchesSpec
open Go.Proofs.YtaeeicnbnohghaaGreatDoor.C11
open Go.ChangeShapes Go.WideShapes Go.ChangeAt Go.RowKit
open Go.ChangeMaps (open_string shut_string)
set_option linter.unusedVariables false

theorem pow_row {W : World} (h : laidMetH Tryz.prog Rows.trustAgreedMatchesSpecUptoRow.laid W) : PowTab W := pow_one (laidMetH.filter (fun x => x.1 == "internal/strconv.uint64pow10") h)
theorem own : ownKnob Tryz.prog.godebug = none := by kernel_rfl
theorem laidOut : laidOutB Tryz.prog = true := by kernel_rfl

set_option maxRecDepth 100000 in
theorem contract (H : Type) (enc : TypeId × Value → H) (W : World) (base : Nat) (args : Array Value) (ds gs : List (DataW H)) (before : List MemPlace)
    (hval0 : ∀ (j : Nat) t v, Tryz.f8.params[j]? = some t → args[j]? = some v → Value.okWide Tryz.prog W .any base t v)
    (hW : DataW.Whole enc Tryz.prog Tryz.f8.params.toList Rows.trustAgreedMatchesSpecSpec.vars false W args.toList ds gs before) (hmx : MaxLenAt W) (hk : Rows.uptoSmall H (ds ++ gs) = true) (hpw : PowTab W) :
    Calls Tryz.prog 8 args W fun e W' => ∃ v, e = .returned v ∧ Rows.trustAgreedMatchesSpecSpec.post enc Tryz.prog Tryz.f8 false true false false W args v W' := by
  have hval := hval0
  have hW' := hW
  obtain ⟨p, q, hA0, hV, rfl, hfz, hnd⟩ := hW
  have hA : DataW.TrodAll enc Tryz.prog W 0 (fun _ => true) true Tryz.f8.params.toList args.toList ds p := hA0
  rw [Tryz.params8] at hA hval
  obtain ⟨v0, vs0, d0, ds0, p0, q0, hargs, rfl, rfl, h0, r0⟩ := trodAll_cons hA
  obtain ⟨v1, vs1, d1, ds1, p1, q1, rfl, rfl, rfl, h1, r1⟩ := trodAll_cons r0
  obtain ⟨v2, vs2, d2, ds2, p2, q2, rfl, rfl, rfl, h2, r2⟩ := trodAll_cons r1
  obtain ⟨v3, vs3, d3, ds3, p3, q3, rfl, rfl, rfl, h3, r3⟩ := trodAll_cons r2
  obtain ⟨rfl, rfl, rfl⟩ := trodAll_nil r3
  obtain rfl : args = #[v0, v1, v2, v3] := by cases args; simp_all
  obtain ⟨rfl, rfl⟩ := trodVars_none hV
  have m0 := h0
  have lt0 : ∀ x ∈ p0, x.block < W.heap.size := by obtain ⟨m, hm⟩ := m0; exact DataW.trod_lt m _ _ _ hm
  obtain ⟨a0, rfl, k0, b0⟩ := param_slice Tryz.underlying22 opens_t_sl_Writer (hval 0 22 v0 rfl rfl) h0
  have m1 := h1
  have lt1 : ∀ x ∈ p1, x.block < W.heap.size := by obtain ⟨m, hm⟩ := m1; exact DataW.trod_lt m _ _ _ hm
  obtain ⟨a1, rfl, k1, b1⟩ := param_slice Tryz.underlying40 opens_t_sl_Claimed (hval 1 40 v1 rfl rfl) h1
  obtain ⟨a2, rfl, rfl, rfl, w2⟩ := open_string Tryz.underlying9 (hval 2 9 v2 rfl rfl) h2
  have k2 : RStr.ok W a2 := w2
  obtain ⟨a3, rfl, rfl, rfl, w3⟩ := open_int Tryz.underlying3 (hval 3 3 v3 rfl rfl) h3
  have k3 : RInt.ok W a3 := by show I64 a3; simpa [I64, Lit.wf, IntKind.min, IntKind.max, IntKind.signed, IntKind.bits] using w3
  clear hA0 hval0
  have hbulk : (RSl RWriter).bulk a0 + (RSl RClaimed).bulk a1 + RStr.bulk a2 + RInt.bulk a3 ≤ 1048576 := by
    have hk2 := of_decide_eq_true hk
    simp only [List.append_nil, Rows.uptoBulkAll] at hk2
    have b2 : RStr.bulk a2 ≤ Rows.uptoBulk (DataW.lit (H := H) (.string a2.data.toList)) := by simp [RStr, Rows.uptoBulk]
    have b3 : RInt.bulk a3 ≤ Rows.uptoBulk (DataW.lit (H := H) (.int .i64 a3)) := bulk_one _
    omega
  refine (law_agr a0 a1 a2 a3 W k0 k1 k2 k3 hbulk hmx hpw).mono fun e W' ⟨he, bel⟩ => ?_
  subst he
  exact ⟨_, rfl, _, _, _, [], _, [], hW', trodAll_mk1 (shut_bool Tryz.underlying4 _), (trodAll_cons_mk (Below.trod laidOut (by kernel_rfl) (of_decide_eq_true (by kernel_rfl)) m0 bel lt0) (trodAll_cons_mk (Below.trod laidOut (by kernel_rfl) (of_decide_eq_true (by kernel_rfl)) m1 bel lt1) (trodAll_cons_mk (shut_string Tryz.underlying9 w2) (trodAll_cons_mk (shut_int Tryz.underlying3 w3) trodAll_mk0)))), rfl, bel.frame _, fun h => by cases h⟩

/-- the two tables, laid -/
def litsOf : DataW Unit → List Value
  | .agg l => l.map fun
    | .lit (.int k n) => .int k n
    | _ => undef
  | _ => []
noncomputable def laidWorld (os : Os) : World :=
  let put (h : Array Obj) (g : Nat) (cs : Array Value) : Array Obj := h.modify g fun
    | .cells _ t frozen => .cells cs t frozen
    | o => o
  { World.holding Tryz.prog os ⟨#[], #[], []⟩ with heap := put (put (put (put (put (World.holding Tryz.prog os ⟨#[], #[], []⟩).heap 4 ((litsOf Rows.laid_math_bits_deBruijn32tab).toArray)) 5 ((litsOf Rows.laid_math_bits_deBruijn64tab).toArray)) 3 ((litsOf Rows.laid_internal_strconv_uint64pow10).toArray)) 2 (((List.range 16).flatMap fun i => [Value.int .u8 (Lib.accLo i), Value.int .u8 (Lib.accHi i)]).toArray)) 1 ((Lib.firstTab.map fun z => Value.int .u8 z).toArray) }
set_option maxRecDepth 1000000 in
theorem laid_met (os : Os) : laidMet Tryz.prog Rows.trustAgreedMatchesSpecUptoRow.laid ((laidWorld os).forCall (fun _ _ => 0) ⟨#[], #[.slice none 0 0, .slice none 0 0, .string ByteArray.empty, .int .i64 0], []⟩).memory :=
  laidMet_of_run' 8 (by kernel_rfl) (by kernel_rfl)
theorem reads (os : Os) {H : Type} (enc : TypeId × Value → H) : ∃ places, DataW.whole enc Tryz.prog ((laidWorld os).forCall (fun _ _ => 0) ⟨#[], #[.slice none 0 0, .slice none 0 0, .string ByteArray.empty, .int .i64 0], []⟩).memory Tryz.f8.params.toList Rows.trustAgreedMatchesSpecSpec.vars false (#[.slice none 0 0, .slice none 0 0, .string ByteArray.empty, .int .i64 0] : Array Value).toList 8 = some ([.nil, .nil, .lit (.string []), .lit (.int .i64 0)], [], places) :=
  ⟨[], by kernel_rfl⟩

set_option maxRecDepth 100000 in
theorem lifted (os : Os) (started : os.Started) (H : Type) (enc : TypeId × Value → H) (F : Stop.Interp) :
    ReturnsInHanded {} Tryz.checked os 8 .any ((Rows.OpenSpec.upto Rows.trustAgreedMatchesSpecSpec).preRow enc Tryz.prog Tryz.f8 Rows.trustAgreedMatchesSpecUptoRow.domain false Rows.trustAgreedMatchesSpecUptoRow.laid) (((Rows.OpenSpec.upto Rows.trustAgreedMatchesSpecSpec).at F).post enc Tryz.prog Tryz.f8 false true false false) := by
  obtain ⟨places, hx⟩ := reads os enc
  refine returnsInHanded_of_row (C := Tryz.checked) (s := (Rows.OpenSpec.upto Rows.trustAgreedMatchesSpecSpec)) own started (by kernel_rfl) Tryz.func8
    (witness_row_at (enc := enc) (C := Tryz.checked) false (laidWorld os) #[.slice none 0 0, .slice none 0 0, .string ByteArray.empty, .int .i64 0] rfl (by kernel_rfl) (by kernel_rfl) (by kernel_rfl)
      (OpenSpec.preRow_of_cond 8 hx (by kernel_rfl) (fun k hk => by cases hk; kernel_rfl) (by kernel_rfl) (laid_met os))) ?_
  intro W base args ds gs before hval hW _ hcond hsz hlaid hsh _
  exact contract H enc W base args ds gs before hval hW (Tryz.laysM146.s1_3 W hsh) (hcond _ rfl) (pow_row hlaid)

theorem said : Rows.TrustAgreedMatchesSpecUptoSaid :=
  OpenClaim.holds_of_cond 8 Tryz.f8 rfl rfl rfl rfl rfl rfl rfl ⟨rfl, rfl, rfl, rfl, rfl⟩ rfl rfl rfl rfl rfl (by kernel_rfl) Tryz.func8 (by kernel_rfl)
    (of_decide_eq_true (by kernel_rfl)) (by unfold Func.isWrapper; first | (rw [if_pos (by decide +kernel)]; kernel_rfl) | (rw [if_neg (by decide +kernel)]; exact ⟨rfl, rfl⟩))
    (fun os started H enc _ F => by rw [OpenClaim.pre_eq_preRow]; exact lifted os started H enc F)

theorem plain (f : FuncId) (fn : Func) (hf : Tryz.pinned.checked.prog.funcNamed "smithyard/smithyardlaw11.TrustAgreedMatchesSpec" = some f) (hfn : Tryz.pinned.checked.prog.funcs[f]? = some fn) :
    false = Tryz.pinned.checked.prog.looks [] ∧ ∀ (j : Nat) t, fn.params[j]? = some t → Tryz.pinned.checked.prog.wantsStandIn t = false := by
  obtain rfl : f = 8 := Option.some.inj ((show Tryz.prog.funcNamed "smithyard/smithyardlaw11.TrustAgreedMatchesSpec" = some 8 by kernel_rfl).symm.trans hf) |>.symm
  obtain rfl : fn = Tryz.f8 := (Option.some.inj (Tryz.func8.symm.trans hfn)).symm
  refine ⟨by kernel_rfl, fun j t ht => ?_⟩
  rw [Tryz.params8] at ht
  have hm : t = 22 ∨ t = 40 ∨ t = 9 ∨ t = 3 := by have := Array.mem_of_getElem? ht; simpa using this
  rcases hm with rfl | rfl | rfl | rfl
  · exact (show Tryz.prog.wantsStandIn 22 = false by kernel_rfl)
  · exact (show Tryz.prog.wantsStandIn 40 = false by kernel_rfl)
  · exact (show Tryz.prog.wantsStandIn 9 = false by kernel_rfl)
  · exact (show Tryz.prog.wantsStandIn 3 = false by kernel_rfl)

theorem card : Rows.TrustAgreedMatchesSpecUptoCardSaid :=
  Claim7.holds_tied_plain_at .later [] _ _ _ _ said (fun _ h => by cases h) (by kernel_rfl) (fun _ h => by cases h) trustAgreedMatchesSpecUpto_row_tie rfl ⟨rfl, rfl⟩ (by kernel_rfl) rfl plain (by kernel_rfl)
end Go.Proofs.YtaeeicnbnohghaaGreatDoor.trustAgreedMatchesSpec
