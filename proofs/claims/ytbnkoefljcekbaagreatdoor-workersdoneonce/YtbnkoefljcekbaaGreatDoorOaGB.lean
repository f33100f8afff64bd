/-
  Several texts of mine as one, without what is not wanted here: XPlN, XPlI, XPlJ, XPlK, XGraph, XSets, XOrd, XCrD, XCrM, XQue, XLoD.
-/
import Derived.Test.YtbnkoefljcekbaaGreatDoorOaG
import Derived.Lib.SlTrimSet
import Derived.Lib.Bytealg
import Derived.Lib.Small
import Derived.Laws.CopyRow
namespace Go.Proofs.YtbnkoefljcekbaaGreatDoor
set_option linter.unusedVariables false
set_option linter.unusedSimpArgs false

theorem bestW_none {ok : Nat → Bool} {sp : Nat → Int} : ∀ {n : Nat}, bestW ok sp n = none ↔ ∀ k, k < n → ok k = false
  | 0 => ⟨fun _ k h => absurd h (Nat.not_lt_zero k), fun _ => rfl⟩
  | n + 1 => by
    have ih := bestW_none (ok := ok) (sp := sp) (n := n)
    constructor
    · intro h k hk
      unfold bestW at h
      split at h
      · split at h
        · cases h
        · split at h <;> cases h
      · rename_i hn
        by_cases e : k = n
        · subst e; simpa using hn
        · exact ih.1 h k (by omega)
    · intro h
      unfold bestW
      rw [if_neg (by rw [h n (by omega)]; simp)]
      exact ih.2 fun k hk => h k (by omega)
theorem bestW_some {ok : Nat → Bool} {sp : Nat → Int} : ∀ {n b : Nat}, bestW ok sp n = some b → b < n ∧ ok b = true
  | 0, b, h => by cases h
  | n + 1, b, h => by
    unfold bestW at h
    split at h
    · rename_i hk
      split at h
      · injection h with h; subst h; exact ⟨by omega, hk⟩
      · rename_i b' hb
        have := bestW_some hb
        split at h
        · injection h with h; subst h; exact ⟨by omega, hk⟩
        · injection h with h; subst h; exact ⟨by omega, this.2⟩
    · have := bestW_some h
      exact ⟨by omega, this.2⟩

theorem busy_app (R X : List RR) (k : Nat) : busy R k ≤ busy (R ++ X) k := by
  unfold busy; rw [List.countP_append]; omega
theorem canW_app {F : FP} {t : Int} {R X : List RR} {i : Nat} {but : Option Nat} {k : Nat} (h : canW F t R i but k = false) : canW F t (R ++ X) i but k = false := by
  have hb := busy_app R X k
  cases hc : canW F t (R ++ X) i but k
  · rfl
  · simp only [canW, Bool.and_eq_true, decide_eq_true_eq] at hc
    have : canW F t R i but k = true := by
      simp only [canW, Bool.and_eq_true, decide_eq_true_eq]
      exact ⟨hc.1, hc.2.1, hc.2.2.1, by omega, hc.2.2.2.2⟩
    rw [h] at this; cases this
theorem runsAny_app (R X : List RR) (i : Nat) : runsAny R i = true → runsAny (R ++ X) i = true := by
  unfold runsAny; rw [List.any_append]; intro h; rw [h]; rfl
theorem canS_app {F : FP} {dn : Nat → Bool} {ls : Nat → Int} {R X : List RR} {i : Nat} (h : canS F dn ls (R ++ X) i = true) : canS F dn ls R i = true := by
  simp only [canS, Bool.and_eq_true, Bool.not_eq_true'] at h ⊢
  refine ⟨h.1, h.2.1, ?_, h.2.2.2⟩
  cases hr : runsAny R i
  · rfl
  · have := runsAny_app R X i hr
    rw [h.2.2.1] at this; cases this

/-- behind the step nothing can be begun, nor begun a second time -/
def NoStart (F : FP) (t : Int) (dn : Nat → Bool) (ls : Nat → Int) (R : List RR) (S : Nat → Prop) : Prop := ∀ i, S i → canS F dn ls R i = true → ∀ k, k < F.nW → canW F t R i none k = false
def NoDbl (F : FP) (t : Int) (ls : Nat → Int) (R : List RR) (S : Nat → Prop) : Prop := ∀ i, S i → ∀ r, goingOf R i = [r] → late F r ≤ t → ls i < F.tries → ∀ k, k < F.nW → canW F t R i (some r.worker) k = false
theorem NoStart.app {F : FP} {t : Int} {dn : Nat → Bool} {ls : Nat → Int} {R : List RR} {S : Nat → Prop} (h : NoStart F t dn ls R S) (X : List RR) : NoStart F t dn ls (R ++ X) S :=
  fun i hi hc k hk => canW_app (h i hi (canS_app hc) k hk)
theorem runsAny_self {R : List RR} {i : Nat} {r : RR} (hg : going r = true) (hw : r.work = i) : runsAny (R ++ [r]) i = true := by
  unfold runsAny; rw [List.any_append]; simp [hg, hw]
theorem noStart_fold {F : FP} {q : QS} : ∀ (o : List Nat) (R : List RR) (S : Nat → Prop), NoStart F q.at_ q.done q.lost R S → NoStart F q.at_ q.done q.lost (o.foldl (strtR F q) R) (fun i => S i ∨ i ∈ o)
  | [], R, S, h => fun i hi => h i (by rcases hi with h | h; exact h; cases h)
  | i :: o, R, S, h => by
    have h1 : NoStart F q.at_ q.done q.lost (strtR F q R i) (fun j => S j ∨ j = i) := by
      obtain ⟨X, e, hX⟩ := strtR_ext F q R i
      intro j hj hc k hk
      rcases hj with hj | rfl
      · rw [e] at hc ⊢
        exact canW_app (h j hj (canS_app hc) k hk)
      · unfold strtR at hc ⊢
        split at hc
        · rename_i hcs
          rw [if_pos hcs]
          unfold beginR at hc ⊢
          split at hc
          · rename_i hn
            exact bestW_none.1 hn k hk
          · rename_i b hb
            simp only [canS, Bool.and_eq_true, Bool.not_eq_true'] at hc
            rw [runsAny_self rfl rfl] at hc
            exact absurd hc.2.2.1 (by decide)
        · rename_i hcs
          rw [hc] at hcs; exact absurd rfl hcs
    have h2 := noStart_fold o _ _ h1
    intro j hj
    exact h2 j (by
      rcases hj with hj | hj
      · exact .inl (.inl hj)
      · rcases List.mem_cons.1 hj with rfl | hj
        · exact .inl (.inr rfl)
        · exact .inr hj)
theorem goingOf_app (R X : List RR) (i : Nat) : goingOf (R ++ X) i = goingOf R i ++ goingOf X i := by unfold goingOf; rw [List.filter_append]
theorem goingOf_other {X : List RR} {i j : Nat} (h : ∀ r ∈ X, r.work = i) (hij : j ≠ i) : goingOf X j = [] :=
  List.filter_eq_nil_iff.2 fun r hr => by rw [h r hr]; simp [Ne.symm hij]
theorem noDbl_fold {F : FP} {t : Int} {ls : Nat → Int} : ∀ (o : List Nat) (R : List RR) (S : Nat → Prop), NoDbl F t ls R S → NoDbl F t ls (o.foldl (dblR F t ls) R) (fun i => S i ∨ i ∈ o)
  | [], R, S, h => fun i hi => h i (by rcases hi with h | h; exact h; cases h)
  | i :: o, R, S, h => by
    have h1 : NoDbl F t ls (dblR F t ls R i) (fun j => S j ∨ j = i) := by
      obtain ⟨X, e, hX⟩ := dblR_ext F t ls R i
      intro j hj r hg hl ht k hk
      by_cases hji : j = i
      · subst hji
        unfold dblR at hg ⊢
        split at hg
        · rename_i r0 hg0
          split at hg
          · rename_i hcond
            rw [if_pos hcond]
            unfold beginR at hg ⊢
            split at hg
            · rename_i hn
              rw [hg0] at hg
              injection hg with hg
              subst hg
              exact bestW_none.1 hn k hk
            · rename_i b hb
              rw [goingOf_app, hg0] at hg
              simp [goingOf, going] at hg
          · rename_i hcond
            rw [hg0] at hg
            injection hg with hg
            subst hg
            exact absurd (by simp only [Bool.and_eq_true, decide_eq_true_eq]; exact ⟨hl, ht⟩) hcond
        · rename_i hne
          exact absurd hg (hne r)
      · have hjS : S j := by rcases hj with h | h; exact h; exact absurd h hji
        rw [e] at hg ⊢
        rw [goingOf_app, goingOf_other (fun r hr => (hX r hr).1) hji, List.append_nil] at hg
        exact canW_app (h j hjS r hg hl ht k hk)
    have h2 := noDbl_fold o _ _ h1
    intro j hj
    exact h2 j (by
      rcases hj with hj | hj
      · exact .inl (.inl hj)
      · rcases List.mem_cons.1 hj with rfl | hj
        · exact .inl (.inr rfl)
        · exact .inr hj)
structure Quiet (F : FP) (q : QS) : Prop where
  st : NoStart F q.at_ q.done q.lost q.runs (· ∈ F.order)
  db : F.doubles = true → NoDbl F q.at_ q.lost q.runs (· < F.nX)
theorem quiet_step (F : FP) (q : QS) : Quiet F (stepQ F q) := by
  obtain ⟨q1, hq1⟩ : ∃ x, loseQ F (finQ F q) = x := ⟨_, rfl⟩
  have e : stepQ F q = dblQ F (startQ F q1) := by rw [← hq1]; rfl
  rw [e]
  have hs : NoStart F q1.at_ q1.done q1.lost (startQ F q1).runs (· ∈ F.order) := by
    have := noStart_fold (F := F) (q := q1) F.order q1.runs (fun _ => False) (fun i h => h.elim)
    exact fun i hi => this i (.inr hi)
  unfold dblQ
  by_cases hd : F.doubles = true
  · rw [if_pos hd]
    obtain ⟨X, eX, _⟩ := fold_ext (dblR_ext F q1.at_ q1.lost) (List.range F.nX) (startQ F q1).runs
    refine ⟨?_, fun _ => ?_⟩
    · have := hs.app X
      rw [← eX] at this
      exact this
    · have := noDbl_fold (F := F) (t := q1.at_) (ls := q1.lost) (List.range F.nX) (startQ F q1).runs (fun _ => False) (fun i h => h.elim)
      exact fun i hi => this i (.inr (List.mem_range.2 hi))
  · rw [if_neg hd]
    exact ⟨hs, fun h => absurd h hd⟩

theorem above_some {t : Int} : ∀ {l : List Int} {m : Int}, above t l = some m → m ∈ l ∧ t < m ∧ ∀ x ∈ l, t < x → m ≤ x
  | [], m, h => by cases h
  | x :: l, m, h => by
    unfold above at h
    split at h
    · rename_i hn
      have hno : ∀ y ∈ l, ¬ t < y := by
        intro y hy hty
        have aux : ∀ (l : List Int), y ∈ l → above t l ≠ none := by
          intro l
          induction l with
          | nil => intro h; cases h
          | cons z l ih =>
            intro h hn
            unfold above at hn
            split at hn
            · rename_i h2
              rcases List.mem_cons.1 h with rfl | h
              · rw [if_pos hty] at hn; cases hn
              · exact ih h h2
            · split at hn <;> cases hn
        exact aux l hy hn
      split at h
      · rename_i hx
        injection h with h; subst h
        exact ⟨List.mem_cons_self, hx, fun y hy hty => by
          rcases List.mem_cons.1 hy with rfl | hy
          · omega
          · exact absurd hty (hno y hy)⟩
      · cases h
    · rename_i m' hm'
      obtain ⟨a, b, c⟩ := above_some hm'
      split at h
      · rename_i hx
        injection h with h; subst h
        exact ⟨List.mem_cons_self, hx.1, fun y hy hty => by
          rcases List.mem_cons.1 hy with rfl | hy
          · omega
          · have := c y hy hty; omega⟩
      · rename_i hx
        injection h with h; subst h
        exact ⟨List.mem_cons_of_mem _ a, b, fun y hy hty => by
          rcases List.mem_cons.1 hy with rfl | hy
          · omega
          · exact c y hy hty⟩
theorem above_none {t : Int} {l : List Int} (h : above t l = none) {x : Int} (hx : x ∈ l) : x ≤ t := by
  induction l with
  | nil => cases hx
  | cons z l ih =>
    unfold above at h
    split at h
    · rename_i h2
      split at h
      · cases h
      · rcases List.mem_cons.1 hx with rfl | hx
        · omega
        · exact ih h2 hx
    · split at h <;> cases h
theorem above_ex {t : Int} {l : List Int} {x : Int} (hx : x ∈ l) (ht : t < x) : ∃ m, above t l = some m ∧ m ≤ x := by
  cases h : above t l with
  | none => have := above_none h hx; omega
  | some m => exact ⟨m, rfl, (above_some h).2.2 x hx ht⟩

/-- a farm's numbers fit each other -/
structure FOk (F : FP) : Prop where
  nodup : F.order.Nodup
  lt : ∀ i ∈ F.order, i < F.nX
  loss : ∀ k t, k < F.nW → F.loss k t = true → t ∈ F.lossAt
def Named (F : FP) (R : List RR) : Prop := ∀ r ∈ R, r.worker < F.nW ∧ r.work < F.nX

theorem mem_candsP {F : FP} {R : List RR} {x : Int} : x ∈ candsP F R ↔ (∃ k, k < F.nW ∧ x = F.wfrom k) ∨ (∃ r ∈ R, x = (F.endAt r.worker r.work r.from_).getD (-1) ∨ x = F.wto r.worker ∨ (F.doubles = true ∧ x = late F r)) ∨ x ∈ F.lossAt := by
  unfold candsP
  rw [List.mem_append, List.mem_append, List.mem_map, List.mem_flatMap]
  constructor
  · rintro ((⟨k, hk, rfl⟩ | ⟨r, hr, hx⟩) | h)
    · exact .inl ⟨k, List.mem_range.1 hk, rfl⟩
    · refine .inr (.inl ⟨r, hr, ?_⟩)
      rcases List.mem_append.1 hx with hx | hx
      · rcases List.mem_cons.1 hx with rfl | hx
        · exact .inl rfl
        · exact .inr (.inl (List.mem_singleton.1 hx))
      · split at hx
        · rename_i hd; exact .inr (.inr ⟨hd, List.mem_singleton.1 hx⟩)
        · cases hx
    · exact .inr (.inr h)
  · rintro (⟨k, hk, rfl⟩ | ⟨r, hr, hx⟩ | h)
    · exact .inl (.inl ⟨k, List.mem_range.2 hk, rfl⟩)
    · refine .inl (.inr ⟨r, hr, ?_⟩)
      rcases hx with rfl | rfl | ⟨hd, rfl⟩
      · exact List.mem_append_left _ List.mem_cons_self
      · exact List.mem_append_left _ (List.mem_cons_of_mem _ List.mem_cons_self)
      · exact List.mem_append_right _ (by rw [if_pos hd]; exact List.mem_cons_self)
    · exact .inr h
theorem mem_candsQ {F : FP} {R : List RR} {x : Int} : x ∈ candsQ F R ↔ (∃ k, k < F.nW ∧ (x = F.wfrom k ∨ x = F.wto k)) ∨ x ∈ F.lossAt ∨ ∃ r ∈ R, going r = true ∧ (F.endAt r.worker r.work r.from_ = some x ∨ x = late F r) := by
  unfold candsQ
  rw [List.mem_append, List.mem_append, List.mem_flatMap, List.mem_flatMap]
  constructor
  · rintro ((⟨k, hk, hx⟩ | h) | ⟨r, hr, hx⟩)
    · refine .inl ⟨k, List.mem_range.1 hk, ?_⟩
      rcases List.mem_cons.1 hx with rfl | hx
      · exact .inl rfl
      · exact .inr (List.mem_singleton.1 hx)
    · exact .inr (.inl h)
    · obtain ⟨h1, h2⟩ := List.mem_filter.1 hr
      refine .inr (.inr ⟨r, h1, h2, ?_⟩)
      rcases List.mem_append.1 hx with hx | hx
      · left
        cases he : F.endAt r.worker r.work r.from_ with
        | none => rw [he] at hx; cases hx
        | some y => rw [he] at hx; rw [List.mem_singleton.1 hx]
      · exact .inr (List.mem_singleton.1 hx)
  · rintro (⟨k, hk, hx⟩ | h | ⟨r, hr, hg, hx⟩)
    · refine .inl (.inl ⟨k, List.mem_range.2 hk, ?_⟩)
      rcases hx with rfl | rfl
      · exact List.mem_cons_self
      · exact List.mem_cons_of_mem _ List.mem_cons_self
    · exact .inl (.inr h)
    · refine .inr ⟨r, List.mem_filter.2 ⟨hr, hg⟩, ?_⟩
      rcases hx with hx | rfl
      · exact List.mem_append_left _ (by rw [hx]; exact List.mem_cons_self)
      · exact List.mem_append_right _ List.mem_cons_self
/-- what the program looks at the reference looks at, too -/
theorem cands_sub {F : FP} {P Q : List RR} (h : SameG P Q) (hN : Named F Q) {x : Int} (hx : x ∈ candsP F P) (h0 : 0 ≤ x) : x ∈ candsQ F Q := by
  rw [mem_candsQ]
  rcases mem_candsP.1 hx with ⟨k, hk, rfl⟩ | ⟨r, hr, hx⟩ | hx
  · exact .inl ⟨k, hk, .inl rfl⟩
  · obtain ⟨h1, h2⟩ := List.mem_filter.1 (h.mem_iff.1 hr)
    rcases hx with rfl | rfl | ⟨_, rfl⟩
    · refine .inr (.inr ⟨r, h1, h2, .inl ?_⟩)
      cases he : F.endAt r.worker r.work r.from_ with
      | none => rw [he] at h0; simp at h0
      | some y => rfl
    · exact .inl ⟨_, (hN r h1).1, .inr rfl⟩
    · exact .inr (.inr ⟨r, h1, h2, .inr rfl⟩)
  · exact .inr (.inl hx)

/-- at a moment that the program passes over nothing happens -/
theorem still {F : FP} (hF : FOk F) {q : QS} (hQ : Quiet F q) {P : List RR} (hG : SameG P q.runs) (hN : Named F q.runs) {m : Int} (hm : q.at_ < m) (hc : ∀ c ∈ candsP F P, q.at_ < c → m < c) : stepQ F { q with at_ := m } = { q with at_ := m } := by
  have hmem : ∀ r ∈ q.runs, going r = true → r ∈ P := fun r hr hg => hG.mem_iff.2 (List.mem_filter.2 ⟨hr, hg⟩)
  have hD : ∀ k, hasDone F m q.runs k = false := by
    intro k
    unfold hasDone
    rw [List.any_eq_false]
    intro r hr h
    simp only [Bool.and_eq_true, cand, beq_iff_eq] at h
    have hx : m ∈ candsP F P := mem_candsP.2 (.inr (.inl ⟨r, hmem r hr h.2.1, .inl (by rw [h.2.2]; rfl)⟩))
    have := hc m hx hm
    omega
  have hL : ∀ r ∈ q.runs, going r = true → goes F r.worker m = false := by
    intro r hr hg
    unfold goes
    rw [Bool.or_eq_false_iff]
    constructor
    · cases he : F.wto r.worker == m
      · rfl
      · have hx : m ∈ candsP F P := mem_candsP.2 (.inr (.inl ⟨r, hmem r hr hg, .inr (.inl (eq_of_beq he).symm)⟩))
        have := hc m hx hm
        omega
    · cases he : F.loss r.worker m
      · rfl
      · have hx : m ∈ candsP F P := mem_candsP.2 (.inr (.inr (hF.loss _ _ (hN r hr).1 he)))
        have := hc m hx hm
        omega
  have e1 : finQ F { q with at_ := m } = { q with at_ := m } := by
    unfold finQ
    have a : q.runs.map (finRun F m q.runs) = q.runs := by
      exact (List.map_congr_left (f := finRun F m q.runs) (g := id) (fun r hr => finRun_no (by rw [hD]; simp))).trans (List.map_id _)
    simp only [a, hD, Bool.or_false]
  have e2 : loseQ F { q with at_ := m } = { q with at_ := m } := by
    unfold loseQ
    have a : q.runs.map (loseRun F m) = q.runs := by
      refine (List.map_congr_left (f := loseRun F m) (g := id) (fun r hr => loseRun_no ?_)).trans (List.map_id _)
      cases hg : going r
      · rfl
      · rw [hL r hr hg]; rfl
    have b : ∀ k, lostNow F m q.runs k = 0 := by
      intro k
      unfold lostNow
      rw [List.countP_eq_zero]
      intro r hr h
      simp only [Bool.and_eq_true] at h
      rw [hL r hr h.2.1] at h
      exact absurd h.2.2 (by decide)
    simp only [a, b, Int.natCast_zero, Int.add_zero]
  have hcW : ∀ i but k, k < F.nW → canW F q.at_ q.runs i but k = false → canW F m q.runs i but k = false := by
    intro i but k hk h
    cases hcm : canW F m q.runs i but k
    · rfl
    · simp only [canW, Bool.and_eq_true, decide_eq_true_eq] at hcm
      have : canW F q.at_ q.runs i but k = true := by
        simp only [canW, Bool.and_eq_true, decide_eq_true_eq]
        refine ⟨hcm.1, ?_, by have := hcm.2.2.1; omega, hcm.2.2.2⟩
        rcases Int.lt_or_le q.at_ (F.wfrom k) with hlt | hle
        · have hx : F.wfrom k ∈ candsP F P := mem_candsP.2 (.inl ⟨k, hk, rfl⟩)
          have := hc _ hx hlt
          have := hcm.2.1
          omega
        · exact hle
      rw [h] at this; cases this
  have e3 : startQ F { q with at_ := m } = { q with at_ := m } := by
    have key : ∀ o : List Nat, (∀ i ∈ o, i ∈ F.order) → o.foldl (strtR F { q with at_ := m }) q.runs = q.runs := by
      intro o
      induction o with
      | nil => intro _; rfl
      | cons i o ih =>
        intro ho
        rw [List.foldl_cons]
        have : strtR F { q with at_ := m } q.runs i = q.runs := by
          unfold strtR
          by_cases hcs : canS F q.done q.lost q.runs i = true
          · rw [if_pos hcs]
            have hno : bestW (canW F m q.runs i none) F.speed F.nW = none := bestW_none.2 fun k hk => hcW i none k hk (hQ.st i (ho i List.mem_cons_self) hcs k hk)
            unfold beginR
            simp only [hno]
          · rw [if_neg hcs]
        rw [this]
        exact ih fun j hj => ho j (List.mem_cons_of_mem _ hj)
    unfold startQ
    have := key F.order (fun _ h => h)
    simp only [this]
  have e4 : dblQ F { q with at_ := m } = { q with at_ := m } := by
    unfold dblQ
    by_cases hd : F.doubles = true
    · rw [if_pos hd]
      have key : ∀ o : List Nat, (∀ i ∈ o, i < F.nX) → o.foldl (dblR F m q.lost) q.runs = q.runs := by
        intro o
        induction o with
        | nil => intro _; rfl
        | cons i o ih =>
          intro ho
          rw [List.foldl_cons]
          have : dblR F m q.lost q.runs i = q.runs := by
            unfold dblR
            split
            · rename_i r hg
              split
              · rename_i hcond
                simp only [Bool.and_eq_true, decide_eq_true_eq] at hcond
                have hr : r ∈ q.runs ∧ going r = true := by
                  have : r ∈ goingOf q.runs i := by rw [hg]; exact List.mem_cons_self
                  obtain ⟨h1, h2⟩ := List.mem_filter.1 this
                  simp only [Bool.and_eq_true] at h2
                  exact ⟨h1, h2.1⟩
                have hla : late F r ≤ q.at_ := by
                  rcases Int.lt_or_le q.at_ (late F r) with hlt | hle
                  · have hx : late F r ∈ candsP F P := mem_candsP.2 (.inr (.inl ⟨r, hmem r hr.1 hr.2, .inr (.inr ⟨hd, rfl⟩)⟩))
                    have := hc _ hx hlt
                    omega
                  · exact hle
                have hno : bestW (canW F m q.runs i (some r.worker)) F.speed F.nW = none := bestW_none.2 fun k hk => hcW i _ k hk (hQ.db hd i (ho i List.mem_cons_self) r hg hla hcond.2 k hk)
                unfold beginR
                simp only [hno]
              · rfl
            · rfl
          rw [this]
          exact ih fun j hj => ho j (List.mem_cons_of_mem _ hj)
      have := key (List.range F.nX) (fun _ h => List.mem_range.1 h)
      simp only [this]
    · rw [if_neg hd]
  unfold stepQ
  rw [e1, e2, e3, e4]

theorem named_app {F : FP} {R X : List RR} (h : Named F R) (hX : Named F X) : Named F (R ++ X) := fun r hr => by
  rcases List.mem_append.1 hr with hr | hr
  · exact h r hr
  · exact hX r hr
theorem named_begin {F : FP} {t : Int} {i : Nat} {but : Option Nat} {R : List RR} (h : Named F R) (hi : i < F.nX) : Named F (beginR F t i but R) := by
  unfold beginR
  split
  · exact h
  · rename_i k hk
    exact named_app h fun r hr => by rw [List.mem_singleton.1 hr]; exact ⟨(bestW_some hk).1, hi⟩
theorem named_fold {F : FP} {f : List RR → Nat → List RR} (hf : ∀ R i, i < F.nX → Named F R → Named F (f R i)) : ∀ (o : List Nat), (∀ i ∈ o, i < F.nX) → ∀ R, Named F R → Named F (o.foldl f R)
  | [], _, R, h => h
  | i :: o, ho, R, h => named_fold hf o (fun j hj => ho j (List.mem_cons_of_mem _ hj)) _ (hf R i (ho i List.mem_cons_self) h)
theorem named_step {F : FP} (hF : FOk F) {q : QS} (h : Named F q.runs) : Named F (stepQ F q).runs := by
  have h1 : Named F (finQ F q).runs := fun r hr => by
    obtain ⟨r0, h0, rfl⟩ := List.mem_map.1 hr
    rw [(finRun_work r0).1, (finRun_work r0).2.1]; exact h r0 h0
  have h2 : Named F (loseQ F (finQ F q)).runs := fun r hr => by
    obtain ⟨r0, h0, rfl⟩ := List.mem_map.1 hr
    rw [(loseRun_work r0).1, (loseRun_work r0).2.1]; exact h1 r0 h0
  have h3 : Named F (startQ F (loseQ F (finQ F q))).runs := named_fold (fun R i hi hR => by
    unfold strtR; split
    · exact named_begin hR hi
    · exact hR) F.order hF.lt _ h2
  unfold stepQ dblQ
  split
  · refine named_fold (fun R i hi hR => ?_) (List.range F.nX) (fun i hi => List.mem_range.1 hi) _ h3
    unfold dblR; split
    · split
      · exact named_begin hR hi
      · exact hR
    · exact hR
  · exact h3
theorem stepQ_at (F : FP) (q : QS) : (stepQ F q).at_ = q.at_ := by
  unfold stepQ dblQ
  split <;> rfl
theorem PStep.now {F : FP} {p p' : PS} (h : PStep F p p') : p'.now = p.now := by
  obtain ⟨rs, _, rfl⟩ := h
  unfold dblP
  split <;> rfl

/-- nothing more comes, for the program -/
theorem tail_none {F : FP} (hF : FOk F) {q1 : QS} (hQ : Quiet F q1) {P : List RR} (hG : SameG P q1.runs) (hN : Named F q1.runs) (hc : ∀ c ∈ candsP F P, c ≤ q1.at_) {q q' : QS} (h : QTrace F q q') :
    ∀ m, q1.at_ < m → q = { q1 with at_ := m } → q'.runs = q1.runs ∧ q'.done = q1.done ∧ q'.lost = q1.lost := by
  induction h with
  | last q hn =>
    intro m hm e
    subst e
    rw [still hF hQ hG hN hm (fun c h1 h2 => by have := hc c h1; omega)]
    exact ⟨rfl, rfl, rfl⟩
  | more q n q' hn _ ih =>
    intro m hm e
    subst e
    have hs := still hF hQ hG hN hm (fun c h1 h2 => by have := hc c h1; omega)
    rw [hs] at hn ih
    have := (above_some hn).2.1
    exact ih n (by show q1.at_ < n; have : m < n := this; omega) rfl
/-- the reference comes to where the program goes on -/
theorem walk_up {F : FP} (hF : FOk F) {q1 : QS} (hQ : Quiet F q1) {P : List RR} (hG : SameG P q1.runs) (hN : Named F q1.runs) (h0 : 0 ≤ q1.at_) {n : Int} (hn : above q1.at_ (candsP F P) = some n) {q q' : QS} (h : QTrace F q q') :
    ∀ m, q1.at_ < m → m ≤ n → q = { q1 with at_ := m } → QTrace F { q1 with at_ := n } q' := by
  obtain ⟨n1, n2, n3⟩ := above_some hn
  have hnQ := cands_sub hG hN n1 (by omega)
  induction h with
  | last q hl =>
    intro m hm hmn e
    by_cases hmn' : m = n
    · subst hmn' e; exact QTrace.last _ hl
    · subst e
      have hs := still hF hQ hG hN hm (fun c h1 h2 => by have := n3 c h1 h2; omega)
      rw [hs] at hl
      have : n ≤ m := above_none hl hnQ
      omega
  | more q k q' hk hrest ih =>
    intro m hm hmn e
    by_cases hmn' : m = n
    · subst hmn' e; exact QTrace.more _ k _ hk hrest
    · subst e
      have hs := still hF hQ hG hN hm (fun c h1 h2 => by have := n3 c h1 h2; omega)
      rw [hs] at hk ih
      obtain ⟨k1, k2, k3⟩ := above_some hk
      have : k ≤ n := k3 n hnQ (by show m < n; omega)
      exact ih k (by have : m < k := k2; omega) this rfl
theorem Sim.at {p : PS} {q : QS} (h : Sim p q) (n m : Int) : Sim { p with now := n } { q with at_ := m } := ⟨h.runs, h.out, h.done, h.lost, h.begun⟩
/-- both come to the same end -/
theorem traces {F : FP} (hF : FOk F) {p p' : PS} (hp : PTrace F p p') : ∀ {q q' : QS}, QTrace F q q' → Sim p q → p.now = q.at_ → 0 ≤ q.at_ → Named F q.runs → Sim p' q' := by
  induction hp with
  | last p p' hs hn =>
    intro q q' hq h ht h0 hN
    have h1 := h.step ht hF.nodup hs
    have ht1 : p'.now = (stepQ F q).at_ := by rw [hs.now, stepQ_at]; exact ht
    have hN1 := named_step hF hN
    cases hq with
    | last _ _ => exact h1
    | more _ n _ hn2 hrest =>
      have hc : ∀ c ∈ candsP F p'.runs, c ≤ (stepQ F q).at_ := fun c hc => by have := above_none hn hc; omega
      obtain ⟨a, b, c⟩ := tail_none hF (quiet_step F q) h1.runs hN1 hc hrest n (above_some hn2).2.1 rfl
      exact ⟨by rw [a]; exact h1.runs, by rw [a]; exact h1.out, by rw [b]; exact h1.done, by rw [c]; exact h1.lost, by rw [a]; exact h1.begun⟩
  | more p p1 n p' hs hn _ ih =>
    intro q q' hq h ht h0 hN
    have h1 := h.step ht hF.nodup hs
    have ht1 : p1.now = (stepQ F q).at_ := by rw [hs.now, stepQ_at]; exact ht
    have hN1 := named_step hF hN
    have h01 : 0 ≤ (stepQ F q).at_ := by rw [stepQ_at]; exact h0
    have hn' : above (stepQ F q).at_ (candsP F p1.runs) = some n := by rw [← ht1]; exact hn
    obtain ⟨n1, n2, n3⟩ := above_some hn'
    have hnQ := cands_sub h1.runs hN1 n1 (by omega)
    cases hq with
    | last _ hl => have : n ≤ _ := above_none hl hnQ; omega
    | more _ m _ hm hrest =>
      obtain ⟨m1, m2, m3⟩ := above_some hm
      have hmn := m3 n hnQ n2
      have hup := walk_up hF (quiet_step F q) h1.runs hN1 h01 hn' hrest m m2 hmn rfl
      exact ih hup (h1.at n n) rfl (by show 0 ≤ n; omega) hN1
end Go.Proofs.YtbnkoefljcekbaaGreatDoor

namespace Go.Proofs.YtbnkoefljcekbaaGreatDoor
set_option linter.unusedVariables false
set_option linter.unusedSimpArgs false

structure FFine (F : FP) : Prop extends FOk F where
  secs : ∀ k i, k < F.nW → i < F.nX → 1 ≤ F.secs k i
  wf0 : ∀ k, k < F.nW → 0 ≤ F.wfrom k
  slot : ∀ k, k < F.nW → 0 ≤ F.slots k
  tri : 1 ≤ F.tries

def isEnd (e : Int) (k : Nat) (r : RR) : Bool := r.work == k && r.end_ == e
def onWork (k : Nat) (r : RR) : Bool := r.work == k
/-- how many runs a worker had at a moment -/
def cntAt (R : List RR) (t : Int) (k : Nat) : Nat := R.countP fun r => r.worker == k && (decide (r.from_ ≤ t) && (going r || decide (t < r.to_)))

def DoneBy (R : List RR) (t : Int) (s : Nat) : Prop := ∃ d ∈ R, d.work = s ∧ d.end_ = 1 ∧ d.to_ ≤ t
def LostBy (R : List RR) (t : Int) (i : Nat) : Nat := R.countP fun r => isEnd 2 i r && decide (r.to_ ≤ t)
def RunsAt (R : List RR) (t : Int) (i : Nat) : Prop := ∃ r ∈ R, r.work = i ∧ r.from_ ≤ t ∧ (going r = true ∨ t < r.to_)
/-- a work waits at a moment, by the runs -/
def WaitsAt (F : FP) (R : List RR) (t : Int) (i : Nat) : Prop := (∀ s ∈ F.after i, DoneBy R t s) ∧ ¬ DoneBy R t i ∧ ¬ RunsAt R t i ∧ (LostBy R t i : Int) < F.tries
def FreeAt (F : FP) (R : List RR) (t : Int) (k : Nat) : Prop := F.wfrom k ≤ t ∧ t < F.wto k ∧ (cntAt R t k : Int) < F.slots k
def NoneWaits (F : FP) (R : List RR) (t : Int) : Prop := ∀ i, i < F.nX → WaitsAt F R t i → ∀ k, k < F.nW → FreeAt F R t k → F.fit k i = false
/-- a moment at which something happened -/
def Seen (F : FP) (R : List RR) (t : Int) : Prop := t = 0 ∨ (∃ k, k < F.nW ∧ t = F.wfrom k) ∨ ∃ r ∈ R, going r = false ∧ t = r.to_

/-- lo: what goes on was begun by then (after a step: at the moment at most; ahead of it: before); hi: the worker is there -/
structure Inv (F : FP) (lo : Int) (hi : Int) (q : QS) : Prop where
  named : Named F q.runs
  t0 : 0 ≤ q.at_
  fr : ∀ r ∈ q.runs, F.wfrom r.worker ≤ r.from_ ∧ 0 ≤ r.from_ ∧ r.from_ < F.wto r.worker ∧ F.fit r.worker r.work = true
  go : ∀ r ∈ q.runs, going r = true → r.from_ ≤ lo ∧ hi ≤ F.wto r.worker ∧ r.to_ = 0
  en : ∀ r ∈ q.runs, going r = false → r.from_ < r.to_ ∧ r.to_ ≤ q.at_ ∧ r.to_ ≤ F.wto r.worker ∧ 1 ≤ r.end_ ∧ r.end_ ≤ 3
  e1 : ∀ r ∈ q.runs, r.end_ = 1 → F.endAt r.worker r.work r.from_ = some r.to_
  two : ∀ i, (goingOf q.runs i).length ≤ 2 ∧ ((goingOf q.runs i).Pairwise fun a b => a.worker ≠ b.worker)
  don : ∀ k, q.done k = true ↔ ∃ r ∈ q.runs, r.work = k ∧ r.end_ = 1
  don1 : ∀ k, q.runs.countP (isEnd 1 k) ≤ 1
  dong : ∀ k, q.done k = true → goingOf q.runs k = []
  doni : ∀ k, q.done k = true → ∀ r ∈ q.runs, r.work = k → ∀ d ∈ q.runs, d.work = k → d.end_ = 1 → r.to_ ≤ d.to_
  los : ∀ k, q.lost k = (q.runs.countP (isEnd 2 k) : Nat)
  cnt : ∀ k, (q.runs.countP (onWork k) : Int) ≤ F.tries + 1
  cnt0 : ∀ k, q.done k = false → ∀ r ∈ q.runs, r.work = k → going r = true ∨ r.end_ = 2
  ord : ∀ r ∈ q.runs, ∀ s ∈ F.after r.work, DoneBy q.runs r.from_ s
  dis : q.runs.Pairwise fun a b => ¬ (a.from_ = b.from_ ∧ a.work = b.work ∧ a.worker = b.worker)
  hist : ∀ t, t ≤ lo → ∀ k, k < F.nW → (cntAt q.runs t k : Int) ≤ F.slots k
  bus : ∀ k, k < F.nW → (busy q.runs k : Int) ≤ F.slots k

/-! ### ends: a map over all runs -/
theorem countP_le_of {α : Type} {p p' : α → Bool} : ∀ {l : List α}, (∀ x ∈ l, p x = true → p' x = true) → l.countP p ≤ l.countP p'
  | [], _ => Nat.le_refl _
  | x :: l, h => by
    have ih := countP_le_of (l := l) fun y hy => h y (List.mem_cons_of_mem _ hy)
    rw [List.countP_cons, List.countP_cons]
    have := h x List.mem_cons_self
    by_cases e : p x = true
    · rw [if_pos e, if_pos (this e)]; omega
    · rw [if_neg e]; split <;> omega
theorem countP_eq_of {α : Type} {p p' : α → Bool} {l : List α} (h : ∀ x ∈ l, p x = p' x) : l.countP p = l.countP p' :=
  Nat.le_antisymm (countP_le_of fun x hx e => by rw [← h x hx]; exact e) (countP_le_of fun x hx e => by rw [h x hx]; exact e)
theorem countP_or {α : Type} {p p1 p2 : α → Bool} : ∀ {l : List α}, (∀ x ∈ l, p x = (p1 x || p2 x)) → (∀ x ∈ l, ¬ (p1 x = true ∧ p2 x = true)) → l.countP p = l.countP p1 + l.countP p2
  | [], _, _ => rfl
  | x :: l, h, hd => by
    have ih := countP_or (l := l) (fun y hy => h y (List.mem_cons_of_mem _ hy)) fun y hy => hd y (List.mem_cons_of_mem _ hy)
    rw [List.countP_cons, List.countP_cons, List.countP_cons, ih, h x List.mem_cons_self]
    have := hd x List.mem_cons_self
    cases h1 : p1 x <;> cases h2 : p2 x
    · simp
    · simp; omega
    · simp; omega
    · exact absurd ⟨h1, h2⟩ this
theorem countP_goingOf (R : List RR) (k : Nat) (p : RR → Bool) : (goingOf R k).countP p = R.countP fun r => p r && (going r && r.work == k) := by
  unfold goingOf; rw [List.countP_filter]
theorem goingOf_map {g : RR → RR} {c : RR → Bool} (hn : ∀ r, (going r && c r) = false → g r = r) (hy : ∀ r, going r = true → c r = true → going (g r) = false) (hw : ∀ r, (g r).work = r.work) (k : Nat) :
    ∀ R : List RR, goingOf (R.map g) k = (goingOf R k).filter fun r => !c r
  | [] => rfl
  | r :: R => by
    have ih := goingOf_map hn hy hw k R
    unfold goingOf at ih ⊢
    rw [List.map_cons]
    cases hg : going r
    · rw [hn r (by simp [hg]), List.filter_cons_of_neg (by simp [hg]), List.filter_cons_of_neg (by simp [hg]), ih]
    · cases hk : r.work == k
      · rw [List.filter_cons_of_neg (by rw [hw, hk]; simp), List.filter_cons_of_neg (by rw [hk]; simp), ih]
      · cases hc : c r
        · rw [hn r (by simp [hc]), List.filter_cons_of_pos (by rw [hg, hk]; rfl), List.filter_cons_of_pos (by rw [hg, hk]; rfl), List.filter_cons_of_pos (by simp [hc]), ih]
        · rw [List.filter_cons_of_neg (by rw [hy r hg hc]; simp), List.filter_cons_of_pos (by rw [hg, hk]; rfl), List.filter_cons_of_neg (by simp [hc]), ih]
theorem hasDone_ex {F : FP} {t : Int} {R : List RR} {k : Nat} (h : hasDone F t R k = true) : ∃ r ∈ R, r.work = k ∧ isBest F t R r = true := by
  unfold hasDone at h
  rw [List.any_eq_true] at h
  obtain ⟨r0, h0, hc0⟩ := h
  have aux : ∀ (n : Nat) (r : RR), r ∈ R → r.work = k → cand F t r = true → r.worker ≤ n → ∃ b ∈ R, b.work = k ∧ isBest F t R b = true := by
    intro n
    induction n with
    | zero =>
      intro r hr hw hc hn
      refine ⟨r, hr, hw, ?_⟩
      unfold isBest
      rw [hc, Bool.true_and, List.all_eq_true]
      intro x hx
      have : decide (r.worker ≤ x.worker) = true := by simp; omega
      rw [this, Bool.or_true]
    | succ n ih =>
      intro r hr hw hc hn
      by_cases hb : isBest F t R r = true
      · exact ⟨r, hr, hw, hb⟩
      · unfold isBest at hb
        rw [hc, Bool.true_and, List.all_eq_true] at hb
        have : ∃ x ∈ R, (x.work == r.work && cand F t x) = true ∧ ¬ r.worker ≤ x.worker := by
          apply Classical.byContradiction
          intro hno
          apply hb
          intro x hx
          cases hcx : (x.work == r.work && cand F t x)
          · rfl
          · have : r.worker ≤ x.worker := Classical.byContradiction fun h => hno ⟨x, hx, hcx, h⟩
            simp [this]
        obtain ⟨x, hx, hcx, hlt⟩ := this
        simp only [Bool.and_eq_true, beq_iff_eq] at hcx
        exact ih x hx (by rw [hcx.1, hw]) hcx.2 (by omega)
  simp only [Bool.and_eq_true, beq_iff_eq] at hc0
  exact aux r0.worker r0 h0 hc0.1 hc0.2 (Nat.le_refl _)
theorem isBest_cand {F : FP} {t : Int} {R : List RR} {r : RR} (h : isBest F t R r = true) : cand F t r = true := by
  unfold isBest at h; simp only [Bool.and_eq_true] at h; exact h.1
theorem cand_going {F : FP} {t : Int} {r : RR} (h : cand F t r = true) : going r = true ∧ F.endAt r.worker r.work r.from_ = some t := by
  unfold cand at h; simp only [Bool.and_eq_true, beq_iff_eq] at h; exact h
theorem best_unique {F : FP} {t : Int} {R : List RR} {k : Nat} (h2 : (goingOf R k).Pairwise fun a b => a.worker ≠ b.worker) : (goingOf R k).countP (isBest F t R) ≤ 1 := by
  have hb : ∀ a ∈ goingOf R k, ∀ b ∈ goingOf R k, isBest F t R a = true → isBest F t R b = true → a.worker ≤ b.worker := by
    intro a ha b hb hA hB
    unfold isBest at hA
    simp only [Bool.and_eq_true, List.all_eq_true] at hA
    obtain ⟨b1, b2⟩ := List.mem_filter.1 hb
    obtain ⟨a1, a2⟩ := List.mem_filter.1 ha
    simp only [Bool.and_eq_true, beq_iff_eq] at a2 b2
    have := hA.2 b b1
    rw [b2.2, a2.2, isBest_cand hB] at this
    simpa using this
  have aux : ∀ l : List RR, (l.Pairwise fun a b => a.worker ≠ b.worker) → (∀ a ∈ l, ∀ b ∈ l, isBest F t R a = true → isBest F t R b = true → a.worker ≤ b.worker) → l.countP (isBest F t R) ≤ 1 := by
    intro l
    induction l with
    | nil => intro _ _; exact Nat.zero_le _
    | cons x l ih =>
      intro hp hq
      obtain ⟨p1, p2⟩ := List.pairwise_cons.1 hp
      rw [List.countP_cons]
      by_cases hx : isBest F t R x = true
      · rw [if_pos hx]
        have : l.countP (isBest F t R) = 0 := by
          rw [List.countP_eq_zero]
          intro y hy hyb
          have a := hq x List.mem_cons_self y (List.mem_cons_of_mem _ hy) hx hyb
          have b := hq y (List.mem_cons_of_mem _ hy) x List.mem_cons_self hyb hx
          exact p1 y hy (by omega)
        omega
      · rw [if_neg hx]
        exact ih p2 fun a ha b hb' => hq a (List.mem_cons_of_mem _ ha) b (List.mem_cons_of_mem _ hb')
  exact aux _ h2 hb
theorem finRun_cases {F : FP} {t : Int} {R : List RR} (r : RR) : finRun F t R r = r ∨ (going r = true ∧ hasDone F t R r.work = true ∧ finRun F t R r = { r with to_ := t, end_ := if isBest F t R r = true then 1 else 3 }) := by
  by_cases h : (going r && hasDone F t R r.work) = true
  · simp only [Bool.and_eq_true] at h
    exact .inr ⟨h.1, h.2, finRun_yes (by rw [h.1, h.2]; rfl)⟩
  · exact .inl (finRun_no (by simpa using h))
theorem loseRun_cases {F : FP} {t : Int} (r : RR) : loseRun F t r = r ∨ (going r = true ∧ goes F r.worker t = true ∧ loseRun F t r = { r with to_ := t, end_ := 2 }) := by
  by_cases h : (going r && goes F r.worker t) = true
  · simp only [Bool.and_eq_true] at h
    exact .inr ⟨h.1, h.2, loseRun_yes (by rw [h.1, h.2]; rfl)⟩
  · exact .inl (loseRun_no (by simpa using h))
theorem end1_not_going {r : RR} (h : r.end_ = 1) : going r = false := by unfold going; rw [h]; rfl
theorem end2_not_going {r : RR} (h : r.end_ = 2) : going r = false := by unfold going; rw [h]; rfl
theorem going_end {r : RR} (h : going r = true) : r.end_ = 0 := by unfold going at h; simpa using h
theorem pairwise_map_key {g : RR → RR} (hg : ∀ r, (g r).work = r.work ∧ (g r).worker = r.worker ∧ (g r).from_ = r.from_) {R : List RR} (h : R.Pairwise fun a b => ¬ (a.from_ = b.from_ ∧ a.work = b.work ∧ a.worker = b.worker)) :
    (R.map g).Pairwise fun a b => ¬ (a.from_ = b.from_ ∧ a.work = b.work ∧ a.worker = b.worker) := by
  rw [List.pairwise_map]
  refine h.imp fun {a b} hab => ?_
  rw [(hg a).1, (hg a).2.1, (hg a).2.2, (hg b).1, (hg b).2.1, (hg b).2.2]
  exact hab

/-- what a moment before saw is not changed by what ends now -/
structure Turn (t : Int) (g : RR → RR) : Prop where
  key : ∀ r, (g r).work = r.work ∧ (g r).worker = r.worker ∧ (g r).from_ = r.from_
  old : ∀ r, g r = r ∨ (going r = true ∧ going (g r) = false ∧ (g r).to_ = t)
theorem fin_turn (F : FP) (t : Int) (R : List RR) : Turn t (finRun F t R) := ⟨finRun_work, fun r => by
  rcases finRun_cases (F := F) (t := t) (R := R) r with h | ⟨h1, h2, h3⟩
  · exact .inl h
  · exact .inr ⟨h1, finRun_ended h1 h2, by rw [h3]⟩⟩
theorem lose_turn (F : FP) (t : Int) : Turn t (loseRun F t) := ⟨loseRun_work, fun r => by
  rcases loseRun_cases (F := F) (t := t) r with h | ⟨h1, h2, h3⟩
  · exact .inl h
  · exact .inr ⟨h1, loseRun_ended h1 h2, by rw [h3]⟩⟩
theorem Turn.cnt {t : Int} {g : RR → RR} (h : Turn t g) {s : Int} (hs : s < t) (R : List RR) (k : Nat) : cntAt (R.map g) s k = cntAt R s k := by
  unfold cntAt
  rw [List.countP_map]
  refine countP_eq_of fun r _ => ?_
  simp only [Function.comp]
  rw [(h.key r).2.1, (h.key r).2.2]
  rcases h.old r with e | ⟨h1, h2, h3⟩
  · rw [e]
  · rw [h1, h2, h3]
    simp [hs]
theorem Turn.busy_le {t : Int} {g : RR → RR} (h : Turn t g) (R : List RR) (k : Nat) : busy (R.map g) k ≤ busy R k := by
  unfold busy
  rw [List.countP_map]
  refine countP_le_of fun r _ hx => ?_
  simp only [Function.comp] at hx
  rw [(h.key r).2.1] at hx
  rcases h.old r with e | ⟨h1, h2, h3⟩
  · rw [e] at hx; exact hx
  · rw [h2] at hx; simp at hx
theorem Turn.doneBy {t : Int} {g : RR → RR} (h : Turn t g) {R : List RR} {s : Int} {i : Nat} (hd : DoneBy R s i) : DoneBy (R.map g) s i := by
  obtain ⟨d, hd, h1, h2, h3⟩ := hd
  refine ⟨g d, List.mem_map_of_mem hd, (h.key d).1.trans h1, ?_, ?_⟩ <;>
  · rcases h.old d with e | ⟨a, _, _⟩
    · rw [e]; assumption
    · rw [end1_not_going h2] at a; cases a
end Go.Proofs.YtbnkoefljcekbaaGreatDoor

namespace Go.Proofs.YtbnkoefljcekbaaGreatDoor
set_option linter.unusedVariables false
set_option linter.unusedSimpArgs false

theorem Inv.fin {F : FP} (hF : FFine F) {lo hi : Int} {q : QS} (h : Inv F lo hi q) (hlo : lo < q.at_) (hhi : q.at_ ≤ hi) : Inv F lo hi (finQ F q) := by
  have hT := fin_turn F q.at_ q.runs
  have hgo : ∀ k, goingOf (q.runs.map (finRun F q.at_ q.runs)) k = if hasDone F q.at_ q.runs k = true then [] else goingOf q.runs k := by
    intro k
    rw [goingOf_map (c := fun r => hasDone F q.at_ q.runs r.work) (fun r h => finRun_no h) (fun r a b => finRun_ended a b) (fun r => (finRun_work r).1)]
    split
    · rename_i hd
      exact List.filter_eq_nil_iff.2 fun r hr => by
        have := (List.mem_filter.1 hr).2
        simp only [Bool.and_eq_true, beq_iff_eq] at this
        rw [this.2, hd]; simp
    · rename_i hd
      refine filter_all fun r hr => ?_
      have := (List.mem_filter.1 hr).2
      simp only [Bool.and_eq_true, beq_iff_eq] at this
      rw [this.2]; simpa using hd
  have mem : ∀ r' ∈ q.runs.map (finRun F q.at_ q.runs), ∃ r ∈ q.runs, (r' = r ∨ (going r = true ∧ hasDone F q.at_ q.runs r.work = true ∧ r' = { r with to_ := q.at_, end_ := if isBest F q.at_ q.runs r = true then 1 else 3 })) := by
    intro r' hr'
    obtain ⟨r, hr, rfl⟩ := List.mem_map.1 hr'
    exact ⟨r, hr, finRun_cases r⟩
  have h13 : ∀ b : Bool, going { work := 0, worker := 0, from_ := 0, to_ := 0, end_ := if b = true then 1 else 3 } = false := by intro b; cases b <;> rfl
  have hend : ∀ r : RR, going { r with to_ := q.at_, end_ := if isBest F q.at_ q.runs r = true then 1 else 3 } = false := fun r => h13 _
  have hdoneof : ∀ k, q.done k = true → hasDone F q.at_ q.runs k = false := by
    intro k hk
    cases hd : hasDone F q.at_ q.runs k
    · rfl
    · obtain ⟨r, hr, hw, hb⟩ := hasDone_ex hd
      have : r ∈ goingOf q.runs k := List.mem_filter.2 ⟨hr, by rw [(cand_going (isBest_cand hb)).1, hw]; simp⟩
      rw [h.dong k hk] at this; cases this
  have hcount1 : ∀ k, hasDone F q.at_ q.runs k = true → (q.runs.map (finRun F q.at_ q.runs)).countP (isEnd 1 k) ≤ 1 := by
    intro k hk
    have hnd : q.done k = false := by
      cases hd : q.done k
      · rfl
      · rw [hdoneof k hd] at hk; cases hk
    have e : (q.runs.map (finRun F q.at_ q.runs)).countP (isEnd 1 k) = (goingOf q.runs k).countP (isBest F q.at_ q.runs) := by
      rw [List.countP_map, countP_goingOf]
      refine countP_eq_of fun r hr => ?_
      simp only [Function.comp, isEnd]
      rw [(finRun_work r).1]
      by_cases hw : r.work = k
      · rcases h.cnt0 k hnd r hr hw with hg | h2
        · rw [finRun_yes (by rw [hg, hw, hk]; rfl)]
          simp only [hw, hg, beq_self_eq_true, Bool.true_and, Bool.and_true]
          cases hb : isBest F q.at_ q.runs r <;> simp
        · rw [finRun_no (by rw [end2_not_going h2]; rfl), end2_not_going h2, h2]
          simp
      · have : (r.work == k) = false := by simpa using hw
        rw [this]; simp
    rw [e]
    exact best_unique (h.two k).2
  have hcountN : ∀ k, hasDone F q.at_ q.runs k = false → ∀ r ∈ q.runs, r.work = k → finRun F q.at_ q.runs r = r := fun k hk r hr hw => finRun_no (by rw [hw, hk]; simp)
  refine ⟨?_, h.t0, ?_, ?_, ?_, ?_, ?_, ?_, ?_, ?_, ?_, ?_, ?_, ?_, ?_, ?_, ?_, ?_⟩
  · intro r' hr'
    obtain ⟨r, hr, rfl | ⟨_, _, rfl⟩⟩ := mem r' hr'
    · exact h.named _ hr
    · exact h.named r hr
  · intro r' hr'
    obtain ⟨r, hr, rfl | ⟨_, _, rfl⟩⟩ := mem r' hr'
    · exact h.fr _ hr
    · exact h.fr r hr
  · intro r' hr' hg
    obtain ⟨r, hr, rfl | ⟨_, _, rfl⟩⟩ := mem r' hr'
    · exact h.go _ hr hg
    · rw [hend] at hg; cases hg
  · intro r' hr' hg
    obtain ⟨r, hr, rfl | ⟨h1, h2, rfl⟩⟩ := mem r' hr'
    · exact h.en _ hr hg
    · obtain ⟨a, b, c⟩ := h.go r hr h1
      refine ⟨by show r.from_ < q.at_; omega, Int.le_refl _, by show q.at_ ≤ F.wto r.worker; omega, ?_, ?_⟩ <;> (simp only; split <;> omega)
  · intro r' hr' he
    obtain ⟨r, hr, rfl | ⟨h1, h2, rfl⟩⟩ := mem r' hr'
    · exact h.e1 _ hr he
    · simp only at he ⊢
      by_cases hb : isBest F q.at_ q.runs r = true
      · exact (cand_going (isBest_cand hb)).2
      · rw [if_neg hb] at he; cases he
  · intro i
    show (goingOf (q.runs.map _) i).length ≤ 2 ∧ (goingOf (q.runs.map _) i).Pairwise _
    rw [hgo]
    split
    · exact ⟨Nat.zero_le _, List.Pairwise.nil⟩
    · exact h.two i
  · intro k
    show (q.done k || hasDone F q.at_ q.runs k) = true ↔ _
    rw [Bool.or_eq_true]
    constructor
    · rintro (hk | hk)
      · obtain ⟨r, hr, hw, he⟩ := (h.don k).1 hk
        refine ⟨r, List.mem_map.2 ⟨r, hr, finRun_no (by rw [end1_not_going he]; rfl)⟩, hw, he⟩
      · obtain ⟨r, hr, hw, hb⟩ := hasDone_ex hk
        refine ⟨_, List.mem_map_of_mem hr, (finRun_work r).1.trans hw, ?_⟩
        rw [finRun_yes (by rw [(cand_going (isBest_cand hb)).1, hw, hk]; rfl)]
        simp [hb]
    · rintro ⟨r', hr', hw, he⟩
      obtain ⟨r, hr, rfl | ⟨h1, h2, rfl⟩⟩ := mem r' hr'
      · exact .inl ((h.don k).2 ⟨_, hr, hw, he⟩)
      · right; rw [← hw]; exact h2
  · intro k
    by_cases hk : hasDone F q.at_ q.runs k = true
    · exact hcount1 k hk
    · have hk : hasDone F q.at_ q.runs k = false := by simpa using hk
      show (q.runs.map _).countP _ ≤ 1
      rw [List.countP_map]
      refine Nat.le_trans (Nat.le_of_eq (countP_eq_of fun r hr => ?_)) (h.don1 k)
      simp only [Function.comp]
      by_cases hw : r.work = k
      · rw [hcountN k hk r hr hw]
      · unfold isEnd
        rw [(finRun_work r).1]
        have : (r.work == k) = false := by simpa using hw
        rw [this]; rfl
  · intro k hk
    show goingOf (q.runs.map _) k = []
    rw [hgo]
    split
    · rfl
    · rename_i hd
      refine h.dong k ?_
      have hk : (q.done k || hasDone F q.at_ q.runs k) = true := hk
      rw [Bool.or_eq_true] at hk
      rcases hk with hk | hk
      · exact hk
      · exact absurd hk hd
  · intro k hk r' hr' hw d' hd' hdw he
    obtain ⟨r, hr, hrc⟩ := mem r' hr'
    obtain ⟨d, hd, hdc⟩ := mem d' hd'
    have hk : (q.done k || hasDone F q.at_ q.runs k) = true := hk
    rw [Bool.or_eq_true] at hk
    rcases hdc with rfl | ⟨d1, d2, rfl⟩
    · have hqk := (h.don k).2 ⟨_, hd, hdw, he⟩
      have hno := hdoneof k hqk
      rcases hrc with rfl | ⟨r1, r2, rfl⟩
      · exact h.doni k hqk _ hr hw _ hd hdw he
      · rw [show r.work = k from hw, hno] at r2; cases r2
    · show r'.to_ ≤ q.at_
      rcases hrc with rfl | ⟨r1, r2, rfl⟩
      · cases hg : going r'
        · exact (h.en _ hr hg).2.1
        · obtain ⟨_, _, h0⟩ := h.go _ hr hg
          have := h.t0
          omega
      · exact Int.le_refl _
  · intro k
    show q.lost k = _
    rw [h.los k]
    congr 1
    show _ = (q.runs.map _).countP _
    rw [List.countP_map]
    refine countP_eq_of fun r hr => ?_
    simp only [Function.comp]
    rcases finRun_cases (F := F) (t := q.at_) (R := q.runs) r with e | ⟨h1, _, e⟩
    · rw [e]
    · rw [e]
      unfold isEnd
      rw [going_end h1]
      simp only
      cases isBest F q.at_ q.runs r <;> simp
  · intro k
    have : (finQ F q).runs.countP (onWork k) = q.runs.countP (onWork k) := countP_map_work (fun r => (finRun_work r).1) k q.runs
    rw [this]; exact h.cnt k
  · intro k hk r' hr' hw
    have hk : (q.done k || hasDone F q.at_ q.runs k) = false := hk
    rw [Bool.or_eq_false_iff] at hk
    obtain ⟨r, hr, rfl | ⟨h1, h2, rfl⟩⟩ := mem r' hr'
    · exact h.cnt0 k hk.1 _ hr hw
    · rw [show r.work = k from hw, hk.2] at h2; cases h2
  · intro r' hr' s hs
    obtain ⟨r, hr, hrc⟩ := mem r' hr'
    have hsr : s ∈ F.after r.work := by rcases hrc with rfl | ⟨_, _, rfl⟩ <;> exact hs
    have := hT.doneBy (h.ord r hr s hsr)
    have e : r'.from_ = r.from_ := by rcases hrc with rfl | ⟨_, _, rfl⟩ <;> rfl
    rw [e]; exact this
  · exact pairwise_map_key (fun r => finRun_work r) h.dis
  · intro t ht k hk
    have := h.hist t ht k hk
    rw [show cntAt (finQ F q).runs t k = cntAt q.runs t k from hT.cnt (by omega) q.runs k]
    exact this
  · intro k hk
    have := h.bus k hk
    have h2 : busy (finQ F q).runs k ≤ busy q.runs k := hT.busy_le q.runs k
    omega

theorem Inv.lose {F : FP} (hF : FFine F) {lo : Int} {q : QS} (h : Inv F lo q.at_ q) (hlo : lo < q.at_) : Inv F lo (q.at_ + 1) (loseQ F q) := by
  have hT := lose_turn F q.at_
  have hgo : ∀ k, goingOf (q.runs.map (loseRun F q.at_)) k = (goingOf q.runs k).filter fun r => !goes F r.worker q.at_ := fun k =>
    goingOf_map (c := fun r => goes F r.worker q.at_) (fun r h => loseRun_no h) (fun r a b => loseRun_ended a b) (fun r => (loseRun_work r).1) k q.runs
  have mem : ∀ r' ∈ q.runs.map (loseRun F q.at_), ∃ r ∈ q.runs, (r' = r ∧ (going r = true → goes F r.worker q.at_ = false)) ∨ (going r = true ∧ goes F r.worker q.at_ = true ∧ r' = { r with to_ := q.at_, end_ := 2 }) := by
    intro r' hr'
    obtain ⟨r, hr, rfl⟩ := List.mem_map.1 hr'
    refine ⟨r, hr, ?_⟩
    by_cases hc : (going r && goes F r.worker q.at_) = true
    · simp only [Bool.and_eq_true] at hc
      exact .inr ⟨hc.1, hc.2, loseRun_yes (by rw [hc.1, hc.2]; rfl)⟩
    · have hc : (going r && goes F r.worker q.at_) = false := by simpa using hc
      exact .inl ⟨loseRun_no hc, fun hg => by rw [hg] at hc; simpa using hc⟩
  refine ⟨?_, h.t0, ?_, ?_, ?_, ?_, ?_, ?_, ?_, ?_, ?_, ?_, ?_, ?_, ?_, ?_, ?_, ?_⟩
  · intro r' hr'
    obtain ⟨r, hr, ⟨rfl, _⟩ | ⟨_, _, rfl⟩⟩ := mem r' hr'
    · exact h.named _ hr
    · exact h.named r hr
  · intro r' hr'
    obtain ⟨r, hr, ⟨rfl, _⟩ | ⟨_, _, rfl⟩⟩ := mem r' hr'
    · exact h.fr _ hr
    · exact h.fr r hr
  · intro r' hr' hg
    obtain ⟨r, hr, ⟨rfl, hn⟩ | ⟨_, _, rfl⟩⟩ := mem r' hr'
    · obtain ⟨a, b, c⟩ := h.go _ hr hg
      have := hn hg
      unfold goes at this
      rw [Bool.or_eq_false_iff] at this
      have hne : F.wto r'.worker ≠ q.at_ := by simpa using this.1
      exact ⟨a, by omega, c⟩
    · exact absurd hg (by simp [going])
  · intro r' hr' hg
    obtain ⟨r, hr, ⟨rfl, _⟩ | ⟨h1, h2, rfl⟩⟩ := mem r' hr'
    · exact h.en _ hr hg
    · obtain ⟨a, b, c⟩ := h.go r hr h1
      exact ⟨by show r.from_ < q.at_; omega, Int.le_refl _, b, by show (1 : Int) ≤ 2; omega, by show (2 : Int) ≤ 3; omega⟩
  · intro r' hr' he
    obtain ⟨r, hr, ⟨rfl, _⟩ | ⟨h1, h2, rfl⟩⟩ := mem r' hr'
    · exact h.e1 _ hr he
    · exact absurd he (by show ¬ (2 : Int) = 1; omega)
  · intro i
    show (goingOf (q.runs.map _) i).length ≤ 2 ∧ (goingOf (q.runs.map _) i).Pairwise _
    rw [hgo]
    obtain ⟨a, b⟩ := h.two i
    exact ⟨Nat.le_trans (List.length_filter_le _ _) a, b.filter _⟩
  · intro k
    show q.done k = true ↔ _
    rw [h.don k]
    constructor
    · rintro ⟨r, hr, hw, he⟩
      exact ⟨r, List.mem_map.2 ⟨r, hr, loseRun_no (by rw [end1_not_going he]; rfl)⟩, hw, he⟩
    · rintro ⟨r', hr', hw, he⟩
      obtain ⟨r, hr, ⟨rfl, _⟩ | ⟨h1, h2, rfl⟩⟩ := mem r' hr'
      · exact ⟨_, hr, hw, he⟩
      · exact absurd he (by show ¬ (2 : Int) = 1; omega)
  · intro k
    show (q.runs.map _).countP _ ≤ 1
    rw [List.countP_map]
    refine Nat.le_trans (Nat.le_of_eq (countP_eq_of fun r hr => ?_)) (h.don1 k)
    simp only [Function.comp]
    rcases loseRun_cases (F := F) (t := q.at_) r with e | ⟨h1, _, e⟩
    · rw [e]
    · rw [e]
      unfold isEnd
      rw [going_end h1]; simp
  · intro k hk
    show goingOf (q.runs.map _) k = []
    rw [hgo, h.dong k hk]; rfl
  · intro k hk r' hr' hw d' hd' hdw he
    obtain ⟨r, hr, hrc⟩ := mem r' hr'
    obtain ⟨d, hd, ⟨rfl, _⟩ | ⟨d1, d2, rfl⟩⟩ := mem d' hd'
    · rcases hrc with ⟨rfl, _⟩ | ⟨r1, r2, rfl⟩
      · exact h.doni k hk _ hr hw _ hd hdw he
      · have : r ∈ goingOf q.runs k := List.mem_filter.2 ⟨hr, by rw [r1, show r.work = k from hw]; simp⟩
        rw [h.dong k hk] at this; cases this
    · exact absurd he (by show ¬ (2 : Int) = 1; omega)
  · intro k
    show q.lost k + (lostNow F q.at_ q.runs k : Nat) = _
    rw [h.los k]
    have : ((loseQ F q).runs.countP (isEnd 2 k)) = q.runs.countP (isEnd 2 k) + lostNow F q.at_ q.runs k := by
      show (q.runs.map _).countP _ = _
      rw [List.countP_map]
      unfold lostNow
      refine countP_or (fun r hr => ?_) (fun r hr => ?_)
      · simp only [Function.comp]
        unfold isEnd
        rw [(loseRun_work r).1]
        rcases loseRun_cases (F := F) (t := q.at_) r with e | ⟨h1, h2, e⟩
        · rw [e]
          cases hc : (going r && goes F r.worker q.at_)
          · simp
          · rw [loseRun_yes hc] at e
            have := congrArg RR.end_ e
            simp only at this
            simp only [Bool.and_eq_true] at hc
            rw [going_end hc.1] at this
            omega
        · rw [e, h1, h2, going_end h1]; simp
      · rintro ⟨a, b⟩
        simp only [isEnd, Bool.and_eq_true, beq_iff_eq] at a b
        rw [end2_not_going a.2] at b
        exact absurd b.2.1 (by decide)
    rw [this]; omega
  · intro k
    have : (loseQ F q).runs.countP (onWork k) = q.runs.countP (onWork k) := countP_map_work (fun r => (loseRun_work r).1) k q.runs
    rw [this]; exact h.cnt k
  · intro k hk r' hr' hw
    obtain ⟨r, hr, ⟨rfl, _⟩ | ⟨h1, h2, rfl⟩⟩ := mem r' hr'
    · exact h.cnt0 k hk _ hr hw
    · exact .inr rfl
  · intro r' hr' s hs
    obtain ⟨r, hr, hrc⟩ := mem r' hr'
    have hsr : s ∈ F.after r.work := by rcases hrc with ⟨rfl, _⟩ | ⟨_, _, rfl⟩ <;> exact hs
    have := hT.doneBy (h.ord r hr s hsr)
    have e : r'.from_ = r.from_ := by rcases hrc with ⟨rfl, _⟩ | ⟨_, _, rfl⟩ <;> rfl
    rw [e]; exact this
  · exact pairwise_map_key (fun r => loseRun_work r) h.dis
  · intro t ht k hk
    have := h.hist t ht k hk
    rw [show cntAt (loseQ F q).runs t k = cntAt q.runs t k from hT.cnt (by omega) q.runs k]
    exact this
  · intro k hk
    have := h.bus k hk
    have h2 : busy (loseQ F q).runs k ≤ busy q.runs k := hT.busy_le q.runs k
    omega

theorem cnt_busy {F : FP} {lo hi : Int} {q : QS} (h : Inv F lo hi q) {t : Int} (ht : q.at_ ≤ t) (k : Nat) : cntAt q.runs t k ≤ busy q.runs k := by
  unfold cntAt busy
  refine countP_le_of fun r hr hx => ?_
  simp only [Bool.and_eq_true, Bool.or_eq_true, decide_eq_true_eq] at hx ⊢
  cases hg : going r
  · rw [hg] at hx
    have := (h.en r hr hg).2.1
    rcases hx.2.2 with h | h
    · cases h
    · omega
  · exact ⟨rfl, hx.1⟩
/-- behind finish and lose: the moment itself counts now -/
theorem Inv.now {F : FP} {q : QS} (h : Inv F (q.at_ - 1) (q.at_ + 1) q) : Inv F q.at_ (q.at_ + 1) q := by
  refine ⟨h.named, h.t0, h.fr, fun r hr hg => ?_, h.en, h.e1, h.two, h.don, h.don1, h.dong, h.doni, h.los, h.cnt, h.cnt0, h.ord, h.dis, fun t ht k hk => ?_, h.bus⟩
  · obtain ⟨a, b, c⟩ := h.go r hr hg
    exact ⟨by omega, b, c⟩
  · rcases Int.lt_or_le (q.at_ - 1) t with hlt | hle
    · have := cnt_busy h (t := t) (by omega) k
      have := h.bus k hk
      omega
    · exact h.hist t hle k hk
/-- a later moment -/
theorem Inv.at {F : FP} {q : QS} (h : Inv F q.at_ (q.at_ + 1) q) {n : Int} (hn : nextQ F q = some n) : Inv F (n - 1) n { q with at_ := n } := by
  obtain ⟨n1, n2, n3⟩ := above_some hn
  have h0 := h.t0
  refine ⟨h.named, by show 0 ≤ n; omega, h.fr, fun r hr hg => ?_, fun r hr hg => ?_, h.e1, h.two, h.don, h.don1, h.dong, h.doni, h.los, h.cnt, h.cnt0, h.ord, h.dis, fun t ht k hk => ?_, h.bus⟩
  · obtain ⟨a, b, c⟩ := h.go r hr hg
    refine ⟨by omega, ?_, c⟩
    exact n3 _ (mem_candsQ.2 (.inl ⟨_, (h.named r hr).1, .inr rfl⟩)) (by omega)
  · obtain ⟨a, b, c⟩ := h.en r hr hg
    exact ⟨a, by show r.to_ ≤ n; omega, c⟩
  · rcases Int.lt_or_le q.at_ t with hlt | hle
    · have := cnt_busy h (t := t) (by omega) k
      have := h.bus k hk
      show (cntAt q.runs t k : Int) ≤ _
      omega
    · exact h.hist t hle k hk

/-- a work is begun -/
theorem Inv.begin {F : FP} (hF : FFine F) {q : QS} (h : Inv F q.at_ (q.at_ + 1) q) {i : Nat} (hi : i < F.nX) {but : Option Nat} (hd : q.done i = false) (hl : q.lost i < F.tries)
    (hrd : ∀ s ∈ F.after i, q.done s = true) (hg : goingOf q.runs i = [] ∨ ∃ r, goingOf q.runs i = [r] ∧ r.from_ < q.at_ ∧ but = some r.worker) : Inv F q.at_ (q.at_ + 1) { q with runs := beginR F q.at_ i but q.runs } := by
  unfold beginR
  split
  · exact h
  · rename_i k hk
    obtain ⟨hkW, hc⟩ := bestW_some hk
    simp only [canW, Bool.and_eq_true, decide_eq_true_eq, Bool.not_eq_true', beq_eq_false_iff_ne] at hc
    obtain ⟨c0, c1, c2, c3, c4⟩ := hc
    have hmem : ∀ r, r ∈ q.runs ++ [(⟨i, k, q.at_, 0, 0⟩ : RR)] ↔ r ∈ q.runs ∨ r = ⟨i, k, q.at_, 0, 0⟩ := by intro r; simp
    have hold : ∀ r ∈ q.runs, r.work = i → r.from_ < q.at_ := by
      intro r hr hw
      cases hgr : going r
      · have := h.en r hr hgr; omega
      · have hm : r ∈ goingOf q.runs i := List.mem_filter.2 ⟨hr, by rw [hgr, hw]; simp⟩
        rcases hg with hg | ⟨r0, hg, hlt, _⟩
        · rw [hg] at hm; cases hm
        · rw [hg] at hm
          rw [List.mem_singleton.1 hm]; exact hlt
    have happ : ∀ j, goingOf (q.runs ++ [(⟨i, k, q.at_, 0, 0⟩ : RR)]) j = if j = i then goingOf q.runs i ++ [⟨i, k, q.at_, 0, 0⟩] else goingOf q.runs j := by
      intro j
      rw [goingOf_app]
      by_cases e : j = i
      · subst e; rw [if_pos rfl]; simp [goingOf, going]
      · have h0 : goingOf [(⟨i, k, q.at_, 0, 0⟩ : RR)] j = [] := goingOf_other (i := i) (fun r hr => by rw [List.mem_singleton.1 hr]) e
        rw [if_neg e, h0, List.append_nil]
    have hdb : ∀ t s, DoneBy q.runs t s → DoneBy (q.runs ++ [(⟨i, k, q.at_, 0, 0⟩ : RR)]) t s := fun t s ⟨d, a, b⟩ => ⟨d, (hmem d).2 (.inl a), b⟩
    refine ⟨?_, h.t0, ?_, ?_, ?_, ?_, ?_, ?_, ?_, ?_, ?_, ?_, ?_, ?_, ?_, ?_, ?_, ?_⟩
    · intro r hr
      rcases (hmem r).1 hr with hr | rfl
      · exact h.named r hr
      · exact ⟨hkW, hi⟩
    · intro r hr
      rcases (hmem r).1 hr with hr | rfl
      · exact h.fr r hr
      · exact ⟨c1, h.t0, c2, c4⟩
    · intro r hr hgr
      rcases (hmem r).1 hr with hr | rfl
      · exact h.go r hr hgr
      · exact ⟨Int.le_refl _, by show q.at_ + 1 ≤ F.wto k; omega, rfl⟩
    · intro r hr hgr
      rcases (hmem r).1 hr with hr | rfl
      · exact h.en r hr hgr
      · cases hgr
    · intro r hr he
      rcases (hmem r).1 hr with hr | rfl
      · exact h.e1 r hr he
      · cases he
    · intro j
      show (goingOf (q.runs ++ _) j).length ≤ 2 ∧ _
      rw [happ]
      split
      · rcases hg with hg | ⟨r, hg, _, hb⟩
        · rw [hg]; exact ⟨by simp, by simp⟩
        · rw [hg]
          refine ⟨by simp, ?_⟩
          simp only [List.singleton_append, List.pairwise_cons, List.mem_singleton, List.not_mem_nil, false_imp_iff, implies_true, List.Pairwise.nil, and_true]
          intro a ha
          subst ha
          intro e
          exact c0 (by rw [hb, e])
      · exact h.two j
    · intro j
      rw [show ({ q with runs := q.runs ++ [(⟨i, k, q.at_, 0, 0⟩ : RR)] } : QS).done j = q.done j from rfl, h.don j]
      constructor
      · rintro ⟨r, hr, a, b⟩; exact ⟨r, (hmem r).2 (.inl hr), a, b⟩
      · rintro ⟨r, hr, a, b⟩
        rcases (hmem r).1 hr with hr | rfl
        · exact ⟨r, hr, a, b⟩
        · cases b
    · intro j
      show (q.runs ++ _).countP _ ≤ 1
      rw [List.countP_append]
      have := h.don1 j
      simpa [isEnd] using this
    · intro j hj
      show goingOf (q.runs ++ _) j = []
      rw [happ, if_neg (by intro e; subst e; rw [show q.done j = true from hj] at hd; cases hd)]
      exact h.dong j hj
    · intro j hj r hr hw d hd' hdw he
      rcases (hmem d).1 hd' with hd' | rfl
      · rcases (hmem r).1 hr with hr | rfl
        · exact h.doni j hj r hr hw d hd' hdw he
        · have e : j = i := hw.symm
          subst e
          rw [show q.done j = true from hj] at hd; cases hd
      · cases he
    · intro j
      show q.lost j = _
      rw [h.los j]
      congr 1
      show _ = (q.runs ++ _).countP _
      rw [List.countP_append]
      simp [isEnd]
    · intro j
      show ((q.runs ++ [(⟨i, k, q.at_, 0, 0⟩ : RR)]).countP _ : Nat) ≤ F.tries + 1
      rw [List.countP_append]
      have hc := h.cnt j
      by_cases e : j = i
      · subst e
        have hsum : q.runs.countP (onWork j) = q.runs.countP (fun r => going r && r.work == j) + q.runs.countP (isEnd 2 j) := by
          refine countP_or (fun r hr => ?_) (fun r hr => ?_)
          · unfold onWork isEnd
            by_cases hw : r.work = j
            · rcases h.cnt0 j hd r hr hw with a | a
              · rw [a, hw]; simp
              · rw [a, hw]; simp
            · have : (r.work == j) = false := by simpa using hw
              rw [this]; simp
          · rintro ⟨a, b⟩
            simp only [isEnd, Bool.and_eq_true, beq_iff_eq] at a b
            rw [end2_not_going b.2] at a
            exact absurd a.1 (by decide)
        have hgl : q.runs.countP (fun r => going r && r.work == j) = (goingOf q.runs j).length := by
          unfold goingOf; rw [List.countP_eq_length_filter]
        have hl2 := h.los j
        have : (goingOf q.runs j).length ≤ 1 := by
          rcases hg with hg | ⟨r, hg, _⟩ <;> rw [hg] <;> simp
        have h1 : [(⟨j, k, q.at_, 0, 0⟩ : RR)].countP (onWork j) = 1 := by simp [onWork]
        rw [h1]
        omega
      · have h1 : [(⟨i, k, q.at_, 0, 0⟩ : RR)].countP (onWork j) = 0 := by simp [onWork]; exact fun e2 => e e2.symm
        rw [h1]; omega
    · intro j hj r hr hw
      rcases (hmem r).1 hr with hr | rfl
      · exact h.cnt0 j hj r hr hw
      · exact .inl rfl
    · intro r hr s hs
      rcases (hmem r).1 hr with hr2 | rfl
      · exact hdb _ _ (h.ord r hr2 s hs)
      · obtain ⟨d, hd1, hd2, hd3⟩ := (h.don s).1 (hrd s hs)
        exact ⟨d, (hmem d).2 (.inl hd1), hd2, hd3, (h.en d hd1 (end1_not_going hd3)).2.1⟩
    · refine List.pairwise_append.2 ⟨h.dis, List.pairwise_singleton _ _, fun a ha b hb => ?_⟩
      rw [List.mem_singleton.1 hb]
      rintro ⟨e1, e2, _⟩
      have := hold a ha e2
      have e1 : a.from_ = q.at_ := e1
      omega
    · intro t ht k' hk'
      show (cntAt (q.runs ++ _) t k' : Int) ≤ _
      have hcc : cntAt (q.runs ++ [(⟨i, k, q.at_, 0, 0⟩ : RR)]) t k' = cntAt q.runs t k' + if k = k' ∧ q.at_ ≤ t then 1 else 0 := by
        unfold cntAt
        rw [List.countP_append, List.countP_singleton]
        congr 1
        simp [going]
      rw [hcc]
      have hh := h.hist t ht k' hk'
      split
      · rename_i hc
        obtain ⟨rfl, hat⟩ := hc
        have := cnt_busy h hat k
        omega
      · omega
    · intro k' hk'
      show (busy (q.runs ++ _) k' : Int) ≤ _
      have hb : busy (q.runs ++ [(⟨i, k, q.at_, 0, 0⟩ : RR)]) k' = busy q.runs k' + if k = k' then 1 else 0 := by
        unfold busy
        rw [List.countP_append, List.countP_singleton]
        congr 1
        simp [going]
      rw [hb]
      have hh := h.bus k' hk'
      split
      · rename_i hc; subst hc; omega
      · omega

theorem runsAny_goingOf {R : List RR} {i : Nat} : runsAny R i = false ↔ goingOf R i = [] := by
  unfold runsAny goingOf
  rw [List.any_eq_false, List.filter_eq_nil_iff]
theorem Inv.strtR {F : FP} (hF : FFine F) {q : QS} {R : List RR} (h : Inv F q.at_ (q.at_ + 1) { q with runs := R }) {i : Nat} (hi : i < F.nX) : Inv F q.at_ (q.at_ + 1) { q with runs := strtR F q R i } := by
  unfold Go.Proofs.YtbnkoefljcekbaaGreatDoor.strtR
  split
  · rename_i hc
    simp only [canS, Bool.and_eq_true, decide_eq_true_eq, Bool.not_eq_true'] at hc
    obtain ⟨a, b, c, d⟩ := hc
    exact Inv.begin hF (q := { q with runs := R }) h hi a b (fun s hs => List.all_eq_true.1 d s hs) (.inl (runsAny_goingOf.1 c))
  · exact h
theorem Inv.starts {F : FP} (hF : FFine F) {q : QS} : ∀ (o : List Nat), (∀ i ∈ o, i < F.nX) → ∀ R : List RR, Inv F q.at_ (q.at_ + 1) { q with runs := R } → Inv F q.at_ (q.at_ + 1) { q with runs := o.foldl (Go.Proofs.YtbnkoefljcekbaaGreatDoor.strtR F q) R }
  | [], _, R, h => h
  | i :: o, ho, R, h => Inv.starts hF o (fun j hj => ho j (List.mem_cons_of_mem _ hj)) _ (h.strtR hF (ho i List.mem_cons_self))
/-- behind a start: what goes on is a work that is ready -/
def RdyG (F : FP) (q : QS) : Prop := ∀ r ∈ q.runs, ∀ s ∈ F.after r.work, q.done s = true
theorem Inv.rdy {F : FP} {lo hi : Int} {q : QS} (h : Inv F lo hi q) : RdyG F q := fun r hr s hs => by
  obtain ⟨d, a, b, c, _⟩ := h.ord r hr s hs
  exact (h.don s).2 ⟨d, a, b, c⟩
theorem Inv.dblR {F : FP} (hF : FFine F) {q : QS} {R : List RR} (h : Inv F q.at_ (q.at_ + 1) { q with runs := R }) {i : Nat} (hi : i < F.nX) : Inv F q.at_ (q.at_ + 1) { q with runs := dblR F q.at_ q.lost R i } := by
  unfold Go.Proofs.YtbnkoefljcekbaaGreatDoor.dblR
  split
  · rename_i r hg
    split
    · rename_i hc
      simp only [Bool.and_eq_true, decide_eq_true_eq] at hc
      have hm : r ∈ goingOf R i := by rw [hg]; exact List.mem_cons_self
      obtain ⟨hr, hgw⟩ := List.mem_filter.1 hm
      simp only [Bool.and_eq_true, beq_iff_eq] at hgw
      have hd : q.done i = false := by
        cases hd : q.done i
        · rfl
        · have := h.dong i hd
          rw [show ({ q with runs := R } : QS).runs = R from rfl, hg] at this; cases this
      refine Inv.begin hF (q := { q with runs := R }) h hi hd hc.2 (fun s hs => h.rdy r hr s (by rw [hgw.2]; exact hs)) (.inr ⟨r, hg, ?_, rfl⟩)
      have h1 := hF.secs r.worker r.work (h.named r hr).1 (h.named r hr).2
      have h2 := hc.1
      unfold late at h2
      show r.from_ < q.at_
      omega
    · exact h
  · exact h
theorem Inv.dbls {F : FP} (hF : FFine F) {q : QS} : ∀ (o : List Nat), (∀ i ∈ o, i < F.nX) → ∀ R : List RR, Inv F q.at_ (q.at_ + 1) { q with runs := R } → Inv F q.at_ (q.at_ + 1) { q with runs := o.foldl (Go.Proofs.YtbnkoefljcekbaaGreatDoor.dblR F q.at_ q.lost) R }
  | [], _, R, h => h
  | i :: o, ho, R, h => Inv.dbls hF o (fun j hj => ho j (List.mem_cons_of_mem _ hj)) _ (h.dblR hF (ho i List.mem_cons_self))
theorem Inv.step {F : FP} (hF : FFine F) {q : QS} (h : Inv F (q.at_ - 1) q.at_ q) : Inv F q.at_ (q.at_ + 1) (stepQ F q) := by
  have h1 := h.fin hF (by omega) (Int.le_refl _)
  have h2 : Inv F (q.at_ - 1) (q.at_ + 1) (loseQ F (finQ F q)) := Inv.lose hF (q := finQ F q) h1 (by show q.at_ - 1 < q.at_; omega)
  have h3 : Inv F q.at_ (q.at_ + 1) (loseQ F (finQ F q)) := Inv.now (q := loseQ F (finQ F q)) h2
  have h4 : Inv F q.at_ (q.at_ + 1) (startQ F (loseQ F (finQ F q))) := Inv.starts hF (q := loseQ F (finQ F q)) F.order hF.lt _ h3
  unfold stepQ dblQ
  split
  · exact Inv.dbls hF (q := startQ F (loseQ F (finQ F q))) (List.range F.nX) (fun i hi => List.mem_range.1 hi) _ h4
  · exact h4
end Go.Proofs.YtbnkoefljcekbaaGreatDoor

namespace Go.Proofs.YtbnkoefljcekbaaGreatDoor
set_option linter.unusedVariables false
set_option linter.unusedSimpArgs false

/-! ### moments that lie behind are not changed -/
theorem Turn.doneBy_inv {t : Int} {g : RR → RR} (h : Turn t g) {R : List RR} {s : Int} (hs : s < t) {i : Nat} (hd : DoneBy (R.map g) s i) : DoneBy R s i := by
  obtain ⟨d, hd, a, b, c⟩ := hd
  obtain ⟨r, hr, rfl⟩ := List.mem_map.1 hd
  rcases h.old r with e | ⟨_, _, e⟩
  · rw [e] at a b c; exact ⟨r, hr, a, b, c⟩
  · omega
theorem Turn.runsAt {t : Int} {g : RR → RR} (h : Turn t g) {R : List RR} {s : Int} (hs : s < t) {i : Nat} (hd : RunsAt R s i) : RunsAt (R.map g) s i := by
  obtain ⟨r, hr, a, b, c⟩ := hd
  refine ⟨g r, List.mem_map_of_mem hr, (h.key r).1.trans a, by rw [(h.key r).2.2]; exact b, ?_⟩
  rcases h.old r with e | ⟨_, _, e⟩
  · rw [e]; exact c
  · right; omega
theorem Turn.lostBy {t : Int} {g : RR → RR} (h : Turn t g) {R : List RR} {s : Int} (hs : s < t) (i : Nat) : LostBy (R.map g) s i = LostBy R s i := by
  unfold LostBy
  rw [List.countP_map]
  refine countP_eq_of fun r _ => ?_
  simp only [Function.comp]
  rcases h.old r with e | ⟨h1, h2, h3⟩
  · rw [e]
  · have e1 : (isEnd 2 i (g r) && decide ((g r).to_ ≤ s)) = false := by
      rw [h3]
      have : decide (t ≤ s) = false := by simp; omega
      rw [this, Bool.and_false]
    have e2 : isEnd 2 i r = false := by
      unfold isEnd; rw [going_end h1]; simp
    rw [e1, e2]; rfl
theorem Turn.none {F : FP} {t : Int} {g : RR → RR} (h : Turn t g) {R : List RR} {s : Int} (hs : s < t) (hn : NoneWaits F R s) : NoneWaits F (R.map g) s := by
  intro i hi ⟨a, b, c, d⟩ k hk ⟨e1, e2, e3⟩
  refine hn i hi ⟨fun s' hs' => h.doneBy_inv hs (a s' hs'), fun hd => b (h.doneBy hd), fun hd => c (h.runsAt hs hd), by rw [← h.lostBy hs]; exact d⟩ k hk ⟨e1, e2, by rw [← h.cnt hs]; exact e3⟩
theorem Turn.seen {F : FP} {t : Int} {g : RR → RR} (h : Turn t g) {R : List RR} {s : Int} (hs : s < t) (hn : Seen F (R.map g) s) : Seen F R s := by
  rcases hn with e | e | ⟨r', hr', hg, e⟩
  · exact .inl e
  · exact .inr (.inl e)
  · obtain ⟨r, hr, rfl⟩ := List.mem_map.1 hr'
    rcases h.old r with e2 | ⟨_, _, e2⟩
    · rw [e2] at hg e; exact .inr (.inr ⟨r, hr, hg, e⟩)
    · omega
def Begun (t : Int) (X : List RR) : Prop := ∀ r ∈ X, r.from_ = t ∧ r.end_ = 0
theorem none_app {F : FP} {t : Int} {R X : List RR} (hX : Begun t X) {s : Int} (hs : s < t) (hn : NoneWaits F R s) : NoneWaits F (R ++ X) s := by
  have hdi : ∀ i, DoneBy (R ++ X) s i → DoneBy R s i := fun i ⟨d, hd, a, b, c⟩ => by
    rcases List.mem_append.1 hd with hd | hd
    · exact ⟨d, hd, a, b, c⟩
    · have := (hX d hd).2; omega
  have hd : ∀ i, DoneBy R s i → DoneBy (R ++ X) s i := fun i ⟨d, hd, a⟩ => ⟨d, List.mem_append_left _ hd, a⟩
  have hl : ∀ i, LostBy (R ++ X) s i = LostBy R s i := fun i => by
    unfold LostBy
    rw [List.countP_append]
    have : X.countP (fun r => isEnd 2 i r && decide (r.to_ ≤ s)) = 0 := by
      rw [List.countP_eq_zero]
      intro r hr h
      have := (hX r hr).2
      simp [isEnd, this] at h
    omega
  have hc : ∀ k, cntAt (R ++ X) s k = cntAt R s k := fun k => by
    unfold cntAt
    rw [List.countP_append]
    have : X.countP (fun r => r.worker == k && (decide (r.from_ ≤ s) && (going r || decide (s < r.to_)))) = 0 := by
      rw [List.countP_eq_zero]
      intro r hr h
      have := (hX r hr).1
      simp only [Bool.and_eq_true, decide_eq_true_eq] at h
      omega
    omega
  intro i hi ⟨a, b, c, d⟩ k hk ⟨e1, e2, e3⟩
  refine hn i hi ⟨fun s' hs' => hdi _ (a s' hs'), fun h => b (hd _ h), fun ⟨r, hr, h⟩ => c ⟨r, List.mem_append_left _ hr, h⟩, by rw [← hl]; exact d⟩ k hk ⟨e1, e2, by rw [← hc]; exact e3⟩
theorem seen_app {F : FP} {t : Int} {R X : List RR} (hX : Begun t X) {s : Int} (hn : Seen F (R ++ X) s) : Seen F R s := by
  rcases hn with e | e | ⟨r, hr, hg, e⟩
  · exact .inl e
  · exact .inr (.inl e)
  · rcases List.mem_append.1 hr with hr | hr
    · exact .inr (.inr ⟨r, hr, hg, e⟩)
    · have := (hX r hr).2
      unfold going at hg; rw [this] at hg; exact absurd hg (by decide)
theorem step_form (F : FP) (q : QS) : ∃ X, (stepQ F q).runs = ((q.runs.map (finRun F q.at_ q.runs)).map (loseRun F q.at_)) ++ X ∧ Begun q.at_ X := by
  obtain ⟨X, e, hX⟩ := fold_ext (t := q.at_) (strtR_ext F (loseQ F (finQ F q))) F.order (loseQ F (finQ F q)).runs
  have hs : (startQ F (loseQ F (finQ F q))).runs = ((q.runs.map (finRun F q.at_ q.runs)).map (loseRun F q.at_)) ++ X := e
  unfold stepQ dblQ
  split
  · obtain ⟨Y, e2, hY⟩ := fold_ext (dblR_ext F q.at_ (startQ F (loseQ F (finQ F q))).lost) (List.range F.nX) (startQ F (loseQ F (finQ F q))).runs
    refine ⟨X ++ Y, ?_, fun r hr => ?_⟩
    · rw [← List.append_assoc, ← hs]; exact e2
    · rcases List.mem_append.1 hr with h | h
      · exact ⟨(hX r h).2.1, (hX r h).2.2.2⟩
      · exact ⟨(hY r h).2.1, (hY r h).2.2.2⟩
  · exact ⟨X, hs, fun r h => ⟨(hX r h).2.1, (hX r h).2.2.2⟩⟩

/-- nobody waited, at the moments up to t -/
def NW (F : FP) (t : Int) (R : List RR) : Prop := ∀ s, 0 ≤ s → s ≤ t → Seen F R s → NoneWaits F R s
theorem busy_cnt {F : FP} {q : QS} {hi : Int} (h : Inv F q.at_ hi q) (k : Nat) : busy q.runs k ≤ cntAt q.runs q.at_ k := by
  unfold busy cntAt
  refine countP_le_of fun r hr hx => ?_
  simp only [Bool.and_eq_true] at hx
  rw [hx.1, hx.2]
  have := (h.go r hr hx.1).1
  simp [this]
theorem none_now {F : FP} (hcov : ∀ i, i < F.nX → i ∈ F.order) {q : QS} (h : Inv F q.at_ (q.at_ + 1) q) (hQ : Quiet F q) : NoneWaits F q.runs q.at_ := by
  intro i hi ⟨a, b, c, d⟩ k hk ⟨e1, e2, e3⟩
  have hdn : q.done i = false := by
    cases hd : q.done i
    · rfl
    · obtain ⟨r, hr, h1, h2⟩ := (h.don i).1 hd
      exact absurd ⟨r, hr, h1, h2, (h.en r hr (end1_not_going h2)).2.1⟩ b
  have hra : runsAny q.runs i = false := by
    cases hra : runsAny q.runs i
    · rfl
    · unfold runsAny at hra
      rw [List.any_eq_true] at hra
      obtain ⟨r, hr, h1⟩ := hra
      simp only [Bool.and_eq_true, beq_iff_eq] at h1
      exact absurd ⟨r, hr, h1.2, (h.go r hr h1.1).1, .inl h1.1⟩ c
  have hrd : readyB F q.done i = true := List.all_eq_true.2 fun s hs => by
    obtain ⟨r, hr, h1, h2, _⟩ := a s hs
    exact (h.don s).2 ⟨r, hr, h1, h2⟩
  have hls : q.lost i < F.tries := by
    rw [h.los i]
    have : LostBy q.runs q.at_ i = q.runs.countP (isEnd 2 i) := countP_eq_of fun r hr => by
      cases he : isEnd 2 i r
      · rfl
      · simp only [isEnd, Bool.and_eq_true, beq_iff_eq] at he
        have := (h.en r hr (end2_not_going he.2)).2.1
        simp [this]
    rw [← this]; exact d
  have hcs : canS F q.done q.lost q.runs i = true := by
    unfold canS
    rw [hdn, hra, hrd]; simp [hls]
  have hcw := hQ.st i (hcov i hi) hcs k hk
  cases hf : F.fit k i
  · rfl
  · have hb := busy_cnt h k
    have : canW F q.at_ q.runs i none k = true := by
      simp only [canW, Bool.and_eq_true, decide_eq_true_eq]
      exact ⟨by simp, e1, e2, by omega, hf⟩
    rw [hcw] at this; cases this
theorem NW.step {F : FP} (hF : FFine F) (hcov : ∀ i, i < F.nX → i ∈ F.order) {q : QS} (hI : Inv F (q.at_ - 1) q.at_ q) (h : NW F (q.at_ - 1) q.runs) : NW F q.at_ (stepQ F q).runs := by
  intro s h0 hs hseen
  rcases Int.lt_or_le s q.at_ with hlt | hle
  · obtain ⟨X, e, hX⟩ := step_form F q
    rw [e] at hseen ⊢
    have hT1 := fin_turn F q.at_ q.runs
    have hT2 := lose_turn F q.at_
    have hse := hT1.seen hlt (hT2.seen hlt (seen_app hX hseen))
    exact none_app hX hlt (hT2.none hlt (hT1.none hlt (h s h0 (by omega) hse)))
  · have : s = q.at_ := by omega
    subst this
    have := none_now hcov (q := stepQ F q) (by rw [stepQ_at]; exact hI.step hF) (quiet_step F q)
    rw [stepQ_at] at this
    exact this
theorem NW.at {F : FP} {q : QS} (hI : Inv F q.at_ (q.at_ + 1) q) (h : NW F q.at_ q.runs) {n : Int} (hn : nextQ F q = some n) : NW F (n - 1) q.runs := by
  obtain ⟨n1, n2, n3⟩ := above_some hn
  intro s h0 hs hseen
  rcases Int.lt_or_le q.at_ s with hlt | hle
  · rcases hseen with e | ⟨k, hk, e⟩ | ⟨r, hr, hg, e⟩
    · have := hI.t0; omega
    · have := n3 _ (mem_candsQ.2 (.inl ⟨k, hk, .inl e⟩)) hlt
      omega
    · have := (hI.en r hr hg).2.1; omega
  · exact h s h0 hle hseen
/-- the end of a farm that was followed -/
structure FinQ (F : FP) (q : QS) : Prop where
  inv : Inv F q.at_ (q.at_ + 1) q
  ended : ∀ r ∈ q.runs, going r = false
  nw : NW F q.at_ q.runs
  from_ : ∀ k, k < F.nW → F.wfrom k ≤ q.at_
theorem trace_fin {F : FP} (hF : FFine F) (hcov : ∀ i, i < F.nX → i ∈ F.order) {q q' : QS} (h : QTrace F q q') : Inv F (q.at_ - 1) q.at_ q → NW F (q.at_ - 1) q.runs → FinQ F q' := by
  induction h with
  | last q hn =>
    intro hI hW
    have h1 := hI.step hF
    have h2 := hW.step hF hcov hI
    rw [← stepQ_at F q] at h1 h2
    refine ⟨h1, fun r hr => ?_, h2, fun k hk => above_none hn (mem_candsQ.2 (.inl ⟨k, hk, .inl rfl⟩))⟩
    cases hg : going r
    · rfl
    · have h3 := (h1.go r hr hg).2.1
      have h4 := above_none hn (mem_candsQ.2 (.inl ⟨_, (h1.named r hr).1, .inr rfl⟩))
      omega
  | more q n q' hn _ ih =>
    intro hI hW
    have h1 := hI.step hF
    have h2 := hW.step hF hcov hI
    rw [← stepQ_at F q] at h1 h2
    exact ih (h1.at hn) (NW.at h1 h2 hn)
def q0 : QS := ⟨0, [], fun _ => false, fun _ => 0⟩
def p0 : PS := ⟨0, [], [], fun _ => false, fun _ => 0, fun _ => 0, fun _ => 0⟩
theorem inv0 {F : FP} (hF : FFine F) : Inv F (q0.at_ - 1) q0.at_ q0 := by
  have ht := hF.tri
  have hs := hF.slot
  refine ⟨(fun r hr => by cases hr), Int.le_refl _, ?_, ?_, ?_, ?_, ?_, ?_, ?_, ?_, ?_, ?_, ?_, ?_, ?_, ?_, ?_, ?_⟩
  all_goals (intros; simp_all [q0, goingOf, cntAt, busy])
  all_goals first | omega | (exact hs _ (by assumption)) | skip
theorem nw0 (F : FP) : NW F (q0.at_ - 1) q0.runs := fun s h0 h1 _ => by
  have : s ≤ -1 := h1
  omega
theorem sim0 : Sim p0 q0 := ⟨List.Perm.refl _, List.Perm.refl _, fun _ => rfl, fun _ => rfl, fun _ => rfl⟩
theorem fin_of {F : FP} (hF : FFine F) (hcov : ∀ i, i < F.nX → i ∈ F.order) {q' : QS} (h : QTrace F q0 q') : FinQ F q' := trace_fin hF hcov h (inv0 hF) (nw0 F)
theorem both_end {F : FP} (hF : FFine F) (hcov : ∀ i, i < F.nX → i ∈ F.order) {p' : PS} {q' : QS} (hp : PTrace F p0 p') (hq : QTrace F q0 q') : Sim p' q' ∧ p'.out.Perm q'.runs := by
  have h := traces hF.toFOk hp hq sim0 rfl (Int.le_refl _) (fun r hr => by cases hr)
  refine ⟨h, ?_⟩
  have := h.out
  rwa [filter_all (l := q'.runs) (fun r hr => by rw [(fin_of hF hcov hq).ended r hr]; rfl)] at this

/-! ### the program's 'last' -/
structure PInv (F : FP) (p : PS) : Prop where
  t0 : 0 ≤ p.now
  go : ∀ r ∈ p.runs, going r = true
  out : ∀ r ∈ p.out, r.to_ ≤ p.now
  last : ∀ k, IsLast p.out k (p.last k)
theorem PInv.fin {F : FP} {p : PS} (h : PInv F p) : PInv F (finP F p) := by
  have hnew : ∀ r' ∈ (p.runs.filter fun r => hasDone F p.now p.runs r.work).map (finRun F p.now p.runs), r'.to_ = p.now ∧ hasDone F p.now p.runs r'.work = true := by
    intro r' hr'
    obtain ⟨r, hr, rfl⟩ := List.mem_map.1 hr'
    obtain ⟨h1, h2⟩ := List.mem_filter.1 hr
    rw [finRun_yes (by rw [h.go r h1, h2]; rfl)]
    exact ⟨rfl, h2⟩
  refine ⟨h.t0, fun r hr => h.go r (List.mem_filter.1 hr).1, fun r hr => ?_, fun k => ?_⟩
  · rcases List.mem_append.1 hr with hr | hr
    · exact h.out r hr
    · exact Int.le_of_eq (hnew r hr).1
  · show IsLast (p.out ++ _) k (if hasDone F p.now p.runs k = true then p.now else p.last k)
    obtain ⟨l1, l2⟩ := h.last k
    split
    · rename_i hk
      refine ⟨fun r hr _ _ => ?_, ?_⟩
      · rcases List.mem_append.1 hr with hr | hr
        · exact h.out r hr
        · exact Int.le_of_eq (hnew r hr).1
      · obtain ⟨r, hr, hw, hb⟩ := hasDone_ex hk
        have e := finRun_yes (F := F) (t := p.now) (R := p.runs) (r := r) (by rw [h.go r hr, hw, hk]; rfl)
        refine .inr ⟨finRun F p.now p.runs r, List.mem_append_right _ (List.mem_map_of_mem (List.mem_filter.2 ⟨hr, by rw [hw]; exact hk⟩)), (finRun_work r).1.trans hw, .inl ?_, ?_⟩
        · rw [e]; simp [hb]
        · rw [e]
    · rename_i hk
      refine ⟨fun r hr hw he => ?_, ?_⟩
      · rcases List.mem_append.1 hr with hr | hr
        · exact l1 r hr hw he
        · have := (hnew r hr).2
          rw [hw] at this; exact absurd this hk
      · rcases l2 with l2 | ⟨r, hr, l2⟩
        · exact .inl l2
        · exact .inr ⟨r, List.mem_append_left _ hr, l2⟩
theorem PInv.lose {F : FP} {p : PS} (h : PInv F p) : PInv F (loseP F p) := by
  have hnew : ∀ r' ∈ (p.runs.filter fun r => goes F r.worker p.now).map (loseRun F p.now), r'.to_ = p.now ∧ lostNow F p.now p.runs r'.work ≠ 0 := by
    intro r' hr'
    obtain ⟨r, hr, rfl⟩ := List.mem_map.1 hr'
    obtain ⟨h1, h2⟩ := List.mem_filter.1 hr
    rw [loseRun_yes (by rw [h.go r h1, h2]; rfl)]
    refine ⟨rfl, fun h0 => ?_⟩
    unfold lostNow at h0
    rw [List.countP_eq_zero] at h0
    exact h0 r h1 (by simp [h.go r h1, h2])
  refine ⟨h.t0, fun r hr => h.go r (List.mem_filter.1 hr).1, fun r hr => ?_, fun k => ?_⟩
  · rcases List.mem_append.1 hr with hr | hr
    · exact h.out r hr
    · exact Int.le_of_eq (hnew r hr).1
  · show IsLast (p.out ++ _) k (if lostNow F p.now p.runs k = 0 then p.last k else p.now)
    obtain ⟨l1, l2⟩ := h.last k
    split
    · rename_i hk
      refine ⟨fun r hr hw he => ?_, ?_⟩
      · rcases List.mem_append.1 hr with hr | hr
        · exact l1 r hr hw he
        · have := (hnew r hr).2
          rw [hw] at this; exact absurd hk this
      · rcases l2 with l2 | ⟨r, hr, l2⟩
        · exact .inl l2
        · exact .inr ⟨r, List.mem_append_left _ hr, l2⟩
    · rename_i hk
      refine ⟨fun r hr _ _ => ?_, ?_⟩
      · rcases List.mem_append.1 hr with hr | hr
        · exact h.out r hr
        · exact Int.le_of_eq (hnew r hr).1
      · have : 0 < lostNow F p.now p.runs k := Nat.pos_of_ne_zero hk
        unfold lostNow at this
        rw [List.countP_pos_iff] at this
        obtain ⟨r, hr, hc⟩ := this
        simp only [Bool.and_eq_true, beq_iff_eq] at hc
        have e := loseRun_yes (F := F) (t := p.now) (r := r) (by rw [hc.2.1, hc.2.2]; rfl)
        refine .inr ⟨loseRun F p.now r, List.mem_append_right _ (List.mem_map_of_mem (List.mem_filter.2 ⟨hr, hc.2.2⟩)), (loseRun_work r).1.trans hc.1, .inr ?_, ?_⟩ <;> rw [e]
theorem begins_going {F : FP} {t : Int} {i : Nat} {but : Option Nat} {x : List RR × (Nat → Int)} (h : ∀ r ∈ x.1, going r = true) : ∀ r ∈ (beginP F t i but x).1, going r = true := by
  unfold beginP
  split
  · exact h
  · intro r hr
    rcases List.mem_append.1 hr with hr | hr
    · exact h r hr
    · rw [List.mem_singleton.1 hr]; rfl
theorem fold_going {f : List RR × (Nat → Int) → Nat → List RR × (Nat → Int)} (hf : ∀ x i, (∀ r ∈ x.1, going r = true) → ∀ r ∈ (f x i).1, going r = true) : ∀ (o : List Nat) (x : List RR × (Nat → Int)), (∀ r ∈ x.1, going r = true) → ∀ r ∈ (o.foldl f x).1, going r = true
  | [], x, h => h
  | i :: o, x, h => fold_going hf o _ (hf x i h)
theorem PInv.step {F : FP} {p p' : PS} (h : PInv F p) (hs : PStep F p p') : PInv F p' := by
  obtain ⟨rs, hp, rfl⟩ := hs
  have h0 : PInv F { p with runs := rs } := ⟨h.t0, fun r hr => h.go r (hp.mem_iff.1 hr), h.out, h.last⟩
  have h2 := h0.fin.lose
  have h3 : PInv F (startP F (loseP F (finP F { p with runs := rs }))) := ⟨h2.t0, fold_going (fun x i hx => begins_going hx) _ _ h2.go, h2.out, h2.last⟩
  unfold dblP
  split
  · refine ⟨h3.t0, fold_going (fun x i hx => ?_) _ _ h3.go, h3.out, h3.last⟩
    unfold dblX
    split
    · split
      · exact begins_going hx
      · exact hx
    · exact hx
  · exact h3
theorem PTrace.inv {F : FP} {p p' : PS} (ht : PTrace F p p') : PInv F p → PInv F p' := by
  induction ht with
  | last p p' hs _ => exact fun h => h.step hs
  | more p p1 n p' hs hn _ ih =>
    intro h
    have h1 := h.step hs
    have := (above_some hn).2.1
    have t0 := h1.t0
    exact ih ⟨by show 0 ≤ n; omega, h1.go, fun r hr => by have := h1.out r hr; show r.to_ ≤ n; omega, h1.last⟩
theorem pinv0 (F : FP) : PInv F p0 := ⟨Int.le_refl _, fun r hr => (by cases hr), fun r hr => (by cases hr), fun k => ⟨fun r hr => (by cases hr), .inl rfl⟩⟩
theorem isLast_perm {R R' : List RR} {k : Nat} {v : Int} (h : R.Perm R') (hl : IsLast R k v) : IsLast R' k v :=
  ⟨fun r hr => hl.1 r (h.mem_iff.2 hr), hl.2.imp id fun ⟨r, hr, e⟩ => ⟨r, h.mem_iff.1 hr, e⟩⟩
end Go.Proofs.YtbnkoefljcekbaaGreatDoor

namespace Go.Proofs.YtbnkoefljcekbaaGreatDoor

theorem nodup_le : ∀ (l m : List Nat), l.Nodup → (∀ x ∈ l, x ∈ m) → l.length ≤ m.length
  | [], m, _, _ => Nat.zero_le _
  | x :: l, m, hd, hs => by
    rw [List.nodup_cons] at hd
    have h := nodup_le l (m.erase x) hd.2 (fun y hy => (List.mem_erase_of_ne (by rintro rfl; exact hd.1 hy)).2 (hs y (List.mem_cons_of_mem _ hy)))
    have hx := hs x List.mem_cons_self
    rw [List.length_erase_of_mem hx] at h
    have := List.length_pos_of_mem hx
    rw [List.length_cons]
    omega
theorem nodup_lt {n : Nat} {l : List Nat} (hd : l.Nodup) (hl : ∀ x ∈ l, x < n) : l.length ≤ n := by
  have := nodup_le l (List.range n) hd (fun x hx => List.mem_range.2 (hl x hx))
  rwa [List.length_range] at this

/-- there is a way from i to another one -/
inductive Way (g : Nat → List Nat) (i : Nat) : Nat → Prop
  | one {k : Nat} : k ∈ g i → Way g i k
  | more {j k : Nat} : Way g i j → k ∈ g j → Way g i k
theorem Way.trans {g : Nat → List Nat} {i j k : Nat} (h1 : Way g i j) (h2 : Way g j k) : Way g i k := by
  induction h2 with
  | one h => exact .more h1 h
  | more _ h ih => exact .more ih h
def Cyc (g : Nat → List Nat) (n : Nat) : Prop := ∃ i, i < n ∧ Way g i i

/-- an order in which each one stands behind those that must be done before it -/
structure Topo (g : Nat → List Nat) (n : Nat) (out : List Nat) : Prop where
  nodup : out.Nodup
  lt : ∀ i ∈ out, i < n
  pre : ∀ (a b : List Nat) (i : Nat), out = a ++ i :: b → ∀ k ∈ g i, k ∈ a
def Most (g : Nat → List Nat) (n : Nat) (out : List Nat) : Prop := ∀ i, i < n → i ∉ out → ∃ k ∈ g i, k ∉ out

theorem Topo.nil (g : Nat → List Nat) (n : Nat) : Topo g n [] := ⟨List.nodup_nil, (fun _ h => nomatch h), fun a b i h => (by cases a <;> cases h)⟩
theorem Topo.snoc {g : Nat → List Nat} {n : Nat} {out : List Nat} (h : Topo g n out) {i : Nat} (hi : i < n) (hn : i ∉ out) (hk : ∀ k ∈ g i, k ∈ out) : Topo g n (out ++ [i]) := by
  refine ⟨?_, fun j hj => ?_, fun a b j e k hkj => ?_⟩
  · rw [List.nodup_append]
    refine ⟨h.nodup, by simp, fun a ha b hb => ?_⟩
    rw [List.mem_singleton] at hb
    subst hb
    rintro rfl
    exact hn ha
  · rcases List.mem_append.1 hj with hj | hj
    · exact h.lt j hj
    · rw [List.mem_singleton] at hj
      subst hj
      exact hi
  · rcases List.eq_nil_or_concat b with rfl | ⟨b', x, rfl⟩
    · have e' := List.append_inj' e rfl
      obtain ⟨rfl, e2⟩ := e'
      injection e2 with e2
      subst e2
      exact hk k hkj
    · have e3 : out ++ [i] = (a ++ j :: b') ++ [x] := by rw [e]; simp
      have e' := List.append_inj' e3 rfl
      exact h.pre a b' j e'.1 k hkj

theorem Topo.way {g : Nat → List Nat} {n : Nat} {out : List Nat} (h : Topo g n out) {a b : List Nat} {i k : Nat} (e : out = a ++ i :: b) (hw : Way g i k) : k ∈ a := by
  induction hw with
  | one hk => exact h.pre a b i e _ hk
  | more _ hk ih =>
    obtain ⟨a1, a2, rfl⟩ := List.append_of_mem ih
    have := h.pre a1 (a2 ++ i :: b) _ (by rw [e]; simp) _ hk
    exact List.mem_append.2 (.inl this)
theorem Topo.all {g : Nat → List Nat} {n : Nat} {out : List Nat} (h : Topo g n out) (hl : out.length = n) {i : Nat} (hi : i < n) : i ∈ out := by
  by_cases hm : i ∈ out
  · exact hm
  · have := nodup_lt (n := n) (l := i :: out) (List.nodup_cons.2 ⟨hm, h.nodup⟩) (fun x hx => by
      rcases List.mem_cons.1 hx with rfl | hx
      · exact hi
      · exact h.lt x hx)
    rw [List.length_cons] at this
    omega
theorem Topo.no_cyc {g : Nat → List Nat} {n : Nat} {out : List Nat} (h : Topo g n out) (hl : out.length = n) : ¬ Cyc g n := by
  rintro ⟨i, hi, hw⟩
  obtain ⟨a, b, e⟩ := List.append_of_mem (h.all hl hi)
  have hia := h.way e hw
  have := h.nodup
  rw [e, List.nodup_append] at this
  exact this.2.2 i hia i List.mem_cons_self rfl

theorem chain {g : Nat → List Nat} {n : Nat} {out : List Nat} (hg : ∀ i, i < n → ∀ k ∈ g i, k < n) (hm : Most g n out) (hno : ¬ Cyc g n) {i0 : Nat} (h0 : i0 < n) (h1 : i0 ∉ out) :
    ∀ t : Nat, ∃ (h : Nat) (c : List Nat), c.length = t ∧ (h :: c).Nodup ∧ (∀ x ∈ h :: c, x < n) ∧ h ∉ out ∧ ∀ x ∈ c, Way g x h
  | 0 => ⟨i0, [], rfl, by simp, fun x hx => by rw [List.mem_singleton] at hx; subst hx; exact h0, h1, fun x hx => by cases hx⟩
  | t + 1 => by
    obtain ⟨h, c, hl, hd, hlt, hh, hw⟩ := chain hg hm hno h0 h1 t
    have hhn := hlt h List.mem_cons_self
    obtain ⟨k, hk, hko⟩ := hm h hhn hh
    have hkn := hg h hhn k hk
    have hw2 : ∀ x ∈ h :: c, Way g x k := fun x hx => by
      rcases List.mem_cons.1 hx with rfl | hx
      · exact .one hk
      · exact .more (hw x hx) hk
    refine ⟨k, h :: c, by rw [List.length_cons, hl], List.nodup_cons.2 ⟨fun hin => hno ⟨k, hkn, hw2 k hin⟩, hd⟩, fun x hx => ?_, hko, hw2⟩
    rcases List.mem_cons.1 hx with rfl | hx
    · exact hkn
    · exact hlt x hx
theorem most_cyc {g : Nat → List Nat} {n : Nat} {out : List Nat} (hg : ∀ i, i < n → ∀ k ∈ g i, k < n) (h : Topo g n out) (hm : Most g n out) (hl : out.length ≠ n) : Cyc g n := by
  apply Classical.byContradiction
  intro hno
  have : ∃ i0, i0 < n ∧ i0 ∉ out := by
    apply Classical.byContradiction
    intro hall
    have h1 := nodup_le (List.range n) out List.nodup_range (fun x hx => by
      apply Classical.byContradiction
      intro hx2
      exact hall ⟨x, List.mem_range.1 hx, hx2⟩)
    rw [List.length_range] at h1
    have := nodup_lt h.nodup h.lt
    omega
  obtain ⟨i0, h0, h1⟩ := this
  obtain ⟨x, c, hlc, hd, hlt, _⟩ := chain hg hm hno h0 h1 n
  have := nodup_lt hd hlt
  rw [List.length_cons] at this
  omega
theorem topo_iff {g : Nat → List Nat} {n : Nat} {out : List Nat} (hg : ∀ i, i < n → ∀ k ∈ g i, k < n) (h : Topo g n out) (hm : Most g n out) : out.length = n ↔ ¬ Cyc g n :=
  ⟨h.no_cyc, fun hno => Classical.byContradiction fun hl => hno (most_cyc hg h hm hl)⟩

end Go.Proofs.YtbnkoefljcekbaaGreatDoor

namespace Go.Proofs.YtbnkoefljcekbaaGreatDoor

theorem dropWhile_nil_iff {α : Type} (p : α → Bool) : ∀ l : List α, (l.dropWhile p = []) ↔ l.all p = true
  | [] => by simp
  | x :: r => by
    have ih := dropWhile_nil_iff p r
    cases hx : p x
    · simp [hx]
    · simp [hx, ih]
theorem dropWhile_head {α : Type} (p : α → Bool) : ∀ (l : List α) (x : α) (r : List α), l.dropWhile p = x :: r → p x = false
  | [], x, r, h => by cases h
  | y :: l, x, r, h => by
    rw [List.dropWhile_cons] at h
    split at h
    · exact dropWhile_head p l x r h
    · rename_i hy
      simp only [List.cons.injEq] at h
      rw [← h.1]
      simpa using hy

/-- Trim leaves nothing just if all bytes are in the set -/
theorem trimS_nil (l cs : List UInt8) : (Lib.trimS l cs = []) ↔ l.all (cs.contains ·) = true := by
  unfold Lib.trimS Lib.trimLeftS Lib.trimRightS
  rw [dropWhile_nil_iff]
  constructor
  · intro h
    rw [List.all_reverse] at h
    have : l.reverse.dropWhile (cs.contains ·) = [] := by
      cases hd : l.reverse.dropWhile (cs.contains ·) with
      | nil => rfl
      | cons x r =>
        have hx := dropWhile_head _ _ _ _ hd
        rw [hd] at h
        simp only [List.all_cons, Bool.and_eq_true] at h
        rw [h.1] at hx
        cases hx
    rw [dropWhile_nil_iff, List.all_reverse] at this
    exact this
  · intro h
    rw [← List.all_reverse, ← dropWhile_nil_iff] at h
    rw [h]
    rfl

theorem byte_all {p : UInt8 → Bool} (h : (List.range 256).all (fun n => p (UInt8.ofNat n)) = true) (b : UInt8) : p b = true := by
  have hb : b.toNat < 256 := b.toNat_lt
  have := List.all_eq_true.1 h b.toNat (List.mem_range.2 hb)
  rwa [UInt8.ofNat_toNat] at this
end Go.Proofs.YtbnkoefljcekbaaGreatDoor

namespace Go.Proofs.YtbnkoefljcekbaaGreatDoor
open Go.RowKit
set_option linter.unusedVariables false

def cmpB : List UInt8 → List UInt8 → Int := Lib.compareBytes

theorem cmpB_zero : ∀ a b : List UInt8, cmpB a b = 0 ↔ a = b
  | [], [] => by simp [cmpB, Lib.compareBytes]
  | [], _ :: _ => by simp [cmpB, Lib.compareBytes]
  | _ :: _, [] => by simp [cmpB, Lib.compareBytes]
  | x :: r, y :: s => by
    have ih := cmpB_zero r s
    unfold cmpB at ih ⊢
    unfold Lib.compareBytes
    by_cases h : x < y
    · simp only [if_pos h, List.cons.injEq]
      exact ⟨fun h => (by cases h), fun h' => by rw [h'.1] at h; exact absurd h (by simp)⟩
    · by_cases h2 : y < x
      · simp only [if_neg h, if_pos h2, List.cons.injEq]
        exact ⟨fun h => (by cases h), fun h' => by rw [h'.1] at h2; exact absurd h2 (by simp)⟩
      · rw [if_neg h, if_neg h2, ih]
        have : x = y := by
          have h1 : y ≤ x := UInt8.not_lt.1 h
          have h3 : x ≤ y := UInt8.not_lt.1 h2
          exact UInt8.le_antisymm h3 h1
        simp [this]
theorem cmpB_swap : ∀ a b : List UInt8, cmpB b a = - cmpB a b
  | [], [] => by simp [cmpB, Lib.compareBytes]
  | [], _ :: _ => by simp [cmpB, Lib.compareBytes]
  | _ :: _, [] => by simp [cmpB, Lib.compareBytes]
  | x :: r, y :: s => by
    have ih := cmpB_swap r s
    unfold cmpB at ih ⊢
    unfold Lib.compareBytes
    by_cases h : x < y
    · have h2 : ¬ y < x := fun h2 => by have := UInt8.lt_trans h h2; simp at this
      rw [if_pos h, if_neg h2, if_pos h]; rfl
    · by_cases h2 : y < x
      · rw [if_pos h2, if_neg h, if_pos h2]
      · rw [if_neg h2, if_neg h, if_neg h, if_neg h2, ih]
theorem cmpB_range : ∀ a b : List UInt8, cmpB a b = -1 ∨ cmpB a b = 0 ∨ cmpB a b = 1
  | [], [] => by simp [cmpB, Lib.compareBytes]
  | [], _ :: _ => by simp [cmpB, Lib.compareBytes]
  | _ :: _, [] => by simp [cmpB, Lib.compareBytes]
  | x :: r, y :: s => by
    have ih := cmpB_range r s
    unfold cmpB at ih ⊢
    unfold Lib.compareBytes
    split
    · exact Or.inl rfl
    · split
      · exact Or.inr (Or.inr rfl)
      · exact ih
theorem cmpB_trans : ∀ a b c : List UInt8, cmpB a b = -1 → cmpB b c = -1 → cmpB a c = -1
  | [], [], c, h, _ => by simp [cmpB, Lib.compareBytes] at h
  | [], _ :: _, [], _, h => by simp [cmpB, Lib.compareBytes] at h
  | [], _ :: _, _ :: _, _, _ => by simp [cmpB, Lib.compareBytes]
  | _ :: _, [], _, h, _ => by simp [cmpB, Lib.compareBytes] at h
  | _ :: _, _ :: _, [], _, h => by simp [cmpB, Lib.compareBytes] at h
  | x :: r, y :: s, z :: t, h1, h2 => by
    have ih := cmpB_trans r s t
    unfold cmpB at ih h1 h2 ⊢
    unfold Lib.compareBytes at h1 h2 ⊢
    by_cases a : x < y
    · by_cases b : y < z
      · rw [if_pos (UInt8.lt_trans a b)]
      · rw [if_neg b] at h2
        by_cases b2 : z < y
        · rw [if_pos b2] at h2; cases h2
        · have : y = z := UInt8.le_antisymm (UInt8.not_lt.1 b2) (UInt8.not_lt.1 b)
          subst this
          rw [if_pos a]
    · rw [if_neg a] at h1
      by_cases a2 : y < x
      · rw [if_pos a2] at h1; cases h1
      · have : x = y := UInt8.le_antisymm (UInt8.not_lt.1 a2) (UInt8.not_lt.1 a)
        subst this
        rw [if_neg a2] at h1
        by_cases b : x < z
        · rw [if_pos b]
        · rw [if_neg b] at h2 ⊢
          by_cases b2 : z < x
          · rw [if_pos b2] at h2; cases h2
          · rw [if_neg b2] at h2 ⊢
            exact ih h1 h2
theorem less_cmpB : ∀ a b : List UInt8, Op.bytesLess a b = decide (cmpB a b = -1)
  | [], [] => by simp [cmpB, Lib.compareBytes, Op.bytesLess]
  | [], _ :: _ => by simp [cmpB, Lib.compareBytes, Op.bytesLess]
  | _ :: _, [] => by simp [cmpB, Lib.compareBytes, Op.bytesLess]
  | x :: r, y :: s => by
    have ih := less_cmpB r s
    unfold cmpB at ih ⊢
    unfold Lib.compareBytes
    rw [Op.bytesLess, ih]
    by_cases h : x < y
    · simp [h]
    · by_cases h2 : y < x
      · have hne : (x == y) = false := by
          rw [beq_eq_false_iff_ne]; intro e; rw [e] at h2; simp at h2
        simp [h, h2, hne]
      · have : x = y := UInt8.le_antisymm (UInt8.not_lt.1 h2) (UInt8.not_lt.1 h)
        subst this
        simp

/-- Go's <= on strings -/
def sle (a b : ByteArray) : Bool := Op.bytesLess a.toList b.toList || a.toList == b.toList

theorem cell_new (w : World) (cs : Array Value) (t : TypeId) (j : Nat) : (w.alloc (.cells cs t)).cell? ⟨w.heap.size, j, none⟩ = cs[j]? := by
  simp [go_sem]

/-- Go's order of strings -/
def cmpS (a b : ByteArray) : Int := cmpB a.data.toList b.data.toList
def ltS (a b : ByteArray) : Bool := Op.bytesLess a.toList b.toList
theorem ltS_cmp (a b : ByteArray) : ltS a b = decide (cmpS a b = -1) := by rw [ltS, Lib.toList_data, Lib.toList_data, less_cmpB]; rfl
theorem cmpS_zero (a b : ByteArray) : cmpS a b = 0 ↔ a = b := by
  rw [cmpS, cmpB_zero]
  constructor
  · intro h
    cases a; cases b
    simpa using h
  · rintro rfl; rfl
theorem cmpS_swap (a b : ByteArray) : cmpS b a = - cmpS a b := cmpB_swap _ _
theorem cmpS_range (a b : ByteArray) : cmpS a b = -1 ∨ cmpS a b = 0 ∨ cmpS a b = 1 := cmpB_range _ _
theorem cmpS_trans {a b c : ByteArray} : cmpS a b = -1 → cmpS b c = -1 → cmpS a c = -1 := cmpB_trans _ _ _
theorem sle_cmp (a b : ByteArray) : sle a b = decide (cmpS a b ≤ 0) := by
  have h1 : (a.toList == b.toList) = decide (cmpS a b = 0) := by
    rw [Bool.eq_iff_iff, beq_iff_eq, decide_eq_true_iff, Lib.toList_data, Lib.toList_data, cmpS, cmpB_zero]
  have h2 := ltS_cmp a b
  unfold ltS at h2
  rw [sle, h1, h2]
  rcases cmpS_range a b with h | h | h <;> rw [h] <;> decide
theorem beq_data (a b : ByteArray) : (a.toList == b.toList) = decide (a = b) := by
  rw [Bool.eq_iff_iff, beq_iff_eq, decide_eq_true_iff, Lib.toList_data, Lib.toList_data]
  constructor
  · intro h
    cases a; cases b
    simpa using h
  · rintro rfl; rfl
theorem bne_data {a b : ByteArray} (h : ¬ a = b) : (!a.toList == b.toList) = true := by rw [beq_data, decide_eq_false h]; rfl
theorem nbne_data {a b : ByteArray} (h : a = b) : (!a.toList == b.toList) = false := by rw [beq_data, decide_eq_true h]; rfl
end Go.Proofs.YtbnkoefljcekbaaGreatDoor

namespace Go.Proofs.YtbnkoefljcekbaaGreatDoor
set_option linter.unusedVariables false

section
variable (g : Nat → List Nat) (sz : Nat → Int)
/-- m is the greatest of C over those of P that come behind j -/
structure MaxOf (P : Nat → Prop) (C : Nat → Int) (j : Nat) (m : Int) : Prop where
  nn : 0 ≤ m
  up : ∀ k, P k → j ∈ g k → C k ≤ m
  at_ : m = 0 ∨ ∃ k, P k ∧ j ∈ g k ∧ m = C k
def Crit (N : Nat) (C : Nat → Int) : Prop := ∀ j, j < N → ∃ m, MaxOf g (· < N) C j m ∧ C j = sz j + m
variable {g sz}
theorem MaxOf.uniq {P : Nat → Prop} {C : Nat → Int} {j : Nat} {m m' : Int} (h : MaxOf g P C j m) (h' : MaxOf g P C j m') : m = m' := by
  have key : ∀ {m m' : Int}, MaxOf g P C j m → MaxOf g P C j m' → m ≤ m' := fun h h' => by
    rcases h.at_ with e | ⟨k, a, b, e⟩
    · rw [e]; exact h'.nn
    · rw [e]; exact h'.up k a b
  exact Int.le_antisymm (key h h') (key h' h)
theorem MaxOf.congr {P Q : Nat → Prop} {C D : Nat → Int} {j : Nat} {m : Int} (h : MaxOf g P C j m) (hP : ∀ k, j ∈ g k → (P k ↔ Q k)) (hC : ∀ k, P k → j ∈ g k → C k = D k) : MaxOf g Q D j m :=
  ⟨h.nn, fun k hk hj => by have hp := (hP k hj).2 hk; rw [← hC k hp hj]; exact h.up k hp hj, h.at_.imp id fun ⟨k, a, b, e⟩ => ⟨k, (hP k b).1 a, b, by rw [e]; exact hC k a b⟩⟩
theorem max_ex (C : Nat → Int) (j : Nat) : ∀ b : List Nat, ∃ m, MaxOf g (· ∈ b) C j m
  | [] => ⟨0, Int.le_refl _, fun k hk => (by cases hk), .inl rfl⟩
  | x :: r => by
    obtain ⟨m, h1, h2, h3⟩ := max_ex C j r
    by_cases hx : j ∈ g x
    · by_cases hm : m ≤ C x
      · refine ⟨C x, by omega, fun k hk hj => ?_, .inr ⟨x, List.mem_cons_self, hx, rfl⟩⟩
        rcases List.mem_cons.1 hk with rfl | hk
        · exact Int.le_refl _
        · have := h2 k hk hj; omega
      · refine ⟨m, h1, fun k hk hj => ?_, h3.imp id fun ⟨k, a, b, e⟩ => ⟨k, List.mem_cons_of_mem _ a, b, e⟩⟩
        rcases List.mem_cons.1 hk with rfl | hk
        · omega
        · exact h2 k hk hj
    · refine ⟨m, h1, fun k hk hj => ?_, h3.imp id fun ⟨k, a, b, e⟩ => ⟨k, List.mem_cons_of_mem _ a, b, e⟩⟩
      rcases List.mem_cons.1 hk with rfl | hk
      · exact absurd hj hx
      · exact h2 k hk hj
/-- of an order of all: who comes behind i by g stands behind it -/
theorem topo_behind {N : Nat} {out a b : List Nat} {i k : Nat} (h : Topo g N out) (hl : out.length = N) (e : out = a ++ i :: b) (hk : k < N) (hi : i ∈ g k) : k ∈ b := by
  have hko := h.all hl hk
  obtain ⟨c, d, e2⟩ := List.append_of_mem hko
  have hic : i ∈ c := h.way e2 (.one hi)
  have hnd := h.nodup
  rw [e] at hko
  rcases List.mem_append.1 hko with hka | hkb
  · -- k stands ahead of i: then i would stand twice
    exfalso
    obtain ⟨a1, a2, ea⟩ := List.append_of_mem hka
    have e3 : out = a1 ++ k :: (a2 ++ i :: b) := by rw [e, ea]; simp
    have hia : i ∈ a1 := h.way e3 (.one hi)
    rw [e3] at hnd
    have := (List.nodup_append.1 hnd).2.2 i hia i (by simp)
    exact this rfl
  · rcases List.mem_cons.1 hkb with rfl | hkb
    · exfalso
      have hia : k ∈ a := h.way e (.one hi)
      rw [e] at hnd
      exact (List.nodup_append.1 hnd).2.2 k hia k (by simp) rfl
    · exact hkb
theorem crit_uniq {N : Nat} {out : List Nat} (h : Topo g N out) (hl : out.length = N) {C D : Nat → Int} (hC : Crit g sz N C) (hD : Crit g sz N D) : ∀ j, j < N → C j = D j := by
  have key : ∀ (b a : List Nat), out = a ++ b → ∀ j ∈ b, C j = D j := by
    intro b
    induction b with
    | nil => intro a _ j hj; cases hj
    | cons i b ih =>
      intro a e j hj
      have ihb := ih (a ++ [i]) (by rw [e]; simp)
      rcases List.mem_cons.1 hj with rfl | hj
      · have hjN : j < N := h.lt j (by rw [e]; simp)
        obtain ⟨m, h1, h2⟩ := hC j hjN
        obtain ⟨m', h3, h4⟩ := hD j hjN
        have := (h1.congr (Q := (· < N)) (D := D) (fun _ _ => Iff.rfl) fun k hk hjk => ihb k (topo_behind h hl e hk hjk)).uniq h3
        rw [h2, h4, this]
      · exact ihb j hj
  exact fun j hj => key out [] rfl j (h.all hl hj)
theorem crit_ex {N : Nat} {out : List Nat} (h : Topo g N out) (hl : out.length = N) {B : Int} (hs : ∀ i, i < N → 0 ≤ sz i ∧ sz i ≤ B) (hB : 0 ≤ B) : ∃ C, Crit g sz N C ∧ ∀ j, j < N → 0 ≤ C j ∧ C j ≤ B * (N : Int) := by
  have key : ∀ (b a : List Nat), out = a ++ b → ∃ C : Nat → Int, (∀ j ∈ b, ∃ m, MaxOf g (· ∈ b) C j m ∧ C j = sz j + m) ∧ ∀ j ∈ b, 0 ≤ C j ∧ C j ≤ B * (b.length : Int) := by
    intro b
    induction b with
    | nil => exact fun a _ => ⟨fun _ => 0, fun j hj => (by cases hj), fun j hj => (by cases hj)⟩
    | cons i b ih =>
      intro a e
      obtain ⟨C, hC, hCb⟩ := ih (a ++ [i]) (by rw [e]; simp)
      obtain ⟨m, hm⟩ := max_ex (g := g) C i b
      have hiN : i < N := h.lt i (by rw [e]; simp)
      have hib : i ∉ b := fun hi => by
        have hnd := h.nodup
        rw [e] at hnd
        exact (List.nodup_cons.1 (List.nodup_append.1 hnd).2.1).1 hi
      have hlen : B * ((i :: b).length : Int) = B * (b.length : Int) + B := by rw [List.length_cons, Int.natCast_add, Int.mul_add]; simp
      have hmb : m ≤ B * (b.length : Int) := by
        rcases hm.at_ with e0 | ⟨k, hk, _, e0⟩
        · rw [e0]; exact Int.mul_nonneg hB (by omega)
        · rw [e0]; exact (hCb k hk).2
      have hno : ∀ j ∈ i :: b, ∀ k, j ∈ g k → (k ∈ i :: b → j = i ∨ k ∈ b) := fun j hj k hk hkb => by
        rcases List.mem_cons.1 hkb with rfl | hkb
        · exfalso
          have hja : j ∈ a := h.pre a b k e j hk
          have hnd := h.nodup
          rw [e] at hnd
          exact (List.nodup_append.1 hnd).2.2 j hja j hj rfl
        · exact .inr hkb
      obtain ⟨C', hi, ho⟩ : ∃ C' : Nat → Int, C' i = sz i + m ∧ ∀ j, j ≠ i → C' j = C j := ⟨fun j => if j = i then sz i + m else C j, by simp, fun j h => by simp [h]⟩
      have hbC : ∀ k, k ∈ b → C k = C' k := fun k hk => (ho k (fun e2 => hib (by rw [← e2]; exact hk))).symm
      refine ⟨C', fun j hj => ?_, fun j hj => ?_⟩
      · by_cases hji : j = i
        · subst hji
          refine ⟨m, hm.congr (fun k hk => ⟨fun hb => List.mem_cons_of_mem _ hb, fun hb => ?_⟩) (fun k hk _ => hbC k hk), hi⟩
          rcases List.mem_cons.1 hb with rfl | hb
          · exact topo_behind h hl e hiN hk
          · exact hb
        · have hjb : j ∈ b := (List.mem_cons.1 hj).resolve_left hji
          obtain ⟨m2, h1, h2⟩ := hC j hjb
          exact ⟨m2, h1.congr (fun k hk => ⟨fun hb => List.mem_cons_of_mem _ hb, fun hb => (hno j hj k hk hb).resolve_left hji⟩) (fun k hk _ => hbC k hk), by rw [ho j hji]; exact h2⟩
      · rw [hlen]
        have h5 := hs i hiN
        by_cases hji : j = i
        · subst hji; rw [hi]; have := hm.nn; omega
        · rw [ho j hji]
          have := hCb j ((List.mem_cons.1 hj).resolve_left hji)
          omega
  obtain ⟨C, h1, h2⟩ := key out [] rfl
  refine ⟨C, fun j hj => ?_, fun j hj => by have := h2 j (h.all hl hj); rw [hl] at this; exact this⟩
  obtain ⟨m, a, b⟩ := h1 j (h.all hl hj)
  exact ⟨m, a.congr (fun k _ => ⟨fun hk => h.lt k hk, fun hk => h.all hl hk⟩) (fun _ _ _ => rfl), b⟩
end
end Go.Proofs.YtbnkoefljcekbaaGreatDoor

namespace Go.Proofs.YtbnkoefljcekbaaGreatDoor
set_option linter.unusedVariables false

section
variable (g : Nat → List Nat) (sz : Nat → Int)
def gt (S : List Int) (k : Nat) : Int := S.getD k 0
/-- the number of work i when the first k works are looked through -/
def nS (S : List Int) (i : Nat) : Nat → Int
  | 0 => sz i
  | k + 1 => if i ∈ g k then max (nS S i k) (sz i + gt S k) else nS S i k
variable {g sz}
theorem gt_set {S : List Int} {i : Nat} (h : i < S.length) (x : Int) (k : Nat) : gt (S.set i x) k = if k = i then x else gt S k := by
  unfold gt
  rw [List.getD_eq_getElem?_getD, List.getElem?_set]
  by_cases e : i = k
  · subst e; rw [if_pos rfl, if_pos h, if_pos rfl]; rfl
  · rw [if_neg e, if_neg (fun h => e h.symm), List.getD_eq_getElem?_getD]
theorem nS_ge (S : List Int) (i : Nat) : ∀ k, sz i ≤ nS g sz S i k
  | 0 => Int.le_refl _
  | k + 1 => by
    have := nS_ge S i k
    unfold nS
    split <;> omega
theorem nS_at (S : List Int) (i : Nat) : ∀ n, nS g sz S i n = sz i ∨ ∃ k, k < n ∧ i ∈ g k ∧ nS g sz S i n = sz i + gt S k
  | 0 => .inl rfl
  | n + 1 => by
    unfold nS
    by_cases h : i ∈ g n
    · rw [if_pos h]
      by_cases hm : nS g sz S i n ≤ sz i + gt S n
      · exact .inr ⟨n, by omega, h, by omega⟩
      · rcases nS_at S i n with e | ⟨k, a, b, e⟩
        · exact .inl (by omega)
        · exact .inr ⟨k, by omega, b, by omega⟩
    · rw [if_neg h]
      exact (nS_at S i n).imp id fun ⟨k, a, b, e⟩ => ⟨k, by omega, b, e⟩
theorem nS_mono {S S' : List Int} (h : ∀ k, gt S k ≤ gt S' k) (i : Nat) : ∀ n, nS g sz S i n ≤ nS g sz S' i n
  | 0 => Int.le_refl _
  | n + 1 => by
    have a := nS_mono h i n
    have b := h n
    unfold nS
    split <;> omega
/-- what holds all along: no more than the longest ways C, and a pass lowers nothing -/
structure Pass (g : Nat → List Nat) (sz : Nat → Int) (N : Nat) (C : Nat → Int) (S : List Int) : Prop where
  len : S.length = N
  nn : ∀ k, 0 ≤ gt S k
  le : ∀ k, k < N → gt S k ≤ C k
  pre : ∀ k, k < N → gt S k ≤ nS g sz S k N
theorem Pass.nS_le {N : Nat} {C : Nat → Int} {S : List Int} (h : Pass g sz N C S) (hC : Crit g sz N C) {i : Nat} (hi : i < N) : nS g sz S i N ≤ C i := by
  obtain ⟨m, h1, h2⟩ := hC i hi
  rcases nS_at (g := g) (sz := sz) S i N with e | ⟨k, a, b, e⟩
  · have := h1.nn; omega
  · have := h1.up k a b; have := h.le k a; omega
theorem Pass.put {N : Nat} {C : Nat → Int} {S : List Int} (h : Pass g sz N C S) (hC : Crit g sz N C) (hs : ∀ i, i < N → 0 ≤ sz i) {i : Nat} (hi : i < N) : Pass g sz N C (S.set i (nS g sz S i N)) := by
  have hl : i < S.length := by rw [h.len]; exact hi
  have hge : ∀ k, gt S k ≤ gt (S.set i (nS g sz S i N)) k := fun k => by
    rw [gt_set hl]
    split
    · rename_i e; subst e; exact h.pre k hi
    · exact Int.le_refl _
  refine ⟨by rw [List.length_set]; exact h.len, fun k => Int.le_trans (h.nn k) (hge k), fun k hk => ?_, fun k hk => ?_⟩
  · rw [gt_set hl]
    split
    · rename_i e; subst e; exact h.nS_le hC hi
    · exact h.le k hk
  · have := nS_mono (g := g) (sz := sz) hge k N
    rw [gt_set hl]
    split
    · rename_i e; subst e; exact this
    · exact Int.le_trans (h.pre k hk) this
theorem Pass.zero {N : Nat} {C : Nat → Int} (hC : Crit g sz N C) (hs : ∀ i, i < N → 0 ≤ sz i) : Pass g sz N C (List.replicate N 0) := by
  have h0 : ∀ k, gt (List.replicate N (0 : Int)) k = 0 := fun k => by
    unfold gt
    rw [List.getD_eq_getElem?_getD]
    by_cases h : k < N
    · rw [List.getElem?_replicate, if_pos h]; rfl
    · rw [List.getElem?_eq_none (by simp; omega)]; rfl
  refine ⟨by simp, fun k => by rw [h0]; exact Int.le_refl _, fun k hk => ?_, fun k hk => ?_⟩
  · rw [h0]
    obtain ⟨m, h1, h2⟩ := hC k hk
    have := h1.nn; have := hs k hk; omega
  · rw [h0]; have := nS_ge (g := g) (sz := sz) (List.replicate N 0) k N; have := hs k hk; omega
end
end Go.Proofs.YtbnkoefljcekbaaGreatDoor

namespace Go.Proofs.YtbnkoefljcekbaaGreatDoor
open Go.ChangeShapes Go.WideShapes Go.Deep Go.RowKit
set_option linter.unusedVariables false

theorem elem_IntQ : Elem Tryz.prog 3 1 8 := elem_of (z := .int .i64 0) (by kernel_rfl) (by decide)

/-- from place off on of block g, made from block 'base' on, there are the numbers l -/
def Que (w : World) (base g off n cap : Nat) (l : List Int) : Prop :=
  l.length = n ∧ base ≤ g ∧ n ≤ cap ∧ cap ≤ maxLen ∧ (∀ x ∈ l, I64 x) ∧ ∃ cur : Array Value, w.heap[g]? = some (.cells cur 3 (0, 0)) ∧ off + cap ≤ cur.size ∧ ∀ i x, l[i]? = some x → cur[off + i]? = some (.int .i64 x)

section
variable {w w' : World} {base g off n cap : Nat} {l : List Int}
theorem Que.lt (h : Que w base g off n cap l) : g < w.heap.size := by
  obtain ⟨_, _, _, _, _, cur, hg, _⟩ := h
  rcases Nat.lt_or_ge g w.heap.size with h | h
  · exact h
  · rw [Array.getElem?_eq_none h] at hg; cases hg
theorem Que.cell (h : Que w base g off n cap l) {i : Nat} {x : Int} (hx : l[i]? = some x) : w.cell? ⟨g, off + i, none⟩ = some (.int .i64 x) := by
  obtain ⟨_, _, _, _, _, cur, hg, _, hc⟩ := h
  rw [cell_of_row w g _ cur 3 (0, 0) hg]
  exact hc i x hx
theorem Que.kept {row : Option Nat} (h : Que w base g off n cap l) (hg : w.grownBy w' row) (hne : some g ≠ row) : Que w' base g off n cap l := by
  have hlt := h.lt
  obtain ⟨h1, h2, h3, h4, h5, cur, h6, h7⟩ := h
  exact ⟨h1, h2, h3, h4, h5, cur, (hg.block g hlt hne).trans h6, h7⟩
theorem Que.below (h : Que w base g off n cap l) (hb : Below w.heap.size w w') : Que w' base g off n cap l := by
  have hlt := h.lt
  obtain ⟨h1, h2, h3, h4, h5, cur, h6, h7⟩ := h
  exact ⟨h1, h2, h3, h4, h5, cur, (hb.block g hlt).trans h6, h7⟩
theorem Que.set (h : Que w base g off n cap l) {a : Addr} (hne : g ≠ a.block) (u : Value) : Que (w.setCell a u) base g off n cap l := by
  obtain ⟨h1, h2, h3, h4, h5, cur, h6, h7⟩ := h
  exact ⟨h1, h2, h3, h4, h5, cur, (heap_setCell_other w a g u hne).trans h6, h7⟩
theorem Que.tail {x : Int} {r : List Int} (h : Que w base g off n cap (x :: r)) : Que w base g (off + 1) (n - 1) (cap - 1) r := by
  obtain ⟨h1, h2, h3, h4, h5, cur, h6, h7, h8⟩ := h
  rw [List.length_cons] at h1
  refine ⟨by omega, h2, by omega, by omega, fun y hy => h5 y (List.mem_cons_of_mem _ hy), cur, h6, by omega, fun i y hy => ?_⟩
  have := h8 (i + 1) y (by simpa using hy)
  rwa [show off + 1 + i = off + (i + 1) by omega]
theorem Que.last {x : Int} {r : List Int} (h : Que w base g off n cap (x :: r)) (hc : cap = 1) : r = [] ∧ n = 1 ∧ Que w base g off 0 0 [] := by
  obtain ⟨h1, h2, h3, h4, h5, cur, h6, h7, h8⟩ := h
  rw [List.length_cons] at h1
  have hr : r = [] := List.eq_nil_of_length_eq_zero (by omega)
  subst hr
  exact ⟨rfl, by omega, rfl, h2, Nat.le_refl _, Nat.zero_le _, (fun _ h => nomatch h), cur, h6, by omega, fun i y hy => by cases hy⟩
/-- a new row of one number -/
theorem Que.one (w : World) (x : Int) (hx : I64 x) : Que (w.alloc (.cells #[.int .i64 x] 3)) w.heap.size w.heap.size 0 1 1 [x] :=
  ⟨rfl, Nat.le_refl _, Nat.le_refl _, by simp only [maxLen]; omega, fun y hy => by rw [List.mem_singleton] at hy; subst hy; exact hx, _, heap_alloc_new w _, Nat.le_refl _, fun i y hy => by
    cases i with
    | zero => simp at hy; subst hy; rfl
    | succ i => simp at hy⟩

end
end Go.Proofs.YtbnkoefljcekbaaGreatDoor

namespace Go.Proofs.YtbnkoefljcekbaaGreatDoor
set_option linter.unusedVariables false

def secOf (cs : List TestCase) (s : ByteArray) : Option Int := (cs.find? fun c => decide (c.name = s)).map (·.seconds)
def Names (cs : List TestCase) : Prop := (cs.map (·.name)).Nodup
theorem Names.take {cs : List TestCase} (h : Names cs) (k : Nat) : Names (cs.take k) := by unfold Names; rw [List.map_take]; exact List.Sublist.nodup (List.take_sublist _ _) h
def val (cs : List TestCase) (s : ByteArray) : Int := (secOf cs s).getD 0
end Go.Proofs.YtbnkoefljcekbaaGreatDoor
