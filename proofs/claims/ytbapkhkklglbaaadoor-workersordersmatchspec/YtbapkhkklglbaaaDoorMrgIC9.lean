/-
  symMerge for rows of every length; rows cut into sorted blocks: in plain words.
-/
import Derived.Test.YtbapkhkklglbaaaDoorSym3IC9
namespace Go.Proofs.YtbapkhkklglbaaaDoor.C9
open Go.ChangeShapes Go.WideShapes Go.Deep Go.RowKit
set_option linter.unusedVariables false

theorem merge_any (C : CC) (b off n cap : Nat) (hn : n ≤ 1000000000) : ∀ k, MgHyp C b off n cap k := by
  intro k
  induction k with
  | zero =>
    intro P L R S a m e w hP hm he hk h1 h2 hsL hsR hrow
    exfalso; omega
  | succ k ih =>
    intro P L R S a m e w hP hm he hk h1 h2 hsL hsR hrow
    by_cases hl : L.length = 1
    · obtain ⟨x, rfl⟩ := List.length_eq_one_iff.1 hl
      exact merge1 C b off n cap P R S x a m e w hP (by rw [hm, hl]) he hn hsR hrow
    · by_cases hr : R.length = 1
      · obtain ⟨y, rfl⟩ := List.length_eq_one_iff.1 hr
        exact merge2 C b off n cap P L S y a m e w hP hm (by omega) (by rw [he, hr]) hn hsL hrow
      · exact merge3 C b off n cap k ih P L R S a m e w hP hm he hk (by omega) (by omega) hn hsL hsR hrow
/-- blocks of one length, each sorted -/
def Blks (C : CC) (bs : Nat) (Bs : List (List Int)) : Prop := ∀ x ∈ Bs, x.length = bs ∧ SortedBy (fI C) x
theorem Blks.app {C : CC} {bs : Nat} {Bs : List (List Int)} {x : List Int} (h : Blks C bs Bs) (h1 : x.length = bs) (h2 : SortedBy (fI C) x) : Blks C bs (Bs ++ [x]) := fun y hy => by
  rcases List.mem_append.1 hy with hy | hy
  · exact h y hy
  · rw [List.mem_singleton.1 hy]; exact ⟨h1, h2⟩
theorem flat_app (Bs : List (List Int)) (x : List Int) : (Bs ++ [x]).flatten = Bs.flatten ++ x := by simp
theorem Blks.two {C : CC} {bs : Nat} {Bs : List (List Int)} {T : List Int} (h : Blks C bs Bs) (hT : T.length < bs) (hl : 2 * bs ≤ (Bs.flatten ++ T).length) : ∃ x y Cs, Bs = x :: y :: Cs ∧ x.length = bs ∧ y.length = bs ∧ SortedBy (fI C) x ∧ SortedBy (fI C) y ∧ Blks C bs Cs := by
  match Bs, h with
  | [], _ => simp at hl; omega
  | [x], h => have := (h x (by simp)).1; simp at hl; omega
  | x :: y :: Cs, h => exact ⟨x, y, Cs, rfl, (h x (by simp)).1, (h y (by simp)).1, (h x (by simp)).2, (h y (by simp)).2, fun z hz => h z (by simp [hz])⟩
theorem Blks.few {C : CC} {bs : Nat} {Bs : List (List Int)} {T : List Int} (h : Blks C bs Bs) (hb : 0 < bs) (hl : (Bs.flatten ++ T).length < 2 * bs) : Bs = [] ∨ ∃ x, Bs = [x] ∧ x.length = bs ∧ SortedBy (fI C) x := by
  match Bs, h with
  | [], _ => exact .inl rfl
  | [x], h => exact .inr ⟨x, rfl, (h x (by simp)).1, (h x (by simp)).2⟩
  | x :: y :: Cs, h =>
    have h1 := (h x (by simp)).1
    have h2 := (h y (by simp)).1
    simp only [List.flatten_cons, List.length_append] at hl
    omega
end Go.Proofs.YtbapkhkklglbaaaDoor.C9
