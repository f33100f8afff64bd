/-
  Stable sorting by an integer: what fixes the result; rotating; merging two sorted rows: in plain words.
-/
import Derived.Test.YtbapkhkklglbaaaDoorRead
namespace Go.Proofs.YtbapkhkklglbaaaDoor
set_option linter.unusedVariables false

section
variable {α : Type} (f : α → Int)
def SortedBy (l : List α) : Prop := l.Pairwise fun x y => f x ≤ f y
/-- those of one value -/
def cls (v : Int) (l : List α) : List α := l.filter fun x => f x == v
def SameCls (l m : List α) : Prop := ∀ v, cls f v l = cls f v m
variable {f}
theorem SameCls.refl (l : List α) : SameCls f l l := fun _ => rfl
theorem SameCls.symm {l m : List α} (h : SameCls f l m) : SameCls f m l := fun v => (h v).symm
theorem SameCls.trans {l m k : List α} (h : SameCls f l m) (h2 : SameCls f m k) : SameCls f l k := fun v => (h v).trans (h2 v)
theorem cls_app (v : Int) (l m : List α) : cls f v (l ++ m) = cls f v l ++ cls f v m := List.filter_append ..
theorem SameCls.app {a b c d : List α} (h : SameCls f a b) (h2 : SameCls f c d) : SameCls f (a ++ c) (b ++ d) := fun v => by rw [cls_app, cls_app, h v, h2 v]
theorem SameCls.mem {l m : List α} (h : SameCls f l m) {x : α} (hx : x ∈ l) : x ∈ m := by
  have : x ∈ cls f (f x) l := List.mem_filter.2 ⟨hx, by simp⟩
  rw [h (f x)] at this
  exact (List.mem_filter.1 this).1
theorem cls_nil_of {v : Int} {l : List α} (h : ∀ x ∈ l, f x ≠ v) : cls f v l = [] := List.filter_eq_nil_iff.2 fun x hx => by simpa using h x hx
theorem SameCls.len {l m : List α} (h : SameCls f l m) : l.length = m.length := by
  induction l generalizing m with
  | nil =>
    cases m with
    | nil => rfl
    | cons y r => exact absurd (h.symm.mem List.mem_cons_self) (by simp)
  | cons x r ih =>
    obtain ⟨a, b, hab⟩ := List.append_of_mem (h.mem List.mem_cons_self)
    -- take out the first of its class
    have key : ∃ a b, m = a ++ x :: b ∧ ∀ y ∈ a, f y ≠ f x := by
      clear hab a b ih
      have hc := h (f x)
      have h1 : cls f (f x) (x :: r) = x :: cls f (f x) r := by simp [cls]
      rw [h1] at hc
      clear h h1
      induction m with
      | nil => simp [cls] at hc
      | cons y s ihs =>
        by_cases hy : f y = f x
        · have : cls f (f x) (y :: s) = y :: cls f (f x) s := by simp [cls, hy]
          rw [this] at hc
          injection hc with h1 h2
          subst h1
          exact ⟨[], s, rfl, fun z hz => by cases hz⟩
        · have : cls f (f x) (y :: s) = cls f (f x) s := by simp [cls, hy]
          rw [this] at hc
          obtain ⟨a, b, h1, h2⟩ := ihs hc
          exact ⟨y :: a, b, by rw [h1]; rfl, fun z hz => by rcases List.mem_cons.1 hz with rfl | hz; exact hy; exact h2 z hz⟩
    obtain ⟨a, b, hm, hne⟩ := key
    have hr : SameCls f r (a ++ b) := fun v => by
      have := h v
      rw [hm, cls_app] at this
      by_cases hv : f x = v
      · subst hv
        have h1 : cls f (f x) (x :: r) = x :: cls f (f x) r := by simp [cls]
        have h2 : cls f (f x) (x :: b) = x :: cls f (f x) b := by simp [cls]
        rw [h1, h2, cls_nil_of hne, List.nil_append] at this
        injection this with _ this
        rw [cls_app, cls_nil_of hne, List.nil_append]; exact this
      · have h1 : cls f v (x :: r) = cls f v r := by simp [cls, hv]
        have h2 : cls f v (x :: b) = cls f v b := by simp [cls, hv]
        rw [h1, h2] at this
        rw [cls_app]; exact this
    have := ih hr
    rw [hm, List.length_append, List.length_cons, List.length_cons, this, List.length_append]
    omega
/-- sorted, and each class in its order: that fixes a list -/
theorem sorted_uniq : ∀ {l m : List α}, SortedBy f l → SortedBy f m → SameCls f l m → l = m
  | [], m, _, _, h => by
    cases m with
    | nil => rfl
    | cons y r => exact absurd (h.symm.mem List.mem_cons_self) (by simp)
  | x :: r, [], _, _, h => absurd (h.mem List.mem_cons_self) (by simp)
  | x :: r, y :: s, h1, h2, h => by
    have a1 := List.pairwise_cons.1 h1
    have a2 := List.pairwise_cons.1 h2
    have e1 : f y ≤ f x := by
      rcases List.mem_cons.1 (h.mem List.mem_cons_self) with e | e
      · rw [e]; exact Int.le_refl _
      · exact a2.1 x e
    have e2 : f x ≤ f y := by
      rcases List.mem_cons.1 (h.symm.mem List.mem_cons_self) with e | e
      · rw [e]; exact Int.le_refl _
      · exact a1.1 y e
    have e3 : f y = f x := Int.le_antisymm e1 e2
    have hv := h (f x)
    have c1 : cls f (f x) (x :: r) = x :: cls f (f x) r := by simp [cls]
    have c2 : cls f (f x) (y :: s) = y :: cls f (f x) s := by simp [cls, e3]
    rw [c1, c2] at hv
    injection hv with hxy hv
    subst hxy
    congr 1
    refine sorted_uniq a1.2 a2.2 fun v => ?_
    by_cases e : f x = v
    · subst e; exact hv
    · have := h v
      have c3 : cls f v (x :: r) = cls f v r := by simp [cls, e]
      have c4 : cls f v (x :: s) = cls f v s := by simp [cls, e]
      rwa [c3, c4] at this
/-- what differs may be exchanged -/
theorem same_swap {a b : List α} (h : ∀ x ∈ a, ∀ y ∈ b, f x ≠ f y) : SameCls f (a ++ b) (b ++ a) := fun v => by
  rw [cls_app, cls_app]
  by_cases ha : cls f v a = []
  · rw [ha, List.nil_append, List.append_nil]
  · have hb : cls f v b = [] := by
      refine cls_nil_of fun y hy e => ?_
      obtain ⟨x, hx⟩ := List.exists_mem_of_ne_nil _ ha
      have hx2 := List.mem_filter.1 hx
      exact h x hx2.1 y hy (by have := hx2.2; simp at this; omega)
    rw [hb, List.nil_append, List.append_nil]
theorem sorted_app {a b : List α} (h1 : SortedBy f a) (h2 : SortedBy f b) (h : ∀ x ∈ a, ∀ y ∈ b, f x ≤ f y) : SortedBy f (a ++ b) := List.pairwise_append.2 ⟨h1, h2, h⟩
theorem sorted_left {a b : List α} (h : SortedBy f (a ++ b)) : SortedBy f a := (List.pairwise_append.1 h).1
theorem sorted_right {a b : List α} (h : SortedBy f (a ++ b)) : SortedBy f b := (List.pairwise_append.1 h).2.1
theorem sorted_cross {a b : List α} (h : SortedBy f (a ++ b)) : ∀ x ∈ a, ∀ y ∈ b, f x ≤ f y := (List.pairwise_append.1 h).2.2
/-- the symmetric merge's step: what is below, what is above -/
theorem sym_step {A X Y B M1 M2 : List α} (hL : SortedBy f (A ++ X)) (hR : SortedBy f (Y ++ B))
    (h1 : ∀ x, A.getLast? = some x → ∀ y, B.head? = some y → f x ≤ f y) (h2 : ∀ x, X.head? = some x → ∀ y, Y.getLast? = some y → f y < f x)
    (m1 : SortedBy f M1) (m2 : SortedBy f M2) (s1 : SameCls f M1 (A ++ Y)) (s2 : SameCls f M2 (X ++ B)) : SortedBy f (M1 ++ M2) ∧ SameCls f (M1 ++ M2) ((A ++ X) ++ (Y ++ B)) := by
  have hA : ∀ x ∈ A, ∀ l, A.getLast? = some l → f x ≤ f l := fun x hx l hl => by
    obtain ⟨i, hi⟩ : ∃ i, A = i ++ [l] := List.getLast?_eq_some_iff.1 hl
    rw [hi] at hx
    have hs := sorted_left hL
    rw [hi] at hs
    rcases List.mem_append.1 hx with hx | hx
    · exact sorted_cross hs x hx l (by simp)
    · rw [List.mem_singleton.1 hx]; exact Int.le_refl _
  have hY : ∀ x ∈ Y, ∀ l, Y.getLast? = some l → f x ≤ f l := fun x hx l hl => by
    obtain ⟨i, hi⟩ : ∃ i, Y = i ++ [l] := List.getLast?_eq_some_iff.1 hl
    rw [hi] at hx
    have hs := sorted_left hR
    rw [hi] at hs
    rcases List.mem_append.1 hx with hx | hx
    · exact sorted_cross hs x hx l (by simp)
    · rw [List.mem_singleton.1 hx]; exact Int.le_refl _
  have hX : ∀ x ∈ X, ∀ l, X.head? = some l → f l ≤ f x := fun x hx l hl => by
    cases X with
    | nil => cases hx
    | cons z r =>
      simp only [List.head?_cons, Option.some.injEq] at hl
      subst hl
      rcases List.mem_cons.1 hx with rfl | hx
      · exact Int.le_refl _
      · exact (List.pairwise_cons.1 (sorted_right hL)).1 x hx
  have hB : ∀ x ∈ B, ∀ l, B.head? = some l → f l ≤ f x := fun x hx l hl => by
    cases B with
    | nil => cases hx
    | cons z r =>
      simp only [List.head?_cons, Option.some.injEq] at hl
      subst hl
      rcases List.mem_cons.1 hx with rfl | hx
      · exact Int.le_refl _
      · exact (List.pairwise_cons.1 (sorted_right hR)).1 x hx
  have AB : ∀ x ∈ A, ∀ y ∈ B, f x ≤ f y := fun x hx y hy => by
    obtain ⟨l, hl⟩ : ∃ l, A.getLast? = some l := by
      cases h : A.getLast? with
      | none => rw [List.getLast?_eq_none_iff] at h; subst h; cases hx
      | some l => exact ⟨l, rfl⟩
    obtain ⟨k, hk⟩ : ∃ k, B.head? = some k := by
      cases B with
      | nil => cases hy
      | cons z r => exact ⟨z, rfl⟩
    exact Int.le_trans (hA x hx l hl) (Int.le_trans (h1 l hl k hk) (hB y hy k hk))
  have YX : ∀ x ∈ X, ∀ y ∈ Y, f y < f x := fun x hx y hy => by
    obtain ⟨l, hl⟩ : ∃ l, Y.getLast? = some l := by
      cases h : Y.getLast? with
      | none => rw [List.getLast?_eq_none_iff] at h; subst h; cases hy
      | some l => exact ⟨l, rfl⟩
    obtain ⟨k, hk⟩ : ∃ k, X.head? = some k := by
      cases X with
      | nil => cases hx
      | cons z r => exact ⟨z, rfl⟩
    have := hY y hy l hl
    have := h2 k hk l hl
    have := hX x hx k hk
    omega
  refine ⟨sorted_app m1 m2 fun x hx y hy => ?_, ?_⟩
  · rcases List.mem_append.1 (s1.mem hx) with a | a
    · rcases List.mem_append.1 (s2.mem hy) with b | b
      · exact sorted_cross hL x a y b
      · exact AB x a y b
    · rcases List.mem_append.1 (s2.mem hy) with b | b
      · exact Int.le_of_lt (YX y b x a)
      · exact sorted_cross hR x a y b
  · have e1 : SameCls f (X ++ Y) (Y ++ X) := same_swap fun x hx y hy => by have := YX x hx y hy; omega
    have := (s1.app s2).trans (show SameCls f ((A ++ Y) ++ (X ++ B)) ((A ++ X) ++ (Y ++ B)) from fun v => by
      have := e1 v
      rw [cls_app, cls_app] at this
      simp only [cls_app, List.append_assoc]
      rw [← List.append_assoc (cls f v Y), ← List.append_assoc (cls f v X), this])
    exact this
end
end Go.Proofs.YtbapkhkklglbaaaDoor
