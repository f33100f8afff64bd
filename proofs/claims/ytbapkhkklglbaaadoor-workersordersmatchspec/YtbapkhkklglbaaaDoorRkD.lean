/-
  Inserting behind all that are no greater: the stable sort, in plain words; and what is filtered from it.
-/
import Derived.Test.YtbapkhkklglbaaaDoorStab
namespace Go.Proofs.YtbapkhkklglbaaaDoor
set_option linter.unusedVariables false

section
variable {α : Type} {f : α → Int}
theorem ins_sorted {X Y : List α} {x : α} (h : SortedBy f (X ++ Y)) (hX : ∀ a, X.getLast? = some a → f a ≤ f x) (hY : ∀ y ∈ Y, f x < f y) : SortedBy f (X ++ x :: Y) := by
  unfold SortedBy at *
  obtain ⟨h1, h2, h3⟩ := List.pairwise_append.1 h
  refine List.pairwise_append.2 ⟨h1, List.pairwise_cons.2 ⟨fun y hy => Int.le_of_lt (hY y hy), h2⟩, fun a ha b hb => ?_⟩
  rcases List.mem_cons.1 hb with rfl | hb
  · rcases List.eq_nil_or_concat X with rfl | ⟨X', z, rfl⟩
    · cases ha
    · have hz := hX z (by simp)
      rw [List.concat_eq_append] at ha h1
      rcases List.mem_append.1 ha with ha | ha
      · have := (List.pairwise_append.1 h1).2.2 a ha z (by simp)
        exact Int.le_trans this hz
      · rw [List.mem_singleton.1 ha]; exact hz
  · exact h3 a ha b hb
theorem ins_cls {X Y Z : List α} {x : α} (h : SameCls f (X ++ Y) Z) (hY : ∀ y ∈ Y, f x < f y) : SameCls f (X ++ x :: Y) (Z ++ [x]) := fun v => by
  have h1 := h v
  unfold cls at *
  rw [List.filter_append] at h1
  rw [List.filter_append, List.filter_append, ← h1, List.filter_cons, List.append_assoc]
  congr 1
  by_cases hv : f x = v
  · subst hv
    have : Y.filter (fun y => f y == f x) = [] := List.filter_eq_nil_iff.2 fun y hy => by have := hY y hy; simp; omega
    rw [this]; simp
  · simp [hv]
/-- what is filtered out of a stably sorted row is the stably sorted filtered row -/
theorem filter_sorted {L : List α} (p : α → Bool) (h : SortedBy f L) : SortedBy f (L.filter p) := List.Pairwise.filter p h
theorem filter_cls {L Z : List α} (p : α → Bool) (h : SameCls f L Z) : SameCls f (L.filter p) (Z.filter p) := fun v => by
  have h1 := h v
  unfold cls at *
  rw [List.filter_filter, List.filter_filter]
  have e : ∀ M : List α, M.filter (fun a => (f a == v) && p a) = (M.filter fun a => f a == v).filter p := fun M => by
    rw [List.filter_filter]
    congr 1
    funext a
    rw [Bool.and_comm]
  rw [e, e, h1]
end
end Go.Proofs.YtbapkhkklglbaaaDoor
