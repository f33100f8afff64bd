/-
  A pass of the reference over the longest ways, in plain words: what it raises is bounded.
-/
import Derived.Test.YtbapkhkklglbaaaDoorCrD
namespace Go.Proofs.YtbapkhkklglbaaaDoor
set_option linter.unusedVariables false

section
variable (g : Nat → List Nat) (sz : Nat → Int)
def gt (S : List Int) (k : Nat) : Int := S.getD k 0
/-- the number of work i when the first k works are looked through -/
def nS (S : List Int) (i : Nat) : Nat → Int
  | 0 => sz i
  | k + 1 => if i ∈ g k then max (nS S i k) (sz i + gt S k) else nS S i k
variable {g sz}
theorem gt_set {S : List Int} {i : Nat} (h : i < S.length) (x : Int) (k : Nat) : gt (S.set i x) k = if k = i then x else gt S k := by
  unfold gt
  rw [List.getD_eq_getElem?_getD, List.getElem?_set]
  by_cases e : i = k
  · subst e; rw [if_pos rfl, if_pos h, if_pos rfl]; rfl
  · rw [if_neg e, if_neg (fun h => e h.symm), List.getD_eq_getElem?_getD]
theorem nS_ge (S : List Int) (i : Nat) : ∀ k, sz i ≤ nS g sz S i k
  | 0 => Int.le_refl _
  | k + 1 => by
    have := nS_ge S i k
    unfold nS
    split <;> omega
theorem nS_up (S : List Int) (i : Nat) : ∀ n k, k < n → i ∈ g k → sz i + gt S k ≤ nS g sz S i n
  | n + 1, k, hk, hi => by
    unfold nS
    by_cases e : k = n
    · subst e; rw [if_pos hi]; omega
    · have := nS_up S i n k (by omega) hi
      split <;> omega
theorem nS_at (S : List Int) (i : Nat) : ∀ n, nS g sz S i n = sz i ∨ ∃ k, k < n ∧ i ∈ g k ∧ nS g sz S i n = sz i + gt S k
  | 0 => .inl rfl
  | n + 1 => by
    unfold nS
    by_cases h : i ∈ g n
    · rw [if_pos h]
      by_cases hm : nS g sz S i n ≤ sz i + gt S n
      · exact .inr ⟨n, by omega, h, by omega⟩
      · rcases nS_at S i n with e | ⟨k, a, b, e⟩
        · exact .inl (by omega)
        · exact .inr ⟨k, by omega, b, by omega⟩
    · rw [if_neg h]
      exact (nS_at S i n).imp id fun ⟨k, a, b, e⟩ => ⟨k, by omega, b, e⟩
theorem nS_max {S : List Int} {i N : Nat} (h0 : ∀ k, k < N → 0 ≤ gt S k) : ∃ m, MaxOf g (· < N) (gt S) i m ∧ nS g sz S i N = sz i + m := by
  refine ⟨nS g sz S i N - sz i, ⟨by have := nS_ge (g := g) (sz := sz) S i N; omega, fun k hk hi => by have := nS_up (g := g) (sz := sz) S i N k hk hi; omega, ?_⟩, by omega⟩
  rcases nS_at (g := g) (sz := sz) S i N with e | ⟨k, a, b, e⟩
  · exact .inl (by omega)
  · exact .inr ⟨k, a, b, by omega⟩
theorem nS_mono {S S' : List Int} (h : ∀ k, gt S k ≤ gt S' k) (i : Nat) : ∀ n, nS g sz S i n ≤ nS g sz S' i n
  | 0 => Int.le_refl _
  | n + 1 => by
    have a := nS_mono h i n
    have b := h n
    unfold nS
    split <;> omega
/-- what holds all along: no more than the longest ways C, and a pass lowers nothing -/
structure Pass (g : Nat → List Nat) (sz : Nat → Int) (N : Nat) (C : Nat → Int) (S : List Int) : Prop where
  len : S.length = N
  nn : ∀ k, 0 ≤ gt S k
  le : ∀ k, k < N → gt S k ≤ C k
  pre : ∀ k, k < N → gt S k ≤ nS g sz S k N
theorem Pass.nS_le {N : Nat} {C : Nat → Int} {S : List Int} (h : Pass g sz N C S) (hC : Crit g sz N C) {i : Nat} (hi : i < N) : nS g sz S i N ≤ C i := by
  obtain ⟨m, h1, h2⟩ := hC i hi
  rcases nS_at (g := g) (sz := sz) S i N with e | ⟨k, a, b, e⟩
  · have := h1.nn; omega
  · have := h1.up k a b; have := h.le k a; omega
theorem Pass.put {N : Nat} {C : Nat → Int} {S : List Int} (h : Pass g sz N C S) (hC : Crit g sz N C) (hs : ∀ i, i < N → 0 ≤ sz i) {i : Nat} (hi : i < N) : Pass g sz N C (S.set i (nS g sz S i N)) := by
  have hl : i < S.length := by rw [h.len]; exact hi
  have hge : ∀ k, gt S k ≤ gt (S.set i (nS g sz S i N)) k := fun k => by
    rw [gt_set hl]
    split
    · rename_i e; subst e; exact h.pre k hi
    · exact Int.le_refl _
  refine ⟨by rw [List.length_set]; exact h.len, fun k => Int.le_trans (h.nn k) (hge k), fun k hk => ?_, fun k hk => ?_⟩
  · rw [gt_set hl]
    split
    · rename_i e; subst e; exact h.nS_le hC hi
    · exact h.le k hk
  · have := nS_mono (g := g) (sz := sz) hge k N
    rw [gt_set hl]
    split
    · rename_i e; subst e; exact this
    · exact Int.le_trans (h.pre k hk) this
theorem Pass.zero {N : Nat} {C : Nat → Int} (hC : Crit g sz N C) (hs : ∀ i, i < N → 0 ≤ sz i) : Pass g sz N C (List.replicate N 0) := by
  have h0 : ∀ k, gt (List.replicate N (0 : Int)) k = 0 := fun k => by
    unfold gt
    rw [List.getD_eq_getElem?_getD]
    by_cases h : k < N
    · rw [List.getElem?_replicate, if_pos h]; rfl
    · rw [List.getElem?_eq_none (by simp; omega)]; rfl
  refine ⟨by simp, fun k => by rw [h0]; exact Int.le_refl _, fun k hk => ?_, fun k hk => ?_⟩
  · rw [h0]
    obtain ⟨m, h1, h2⟩ := hC k hk
    have := h1.nn; have := hs k hk; omega
  · rw [h0]; have := nS_ge (g := g) (sz := sz) (List.replicate N 0) k N; have := hs k hk; omega
theorem Pass.fix {N : Nat} {C : Nat → Int} {S : List Int} (h : Pass g sz N C S) (hf : ∀ i, i < N → nS g sz S i N = gt S i) : Crit g sz N (gt S) := fun j hj => by
  obtain ⟨m, h1, h2⟩ := nS_max (g := g) (sz := sz) (S := S) (i := j) (N := N) fun k _ => h.nn k
  exact ⟨m, h1, by rw [← hf j hj]; exact h2⟩
/-- how far there is to go -/
def gap (C : Nat → Int) (S : List Int) : Nat → Nat
  | 0 => 0
  | n + 1 => gap C S n + (C n - gt S n).toNat
theorem gap_set {C : Nat → Int} {S : List Int} {i : Nat} (h : i < S.length) {x : Int} (hx : gt S i < x) (hc : x ≤ C i) : ∀ n, gap C (S.set i x) n ≤ gap C S n ∧ (i < n → gap C (S.set i x) n < gap C S n)
  | 0 => ⟨Nat.le_refl _, fun h => by omega⟩
  | n + 1 => by
    obtain ⟨a, b⟩ := gap_set h hx hc n
    unfold gap
    rw [gt_set h]
    by_cases e : n = i
    · subst e
      rw [if_pos rfl]
      refine ⟨by omega, fun _ => by omega⟩
    · rw [if_neg e]
      refine ⟨by omega, fun hi => by have := b (by omega); omega⟩
end
end Go.Proofs.YtbapkhkklglbaaaDoor
