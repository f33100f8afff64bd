/-
  Bytes cut into pieces, which of them are fresh and which are shared: in plain words.
-/
import Derived.Test.YtpmjlbmegieieaaDoorRead
namespace Go.Proofs.YtpmjlbmegieieaaDoor
open Go.RowKit
set_option linter.unusedVariables false

def RU8 : Rd UInt8 := ⟨1, fun c => [.int .u8 (c.toNat : Nat)], fun _ _ => True, fun _ => 1, fun _ => rfl, fun _ u h => by simp only [List.mem_singleton] at h; subst h; rfl, fun _ _ _ _ h => h⟩
/-- bytes cut into pieces of these sizes -/
def chunks : List UInt8 → List Nat → List (List UInt8)
  | _, [] => []
  | l, n :: r => l.take n :: chunks (l.drop n) r
theorem chunks_len : ∀ (ns : List Nat) (l : List UInt8), (chunks l ns).length = ns.length
  | [], l => rfl
  | n :: r, l => by rw [chunks, List.length_cons, List.length_cons, chunks_len r]
theorem chunks_flat : ∀ (ns : List Nat) (l : List UInt8), ns.sum = l.length → (chunks l ns).flatten = l
  | [], l, h => by
    have : l = [] := List.eq_nil_of_length_eq_zero (by simpa using h.symm)
    subst this; rfl
  | n :: r, l, h => by
    rw [List.sum_cons] at h
    rw [chunks, List.flatten_cons, chunks_flat r (l.drop n) (by rw [List.length_drop]; omega), List.take_append_drop]
theorem chunks_sizes : ∀ (ns : List Nat) (l : List UInt8), ns.sum ≤ l.length → (chunks l ns).map (·.length) = ns
  | [], l, h => rfl
  | n :: r, l, h => by
    rw [List.sum_cons] at h
    rw [chunks, List.map_cons, List.length_take, chunks_sizes r (l.drop n) (by rw [List.length_drop]; omega), Nat.min_eq_left (by omega)]
theorem chunks_drop : ∀ (k : Nat) (ns : List Nat) (l : List UInt8), (chunks l ns).drop k = chunks (l.drop (ns.take k).sum) (ns.drop k)
  | 0, ns, l => by simp
  | k + 1, [], l => by simp [chunks]
  | k + 1, n :: r, l => by rw [chunks, List.drop_succ_cons, chunks_drop k r, List.take_succ_cons, List.sum_cons, List.drop_succ_cons, List.drop_drop]
theorem chunks_take : ∀ (k : Nat) (ns : List Nat) (l : List UInt8), (chunks l ns).take k = chunks l (ns.take k)
  | 0, ns, l => by simp [chunks]
  | k + 1, [], l => by simp [chunks]
  | k + 1, n :: r, l => by rw [chunks, List.take_succ_cons, chunks_take k r, List.take_succ_cons, chunks]
theorem sum_take_le : ∀ (k : Nat) (ns : List Nat), (ns.take k).sum ≤ ns.sum
  | 0, ns => by simp
  | k + 1, [] => by simp
  | k + 1, n :: r => by rw [List.take_succ_cons, List.sum_cons, List.sum_cons]; have := sum_take_le k r; omega
theorem chunks_get {ns : List Nat} {l : List UInt8} {k n : Nat} (h : ns[k]? = some n) : (chunks l ns)[k]? = some ((l.drop (ns.take k).sum).take n) := by
  have h1 := chunks_drop k ns l
  have h2 := drop_cons h
  rw [h2, chunks] at h1
  have : ((chunks l ns).drop k)[0]? = some ((l.drop (ns.take k).sum).take n) := by rw [h1]; rfl
  rw [List.getElem?_drop] at this
  simpa using this
/-- the pieces that are not there yet: their numbers, and how many bytes they have -/
def frF (has : List (List UInt8)) (i : Nat) : List (List UInt8) → List Nat × Nat
  | [] => ([], 0)
  | c :: r => if c ∈ has then frF has (i + 1) r else (i :: (frF (c :: has) (i + 1) r).1, c.length + (frF (c :: has) (i + 1) r).2)
def shF (has : List (List UInt8)) : List (List UInt8) → Nat
  | [] => 0
  | c :: r => (if c ∈ has then c.length else 0) + shF has r
theorem fr_sh : ∀ (r has has0 : List (List UInt8)) (i : Nat), (∀ c ∈ has0, c ∈ has) → (frF has i r).2 + shF has0 r ≤ r.flatten.length
  | [], has, has0, i, h => by simp [frF, shF]
  | c :: r, has, has0, i, h => by
    rw [frF, shF, List.flatten_cons, List.length_append]
    by_cases hc : c ∈ has
    · rw [if_pos hc]
      have := fr_sh r has has0 (i + 1) h
      split <;> omega
    · rw [if_neg hc, if_neg (fun h0 => hc (h c h0))]
      have := fr_sh r (c :: has) has0 (i + 1) (fun d hd => List.mem_cons_of_mem _ (h d hd))
      simp only
      omega
theorem fr_has : ∀ (r has : List (List UInt8)) (i : Nat), ∀ c ∈ r, c ∈ has ∨ ∃ j ∈ (frF has i r).1, i ≤ j ∧ r[j - i]? = some c
  | [], has, i, c, h => by cases h
  | d :: r, has, i, c, h => by
    rw [frF]
    by_cases hd : d ∈ has
    · rw [if_pos hd]
      rcases List.mem_cons.1 h with rfl | h
      · exact .inl hd
      · rcases fr_has r has (i + 1) c h with h1 | ⟨j, hj, hij, hr⟩
        · exact .inl h1
        · exact .inr ⟨j, hj, by omega, by rw [show j - i = (j - (i + 1)) + 1 by omega, List.getElem?_cons_succ]; exact hr⟩
    · rw [if_neg hd]
      rcases List.mem_cons.1 h with rfl | h
      · exact .inr ⟨i, List.mem_cons_self, Nat.le_refl _, by simp⟩
      · rcases fr_has r (d :: has) (i + 1) c h with h1 | ⟨j, hj, hij, hr⟩
        · rcases List.mem_cons.1 h1 with rfl | h1
          · exact .inr ⟨i, List.mem_cons_self, Nat.le_refl _, by simp⟩
          · exact .inl h1
        · exact .inr ⟨j, List.mem_cons_of_mem _ hj, by omega, by rw [show j - i = (j - (i + 1)) + 1 by omega, List.getElem?_cons_succ]; exact hr⟩
theorem fr_lt : ∀ (r has : List (List UInt8)) (i : Nat), ∀ j ∈ (frF has i r).1, i ≤ j ∧ j < i + r.length
  | [], has, i, j, h => by simp [frF] at h
  | d :: r, has, i, j, h => by
    rw [frF] at h
    rw [List.length_cons]
    by_cases hd : d ∈ has
    · rw [if_pos hd] at h
      have := fr_lt r has (i + 1) j h
      omega
    · rw [if_neg hd] at h
      rcases List.mem_cons.1 h with rfl | h
      · omega
      · have := fr_lt r (d :: has) (i + 1) j h
        omega
theorem fr_len : ∀ (r has : List (List UInt8)) (i : Nat), (frF has i r).1.length ≤ r.length
  | [], has, i => by simp [frF]
  | d :: r, has, i => by
    rw [frF]
    by_cases hd : d ∈ has
    · rw [if_pos hd]
      have := fr_len r has (i + 1)
      rw [List.length_cons]; omega
    · rw [if_neg hd]
      have := fr_len r (d :: has) (i + 1)
      simp only [List.length_cons]; omega
end Go.Proofs.YtpmjlbmegieieaaDoor
