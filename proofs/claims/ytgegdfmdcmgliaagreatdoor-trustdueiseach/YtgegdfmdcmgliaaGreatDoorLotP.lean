/-
  The first eight digits of a digest as a number: in plain words.
-/
import Derived.Test.YtgegdfmdcmgliaaGreatDoorDigP
namespace Go.Proofs.YtgegdfmdcmgliaaGreatDoor
open Go.RowKit
set_option linter.unusedVariables false

/-- what a digit is worth -/
def dvN (c : UInt8) : Nat := if c.toNat ≤ 57 then c.toNat - 48 else c.toNat - 87
theorem dv_hexN : ∀ k, k < 16 → dvN (hexN k) = k := by decide
theorem hexN_cases : ∀ k, k < 16 → (48 ≤ (hexN k).toNat ∧ (hexN k).toNat ≤ 57) ∨ (97 ≤ (hexN k).toNat ∧ (hexN k).toNat ≤ 102) := by decide
def hexV (l : List UInt8) : Nat := l.foldl (fun n c => n * 16 + dvN c) 0
theorem hexV_snoc (l : List UInt8) (c : UInt8) : hexV (l ++ [c]) = hexV l * 16 + dvN c := by
  unfold hexV
  rw [List.foldl_append, List.foldl_cons, List.foldl_nil]
theorem hex16_get {h j : Nat} (hj : j < 16) : (hex16 h)[j]? = some (digN h j) := by
  unfold hex16
  rw [List.getElem?_map, List.getElem?_range hj]
  rfl
theorem digN_lt (h j : Nat) : h / 16 ^ (15 - j) % 16 < 16 := Nat.mod_lt _ (by decide)
theorem hexV_take (h : Nat) (hh : h < fnvM) : ∀ k, k ≤ 16 → hexV ((hex16 h).take k) = h / 16 ^ (16 - k)
  | 0, _ => by
    show 0 = h / 16 ^ 16
    rw [Nat.div_eq_of_lt]
    unfold fnvM at hh
    omega
  | k + 1, hk => by
    rw [List.take_add_one, hex16_get (by omega), Option.toList, hexV_snoc, hexV_take h hh k (by omega), digN, dv_hexN _ (digN_lt h k)]
    rw [show 16 - (k + 1) = 15 - k by omega, show 16 - k = (15 - k) + 1 by omega, Nat.pow_succ, ← Nat.div_div_eq_div_mul]
    have := Nat.div_add_mod (h / 16 ^ (15 - k)) 16
    omega
theorem hex16_mem {h : Nat} {c : UInt8} (hc : c ∈ hex16 h) : (48 ≤ c.toNat ∧ c.toNat ≤ 57) ∨ (97 ≤ c.toNat ∧ c.toNat ≤ 102) := by
  unfold hex16 at hc
  obtain ⟨j, hj, rfl⟩ := List.mem_map.1 hc
  exact hexN_cases _ (digN_lt h j)
theorem dv_lt {c : UInt8} (h : (48 ≤ c.toNat ∧ c.toNat ≤ 57) ∨ (97 ≤ c.toNat ∧ c.toNat ≤ 102)) : dvN c < 16 := by
  unfold dvN
  split <;> omega
theorem hexV_lt : ∀ (l : List UInt8), (∀ c ∈ l, (48 ≤ c.toNat ∧ c.toNat ≤ 57) ∨ (97 ≤ c.toNat ∧ c.toNat ≤ 102)) → ∀ k, k ≤ l.length → hexV (l.take k) < 16 ^ k
  | l, h, 0, _ => by simp [hexV]
  | l, h, k + 1, hk => by
    have ih := hexV_lt l h k (by omega)
    have e : l[k]? = some l[k] := List.getElem?_eq_getElem (by omega)
    rw [List.take_add_one, e, Option.toList, hexV_snoc, Nat.pow_succ]
    have := dv_lt (h l[k] (List.getElem_mem _))
    omega
end Go.Proofs.YtgegdfmdcmgliaaGreatDoor
