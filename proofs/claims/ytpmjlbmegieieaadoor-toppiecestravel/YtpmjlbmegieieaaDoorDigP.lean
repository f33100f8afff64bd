/-
  The digest of bytes, in plain words.
-/
import Derived.Test.YtpmjlbmegieieaaDoorOrd
import Derived.Laws.Bits64b
namespace Go.Proofs.YtpmjlbmegieieaaDoor
open Go.RowKit
set_option linter.unusedVariables false

def fnvM : Nat := 18446744073709551616
def fnvStep (h : Nat) (c : UInt8) : Nat := (h ^^^ c.toNat) * 1099511628211 % fnvM
def fnv0 : Nat := 14695981039346656037
def fnv (l : List UInt8) : Nat := l.foldl fnvStep fnv0
theorem fnvStep_lt (h : Nat) (c : UInt8) : fnvStep h c < fnvM := Nat.mod_lt _ (by decide)
theorem fnv_lt (l : List UInt8) : fnv l < fnvM := by
  unfold fnv
  have : ∀ (l : List UInt8) (h : Nat), h < fnvM → l.foldl fnvStep h < fnvM := by
    intro l
    induction l with
    | nil => intro h hh; exact hh
    | cons c r ih => intro h _; exact ih _ (fnvStep_lt h c)
  exact this l _ (by unfold fnv0 fnvM; omega)
theorem fnv_take {l : List UInt8} {k : Nat} {c : UInt8} (h : l[k]? = some c) : fnv (l.take (k + 1)) = fnvStep (fnv (l.take k)) c := by
  unfold fnv
  rw [List.take_add_one, h, Option.toList, List.foldl_append, List.foldl_cons, List.foldl_nil]
def hexd : List UInt8 := [48, 49, 50, 51, 52, 53, 54, 55, 56, 57, 97, 98, 99, 100, 101, 102]
def hexN (k : Nat) : UInt8 := hexd.getD k 0
theorem hexN_get {k : Nat} (h : k < 16) : hexd[k]? = some (hexN k) := by
  unfold hexN
  rw [List.getD_eq_getElem?_getD]
  cases e : hexd[k]? with
  | none => rw [List.getElem?_eq_none_iff] at e; exact absurd e (by simp [hexd]; omega)
  | some b => rfl
/-- the j-th of the sixteen digits of h, from the left -/
def digN (h j : Nat) : UInt8 := hexN (h / 16 ^ (15 - j) % 16)
def hex16 (h : Nat) : List UInt8 := (List.range 16).map (digN h)
def digF (l : List UInt8) : ByteArray := ⟨(hex16 (fnv l)).toArray⟩
theorem hex16_len (h : Nat) : (hex16 h).length = 16 := by simp [hex16]
theorem digF_size (l : List UInt8) : (digF l).size = 16 := by
  show (hex16 (fnv l)).toArray.size = 16
  rw [List.size_toArray, hex16_len]
theorem digF_data (l : List UInt8) : (digF l).data.toList = hex16 (fnv l) := rfl
/-- the step, as the model computes it -/
theorem fnv_xor (h : Nat) (c : UInt8) (hh : h < fnvM) : bits .xor .u64 (h : Int) (c.toNat : Int) = ((h ^^^ c.toNat : Nat) : Int) :=
  bits_xor_u64_nat _ _ hh (by have := c.toNat_lt; omega)
theorem fnv_mul (h : Nat) (c : UInt8) : IntKind.u64.wrap (((h ^^^ c.toNat : Nat) : Int) * 1099511628211) = (fnvStep h c : Int) := by
  rw [IntKind.wrap_u64]
  unfold fnvStep fnvM
  omega
theorem and15 (h : Nat) (hh : h < fnvM) : bits .and .u64 (h : Int) 15 = ((h % 16 : Nat) : Int) := by
  have := bits_and_u64_nat h 15 hh (by decide)
  rw [show h &&& 15 = h % 16 from Nat.and_two_pow_sub_one_eq_mod h 4] at this
  exact this
end Go.Proofs.YtpmjlbmegieieaaDoor
