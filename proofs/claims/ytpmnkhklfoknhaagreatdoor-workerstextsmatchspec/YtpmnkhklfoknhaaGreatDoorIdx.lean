/-
  slices.Index at []string: the place of a string in a row.
-/
import Derived.Test.YtpmnkhklfoknhaaGreatDoorStr
import Derived.Test.YtpmnkhklfoknhaaGreatDoorOrd
namespace Go.Proofs.YtpmnkhklfoknhaaGreatDoor
open Go.RowKit
set_option linter.unusedVariables false

/-- the place of x in l, counted from k on; -1: it is not there -/
def idxF (x : ByteArray) : List ByteArray → Nat → Int
  | [], _ => -1
  | y :: r, k => if y = x then (k : Int) else idxF x r (k + 1)
def IdxRel (x : ByteArray) (l : List ByteArray) (c : Int) (i : Value) : Prop := ∃ k : Nat, k ≤ l.length ∧ i = .int .i64 k ∧ idxF x (l.drop k) k = c

set_option maxHeartbeats 1000000 in
theorem index_str (A : Option Addr) (n c : Nat) (l : List ByteArray) (x : ByteArray) (w : World) (hl : SlAt RStr w A n l) (hn : n ≤ 9223372036854775807) (v : Int) (hv : idxF x l 0 = v) :
    Calls Tryz.prog 36 #[.slice A n c, .string x] w fun e w' => e = .returned (.int .i64 v) ∧ Below w.heap.size w w' := by
  have hll := hl.1
  have hlH := Lib.hid hl
  clear hl
  have hvH := Lib.hid hv
  clear hv
  have hllH := Lib.hid hll
  clear hll
  go_enter Tryz.func36, Tryz.ntmps36
  go_wp2_with fail
  go_loop [5, 8] (fun _ i => IdxRel x l v i) (fun _ i => n - (intOf i).toNat)
  case atStart => exact ⟨0, Nat.zero_le _, rfl, hvH.out⟩
  case round =>
    obtain ⟨k, hk, rfl, hr⟩ := hrel
    have hkl : k ≤ n := by have := hllH.out; omega
    by_cases hlt : k < n
    · obtain ⟨b0, off, hA, _⟩ := hlH.out.2.1 (by omega)
      subst hA
      obtain ⟨y, hy⟩ : ∃ y, l[k]? = some y := ⟨l[k]'(by have := hllH.out; omega), List.getElem?_eq_getElem _⟩
      have c0 := cell_Str hlH.out hy
      rw [drop_cons hy, idxF] at hr
      have hkl2 : k + 1 ≤ l.length := by have := hllH.out; omega
      by_cases he : y = x
      · rw [if_pos he] at hr
        subst hr
        have e1 : (x.toList == y.toList) = true := by rw [beq_data, decide_eq_true he.symm]
        have e2 : (y.toList == x.toList) = true := by rw [beq_data, decide_eq_true he]
        have heH := Lib.hid he
        clear he
        have hyH := Lib.hid hy
        clear hy
        have hkl2H := Lib.hid hkl2
        clear hkl2
        go_wp2
        go_ret
        exact ⟨rfl, Below.refl _ _⟩
      · rw [if_neg he] at hr
        have e1 : (x.toList == y.toList) = false := by rw [beq_data, decide_eq_false (fun h => he h.symm)]
        have e2 : (y.toList == x.toList) = false := by rw [beq_data, decide_eq_false he]
        have R : IdxRel x l v (.int .i64 (k + 1)) := ⟨k + 1, hkl2, by go_num, hr⟩
        clear hr
        have heH := Lib.hid he
        clear he
        have hyH := Lib.hid hy
        clear hy
        have hkl2H := Lib.hid hkl2
        clear hkl2
        have RH := Lib.hid R
        clear R
        go_wp2
        refine ⟨?rel, ?measure⟩
        case measure => (simp [intOf]; omega)
        case rel => first | exact RH.out | exact ⟨rfl, RH.out⟩ | ((try refine ⟨rfl, ?_⟩); (repeat apply Exists.intro); refine ⟨RH.out, ?_⟩; ((repeat' apply And.intro) <;> rfl))
    · have e : l.drop k = [] := List.drop_eq_nil_of_le (by have := hllH.out; omega)
      rw [e] at hr
      have hr : -1 = v := hr
      subst hr
      clear e
      go_wp2
      go_ret
      exact ⟨rfl, Below.refl _ _⟩
end Go.Proofs.YtpmnkhklfoknhaaGreatDoor
