/-
  cmp.Or at int.
-/
import Derived.Test.YtpmnkhklfoknhaaGreatDoorOrd
import Derived.Test.YtpmnkhklfoknhaaGreatDoorMomentC9
namespace Go.Proofs.YtpmnkhklfoknhaaGreatDoor.C9
open Go.RowKit
set_option linter.unusedVariables false
def orF : List Int → Int
  | [] => 0
  | x :: r => if x = 0 then orF r else x
def OrRel (l : List Int) (c : Int) (i : Value) : Prop := ∃ k : Nat, k ≤ l.length ∧ i = .int .i64 k ∧ orF (l.drop k) = c

theorem cell_Int {w : World} {b off m k : Nat} {l : List Int} {x : Int} (h : SlAt RInt w (some ⟨b, off, none⟩) m l) (hx : l[k]? = some x) : w.cell? ⟨b, off + k, none⟩ = some (.int .i64 x) := by
  have hk := (List.getElem?_eq_some_iff.1 hx).1
  obtain ⟨b', off', hA, hc⟩ := h.2.1 (by have := h.1; omega)
  obtain ⟨rfl, rfl⟩ : b = b' ∧ off = off' := by simpa using hA
  have := hc k x hx 0 _ rfl
  simpa [RInt] using this

theorem or_any (A : Option Addr) (len cap : Nat) (l : List Int) (w : World) (hlen : len ≤ 1000) (hl : SlAt RInt w A len l) (c : Int) (hF : orF l = c) :
    Calls Tryz.prog 69 #[.slice A len cap] w fun e w' => e = .returned (.int .i64 c) ∧ w = w' := by
  have hll := hl.1
  have hllH := Lib.hid hll
  clear hll
  have hFH := Lib.hid hF
  clear hF
  have hlH := Lib.hid hl
  clear hl
  go_enter Tryz.func69, Tryz.ntmps69
  go_wp2
  go_loop [8] (fun i => OrRel l c i) (fun i => len - (intOf i).toNat)
  case atStart => exact ⟨0, Nat.zero_le _, rfl, hFH.out⟩
  case round =>
    obtain ⟨k, hk, rfl, hck⟩ := hrel
    have hkl : k ≤ len := by have := hllH.out; omega
    by_cases hlt : k < len
    · obtain ⟨b, off, hA, _⟩ := hlH.out.2.1 (by omega)
      subst hA
      obtain ⟨x, hx⟩ : ∃ x, l[k]? = some x := ⟨l[k]'(by have := hllH.out; omega), List.getElem?_eq_getElem _⟩
      have c0 := cell_Int hlH.out hx
      have hkl2 : k + 1 ≤ l.length := by have := hllH.out; omega
      rw [drop_cons hx, orF] at hck
      by_cases h0 : x = 0
      · rw [if_pos h0] at hck
        subst h0
        have R : OrRel l c (.int .i64 (k + 1)) := ⟨k + 1, hkl2, by go_num, hck⟩
        have hckH := Lib.hid hck
        clear hck
        have hxH := Lib.hid hx
        clear hx
        have RH := Lib.hid R
        clear R
        go_wp2
        refine ⟨?rel, ?measure⟩
        case measure => (simp [intOf]; omega)
        case rel => first | exact RH.out | exact ⟨rfl, RH.out⟩ | ((try refine ⟨rfl, ?_⟩); (repeat apply Exists.intro); refine ⟨RH.out, ?_⟩; ((repeat' apply And.intro) <;> rfl))
      · rw [if_neg h0] at hck
        subst hck
        have h1 : (x != 0) = true := by simpa using h0
        have hxH := Lib.hid hx
        clear hx
        go_wp2
        go_ret
        exact ⟨rfl, rfl⟩
    · have e : l.drop k = [] := List.drop_eq_nil_of_le (by have := hllH.out; omega)
      rw [e, orF] at hck
      subst hck
      clear e
      go_wp2
      go_ret
      exact ⟨rfl, rfl⟩
end Go.Proofs.YtpmnkhklfoknhaaGreatDoor.C9
