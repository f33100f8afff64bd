/-
  slices.IndexFunc and slices.ContainsFunc at []string, with a predicate that may make memory of its own (the text XFunc over another import).
-/
import Derived.Test.YtbapkhkklglbaaaDoorBsfC9
namespace Go.Proofs.YtbapkhkklglbaaaDoor.C9
open Go.RowKit
set_option linter.unusedVariables false

/-- what is asked of the predicate -/
def PredL (g : Nat) (lb : Array Value) (p : ByteArray → Bool) (l : List ByteArray) (w : World) : Prop :=
  ∀ (W : World) (x : ByteArray), x ∈ l → Below w.heap.size w W → Calls Tryd.prog g (#[.string x] ++ lb) W fun e w' => e = .returned (.bool (p x)) ∧ Below W.heap.size W w'
def AnyRel (p : ByteArray → Bool) (l : List ByteArray) (b : Bool) (w0 : World) (i : Value) (wr : World) : Prop := ∃ k : Nat, k ≤ l.length ∧ i = .int .i64 k ∧ (l.drop k).any p = b ∧ Below w0.heap.size w0 wr

set_option maxHeartbeats 2000000 in
theorem indexFunc_any (g : Nat) (lb : Array Value) (eg : ∀ args w, (callFunc g args).run Tryd.prog w = .ok (.enter g args) w) (p : ByteArray → Bool) (A : Option Addr) (n c : Nat) (l : List ByteArray) (w : World)
    (hl : SlAt RStr w A n l) (hn : n ≤ 9223372036854775807) (hp : PredL g lb p l w) (b : Bool) (hb : l.any p = b) :
    Calls Tryd.prog 51 #[.slice A n c, .func (.func g) #[] lb] w fun e w' => ∃ i : Int, e = .returned (.int .i64 i) ∧ (if b = true then 0 ≤ i else i = -1) ∧ Below w.heap.size w w' := by
  have hll := hl.1
  have hlH := Lib.hid hl
  clear hl
  have hbH := Lib.hid hb
  clear hb
  have hpH := Lib.hid hp
  clear hp
  have hllH := Lib.hid hll
  clear hll
  go_enter Tryd.func51, Tryd.ntmps51
  go_wp2
  go_loopw [5, 8] (fun s5 i wr => AnyRel p l b w i wr) (fun _ i _ => n - (intOf i).toNat)
  case atStart => exact ⟨0, Nat.zero_le _, rfl, hbH.out, Below.refl _ _⟩
  case round =>
    obtain ⟨k, hk, rfl, hr, hbw⟩ := hrel
    have hkl : k ≤ n := by have := hllH.out; omega
    by_cases hlt : k < n
    · obtain ⟨b0, off, hA, _⟩ := hlH.out.2.1 (by omega)
      subst hA
      obtain ⟨x, hx⟩ : ∃ x, l[k]? = some x := ⟨l[k]'(by have := hllH.out; omega), List.getElem?_eq_getElem _⟩
      have c0 := cell_StrW (hlH.out.below hbw) hx
      have hcall := hpH.out wr x (List.mem_of_getElem? hx) hbw
      rw [drop_cons hx, List.any_cons] at hr
      have hkl2 : k + 1 ≤ l.length := by have := hllH.out; omega
      cases hq : p x
      · rw [hq] at hcall hr
        rw [Bool.false_or] at hr
        have R : ∀ w', Below wr.heap.size wr w' → AnyRel p l b w (.int .i64 (k + 1)) w' := fun w' h => ⟨k + 1, hkl2, by go_num, hr, hbw.trans (h.mono hbw.size)⟩
        clear hr
        have RH := Lib.hid R
        clear R
        have hxH := Lib.hid hx
        clear hx
        have hbwH := Lib.hid hbw
        clear hbw
        have hqH := Lib.hid hq
        clear hq
        have hcallH := Lib.hid hcall
        clear hcall
        go_wp2_with (go_at_fn g; refine hcallH.out.mono ?_; rintro e w' ⟨rfl, hb'⟩; have hb'H := Lib.hid hb'; clear hb')
        refine ⟨?rel, ?measure⟩
        case measure => (simp [intOf]; omega)
        case rel => first | exact (RH.out _ hb'H.out) | exact ⟨rfl, (RH.out _ hb'H.out)⟩ | ((try refine ⟨rfl, ?_⟩); (repeat apply Exists.intro); refine ⟨(RH.out _ hb'H.out), ?_⟩; ((repeat' apply And.intro) <;> rfl))
      · rw [hq] at hcall hr
        rw [Bool.true_or] at hr
        subst hr
        have hxH := Lib.hid hx
        clear hx
        have hbwH := Lib.hid hbw
        clear hbw
        have hqH := Lib.hid hq
        clear hq
        have hcallH := Lib.hid hcall
        clear hcall
        go_wp2_with (go_at_fn g; refine hcallH.out.mono ?_; rintro e w' ⟨rfl, hb'⟩; have hb'H := Lib.hid hb'; clear hb')
        go_ret
        exact ⟨k, rfl, by first | omega | (rw [if_pos rfl]; omega), hbwH.out.trans (hb'H.out.mono hbwH.out.size)⟩
    · have e : l.drop k = [] := List.drop_eq_nil_of_le (by have := hllH.out; omega)
      rw [e] at hr
      subst hr
      have hbwH := Lib.hid hbw
      clear hbw
      have eH := Lib.hid e
      clear e
      go_wp2
      go_ret
      exact ⟨-1, rfl, by simp, hbwH.out⟩

set_option maxHeartbeats 1000000 in
theorem containsFunc_any (g : Nat) (lb : Array Value) (eg : ∀ args w, (callFunc g args).run Tryd.prog w = .ok (.enter g args) w) (p : ByteArray → Bool) (A : Option Addr) (n c : Nat) (l : List ByteArray) (w : World)
    (hl : SlAt RStr w A n l) (hn : n ≤ 9223372036854775807) (hp : PredL g lb p l w) (b : Bool) (hb : l.any p = b) :
    Calls Tryd.prog 34 #[.slice A n c, .func (.func g) #[] lb] w fun e w' => e = .returned (.bool b) ∧ Below w.heap.size w w' := by
  have hlH := Lib.hid hl
  clear hl
  have hbH := Lib.hid hb
  clear hb
  have hpH := Lib.hid hp
  clear hp
  go_enter Tryd.func34, Tryd.ntmps34
  go_wp2_with fail
  refine (indexFunc_any g lb eg p A n c l _ hlH.out hn hpH.out b hbH.out).mono ?_
  rintro e w1 ⟨i, rfl, hi, hw1⟩
  have hw1H := Lib.hid hw1
  clear hw1
  cases b
  · rw [if_neg (by simp)] at hi
    subst hi
    go_wp2
    go_ret
    exact ⟨rfl, hw1H.out⟩
  · rw [if_pos rfl] at hi
    go_wp2
    go_ret
    exact ⟨rfl, hw1H.out⟩
end Go.Proofs.YtbapkhkklglbaaaDoor.C9
