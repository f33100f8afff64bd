/-
  Rows of paths in order: checkPaths, of the program and of the reference.
-/
import Derived.Test.YtgalaeeppalljaaDoorRPath
import Derived.IntWalk
namespace Go.Proofs.YtgalaeeppalljaaDoor
open Go.RowKit
set_option linter.unusedVariables false

def pathsErr : Option ByteArray → List ByteArray → Int
  | _, [] => 0
  | p, s :: r => if pathB s = true then (if p.map (sle s ·) = some true then 8 else pathsErr (some s) r) else 3
def prevS (l : List ByteArray) (k : Nat) : Option ByteArray := if k = 0 then none else l[k - 1]?
def PathsRel (l : List ByteArray) (c : Int) (w0 : World) (i : Value) (wr : World) : Prop := ∃ k : Nat, k ≤ l.length ∧ i = .int .i64 k ∧ pathsErr (prevS l k) (l.drop k) = c ∧ Below w0.heap.size w0 wr

set_option maxHeartbeats 2000000 in
theorem paths_any (A : Option Addr) (len cap : Nat) (l : List ByteArray) (w : World) (hm : MaxLenAt w) (hlen : len ≤ 100000) (hl : SlAt RStr w A len l) (c : Int) (hF : pathsErr none l = c) :
    Calls Tryd.prog 52 #[.slice A len cap] w fun e w' => e = .returned (.int .i64 c) ∧ Below w.heap.size w w' := by
  have hsz : ∀ x ∈ l, x.size < 18446744073709551616 := fun x hx => by have : x.size ≤ maxLen := hl.2.2 x hx; unfold maxLen at this; omega
  have hll := hl.1
  have hllH := Lib.hid hll
  clear hll
  have hlH := Lib.hid hl
  clear hl
  have hmH := Lib.hid hm
  clear hm
  have hFH := Lib.hid hF
  clear hF
  have hszH := Lib.hid hsz
  clear hsz
  go_enter Tryd.func52, Tryd.ntmps52
  go_wp2_with fail
  go_loopw [7] (fun i wr => PathsRel l c w i wr) (fun i _ => len - (intOf i).toNat)
  case atStart => exact ⟨0, Nat.zero_le _, rfl, hFH.out, Below.refl _ _⟩
  case round =>
    obtain ⟨k, hk, rfl, hck, hb⟩ := hrel
    have hkl : k ≤ len := by have := hllH.out; omega
    have hbs := hb.size
    by_cases hlt : k < len
    · obtain ⟨b, off, hA, _⟩ := hlH.out.2.1 (by omega)
      subst hA
      obtain ⟨x, hx⟩ : ∃ x, l[k]? = some x := ⟨l[k]'(by have := hllH.out; omega), List.getElem?_eq_getElem _⟩
      have c0 := cell_Str (hlH.out.below hb) hx
      have hkl2 : k + 1 ≤ l.length := by have := hllH.out; omega
      have hpn : prevS l (k + 1) = some x := by rw [prevS, if_neg (by omega), show k + 1 - 1 = k from rfl, hx]
      have hxz := hszH.out x (List.mem_of_getElem? hx)
      rw [drop_cons hx, pathsErr] at hck
      obtain ⟨b1, hb1⟩ : ∃ b, pathB x = b := ⟨_, rfl⟩
      rw [hb1] at hck
      have hxH := Lib.hid hx
      clear hx
      have hbH := Lib.hid hb
      clear hb
      have hb1H := Lib.hid hb1
      clear hb1
      have hpnH := Lib.hid hpn
      clear hpn
      have hckH := Lib.hid hck
      clear hck
      have hkl2H := Lib.hid hkl2
      clear hkl2
      have hxzH := Lib.hid hxz
      clear hxz
      go_wp2_with fail
      refine (isPath_any x _ (hmH.out.below hbH.out) b1 hb1H.out).mono ?_
      rintro e w1 ⟨rfl, hw1⟩
      have hbw1 := hbH.out.trans (hw1.mono hbs)
      have hw1H := Lib.hid hw1
      clear hw1
      have hbw1H := Lib.hid hbw1
      clear hbw1
      have hck := hckH.out
      clear hckH
      cases b1
      · rw [if_neg (by simp)] at hck
        subst hck
        go_wp2
        go_ret
        exact ⟨rfl, hbw1H.out⟩
      · rw [if_pos rfl] at hck
        by_cases hk0 : k = 0
        · subst hk0
          rw [show prevS l 0 = none from rfl, Option.map_none, if_neg (by decide)] at hck
          have R : PathsRel l c w (.int .i64 1) w1 := ⟨1, hkl2H.out, by go_num, by rw [show prevS l 1 = _ from hpnH.out]; exact hck, hbw1H.out⟩
          have RH := Lib.hid R
          clear R
          have hckH := Lib.hid hck
          clear hck
          go_wp2
          refine ⟨?rel, ?measure⟩
          case measure => (simp [intOf]; omega)
          case rel => first | exact RH.out | exact ⟨rfl, RH.out⟩ | ((try refine ⟨rfl, ?_⟩); (repeat apply Exists.intro); refine ⟨RH.out, ?_⟩; ((repeat' apply And.intro) <;> rfl))
        · obtain ⟨j, rfl⟩ : ∃ j, k = j + 1 := ⟨k - 1, by omega⟩
          obtain ⟨y, hy⟩ : ∃ y, l[j]? = some y := ⟨l[j]'(by have := hllH.out; omega), List.getElem?_eq_getElem _⟩
          have d0 := cell_Str (hlH.out.below hbw1H.out) hy
          have hpr : prevS l (j + 1) = some y := by rw [prevS, if_neg (by omega), show j + 1 - 1 = j from rfl, hy]
          rw [hpr, Option.map_some] at hck
          clear hpr
          cases hle : sle x y
          · have hle' : (Op.bytesLess x.toList y.toList || x.toList == y.toList) = false := hle
            rw [hle, if_neg (by decide)] at hck
            have R : PathsRel l c w (.int .i64 (j + 1 + 1)) w1 := ⟨j + 1 + 1, hkl2H.out, by go_num, by rw [hpnH.out]; exact hck, hbw1H.out⟩
            have RH := Lib.hid R
            clear R
            have hleH := Lib.hid hle
            clear hle
            have hckH := Lib.hid hck
            clear hck
            have hyH := Lib.hid hy
            clear hy
            go_wp2
            refine ⟨?rel, ?measure⟩
            case measure => (simp [intOf]; omega)
            case rel => first | exact RH.out | exact ⟨rfl, RH.out⟩ | ((try refine ⟨rfl, ?_⟩); (repeat apply Exists.intro); refine ⟨RH.out, ?_⟩; ((repeat' apply And.intro) <;> rfl))
          · have hle' : (Op.bytesLess x.toList y.toList || x.toList == y.toList) = true := hle
            rw [hle, if_pos rfl] at hck
            subst hck
            have hleH := Lib.hid hle
            clear hle
            have hyH := Lib.hid hy
            clear hy
            go_wp2
            go_ret
            exact ⟨rfl, hbw1H.out⟩
    · have e : l.drop k = [] := List.drop_eq_nil_of_le (by have := hllH.out; omega)
      rw [e] at hck
      have hc0 : 0 = c := by rw [← hck]; unfold pathsErr; rfl
      have hckH := Lib.hid hck
      clear hck
      have hbH := Lib.hid hb
      clear hb
      have eH := Lib.hid e
      clear e
      have hc0H := Lib.hid hc0
      clear hc0
      go_wp2
      go_ret
      exact ⟨ret1_int hc0H.out, hbH.out⟩

set_option maxHeartbeats 2000000 in
theorem rpaths_any (A : Option Addr) (len cap : Nat) (l : List ByteArray) (w : World) (hm : MaxLenAt w) (hlen : len ≤ 100000) (hl : SlAt RStr w A len l) (hsz : ∀ x ∈ l, x.size < 4294967281) (c : Int) (hF : pathsErr none l = c) :
    Calls Tryd.prog 57 #[.slice A len cap] w fun e w' => e = .returned (.int .i64 c) ∧ Below w.heap.size w w' := by
  have hll := hl.1
  have hllH := Lib.hid hll
  clear hll
  have hlH := Lib.hid hl
  clear hl
  have hmH := Lib.hid hm
  clear hm
  have hFH := Lib.hid hF
  clear hF
  have hszH := Lib.hid hsz
  clear hsz
  go_enter Tryd.func57, Tryd.ntmps57
  go_wp2_with fail
  go_loopw [7] (fun i wr => PathsRel l c w i wr) (fun i _ => len - (intOf i).toNat)
  case atStart => exact ⟨0, Nat.zero_le _, rfl, hFH.out, Below.refl _ _⟩
  case round =>
    obtain ⟨k, hk, rfl, hck, hb⟩ := hrel
    have hkl : k ≤ len := by have := hllH.out; omega
    have hbs := hb.size
    by_cases hlt : k < len
    · obtain ⟨b, off, hA, _⟩ := hlH.out.2.1 (by omega)
      subst hA
      obtain ⟨x, hx⟩ : ∃ x, l[k]? = some x := ⟨l[k]'(by have := hllH.out; omega), List.getElem?_eq_getElem _⟩
      have c0 := cell_Str (hlH.out.below hb) hx
      have hkl2 : k + 1 ≤ l.length := by have := hllH.out; omega
      have hpn : prevS l (k + 1) = some x := by rw [prevS, if_neg (by omega), show k + 1 - 1 = k from rfl, hx]
      have hxz := hszH.out x (List.mem_of_getElem? hx)
      rw [drop_cons hx, pathsErr] at hck
      obtain ⟨b1, hb1⟩ : ∃ b, pathB x = b := ⟨_, rfl⟩
      rw [hb1] at hck
      have hxH := Lib.hid hx
      clear hx
      have hbH := Lib.hid hb
      clear hb
      have hb1H := Lib.hid hb1
      clear hb1
      have hpnH := Lib.hid hpn
      clear hpn
      have hckH := Lib.hid hck
      clear hck
      have hkl2H := Lib.hid hkl2
      clear hkl2
      have hxzH := Lib.hid hxz
      clear hxz
      go_wp2_with fail
      refine (risPath_any x _ (hmH.out.below hbH.out) hxzH.out b1 hb1H.out).mono ?_
      rintro e w1 ⟨rfl, hw1⟩
      have hbw1 := hbH.out.trans (hw1.mono hbs)
      have hw1H := Lib.hid hw1
      clear hw1
      have hbw1H := Lib.hid hbw1
      clear hbw1
      have hck := hckH.out
      clear hckH
      cases b1
      · rw [if_neg (by simp)] at hck
        subst hck
        go_wp2
        go_ret
        exact ⟨rfl, hbw1H.out⟩
      · rw [if_pos rfl] at hck
        by_cases hk0 : k = 0
        · subst hk0
          rw [show prevS l 0 = none from rfl, Option.map_none, if_neg (by decide)] at hck
          have R : PathsRel l c w (.int .i64 1) w1 := ⟨1, hkl2H.out, by go_num, by rw [show prevS l 1 = _ from hpnH.out]; exact hck, hbw1H.out⟩
          have RH := Lib.hid R
          clear R
          have hckH := Lib.hid hck
          clear hck
          go_wp2
          refine ⟨?rel, ?measure⟩
          case measure => (simp [intOf]; omega)
          case rel => first | exact RH.out | exact ⟨rfl, RH.out⟩ | ((try refine ⟨rfl, ?_⟩); (repeat apply Exists.intro); refine ⟨RH.out, ?_⟩; ((repeat' apply And.intro) <;> rfl))
        · obtain ⟨j, rfl⟩ : ∃ j, k = j + 1 := ⟨k - 1, by omega⟩
          obtain ⟨y, hy⟩ : ∃ y, l[j]? = some y := ⟨l[j]'(by have := hllH.out; omega), List.getElem?_eq_getElem _⟩
          have d0 := cell_Str (hlH.out.below hbw1H.out) hy
          have hpr : prevS l (j + 1) = some y := by rw [prevS, if_neg (by omega), show j + 1 - 1 = j from rfl, hy]
          rw [hpr, Option.map_some] at hck
          clear hpr
          cases hle : sle x y
          · have hle' : (Op.bytesLess x.toList y.toList || x.toList == y.toList) = false := hle
            rw [hle, if_neg (by decide)] at hck
            have R : PathsRel l c w (.int .i64 (j + 1 + 1)) w1 := ⟨j + 1 + 1, hkl2H.out, by go_num, by rw [hpnH.out]; exact hck, hbw1H.out⟩
            have RH := Lib.hid R
            clear R
            have hleH := Lib.hid hle
            clear hle
            have hckH := Lib.hid hck
            clear hck
            have hyH := Lib.hid hy
            clear hy
            go_wp2
            refine ⟨?rel, ?measure⟩
            case measure => (simp [intOf]; omega)
            case rel => first | exact RH.out | exact ⟨rfl, RH.out⟩ | ((try refine ⟨rfl, ?_⟩); (repeat apply Exists.intro); refine ⟨RH.out, ?_⟩; ((repeat' apply And.intro) <;> rfl))
          · have hle' : (Op.bytesLess x.toList y.toList || x.toList == y.toList) = true := hle
            rw [hle, if_pos rfl] at hck
            subst hck
            have hleH := Lib.hid hle
            clear hle
            have hyH := Lib.hid hy
            clear hy
            go_wp2
            go_ret
            exact ⟨rfl, hbw1H.out⟩
    · have e : l.drop k = [] := List.drop_eq_nil_of_le (by have := hllH.out; omega)
      rw [e] at hck
      have hc0 : 0 = c := by rw [← hck]; unfold pathsErr; rfl
      have hckH := Lib.hid hck
      clear hck
      have hbH := Lib.hid hb
      clear hb
      have eH := Lib.hid e
      clear e
      have hc0H := Lib.hid hc0
      clear hc0
      go_wp2
      go_ret
      exact ⟨ret1_int hc0H.out, hbH.out⟩
end Go.Proofs.YtgalaeeppalljaaDoor
