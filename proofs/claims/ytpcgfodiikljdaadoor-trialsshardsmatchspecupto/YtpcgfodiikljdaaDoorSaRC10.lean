/-
  SameRows of the reference, at rows that are equal.
-/
import Derived.Test.YtpcgfodiikljdaaDoorChkTC10
import Derived.Test.YtpcgfodiikljdaaDoorSortSC10
import Derived.Deep.RegionHeld3
namespace Go.Proofs.YtpcgfodiikljdaaDoor.C10
open Go.ChangeShapes Go.WideShapes Go.Deep Go.RowKit
set_option linter.unusedVariables false
set_option linter.unusedSimpArgs false

def SrRel (n : Nat) (w0 : World) (i : Value) (wr : World) : Prop := ∃ k : Nat, k ≤ n ∧ i = .int .i64 k ∧ Below w0.heap.size w0 wr
set_option maxRecDepth 100000 in
set_option maxHeartbeats 8000000 in
theorem sameRows_any (A1 A2 : Option Addr) (n c1 c2 : Nat) (L1 L2 : List (SlD ByteArray)) (w : World) (h1 : SlAt (RSl RStr) w A1 n L1) (h2 : SlAt (RSl RStr) w A2 n L2) (he : L1.map (·.l) = L2.map (·.l)) (hn : n ≤ 1000000) :
    Calls Tryd.prog 12 #[.slice A1 n c1, .slice A2 n c2] w fun e w' => e = .returned (.bool true) ∧ Below w.heap.size w w' := by
  have h1H := Lib.hid h1
  clear h1
  have h2H := Lib.hid h2
  clear h2
  have heH := Lib.hid he
  clear he
  go_enter Tryd.func12, Tryd.ntmps12
  go_wp2_with fail
  go_loopw [13] (fun i wr => SrRel n w i wr) (fun i _ => n - (intOf i).toNat)
  case atStart => exact ⟨0, Nat.zero_le _, rfl, Below.refl _ _⟩
  case round =>
    obtain ⟨k, hk, rfl, hb⟩ := hrel
    have hl1 := h1H.out.1
    have hl2 := h2H.out.1
    by_cases hlt : k < n
    · obtain ⟨b1, o1, hA1, hc1⟩ := h1H.out.2.1 (by omega)
      obtain ⟨b2, o2, hA2, hc2⟩ := h2H.out.2.1 (by omega)
      subst hA1
      subst hA2
      obtain ⟨x, hx⟩ : ∃ x, L1[k]? = some x := ⟨L1[k]'(by omega), List.getElem?_eq_getElem _⟩
      obtain ⟨y, hy⟩ : ∃ y, L2[k]? = some y := ⟨L2[k]'(by omega), List.getElem?_eq_getElem _⟩
      have u0 : w.cell? ⟨b1, o1 + k, none⟩ = some (.slice x.A x.n x.cap) := by have := hc1 k x hx 0 _ rfl; simpa [RSl] using this
      have v0 : w.cell? ⟨b2, o2 + k, none⟩ = some (.slice y.A y.n y.cap) := by have := hc2 k y hy 0 _ rfl; simpa [RSl] using this
      have u1 := (hb.cell (cell?_lt u0)).trans u0
      have v1 := (hb.cell (cell?_lt v0)).trans v0
      have hxy : x.l = y.l := by
        have e1 : (L1.map (·.l))[k]? = some x.l := by rw [List.getElem?_map, hx]; rfl
        have e2 : (L2.map (·.l))[k]? = some y.l := by rw [List.getElem?_map, hy]; rfl
        rw [heH.out, e2] at e1
        injection e1 with e1; exact e1.symm
      have hxk := (h1H.out.2.2 x (List.mem_of_getElem? hx))
      have hyk := (h2H.out.2.2 y (List.mem_of_getElem? hy))
      have hx1 := hxk.1.below hb
      have hy1 := hyk.1.below hb
      rw [← hxy] at hy1
      have hxn : x.n ≤ 9223372036854775807 := Nat.le_trans hxk.2.1 hxk.2.2.1
      have w1 : (0 : Int) ≤ (k : Int) := by omega
      have w2 : (k : Int) < (n : Int) := by omega
      have hcall : ∀ W, Below wr.heap.size wr W → Calls Tryd.prog 29 #[.slice x.A x.n x.cap, .slice y.A y.n y.cap] W fun e w' => e = .returned (.bool true) ∧ Below W.heap.size W w' := fun W hW => equal_same x.A y.A x.n x.cap y.n y.cap x.l W (hx1.below hW) (hy1.below hW) hxn
      clear u0 v0
      have hc1H := Lib.hid hc1
      clear hc1
      have hc2H := Lib.hid hc2
      clear hc2
      have hxH := Lib.hid hx
      clear hx
      have hyH := Lib.hid hy
      clear hy
      have hxyH := Lib.hid hxy
      clear hxy
      have hxkH := Lib.hid hxk
      clear hxk
      have hykH := Lib.hid hyk
      clear hyk
      have hx1H := Lib.hid hx1
      clear hx1
      have hy1H := Lib.hid hy1
      clear hy1
      have hbH := Lib.hid hb
      clear hb
      have hl1H := Lib.hid hl1
      clear hl1
      have hl2H := Lib.hid hl2
      clear hl2
      have hcallH := Lib.hid hcall
      clear hcall
      go_wp2_with fail
      go_region_held3 (fun w' => w'.cell? ⟨b1, o1 + k, none⟩ = some (.slice x.A x.n x.cap) ∧ w'.cell? ⟨b2, o2 + k, none⟩ = some (.slice y.A y.n y.cap)) (first | go_keep | exact two_below (by assumption) (by assumption))
        (first | (go_at_call 29; refine (hcallH.out _ (Below.refl _ _).drew).mono ?_; rintro e w5 ⟨rfl, hw5⟩))
      have hb5 := hbH.out.trans ((Below.refl wr.heap.size wr).drew.trans hw5 |>.mono hbH.out.size)
      have R1 : SrRel n w (.int .i64 ((k : Int) + 1)) w5 := ⟨k + 1, by omega, by go_num, hb5⟩
      clear hw5 hb5
      have R1H := Lib.hid R1
      clear R1
      go_wp2
      refine ⟨?rel, ?measure⟩
      case measure => (simp [intOf]; omega)
      case rel => first | exact R1H.out | exact ⟨rfl, R1H.out⟩ | ((try refine ⟨rfl, ?_⟩); (repeat apply Exists.intro); refine ⟨R1H.out, ?_⟩; ((repeat' apply And.intro) <;> rfl))
    · obtain rfl : k = n := by omega
      have hbH := Lib.hid hb
      clear hb
      go_wp2
      go_ret
      exact ⟨rfl, hbH.out⟩
end Go.Proofs.YtpcgfodiikljdaaDoor.C10
