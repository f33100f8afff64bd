/-
  isPath of the reference; digests.
-/
import Derived.Test.YtpcgfodiikljdaaDoorPathC10
namespace Go.Proofs.YtpcgfodiikljdaaDoor.C10
open Go.RowKit Go.Shelf
set_option linter.unusedVariables false

set_option maxHeartbeats 1000000 in
theorem risPath_any (s : ByteArray) (w : World) (hm : MaxLenAt w) (hs : s.size < 4294967281) (b : Bool) (hb : pathB s = b) :
    Calls Tryd.prog 27 #[.string s] w fun e w' => e = .returned (.bool b) ∧ Below w.heap.size w w' := by
  unfold pathB at hb
  obtain ⟨a, ha⟩ : ∃ a, (parts s).all partB = a := ⟨_, rfl⟩
  rw [ha] at hb
  have hmH := Lib.hid hm
  clear hm
  have hbH := Lib.hid hb
  clear hb
  have haH := Lib.hid ha
  clear ha
  go_enter Tryd.func27, Tryd.ntmps27
  go_wp2_with fail
  refine (split_any s _ hmH.out hs).mono ?_
  rintro e w1 ⟨A, len, rfl, hl, hb1⟩
  have hll := hl.1
  have hlen : len ≤ 4294967281 := by rw [← hll, parts_len]; have := Lib.countB_le ⟨#[47]⟩ (by decide) _ s (Nat.le_refl _); omega
  have hsz : ∀ x ∈ parts s, x.size ≤ 9223372036854775807 := fun x hx => by have := parts_size hx; omega
  obtain ⟨l, hpl⟩ : ∃ l, parts s = l := ⟨_, rfl⟩
  rw [hpl] at hl hll hsz haH
  have hlH := Lib.hid hl
  clear hl
  have hb1H := Lib.hid hb1
  clear hb1
  have hllH := Lib.hid hll
  clear hll
  have hszH := Lib.hid hsz
  clear hsz
  have hplH := Lib.hid hpl
  clear hpl
  go_wp2
  go_loop [8] (fun i => PathRel l a i) (fun i => len - (intOf i).toNat)
  case atStart => exact ⟨0, Nat.zero_le _, rfl, haH.out⟩
  case round =>
    obtain ⟨k, hk, rfl, hr⟩ := hrel
    have hkl : k ≤ len := by have := hllH.out; omega
    by_cases hlt : k < len
    · obtain ⟨b0, off, hA, _⟩ := hlH.out.2.1 (by omega)
      subst hA
      obtain ⟨x, hx⟩ : ∃ x, l[k]? = some x := ⟨l[k]'(by have := hllH.out; omega), List.getElem?_eq_getElem _⟩
      have c0 := cell_Str hlH.out hx
      have hkl2 : k + 1 ≤ l.length := by have := hllH.out; omega
      have hxs := hszH.out x (List.mem_of_getElem? hx)
      rw [drop_all hx] at hr
      obtain ⟨p, hp⟩ : ∃ p, partB x = p := ⟨_, rfl⟩
      rw [hp] at hr
      have hxH := Lib.hid hx
      clear hx
      have hpH := Lib.hid hp
      clear hp
      cases p
      · rw [Bool.false_and] at hr
        subst hr
        have hb := hbH.out
        rw [Bool.and_false] at hb
        subst hb
        go_wp2_with (go_at_call 41; refine (risPart_any x _ hxs _ (by exact hpH.out)).mono ?_; rintro e wz ⟨rfl, rfl⟩)
        go_ret
        exact ⟨rfl, hb1H.out⟩
      · rw [Bool.true_and] at hr
        have R : PathRel l a (.int .i64 (k + 1)) := ⟨k + 1, hkl2, by go_num, hr⟩
        have RH := Lib.hid R
        clear R
        have hrH := Lib.hid hr
        clear hr
        go_wp2_with (go_at_call 41; refine (risPart_any x _ hxs _ (by exact hpH.out)).mono ?_; rintro e wz ⟨rfl, rfl⟩)
        refine ⟨?rel, ?measure⟩
        case measure => (simp [intOf]; omega)
        case rel => first | exact RH.out | exact ⟨rfl, RH.out⟩ | ((try refine ⟨rfl, ?_⟩); (repeat apply Exists.intro); refine ⟨RH.out, ?_⟩; ((repeat' apply And.intro) <;> rfl))
    · have e : l.drop k = [] := List.drop_eq_nil_of_le (by have := hllH.out; omega)
      rw [e] at hr
      subst hr
      clear e
      have hb := hbH.out
      clear hbH
      rw [show ([] : List ByteArray).all partB = true from rfl, Bool.and_true] at hb
      have hbH := Lib.hid hb
      clear hb
      go_wp2_with (go_at_call 23; refine (within_r _ _ _ _).mono ?_; rintro e wz ⟨rfl, rfl⟩)
      go_ret
      exact ⟨ret_bool hbH.out, hb1H.out⟩

def hcut : List UInt8 := [48, 49, 50, 51, 52, 53, 54, 55, 56, 57, 97, 98, 99, 100, 101, 102]
def digB (s : ByteArray) : Bool := ((s.size : Int) == 16) && s.data.toList.all (hcut.contains ·)
theorem trim_hex (s : ByteArray) (w : World) (hs : s.size ≤ 9223372036854775807) :
    Calls Tryd.prog 40 #[.string s, .string ⟨#[48, 49, 50, 51, 52, 53, 54, 55, 56, 57, 97, 98, 99, 100, 101, 102]⟩] w fun e w' =>
      e = .returned (.string ⟨(Lib.trimS s.data.toList hcut).toArray⟩) ∧ Below w.heap.size w w' :=
  Any.strings_Trim_laid Tryd.lays160 (by kernel_rfl) s ⟨#[48, 49, 50, 51, 52, 53, 54, 55, 56, 57, 97, 98, 99, 100, 101, 102]⟩ w hs (by decide) (ascii_of_all (by decide))

end Go.Proofs.YtpcgfodiikljdaaDoor.C10
