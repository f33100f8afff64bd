/-
  IsPath of the reference of chapter 2 (rows of XRPath at another name).
-/
import Derived.Test.YtgegdfmdcmgliaaGreatDoorPathC11
import Derived.Test.YtgegdfmdcmgliaaGreatDoorR2PartC11
namespace Go.Proofs.YtgegdfmdcmgliaaGreatDoor.C11
open Go.RowKit Go.Shelf
set_option linter.unusedVariables false

theorem within_2 (n lo hi : Int) (w : World) :
    Calls Tryz.prog 187 #[.int .i64 n, .int .i64 lo, .int .i64 hi] w fun e w' => e = .returned (.bool (inR lo hi n)) ∧ w' = w := by
  unfold inR
  by_cases h1 : lo ≤ n
  · by_cases h2 : n ≤ hi
    · go_enter Tryz.func187, Tryz.ntmps187
      go_wp2
      go_ret
      first | (simp; done) | (simp; omega) | (exact ⟨by simp; omega, rfl⟩)
    · go_enter Tryz.func187, Tryz.ntmps187
      go_wp2
      go_ret
      first | (simp; done) | (simp; omega) | (exact ⟨by simp; omega, rfl⟩)
  · go_enter Tryz.func187, Tryz.ntmps187
    go_wp2
    go_ret
    first | (simp; done) | (simp; omega) | (exact ⟨by simp; omega, rfl⟩)

set_option maxHeartbeats 1000000 in
theorem r2Path_any (s : ByteArray) (w : World) (hm : MaxLenAt w) (hs : s.size < 4294967281) (b : Bool) (hb : pathB s = b) :
    Calls Tryz.prog 183 #[.string s] w fun e w' => e = .returned (.bool b) ∧ Below w.heap.size w w' := by
  unfold pathB at hb
  obtain ⟨a, ha⟩ : ∃ a, (parts s).all partB = a := ⟨_, rfl⟩
  rw [ha] at hb
  have hmH := Lib.hid hm
  clear hm
  have hbH := Lib.hid hb
  clear hb
  have haH := Lib.hid ha
  clear ha
  go_enter Tryz.func183, Tryz.ntmps183
  go_wp2_with fail
  refine (split_any s _ hmH.out hs).mono ?_
  rintro e w1 ⟨A, len, rfl, hl, hb1⟩
  have hll := hl.1
  have hlen : len ≤ 4294967281 := by rw [← hll, parts_len]; have := Lib.countB_le ⟨#[47]⟩ (by decide) _ s (Nat.le_refl _); omega
  have hsz : ∀ x ∈ parts s, x.size ≤ 9223372036854775807 := fun x hx => by have := parts_size hx; omega
  obtain ⟨l, hpl⟩ : ∃ l, parts s = l := ⟨_, rfl⟩
  rw [hpl] at hl hll hsz haH
  have hlH := Lib.hid hl
  clear hl
  have hb1H := Lib.hid hb1
  clear hb1
  have hllH := Lib.hid hll
  clear hll
  have hszH := Lib.hid hsz
  clear hsz
  have hplH := Lib.hid hpl
  clear hpl
  go_wp2
  go_loop [8] (fun i => PathRel l a i) (fun i => len - (intOf i).toNat)
  case atStart => exact ⟨0, Nat.zero_le _, rfl, haH.out⟩
  case round =>
    obtain ⟨k, hk, rfl, hr⟩ := hrel
    have hkl : k ≤ len := by have := hllH.out; omega
    by_cases hlt : k < len
    · obtain ⟨b0, off, hA, _⟩ := hlH.out.2.1 (by omega)
      subst hA
      obtain ⟨x, hx⟩ : ∃ x, l[k]? = some x := ⟨l[k]'(by have := hllH.out; omega), List.getElem?_eq_getElem _⟩
      have c0 := cell_Str hlH.out hx
      have hkl2 : k + 1 ≤ l.length := by have := hllH.out; omega
      have hxs := hszH.out x (List.mem_of_getElem? hx)
      rw [drop_all hx] at hr
      obtain ⟨p, hp⟩ : ∃ p, partB x = p := ⟨_, rfl⟩
      rw [hp] at hr
      have hxH := Lib.hid hx
      clear hx
      have hpH := Lib.hid hp
      clear hp
      cases p
      · rw [Bool.false_and] at hr
        subst hr
        have hb := hbH.out
        rw [Bool.and_false] at hb
        subst hb
        go_wp2_with (go_at_call 186; refine (r2Part_any x _ hxs _ (by exact hpH.out)).mono ?_; rintro e wz ⟨rfl, rfl⟩)
        go_ret
        exact ⟨rfl, hb1H.out⟩
      · rw [Bool.true_and] at hr
        have R : PathRel l a (.int .i64 (k + 1)) := ⟨k + 1, hkl2, by go_num, hr⟩
        have RH := Lib.hid R
        clear R
        have hrH := Lib.hid hr
        clear hr
        go_wp2_with (go_at_call 186; refine (r2Part_any x _ hxs _ (by exact hpH.out)).mono ?_; rintro e wz ⟨rfl, rfl⟩)
        refine ⟨?rel, ?measure⟩
        case measure => (simp [intOf]; omega)
        case rel => first | exact RH.out | exact ⟨rfl, RH.out⟩ | ((try refine ⟨rfl, ?_⟩); (repeat apply Exists.intro); refine ⟨RH.out, ?_⟩; ((repeat' apply And.intro) <;> rfl))
    · have e : l.drop k = [] := List.drop_eq_nil_of_le (by have := hllH.out; omega)
      rw [e] at hr
      subst hr
      clear e
      have hb := hbH.out
      clear hbH
      rw [show ([] : List ByteArray).all partB = true from rfl, Bool.and_true] at hb
      have hbH := Lib.hid hb
      clear hb
      go_wp2_with (go_at_call 187; refine (within_2 _ _ _ _).mono ?_; rintro e wz ⟨rfl, rfl⟩)
      go_ret
      exact ⟨ret_bool hbH.out, hb1H.out⟩

end Go.Proofs.YtgegdfmdcmgliaaGreatDoor.C11
