/-
  Paths and digests: IsPath, IsDigest, of the program and of the reference.
-/
import Derived.Test.YtpcgfodiikljdaaDoorRPartC10
import Derived.Lib.SplitLaws
import Derived.Test.YtpcgfodiikljdaaDoorStr
namespace Go.Proofs.YtpcgfodiikljdaaDoor.C10
open Go.RowKit
set_option linter.unusedVariables false

def parts (s : ByteArray) : List ByteArray := Lib.splitB ⟨#[47]⟩ 0 (Lib.countB s ⟨#[47]⟩) s
def pathB (s : ByteArray) : Bool := inR 1 200 s.size && (parts s).all partB

theorem parts_size {s x : ByteArray} (h : x ∈ parts s) : x.size ≤ s.size := splitB_size _ _ _ _ h
theorem parts_len (s : ByteArray) : (parts s).length = Lib.countB s ⟨#[47]⟩ + 1 := Lib.splitB_all _ (by decide) 0 _ s rfl

theorem split_any (s : ByteArray) (w : World) (hm : MaxLenAt w) (hs : s.size < 4294967281) :
    Calls Tryd.prog 38 #[.string s, .string ⟨#[47]⟩] w fun e w' => ∃ (A : Option Addr) (n : Nat), e = .returned (.slice A n n) ∧ SlAt RStr w' A n (parts s) ∧ Below w.heap.size w w' := by
  obtain ⟨m, hm⟩ := hm
  refine (Tryd.strings_Split s ⟨#[47]⟩ m w hs hm (by decide)).mono ?_
  rintro e w' ⟨rfl, rfl⟩
  refine ⟨_, _, rfl, ⟨parts_len s, fun _ => ⟨_, _, rfl, fun i x hx j v hv => ?_⟩, fun x hx => ?_⟩, (Below.refl _ _).alloc (Nat.le_refl _) _⟩
  · match j, hv with
    | 0, hv =>
      simp only [RStr, List.getElem?_cons_zero, Option.some.injEq] at hv
      subst hv
      have : ((parts s).map Value.string)[i]? = some (.string x) := by rw [List.getElem?_map, hx]; rfl
      simp only [RStr, Nat.mul_one, Nat.zero_add, Nat.add_zero]
      rw [cell_new]
      simpa [parts] using this
    | n + 1, hv => simp [RStr] at hv
  · have := parts_size hx
    show x.size ≤ maxLen
    unfold maxLen
    omega

theorem drop_all {α : Type} {p : α → Bool} {l : List α} {k : Nat} {x : α} (h : l[k]? = some x) : (l.drop k).all p = (p x && (l.drop (k + 1)).all p) := by
  rw [drop_cons h, List.all_cons]
def PathRel (l : List ByteArray) (a : Bool) (i : Value) : Prop := ∃ k : Nat, k ≤ l.length ∧ i = .int .i64 k ∧ (l.drop k).all partB = a

set_option maxHeartbeats 1000000 in
theorem isPath_any (s : ByteArray) (w : World) (hm : MaxLenAt w) (b : Bool) (hb : pathB s = b) :
    Calls Tryd.prog 25 #[.string s] w fun e w' => e = .returned (.bool b) ∧ Below w.heap.size w w' := by
  unfold pathB inR at hb
  by_cases h0 : 1 ≤ s.size
  · by_cases h1 : s.size ≤ 200
    · rw [decide_eq_true (by omega), decide_eq_true (by omega), Bool.true_and, Bool.true_and] at hb
      have hmH := Lib.hid hm
      clear hm
      have hbH := Lib.hid hb
      clear hb
      go_enter Tryd.func25, Tryd.ntmps25
      go_wp2_with fail
      refine (split_any s _ hmH.out (by omega)).mono ?_
      rintro e w1 ⟨A, len, rfl, hl, hb1⟩
      have hll := hl.1
      have hlen : len ≤ 4294967281 := by rw [← hll, parts_len]; have := Lib.countB_le ⟨#[47]⟩ (by decide) _ s (Nat.le_refl _); omega
      have hsz : ∀ x ∈ parts s, x.size ≤ 9223372036854775807 := fun x hx => by have := parts_size hx; omega
      obtain ⟨l, hpl⟩ : ∃ l, parts s = l := ⟨_, rfl⟩
      rw [hpl] at hl hll hsz hbH
      have hlH := Lib.hid hl
      clear hl
      have hb1H := Lib.hid hb1
      clear hb1
      have hllH := Lib.hid hll
      clear hll
      have hszH := Lib.hid hsz
      clear hsz
      have hplH := Lib.hid hpl
      clear hpl
      go_wp2
      go_loop [16] (fun i => PathRel l b i) (fun i => len - (intOf i).toNat)
      case atStart => exact ⟨0, Nat.zero_le _, rfl, hbH.out⟩
      case round =>
        obtain ⟨k, hk, rfl, hr⟩ := hrel
        have hkl : k ≤ len := by have := hllH.out; omega
        by_cases hlt : k < len
        · obtain ⟨b0, off, hA, _⟩ := hlH.out.2.1 (by omega)
          subst hA
          obtain ⟨x, hx⟩ : ∃ x, l[k]? = some x := ⟨l[k]'(by have := hllH.out; omega), List.getElem?_eq_getElem _⟩
          have c0 := cell_Str hlH.out hx
          have hkl2 : k + 1 ≤ l.length := by have := hllH.out; omega
          have hxs := hszH.out x (List.mem_of_getElem? hx)
          rw [drop_all hx] at hr
          obtain ⟨p, hp⟩ : ∃ p, partB x = p := ⟨_, rfl⟩
          rw [hp] at hr
          have hxH := Lib.hid hx
          clear hx
          have hpH := Lib.hid hp
          clear hp
          cases p
          · rw [Bool.false_and] at hr
            subst hr
            go_wp2_with (go_at_call 39; refine (isPart_any x _ hxs _ (by exact hpH.out)).mono ?_; rintro e wz ⟨rfl, rfl⟩)
            go_ret
            exact ⟨rfl, hb1H.out⟩
          · rw [Bool.true_and] at hr
            have R : PathRel l b (.int .i64 (k + 1)) := ⟨k + 1, hkl2, by go_num, hr⟩
            have RH := Lib.hid R
            clear R
            have hrH := Lib.hid hr
            clear hr
            go_wp2_with (go_at_call 39; refine (isPart_any x _ hxs _ (by exact hpH.out)).mono ?_; rintro e wz ⟨rfl, rfl⟩)
            refine ⟨?rel, ?measure⟩
            case measure => (simp [intOf]; omega)
            case rel => first | exact RH.out | exact ⟨rfl, RH.out⟩ | ((try refine ⟨rfl, ?_⟩); (repeat apply Exists.intro); refine ⟨RH.out, ?_⟩; ((repeat' apply And.intro) <;> rfl))
        · have e : l.drop k = [] := List.drop_eq_nil_of_le (by have := hllH.out; omega)
          rw [e] at hr
          subst hr
          clear e
          go_wp2
          go_ret
          exact ⟨rfl, hb1H.out⟩
    · rw [decide_eq_false (p := (s.size : Int) ≤ 200) (by omega), Bool.and_false, Bool.false_and] at hb
      subst hb
      go_enter Tryd.func25, Tryd.ntmps25
      go_wp2
      go_ret
      exact ⟨rfl, Below.refl _ _⟩
  · rw [decide_eq_false (by omega), Bool.false_and, Bool.false_and] at hb
    subst hb
    go_enter Tryd.func25, Tryd.ntmps25
    go_wp2
    go_ret
    exact ⟨rfl, Below.refl _ _⟩
end Go.Proofs.YtpcgfodiikljdaaDoor.C10
