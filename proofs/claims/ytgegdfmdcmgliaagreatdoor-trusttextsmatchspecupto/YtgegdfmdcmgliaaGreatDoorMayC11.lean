/-
  May, of the program and of the reference.
-/
import Derived.Test.YtgegdfmdcmgliaaGreatDoorMayRC11
namespace Go.Proofs.YtgegdfmdcmgliaaGreatDoor.C11
open Go.RowKit
set_option linter.unusedVariables false


set_option maxHeartbeats 2000000 in
theorem May_any (A : Option Addr) (n c : Nat) (l : List Writer) (s label : ByteArray) (at_ : Int) (w : World) (hm : MaxLenAt w) (hl : SlAt RWriter w A n l) (hs : s.size ≤ maxLen) (hls : label.size ≤ 1048576) (f : Int) (hf : mayF l s label at_ = f) (r : Bool) (hr : mayR l s label at_ = r) :
    Calls Tryz.prog 24 #[.slice A n c, .string s, .string label, .int .i64 at_] w fun e w' => e = .returned (.tuple #[.bool r, .int .i64 f]) ∧ Below w.heap.size w w' := by
  have hb := Below.refl w.heap.size w
  have hll := hl.1
  unfold mayR at hr
  rw [hf] at hr
  unfold mayF at hf
  obtain ⟨f1, hf1⟩ : ∃ x, writersF l = x := ⟨_, rfl⟩
  obtain ⟨b2, hb2⟩ : ∃ x, wordB s = x := ⟨_, rfl⟩
  obtain ⟨b3, hb3⟩ : ∃ x, labelL label.data.toList = x := ⟨_, rfl⟩
  rw [hf1, hb2, hb3] at hf
  have hlH := Lib.hid hl
  clear hl
  have hmH := Lib.hid hm
  clear hm
  have hbH := Lib.hid hb
  clear hb
  have hllH := Lib.hid hll
  clear hll
  have hsH := Lib.hid hs
  clear hs
  have hrH := Lib.hid hr
  clear hr
  have hfH := Lib.hid hf
  clear hf
  have hf1H := Lib.hid hf1
  clear hf1
  have hb2H := Lib.hid hb2
  clear hb2
  have hb3H := Lib.hid hb3
  clear hb3
  go_enter Tryz.func24, Tryz.ntmps24
  go_wp2_with fail
  refine (writers_any A n c l _ (hlH.out.below hbH.out) f1 hf1H.out).mono ?_
  rintro e w1 ⟨rfl, hw⟩
  have hb := hbH.out.trans (hw.mono hbH.out.size)
  clear hbH hw
  have hbH := Lib.hid hb
  clear hb
  have hf := hfH.out
  have hr := hrH.out
  clear hfH hrH
  by_cases e1 : f1 = 0
  · subst e1
    rw [if_pos rfl] at hf
    cases b2
    · rw [if_neg (by decide)] at hf
      subst hf
      rw [if_neg (by decide)] at hr
      subst hr
      go_wp2_with fail
      refine (word_any s false _ hsH.out hb2H.out).mono ?_
      rintro e w2 ⟨rfl, hw⟩
      have hb := hbH.out.trans (hw.mono hbH.out.size)
      clear hbH hw
      have hbH := Lib.hid hb
      clear hb
      go_wp2
      go_ret2
      exact ⟨rfl, hbH.out⟩
    · rw [if_pos rfl] at hf
      cases b3
      · rw [if_neg (by decide)] at hf
        subst hf
        rw [if_neg (by decide)] at hr
        subst hr
        go_wp2_with fail
        refine (word_any s true _ hsH.out hb2H.out).mono ?_
        rintro e w2 ⟨rfl, hw⟩
        have hb := hbH.out.trans (hw.mono hbH.out.size)
        clear hbH hw
        have hbH := Lib.hid hb
        clear hb
        go_wp2_with fail
        refine (isWhole_any label _ (hmH.out.below hbH.out) hls false hb3H.out).mono ?_
        rintro e w3 ⟨rfl, hw⟩
        have hb := hbH.out.trans (hw.mono hbH.out.size)
        clear hbH hw
        have hbH := Lib.hid hb
        clear hb
        go_wp2
        go_ret2
        exact ⟨rfl, hbH.out⟩
      · rw [if_pos rfl] at hf
        by_cases i1 : inR 0 1000000000 at_ = true
        · rw [if_pos i1] at hf
          subst hf
          rw [if_pos rfl] at hr
          obtain ⟨h50, hwe⟩ := writers_len hf1H.out
          have hn50 : n ≤ 50 := by have := hllH.out; omega
          have hrise := (writers_rise l none hwe).1
          clear h50 hwe
          have hrH := Lib.hid hr
          clear hr
          have hriseH := Lib.hid hrise
          clear hrise
          go_wp2_with fail
          refine (word_any s true _ hsH.out hb2H.out).mono ?_
          rintro e w2 ⟨rfl, hw⟩
          have hb := hbH.out.trans (hw.mono hbH.out.size)
          clear hbH hw
          have hbH := Lib.hid hb
          clear hb
          go_wp2_with fail
          refine (isWhole_any label _ (hmH.out.below hbH.out) hls true hb3H.out).mono ?_
          rintro e w3 ⟨rfl, hw⟩
          have hb := hbH.out.trans (hw.mono hbH.out.size)
          clear hbH hw
          have hbH := Lib.hid hb
          clear hb
          go_wp2_with (go_at_call 20; refine (within_p _ _ _ _).mono ?_; rintro e wz ⟨rfl, rfl⟩)
          obtain ⟨w4, rfl⟩ : ∃ W, W = wz := ⟨_, rfl⟩
          refine (find_any A n c l s _ hn50 (hlH.out.below hbH.out) hriseH.out).mono ?_
          rintro e w5 ⟨x, rfl, hx, hw⟩
          have hb := hbH.out.trans (hw.mono hbH.out.size)
          clear hbH hw
          have hr := hrH.out
          clear hrH
          obtain ⟨h, hh⟩ : ∃ h, hasName l s = h := ⟨_, rfl⟩
          rw [hh] at hx ⊢
          cases h
          · rw [mayOf_out hh] at hr
            subst hr
            have hbq := hb.alloc hb.size (.cells #[.string x.name, .string x.secret, .slice x.prefixes.A x.prefixes.n x.prefixes.cap, .int .i64 x.from_, .int .i64 x.to_] 55)
            clear hx
            have hbH := Lib.hid hb
            clear hb
            have hbqH := Lib.hid hbq
            clear hbq
            have hhH := Lib.hid hh
            clear hh
            go_wp2
            go_ret2
            exact ⟨rfl, hbqH.out⟩
          · have hx := hx rfl
            rw [mayOf_in hh hx] at hr
            have hok := hlH.out.2.2 x (List.mem_of_getElem? hx)
            have hbq := hb.alloc hb.size (.cells #[.string x.name, .string x.secret, .slice x.prefixes.A x.prefixes.n x.prefixes.cap, .int .i64 x.from_, .int .i64 x.to_] 55)
            have hcall := may_any x label at_ _ (RWriter.mono _ _ _ hbq hok) r hr
            have hbH := Lib.hid hb
            clear hb
            have hbqH := Lib.hid hbq
            clear hbq
            have hhH := Lib.hid hh
            clear hh
            have hxH := Lib.hid hx
            clear hx
            have hrH := Lib.hid hr
            clear hr
            have hokH := Lib.hid hok
            clear hok
            have hcallH := Lib.hid hcall
            clear hcall
            go_wp2_with fail
            refine hcallH.out.mono ?_
            rintro e w6 ⟨rfl, hw⟩
            have hb := hbqH.out.trans (hw.mono hbqH.out.size)
            have hbH := Lib.hid hb
            clear hb
            have hwH := Lib.hid hw
            clear hw
            go_wp2
            go_ret2
            exact ⟨rfl, by assumption⟩
        · rw [if_neg i1] at hf
          have i1 : inR 0 1000000000 at_ = false := by simpa using i1
          subst hf
          rw [if_neg (by decide)] at hr
          subst hr
          go_wp2_with fail
          refine (word_any s true _ hsH.out hb2H.out).mono ?_
          rintro e w2 ⟨rfl, hw⟩
          have hb := hbH.out.trans (hw.mono hbH.out.size)
          clear hbH hw
          have hbH := Lib.hid hb
          clear hb
          go_wp2_with fail
          refine (isWhole_any label _ (hmH.out.below hbH.out) hls true hb3H.out).mono ?_
          rintro e w3 ⟨rfl, hw⟩
          have hb := hbH.out.trans (hw.mono hbH.out.size)
          clear hbH hw
          have hbH := Lib.hid hb
          clear hb
          go_wp2_with (go_at_call 20; refine (within_p _ _ _ _).mono ?_; rintro e wz ⟨rfl, rfl⟩)
          go_ret2
          exact ⟨rfl, hbH.out⟩
  · rw [if_neg e1] at hf
    subst hf
    have e2 : (f1 != 0) = true := by simpa using e1
    rw [if_neg e1] at hr
    subst hr
    clear e1
    go_wp2
    go_ret2
    exact ⟨rfl, hbH.out⟩
end Go.Proofs.YtgegdfmdcmgliaaGreatDoor.C11
