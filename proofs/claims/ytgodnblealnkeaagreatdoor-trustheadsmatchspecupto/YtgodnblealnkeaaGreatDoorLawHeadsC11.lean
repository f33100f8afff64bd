/-
  The walk of TrustHeadsMatchSpec.
-/
import Derived.Test.YtgodnblealnkeaaGreatDoorHeadsRC11
import Derived.Test.YtgodnblealnkeaaGreatDoorAwake11C11
import Derived.Test.YtgodnblealnkeaaGreatDoorSortSC11
namespace Go.Proofs.YtgodnblealnkeaaGreatDoor.C11
open Go.ChangeShapes Go.WideShapes Go.Deep Go.RowKit
set_option linter.unusedVariables false

theorem sumBulk_mem {α : Type} (f : α → Nat) : ∀ (l : List α) (x : α), x ∈ l → f x ≤ sumBulk f l
  | [], x, h => by cases h
  | y :: r, x, h => by
    rcases List.mem_cons.1 h with rfl | h
    · simp [sumBulk]
    · have := sumBulk_mem f r x h
      simp only [sumBulk]; omega
theorem lbl_of_bulk {l : SlD Claimed} (h : (RSl RClaimed).bulk l ≤ 1048576) : LblOk l.l := fun x hx => by
  have h1 := sumBulk_mem RClaimed.bulk l.l x hx
  have h2 : sumBulk RClaimed.bulk l.l + 1 = (RSl RClaimed).bulk l := rfl
  have h3 : RStr.bulk x.label = x.label.size + 1 := rfl
  have h4 : RClaimed.bulk x = RStr.bulk x.key + RStr.bulk x.label + RStr.bulk x.result + RStr.bulk x.writer + RInt.bulk x.at_ + (RSl RStr).bulk x.uses + RStr.bulk x.sign := rfl
  omega

set_option maxRecDepth 100000 in
set_option maxHeartbeats 4000000 in
theorem law_heads (l : SlD Claimed) (h : ByteArray) (k : Int) (w : World) (hl : (RSl RClaimed).ok w l) (hh : RStr.ok w h) (hk : RInt.ok w k)
    (hbk : (RSl RClaimed).bulk l + RStr.bulk h + RInt.bulk k ≤ 1048576) (hm : MaxLenAt w) (ht : PowTab w) :
    Calls Tryz.prog 6 #[.slice l.A l.n l.cap, .string h, .int .i64 k] w fun e w' => e = .returned (.bool true) ∧ Below w.heap.size w w' := by
  have hlb : LblOk l.l := lbl_of_bulk (by omega)
  clear hbk hh hk
  obtain ⟨A, n, cap, l⟩ := l
  obtain ⟨hl, hd1, hd2, hd3⟩ := hl
  clear hd2 hd3
  simp only at hl hlb hd1 ⊢
  have hll := hl.1
  obtain ⟨d, hd⟩ : ∃ d, logF l = d := ⟨_, rfl⟩
  obtain ⟨r0, hgr⟩ : ∃ r0, grownR h k l = r0 := ⟨_, rfl⟩
  obtain ⟨b, e0⟩ := r0
  have hlH := Lib.hid hl
  clear hl
  have hlbH := Lib.hid hlb
  clear hlb
  have hmH := Lib.hid hm
  clear hm
  have htH := Lib.hid ht
  clear ht
  have hllH := Lib.hid hll
  clear hll
  have hdH := Lib.hid hd
  clear hd
  have hgrH := Lib.hid hgr
  clear hgr
  go_enter Tryz.func6, Tryz.ntmps6
  go_wp2_with fail
  refine (Heads_any A n cap l _ hmH.out htH.out hlH.out d hdH.out).mono ?_
  rintro e w1 ⟨A1, n1, c1, rfl, hz1, hs1, hb1⟩
  have hb1H := Lib.hid hb1
  clear hb1
  have hz1H := Lib.hid hz1
  clear hz1
  have hs1H := Lib.hid hs1
  clear hs1
  go_wp2_with fail
  refine (rHeads_any A n cap l _ (hmH.out.below hb1H.out) hlbH.out (htH.out.below hb1H.out) (hlH.out.below hb1H.out) d hdH.out).mono ?_
  rintro e w2 ⟨A2, n2, c2, rfl, hz2, hs2, hb2⟩
  have hb12 := hb1H.out.trans (hb2.mono hb1H.out.size)
  have hsame : ∃ L, SlAt RStr w2 A1 n1 L ∧ SlAt RStr w2 A2 n2 L ∧ n1 ≤ 1000 := by
    by_cases d0 : d = 0
    · obtain ⟨e1, g1⟩ := hs1H.out d0
      obtain ⟨e2, g2⟩ := hs2 d0
      subst e1 e2
      have := logF_each (hdH.out.trans d0)
      exact ⟨_, g1.below hb2, g2, by have := hllH.out; omega⟩
    · have e1 := hz1H.out d0
      have e2 := hz2 d0
      subst e1 e2
      exact ⟨[], ⟨rfl, fun h => by omega, fun x hx => by cases hx⟩, ⟨rfl, fun h => by omega, fun x hx => by cases hx⟩, by omega⟩
  clear hb2 hz2 hs2 hz1H hs1H
  have hb12H := Lib.hid hb12
  clear hb12
  have hsameH := Lib.hid hsame
  clear hsame
  go_wp2_with fail
  refine (log_any A n cap l _ (hmH.out.below hb12H.out) (hlH.out.below hb12H.out) d hdH.out).mono ?_
  rintro e w3 ⟨rfl, hb3⟩
  have hb13 := hb12H.out.trans (hb3.mono hb12H.out.size)
  have hb13H := Lib.hid hb13
  clear hb13
  have hb3H := Lib.hid hb3
  clear hb3
  go_wp2_with fail
  refine (rlog_any A n cap l _ (hmH.out.below hb13H.out) hlbH.out (hlH.out.below hb13H.out) d hdH.out).mono ?_
  rintro e w4 ⟨rfl, hb4⟩
  have hb24 := hb3H.out.trans (hb4.mono hb3H.out.size)
  have hb14 := hb13H.out.trans (hb4.mono hb13H.out.size)
  clear hb4 hb3H
  have hb14H := Lib.hid hb14
  clear hb14
  have hb24H := Lib.hid hb24
  clear hb24
  go_wp2_with fail
  obtain ⟨L, g1, g2, hn1⟩ := hsameH.out
  refine (equal_same _ _ _ _ _ _ L w4 (g1.below hb24H.out) (g2.below hb24H.out) (by omega)).mono ?_
  rintro e w5 ⟨rfl, hb5⟩
  have hb15 := hb14H.out.trans (hb5.mono hb14H.out.size)
  clear g1 g2 hn1 hb5
  have hb15H := Lib.hid hb15
  clear hb15
  go_wp2_with fail
  refine (Grown_any h k A n cap l _ (hmH.out.below hb15H.out) (htH.out.below hb15H.out) (hlH.out.below hb15H.out) hd1 b e0 hgrH.out).mono ?_
  rintro e w6 ⟨rfl, hb6⟩
  have hb16 := hb15H.out.trans (hb6.mono hb15H.out.size)
  clear hb6
  have hb16H := Lib.hid hb16
  clear hb16
  go_wp2_with fail
  refine (rGrown_any h k A n cap l _ (hmH.out.below hb16H.out) hlbH.out (htH.out.below hb16H.out) (hlH.out.below hb16H.out) b e0 hgrH.out).mono ?_
  rintro e w7 ⟨rfl, hb7⟩
  have hb17 := hb16H.out.trans (hb7.mono hb16H.out.size)
  clear hb7
  have hb17H := Lib.hid hb17
  clear hb17
  go_wp2_with fail
  refine (awake_any _ (hmH.out.below hb17H.out)).mono ?_
  rintro e w8 ⟨rfl, hb8⟩
  have hb18 := hb17H.out.trans (hb8.mono hb17H.out.size)
  clear hb8
  have hb18H := Lib.hid hb18
  clear hb18
  go_wp2
  go_ret
  exact ⟨rfl, hb18H.out⟩
end Go.Proofs.YtgodnblealnkeaaGreatDoor.C11
