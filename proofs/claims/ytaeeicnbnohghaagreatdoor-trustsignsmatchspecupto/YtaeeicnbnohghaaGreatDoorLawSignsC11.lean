/-
  The walk of TrustSignsMatchSpec.
-/
import Derived.Test.YtaeeicnbnohghaaGreatDoorRSignedC11
import Derived.Test.YtaeeicnbnohghaaGreatDoorSameC11
import Derived.Test.YtaeeicnbnohghaaGreatDoorAwake11C11
namespace Go.Proofs.YtaeeicnbnohghaaGreatDoor.C11
open Go.ChangeShapes Go.WideShapes Go.Deep Go.RowKit
set_option linter.unusedVariables false

theorem sg_same {l : List Writer} {x y z : Claimed} {f : Int} (hy0 : f ≠ 0 → y = zCl) (hy1 : f = 0 → SameC x y ∧ y.sign = signF (secOf l x.writer) x) (hz0 : f ≠ 0 → z = zCl) (hz1 : f = 0 → SameC x z ∧ z.sign = signF (secOf l x.writer) x) : SameC y z ∧ z.sign = y.sign := by
  by_cases h : f = 0
  · obtain ⟨a1, a2⟩ := hy1 h
    obtain ⟨b1, b2⟩ := hz1 h
    exact ⟨⟨b1.key.trans a1.key.symm, b1.label.trans a1.label.symm, b1.result.trans a1.result.symm, b1.writer.trans a1.writer.symm, b1.at_.trans a1.at_.symm, b1.uses.trans a1.uses.symm⟩, b2.trans a2.symm⟩
  · obtain rfl := hy0 h
    obtain rfl := hz0 h
    exact ⟨SameC.rfl' _, rfl⟩

set_option maxRecDepth 100000 in
set_option maxHeartbeats 16000000 in
theorem law_signs (l : SlD Writer) (s : ByteArray) (x : Claimed) (w : World) (hl : (RSl RWriter).ok w l) (hs : RStr.ok w s) (hok : RClaimed.ok w x) (hbk : (RSl RWriter).bulk l + RStr.bulk s + RClaimed.bulk x ≤ 1048576) (hm : MaxLenAt w) (ht : PowTab w) :
    Calls Tryz.prog 4 #[.slice l.A l.n l.cap, .string s, .agg #[.string x.key, .string x.label, .string x.result, .string x.writer, .int .i64 x.at_, .slice x.uses.A x.uses.n x.uses.cap, .string x.sign]] w fun e w' => e = .returned (.bool true) ∧ Below w.heap.size w w' := by
  have hlz : x.label.size ≤ 1048576 := by
    have h3 : RStr.bulk x.label = x.label.size + 1 := rfl
    have h4 : RClaimed.bulk x = RStr.bulk x.key + RStr.bulk x.label + RStr.bulk x.result + RStr.bulk x.writer + RInt.bulk x.at_ + (RSl RStr).bulk x.uses + RStr.bulk x.sign := rfl
    omega
  clear hbk
  obtain ⟨A, n, cap, l⟩ := l
  obtain ⟨hl, hd1, hd2, hd3⟩ := hl
  clear hd1 hd2 hd3
  simp only at hl ⊢
  obtain ⟨c, hc⟩ : ∃ c, sigF s x = c := ⟨_, rfl⟩
  obtain ⟨v, hv⟩ : ∃ v, sigV s x = v := ⟨_, rfl⟩
  obtain ⟨f, hf⟩ : ∃ f, signedF l x = f := ⟨_, rfl⟩
  obtain ⟨d, hd⟩ : ∃ d, bothF l x = d := ⟨_, rfl⟩
  obtain ⟨g, hg⟩ : ∃ g, genV l x = g := ⟨_, rfl⟩
  have hs : s.size ≤ maxLen := hs
  have hba := (Below.refl w.heap.size w).alloc (Nat.le_refl _) (.cells #[.string x.key, .string x.label, .string x.result, .string x.writer, .int .i64 x.at_, .slice x.uses.A x.uses.n x.uses.cap, .string x.sign] 25)
  have zc := At7.new w (.string x.key) (.string x.label) (.string x.result) (.string x.writer) (.int .i64 x.at_) (.slice x.uses.A x.uses.n x.uses.cap) (.string x.sign) 25
  have hlH := Lib.hid hl
  clear hl
  have hsH := Lib.hid hs
  clear hs
  have hokH := Lib.hid hok
  clear hok
  have hlzH := Lib.hid hlz
  clear hlz
  have hmH := Lib.hid hm
  clear hm
  have htH := Lib.hid ht
  clear ht
  have hcH := Lib.hid hc
  clear hc
  have hvH := Lib.hid hv
  clear hv
  have hfH := Lib.hid hf
  clear hf
  have hdH := Lib.hid hd
  clear hd
  have hgH := Lib.hid hg
  clear hg
  have hbaH := Lib.hid hba
  clear hba
  have zcH := Lib.hid zc
  clear zc
  go_enter Tryz.func4, Tryz.ntmps4
  go_wp2_with fail
  refine (Signature_any s x _ (hmH.out.below hbaH.out) (htH.out.below hbaH.out) hsH.out (RClaimed.mono _ _ _ hbaH.out hokH.out) c hcH.out v hvH.out).mono ?_
  rintro e w1 ⟨rfl, hw1⟩
  have zc1 := zcH.out.below hw1
  have hb1 := hbaH.out.trans (hw1.mono hbaH.out.size)
  have zq := zc1
  obtain ⟨q0, q1, q2, q3, q4, q5, q6, _, _, _, _, _, _, _⟩ := zq
  clear hw1 zcH
  have hb1H := Lib.hid hb1
  clear hb1
  have zc1H := Lib.hid zc1
  clear zc1
  go_wp2_with fail
  refine (rSignature_any s x _ (hmH.out.below hb1H.out) (htH.out.below hb1H.out) hlzH.out hsH.out (RClaimed.mono _ _ _ hb1H.out hokH.out) c hcH.out v hvH.out).mono ?_
  rintro e w2 ⟨rfl, hw2⟩
  have zc2 := zc1H.out.below hw2
  have hb2 := hb1H.out.trans (hw2.mono hb1H.out.size)
  clear hw2 zc1H q0 q1 q2 q3 q4 q5 q6
  have zq := zc2
  obtain ⟨q0, q1, q2, q3, q4, q5, q6, _, _, _, _, _, _, _⟩ := zq
  have hb2H := Lib.hid hb2
  clear hb2
  have zc2H := Lib.hid zc2
  clear zc2
  go_wp2_with fail
  refine (Signed_any A n cap l x _ (hmH.out.below hb2H.out) (htH.out.below hb2H.out) (hlH.out.below hb2H.out) (RClaimed.mono _ _ _ hb2H.out hokH.out) f hfH.out).mono ?_
  rintro e w3 ⟨y, rfl, hyo, hy0, hy1, hw3⟩
  have zc3 := zc2H.out.below hw3
  have hb3 := hb2H.out.trans (hw3.mono hb2H.out.size)
  have hb3a := hb3.alloc hb3.size (.cells #[.string y.key, .string y.label, .string y.result, .string y.writer, .int .i64 y.at_, .slice y.uses.A y.uses.n y.uses.cap, .string y.sign] 25)
  have zy := At7.new w3 (.string y.key) (.string y.label) (.string y.result) (.string y.writer) (.int .i64 y.at_) (.slice y.uses.A y.uses.n y.uses.cap) (.string y.sign) 25
  have zc3a := zc3.alloc (.cells #[.string y.key, .string y.label, .string y.result, .string y.writer, .int .i64 y.at_, .slice y.uses.A y.uses.n y.uses.cap, .string y.sign] 25)
  have hlt0 : w.heap.size < w3.heap.size := zc3.lt
  have hyo := RClaimed.mono _ _ _ ((Below.refl w3.heap.size w3).alloc (Nat.le_refl _) (.cells #[.string y.key, .string y.label, .string y.result, .string y.writer, .int .i64 y.at_, .slice y.uses.A y.uses.n y.uses.cap, .string y.sign] 25)) hyo
  clear hw3 zc2H q0 q1 q2 q3 q4 q5 q6 hb3
  have zq := zc3
  obtain ⟨q0, q1, q2, q3, q4, q5, q6, _, _, _, _, _, _, _⟩ := zq
  clear zc3
  have hb3aH := Lib.hid hb3a
  clear hb3a
  have zc3aH := Lib.hid zc3a
  clear zc3a
  have zyH := Lib.hid zy
  clear zy
  have hyoH := Lib.hid hyo
  clear hyo
  have hy0H := Lib.hid hy0
  clear hy0
  have hy1H := Lib.hid hy1
  clear hy1
  go_wp2_with fail
  refine (rSigned_any A n cap l x _ (hmH.out.below hb3aH.out) (htH.out.below hb3aH.out) hlzH.out (hlH.out.below hb3aH.out) (RClaimed.mono _ _ _ hb3aH.out hokH.out) f hfH.out).mono ?_
  rintro e w4 ⟨z, rfl, hzo, hz0, hz1, hw4⟩
  have zc4 := zc3aH.out.below hw4
  have zy4 := zyH.out.below hw4
  have hyo4 := RClaimed.mono _ _ _ hw4 hyoH.out
  have hb4 := hb3aH.out.trans (hw4.mono hb3aH.out.size)
  have hb4a := hb4.alloc hb4.size (.cells #[.string z.key, .string z.label, .string z.result, .string z.writer, .int .i64 z.at_, .slice z.uses.A z.uses.n z.uses.cap, .string z.sign] 25)
  have hBz := (Below.refl w4.heap.size w4).alloc (Nat.le_refl _) (.cells #[.string z.key, .string z.label, .string z.result, .string z.writer, .int .i64 z.at_, .slice z.uses.A z.uses.n z.uses.cap, .string z.sign] 25)
  have hyo4 := RClaimed.mono _ _ _ hBz hyo4
  have hzo := RClaimed.mono _ _ _ hBz hzo
  have zc4a := zc4.alloc (.cells #[.string z.key, .string z.label, .string z.result, .string z.writer, .int .i64 z.at_, .slice z.uses.A z.uses.n z.uses.cap, .string z.sign] 25)
  have hlt1 : w3.heap.size < w4.heap.size := zy4.lt
  obtain ⟨hsm, hsg⟩ := sg_same hy0H.out hy1H.out hz0 hz1
  clear hw4 zc3aH zyH hyoH hy0H hy1H hz0 hz1 q0 q1 q2 q3 q4 q5 q6 hb4 hBz zc4
  have zq := zy4
  obtain ⟨q0, q1, q2, q3, q4, q5, q6, _, _, _, _, _, _, _⟩ := zq
  clear zy4
  have hb4aH := Lib.hid hb4a
  clear hb4a
  have zc4aH := Lib.hid zc4a
  clear zc4a
  have hyo4H := Lib.hid hyo4
  clear hyo4
  have hzoH := Lib.hid hzo
  clear hzo
  have hsmH := Lib.hid hsm
  clear hsm
  have hsgH := Lib.hid hsg
  clear hsg
  go_wp2_with fail
  refine (rsame_any y z _ hyo4H.out hzoH.out hsmH.out hsgH.out).mono ?_
  rintro e w5 ⟨rfl, hw5⟩
  have zc5 := zc4aH.out.below hw5
  have hb5 := hb4aH.out.trans (hw5.mono hb4aH.out.size)
  clear hw5 zc4aH hyo4H hzoH hsmH hsgH q0 q1 q2 q3 q4 q5 q6
  have zq := zc5
  obtain ⟨q0, q1, q2, q3, q4, q5, q6, _, _, _, _, _, _, _⟩ := zq
  have hb5H := Lib.hid hb5
  clear hb5
  have zc5H := Lib.hid zc5
  clear zc5
  go_wp2_with fail
  refine (Genuine_any A n cap l x _ (hmH.out.below hb5H.out) (htH.out.below hb5H.out) (hlH.out.below hb5H.out) (RClaimed.mono _ _ _ hb5H.out hokH.out) d hdH.out g hgH.out).mono ?_
  rintro e w6 ⟨rfl, hw6⟩
  have zc6 := zc5H.out.below hw6
  have hb6 := hb5H.out.trans (hw6.mono hb5H.out.size)
  clear hw6 zc5H q0 q1 q2 q3 q4 q5 q6
  have zq := zc6
  obtain ⟨q0, q1, q2, q3, q4, q5, q6, _, _, _, _, _, _, _⟩ := zq
  clear zc6
  have hb6H := Lib.hid hb6
  clear hb6
  go_wp2_with fail
  refine (rGenuine_any A n cap l x _ (hmH.out.below hb6H.out) (htH.out.below hb6H.out) hlzH.out (hlH.out.below hb6H.out) (RClaimed.mono _ _ _ hb6H.out hokH.out) d hdH.out g hgH.out).mono ?_
  rintro e w7 ⟨rfl, hw7⟩
  have hb7 := hb6H.out.trans (hw7.mono hb6H.out.size)
  clear hw7 q0 q1 q2 q3 q4 q5 q6
  have hb7H := Lib.hid hb7
  clear hb7
  go_wp2_with fail
  refine (awake_any _ (hmH.out.below hb7H.out)).mono ?_
  rintro e w8 ⟨rfl, hw8⟩
  have hb8 := hb7H.out.trans (hw8.mono hb7H.out.size)
  clear hw8
  have hb8H := Lib.hid hb8
  clear hb8
  go_wp2
  go_ret
  exact ⟨rfl, hb8H.out⟩
end Go.Proofs.YtaeeicnbnohghaaGreatDoor.C11
