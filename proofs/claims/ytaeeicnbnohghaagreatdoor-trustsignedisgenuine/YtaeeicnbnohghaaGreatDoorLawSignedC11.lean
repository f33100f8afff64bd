/-
  The walk of TrustSignedIsGenuine.
-/
import Derived.Test.YtaeeicnbnohghaaGreatDoorSignedC11
import Derived.Test.YtaeeicnbnohghaaGreatDoorAwake11C11
namespace Go.Proofs.YtaeeicnbnohghaaGreatDoor.C11
open Go.ChangeShapes Go.WideShapes Go.Deep Go.RowKit
set_option linter.unusedVariables false

theorem signedF_zero {l : List Writer} {x : Claimed} (h : signedF l x = 0) : bothF l x = 0 ∧ hasName l x.writer = true := by
  unfold signedF at h
  by_cases h1 : bothF l x = 0
  · rw [if_pos h1] at h
    by_cases h2 : hasName l x.writer = true
    · exact ⟨h1, h2⟩
    · rw [if_neg h2] at h; cases h
  · rw [if_neg h1] at h; exact absurd h h1
theorem claimed_may {l : List Writer} {x : Claimed} (hw : writersF l = 0) (h : claimedF x = 0) : mayF l x.writer x.label x.at_ = 0 ∧ mayR l x.writer x.label x.at_ = mayOf l x.writer x.label x.at_ := by
  have ho := claimed_ok h
  have hi : inR 0 1000000000 x.at_ = true := inR_of ⟨ho.at0, ho.at1⟩
  have e : mayF l x.writer x.label x.at_ = 0 := by
    unfold mayF
    rw [if_pos hw, if_pos ho.writer, if_pos ho.label, if_pos hi]
  exact ⟨e, by unfold mayR; rw [if_pos e]⟩
theorem sign_ok {s : ByteArray} (h : digB s = true) : signB s = true := by unfold signB; rw [h, Bool.or_true]
/-- what was signed is good, or its writer may not store it -/
theorem signed_gen {l : List Writer} {x y : Claimed} (hf : signedF l x = 0) (hs : SameC x y) (hy : y.sign = signF (secOf l x.writer) x) : bothF l y = 0 ∧ genV l y = if mayOf l x.writer x.label x.at_ = true then 1 else 4 := by
  obtain ⟨h1, h2⟩ := signedF_zero hf
  obtain ⟨h3, h4⟩ := bothF_zero h1
  have h5 : bothF l y = 0 := bothF_of h3 (hs.eqF (sign_ok (by rw [hy]; unfold signF; exact digB_digF _)) h4)
  refine ⟨h5, ?_⟩
  unfold genV
  rw [if_pos h5]
  unfold genF
  rw [hs.writer, if_pos h2, hs.eqS, if_pos hy, hs.label, hs.at_]
/-- what was changed behind its signing -/
theorem signed_chg {l : List Writer} {y z : Claimed} (hn : hasName l y.writer = true) (hb : bothF l y = 0) (hs : SameC y z) (hz : z.sign = signF (secOf l y.writer) y) (h : z.sign ≠ y.sign) : genV l y = 2 := by
  unfold genV
  rw [if_pos hb]
  unfold genF
  rw [if_pos hn, if_neg (fun e => h (hz.trans e.symm))]
theorem nil_beq : (zCl.key.toList == []) = true := by decide +kernel

set_option maxRecDepth 100000 in
set_option maxHeartbeats 16000000 in
theorem law_signed (l : SlD Writer) (x : Claimed) (r : ByteArray) (w : World) (hl : (RSl RWriter).ok w l) (hok : RClaimed.ok w x) (hr : RStr.ok w r) (hm : MaxLenAt w) (ht : PowTab w) :
    Calls Tryz.prog 3 #[.slice l.A l.n l.cap, .agg #[.string x.key, .string x.label, .string x.result, .string x.writer, .int .i64 x.at_, .slice x.uses.A x.uses.n x.uses.cap, .string x.sign], .string r] w fun e w' => e = .returned (.bool true) ∧ Below w.heap.size w w' := by
  obtain ⟨A, n, cap, l⟩ := l
  obtain ⟨hl, hd1, hd2, hd3⟩ := hl
  clear hd1 hd2 hd3
  simp only at hl ⊢
  have hba := (Below.refl w.heap.size w).alloc (Nat.le_refl _) (.cells #[.string x.key, .string x.label, .string x.result, .string x.writer, .int .i64 x.at_, .slice x.uses.A x.uses.n x.uses.cap, .string x.sign] 25)
  obtain ⟨f, hf⟩ : ∃ f, signedF l x = f := ⟨_, rfl⟩
  have hlH := Lib.hid hl
  clear hl
  have hokH := Lib.hid hok
  clear hok
  have hrH := Lib.hid hr
  clear hr
  have hmH := Lib.hid hm
  clear hm
  have htH := Lib.hid ht
  clear ht
  have hbaH := Lib.hid hba
  clear hba
  have hfH := Lib.hid hf
  clear hf
  go_enter Tryz.func3, Tryz.ntmps3
  go_wp2_with fail
  refine (Signed_any A n cap l x _ (hmH.out.below hbaH.out) (htH.out.below hbaH.out) (hlH.out.below hbaH.out) (RClaimed.mono _ _ _ hbaH.out hokH.out) f hfH.out).mono ?_
  rintro e w1 ⟨y, rfl, hyo, hyz, hys, hw1⟩
  have z0 := (At7.new w (.string x.key) (.string x.label) (.string x.result) (.string x.writer) (.int .i64 x.at_) (.slice x.uses.A x.uses.n x.uses.cap) (.string x.sign) 25).below hw1
  have hb1 := hbaH.out.trans (hw1.mono hbaH.out.size)
  have hb1a := hb1.alloc hb1.size (.cells #[.string y.key, .string y.label, .string y.result, .string y.writer, .int .i64 y.at_, .slice y.uses.A y.uses.n y.uses.cap, .string y.sign] 25)
  by_cases f0 : f = 0
  · subst f0
    obtain ⟨hsm, hsg⟩ := hys rfl
    obtain ⟨hB, hN⟩ := signedF_zero hfH.out
    obtain ⟨hW, hC⟩ := bothF_zero hB
    obtain ⟨hm1, hm2⟩ := claimed_may hW hC
    obtain ⟨hyB, hyG⟩ := signed_gen hfH.out hsm hsg
    obtain ⟨mb, hmb⟩ : ∃ m, mayOf l x.writer x.label x.at_ = m := ⟨_, rfl⟩
    rw [hmb] at hm2 hyG
    have hlz : x.label.size ≤ 1048576 := by have := label_size (claimed_ok hC).label; omega
    have hu50 : y.uses.n ≤ 1000 := by
      have h1 := (claimed_ok (bothF_zero hyB).2).uses
      have h2 : y.uses.l.length = y.uses.n := hyo.2.2.2.2.2.1.1.1
      omega
    have hlt0 : w.heap.size < w1.heap.size := z0.lt
    obtain ⟨p0, p1, p2, p3, p4, p5, p6, _, _, _, _, _, _, _⟩ := z0
    have z7 := At7.new w1 (.string y.key) (.string y.label) (.string y.result) (.string y.writer) (.int .i64 y.at_) (.slice y.uses.A y.uses.n y.uses.cap) (.string y.sign) 25
    have hwz : x.writer.size ≤ maxLen := hokH.out.2.2.2.1
    clear hyz hys hB hW hC p0 p2 p5 p6 hw1
    have hyoH := Lib.hid hyo
    clear hyo
    have hsmH := Lib.hid hsm
    clear hsm
    have hsgH := Lib.hid hsg
    clear hsg
    have hNH := Lib.hid hN
    clear hN
    have hm1H := Lib.hid hm1
    clear hm1
    have hm2H := Lib.hid hm2
    clear hm2
    have hyBH := Lib.hid hyB
    clear hyB
    have hyGH := Lib.hid hyG
    clear hyG
    have hmbH := Lib.hid hmb
    clear hmb
    have hlzH := Lib.hid hlz
    clear hlz
    have z7H := Lib.hid z7
    clear z7
    have hb1H := Lib.hid hb1
    clear hb1
    have hb1aH := Lib.hid hb1a
    clear hb1a
    have hwzH := Lib.hid hwz
    clear hwz
    go_wp2_with fail
    refine (May_any A n cap l x.writer x.label x.at_ _ (hmH.out.below hb1aH.out) (hlH.out.below hb1aH.out) hwzH.out hlzH.out 0 hm1H.out mb hm2H.out).mono ?_
    rintro e w2 ⟨rfl, hw2⟩
    have z7 := z7H.out.below hw2
    have hb2 := hb1aH.out.trans (hw2.mono hb1aH.out.size)
    have hy2 := RClaimed.mono _ _ _ hw2 (RClaimed.mono _ _ _ ((Below.refl w1.heap.size w1).alloc (Nat.le_refl _) (.cells #[.string y.key, .string y.label, .string y.result, .string y.writer, .int .i64 y.at_, .slice y.uses.A y.uses.n y.uses.cap, .string y.sign] 25)) hyoH.out)
    clear z7H hyoH p1 p3 p4 hw2
    obtain ⟨q0, q1, q2, q3, q4, q5, q6, k0, k1, k2, k3, k4, k5, k6⟩ := z7
    have z7 : At7 w1.heap.size (.string y.key) (.string y.label) (.string y.result) (.string y.writer) (.int .i64 y.at_) (.slice y.uses.A y.uses.n y.uses.cap) (.string y.sign) w2 := ⟨q0, q1, q2, q3, q4, q5, q6, k0, k1, k2, k3, k4, k5, k6⟩
    clear k0 k1 k2 k3 k4 k5 k6
    have hb2H := Lib.hid hb2
    clear hb2
    have hy2H := Lib.hid hy2
    clear hy2
    have z7H := Lib.hid z7
    clear z7
    go_wp2_with fail
    refine (Genuine_any A n cap l y _ (hmH.out.below hb2H.out) (htH.out.below hb2H.out) (hlH.out.below hb2H.out) hy2H.out 0 hyBH.out _ hyGH.out).mono ?_
    rintro e w3 ⟨rfl, hw3⟩
    have z7 := z7H.out.below hw3
    have hb3 := hb2H.out.trans (hw3.mono hb2H.out.size)
    have hy3 := RClaimed.mono _ _ _ hw3 hy2H.out
    clear z7H hy2H hw3 q0 q1 q2 q3 q4 q5 q6
    have hb3H := Lib.hid hb3
    clear hb3
    have hy3H := Lib.hid hy3
    clear hy3
    have z7H := Lib.hid z7
    clear z7
    have hen : ∃ g : Int, (if mb = true then (1 : Int) else 4) = g ∧ (g == 1) = mb ∧ (mb = false → (g != 4) = false) := by
      cases mb
      · exact ⟨4, rfl, rfl, fun _ => rfl⟩
      · exact ⟨1, rfl, rfl, fun h => by cases h⟩
    obtain ⟨g, hg, hg1, hg4⟩ := hen
    rw [hg]
    cases mb
    all_goals
      first | (replace hg4 := hg4 rfl) | clear hg4
      go_wp2_with fail
      refine (awake_any _ (hmH.out.below hb3H.out)).mono ?_
      rintro e w4 ⟨rfl, hw4⟩
      have z7 := z7H.out.below hw4
      have hb4 := hb3H.out.trans (hw4.mono hb3H.out.size)
      have hb4a := hb4.alloc hb4.size (.cells #[.string y.key, .string y.label, .string y.result, .string y.writer, .int .i64 y.at_, .slice y.uses.A y.uses.n y.uses.cap, .string y.sign] 25)
      have hy4 := RClaimed.mono _ _ _ hw4 hy3H.out
      have hy4a := RClaimed.mono _ _ _ ((Below.refl w4.heap.size w4).alloc (Nat.le_refl _) (.cells #[.string y.key, .string y.label, .string y.result, .string y.writer, .int .i64 y.at_, .slice y.uses.A y.uses.n y.uses.cap, .string y.sign] 25)) hy4
      have hus : SlAt RStr (w4.alloc (.cells #[.string y.key, .string y.label, .string y.result, .string y.writer, .int .i64 y.at_, .slice y.uses.A y.uses.n y.uses.cap, .string y.sign] 25)) y.uses.A y.uses.n y.uses.l := hy4a.2.2.2.2.2.1.1
      have z12 := At7.new w4 (.string y.key) (.string y.label) (.string y.result) (.string y.writer) (.int .i64 y.at_) (.slice y.uses.A y.uses.n y.uses.cap) (.string y.sign) 25
      have hlt7 : w1.heap.size < w4.heap.size := z7.lt
      obtain ⟨q0, q1, q2, q3, q4, q5, q6, k0, k1, k2, k3, k4, k5, k6⟩ := z7
      have z7 : At7 w1.heap.size (.string y.key) (.string y.label) (.string y.result) (.string y.writer) (.int .i64 y.at_) (.slice y.uses.A y.uses.n y.uses.cap) (.string y.sign) (w4.alloc (.cells #[.string y.key, .string y.label, .string y.result, .string y.writer, .int .i64 y.at_, .slice y.uses.A y.uses.n y.uses.cap, .string y.sign] 25)) := (At7.mk q0 q1 q2 q3 q4 q5 q6 k0 k1 k2 k3 k4 k5 k6).alloc _
      clear z7H hy3H hw4 k0 k1 k2 k3 k4 k5 k6 hy4
      have z7H := Lib.hid z7
      clear z7
      have z12H := Lib.hid z12
      clear z12
      have hb4H := Lib.hid hb4
      clear hb4
      have hb4aH := Lib.hid hb4a
      clear hb4a
      have hy4aH := Lib.hid hy4a
      clear hy4a
      have husH := Lib.hid hus
      clear hus
      go_wp2_with fail
      refine (clone_str y.uses.A y.uses.n y.uses.cap y.uses.l _ husH.out hu50).mono ?_
      rintro e w5 ⟨A2, c2, rfl, hown, hw5⟩
      have z7 := z7H.out.below hw5
      have z12 := z12H.out.below hw5
      have hb5 := hb4aH.out.trans (hw5.mono hb4aH.out.size)
      have hy5 := RClaimed.mono _ _ _ hw5 hy4aH.out
      clear q0 q1 q2 q3 q4 q5 q6
      have hB12 : w.heap.size ≤ w4.heap.size := hb4H.out.size
      have hb6 : Below w.heap.size w ((w5.setCell ⟨w4.heap.size, 2, none⟩ (.string r)).setCell ⟨w4.heap.size, 5, none⟩ (.slice A2 y.uses.n c2)) := (hb5.setCell (p := ⟨w4.heap.size, 2, none⟩) hB12 (.string r)).setCell (p := ⟨w4.heap.size, 5, none⟩) hB12 (.slice A2 y.uses.n c2)
      have z72 := (z7.other ⟨w4.heap.size, 2, none⟩ (.string r) (by show w4.heap.size ≠ w1.heap.size; omega)).other ⟨w4.heap.size, 5, none⟩ (.slice A2 y.uses.n c2) (by show w4.heap.size ≠ w1.heap.size; omega)
      have z122 := (z12.set2 (.string r)).set5 (.slice A2 y.uses.n c2)
      have hown2 := (hown.cell ⟨w4.heap.size, 2, none⟩ (.string r) (by simp) (fun _ _ h => h)).cell ⟨w4.heap.size, 5, none⟩ (.slice A2 y.uses.n c2) (by simp) (fun _ _ h => h)
      have hy6 : RClaimed.ok ((w5.setCell ⟨w4.heap.size, 2, none⟩ (.string r)).setCell ⟨w4.heap.size, 5, none⟩ (.slice A2 y.uses.n c2)) ⟨y.key, y.label, r, y.writer, y.at_, ⟨A2, y.uses.n, c2, y.uses.l⟩, y.sign⟩ := ⟨hy5.1, hy5.2.1, hrH.out, hy5.2.2.2.1, hy5.2.2.2.2.1, hown2.sl, hy5.2.2.2.2.2.2⟩
      obtain ⟨p0, p1, p2, p3, p4, p5, p6, k0, k1, k2, k3, k4, k5, k6⟩ := z12
      obtain ⟨f2, hf2⟩ : ∃ c, bothF l ⟨y.key, y.label, r, y.writer, y.at_, ⟨A2, y.uses.n, c2, y.uses.l⟩, y.sign⟩ = c := ⟨_, rfl⟩
      obtain ⟨n2, hn2⟩ : ∃ c, genV l ⟨y.key, y.label, r, y.writer, y.at_, ⟨A2, y.uses.n, c2, y.uses.l⟩, y.sign⟩ = c := ⟨_, rfl⟩
      obtain ⟨fs, hfs⟩ : ∃ c, signedF l ⟨y.key, y.label, r, y.writer, y.at_, ⟨A2, y.uses.n, c2, y.uses.l⟩, y.sign⟩ = c := ⟨_, rfl⟩
      clear z7H z12H hw5 z7 k0 k1 k3 k4 k6 hy5 hown hown2 hb5 husH
      have z72H := Lib.hid z72
      clear z72
      have z122H := Lib.hid z122
      clear z122
      have hb6H := Lib.hid hb6
      clear hb6
      have hy6H := Lib.hid hy6
      clear hy6
      have hf2H := Lib.hid hf2
      clear hf2
      have hn2H := Lib.hid hn2
      clear hn2
      have hfsH := Lib.hid hfs
      clear hfs
      go_wp2_with fail
      refine (Genuine_any A n cap l ⟨y.key, y.label, r, y.writer, y.at_, ⟨A2, y.uses.n, c2, y.uses.l⟩, y.sign⟩ _ (hmH.out.below hb6H.out) (htH.out.below hb6H.out) (hlH.out.below hb6H.out) hy6H.out f2 hf2H.out n2 hn2H.out).mono ?_
      rintro e w6 ⟨rfl, hw6⟩
      have z72 := z72H.out.below hw6
      have z122 := z122H.out.below hw6
      have hb7 := hb6H.out.trans (hw6.mono hb6H.out.size)
      have hy7 := RClaimed.mono _ _ _ hw6 hy6H.out
      clear p0 p1 p2 p3 p4 p5 p6 k2 k5 z72H z122H hw6
      obtain ⟨p0, p1, p2, p3, p4, p5, p6, _, _, _, _, _, _, _⟩ := z122
      have z72H := Lib.hid z72
      clear z72
      have hb7H := Lib.hid hb7
      clear hb7
      have hy7H := Lib.hid hy7
      clear hy7
      go_wp2_with fail
      refine (Signed_any A n cap l ⟨y.key, y.label, r, y.writer, y.at_, ⟨A2, y.uses.n, c2, y.uses.l⟩, y.sign⟩ _ (hmH.out.below hb7H.out) (htH.out.below hb7H.out) (hlH.out.below hb7H.out) hy7H.out fs hfsH.out).mono ?_
      rintro e w7 ⟨z, rfl, hzo, hzz, hzs, hw7⟩
      have q6 := (z72H.out.below hw7).c6
      have hlt8 : w1.heap.size < w7.heap.size := cell?_lt q6
      have hb8 := hb7H.out.trans (hw7.mono hb7H.out.size)
      have hb8a := hb8.alloc hb8.size (.cells #[.string z.key, .string z.label, .string z.result, .string z.writer, .int .i64 z.at_, .slice z.uses.A z.uses.n z.uses.cap, .string z.sign] 25)
      clear hw7 p0 p1 p2 p3 p4 p5 p6 hzo
      by_cases f20 : f2 = 0
      · subst f20
        have hNy : hasName l y.writer = true := by rw [hsmH.out.writer]; exact hNH.out
        have hs0 : fs = 0 := by
          rw [← hfsH.out]
          unfold signedF
          rw [if_pos hf2H.out]
          exact if_pos hNy
        subst hs0
        obtain ⟨hzm, hzg⟩ := hzs rfl
        by_cases hzy : z.sign = y.sign
        · have hq : (z.sign.toList == y.sign.toList) = true := by rw [beq_data, decide_eq_true hzy]
          clear hzz hzs
          have hzmH := Lib.hid hzm
          clear hzm
          have hzgH := Lib.hid hzg
          clear hzg
          have hb8H := Lib.hid hb8
          clear hb8
          have hb8aH := Lib.hid hb8a
          clear hb8a
          have hzyH := Lib.hid hzy
          clear hzy
          go_wp2
          go_ret
          exact ⟨rfl, hb8aH.out⟩
        · have hq : (z.sign.toList == y.sign.toList) = false := by rw [beq_data, decide_eq_false hzy]
          have hn := signed_chg (y := ⟨y.key, y.label, r, y.writer, y.at_, ⟨A2, y.uses.n, c2, y.uses.l⟩, y.sign⟩) hNy hf2H.out hzm hzg hzy
          obtain rfl : 2 = n2 := hn.symm.trans hn2H.out
          clear hzz hzs hn
          have hzmH := Lib.hid hzm
          clear hzm
          have hzgH := Lib.hid hzg
          clear hzg
          have hb8H := Lib.hid hb8
          clear hb8
          have hb8aH := Lib.hid hb8a
          clear hb8a
          have hzyH := Lib.hid hzy
          clear hzy
          go_wp2
          go_ret
          exact ⟨rfl, hb8aH.out⟩
      · have e2 : (f2 != 0) = true := by simpa using f20
        clear hzz hzs f20
        have hb8H := Lib.hid hb8
        clear hb8
        have hb8aH := Lib.hid hb8a
        clear hb8a
        go_wp2
        go_ret
        exact ⟨rfl, hb8aH.out⟩
  · obtain rfl := hyz f0
    have e1 : (f != 0) = true := by simpa using f0
    have hk := nil_beq
    clear hyo hyz hys f0 z0 hw1
    have hb1H := Lib.hid hb1
    clear hb1
    have hb1aH := Lib.hid hb1a
    clear hb1a
    go_wp2_with fail
    refine (awake_any _ (hmH.out.below hb1aH.out)).mono ?_
    rintro e w2 ⟨rfl, hw2⟩
    have hb2 := hb1aH.out.trans (hw2.mono hb1aH.out.size)
    clear hw2
    have hb2H := Lib.hid hb2
    clear hb2
    go_wp2
    go_ret
    exact ⟨rfl, hb2H.out⟩
end Go.Proofs.YtaeeicnbnohghaaGreatDoor.C11
