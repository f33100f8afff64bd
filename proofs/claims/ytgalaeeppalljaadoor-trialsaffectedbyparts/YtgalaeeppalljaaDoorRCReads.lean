/-
  CheckReads of the reference.
-/
import Derived.Test.YtgalaeeppalljaaDoorCReads
namespace Go.Proofs.YtgalaeeppalljaaDoor
open Go.RowKit
set_option linter.unusedVariables false

def ReadsSmall (l : List TestReads) : Prop := ∀ x ∈ l, x.test.size < 4294967281 ∧ (∀ y ∈ x.paths.l, y.size < 4294967281) ∧ ∀ y ∈ x.looked.l, y.size < 4294967281
def AnyAt (p : ByteArray → Bool) (l : List ByteArray) (b : Bool) (w0 : World) (i : Value) (wr : World) : Prop := ∃ k : Nat, k ≤ l.length ∧ i = .int .i64 k ∧ (l.drop k).any p = b ∧ w0 = wr

theorem contains_any (A : Option Addr) (n c : Nat) (l : List ByteArray) (x : ByteArray) (w : World) (hn : n ≤ 9223372036854775807) (hl : SlAt RStr w A n l) :
    Calls Tryd.prog 35 #[.slice A n c, .string x] w fun e w' => e = .returned (.bool (inL l x)) ∧ w' = w := by
  have hi : ∀ l : List ByteArray, Lib.containsS l x = inL l x := fun l => by
    rw [Bool.eq_iff_iff, Lib.containsS_iff, inL_iff]
  by_cases h0 : n = 0
  · subst h0
    obtain rfl : l = [] := List.eq_nil_of_length_eq_zero hl.1
    exact Tryd.slices_Contains_string_empty A c x w
  · obtain ⟨b, off, rfl, _⟩ := hl.2.1 (by omega)
    have hll := hl.1
    refine (Tryd.slices_Contains_string b off n c l x w (by omega) hn (fun j hj => ?_)).mono ?_
    · have := cell_Str hl (List.getElem?_eq_getElem hj)
      rw [this, List.getD_eq_getElem?_getD, List.getElem?_eq_getElem hj]
      rfl
    · rintro e w' ⟨rfl, rfl⟩
      rw [List.take_of_length_le (by omega), hi]
      exact ⟨rfl, rfl⟩

set_option maxRecDepth 100000 in
set_option maxHeartbeats 4000000 in
theorem rcreads_ok (A : Option Addr) (len cap : Nat) (l : List TestReads) (w : World) (hm : MaxLenAt w) (hlen : len ≤ 300) (hl : SlAt RTestReads w A len l) (hz : ReadsSmall l) (c : Int) (hF : readsErr none l = c) :
    Calls Tryd.prog 16 #[.slice A len cap] w fun e w' => e = .returned (.int .i64 c) ∧ Below w.heap.size w w' := by
  have hll := hl.1
  have hllH := Lib.hid hll
  clear hll
  have hFH := Lib.hid hF
  clear hF
  have hlH := Lib.hid hl
  clear hl
  have hmH := Lib.hid hm
  clear hm
  have hzH := Lib.hid hz
  clear hz
  go_enter Tryd.func16, Tryd.ntmps16
  go_wp2_with fail
  go_loopw [14] (fun i wr => ReadsRel l c w i wr) (fun i _ => len - (intOf i).toNat)
  case atStart => exact ⟨0, Nat.zero_le _, rfl, hFH.out, Below.refl _ _⟩
  case round =>
    obtain ⟨k, hk, rfl, hck, hb⟩ := hrel
    obtain ⟨wa, rfl⟩ : ∃ W, W = wr := ⟨_, rfl⟩
    have hkl : k ≤ len := by have := hllH.out; omega
    have hbs := hb.size
    by_cases hlt : k < len
    · obtain ⟨b, off, hA, _⟩ := hlH.out.2.1 (by omega)
      subst hA
      obtain ⟨x, hx⟩ : ∃ x, l[k]? = some x := ⟨l[k]'(by have := hllH.out; omega), List.getElem?_eq_getElem _⟩
      obtain ⟨c0, c1, c2⟩ := cells_TestReads (hlH.out.below hb) hx
      obtain ⟨o0, oP, oQ⟩ := hlH.out.2.2 x (List.mem_of_getElem? hx)
      obtain ⟨z0, zP, zQ⟩ := hzH.out x (List.mem_of_getElem? hx)
      have hkl2 : k + 1 ≤ l.length := by have := hllH.out; omega
      have hpn : prevT l (k + 1) = some x.test := by rw [prevT, if_neg (by omega), show k + 1 - 1 = k from rfl, hx]; rfl
      rw [drop_cons hx, readsErr] at hck
      obtain ⟨te, ⟨PA, Pn, Pc, Pl⟩, ⟨QA, Qn, Qc, Ql⟩⟩ := x
      simp only at c0 c1 c2 o0 hpn hck z0 zP zQ
      have oP : SlAt RStr w PA Pn Pl := oP.1
      have oQ : SlAt RStr w QA Qn Ql := oQ.1
      obtain ⟨b1, hb1⟩ : ∃ b, pathB te = b := ⟨_, rfl⟩
      have hba := hb.alloc hbs (.cells #[.string te, .slice PA Pn Pc, .slice QA Qn Qc] 80)
      have hbas := hba.size
      have hxH := Lib.hid hx
      clear hx
      have hbH := Lib.hid hb
      clear hb
      have hbaH := Lib.hid hba
      clear hba
      have o0H := Lib.hid o0
      clear o0
      have oPH := Lib.hid oP
      clear oP
      have oQH := Lib.hid oQ
      clear oQ
      have hb1H := Lib.hid hb1
      clear hb1
      have hpnH := Lib.hid hpn
      clear hpn
      have hckH := Lib.hid hck
      clear hck
      have hkl2H := Lib.hid hkl2
      clear hkl2
      have z0H := Lib.hid z0
      clear z0
      have zPH := Lib.hid zP
      clear zP
      have zQH := Lib.hid zQ
      clear zQ
      go_wp2_with fail
      refine (risPath_any te _ (hmH.out.below hbaH.out) z0H.out b1 hb1H.out).mono ?_
      rintro e w1 ⟨rfl, hw1⟩
      obtain ⟨q0, q1, q2⟩ := three_new hw1
      have hbw := hw1
      clear c0 c1 c2 hw1
      have hbwH := Lib.hid hbw
      clear hbw
      cases b1
      · have hre : recErr ⟨te, ⟨PA, Pn, Pc, Pl⟩, ⟨QA, Qn, Qc, Ql⟩⟩ = 5 := by unfold recErr; rw [if_neg (by rw [hb1H.out]; simp)]
        have hck := hckH.out
        rw [hre, if_neg (by decide)] at hck
        subst hck
        clear hckH hre
        clear q0 q1 q2
        go_wp2
        go_ret
        exact ⟨rfl, hbaH.out.trans (hbwH.out.mono hbas)⟩
      · by_cases hP1 : Pn ≤ 1000
        · by_cases hQ1 : Qn ≤ 1000
          · obtain ⟨e1, he1⟩ : ∃ e, pathsErr none Pl = e := ⟨_, rfl⟩
            obtain ⟨e2, he2⟩ : ∃ e, pathsErr none Ql = e := ⟨_, rfl⟩
            obtain ⟨cl, hcl⟩ : ∃ b, Ql.any (inL Pl) = b := ⟨_, rfl⟩
            have he1H := Lib.hid he1
            clear he1
            have he2H := Lib.hid he2
            clear he2
            have hclH := Lib.hid hcl
            clear hcl
            go_wp2_with fail
            refine (rpaths_any PA Pn Pc Pl _ ((hmH.out.below hbaH.out).below hbwH.out) (by omega) ((oPH.out.below hbaH.out).below hbwH.out) zPH.out e1 he1H.out).mono ?_
            rintro e w2 ⟨rfl, hw2⟩
            have hbw := hbwH.out.trans (hw2.mono hbwH.out.size)
            obtain ⟨q0, q1, q2⟩ := three_new hbw
            clear hw2 hbwH
            have hbwH := Lib.hid hbw
            clear hbw
            by_cases z1 : e1 = 0
            · subst z1
              go_wp2_with fail
              refine (rpaths_any QA Qn Qc Ql _ ((hmH.out.below hbaH.out).below hbwH.out) (by omega) ((oQH.out.below hbaH.out).below hbwH.out) zQH.out e2 he2H.out).mono ?_
              rintro e w3 ⟨rfl, hw3⟩
              have hbw := hbwH.out.trans (hw3.mono hbwH.out.size)
              obtain ⟨q0, q1, q2⟩ := three_new hbw
              clear hw3 hbwH
              by_cases z2 : e2 = 0
              · subst z2
                have hoP := (oPH.out.below hbaH.out).below hbw
                have hoQ := (oQH.out.below hbaH.out).below hbw
                have hQl := hoQ.1
                have hbwk := hbw
                have hbwH := Lib.hid hbw
                clear hbw
                have hoPH := Lib.hid hoP
                clear hoP
                have hoQH := Lib.hid hoQ
                clear hoQ
                have hQlH := Lib.hid hQl
                clear hQl
                have hbwkH := Lib.hid hbwk
                clear hbwk
                go_wp2_with fail
                go_loopw [48] (fun i wr => AnyAt (inL Pl) Ql cl w3 i wr) (fun i _ => Qn - (intOf i).toNat)
                case atStart => exact ⟨0, Nat.zero_le _, rfl, hclH.out, rfl⟩
                case round =>
                  obtain ⟨k2, hk2, rfl, hcl2, rfl⟩ := hrel
                  have hk2l : k2 ≤ Qn := by have := hQlH.out; omega
                  by_cases hlt2 : k2 < Qn
                  · obtain ⟨b2, off2, hA2, _⟩ := hoQH.out.2.1 (by omega)
                    subst hA2
                    obtain ⟨y, hy⟩ : ∃ y, Ql[k2]? = some y := ⟨Ql[k2]'(by have := hQlH.out; omega), List.getElem?_eq_getElem _⟩
                    have cy := cell_Str hoQH.out hy
                    rw [drop_cons hy, List.any_cons] at hcl2
                    have hkk2 : k2 + 1 ≤ Ql.length := by have := hQlH.out; omega
                    obtain ⟨bb, hbb⟩ : ∃ b, inL Pl y = b := ⟨_, rfl⟩
                    rw [hbb] at hcl2
                    have hyH := Lib.hid hy
                    clear hy
                    have hcl2H := Lib.hid hcl2
                    clear hcl2
                    have hbbH := Lib.hid hbb
                    clear hbb
                    have hkk2H := Lib.hid hkk2
                    clear hkk2
                    go_wp2_with fail
                    refine (contains_any PA Pn Pc Pl y _ (by omega) hoPH.out).mono ?_
                    rintro e w4 ⟨rfl, hw4⟩
                    obtain rfl : w3 = w4 := hw4.symm
                    rw [hbbH.out]
                    cases bb
                    · have R : AnyAt (inL Pl) Ql cl w3 (.int .i64 (k2 + 1)) w3 := ⟨k2 + 1, hkk2H.out, by go_num, hcl2H.out, rfl⟩
                      have RH := Lib.hid R
                      clear R
                      go_wp2
                      refine ⟨?rel, ?measure⟩
                      case measure => (simp [intOf]; omega)
                      case rel => first | exact RH.out | exact ⟨rfl, RH.out⟩ | ((try refine ⟨rfl, ?_⟩); (repeat apply Exists.intro); refine ⟨RH.out, ?_⟩; ((repeat' apply And.intro) <;> rfl))
                    · obtain rfl : true = cl := hcl2H.out
                      have hbt := hbaH.out.trans (hbwkH.out.mono hbas)
                      have hre : recErr ⟨te, ⟨PA, Pn, Pc, Pl⟩, ⟨some ⟨b2, off2, none⟩, Qn, Qc, Ql⟩⟩ = 12 := by unfold recErr; (rw [if_pos hb1H.out, if_pos ⟨hP1, hQ1⟩, if_pos he1H.out, if_pos he2H.out, if_pos]; unfold clashB; exact hclH.out)
                      have hck := hckH.out
                      rw [hre, if_neg (by decide)] at hck
                      subst hck
                      clear hckH hre
                      clear q0 q1 q2
                      have hbtH := Lib.hid hbt
                      clear hbt
                      go_wp2
                      go_ret
                      exact ⟨rfl, hbtH.out⟩
                  · have e2 : Ql.drop k2 = [] := List.drop_eq_nil_of_le (by have := hQlH.out; omega)
                    rw [e2] at hcl2
                    obtain rfl : false = cl := hcl2
                    clear e2
                    have hbt := hbaH.out.trans (hbwkH.out.mono hbas)
                    have hre : recErr ⟨te, ⟨PA, Pn, Pc, Pl⟩, ⟨QA, Qn, Qc, Ql⟩⟩ = 0 := by
                      unfold recErr
                      rw [if_pos hb1H.out, if_pos ⟨hP1, hQ1⟩, if_pos he1H.out, if_pos he2H.out, if_neg]
                      unfold clashB; simp only; rw [hclH.out]; simp
                    have hck := hckH.out
                    rw [hre, if_pos rfl] at hck
                    clear hckH hre
                    by_cases hk0 : k = 0
                    · subst hk0
                      have R : ∀ nq, ReadsRel l c w (.int .i64 1) (w3.drewN nq) := by
                        refine fun nq => ⟨1, hkl2H.out, by go_num, ?_, bel_drewN hbt nq⟩
                        rw [show prevT l 0 = none from rfl, Option.map_none, if_neg (by decide)] at hck
                        rw [show prevT l 1 = _ from hpnH.out]
                        exact hck
                      clear hck q1 q2
                      have RH := Lib.hid R
                      clear R
                      have hbtH := Lib.hid hbt
                      clear hbt
                      go_wp2_with fail
                      go_quiet (fail)
                      go_wp2
                      refine ⟨?rel, ?measure⟩
                      case measure => (simp [intOf]; omega)
                      case rel => first | exact (RH.out _) | exact ⟨rfl, (RH.out _)⟩ | ((try refine ⟨rfl, ?_⟩); (repeat apply Exists.intro); refine ⟨(RH.out _), ?_⟩; ((repeat' apply And.intro) <;> rfl))
                    · obtain ⟨j, rfl⟩ : ∃ j, k = j + 1 := ⟨k - 1, by omega⟩
                      obtain ⟨y, hy⟩ : ∃ y, l[j]? = some y := ⟨l[j]'(by have := hllH.out; omega), List.getElem?_eq_getElem _⟩
                      obtain ⟨d0, _⟩ := cells_TestReads (hlH.out.below hbt) hy
                      have hpr : prevT l (j + 1) = some y.test := by rw [prevT, if_neg (by omega), show j + 1 - 1 = j from rfl, hy]; rfl
                      rw [hpr, Option.map_some] at hck
                      clear hpr q1 q2
                      obtain ⟨yt, hyt⟩ : ∃ t, y.test = t := ⟨_, rfl⟩
                      rw [hyt] at d0 hck
                      have hyH := Lib.hid hy
                      clear hy
                      have hytH := Lib.hid hyt
                      clear hyt
                      cases hle : sle te yt
                      · have hle' : (Op.bytesLess te.toList yt.toList || te.toList == yt.toList) = false := hle
                        rw [hle, if_neg (by decide)] at hck
                        have R : ∀ nq, ReadsRel l c w (.int .i64 (j + 1 + 1)) (w3.drewN nq) := by
                          refine fun nq => ⟨j + 1 + 1, hkl2H.out, by go_num, ?_, bel_drewN hbt nq⟩
                          rw [hpnH.out]
                          exact hck
                        have hckH := Lib.hid hck
                        clear hck
                        have hleH := Lib.hid hle
                        clear hle
                        have RH := Lib.hid R
                        clear R
                        have hbtH := Lib.hid hbt
                        clear hbt
                        go_wp2_with fail
                        go_quiet (fail)
                        go_wp2
                        refine ⟨?rel, ?measure⟩
                        case measure => (simp [intOf]; omega)
                        case rel => first | exact (RH.out _) | exact ⟨rfl, (RH.out _)⟩ | ((try refine ⟨rfl, ?_⟩); (repeat apply Exists.intro); refine ⟨(RH.out _), ?_⟩; ((repeat' apply And.intro) <;> rfl))
                      · have hle' : (Op.bytesLess te.toList yt.toList || te.toList == yt.toList) = true := hle
                        rw [hle, if_pos rfl] at hck
                        subst hck
                        have hleH := Lib.hid hle
                        clear hle
                        have hbtH := Lib.hid hbt
                        clear hbt
                        go_wp2_with fail
                        go_quiet (fail)
                        go_wp2
                        go_ret
                        exact ⟨rfl, bel_drewN hbtH.out _⟩
              · have z2' : (e2 != 0) = true := by simpa using z2
                have hz2 : ¬ pathsErr none Ql = 0 := by rw [he2H.out]; exact z2
                have hre : recErr ⟨te, ⟨PA, Pn, Pc, Pl⟩, ⟨QA, Qn, Qc, Ql⟩⟩ = e2 := by unfold recErr; (rw [if_pos hb1H.out, if_pos ⟨hP1, hQ1⟩, if_pos he1H.out, if_neg hz2]; exact he2H.out)
                have hck := hckH.out
                rw [hre, if_neg z2] at hck
                subst hck
                clear hckH hre
                clear q0 q1 q2 z2 hz2
                have hbt := hbaH.out.trans (hbw.mono hbas)
                have hbwH := Lib.hid hbw
                clear hbw
                have hbtH := Lib.hid hbt
                clear hbt
                go_wp2
                go_ret
                exact ⟨rfl, hbtH.out⟩
            · have z1' : (e1 != 0) = true := by simpa using z1
              have hz1 : ¬ pathsErr none Pl = 0 := by rw [he1H.out]; exact z1
              have hre : recErr ⟨te, ⟨PA, Pn, Pc, Pl⟩, ⟨QA, Qn, Qc, Ql⟩⟩ = e1 := by unfold recErr; (rw [if_pos hb1H.out, if_pos ⟨hP1, hQ1⟩, if_neg hz1]; exact he1H.out)
              have hck := hckH.out
              rw [hre, if_neg z1] at hck
              subst hck
              clear hckH hre
              clear q0 q1 q2 z1 hz1
              go_wp2
              go_ret
              exact ⟨rfl, hbaH.out.trans (hbwH.out.mono hbas)⟩
          · have hre : recErr ⟨te, ⟨PA, Pn, Pc, Pl⟩, ⟨QA, Qn, Qc, Ql⟩⟩ = 2 := by unfold recErr; rw [if_pos hb1H.out, if_neg (fun h => hQ1 h.2)]
            have hck := hckH.out
            rw [hre, if_neg (by decide)] at hck
            subst hck
            clear hckH hre
            have hQ2 : 1000 < Qn := by omega
            clear hQ1
            go_wp2
            go_ret
            exact ⟨rfl, hbaH.out.trans (hbwH.out.mono hbas)⟩
        · have hre : recErr ⟨te, ⟨PA, Pn, Pc, Pl⟩, ⟨QA, Qn, Qc, Ql⟩⟩ = 2 := by unfold recErr; rw [if_pos hb1H.out, if_neg (fun h => hP1 h.1)]
          have hck := hckH.out
          rw [hre, if_neg (by decide)] at hck
          subst hck
          clear hckH hre
          have hP2 : 1000 < Pn := by omega
          clear hP1
          go_wp2
          go_ret
          exact ⟨rfl, hbaH.out.trans (hbwH.out.mono hbas)⟩
    · have e : l.drop k = [] := List.drop_eq_nil_of_le (by have := hllH.out; omega)
      rw [e] at hck
      have hc0 : 0 = c := by rw [← hck]; unfold readsErr; rfl
      have hckH := Lib.hid hck
      clear hck
      have hbH := Lib.hid hb
      clear hb
      have eH := Lib.hid e
      clear e
      have hc0H := Lib.hid hc0
      clear hc0
      go_wp2
      go_ret
      exact ⟨ret1_int hc0H.out, hbH.out⟩

theorem rcreads_any (A : Option Addr) (len cap : Nat) (l : List TestReads) (w : World) (hm : MaxLenAt w) (hl : SlAt RTestReads w A len l) (hz : ReadsSmall l) (c : Int) (hF : readsF l = c) :
    Calls Tryd.prog 16 #[.slice A len cap] w fun e w' => e = .returned (.int .i64 c) ∧ Below w.heap.size w w' := by
  unfold readsF at hF
  rw [hl.1] at hF
  by_cases h : len ≤ 300
  · rw [if_pos h] at hF
    exact rcreads_ok A len cap l w hm h hl hz c hF
  · rw [if_neg h] at hF
    subst hF
    clear hl
    go_enter Tryd.func16, Tryd.ntmps16
    go_wp2
    go_ret
    exact ⟨rfl, Below.refl _ _⟩
end Go.Proofs.YtgalaeeppalljaaDoor
