/-
  checkWork, of the program and of the reference.
-/
import Derived.Test.YtbapkhkklglbaaaDoorWorksDC9
import Derived.Test.YtbapkhkklglbaaaDoorWorkerC9
namespace Go.Proofs.YtbapkhkklglbaaaDoor.C9
open Go.RowKit
set_option linter.unusedVariables false

def AftRel (l : List ByteArray) (c : Int) (w0 : World) (i : Value) (wr : World) : Prop :=
  ∃ k : Nat, k ≤ l.length ∧ i = .int .i64 k ∧ afterErr (prevS l k) (l.drop k) = c ∧ Below w0.heap.size w0 wr


theorem cell_StrW {w : World} {b off m k : Nat} {l : List ByteArray} {x : ByteArray} (h : SlAt RStr w (some ⟨b, off, none⟩) m l) (hx : l[k]? = some x) : w.cell? ⟨b, off + k, none⟩ = some (.string x) := by
  obtain ⟨b', off', hA, hc⟩ := h.2.1 (by have := h.1; have := (List.getElem?_eq_some_iff.1 hx).1; omega)
  obtain ⟨rfl, rfl⟩ : b = b' ∧ off = off' := by simpa using hA
  have := hc k x hx 0 _ rfl
  simpa [RStr] using this

set_option maxHeartbeats 2000000 in
theorem work_any (x : Work) (w : World) (hok : RWork.ok w x) (c : Int) (hF : workF x = c) :
    Calls Tryd.prog 23 #[.agg #[.string x.id_, .slice x.needs.A x.needs.n x.needs.cap, .int .i64 x.size, .slice x.after.A x.after.n x.after.cap]] w fun e w' =>
      e = .returned (.int .i64 c) ∧ Below w.heap.size w w' := by
  obtain ⟨id, nd, sz, af⟩ := x
  obtain ⟨o0, o1, o2, o3⟩ := hok
  simp only at o0 o1 o2 o3 hF ⊢
  unfold workF at hF
  simp only at hF
  obtain ⟨b1, hb1⟩ : ∃ b, wordB id = b := ⟨_, rfl⟩
  obtain ⟨c2, hc2⟩ : ∃ c, pairsF nd.l = c := ⟨_, rfl⟩
  rw [hb1, hc2] at hF
  have hba := (Below.refl w.heap.size w).alloc (Nat.le_refl _) (.cells #[.string id, .slice nd.A nd.n nd.cap, .int .i64 sz, .slice af.A af.n af.cap] 44)
  have hbas := hba.size
  have hal := o3.1.1
  have han9 : af.n ≤ 9223372036854775807 := Nat.le_trans o3.2.1 o3.2.2.1
  have o0H := Lib.hid o0
  clear o0
  have o1H := Lib.hid o1
  clear o1
  have o2H := Lib.hid o2
  clear o2
  have o3H := Lib.hid o3
  clear o3
  have hFH := Lib.hid hF
  clear hF
  have hb1H := Lib.hid hb1
  clear hb1
  have hc2H := Lib.hid hc2
  clear hc2
  have hbaH := Lib.hid hba
  clear hba
  have hbasH := Lib.hid hbas
  clear hbas
  have halH := Lib.hid hal
  clear hal
  go_enter Tryd.func23, Tryd.ntmps23
  go_wp2_with fail
  refine (word_any id b1 _ o0H.out hb1H.out).mono ?_
  rintro e w1 ⟨rfl, hw1⟩
  have q1 := (hw1.cell (by simp)).trans (cell_new w _ _ 1)
  have q2 := (hw1.cell (by simp)).trans (cell_new w _ _ 2)
  have q3 := (hw1.cell (by simp)).trans (cell_new w _ _ 3)
  have hbw1 := hbaH.out.trans (hw1.mono hbasH.out)
  have hz1 : w.heap.size < w1.heap.size := by have := hw1.size; simp at this; omega
  simp only [List.getElem?_toArray, List.getElem?_cons_succ, List.getElem?_cons_zero] at q1 q2 q3
  have hw1H := Lib.hid hw1
  clear hw1
  have hbw1H := Lib.hid hbw1
  clear hbw1
  cases b1
  · clear q2 q3 q1
    go_wp2
    go_ret
    exact ⟨ret1_int hFH.out, hbw1H.out⟩
  · have hF := hFH.out
    clear hFH
    simp only [if_true] at hF
    have hFH := Lib.hid hF
    clear hF
    go_wp2_with fail
    refine (pairs_any nd.A nd.n nd.cap nd.l _ (o1H.out.1.below hbw1H.out) c2 hc2H.out).mono ?_
    rintro e w2 ⟨rfl, hw2⟩
    replace q2 := (hw2.cell (by omega)).trans q2
    replace q3 := (hw2.cell (by omega)).trans q3
    have hbw2 := hbw1H.out.trans (hw2.mono hbw1H.out.size)
    have hz2 : w.heap.size < w2.heap.size := by have := hw2.size; omega
    clear q1
    have hw2H := Lib.hid hw2
    clear hw2
    have hbw2H := Lib.hid hbw2
    clear hbw2
    by_cases e2 : c2 = 0
    · subst e2
      have hF := hFH.out
      clear hFH
      simp only [if_true] at hF
      by_cases i2 : inR 1 1000000 sz = true
      · rw [if_pos i2] at hF
        have hFH := Lib.hid hF
        clear hF
        go_wp2_with (go_at_call 42; refine (within_p _ _ _ _).mono ?_; rintro e wz ⟨rfl, rfl⟩)
        obtain ⟨w2, rfl⟩ : ∃ W, W = wz := ⟨_, rfl⟩
        go_loopw [23] (fun i wr => AftRel af.l c w2 i wr) (fun i _ => af.n - (intOf i).toNat)
        case atStart => exact ⟨0, Nat.zero_le _, rfl, hFH.out, Below.refl _ _⟩
        case round =>
          obtain ⟨k, hk, rfl, hck, hb⟩ := hrel
          have hkl : k ≤ af.n := by have := halH.out; omega
          have hbs := hb.size
          have q3r := (hb.cell hz2).trans q3
          have hbw := hbw2H.out.trans (hb.mono hbw2H.out.size)
          clear q2 i2
          by_cases hlt : k < af.n
          · obtain ⟨b, off, hA, _⟩ := o3H.out.1.2.1 (by omega)
            obtain ⟨s, hx⟩ : ∃ x, af.l[k]? = some x := ⟨af.l[k]'(by have := halH.out; omega), List.getElem?_eq_getElem _⟩
            have hsl := o3H.out.1
            rw [hA] at hsl
            have c0 := cell_StrW (hsl.below hbw) hx
            have hos : s.size ≤ maxLen := hsl.2.2 s (List.mem_of_getElem? hx)
            rw [drop_cons hx, afterErr] at hck
            have hkl2 : k + 1 ≤ af.l.length := by have := halH.out; omega
            have hpn : prevS af.l (k + 1) = some s := by rw [prevS, if_neg (by omega), show k + 1 - 1 = k from rfl, hx]
            obtain ⟨bs, hbs'⟩ : ∃ b, wordB s = b := ⟨_, rfl⟩
            rw [hbs'] at hck
            rw [hA] at q3r ⊢
            have hxH := Lib.hid hx
            clear hx
            have hckH := Lib.hid hck
            clear hck
            have hbH := Lib.hid hb
            clear hb
            have hbwH := Lib.hid hbw
            clear hbw
            have hosH := Lib.hid hos
            clear hos
            have hbs'H := Lib.hid hbs'
            clear hbs'
            have hpnH := Lib.hid hpn
            clear hpn
            have hkl2H := Lib.hid hkl2
            clear hkl2
            have hslH := Lib.hid hsl
            clear hsl
            have hAH := Lib.hid hA
            clear hA
            go_wp2_with fail
            refine (word_any s bs _ hosH.out hbs'H.out).mono ?_
            rintro e w3 ⟨rfl, hw3⟩
            have hb3 := hbH.out.trans (hw3.mono hbs)
            have hbw3 := hbwH.out.trans (hw3.mono hbwH.out.size)
            replace q3r := (hw3.cell (show w.heap.size < wr.heap.size by omega)).trans q3r
            clear hw3 c0
            have hck := hckH.out
            clear hckH
            cases bs
            · rw [if_neg (by decide)] at hck
              have hckH := Lib.hid hck
              clear hck
              have hb3H := Lib.hid hb3
              clear hb3
              have hbw3H := Lib.hid hbw3
              clear hbw3
              go_wp2
              go_ret
              exact ⟨ret1_int hckH.out, hbw3H.out⟩
            · rw [if_pos rfl] at hck
              by_cases hk0 : k = 0
              · subst hk0
                have R : ∀ nq, AftRel af.l c w2 (.int .i64 1) (w3.drewN nq) := by
                  refine fun nq => ⟨1, hkl2H.out, by go_num, ?_, bel_drewN hb3 nq⟩
                  rw [prevS, if_pos rfl, Option.map_none, if_neg (by decide)] at hck
                  rw [hpnH.out]
                  exact hck
                clear hck
                have RH := Lib.hid R
                clear R
                have hb3H := Lib.hid hb3
                clear hb3
                have hbw3H := Lib.hid hbw3
                clear hbw3
                go_wp2
                refine ⟨?rel, ?measure⟩
                case measure => (simp [intOf]; omega)
                case rel => first | exact (RH.out 0) | exact ⟨rfl, (RH.out 0)⟩ | ((try refine ⟨rfl, ?_⟩); (repeat apply Exists.intro); refine ⟨(RH.out 0), ?_⟩; ((repeat' apply And.intro) <;> rfl))
              · obtain ⟨j, rfl⟩ : ∃ j, k = j + 1 := ⟨k - 1, by omega⟩
                obtain ⟨y, hy⟩ : ∃ y, af.l[j]? = some y := ⟨af.l[j]'(by have := halH.out; omega), List.getElem?_eq_getElem _⟩
                have d0 := cell_StrW (hslH.out.below hbw3) hy
                have hpr : prevS af.l (j + 1) = some y := by rw [prevS, if_neg (by omega), show j + 1 - 1 = j from rfl, hy]
                rw [hpr, Option.map_some] at hck
                clear hpr
                cases hle : sle s y
                · have hle' : (Op.bytesLess s.toList y.toList || s.toList == y.toList) = false := hle
                  rw [hle, if_neg (by decide)] at hck
                  have R : ∀ nq, AftRel af.l c w2 (.int .i64 (j + 1 + 1)) (w3.drewN nq) := by
                    refine fun nq => ⟨j + 1 + 1, hkl2H.out, by go_num, ?_, bel_drewN hb3 nq⟩
                    rw [hpnH.out]
                    exact hck
                  clear hck
                  have hleH := Lib.hid hle
                  clear hle
                  have hyH := Lib.hid hy
                  clear hy
                  have RH := Lib.hid R
                  clear R
                  have hb3H := Lib.hid hb3
                  clear hb3
                  have hbw3H := Lib.hid hbw3
                  clear hbw3
                  go_wp2
                  refine ⟨?rel, ?measure⟩
                  case measure => (simp [intOf]; omega)
                  case rel => first | exact (RH.out 0) | exact ⟨rfl, (RH.out 0)⟩ | ((try refine ⟨rfl, ?_⟩); (repeat apply Exists.intro); refine ⟨(RH.out 0), ?_⟩; ((repeat' apply And.intro) <;> rfl))
                · have hle' : (Op.bytesLess s.toList y.toList || s.toList == y.toList) = true := hle
                  rw [hle, if_pos rfl] at hck
                  have hleH := Lib.hid hle
                  clear hle
                  have hckH := Lib.hid hck
                  clear hck
                  have hyH := Lib.hid hy
                  clear hy
                  have hb3H := Lib.hid hb3
                  clear hb3
                  have hbw3H := Lib.hid hbw3
                  clear hbw3
                  go_wp2
                  go_ret
                  exact ⟨ret1_int hckH.out, hbw3H.out⟩
          · have e : af.l.drop k = [] := List.drop_eq_nil_of_le (by have := halH.out; omega)
            rw [e] at hck
            have hc0 : 0 = c := by rw [← hck]; unfold afterErr; rfl
            have hckH := Lib.hid hck
            clear hck
            have hbH := Lib.hid hb
            clear hb
            have hbwH := Lib.hid hbw
            clear hbw
            have eH := Lib.hid e
            clear e
            have hc0H := Lib.hid hc0
            clear hc0
            go_wp2
            go_ret
            exact ⟨ret1_int hc0H.out, hbwH.out⟩
      · rw [if_neg i2] at hF
        have i2 : inR 1 1000000 sz = false := by simpa using i2
        have hFH := Lib.hid hF
        clear hF
        go_wp2_with (go_at_call 42; refine (within_p _ _ _ _).mono ?_; rintro e wz ⟨rfl, rfl⟩)
        go_ret
        exact ⟨ret1_int hFH.out, hbw2H.out⟩
    · have hF := hFH.out
      clear hFH
      rw [if_neg e2] at hF
      have e3 : (c2 != 0) = true := by simpa using e2
      clear q2 q3
      have hFH := Lib.hid hF
      clear hF
      go_wp2
      go_ret
      exact ⟨ret1_int hFH.out, hbw2H.out⟩
set_option maxHeartbeats 2000000 in
theorem rwork_any (x : Work) (w : World) (hok : RWork.ok w x) (c : Int) (hF : workF x = c) :
    Calls Tryd.prog 26 #[.agg #[.string x.id_, .slice x.needs.A x.needs.n x.needs.cap, .int .i64 x.size, .slice x.after.A x.after.n x.after.cap]] w fun e w' =>
      e = .returned (.int .i64 c) ∧ Below w.heap.size w w' := by
  obtain ⟨id, nd, sz, af⟩ := x
  obtain ⟨o0, o1, o2, o3⟩ := hok
  simp only at o0 o1 o2 o3 hF ⊢
  unfold workF at hF
  simp only at hF
  obtain ⟨b1, hb1⟩ : ∃ b, wordB id = b := ⟨_, rfl⟩
  obtain ⟨c2, hc2⟩ : ∃ c, pairsF nd.l = c := ⟨_, rfl⟩
  rw [hb1, hc2] at hF
  have hba := (Below.refl w.heap.size w).alloc (Nat.le_refl _) (.cells #[.string id, .slice nd.A nd.n nd.cap, .int .i64 sz, .slice af.A af.n af.cap] 44)
  have hbas := hba.size
  have hal := o3.1.1
  have han9 : af.n ≤ 9223372036854775807 := Nat.le_trans o3.2.1 o3.2.2.1
  have o0H := Lib.hid o0
  clear o0
  have o1H := Lib.hid o1
  clear o1
  have o2H := Lib.hid o2
  clear o2
  have o3H := Lib.hid o3
  clear o3
  have hFH := Lib.hid hF
  clear hF
  have hb1H := Lib.hid hb1
  clear hb1
  have hc2H := Lib.hid hc2
  clear hc2
  have hbaH := Lib.hid hba
  clear hba
  have hbasH := Lib.hid hbas
  clear hbas
  have halH := Lib.hid hal
  clear hal
  go_enter Tryd.func26, Tryd.ntmps26
  go_wp2_with fail
  refine (rword_b id b1 _ o0H.out hb1H.out).mono ?_
  rintro e w1 ⟨rfl, hw1⟩
  have q1 := (hw1.cell (by simp)).trans (cell_new w _ _ 1)
  have q2 := (hw1.cell (by simp)).trans (cell_new w _ _ 2)
  have q3 := (hw1.cell (by simp)).trans (cell_new w _ _ 3)
  have hbw1 := hbaH.out.trans (hw1.mono hbasH.out)
  have hz1 : w.heap.size < w1.heap.size := by have := hw1.size; simp at this; omega
  simp only [List.getElem?_toArray, List.getElem?_cons_succ, List.getElem?_cons_zero] at q1 q2 q3
  have hw1H := Lib.hid hw1
  clear hw1
  have hbw1H := Lib.hid hbw1
  clear hbw1
  cases b1
  · clear q2 q3 q1
    go_wp2
    go_ret
    exact ⟨ret1_int hFH.out, hbw1H.out⟩
  · have hF := hFH.out
    clear hFH
    simp only [if_true] at hF
    have hFH := Lib.hid hF
    clear hF
    go_wp2_with fail
    refine (rpairs_any nd.A nd.n nd.cap nd.l _ (o1H.out.1.below hbw1H.out) c2 hc2H.out).mono ?_
    rintro e w2 ⟨rfl, hw2⟩
    replace q2 := (hw2.cell (by omega)).trans q2
    replace q3 := (hw2.cell (by omega)).trans q3
    have hbw2 := hbw1H.out.trans (hw2.mono hbw1H.out.size)
    have hz2 : w.heap.size < w2.heap.size := by have := hw2.size; omega
    clear q1
    have hw2H := Lib.hid hw2
    clear hw2
    have hbw2H := Lib.hid hbw2
    clear hbw2
    by_cases e2 : c2 = 0
    · subst e2
      have hF := hFH.out
      clear hFH
      simp only [if_true] at hF
      by_cases i2 : inR 1 1000000 sz = true
      · rw [if_pos i2] at hF
        have hFH := Lib.hid hF
        clear hF
        go_wp2_with (go_at_call 47; refine (within_r _ _ _ _).mono ?_; rintro e wz ⟨rfl, rfl⟩)
        obtain ⟨w2, rfl⟩ : ∃ W, W = wz := ⟨_, rfl⟩
        go_loopw [23] (fun i wr => AftRel af.l c w2 i wr) (fun i _ => af.n - (intOf i).toNat)
        case atStart => exact ⟨0, Nat.zero_le _, rfl, hFH.out, Below.refl _ _⟩
        case round =>
          obtain ⟨k, hk, rfl, hck, hb⟩ := hrel
          have hkl : k ≤ af.n := by have := halH.out; omega
          have hbs := hb.size
          have q3r := (hb.cell hz2).trans q3
          have hbw := hbw2H.out.trans (hb.mono hbw2H.out.size)
          clear q2 i2
          by_cases hlt : k < af.n
          · obtain ⟨b, off, hA, _⟩ := o3H.out.1.2.1 (by omega)
            obtain ⟨s, hx⟩ : ∃ x, af.l[k]? = some x := ⟨af.l[k]'(by have := halH.out; omega), List.getElem?_eq_getElem _⟩
            have hsl := o3H.out.1
            rw [hA] at hsl
            have c0 := cell_StrW (hsl.below hbw) hx
            have hos : s.size ≤ maxLen := hsl.2.2 s (List.mem_of_getElem? hx)
            rw [drop_cons hx, afterErr] at hck
            have hkl2 : k + 1 ≤ af.l.length := by have := halH.out; omega
            have hpn : prevS af.l (k + 1) = some s := by rw [prevS, if_neg (by omega), show k + 1 - 1 = k from rfl, hx]
            obtain ⟨bs, hbs'⟩ : ∃ b, wordB s = b := ⟨_, rfl⟩
            rw [hbs'] at hck
            rw [hA] at q3r ⊢
            have hxH := Lib.hid hx
            clear hx
            have hckH := Lib.hid hck
            clear hck
            have hbH := Lib.hid hb
            clear hb
            have hbwH := Lib.hid hbw
            clear hbw
            have hosH := Lib.hid hos
            clear hos
            have hbs'H := Lib.hid hbs'
            clear hbs'
            have hpnH := Lib.hid hpn
            clear hpn
            have hkl2H := Lib.hid hkl2
            clear hkl2
            have hslH := Lib.hid hsl
            clear hsl
            have hAH := Lib.hid hA
            clear hA
            go_wp2_with fail
            refine (rword_b s bs _ hosH.out hbs'H.out).mono ?_
            rintro e w3 ⟨rfl, hw3⟩
            have hb3 := hbH.out.trans (hw3.mono hbs)
            have hbw3 := hbwH.out.trans (hw3.mono hbwH.out.size)
            replace q3r := (hw3.cell (show w.heap.size < wr.heap.size by omega)).trans q3r
            clear hw3 c0
            have hck := hckH.out
            clear hckH
            cases bs
            · rw [if_neg (by decide)] at hck
              have hckH := Lib.hid hck
              clear hck
              have hb3H := Lib.hid hb3
              clear hb3
              have hbw3H := Lib.hid hbw3
              clear hbw3
              go_wp2
              go_ret
              exact ⟨ret1_int hckH.out, hbw3H.out⟩
            · rw [if_pos rfl] at hck
              by_cases hk0 : k = 0
              · subst hk0
                have R : ∀ nq, AftRel af.l c w2 (.int .i64 1) (w3.drewN nq) := by
                  refine fun nq => ⟨1, hkl2H.out, by go_num, ?_, bel_drewN hb3 nq⟩
                  rw [prevS, if_pos rfl, Option.map_none, if_neg (by decide)] at hck
                  rw [hpnH.out]
                  exact hck
                clear hck
                have RH := Lib.hid R
                clear R
                have hb3H := Lib.hid hb3
                clear hb3
                have hbw3H := Lib.hid hbw3
                clear hbw3
                go_wp2
                refine ⟨?rel, ?measure⟩
                case measure => (simp [intOf]; omega)
                case rel => first | exact (RH.out 0) | exact ⟨rfl, (RH.out 0)⟩ | ((try refine ⟨rfl, ?_⟩); (repeat apply Exists.intro); refine ⟨(RH.out 0), ?_⟩; ((repeat' apply And.intro) <;> rfl))
              · obtain ⟨j, rfl⟩ : ∃ j, k = j + 1 := ⟨k - 1, by omega⟩
                obtain ⟨y, hy⟩ : ∃ y, af.l[j]? = some y := ⟨af.l[j]'(by have := halH.out; omega), List.getElem?_eq_getElem _⟩
                have d0 := cell_StrW (hslH.out.below hbw3) hy
                have hpr : prevS af.l (j + 1) = some y := by rw [prevS, if_neg (by omega), show j + 1 - 1 = j from rfl, hy]
                rw [hpr, Option.map_some] at hck
                clear hpr
                cases hle : sle s y
                · have hle' : (Op.bytesLess s.toList y.toList || s.toList == y.toList) = false := hle
                  rw [hle, if_neg (by decide)] at hck
                  have R : ∀ nq, AftRel af.l c w2 (.int .i64 (j + 1 + 1)) (w3.drewN nq) := by
                    refine fun nq => ⟨j + 1 + 1, hkl2H.out, by go_num, ?_, bel_drewN hb3 nq⟩
                    rw [hpnH.out]
                    exact hck
                  clear hck
                  have hleH := Lib.hid hle
                  clear hle
                  have hyH := Lib.hid hy
                  clear hy
                  have RH := Lib.hid R
                  clear R
                  have hb3H := Lib.hid hb3
                  clear hb3
                  have hbw3H := Lib.hid hbw3
                  clear hbw3
                  go_wp2
                  refine ⟨?rel, ?measure⟩
                  case measure => (simp [intOf]; omega)
                  case rel => first | exact (RH.out 0) | exact ⟨rfl, (RH.out 0)⟩ | ((try refine ⟨rfl, ?_⟩); (repeat apply Exists.intro); refine ⟨(RH.out 0), ?_⟩; ((repeat' apply And.intro) <;> rfl))
                · have hle' : (Op.bytesLess s.toList y.toList || s.toList == y.toList) = true := hle
                  rw [hle, if_pos rfl] at hck
                  have hleH := Lib.hid hle
                  clear hle
                  have hckH := Lib.hid hck
                  clear hck
                  have hyH := Lib.hid hy
                  clear hy
                  have hb3H := Lib.hid hb3
                  clear hb3
                  have hbw3H := Lib.hid hbw3
                  clear hbw3
                  go_wp2
                  go_ret
                  exact ⟨ret1_int hckH.out, hbw3H.out⟩
          · have e : af.l.drop k = [] := List.drop_eq_nil_of_le (by have := halH.out; omega)
            rw [e] at hck
            have hc0 : 0 = c := by rw [← hck]; unfold afterErr; rfl
            have hckH := Lib.hid hck
            clear hck
            have hbH := Lib.hid hb
            clear hb
            have hbwH := Lib.hid hbw
            clear hbw
            have eH := Lib.hid e
            clear e
            have hc0H := Lib.hid hc0
            clear hc0
            go_wp2
            go_ret
            exact ⟨ret1_int hc0H.out, hbwH.out⟩
      · rw [if_neg i2] at hF
        have i2 : inR 1 1000000 sz = false := by simpa using i2
        have hFH := Lib.hid hF
        clear hF
        go_wp2_with (go_at_call 47; refine (within_r _ _ _ _).mono ?_; rintro e wz ⟨rfl, rfl⟩)
        go_ret
        exact ⟨ret1_int hFH.out, hbw2H.out⟩
    · have hF := hFH.out
      clear hFH
      rw [if_neg e2] at hF
      have e3 : (c2 != 0) = true := by simpa using e2
      clear q2 q3
      have hFH := Lib.hid hF
      clear hF
      go_wp2
      go_ret
      exact ⟨ret1_int hFH.out, hbw2H.out⟩
end Go.Proofs.YtbapkhkklglbaaaDoor.C9
