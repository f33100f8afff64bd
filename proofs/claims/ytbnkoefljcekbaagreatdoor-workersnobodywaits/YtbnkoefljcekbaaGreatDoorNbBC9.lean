/-
 Several texts of mine as one, without what is not wanted here: XWorker, XCWork, XFit, XEnds, XBsf.
-/
import Derived.Test.YtbnkoefljcekbaaGreatDoorNbAC9
import Derived.Test.YtbnkoefljcekbaaGreatDoorNbShelf
import Derived.Shelf.SlicesQ.Contains
import Derived.Laws.StructEq
namespace Go.Proofs.YtbnkoefljcekbaaGreatDoor.C9
open Go.RowKit
set_option linter.unusedVariables false

/-- the fault of a worker by itself -/
def workerF (x : Worker) : Int :=
 if wordB x.name = true then
  if pairsF x.has.l = 0 then
   if inR 1 20 x.slots = true ∧ inR 1 1000 x.speed = true ∧ inR 0 1000000000 x.from_ = true ∧ inR 0 1000000000 x.to_ = true then
    if x.to_ ≤ x.from_ then 8 else standsF x.stands.l
   else 1
  else pairsF x.has.l
 else 5

set_option maxHeartbeats 1000000 in
theorem worker_any (x : Worker) (w : World) (hok : RWorker.ok w x) (c : Int) (hF : workerF x = c) :
  Calls Tryz.prog 83 #[.agg #[.string x.name, .slice x.has.A x.has.n x.has.cap, .int .i64 x.slots, .int .i64 x.speed, .int .i64 x.from_, .int .i64 x.to_, .slice x.stands.A x.stands.n x.stands.cap]] w fun e w' =>
   e = .returned (.int .i64 c) ∧ Below w.heap.size w w' := by
 obtain ⟨nm, has, sl, sp, fr, tz, st⟩ := x
 obtain ⟨o0, o1, o2, o3, o4, o5, o6⟩ := hok
 simp only at o0 o1 o2 o3 o4 o5 o6 hF ⊢
 unfold workerF at hF
 simp only at hF
 obtain ⟨b1, hb1⟩ : ∃ b, wordB nm = b := ⟨_, rfl⟩
 obtain ⟨c2, hc2⟩ : ∃ c, pairsF has.l = c := ⟨_, rfl⟩
 obtain ⟨c3, hc3⟩ : ∃ c, standsF st.l = c := ⟨_, rfl⟩
 rw [hb1, hc2, hc3] at hF
 have hba := (Below.refl w.heap.size w).alloc (Nat.le_refl _) (.cells #[.string nm, .slice has.A has.n has.cap, .int .i64 sl, .int .i64 sp, .int .i64 fr, .int .i64 tz, .slice st.A st.n st.cap] 84)
 have hbas := hba.size
 have o0H := Lib.hid o0; have o1H := Lib.hid o1; have o2H := Lib.hid o2; have o3H := Lib.hid o3; have o4H := Lib.hid o4; have o5H := Lib.hid o5; have o6H := Lib.hid o6; have hFH := Lib.hid hF; have hb1H := Lib.hid hb1; have hc2H := Lib.hid hc2; have hc3H := Lib.hid hc3; have hbaH := Lib.hid hba; have hbasH := Lib.hid hbas; clear o0 o1 o2 o3 o4 o5 o6 hF hb1 hc2 hc3 hba hbas
 go_enter Tryz.func83, Tryz.ntmps83
 go_wp2_with fail
 refine (word_any nm b1 _ o0H.out hb1H.out).mono ?_
 rintro e w1 ⟨rfl, hw1⟩
 have q1 := (hw1.cell (by simp)).trans (cell_new w _ _ 1)
 have q2 := (hw1.cell (by simp)).trans (cell_new w _ _ 2)
 have q3 := (hw1.cell (by simp)).trans (cell_new w _ _ 3)
 have q4 := (hw1.cell (by simp)).trans (cell_new w _ _ 4)
 have q5 := (hw1.cell (by simp)).trans (cell_new w _ _ 5)
 have q6 := (hw1.cell (by simp)).trans (cell_new w _ _ 6)
 have hbw1 := hbaH.out.trans (hw1.mono hbasH.out)
 have hz1 : w.heap.size < w1.heap.size := by have := hw1.size; simp at this; omega
 simp only [List.getElem?_toArray, List.getElem?_cons_succ, List.getElem?_cons_zero] at q1 q2 q3 q4 q5 q6
 have hw1H := Lib.hid hw1; have hbw1H := Lib.hid hbw1; clear hw1 hbw1
 cases b1
 ·clear q2 q3 q4 q5 q6
  go_wp2
  go_ret
  exact ⟨ret1_int hFH.out, hbw1H.out⟩
 ·have hF := hFH.out
  clear hFH
  simp only [if_true] at hF
  have hFH := Lib.hid hF; clear hF
  go_wp2_with fail
  refine (pairs_any has.A has.n has.cap has.l _ (o1H.out.1.below hbw1H.out) c2 hc2H.out).mono ?_
  rintro e w2 ⟨rfl, hw2⟩
  replace q2 := (hw2.cell (by omega)).trans q2
  replace q3 := (hw2.cell (by omega)).trans q3
  replace q4 := (hw2.cell (by omega)).trans q4
  replace q5 := (hw2.cell (by omega)).trans q5
  replace q6 := (hw2.cell (by omega)).trans q6
  have hbw2 := hbw1H.out.trans (hw2.mono hbw1H.out.size)
  have hz2 : w.heap.size < w2.heap.size := by have := hw2.size; omega
  clear q1
  have hw2H := Lib.hid hw2; have hbw2H := Lib.hid hbw2; clear hw2 hbw2
  by_cases e2 : c2 = 0
  ·subst e2
   have hF := hFH.out
   clear hFH
   simp only [if_true] at hF
   by_cases i2 : inR 1 20 sl = true
   ·by_cases i3 : inR 1 1000 sp = true
    ·by_cases i4 : inR 0 1000000000 fr = true
     ·by_cases i5 : inR 0 1000000000 tz = true
      ·rw [if_pos ⟨i2, i3, i4, i5⟩] at hF
       by_cases hle : tz ≤ fr
       ·rw [if_pos hle] at hF
        have hFH := Lib.hid hF; clear hF
        go_wp2_with (first | (go_at_call 43; refine (within_p _ _ _ _).mono ?_; rintro e wz ⟨rfl, rfl⟩) | (go_at_call 39; refine (moment_p _ _).mono ?_; rintro e wz ⟨rfl, rfl⟩))
        go_ret
        exact ⟨ret1_int hFH.out, hbw2H.out⟩
       ·rw [if_neg hle] at hF
        have hle2 : decide (tz ≤ fr) = false := decide_eq_false hle
        have hFH := Lib.hid hF; clear hF
        go_wp2_with (first | (go_at_call 43; refine (within_p _ _ _ _).mono ?_; rintro e wz ⟨rfl, rfl⟩) | (go_at_call 39; refine (moment_p _ _).mono ?_; rintro e wz ⟨rfl, rfl⟩))
        refine (stands_any st.A st.n st.cap st.l _ (o6H.out.1.below hbw2H.out) c3 hc3H.out).mono ?_
        rintro e w3 ⟨rfl, hw3⟩
        have hbw3 := hbw2H.out.trans (hw3.mono hbw2H.out.size)
        have hw3H := Lib.hid hw3; have hbw3H := Lib.hid hbw3; clear hw3 hbw3
        clear q2 q3 q4 q5 q6
        go_wp2
        go_ret
        exact ⟨ret1_int hFH.out, hbw3H.out⟩
      ·rw [if_neg (fun h => i5 h.2.2.2)] at hF
       have i5 : inR 0 1000000000 tz = false := by simpa using i5
       have hFH := Lib.hid hF; clear hF
       go_wp2_with (first | (go_at_call 43; refine (within_p _ _ _ _).mono ?_; rintro e wz ⟨rfl, rfl⟩) | (go_at_call 39; refine (moment_p _ _).mono ?_; rintro e wz ⟨rfl, rfl⟩))
       go_ret
       exact ⟨ret1_int hFH.out, hbw2H.out⟩
     ·rw [if_neg (fun h => i4 h.2.2.1)] at hF
      have i4 : inR 0 1000000000 fr = false := by simpa using i4
      have hFH := Lib.hid hF; clear hF
      go_wp2_with (first | (go_at_call 43; refine (within_p _ _ _ _).mono ?_; rintro e wz ⟨rfl, rfl⟩) | (go_at_call 39; refine (moment_p _ _).mono ?_; rintro e wz ⟨rfl, rfl⟩))
      go_ret
      exact ⟨ret1_int hFH.out, hbw2H.out⟩
    ·rw [if_neg (fun h => i3 h.2.1)] at hF
     have i3 : inR 1 1000 sp = false := by simpa using i3
     have hFH := Lib.hid hF; clear hF
     go_wp2_with (first | (go_at_call 43; refine (within_p _ _ _ _).mono ?_; rintro e wz ⟨rfl, rfl⟩) | (go_at_call 39; refine (moment_p _ _).mono ?_; rintro e wz ⟨rfl, rfl⟩))
     go_ret
     exact ⟨ret1_int hFH.out, hbw2H.out⟩
   ·rw [if_neg (fun h => i2 h.1)] at hF
    have i2 : inR 1 20 sl = false := by simpa using i2
    have hFH := Lib.hid hF; clear hF
    go_wp2_with (first | (go_at_call 43; refine (within_p _ _ _ _).mono ?_; rintro e wz ⟨rfl, rfl⟩) | (go_at_call 39; refine (moment_p _ _).mono ?_; rintro e wz ⟨rfl, rfl⟩))
    go_ret
    exact ⟨ret1_int hFH.out, hbw2H.out⟩
  ·have hF := hFH.out
   clear hFH
   rw [if_neg e2] at hF
   have e3 : (c2 != 0) = true := by simpa using e2
   clear q2 q3 q4 q5 q6
   have hFH := Lib.hid hF; clear hF
   go_wp2
   go_ret
   exact ⟨ret1_int hFH.out, hbw2H.out⟩

end Go.Proofs.YtbnkoefljcekbaaGreatDoor.C9

namespace Go.Proofs.YtbnkoefljcekbaaGreatDoor.C9
open Go.RowKit
set_option linter.unusedVariables false

def AftRel (l : List ByteArray) (c : Int) (w0 : World) (i : Value) (wr : World) : Prop :=
 ∃ k : Nat, k ≤ l.length ∧ i = .int .i64 k ∧ afterErr (prevS l k) (l.drop k) = c ∧ Below w0.heap.size w0 wr


theorem cell_StrW {w : World} {b off m k : Nat} {l : List ByteArray} {x : ByteArray} (h : SlAt RStr w (some ⟨b, off, none⟩) m l) (hx : l[k]? = some x) : w.cell? ⟨b, off + k, none⟩ = some (.string x) := by
 obtain ⟨b', off', hA, hc⟩ := h.2.1 (by have := h.1; have := (List.getElem?_eq_some_iff.1 hx).1; omega)
 obtain ⟨rfl, rfl⟩ : b = b' ∧ off = off' := by simpa using hA
 have := hc k x hx 0 _ rfl
 simpa [RStr] using this

set_option maxHeartbeats 2000000 in
theorem work_any (x : Work) (w : World) (hok : RWork.ok w x) (c : Int) (hF : workF x = c) :
  Calls Tryz.prog 84 #[.agg #[.string x.id_, .slice x.needs.A x.needs.n x.needs.cap, .int .i64 x.size, .slice x.after.A x.after.n x.after.cap]] w fun e w' =>
   e = .returned (.int .i64 c) ∧ Below w.heap.size w w' := by
 obtain ⟨id, nd, sz, af⟩ := x
 obtain ⟨o0, o1, o2, o3⟩ := hok
 simp only at o0 o1 o2 o3 hF ⊢
 unfold workF at hF
 simp only at hF
 obtain ⟨b1, hb1⟩ : ∃ b, wordB id = b := ⟨_, rfl⟩
 obtain ⟨c2, hc2⟩ : ∃ c, pairsF nd.l = c := ⟨_, rfl⟩
 rw [hb1, hc2] at hF
 have hba := (Below.refl w.heap.size w).alloc (Nat.le_refl _) (.cells #[.string id, .slice nd.A nd.n nd.cap, .int .i64 sz, .slice af.A af.n af.cap] 86)
 have hbas := hba.size
 have hal := o3.1.1
 have han9 : af.n ≤ 9223372036854775807 := Nat.le_trans o3.2.1 o3.2.2.1
 have o0H := Lib.hid o0; have o1H := Lib.hid o1; have o2H := Lib.hid o2; have o3H := Lib.hid o3; have hFH := Lib.hid hF; have hb1H := Lib.hid hb1; have hc2H := Lib.hid hc2; have hbaH := Lib.hid hba; have hbasH := Lib.hid hbas; have halH := Lib.hid hal; clear o0 o1 o2 o3 hF hb1 hc2 hba hbas hal
 go_enter Tryz.func84, Tryz.ntmps84
 go_wp2_with fail
 refine (word_any id b1 _ o0H.out hb1H.out).mono ?_
 rintro e w1 ⟨rfl, hw1⟩
 have q1 := (hw1.cell (by simp)).trans (cell_new w _ _ 1)
 have q2 := (hw1.cell (by simp)).trans (cell_new w _ _ 2)
 have q3 := (hw1.cell (by simp)).trans (cell_new w _ _ 3)
 have hbw1 := hbaH.out.trans (hw1.mono hbasH.out)
 have hz1 : w.heap.size < w1.heap.size := by have := hw1.size; simp at this; omega
 simp only [List.getElem?_toArray, List.getElem?_cons_succ, List.getElem?_cons_zero] at q1 q2 q3
 have hw1H := Lib.hid hw1; have hbw1H := Lib.hid hbw1; clear hw1 hbw1
 cases b1
 ·clear q2 q3 q1
  go_wp2
  go_ret
  exact ⟨ret1_int hFH.out, hbw1H.out⟩
 ·have hF := hFH.out
  clear hFH
  simp only [if_true] at hF
  have hFH := Lib.hid hF; clear hF
  go_wp2_with fail
  refine (pairs_any nd.A nd.n nd.cap nd.l _ (o1H.out.1.below hbw1H.out) c2 hc2H.out).mono ?_
  rintro e w2 ⟨rfl, hw2⟩
  replace q2 := (hw2.cell (by omega)).trans q2
  replace q3 := (hw2.cell (by omega)).trans q3
  have hbw2 := hbw1H.out.trans (hw2.mono hbw1H.out.size)
  have hz2 : w.heap.size < w2.heap.size := by have := hw2.size; omega
  clear q1
  have hw2H := Lib.hid hw2; have hbw2H := Lib.hid hbw2; clear hw2 hbw2
  by_cases e2 : c2 = 0
  ·subst e2
   have hF := hFH.out
   clear hFH
   simp only [if_true] at hF
   by_cases i2 : inR 1 1000000 sz = true
   ·rw [if_pos i2] at hF
    have hFH := Lib.hid hF; clear hF
    go_wp2_with (go_at_call 43; refine (within_p _ _ _ _).mono ?_; rintro e wz ⟨rfl, rfl⟩)
    obtain ⟨w2, rfl⟩ : ∃ W, W = wz := ⟨_, rfl⟩
    go_loopw [23] (fun i wr => AftRel af.l c w2 i wr) (fun i _ => af.n - (intOf i).toNat)
    case atStart => exact ⟨0, Nat.zero_le _, rfl, hFH.out, Below.refl _ _⟩
    case round =>
     obtain ⟨k, hk, rfl, hck, hb⟩ := hrel
     have hkl : k ≤ af.n := by have := halH.out; omega
     have hbs := hb.size
     have q3r := (hb.cell hz2).trans q3
     have hbw := hbw2H.out.trans (hb.mono hbw2H.out.size)
     clear q2 i2
     by_cases hlt : k < af.n
     ·obtain ⟨b, off, hA, _⟩ := o3H.out.1.2.1 (by omega)
      obtain ⟨s, hx⟩ : ∃ x, af.l[k]? = some x := ⟨af.l[k]'(by have := halH.out; omega), List.getElem?_eq_getElem _⟩
      have hsl := o3H.out.1
      rw [hA] at hsl
      have c0 := cell_StrW (hsl.below hbw) hx
      have hos : s.size ≤ maxLen := hsl.2.2 s (List.mem_of_getElem? hx)
      rw [drop_cons hx, afterErr] at hck
      have hkl2 : k + 1 ≤ af.l.length := by have := halH.out; omega
      have hpn : prevS af.l (k + 1) = some s := by rw [prevS, if_neg (by omega), show k + 1 - 1 = k from rfl, hx]
      obtain ⟨bs, hbs'⟩ : ∃ b, wordB s = b := ⟨_, rfl⟩
      rw [hbs'] at hck
      rw [hA] at q3r ⊢
      have hxH := Lib.hid hx; have hckH := Lib.hid hck; have hbH := Lib.hid hb; have hbwH := Lib.hid hbw; have hosH := Lib.hid hos; have hbs'H := Lib.hid hbs'; have hpnH := Lib.hid hpn; have hkl2H := Lib.hid hkl2; have hslH := Lib.hid hsl; have hAH := Lib.hid hA; clear hx hck hb hbw hos hbs' hpn hkl2 hsl hA
      go_wp2_with fail
      refine (word_any s bs _ hosH.out hbs'H.out).mono ?_
      rintro e w3 ⟨rfl, hw3⟩
      have hb3 := hbH.out.trans (hw3.mono hbs)
      have hbw3 := hbwH.out.trans (hw3.mono hbwH.out.size)
      replace q3r := (hw3.cell (show w.heap.size < wr.heap.size by omega)).trans q3r
      clear hw3 c0
      have hck := hckH.out
      clear hckH
      cases bs
      ·rw [if_neg (by decide)] at hck
       have hckH := Lib.hid hck; have hb3H := Lib.hid hb3; have hbw3H := Lib.hid hbw3; clear hck hb3 hbw3
       go_wp2
       go_ret
       exact ⟨ret1_int hckH.out, hbw3H.out⟩
      ·rw [if_pos rfl] at hck
       by_cases hk0 : k = 0
       ·subst hk0
        have R : ∀ nq, AftRel af.l c w2 (.int .i64 1) (w3.drewN nq) := by
         refine fun nq => ⟨1, hkl2H.out, by go_num, ?_, bel_drewN hb3 nq⟩
         rw [prevS, if_pos rfl, Option.map_none, if_neg (by decide)] at hck
         rw [hpnH.out]
         exact hck
        clear hck
        have RH := Lib.hid R; have hb3H := Lib.hid hb3; have hbw3H := Lib.hid hbw3; clear R hb3 hbw3
        go_wp2
        refine ⟨?rel, ?measure⟩
        case measure => (simp [intOf]; omega)
        case rel => first | exact (RH.out 0) | exact ⟨rfl, (RH.out 0)⟩ | ((try refine ⟨rfl, ?_⟩); (repeat apply Exists.intro); refine ⟨(RH.out 0), ?_⟩; ((repeat' apply And.intro) <;> rfl))
       ·obtain ⟨j, rfl⟩ : ∃ j, k = j + 1 := ⟨k - 1, by omega⟩
        obtain ⟨y, hy⟩ : ∃ y, af.l[j]? = some y := ⟨af.l[j]'(by have := halH.out; omega), List.getElem?_eq_getElem _⟩
        have d0 := cell_StrW (hslH.out.below hbw3) hy
        have hpr : prevS af.l (j + 1) = some y := by rw [prevS, if_neg (by omega), show j + 1 - 1 = j from rfl, hy]
        rw [hpr, Option.map_some] at hck
        clear hpr
        cases hle : sle s y
        ·have hle' : (Op.bytesLess s.toList y.toList || s.toList == y.toList) = false := hle
         rw [hle, if_neg (by decide)] at hck
         have R : ∀ nq, AftRel af.l c w2 (.int .i64 (j + 1 + 1)) (w3.drewN nq) := by
          refine fun nq => ⟨j + 1 + 1, hkl2H.out, by go_num, ?_, bel_drewN hb3 nq⟩
          rw [hpnH.out]
          exact hck
         clear hck
         have hleH := Lib.hid hle; have hyH := Lib.hid hy; have RH := Lib.hid R; have hb3H := Lib.hid hb3; have hbw3H := Lib.hid hbw3; clear hle hy R hb3 hbw3
         go_wp2
         refine ⟨?rel, ?measure⟩
         case measure => (simp [intOf]; omega)
         case rel => first | exact (RH.out 0) | exact ⟨rfl, (RH.out 0)⟩ | ((try refine ⟨rfl, ?_⟩); (repeat apply Exists.intro); refine ⟨(RH.out 0), ?_⟩; ((repeat' apply And.intro) <;> rfl))
        ·have hle' : (Op.bytesLess s.toList y.toList || s.toList == y.toList) = true := hle
         rw [hle, if_pos rfl] at hck
         have hleH := Lib.hid hle; have hckH := Lib.hid hck; have hyH := Lib.hid hy; have hb3H := Lib.hid hb3; have hbw3H := Lib.hid hbw3; clear hle hck hy hb3 hbw3
         go_wp2
         go_ret
         exact ⟨ret1_int hckH.out, hbw3H.out⟩
     ·have e : af.l.drop k = [] := List.drop_eq_nil_of_le (by have := halH.out; omega)
      rw [e] at hck
      have hc0 : 0 = c := by rw [← hck]; unfold afterErr; rfl
      have hckH := Lib.hid hck; have hbH := Lib.hid hb; have hbwH := Lib.hid hbw; have eH := Lib.hid e; have hc0H := Lib.hid hc0; clear hck hb hbw e hc0
      go_wp2
      go_ret
      exact ⟨ret1_int hc0H.out, hbwH.out⟩
   ·rw [if_neg i2] at hF
    have i2 : inR 1 1000000 sz = false := by simpa using i2
    have hFH := Lib.hid hF; clear hF
    go_wp2_with (go_at_call 43; refine (within_p _ _ _ _).mono ?_; rintro e wz ⟨rfl, rfl⟩)
    go_ret
    exact ⟨ret1_int hFH.out, hbw2H.out⟩
  ·have hF := hFH.out
   clear hFH
   rw [if_neg e2] at hF
   have e3 : (c2 != 0) = true := by simpa using e2
   clear q2 q3
   have hFH := Lib.hid hF; clear hF
   go_wp2
   go_ret
   exact ⟨ret1_int hFH.out, hbw2H.out⟩
end Go.Proofs.YtbnkoefljcekbaaGreatDoor.C9

namespace Go.Proofs.YtbnkoefljcekbaaGreatDoor.C9
open Go.RowKit Go.Shelf Go.Lib
set_option linter.unusedVariables false

def peq (x y : Pair) : Bool := decide (x.name = y.name) && decide (x.value = y.value)
def encP (x : Pair) : List Value := [.string x.name, .string x.value]
theorem eqPair : EqlAt Tryz.prog 120 (fun x => .agg (encP x).toArray) peq := by
 refine ⟨fun x y w => ?_, GuardAt.agg _ (by kernel_rfl)⟩
 have u9 := Tryz.underlying9
 have a9 := Tryz.isAgg9
 have z9 := Tryz.sizeOf9
 have hS : Tryz.prog.underlying 120 = some (.struct (Tryz.prog.fieldsOf 120)) := by kernel_rfl
 have hp : Tryz.prog.stoodInHeld 120 = false := by kernel_rfl
 simp only [encP]
 rw [run_eql_struct, show (10000 : Nat) = 9999 + 1 from rfl, run_equalIn_agg w 9999 120 _ _ hS hp]
 simp only [Program.fieldsOf, Tryz.underlying120]
 go_simp
 unfold peq
 have hne : ∀ a b : ByteArray, ¬ a = b → ¬ a.toList = b.toList := fun a b h e => h (by
  have := beq_data a b
  rw [e, beq_self_eq_true] at this
  exact of_decide_eq_true this.symm)
 by_cases h1 : x.name = y.name
 ·by_cases h2 : x.value = y.value
  ·simp [h1, h2]
  ·simp [h1, h2, hne _ _ h2]
 ·by_cases h2 : x.value = y.value
  ·simp [h1, h2, hne _ _ h1]
  ·simp [h1, h2, hne _ _ h1]

set_option maxHeartbeats 1000000 in
theorem idxP_empty (A : Option Addr) (c : Nat) (p : Pair) (w : World) :
  Calls Tryz.prog 142 #[.slice A 0 c, .agg #[.string p.name, .string p.value]] w fun e w' => e = .returned (.int .i64 (-1)) ∧ Below w.heap.size w w' := by
 have hba := (Below.refl w.heap.size w).alloc (Nat.le_refl _) (.cells #[.string p.name, .string p.value] 120)
 obtain ⟨W, hW⟩ : ∃ X, w.alloc (.cells #[.string p.name, .string p.value] 120) = X := ⟨_, rfl⟩
 rw [hW] at hba
 have hbaH := Lib.hid hba; have hWH := Lib.hid hW; clear hba hW
 go_enter Tryz.func142, Tryz.ntmps142
 go_wp2_with fail
 rw [hWH.out]
 go_loopw [8] (fun i wr => i = .int .i64 0 ∧ W = wr) (fun i _ => 0)
 case atStart => exact ⟨rfl, rfl⟩
 case round =>
  obtain ⟨rfl, rfl⟩ := hrel
  go_wp2
  go_ret
  exact ⟨rfl, hbaH.out⟩
set_option maxHeartbeats 1000000 in
theorem contP_any (A : Option Addr) (n c : Nat) (l : List Pair) (p : Pair) (w : World) (hl : SlAt RPair w A n l) (hn : n ≤ 9223372036854775807) :
  Calls Tryz.prog 96 #[.slice A n c, .agg #[.string p.name, .string p.value]] w fun e w' => e = .returned (.bool (l.any (peq p))) ∧ Below w.heap.size w w' := by
 by_cases h0 : n = 0
 ·subst h0
  obtain rfl : l = [] := List.eq_nil_of_length_eq_zero hl.1
  have hba := (Below.refl w.heap.size w).alloc (Nat.le_refl _) (.cells #[.string p.name, .string p.value] 120)
  have hbaH := Lib.hid hba; have hlH := Lib.hid hl; clear hba hl
  go_enter Tryz.func96, Tryz.ntmps96
  go_wp2_with fail
  refine (idxP_empty A c p _).mono ?_
  rintro e w1 ⟨rfl, hw1⟩
  have hb1 := hbaH.out.trans (hw1.mono hbaH.out.size)
  have hb1H := Lib.hid hb1; clear hb1
  go_wp2
  go_ret
  exact ⟨rfl, hb1H.out⟩
 ·obtain ⟨b, off, rfl, hc⟩ := hl.2.1 (by omega)
  have h := AnyQ.slices_Contains Tryz.containsQ 2 Tryz.isAgg120 Tryz.sizeOf120 encP (fun _ => rfl) peq eqPair b off n c l p w (by rw [hl.1]; exact Nat.le_refl _) hn (fun j hj i v hi => by
   rw [getElem!_pos l j hj] at hi
   exact hc j _ (List.getElem?_eq_getElem hj) i v hi)
  rw [List.take_of_length_le (by rw [hl.1]; exact Nat.le_refl _)] at h
  exact h

def fitF (nd has : List Pair) : Bool := nd.all (fun p => has.any (peq p))
def FitRel (nd has : List Pair) (b : Bool) (w0 : World) (i : Value) (wr : World) : Prop := ∃ k : Nat, k ≤ nd.length ∧ i = .int .i64 k ∧ fitF (nd.drop k) has = b ∧ Below w0.heap.size w0 wr


set_option maxHeartbeats 2000000 in
theorem fit_any (A : Option Addr) (n c : Nat) (nd : List Pair) (B : Option Addr) (m mc : Nat) (has : List Pair) (w : World) (hl : SlAt RPair w A n nd) (hn : n ≤ 9223372036854775807) (hh : SlAt RPair w B m has) (hm : m ≤ 9223372036854775807) (b : Bool) (hb : fitF nd has = b) :
  Calls Tryz.prog 51 #[.slice A n c, .slice B m mc] w fun e w' => e = .returned (.bool b) ∧ Below w.heap.size w w' := by
 have hll := hl.1
 have hlH := Lib.hid hl; have hhH := Lib.hid hh; have hbH := Lib.hid hb; clear hl hh hb
 go_enter Tryz.func51, Tryz.ntmps51
 go_wp2
 go_loopw [9] (fun i wr => FitRel nd has b w i wr) (fun i _ => n - (intOf i).toNat)
 case atStart => exact ⟨0, Nat.zero_le _, rfl, hbH.out, Below.refl _ _⟩
 case round =>
  obtain ⟨k, hk, rfl, hck, hb⟩ := hrel
  have hbs := hb.size
  have hkl : k ≤ n := by have := hll; omega
  skip
  by_cases hlt : k < n
  ·obtain ⟨b0, off, hA, _⟩ := hlH.out.2.1 (by omega)
   subst hA
   obtain ⟨x, hx⟩ : ∃ x, nd[k]? = some x := ⟨nd[k]'(by have := hll; omega), List.getElem?_eq_getElem _⟩
   obtain ⟨c0, c1⟩ := cells_Pair (hlH.out.below hb) hx
   rw [drop_cons hx, fitF, List.all_cons] at hck
   have hkl2 : k + 1 ≤ nd.length := by have := hll; omega
   have hba := hb.alloc hbs (.cells #[.string x.name, .string x.value] 120)
   obtain ⟨t, ht⟩ : ∃ t, has.any (peq x) = t := ⟨_, rfl⟩
   rw [ht] at hck
   have hxH := Lib.hid hx; have hckH := Lib.hid hck; have hbH := Lib.hid hb; have hbaH := Lib.hid hba; have htH := Lib.hid ht; have hkl2H := Lib.hid hkl2; clear hx hck hb hba ht hkl2
   go_wp2_with fail
   refine (contP_any B m mc has x _ (hhH.out.below hbaH.out) hm).mono ?_
   rintro e w5 ⟨rfl, hw5⟩
   rw [htH.out]
   have hb5 := hbaH.out.trans (hw5.mono hbaH.out.size)
   clear hw5 c0 c1
   have hck := hckH.out
   clear hckH
   cases t
   ·have hbf : false = b := hck
    subst hbf
    clear hck
    have hb5H := Lib.hid hb5; clear hb5
    go_wp2
    go_ret
    exact ⟨rfl, hb5H.out⟩
   ·have R : FitRel nd has b w (.int .i64 (k + 1)) w5 := ⟨k + 1, hkl2H.out, by go_num, hck, hb5⟩
    clear hck
    have hb5H := Lib.hid hb5; have RH := Lib.hid R; clear hb5 R
    go_wp2
    refine ⟨?rel, ?measure⟩
    case measure => (simp [intOf]; omega)
    case rel => first | exact RH.out | exact ⟨rfl, RH.out⟩ | ((try refine ⟨rfl, ?_⟩); (repeat apply Exists.intro); refine ⟨RH.out, ?_⟩; ((repeat' apply And.intro) <;> rfl))
  ·have e : nd.drop k = [] := List.drop_eq_nil_of_le (by have := hll; omega)
   rw [e] at hck
   have hbt : true = b := hck
   subst hbt
   clear hck
   have hb5 := hb
   have hbH := Lib.hid hb; have hb5H := Lib.hid hb5; have eH := Lib.hid e; clear hb hb5 e
   go_wp2
   go_ret
   exact ⟨rfl, hb5H.out⟩

/-! ### Fits -/
end Go.Proofs.YtbnkoefljcekbaaGreatDoor.C9

namespace Go.Proofs.YtbnkoefljcekbaaGreatDoor.C9
open Go.RowKit
set_option linter.unusedVariables false

def secsF (x : Worker) (sz : Int) : Int := (sz + x.speed - 1) / x.speed
theorem secs_in (sz sp : Int) (h0 : 1 ≤ sz) (h1 : sz ≤ 1000000) (h2 : 1 ≤ sp) (h3 : sp ≤ 1000) : 1 ≤ (sz + sp - 1) / sp ∧ (sz + sp - 1) / sp ≤ 1000000 := by
 constructor
 ·exact (Int.le_ediv_iff_mul_le (by omega)).2 (by omega)
 ·have : (sz + sp - 1) / sp ≤ sz := by
   have h : (sz + sp - 1) < (sz + 1) * sp := by
    have : sz * 1 ≤ sz * sp := Int.mul_le_mul_of_nonneg_left h2 (by omega)
    rw [Int.add_mul]; omega
   have := (Int.ediv_lt_iff_lt_mul (a := sz + sp - 1) (b := sz + 1) (c := sp) (by omega)).2 h
   omega
  omega

/-- when a work ends that is begun then and takes so long -/
def endsGo : Int → Int → List Span → Int
 | L, T, [] => T + L
 | L, T, s :: r => if s.to_ ≤ T then endsGo L T r else if T < s.from_ then (if L ≤ s.from_ - T then T + L else endsGo (L - (s.from_ - T)) s.to_ r) else endsGo L s.to_ r
def endsF (x : Worker) (sz fm : Int) : Int × Bool := if fm < x.from_ then (0, false) else if x.to_ < endsGo (secsF x sz) fm x.stands.l then (0, false) else (endsGo (secsF x sz) fm x.stands.l, true)
def SpansIn (l : List Span) : Prop := ∀ s ∈ l, (0 ≤ s.from_ ∧ s.from_ ≤ 1000000000) ∧ 0 ≤ s.to_ ∧ s.to_ ≤ 1000000000

def EndsRel (l : List Span) (c fm : Int) (w0 : World) (lf tm i : Value) (wr : World) : Prop :=
 ∃ (L T : Int) (k : Nat), lf = .int .i64 L ∧ tm = .int .i64 T ∧ i = .int .i64 k ∧ k ≤ l.length ∧ 1 ≤ L ∧ L ≤ 1000000 ∧ 0 ≤ T ∧ T ≤ 1000000000 ∧ endsGo L T (l.drop k) = endsGo c fm l ∧ Below w0.heap.size w0 wr

set_option maxHeartbeats 1000000 in
theorem secs (x : Worker) (sz : Int) (w : World) (h0 : 1 ≤ sz) (h1 : sz ≤ 1000000) (h2 : 1 ≤ x.speed) (h3 : x.speed ≤ 1000) (c : Int) (hc : secsF x sz = c) :
  Calls Tryz.prog 94 #[.agg #[.string x.name, .slice x.has.A x.has.n x.has.cap, .int .i64 x.slots, .int .i64 x.speed, .int .i64 x.from_, .int .i64 x.to_, .slice x.stands.A x.stands.n x.stands.cap], .int .i64 sz] w fun e w' =>
   e = .returned (.int .i64 c) ∧ Below w.heap.size w w' := by
 obtain ⟨nm, has, sl, sp, fr, tz, st⟩ := x
 simp only [secsF] at h2 h3 hc ⊢
 have hba := (Below.refl w.heap.size w).alloc (Nat.le_refl _) (.cells #[.string nm, .slice has.A has.n has.cap, .int .i64 sl, .int .i64 sp, .int .i64 fr, .int .i64 tz, .slice st.A st.n st.cap] 84)
 have hbaH := Lib.hid hba; have hcH := Lib.hid hc; clear hba hc
 go_enter Tryz.func94, Tryz.ntmps94
 go_wp2
 go_ret
 exact ⟨ret1_int (by have := hcH.out; omega), hbaH.out⟩

set_option maxRecDepth 100000 in
set_option maxHeartbeats 2000000 in
theorem ends_any (x : Worker) (sz fm : Int) (w : World) (hok : RWorker.ok w x) (h0 : 1 ≤ sz) (h1 : sz ≤ 1000000) (h2 : 1 ≤ x.speed) (h3 : x.speed ≤ 1000) (h4 : 0 ≤ fm) (h5 : fm ≤ 1000000000) (hs : SpansIn x.stands.l) (a : Int) (b : Bool) (hE : endsF x sz fm = (a, b)) :
  Calls Tryz.prog 163 #[.agg #[.string x.name, .slice x.has.A x.has.n x.has.cap, .int .i64 x.slots, .int .i64 x.speed, .int .i64 x.from_, .int .i64 x.to_, .slice x.stands.A x.stands.n x.stands.cap], .int .i64 sz, .int .i64 fm] w fun e w' =>
   e = .returned (.tuple #[.int .i64 a, .bool b]) ∧ Below w.heap.size w w' := by
 obtain ⟨nm, has, sl, sp, fr, tz, st⟩ := x
 obtain ⟨o0, o1, o2, o3, o4, o5, o6⟩ := hok
 simp only at o0 o1 o2 o3 o4 o5 o6 hE h2 h3 hs ⊢
 obtain ⟨A, len, cap, l⟩ := st
 obtain ⟨hl, hcp, hcm, _⟩ := o6
 simp only at hl hs hcp hcm ⊢
 have hlen : len ≤ 9223372036854775807 := by unfold maxLen at hcm; omega
 clear hcp hcm
 have hll := hl.1
 have hba := (Below.refl w.heap.size w).alloc (Nat.le_refl _) (.cells #[.string nm, .slice has.A has.n has.cap, .int .i64 sl, .int .i64 sp, .int .i64 fr, .int .i64 tz, .slice A len cap] 84)
 have hbas := hba.size
 obtain ⟨o4a, o4b⟩ := o4
 obtain ⟨o5a, o5b⟩ := o5
 have o0H := Lib.hid o0; have o1H := Lib.hid o1; have o2H := Lib.hid o2; have o3H := Lib.hid o3; have hlH := Lib.hid hl; have hllH := Lib.hid hll; have hEH := Lib.hid hE; have hsH := Lib.hid hs; have hbaH := Lib.hid hba; have hbasH := Lib.hid hbas; clear o0 o1 o2 o3 hl hll hE hs hba hbas
 by_cases hf : fm < fr
 ·have hE := hEH.out
  simp only [endsF, if_pos hf, Prod.mk.injEq] at hE
  obtain ⟨rfl, rfl⟩ := hE
  clear hEH
  go_enter Tryz.func163, Tryz.ntmps163
  go_wp2
  go_ret2
  exact ⟨rfl, hbaH.out⟩
 ·obtain ⟨c, hc⟩ : ∃ c, secsF ⟨nm, has, sl, sp, fr, tz, ⟨A, len, cap, l⟩⟩ sz = c := ⟨_, rfl⟩
  have hE := hEH.out
  simp only [endsF, if_neg hf, hc] at hE
  obtain ⟨c1, c2⟩ := secs_in sz sp h0 h1 h2 h3
  have hcc : (sz + sp - 1) / sp = c := hc
  rw [hcc] at c1 c2
  clear hEH
  have hEH := Lib.hid hE; have hccH := Lib.hid hcc; clear hE hcc
  go_enter Tryz.func163, Tryz.ntmps163
  go_wp2_with fail
  refine (secs ⟨nm, has, sl, sp, fr, tz, ⟨A, len, cap, l⟩⟩ sz _ h0 h1 h2 h3 c hc).mono ?_
  rintro e w1 ⟨rfl, hw1⟩
  have q4 := (hw1.cell (by simp)).trans (cell_new w _ _ 4)
  have q5 := (hw1.cell (by simp)).trans (cell_new w _ _ 5)
  have q6 := (hw1.cell (by simp)).trans (cell_new w _ _ 6)
  have hbw1 := hbaH.out.trans (hw1.mono hbasH.out)
  have hz1 : w.heap.size < w1.heap.size := by have := hw1.size; simp at this; omega
  simp only [List.getElem?_toArray, List.getElem?_cons_succ, List.getElem?_cons_zero] at q4 q5 q6
  have hb11 := Below.refl w1.heap.size w1
  have hw1H := Lib.hid hw1; have hbw1H := Lib.hid hbw1; have hcH := Lib.hid hc; have hb11H := Lib.hid hb11; have q4H := Lib.hid q4; have q5H := Lib.hid q5; clear hw1 hbw1 hc hb11 q4 q5
  go_wp2_with fail
  clear q6
  go_loopw [8, 9, 23] (fun lf tm i wr => EndsRel l c fm w1 lf tm i wr) (fun _ _ i _ => len - (intOf i).toNat)
  case atStart => exact ⟨c, fm, 0, rfl, rfl, rfl, Nat.zero_le _, c1, c2, h4, h5, rfl, hb11H.out⟩
  case round =>
   obtain ⟨L, T, k, rfl, rfl, rfl, hk, hL0, hL1, hT0, hT1, hgo, hb⟩ := hrel
   have hkl : k ≤ len := by have := hllH.out; omega
   have hbs := hb.size
   have q4 := (hb.cell hz1).trans q4H.out
   have q5 := (hb.cell hz1).trans q5H.out
   by_cases hlt : k < len
   ·obtain ⟨b0, off, hA, _⟩ := hlH.out.2.1 (by omega)
    subst hA
    obtain ⟨y, hy⟩ : ∃ y, l[k]? = some y := ⟨l[k]'(by have := hllH.out; omega), List.getElem?_eq_getElem _⟩
    have hbw := hbw1H.out.trans (hb.mono hbw1H.out.size)
    obtain ⟨d0, d1⟩ := cells_Span (hlH.out.below hbw) hy
    obtain ⟨⟨i0, i1⟩, i2, i3⟩ := hsH.out y (List.mem_of_getElem? hy)
    rw [drop_cons hy, endsGo] at hgo
    obtain ⟨yf, yt⟩ := y
    simp only at d0 d1 hgo i0 i1 i2 i3
    have hba2 := hb.alloc hbs (.cells #[.int .i64 yf, .int .i64 yt] 202)
    have hkl2 : k + 1 ≤ l.length := by have := hllH.out; omega
    clear q4 q5
    have hbH := Lib.hid hb; have hbwH := Lib.hid hbw; have hba2H := Lib.hid hba2; have hyH := Lib.hid hy; clear hb hbw hba2 hy
    by_cases e1 : yt ≤ T
    ·rw [if_pos e1] at hgo
     have R : EndsRel l c fm w1 (.int .i64 L) (.int .i64 T) (.int .i64 (k + 1)) (wr.alloc (.cells #[.int .i64 yf, .int .i64 yt] 202)) :=
      ⟨L, T, k + 1, rfl, rfl, by go_num, hkl2, hL0, hL1, hT0, hT1, hgo, hba2H.out⟩
     have hgoH := Lib.hid hgo; have RH := Lib.hid R; clear hgo R
     go_wp2
     refine ⟨?rel, ?measure⟩
     case measure => (simp [intOf]; omega)
     case rel => first | exact RH.out | exact ⟨rfl, RH.out⟩ | ((try refine ⟨rfl, ?_⟩); (repeat apply Exists.intro); refine ⟨RH.out, ?_⟩; ((repeat' apply And.intro) <;> rfl))
    ·rw [if_neg e1] at hgo
     have e1' : decide (yt ≤ T) = false := decide_eq_false e1
     by_cases e2 : T < yf
     ·rw [if_pos e2] at hgo
      by_cases e3 : L ≤ yf - T
      ·rw [if_pos e3] at hgo
       have hgoH := Lib.hid hgo; clear hgo
       have q5 := (hba2H.out.cell hz1).trans q5H.out
       have hE := hEH.out
       rw [← hgoH.out] at hE
       clear hEH hgoH
       by_cases hto : tz < T + L
       ·rw [if_pos hto, Prod.mk.injEq] at hE
        obtain ⟨rfl, rfl⟩ := hE
        go_wp2
        go_ret2
        exact ⟨rfl, hbw1H.out.trans (hba2H.out.mono hbw1H.out.size)⟩
       ·rw [if_neg hto, Prod.mk.injEq] at hE
        obtain ⟨rfl, rfl⟩ := hE
        have hto2 : decide (tz < T + L) = false := decide_eq_false hto
        go_wp2
        go_ret2
        exact ⟨rfl, hbw1H.out.trans (hba2H.out.mono hbw1H.out.size)⟩
      ·rw [if_neg e3] at hgo
       have e3' : decide (L ≤ yf - T) = false := decide_eq_false e3
       have R : ∀ L' : Int, L' = L - (yf - T) → EndsRel l c fm w1 (.int .i64 L') (.int .i64 yt) (.int .i64 (k + 1)) (wr.alloc (.cells #[.int .i64 yf, .int .i64 yt] 202)) :=
        fun L' h => ⟨L', yt, k + 1, rfl, rfl, by go_num, hkl2, by omega, by omega, i2, i3, h ▸ hgo, hba2H.out⟩
       have hgoH := Lib.hid hgo; have RH := Lib.hid R; clear hgo R
       go_wp2
       refine ⟨?rel, ?measure⟩
       case measure => (simp [intOf]; omega)
       case rel => first | exact (RH.out _ (by omega)) | exact ⟨rfl, (RH.out _ (by omega))⟩ | ((try refine ⟨rfl, ?_⟩); (repeat apply Exists.intro); refine ⟨(RH.out _ (by omega)), ?_⟩; ((repeat' apply And.intro) <;> rfl))
     ·rw [if_neg e2] at hgo
      have e2' : decide (T < yf) = false := decide_eq_false e2
      have R : ∀ L' : Int, L' = L → EndsRel l c fm w1 (.int .i64 L') (.int .i64 yt) (.int .i64 (k + 1)) (wr.alloc (.cells #[.int .i64 yf, .int .i64 yt] 202)) :=
       fun L' h => ⟨L', yt, k + 1, rfl, rfl, by go_num, hkl2, by omega, by omega, i2, i3, h ▸ hgo, hba2H.out⟩
      have hgoH := Lib.hid hgo; have RH := Lib.hid R; clear hgo R
      go_wp2
      refine ⟨?rel, ?measure⟩
      case measure => (simp [intOf]; omega)
      case rel => first | exact (RH.out _ (by omega)) | exact ⟨rfl, (RH.out _ (by omega))⟩ | ((try refine ⟨rfl, ?_⟩); (repeat apply Exists.intro); refine ⟨(RH.out _ (by omega)), ?_⟩; ((repeat' apply And.intro) <;> rfl))
   ·have e : l.drop k = [] := List.drop_eq_nil_of_le (by have := hllH.out; omega)
    rw [e, endsGo] at hgo
    have hbw := hbw1H.out.trans (hb.mono hbw1H.out.size)
    clear q4
    have hbH := Lib.hid hb; have eH := Lib.hid e; have hgoH := Lib.hid hgo; have hbwH := Lib.hid hbw; clear hb e hgo hbw
    have q5 := q5
    have hE := hEH.out
    rw [← hgoH.out] at hE
    clear hEH hgoH
    by_cases hto : tz < T + L
    ·rw [if_pos hto, Prod.mk.injEq] at hE
     obtain ⟨rfl, rfl⟩ := hE
     go_wp2
     go_ret2
     exact ⟨rfl, hbwH.out⟩
    ·rw [if_neg hto, Prod.mk.injEq] at hE
     obtain ⟨rfl, rfl⟩ := hE
     have hto2 : decide (tz < T + L) = false := decide_eq_false hto
     go_wp2
     go_ret2
     exact ⟨rfl, hbwH.out⟩
end Go.Proofs.YtbnkoefljcekbaaGreatDoor.C9

namespace Go.Proofs.YtbnkoefljcekbaaGreatDoor.C9
open Go.RowKit
set_option linter.unusedVariables false

set_option maxHeartbeats 1000000 in
theorem workAt1_any (x : Work) (s : ByteArray) (w : World) :
  Calls Tryz.prog 101 #[.agg #[.string x.id_, .slice x.needs.A x.needs.n x.needs.cap, .int .i64 x.size, .slice x.after.A x.after.n x.after.cap], .string s] w fun e w' => e = .returned (.int .i64 (cmpS x.id_ s)) ∧ Below w.heap.size w w' := by
 have hba := (Below.refl w.heap.size w).alloc (Nat.le_refl _) (.cells #[.string x.id_, .slice x.needs.A x.needs.n x.needs.cap, .int .i64 x.size, .slice x.after.A x.after.n x.after.cap] 86)
 have hbaH := Lib.hid hba; clear hba
 go_enter Tryz.func101, Tryz.ntmps101
 go_wp2_with (go_at_call 42; refine (Tryz.strings_Compare _ _ _).mono ?_; rintro e w1 ⟨rfl, rfl⟩)
 go_ret
 exact ⟨rfl, hbaH.out⟩

theorem split_lt (s : ByteArray) : ∀ (l : List Work), (l.Pairwise fun a b => cmpS a.id_ b.id_ = -1) → ∃ k0, k0 ≤ l.length ∧ (∀ t x, l[t]? = some x → t < k0 → cmpS x.id_ s = -1) ∧ (∀ t x, l[t]? = some x → k0 ≤ t → cmpS x.id_ s ≠ -1)
 | [], _ => ⟨0, Nat.le_refl _, fun t x h => by simp at h, fun t x h => by simp at h⟩
 | y :: r, h => by
  rw [List.pairwise_cons] at h
  by_cases hy : cmpS y.id_ s = -1
  ·obtain ⟨k, hk, h1, h2⟩ := split_lt s r h.2
   refine ⟨k + 1, by rw [List.length_cons]; omega, fun t x hx ht => ?_, fun t x hx ht => ?_⟩
   ·cases t with
    | zero => simp at hx; subst hx; exact hy
    | succ t => exact h1 t x (by simpa using hx) (by omega)
   ·cases t with
    | zero => omega
    | succ t => exact h2 t x (by simpa using hx) (by omega)
  ·refine ⟨0, Nat.zero_le _, fun t x _ ht => by omega, fun t x hx _ => ?_⟩
   cases t with
   | zero => simp at hx; subst hx; exact hy
   | succ t =>
    intro hc
    exact hy (cmpS_trans (h.1 x (List.mem_of_getElem? (by simpa using hx))) hc)

def BsRel (k0 n : Nat) (w0 : World) (vi vj : Value) (wr : World) : Prop := ∃ i j : Nat, vi = .int .i64 i ∧ vj = .int .i64 j ∧ i ≤ k0 ∧ k0 ≤ j ∧ j ≤ n ∧ Below w0.heap.size w0 wr

set_option maxHeartbeats 4000000 in
theorem bsf_work (A : Option Addr) (n c : Nat) (l : List Work) (s : ByteArray) (w : World) (hn : n ≤ 1000) (hl : SlAt RWork w A n l) (hr : l.Pairwise fun a b => cmpS a.id_ b.id_ = -1) :
  Calls Tryz.prog 100 #[.slice A n c, .string s, .func (.func 101) #[] #[]] w fun e w' =>
   ∃ i : Nat, e = .returned (.tuple #[.int .i64 i, .bool (hasId l s)]) ∧ (hasId l s = true → i = ixOf l s) ∧ Below w.heap.size w w' := by
 have hll := hl.1
 have eg : ∀ args w, (callFunc 101 args).run Tryz.prog w = .ok (.enter 101 args) w := enters_of Tryz.func101 (by kernel_rfl) rfl
 obtain ⟨k0, hk0, hlo, hhi⟩ := split_lt s l hr
 have hno : (∀ (t : Nat) (x : Work), l[t]? = some x → x.id_ ≠ s) → hasId l s = false := fun h => by
  rw [hasId, List.any_eq_false]
  intro x hx
  obtain ⟨t, ht, rfl⟩ := List.getElem_of_mem hx
  simpa using h t _ (List.getElem?_eq_getElem ht)
 obtain ⟨f, hf⟩ : ∃ f, hasId l s = f := ⟨_, rfl⟩
 rw [hf]
 have hlH := Lib.hid hl; have hllH := Lib.hid hll; have hrH := Lib.hid hr; have hloH := Lib.hid hlo; have hhiH := Lib.hid hhi; have hnoH := Lib.hid hno; have hfH := Lib.hid hf; clear hl hll hr hlo hhi hno hf
 go_enter Tryz.func100, Tryz.ntmps100
 go_wp2
 go_loopw [9, 10] (fun vi vj wr => BsRel k0 n w vi vj wr) (fun vi vj _ => (intOf vj).toNat - (intOf vi).toNat)
 case atStart => exact ⟨0, n, rfl, rfl, Nat.zero_le _, by have := hllH.out; omega, Nat.le_refl _, Below.refl _ _⟩
 case round =>
  obtain ⟨i, j, rfl, rfl, hi, hj, hjn, hb⟩ := hrel
  have hbs := hb.size
  by_cases hlt : i < j
  ·obtain ⟨b, off, hA, _⟩ := hlH.out.2.1 (by omega)
   subst hA
   obtain ⟨x, hx⟩ : ∃ x, l[(i + j) / 2]? = some x := ⟨l[(i + j) / 2]'(by have := hllH.out; omega), List.getElem?_eq_getElem _⟩
   obtain ⟨c0, c1, c2, c3⟩ := cells_Work (hlH.out.below hb) hx
   have e1 : ((i : Int) + (j : Int)) / 2 = (((i + j) / 2 : Nat) : Int) := by omega
   by_cases hc : cmpS x.id_ s = -1
   ·have hneg : (cmpS x.id_ s < 0) = True := by rw [hc]; decide
    have hik : (i + j) / 2 < k0 := by
     rcases Nat.lt_or_ge ((i + j) / 2) k0 with h | h
     ·exact h
     ·exact absurd hc (hhiH.out _ x hx h)
    have R : ∀ w', Below wr.heap.size wr w' → BsRel k0 n w (.int .i64 (((i : Int) + (j : Int)) / 2 + 1)) (.int .i64 j) w' := fun w' h => ⟨(i + j) / 2 + 1, j, by rw [e1]; rfl, rfl, by omega, hj, hjn, hb.trans (h.mono hbs)⟩
    obtain ⟨cx, hcx⟩ : ∃ c, cmpS x.id_ s = c := ⟨_, rfl⟩
    rw [hcx] at hc
    subst hc
    clear hneg
    have hxH := Lib.hid hx; have hbH := Lib.hid hb; have e1H := Lib.hid e1; have RH := Lib.hid R; have hikH := Lib.hid hik; have hcxH := Lib.hid hcx; clear hx hb e1 R hik hcx
    go_wp2_with (go_at_fn 101; refine (workAt1_any x s _).mono ?_; rintro e w' ⟨rfl, hb'⟩; rw [hcxH.out]; have hb'H := Lib.hid hb'; clear hb')
    refine ⟨?rel, ?measure⟩
    case measure => simp [intOf]; omega
    case rel => exact RH.out _ hb'H.out
   ·have hik : k0 ≤ (i + j) / 2 := by
     rcases Nat.lt_or_ge ((i + j) / 2) k0 with h | h
     ·exact absurd (hloH.out _ x hx h) hc
     ·exact h
    obtain ⟨cx, hcx⟩ : ∃ c, cmpS x.id_ s = c := ⟨_, rfl⟩
    have hcr := cmpS_range x.id_ s
    rw [hcx] at hc hcr
    have hnn : decide (cx < 0) = false := decide_eq_false (by omega)
    have R : ∀ w', Below wr.heap.size wr w' → BsRel k0 n w (.int .i64 i) (.int .i64 (((i : Int) + (j : Int)) / 2)) w' := fun w' h => ⟨i, (i + j) / 2, rfl, by rw [e1], hi, hik, by omega, hb.trans (h.mono hbs)⟩
    clear hcr hc
    have hxH := Lib.hid hx; have hbH := Lib.hid hb; have e1H := Lib.hid e1; have RH := Lib.hid R; have hikH := Lib.hid hik; have hcxH := Lib.hid hcx; clear hx hb e1 R hik hcx
    go_wp2_with (go_at_fn 101; refine (workAt1_any x s _).mono ?_; rintro e w' ⟨rfl, hb'⟩; rw [hcxH.out]; have hb'H := Lib.hid hb'; clear hb')
    refine ⟨?rel, ?measure⟩
    case measure => simp [intOf]; omega
    case rel => exact RH.out _ hb'H.out
  ·have hij : i = k0 := by omega
   have hjk : j = k0 := by omega
   subst hij
   subst hjk
   by_cases hkn : j < n
   ·obtain ⟨b, off, hA, _⟩ := hlH.out.2.1 (by omega)
    subst hA
    obtain ⟨x, hx⟩ : ∃ x, l[j]? = some x := ⟨l[j]'(by have := hllH.out; omega), List.getElem?_eq_getElem _⟩
    obtain ⟨c0, c1, c2, c3⟩ := cells_Work (hlH.out.below hb) hx
    have hf := hfH.out
    clear hfH
    have hfx : f = decide (x.id_ = s) ∧ (f = true → j = ixOf l s) := by
     by_cases hxs : x.id_ = s
     ·have := ixOf_eq hrH.out hx
      rw [hxs] at this
      rw [← hf]
      exact ⟨by rw [this.2, decide_eq_true hxs], fun _ => this.1.symm⟩
     ·have h0 : hasId l s = false := hnoH.out fun t y hy hys => by
       rcases Nat.lt_or_ge t j with h | h
       ·have := hloH.out t y hy h
        rw [hys, (cmpS_zero _ _).2 rfl] at this; cases this
       ·rcases Nat.eq_or_lt_of_le h with h | h
        ·subst h; rw [hx] at hy; injection hy with hy; exact hxs (by rw [hy]; exact hys)
        ·obtain ⟨h1, e1⟩ := List.getElem?_eq_some_iff.1 hx
         obtain ⟨h2, e2⟩ := List.getElem?_eq_some_iff.1 hy
         have := List.pairwise_iff_getElem.1 hrH.out j t h1 h2 h
         rw [e1, e2, hys] at this
         exact hhiH.out j x hx (Nat.le_refl _) this
      rw [h0] at hf
      subst hf
      exact ⟨by rw [decide_eq_false hxs], fun h => by cases h⟩
    obtain ⟨cx, hcx⟩ : ∃ c, cmpS x.id_ s = c := ⟨_, rfl⟩
    have hcf : (cx == 0) = f := by
     rw [hfx.1, ← hcx, Bool.eq_iff_iff, beq_iff_eq, decide_eq_true_iff]
     exact cmpS_zero _ _
    have hfx2 := hfx.2
    clear hfx
    have hxH := Lib.hid hx; have hbH := Lib.hid hb; have hfH := Lib.hid hf; have hcxH := Lib.hid hcx; have hfx2H := Lib.hid hfx2; clear hx hb hf hcx hfx2
    cases f
    all_goals
     go_wp2_with (go_at_fn 101; refine (workAt1_any x s _).mono ?_; rintro e w' ⟨rfl, hb'⟩; rw [hcxH.out]; have hb'H := Lib.hid hb'; clear hb')
     go_ret2
     first
      | exact ⟨j, rfl, (fun h => hfx2H.out h), hbH.out.trans (hb'H.out.mono hbH.out.size)⟩
      | exact ⟨j, rfl, hfx2H.out trivial, hbH.out.trans (hb'H.out.mono hbH.out.size)⟩
   ·have h0 : hasId l s = false := hnoH.out fun t y hy hys => by
     have h1 := (List.getElem?_eq_some_iff.1 hy).1
     have := hloH.out t y hy (by have := hllH.out; omega)
     rw [hys, (cmpS_zero _ _).2 rfl] at this; cases this
    obtain rfl : false = f := by rw [← h0, hfH.out]
    have hbH := Lib.hid hb; have h0H := Lib.hid h0; clear hb h0
    go_wp2_with fail
    go_ret2
    exact ⟨j, rfl, (fun h => nomatch h), hbH.out⟩

theorem workAt_any (A : Option Addr) (n c : Nat) (l : List Work) (s : ByteArray) (w : World) (hn : n ≤ 1000) (hl : SlAt RWork w A n l) (hr : l.Pairwise fun a b => cmpS a.id_ b.id_ = -1) :
  Calls Tryz.prog 62 #[.slice A n c, .string s] w fun e w' =>
   ∃ i : Nat, e = .returned (.tuple #[.int .i64 i, .bool (hasId l s)]) ∧ (hasId l s = true → i = ixOf l s) ∧ Below w.heap.size w w' := by
 have hlH := Lib.hid hl; have hrH := Lib.hid hr; clear hl hr
 go_enter Tryz.func62, Tryz.ntmps62
 go_wp2_with fail
 refine (bsf_work A n c l s _ hn hlH.out hrH.out).mono ?_
 rintro e w1 ⟨i, rfl, hi, hb⟩
 have hiH := Lib.hid hi; have hbH := Lib.hid hb; clear hi hb
 go_wp2
 go_ret2
 exact ⟨i, rfl, hiH.out, hbH.out⟩

end Go.Proofs.YtbnkoefljcekbaaGreatDoor.C9
