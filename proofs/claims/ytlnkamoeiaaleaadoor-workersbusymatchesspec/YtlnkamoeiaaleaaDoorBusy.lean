/-
  Busy, of the program and of the reference.
-/
import Derived.Test.YtlnkamoeiaaleaaDoorRCheckRuns
namespace Go.Proofs.YtlnkamoeiaaleaaDoor
open Go.RowKit
set_option linter.unusedVariables false

def busy1 (wk : ByteArray) (fm to : Int) (r : Run) : Int := if r.worker = wk then max 0 (min r.to_ to - max r.from_ fm) else 0
def busySum (wk : ByteArray) (fm to : Int) : List Run → Int
  | [] => 0
  | r :: s => busy1 wk fm to r + busySum wk fm to s
def busyR (l : List Run) (wk : ByteArray) (fm to : Int) : Int × Int :=
  if runsF l = 0 then (if wordB wk = true then (if inR 0 1000000000 fm = true ∧ inR 0 1000000000 to = true then (busySum wk fm to l, 0) else (0, 1)) else (0, 5)) else (0, runsF l)

def RunsIn (l : List Run) : Prop := ∀ r ∈ l, (0 ≤ r.from_ ∧ r.from_ ≤ 1000000000) ∧ (0 ≤ r.to_ ∧ r.to_ ≤ 1000000000) ∧ r.from_ ≤ r.to_ ∧ (1 ≤ r.end_ ∧ r.end_ ≤ 3) ∧ wordB r.id_ = true ∧ wordB r.worker = true
theorem runsErr_in : ∀ (l : List Run) (p : Option Run), runsErr p l = 0 → RunsIn l
  | [], _, _ => fun s h => by cases h
  | s :: r, p, h => by
    rw [runsErr] at h
    split at h
    · rename_i h0
      split at h
      · rename_i h1
        split at h
        · cases h
        · rename_i h2
          split at h
          · rename_i h3
            split at h
            · cases h
            · intro y hy
              rcases List.mem_cons.1 hy with rfl | hy
              · exact ⟨inR_true h1.1, inR_true h1.2, by omega, inR_true h3, h0.1, h0.2⟩
              · exact runsErr_in r _ h y hy
          · cases h
      · cases h
    · cases h
theorem runs_good {l : List Run} (h : runsF l = 0) : RunsIn l ∧ l.length ≤ 4000 := by
  unfold runsF at h
  split at h
  · rename_i h0
    exact ⟨runsErr_in _ _ h, h0⟩
  · cases h
def BusyRel (wk : ByteArray) (fm to : Int) (l : List Run) (c : Int) (w0 : World) (sm i : Value) (wr : World) : Prop :=
  ∃ (S : Int) (k : Nat), k ≤ l.length ∧ sm = .int .i64 S ∧ i = .int .i64 k ∧ 0 ≤ S ∧ S ≤ k * 1000000000 ∧ S + busySum wk fm to (l.drop k) = c ∧ Below w0.heap.size w0 wr

set_option maxRecDepth 100000 in
set_option maxHeartbeats 2000000 in
theorem busy_any (A : Option Addr) (len cap : Nat) (l : List Run) (wk : ByteArray) (fm to : Int) (w : World) (hl : SlAt RRun w A len l) (hwk : wk.size ≤ maxLen) (c d : Int) (hF : busyR l wk fm to = (c, d)) :
    Calls Tryd.prog 13 #[.slice A len cap, .string wk, .int .i64 fm, .int .i64 to] w fun e w' => e = .returned (.tuple #[.int .i64 c, .int .i64 d]) ∧ Below w.heap.size w w' := by
  have hll := hl.1
  unfold busyR at hF
  obtain ⟨rf, hrf⟩ : ∃ rf, runsF l = rf := ⟨_, rfl⟩
  rw [hrf] at hF
  have hllH := Lib.hid hll
  clear hll
  have hFH := Lib.hid hF
  clear hF
  have hlH := Lib.hid hl
  clear hl
  have hwkH := Lib.hid hwk
  clear hwk
  have hrfH := Lib.hid hrf
  clear hrf
  go_enter Tryd.func13, Tryd.ntmps13
  go_wp2_with fail
  refine (runs_any A len cap l _ hlH.out rf hrfH.out).mono ?_
  rintro e w1 ⟨rfl, hb1⟩
  have hb1H := Lib.hid hb1
  clear hb1
  by_cases e0 : rf = 0
  · subst e0
    obtain ⟨hri, hlen⟩ := runs_good hrfH.out
    rw [hllH.out] at hlen
    have hF := hFH.out
    clear hFH
    rw [if_pos rfl] at hF
    obtain ⟨b1, hb⟩ : ∃ b, wordB wk = b := ⟨_, rfl⟩
    rw [hb] at hF
    have hFH := Lib.hid hF
    clear hF
    have hriH := Lib.hid hri
    clear hri
    have hbH := Lib.hid hb
    clear hb
    go_wp2_with fail
    refine (word_any wk b1 _ hwkH.out hbH.out).mono ?_
    rintro e w2 ⟨rfl, hw2⟩
    have hb2 := hb1H.out.trans (hw2.mono hb1H.out.size)
    have hw2H := Lib.hid hw2
    clear hw2
    have hb2H := Lib.hid hb2
    clear hb2
    cases b1
    · have hF := hFH.out
      clear hFH
      rw [if_neg (by decide), Prod.mk.injEq] at hF
      obtain ⟨rfl, rfl⟩ := hF
      go_wp2
      go_ret2
      exact ⟨rfl, hb2H.out⟩
    · have hF := hFH.out
      clear hFH
      rw [if_pos rfl] at hF
      by_cases i2 : inR 0 1000000000 fm = true
      · by_cases i3 : inR 0 1000000000 to = true
        · rw [if_pos ⟨i2, i3⟩, Prod.mk.injEq] at hF
          obtain ⟨hF, rfl⟩ := hF
          obtain ⟨m0, m1⟩ := inR_true i2
          obtain ⟨m2, m3⟩ := inR_true i3
          have hb22 := Below.refl w2.heap.size w2
          have hFH := Lib.hid hF
          clear hF
          have hb22H := Lib.hid hb22
          clear hb22
          go_wp2_with (first | (go_at_call 41; refine (within_p _ _ _ _).mono ?_; rintro e wz ⟨rfl, rfl⟩) | (go_at_call 36; refine (moment_p _ _).mono ?_; rintro e wz ⟨rfl, rfl⟩))
          go_loopw [11, 32] (fun sm i wr => BusyRel wk fm to l c wz sm i wr) (fun _ i _ => len - (intOf i).toNat)
          case atStart => exact ⟨0, 0, Nat.zero_le _, rfl, rfl, Int.le_refl _, by omega, by rw [Int.zero_add]; exact hFH.out, hb22H.out⟩
          case round =>
            obtain ⟨S, k, hk, rfl, rfl, hS0, hS1, hck, hb⟩ := hrel
            have hkl : k ≤ len := by have := hllH.out; omega
            have hbs := hb.size
            by_cases hlt : k < len
            · obtain ⟨b, off, hA, _⟩ := hlH.out.2.1 (by omega)
              subst hA
              obtain ⟨x, hx⟩ : ∃ x, l[k]? = some x := ⟨l[k]'(by have := hllH.out; omega), List.getElem?_eq_getElem _⟩
              have hbw := hb2H.out.trans (hb.mono hb2H.out.size)
              obtain ⟨c0, c1, c2, c3, c4⟩ := cells_Run (hlH.out.below hbw) hx
              obtain ⟨⟨n0, n1⟩, ⟨n2, n3⟩, n4, _⟩ := hriH.out x (List.mem_of_getElem? hx)
              rw [drop_cons hx, busySum, busy1] at hck
              have hkl2 : k + 1 ≤ l.length := by have := hllH.out; omega
              obtain ⟨id, wk2, fr, t2, en⟩ := x
              simp only at c0 c1 c2 c3 c4 hck n0 n1 n2 n3 n4
              have hba := hb.alloc hbs (.cells #[.string id, .string wk2, .int .i64 fr, .int .i64 t2, .int .i64 en] 66)
              have hbH := Lib.hid hb
              clear hb
              have hbwH := Lib.hid hbw
              clear hbw
              have hbaH := Lib.hid hba
              clear hba
              have hxH := Lib.hid hx
              clear hx
              by_cases hw : wk2 = wk
              · have hw1 : (wk2.toList == wk.toList) = true := by rw [beq_data, decide_eq_true hw]
                rw [if_pos hw] at hck
                clear hw
                have R : ∀ S' : Int, S' = S + max 0 (min t2 to - max fr fm) → BusyRel wk fm to l c wz (.int .i64 S') (.int .i64 (k + 1)) (wr.alloc (.cells #[.string id, .string wk2, .int .i64 fr, .int .i64 t2, .int .i64 en] 66)) :=
                  fun S' h => ⟨S', k + 1, hkl2, rfl, by go_num, by omega, by omega, by omega, hbaH.out⟩
                have hckH := Lib.hid hck
                clear hck
                have RH := Lib.hid R
                clear R
                go_wp2
                refine ⟨?rel, ?measure⟩
                case measure => (simp [intOf]; omega)
                case rel => first | exact (RH.out _ rfl) | exact ⟨rfl, (RH.out _ rfl)⟩ | ((try refine ⟨rfl, ?_⟩); (repeat apply Exists.intro); refine ⟨(RH.out _ rfl), ?_⟩; ((repeat' apply And.intro) <;> rfl))
              · have hw1 : (wk2.toList == wk.toList) = false := by rw [beq_data, decide_eq_false hw]
                rw [if_neg hw, Int.zero_add] at hck
                clear hw
                have R : BusyRel wk fm to l c wz (.int .i64 S) (.int .i64 (k + 1)) (wr.alloc (.cells #[.string id, .string wk2, .int .i64 fr, .int .i64 t2, .int .i64 en] 66)) :=
                  ⟨S, k + 1, hkl2, rfl, by go_num, by omega, by omega, hck, hbaH.out⟩
                have hckH := Lib.hid hck
                clear hck
                have RH := Lib.hid R
                clear R
                go_wp2
                refine ⟨?rel, ?measure⟩
                case measure => (simp [intOf]; omega)
                case rel => first | exact RH.out | exact ⟨rfl, RH.out⟩ | ((try refine ⟨rfl, ?_⟩); (repeat apply Exists.intro); refine ⟨RH.out, ?_⟩; ((repeat' apply And.intro) <;> rfl))
            · have e : l.drop k = [] := List.drop_eq_nil_of_le (by have := hllH.out; omega)
              rw [e, busySum, Int.add_zero] at hck
              have hbw := hb2H.out.trans (hb.mono hb2H.out.size)
              have hckH := Lib.hid hck
              clear hck
              have hbH := Lib.hid hb
              clear hb
              have eH := Lib.hid e
              clear e
              have hbwH := Lib.hid hbw
              clear hbw
              go_wp2
              go_ret2
              exact ⟨ret2_any (by rw [hckH.out]; rfl) rfl, hbwH.out⟩
        · rw [if_neg (fun h => i3 h.2), Prod.mk.injEq] at hF
          obtain ⟨rfl, rfl⟩ := hF
          have i3 : inR 0 1000000000 to = false := by simpa using i3
          go_wp2_with (first | (go_at_call 41; refine (within_p _ _ _ _).mono ?_; rintro e wz ⟨rfl, rfl⟩) | (go_at_call 36; refine (moment_p _ _).mono ?_; rintro e wz ⟨rfl, rfl⟩))
          go_ret2
          exact ⟨rfl, hb2H.out⟩
      · rw [if_neg (fun h => i2 h.1), Prod.mk.injEq] at hF
        obtain ⟨rfl, rfl⟩ := hF
        have i2 : inR 0 1000000000 fm = false := by simpa using i2
        go_wp2_with (first | (go_at_call 41; refine (within_p _ _ _ _).mono ?_; rintro e wz ⟨rfl, rfl⟩) | (go_at_call 36; refine (moment_p _ _).mono ?_; rintro e wz ⟨rfl, rfl⟩))
        go_ret2
        exact ⟨rfl, hb2H.out⟩
  · have hF := hFH.out
    clear hFH
    rw [if_neg e0, Prod.mk.injEq] at hF
    obtain ⟨rfl, rfl⟩ := hF
    have e1 : (rf != 0) = true := by simpa using e0
    go_wp2
    go_ret2
    exact ⟨rfl, hb1H.out⟩

set_option maxRecDepth 100000 in
set_option maxHeartbeats 2000000 in
theorem rbusy_any (A : Option Addr) (len cap : Nat) (l : List Run) (wk : ByteArray) (fm to : Int) (w : World) (hl : SlAt RRun w A len l) (hwk : wk.size ≤ maxLen) (c d : Int) (hF : busyR l wk fm to = (c, d)) :
    Calls Tryd.prog 14 #[.slice A len cap, .string wk, .int .i64 fm, .int .i64 to] w fun e w' => e = .returned (.tuple #[.int .i64 c, .int .i64 d]) ∧ Below w.heap.size w w' := by
  have hll := hl.1
  unfold busyR at hF
  obtain ⟨rf, hrf⟩ : ∃ rf, runsF l = rf := ⟨_, rfl⟩
  rw [hrf] at hF
  have hllH := Lib.hid hll
  clear hll
  have hFH := Lib.hid hF
  clear hF
  have hlH := Lib.hid hl
  clear hl
  have hwkH := Lib.hid hwk
  clear hwk
  have hrfH := Lib.hid hrf
  clear hrf
  go_enter Tryd.func14, Tryd.ntmps14
  go_wp2_with fail
  refine (rruns_any A len cap l _ hlH.out rf hrfH.out).mono ?_
  rintro e w1 ⟨rfl, hb1⟩
  have hb1H := Lib.hid hb1
  clear hb1
  by_cases e0 : rf = 0
  · subst e0
    obtain ⟨hri, hlen⟩ := runs_good hrfH.out
    rw [hllH.out] at hlen
    have hF := hFH.out
    clear hFH
    rw [if_pos rfl] at hF
    obtain ⟨b1, hb⟩ : ∃ b, wordB wk = b := ⟨_, rfl⟩
    rw [hb] at hF
    have hFH := Lib.hid hF
    clear hF
    have hriH := Lib.hid hri
    clear hri
    have hbH := Lib.hid hb
    clear hb
    go_wp2_with fail
    refine (rword_b wk b1 _ hwkH.out hbH.out).mono ?_
    rintro e w2 ⟨rfl, hw2⟩
    have hb2 := hb1H.out.trans (hw2.mono hb1H.out.size)
    have hw2H := Lib.hid hw2
    clear hw2
    have hb2H := Lib.hid hb2
    clear hb2
    cases b1
    · have hF := hFH.out
      clear hFH
      rw [if_neg (by decide), Prod.mk.injEq] at hF
      obtain ⟨rfl, rfl⟩ := hF
      go_wp2
      go_ret2
      exact ⟨rfl, hb2H.out⟩
    · have hF := hFH.out
      clear hFH
      rw [if_pos rfl] at hF
      by_cases i2 : inR 0 1000000000 fm = true
      · by_cases i3 : inR 0 1000000000 to = true
        · rw [if_pos ⟨i2, i3⟩, Prod.mk.injEq] at hF
          obtain ⟨hF, rfl⟩ := hF
          obtain ⟨m0, m1⟩ := inR_true i2
          obtain ⟨m2, m3⟩ := inR_true i3
          have hb22 := Below.refl w2.heap.size w2
          have hFH := Lib.hid hF
          clear hF
          have hb22H := Lib.hid hb22
          clear hb22
          go_wp2_with (go_at_call 34; refine (within_r _ _ _ _).mono ?_; rintro e wz ⟨rfl, rfl⟩)
          go_loopw [11, 32] (fun sm i wr => BusyRel wk fm to l c wz sm i wr) (fun _ i _ => len - (intOf i).toNat)
          case atStart => exact ⟨0, 0, Nat.zero_le _, rfl, rfl, Int.le_refl _, by omega, by rw [Int.zero_add]; exact hFH.out, hb22H.out⟩
          case round =>
            obtain ⟨S, k, hk, rfl, rfl, hS0, hS1, hck, hb⟩ := hrel
            have hkl : k ≤ len := by have := hllH.out; omega
            have hbs := hb.size
            by_cases hlt : k < len
            · obtain ⟨b, off, hA, _⟩ := hlH.out.2.1 (by omega)
              subst hA
              obtain ⟨x, hx⟩ : ∃ x, l[k]? = some x := ⟨l[k]'(by have := hllH.out; omega), List.getElem?_eq_getElem _⟩
              have hbw := hb2H.out.trans (hb.mono hb2H.out.size)
              obtain ⟨c0, c1, c2, c3, c4⟩ := cells_Run (hlH.out.below hbw) hx
              obtain ⟨⟨n0, n1⟩, ⟨n2, n3⟩, n4, _⟩ := hriH.out x (List.mem_of_getElem? hx)
              rw [drop_cons hx, busySum, busy1] at hck
              have hkl2 : k + 1 ≤ l.length := by have := hllH.out; omega
              obtain ⟨id, wk2, fr, t2, en⟩ := x
              simp only at c0 c1 c2 c3 c4 hck n0 n1 n2 n3 n4
              have hba := hb.alloc hbs (.cells #[.string id, .string wk2, .int .i64 fr, .int .i64 t2, .int .i64 en] 66)
              have hbH := Lib.hid hb
              clear hb
              have hbwH := Lib.hid hbw
              clear hbw
              have hbaH := Lib.hid hba
              clear hba
              have hxH := Lib.hid hx
              clear hx
              by_cases hw : wk2 = wk
              · have hw1 : (wk2.toList == wk.toList) = true := by rw [beq_data, decide_eq_true hw]
                rw [if_pos hw] at hck
                clear hw
                have R : ∀ S' : Int, S' = S + max 0 (min t2 to - max fr fm) → BusyRel wk fm to l c wz (.int .i64 S') (.int .i64 (k + 1)) (wr.alloc (.cells #[.string id, .string wk2, .int .i64 fr, .int .i64 t2, .int .i64 en] 66)) :=
                  fun S' h => ⟨S', k + 1, hkl2, rfl, by go_num, by omega, by omega, by omega, hbaH.out⟩
                have hckH := Lib.hid hck
                clear hck
                have RH := Lib.hid R
                clear R
                go_wp2
                refine ⟨?rel, ?measure⟩
                case measure => (simp [intOf]; omega)
                case rel => first | exact (RH.out _ rfl) | exact ⟨rfl, (RH.out _ rfl)⟩ | ((try refine ⟨rfl, ?_⟩); (repeat apply Exists.intro); refine ⟨(RH.out _ rfl), ?_⟩; ((repeat' apply And.intro) <;> rfl))
              · have hw1 : (wk2.toList == wk.toList) = false := by rw [beq_data, decide_eq_false hw]
                rw [if_neg hw, Int.zero_add] at hck
                clear hw
                have R : BusyRel wk fm to l c wz (.int .i64 S) (.int .i64 (k + 1)) (wr.alloc (.cells #[.string id, .string wk2, .int .i64 fr, .int .i64 t2, .int .i64 en] 66)) :=
                  ⟨S, k + 1, hkl2, rfl, by go_num, by omega, by omega, hck, hbaH.out⟩
                have hckH := Lib.hid hck
                clear hck
                have RH := Lib.hid R
                clear R
                go_wp2
                refine ⟨?rel, ?measure⟩
                case measure => (simp [intOf]; omega)
                case rel => first | exact RH.out | exact ⟨rfl, RH.out⟩ | ((try refine ⟨rfl, ?_⟩); (repeat apply Exists.intro); refine ⟨RH.out, ?_⟩; ((repeat' apply And.intro) <;> rfl))
            · have e : l.drop k = [] := List.drop_eq_nil_of_le (by have := hllH.out; omega)
              rw [e, busySum, Int.add_zero] at hck
              have hbw := hb2H.out.trans (hb.mono hb2H.out.size)
              have hckH := Lib.hid hck
              clear hck
              have hbH := Lib.hid hb
              clear hb
              have eH := Lib.hid e
              clear e
              have hbwH := Lib.hid hbw
              clear hbw
              go_wp2
              go_ret2
              exact ⟨ret2_any (by rw [hckH.out]; rfl) rfl, hbwH.out⟩
        · rw [if_neg (fun h => i3 h.2), Prod.mk.injEq] at hF
          obtain ⟨rfl, rfl⟩ := hF
          have i3 : inR 0 1000000000 to = false := by simpa using i3
          go_wp2_with (go_at_call 34; refine (within_r _ _ _ _).mono ?_; rintro e wz ⟨rfl, rfl⟩)
          go_ret2
          exact ⟨rfl, hb2H.out⟩
      · rw [if_neg (fun h => i2 h.1), Prod.mk.injEq] at hF
        obtain ⟨rfl, rfl⟩ := hF
        have i2 : inR 0 1000000000 fm = false := by simpa using i2
        go_wp2_with (go_at_call 34; refine (within_r _ _ _ _).mono ?_; rintro e wz ⟨rfl, rfl⟩)
        go_ret2
        exact ⟨rfl, hb2H.out⟩
  · have hF := hFH.out
    clear hFH
    rw [if_neg e0, Prod.mk.injEq] at hF
    obtain ⟨rfl, rfl⟩ := hF
    have e1 : (rf != 0) = true := by simpa using e0
    go_wp2
    go_ret2
    exact ⟨rfl, hb1H.out⟩
end Go.Proofs.YtlnkamoeiaaleaaDoor
