/-
  Wasted, of the program and of the reference; the walk of WorkersBusyMatchesSpec.
-/
import Derived.Test.YtlnkamoeiaaleaaDoorBusy
import Derived.Test.YtlnkamoeiaaleaaDoorSeconds
namespace Go.Proofs.YtlnkamoeiaaleaaDoor
open Go.RowKit
set_option linter.unusedVariables false

def waste1 (r : Run) : Int := if r.end_ = 1 then 0 else r.to_ - r.from_
def wasteSum : List Run → Int
  | [] => 0
  | r :: s => waste1 r + wasteSum s
def wasteR (l : List Run) : Int × Int := if runsF l = 0 then (wasteSum l, 0) else (0, runsF l)
def WasteRel (l : List Run) (c : Int) (w0 : World) (sm i : Value) (wr : World) : Prop :=
  ∃ (S : Int) (k : Nat), k ≤ l.length ∧ sm = .int .i64 S ∧ i = .int .i64 k ∧ 0 ≤ S ∧ S ≤ k * 1000000000 ∧ S + wasteSum (l.drop k) = c ∧ Below w0.heap.size w0 wr

set_option maxRecDepth 100000 in
set_option maxHeartbeats 2000000 in
theorem wasted_any (A : Option Addr) (len cap : Nat) (l : List Run) (w : World) (hl : SlAt RRun w A len l) (c d : Int) (hF : wasteR l = (c, d)) :
    Calls Tryd.prog 17 #[.slice A len cap] w fun e w' => e = .returned (.tuple #[.int .i64 c, .int .i64 d]) ∧ Below w.heap.size w w' := by
  have hll := hl.1
  unfold wasteR at hF
  obtain ⟨rf, hrf⟩ : ∃ rf, runsF l = rf := ⟨_, rfl⟩
  rw [hrf] at hF
  have hllH := Lib.hid hll
  clear hll
  have hFH := Lib.hid hF
  clear hF
  have hlH := Lib.hid hl
  clear hl
  have hrfH := Lib.hid hrf
  clear hrf
  go_enter Tryd.func17, Tryd.ntmps17
  go_wp2_with fail
  refine (runs_any A len cap l _ hlH.out rf hrfH.out).mono ?_
  rintro e w1 ⟨rfl, hb1⟩
  have hb1H := Lib.hid hb1
  clear hb1
  by_cases e0 : rf = 0
  · subst e0
    obtain ⟨hri, hlen⟩ := runs_good hrfH.out
    rw [hllH.out] at hlen
    have hF := hFH.out
    clear hFH
    rw [if_pos rfl, Prod.mk.injEq] at hF
    obtain ⟨hF, rfl⟩ := hF
    have hb22 := Below.refl w1.heap.size w1
    have hFH := Lib.hid hF
    clear hF
    have hriH := Lib.hid hri
    clear hri
    have hb22H := Lib.hid hb22
    clear hb22
    go_wp2_with fail
    go_loopw [5, 15] (fun sm i wr => WasteRel l c w1 sm i wr) (fun _ i _ => len - (intOf i).toNat)
    case atStart => exact ⟨0, 0, Nat.zero_le _, rfl, rfl, Int.le_refl _, by omega, by rw [Int.zero_add]; exact hFH.out, hb22H.out⟩
    case round =>
      obtain ⟨S, k, hk, rfl, rfl, hS0, hS1, hck, hb⟩ := hrel
      have hkl : k ≤ len := by have := hllH.out; omega
      have hbs := hb.size
      by_cases hlt : k < len
      · obtain ⟨b, off, hA, _⟩ := hlH.out.2.1 (by omega)
        subst hA
        obtain ⟨x, hx⟩ : ∃ x, l[k]? = some x := ⟨l[k]'(by have := hllH.out; omega), List.getElem?_eq_getElem _⟩
        have hbw := hb1H.out.trans (hb.mono hb1H.out.size)
        obtain ⟨c0, c1, c2, c3, c4⟩ := cells_Run (hlH.out.below hbw) hx
        obtain ⟨⟨n0, n1⟩, ⟨n2, n3⟩, n4, _⟩ := hriH.out x (List.mem_of_getElem? hx)
        rw [drop_cons hx, wasteSum, waste1] at hck
        have hkl2 : k + 1 ≤ l.length := by have := hllH.out; omega
        obtain ⟨id, wk2, fr, t2, en⟩ := x
        simp only at c0 c1 c2 c3 c4 hck n0 n1 n2 n3 n4
        have hba := hb.alloc hbs (.cells #[.string id, .string wk2, .int .i64 fr, .int .i64 t2, .int .i64 en] 66)
        have hbH := Lib.hid hb
        clear hb
        have hbwH := Lib.hid hbw
        clear hbw
        have hbaH := Lib.hid hba
        clear hba
        have hxH := Lib.hid hx
        clear hx
        by_cases hw : en = 1
        · rw [if_pos hw, Int.zero_add] at hck
          subst hw
          have R : WasteRel l c w1 (.int .i64 S) (.int .i64 (k + 1)) (wr.alloc (.cells #[.string id, .string wk2, .int .i64 fr, .int .i64 t2, .int .i64 1] 66)) :=
            ⟨S, k + 1, hkl2, rfl, by go_num, by omega, by omega, hck, hbaH.out⟩
          have hckH := Lib.hid hck
          clear hck
          have RH := Lib.hid R
          clear R
          go_wp2
          refine ⟨?rel, ?measure⟩
          case measure => (simp [intOf]; omega)
          case rel => first | exact RH.out | exact ⟨rfl, RH.out⟩ | ((try refine ⟨rfl, ?_⟩); (repeat apply Exists.intro); refine ⟨RH.out, ?_⟩; ((repeat' apply And.intro) <;> rfl))
        · rw [if_neg hw] at hck
          have hw1 : (en != 1) = true := by simpa using hw
          clear hw
          have R : ∀ S' : Int, S' = S + (t2 - fr) → WasteRel l c w1 (.int .i64 S') (.int .i64 (k + 1)) (wr.alloc (.cells #[.string id, .string wk2, .int .i64 fr, .int .i64 t2, .int .i64 en] 66)) :=
            fun S' h => ⟨S', k + 1, hkl2, rfl, by go_num, by omega, by omega, by omega, hbaH.out⟩
          have hckH := Lib.hid hck
          clear hck
          have RH := Lib.hid R
          clear R
          go_wp2
          refine ⟨?rel, ?measure⟩
          case measure => (simp [intOf]; omega)
          case rel => first | exact (RH.out _ (by omega)) | exact ⟨rfl, (RH.out _ (by omega))⟩ | ((try refine ⟨rfl, ?_⟩); (repeat apply Exists.intro); refine ⟨(RH.out _ (by omega)), ?_⟩; ((repeat' apply And.intro) <;> rfl))
      · have e : l.drop k = [] := List.drop_eq_nil_of_le (by have := hllH.out; omega)
        rw [e, wasteSum, Int.add_zero] at hck
        have hbw := hb1H.out.trans (hb.mono hb1H.out.size)
        have hckH := Lib.hid hck
        clear hck
        have hbH := Lib.hid hb
        clear hb
        have eH := Lib.hid e
        clear e
        have hbwH := Lib.hid hbw
        clear hbw
        go_wp2
        go_ret2
        exact ⟨ret2_any (by rw [hckH.out]; rfl) rfl, hbwH.out⟩
  · have hF := hFH.out
    clear hFH
    rw [if_neg e0, Prod.mk.injEq] at hF
    obtain ⟨rfl, rfl⟩ := hF
    have e1 : (rf != 0) = true := by simpa using e0
    go_wp2
    go_ret2
    exact ⟨rfl, hb1H.out⟩

set_option maxRecDepth 100000 in
set_option maxHeartbeats 2000000 in
theorem rwasted_any (A : Option Addr) (len cap : Nat) (l : List Run) (w : World) (hl : SlAt RRun w A len l) (c d : Int) (hF : wasteR l = (c, d)) :
    Calls Tryd.prog 18 #[.slice A len cap] w fun e w' => e = .returned (.tuple #[.int .i64 c, .int .i64 d]) ∧ Below w.heap.size w w' := by
  have hll := hl.1
  unfold wasteR at hF
  obtain ⟨rf, hrf⟩ : ∃ rf, runsF l = rf := ⟨_, rfl⟩
  rw [hrf] at hF
  have hllH := Lib.hid hll
  clear hll
  have hFH := Lib.hid hF
  clear hF
  have hlH := Lib.hid hl
  clear hl
  have hrfH := Lib.hid hrf
  clear hrf
  go_enter Tryd.func18, Tryd.ntmps18
  go_wp2_with fail
  refine (rruns_any A len cap l _ hlH.out rf hrfH.out).mono ?_
  rintro e w1 ⟨rfl, hb1⟩
  have hb1H := Lib.hid hb1
  clear hb1
  by_cases e0 : rf = 0
  · subst e0
    obtain ⟨hri, hlen⟩ := runs_good hrfH.out
    rw [hllH.out] at hlen
    have hF := hFH.out
    clear hFH
    rw [if_pos rfl, Prod.mk.injEq] at hF
    obtain ⟨hF, rfl⟩ := hF
    have hb22 := Below.refl w1.heap.size w1
    have hFH := Lib.hid hF
    clear hF
    have hriH := Lib.hid hri
    clear hri
    have hb22H := Lib.hid hb22
    clear hb22
    go_wp2_with fail
    go_loopw [5, 15] (fun sm i wr => WasteRel l c w1 sm i wr) (fun _ i _ => len - (intOf i).toNat)
    case atStart => exact ⟨0, 0, Nat.zero_le _, rfl, rfl, Int.le_refl _, by omega, by rw [Int.zero_add]; exact hFH.out, hb22H.out⟩
    case round =>
      obtain ⟨S, k, hk, rfl, rfl, hS0, hS1, hck, hb⟩ := hrel
      have hkl : k ≤ len := by have := hllH.out; omega
      have hbs := hb.size
      by_cases hlt : k < len
      · obtain ⟨b, off, hA, _⟩ := hlH.out.2.1 (by omega)
        subst hA
        obtain ⟨x, hx⟩ : ∃ x, l[k]? = some x := ⟨l[k]'(by have := hllH.out; omega), List.getElem?_eq_getElem _⟩
        have hbw := hb1H.out.trans (hb.mono hb1H.out.size)
        obtain ⟨c0, c1, c2, c3, c4⟩ := cells_Run (hlH.out.below hbw) hx
        obtain ⟨⟨n0, n1⟩, ⟨n2, n3⟩, n4, _⟩ := hriH.out x (List.mem_of_getElem? hx)
        rw [drop_cons hx, wasteSum, waste1] at hck
        have hkl2 : k + 1 ≤ l.length := by have := hllH.out; omega
        obtain ⟨id, wk2, fr, t2, en⟩ := x
        simp only at c0 c1 c2 c3 c4 hck n0 n1 n2 n3 n4
        have hba := hb.alloc hbs (.cells #[.string id, .string wk2, .int .i64 fr, .int .i64 t2, .int .i64 en] 66)
        have hbH := Lib.hid hb
        clear hb
        have hbwH := Lib.hid hbw
        clear hbw
        have hbaH := Lib.hid hba
        clear hba
        have hxH := Lib.hid hx
        clear hx
        by_cases hw : en = 1
        · rw [if_pos hw, Int.zero_add] at hck
          subst hw
          have R : WasteRel l c w1 (.int .i64 S) (.int .i64 (k + 1)) (wr.alloc (.cells #[.string id, .string wk2, .int .i64 fr, .int .i64 t2, .int .i64 1] 66)) :=
            ⟨S, k + 1, hkl2, rfl, by go_num, by omega, by omega, hck, hbaH.out⟩
          have hckH := Lib.hid hck
          clear hck
          have RH := Lib.hid R
          clear R
          go_wp2
          refine ⟨?rel, ?measure⟩
          case measure => (simp [intOf]; omega)
          case rel => first | exact RH.out | exact ⟨rfl, RH.out⟩ | ((try refine ⟨rfl, ?_⟩); (repeat apply Exists.intro); refine ⟨RH.out, ?_⟩; ((repeat' apply And.intro) <;> rfl))
        · rw [if_neg hw] at hck
          have hw1 : (en != 1) = true := by simpa using hw
          clear hw
          have R : ∀ S' : Int, S' = S + (t2 - fr) → WasteRel l c w1 (.int .i64 S') (.int .i64 (k + 1)) (wr.alloc (.cells #[.string id, .string wk2, .int .i64 fr, .int .i64 t2, .int .i64 en] 66)) :=
            fun S' h => ⟨S', k + 1, hkl2, rfl, by go_num, by omega, by omega, by omega, hbaH.out⟩
          have hckH := Lib.hid hck
          clear hck
          have RH := Lib.hid R
          clear R
          go_wp2
          refine ⟨?rel, ?measure⟩
          case measure => (simp [intOf]; omega)
          case rel => first | exact (RH.out _ (by omega)) | exact ⟨rfl, (RH.out _ (by omega))⟩ | ((try refine ⟨rfl, ?_⟩); (repeat apply Exists.intro); refine ⟨(RH.out _ (by omega)), ?_⟩; ((repeat' apply And.intro) <;> rfl))
      · have e : l.drop k = [] := List.drop_eq_nil_of_le (by have := hllH.out; omega)
        rw [e, wasteSum, Int.add_zero] at hck
        have hbw := hb1H.out.trans (hb.mono hb1H.out.size)
        have hckH := Lib.hid hck
        clear hck
        have hbH := Lib.hid hb
        clear hb
        have eH := Lib.hid e
        clear e
        have hbwH := Lib.hid hbw
        clear hbw
        go_wp2
        go_ret2
        exact ⟨ret2_any (by rw [hckH.out]; rfl) rfl, hbwH.out⟩
  · have hF := hFH.out
    clear hFH
    rw [if_neg e0, Prod.mk.injEq] at hF
    obtain ⟨rfl, rfl⟩ := hF
    have e1 : (rf != 0) = true := by simpa using e0
    go_wp2
    go_ret2
    exact ⟨rfl, hb1H.out⟩
end Go.Proofs.YtlnkamoeiaaleaaDoor
