/-
  seconds and ends, of the program and of the reference.
-/
import Derived.Test.YtlnkamoeiaaleaaDoorWorker
namespace Go.Proofs.YtlnkamoeiaaleaaDoor
open Go.RowKit
set_option linter.unusedVariables false

def secsF (x : Worker) (sz : Int) : Int := (sz + x.speed - 1) / x.speed
theorem secs_in (sz sp : Int) (h0 : 1 ≤ sz) (h1 : sz ≤ 1000000) (h2 : 1 ≤ sp) (h3 : sp ≤ 1000) : 1 ≤ (sz + sp - 1) / sp ∧ (sz + sp - 1) / sp ≤ 1000000 := by
  constructor
  · exact (Int.le_ediv_iff_mul_le (by omega)).2 (by omega)
  · have : (sz + sp - 1) / sp ≤ sz := by
      have h : (sz + sp - 1) < (sz + 1) * sp := by
        have : sz * 1 ≤ sz * sp := Int.mul_le_mul_of_nonneg_left h2 (by omega)
        rw [Int.add_mul]; omega
      have := (Int.ediv_lt_iff_lt_mul (a := sz + sp - 1) (b := sz + 1) (c := sp) (by omega)).2 h
      omega
    omega

/-- when a work ends that is begun then and takes so long -/
def endsGo : Int → Int → List Span → Int
  | L, T, [] => T + L
  | L, T, s :: r => if s.to_ ≤ T then endsGo L T r else if T < s.from_ then (if L ≤ s.from_ - T then T + L else endsGo (L - (s.from_ - T)) s.to_ r) else endsGo L s.to_ r
def endsF (x : Worker) (sz fm : Int) : Int × Bool := if fm < x.from_ then (0, false) else if x.to_ < endsGo (secsF x sz) fm x.stands.l then (0, false) else (endsGo (secsF x sz) fm x.stands.l, true)
def rendsF (x : Worker) (sz fm : Int) : Int × Bool := if fm < x.from_ then (0, false) else (endsGo (secsF x sz) fm x.stands.l, decide (endsGo (secsF x sz) fm x.stands.l ≤ x.to_))
def SpansIn (l : List Span) : Prop := ∀ s ∈ l, (0 ≤ s.from_ ∧ s.from_ ≤ 1000000000) ∧ 0 ≤ s.to_ ∧ s.to_ ≤ 1000000000

def EndsRel (l : List Span) (c fm : Int) (w0 : World) (lf tm i : Value) (wr : World) : Prop :=
  ∃ (L T : Int) (k : Nat), lf = .int .i64 L ∧ tm = .int .i64 T ∧ i = .int .i64 k ∧ k ≤ l.length ∧ 1 ≤ L ∧ L ≤ 1000000 ∧ 0 ≤ T ∧ T ≤ 1000000000 ∧ endsGo L T (l.drop k) = endsGo c fm l ∧ Below w0.heap.size w0 wr

set_option maxHeartbeats 1000000 in
theorem secs (x : Worker) (sz : Int) (w : World) (h0 : 1 ≤ sz) (h1 : sz ≤ 1000000) (h2 : 1 ≤ x.speed) (h3 : x.speed ≤ 1000) (c : Int) (hc : secsF x sz = c) :
    Calls Tryd.prog 32 #[.agg #[.string x.name, .slice x.has.A x.has.n x.has.cap, .int .i64 x.slots, .int .i64 x.speed, .int .i64 x.from_, .int .i64 x.to_, .slice x.stands.A x.stands.n x.stands.cap], .int .i64 sz] w fun e w' =>
      e = .returned (.int .i64 c) ∧ Below w.heap.size w w' := by
  obtain ⟨nm, has, sl, sp, fr, to, st⟩ := x
  simp only [secsF] at h2 h3 hc ⊢
  have hba := (Below.refl w.heap.size w).alloc (Nat.le_refl _) (.cells #[.string nm, .slice has.A has.n has.cap, .int .i64 sl, .int .i64 sp, .int .i64 fr, .int .i64 to, .slice st.A st.n st.cap] 25)
  have hbaH := Lib.hid hba
  clear hba
  have hcH := Lib.hid hc
  clear hc
  go_enter Tryd.func32, Tryd.ntmps32
  go_wp2
  go_ret
  exact ⟨ret1_int (by have := hcH.out; omega), hbaH.out⟩

set_option maxHeartbeats 1000000 in
theorem rsecs (x : Worker) (sz : Int) (w : World) (h0 : 1 ≤ sz) (h1 : sz ≤ 1000000) (h2 : 1 ≤ x.speed) (h3 : x.speed ≤ 1000) (c : Int) (hc : secsF x sz = c) :
    Calls Tryd.prog 35 #[.agg #[.string x.name, .slice x.has.A x.has.n x.has.cap, .int .i64 x.slots, .int .i64 x.speed, .int .i64 x.from_, .int .i64 x.to_, .slice x.stands.A x.stands.n x.stands.cap], .int .i64 sz] w fun e w' =>
      e = .returned (.int .i64 c) ∧ Below w.heap.size w w' := by
  obtain ⟨nm, has, sl, sp, fr, to, st⟩ := x
  simp only [secsF] at h2 h3 hc ⊢
  have hba := (Below.refl w.heap.size w).alloc (Nat.le_refl _) (.cells #[.string nm, .slice has.A has.n has.cap, .int .i64 sl, .int .i64 sp, .int .i64 fr, .int .i64 to, .slice st.A st.n st.cap] 25)
  have hbaH := Lib.hid hba
  clear hba
  have hcH := Lib.hid hc
  clear hc
  go_enter Tryd.func35, Tryd.ntmps35
  go_wp2
  go_ret
  exact ⟨ret1_int (by have := hcH.out; omega), hbaH.out⟩

set_option maxRecDepth 100000 in
set_option maxHeartbeats 2000000 in
theorem ends_any (x : Worker) (sz fm : Int) (w : World) (hok : RWorker.ok w x) (h0 : 1 ≤ sz) (h1 : sz ≤ 1000000) (h2 : 1 ≤ x.speed) (h3 : x.speed ≤ 1000) (h4 : 0 ≤ fm) (h5 : fm ≤ 1000000000) (hs : SpansIn x.stands.l) (a : Int) (b : Bool) (hE : endsF x sz fm = (a, b)) :
    Calls Tryd.prog 37 #[.agg #[.string x.name, .slice x.has.A x.has.n x.has.cap, .int .i64 x.slots, .int .i64 x.speed, .int .i64 x.from_, .int .i64 x.to_, .slice x.stands.A x.stands.n x.stands.cap], .int .i64 sz, .int .i64 fm] w fun e w' =>
      e = .returned (.tuple #[.int .i64 a, .bool b]) ∧ Below w.heap.size w w' := by
  obtain ⟨nm, has, sl, sp, fr, to, st⟩ := x
  obtain ⟨o0, o1, o2, o3, o4, o5, o6⟩ := hok
  simp only at o0 o1 o2 o3 o4 o5 o6 hE h2 h3 hs ⊢
  obtain ⟨A, len, cap, l⟩ := st
  obtain ⟨hl, hcp, hcm, _⟩ := o6
  simp only at hl hs hcp hcm ⊢
  have hlen : len ≤ 9223372036854775807 := by unfold maxLen at hcm; omega
  clear hcp hcm
  have hll := hl.1
  have hba := (Below.refl w.heap.size w).alloc (Nat.le_refl _) (.cells #[.string nm, .slice has.A has.n has.cap, .int .i64 sl, .int .i64 sp, .int .i64 fr, .int .i64 to, .slice A len cap] 25)
  have hbas := hba.size
  obtain ⟨o4a, o4b⟩ := o4
  obtain ⟨o5a, o5b⟩ := o5
  have o0H := Lib.hid o0
  clear o0
  have o1H := Lib.hid o1
  clear o1
  have o2H := Lib.hid o2
  clear o2
  have o3H := Lib.hid o3
  clear o3
  have hlH := Lib.hid hl
  clear hl
  have hllH := Lib.hid hll
  clear hll
  have hEH := Lib.hid hE
  clear hE
  have hsH := Lib.hid hs
  clear hs
  have hbaH := Lib.hid hba
  clear hba
  have hbasH := Lib.hid hbas
  clear hbas
  by_cases hf : fm < fr
  · have hE := hEH.out
    simp only [endsF, if_pos hf, Prod.mk.injEq] at hE
    obtain ⟨rfl, rfl⟩ := hE
    clear hEH
    go_enter Tryd.func37, Tryd.ntmps37
    go_wp2
    go_ret2
    exact ⟨rfl, hbaH.out⟩
  · obtain ⟨c, hc⟩ : ∃ c, secsF ⟨nm, has, sl, sp, fr, to, ⟨A, len, cap, l⟩⟩ sz = c := ⟨_, rfl⟩
    have hE := hEH.out
    simp only [endsF, if_neg hf, hc] at hE
    obtain ⟨c1, c2⟩ := secs_in sz sp h0 h1 h2 h3
    have hcc : (sz + sp - 1) / sp = c := hc
    rw [hcc] at c1 c2
    clear hEH
    have hEH := Lib.hid hE
    clear hE
    have hccH := Lib.hid hcc
    clear hcc
    go_enter Tryd.func37, Tryd.ntmps37
    go_wp2_with fail
    refine (secs ⟨nm, has, sl, sp, fr, to, ⟨A, len, cap, l⟩⟩ sz _ h0 h1 h2 h3 c hc).mono ?_
    rintro e w1 ⟨rfl, hw1⟩
    have q4 := (hw1.cell (by simp)).trans (cell_new w _ _ 4)
    have q5 := (hw1.cell (by simp)).trans (cell_new w _ _ 5)
    have q6 := (hw1.cell (by simp)).trans (cell_new w _ _ 6)
    have hbw1 := hbaH.out.trans (hw1.mono hbasH.out)
    have hz1 : w.heap.size < w1.heap.size := by have := hw1.size; simp at this; omega
    simp only [List.getElem?_toArray, List.getElem?_cons_succ, List.getElem?_cons_zero] at q4 q5 q6
    have hb11 := Below.refl w1.heap.size w1
    have hw1H := Lib.hid hw1
    clear hw1
    have hbw1H := Lib.hid hbw1
    clear hbw1
    have hcH := Lib.hid hc
    clear hc
    have hb11H := Lib.hid hb11
    clear hb11
    have q4H := Lib.hid q4
    clear q4
    have q5H := Lib.hid q5
    clear q5
    go_wp2_with fail
    clear q6
    go_loopw [8, 9, 23] (fun lf tm i wr => EndsRel l c fm w1 lf tm i wr) (fun _ _ i _ => len - (intOf i).toNat)
    case atStart => exact ⟨c, fm, 0, rfl, rfl, rfl, Nat.zero_le _, c1, c2, h4, h5, rfl, hb11H.out⟩
    case round =>
      obtain ⟨L, T, k, rfl, rfl, rfl, hk, hL0, hL1, hT0, hT1, hgo, hb⟩ := hrel
      have hkl : k ≤ len := by have := hllH.out; omega
      have hbs := hb.size
      have q4 := (hb.cell hz1).trans q4H.out
      have q5 := (hb.cell hz1).trans q5H.out
      by_cases hlt : k < len
      · obtain ⟨b0, off, hA, _⟩ := hlH.out.2.1 (by omega)
        subst hA
        obtain ⟨y, hy⟩ : ∃ y, l[k]? = some y := ⟨l[k]'(by have := hllH.out; omega), List.getElem?_eq_getElem _⟩
        have hbw := hbw1H.out.trans (hb.mono hbw1H.out.size)
        obtain ⟨d0, d1⟩ := cells_Span (hlH.out.below hbw) hy
        obtain ⟨⟨i0, i1⟩, i2, i3⟩ := hsH.out y (List.mem_of_getElem? hy)
        rw [drop_cons hy, endsGo] at hgo
        obtain ⟨yf, yt⟩ := y
        simp only at d0 d1 hgo i0 i1 i2 i3
        have hba2 := hb.alloc hbs (.cells #[.int .i64 yf, .int .i64 yt] 85)
        have hkl2 : k + 1 ≤ l.length := by have := hllH.out; omega
        clear q4 q5
        have hbH := Lib.hid hb
        clear hb
        have hbwH := Lib.hid hbw
        clear hbw
        have hba2H := Lib.hid hba2
        clear hba2
        have hyH := Lib.hid hy
        clear hy
        by_cases e1 : yt ≤ T
        · rw [if_pos e1] at hgo
          have R : EndsRel l c fm w1 (.int .i64 L) (.int .i64 T) (.int .i64 (k + 1)) (wr.alloc (.cells #[.int .i64 yf, .int .i64 yt] 85)) :=
            ⟨L, T, k + 1, rfl, rfl, by go_num, hkl2, hL0, hL1, hT0, hT1, hgo, hba2H.out⟩
          have hgoH := Lib.hid hgo
          clear hgo
          have RH := Lib.hid R
          clear R
          go_wp2
          refine ⟨?rel, ?measure⟩
          case measure => (simp [intOf]; omega)
          case rel => first | exact RH.out | exact ⟨rfl, RH.out⟩ | ((try refine ⟨rfl, ?_⟩); (repeat apply Exists.intro); refine ⟨RH.out, ?_⟩; ((repeat' apply And.intro) <;> rfl))
        · rw [if_neg e1] at hgo
          have e1' : decide (yt ≤ T) = false := decide_eq_false e1
          by_cases e2 : T < yf
          · rw [if_pos e2] at hgo
            by_cases e3 : L ≤ yf - T
            · rw [if_pos e3] at hgo
              have hgoH := Lib.hid hgo
              clear hgo
              have q5 := (hba2H.out.cell hz1).trans q5H.out
              have hE := hEH.out
              rw [← hgoH.out] at hE
              clear hEH hgoH
              by_cases hto : to < T + L
              · rw [if_pos hto, Prod.mk.injEq] at hE
                obtain ⟨rfl, rfl⟩ := hE
                go_wp2
                go_ret2
                exact ⟨rfl, hbw1H.out.trans (hba2H.out.mono hbw1H.out.size)⟩
              · rw [if_neg hto, Prod.mk.injEq] at hE
                obtain ⟨rfl, rfl⟩ := hE
                have hto2 : decide (to < T + L) = false := decide_eq_false hto
                go_wp2
                go_ret2
                exact ⟨rfl, hbw1H.out.trans (hba2H.out.mono hbw1H.out.size)⟩
            · rw [if_neg e3] at hgo
              have e3' : decide (L ≤ yf - T) = false := decide_eq_false e3
              have R : ∀ L' : Int, L' = L - (yf - T) → EndsRel l c fm w1 (.int .i64 L') (.int .i64 yt) (.int .i64 (k + 1)) (wr.alloc (.cells #[.int .i64 yf, .int .i64 yt] 85)) :=
                fun L' h => ⟨L', yt, k + 1, rfl, rfl, by go_num, hkl2, by omega, by omega, i2, i3, h ▸ hgo, hba2H.out⟩
              have hgoH := Lib.hid hgo
              clear hgo
              have RH := Lib.hid R
              clear R
              go_wp2
              refine ⟨?rel, ?measure⟩
              case measure => (simp [intOf]; omega)
              case rel => first | exact (RH.out _ (by omega)) | exact ⟨rfl, (RH.out _ (by omega))⟩ | ((try refine ⟨rfl, ?_⟩); (repeat apply Exists.intro); refine ⟨(RH.out _ (by omega)), ?_⟩; ((repeat' apply And.intro) <;> rfl))
          · rw [if_neg e2] at hgo
            have e2' : decide (T < yf) = false := decide_eq_false e2
            have R : ∀ L' : Int, L' = L → EndsRel l c fm w1 (.int .i64 L') (.int .i64 yt) (.int .i64 (k + 1)) (wr.alloc (.cells #[.int .i64 yf, .int .i64 yt] 85)) :=
              fun L' h => ⟨L', yt, k + 1, rfl, rfl, by go_num, hkl2, by omega, by omega, i2, i3, h ▸ hgo, hba2H.out⟩
            have hgoH := Lib.hid hgo
            clear hgo
            have RH := Lib.hid R
            clear R
            go_wp2
            refine ⟨?rel, ?measure⟩
            case measure => (simp [intOf]; omega)
            case rel => first | exact (RH.out _ (by omega)) | exact ⟨rfl, (RH.out _ (by omega))⟩ | ((try refine ⟨rfl, ?_⟩); (repeat apply Exists.intro); refine ⟨(RH.out _ (by omega)), ?_⟩; ((repeat' apply And.intro) <;> rfl))
      · have e : l.drop k = [] := List.drop_eq_nil_of_le (by have := hllH.out; omega)
        rw [e, endsGo] at hgo
        have hbw := hbw1H.out.trans (hb.mono hbw1H.out.size)
        clear q4
        have hbH := Lib.hid hb
        clear hb
        have eH := Lib.hid e
        clear e
        have hgoH := Lib.hid hgo
        clear hgo
        have hbwH := Lib.hid hbw
        clear hbw
        have q5 := q5
        have hE := hEH.out
        rw [← hgoH.out] at hE
        clear hEH hgoH
        by_cases hto : to < T + L
        · rw [if_pos hto, Prod.mk.injEq] at hE
          obtain ⟨rfl, rfl⟩ := hE
          go_wp2
          go_ret2
          exact ⟨rfl, hbwH.out⟩
        · rw [if_neg hto, Prod.mk.injEq] at hE
          obtain ⟨rfl, rfl⟩ := hE
          have hto2 : decide (to < T + L) = false := decide_eq_false hto
          go_wp2
          go_ret2
          exact ⟨rfl, hbwH.out⟩
end Go.Proofs.YtlnkamoeiaaleaaDoor
