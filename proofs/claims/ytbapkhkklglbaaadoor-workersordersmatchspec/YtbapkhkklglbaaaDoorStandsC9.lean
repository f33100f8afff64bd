/-
  checkStands, of the program and of the reference.
-/
import Derived.Test.YtbapkhkklglbaaaDoorMomentC9
import Derived.Test.YtbapkhkklglbaaaDoorTypesM
namespace Go.Proofs.YtbapkhkklglbaaaDoor.C9
open Go.RowKit
set_option linter.unusedVariables false

/-- the fault of spans behind one that ends then -/
def standsErr : Option Int → List Span → Int
  | _, [] => 0
  | p, s :: r => if inR 0 1000000000 s.from_ = true then (if inR 0 1000000000 s.to_ = true then (if s.to_ ≤ s.from_ then 8 else if p.map (fun t => decide (s.from_ < t)) = some true then 8 else standsErr (some s.to_) r) else 1) else 1
def prevTo (l : List Span) (k : Nat) : Option Int := if k = 0 then none else (l[k - 1]?).map (·.to_)
def standsF (l : List Span) : Int := if l.length ≤ 20 then standsErr none l else 2

def StandsRel (l : List Span) (c : Int) (w0 : World) (i : Value) (wr : World) : Prop :=
  ∃ k : Nat, k ≤ l.length ∧ i = .int .i64 k ∧ standsErr (prevTo l k) (l.drop k) = c ∧ Below w0.heap.size w0 wr

set_option maxHeartbeats 400000 in
theorem stands_ok (A : Option Addr) (len cap : Nat) (l : List Span) (w : World) (hlen : len ≤ 20) (hl : SlAt RSpan w A len l) (c : Int) (hF : standsErr none l = c) :
    Calls Tryd.prog 61 #[.slice A len cap] w fun e w' => e = .returned (.int .i64 c) ∧ Below w.heap.size w w' := by
  have hll := hl.1
  have hllH := Lib.hid hll
  clear hll
  have hFH := Lib.hid hF
  clear hF
  have hlH := Lib.hid hl
  clear hl
  go_enter Tryd.func61, Tryd.ntmps61
  go_wp2
  go_loopw [10] (fun i wr => StandsRel l c w i wr) (fun i _ => len - (intOf i).toNat)
  case atStart => exact ⟨0, Nat.zero_le _, rfl, hFH.out, Below.refl _ _⟩
  case round =>
    obtain ⟨k, hk, rfl, hck, hb⟩ := hrel
    have hkl : k ≤ len := by have := hllH.out; omega
    have hbs := hb.size
    by_cases hlt : k < len
    · obtain ⟨b, off, hA, _⟩ := hlH.out.2.1 (by omega)
      subst hA
      obtain ⟨x, hx⟩ : ∃ x, l[k]? = some x := ⟨l[k]'(by have := hllH.out; omega), List.getElem?_eq_getElem _⟩
      obtain ⟨c0, c1⟩ := cells_Span (hlH.out.below hb) hx
      have hok := hlH.out.2.2 x (List.mem_of_getElem? hx)
      rw [drop_cons hx, standsErr] at hck
      obtain ⟨fr, tz⟩ := x
      simp only at c0 c1 hck
      have hba := hb.alloc hbs (.cells #[.int .i64 fr, .int .i64 tz] 93)
      have hbH := Lib.hid hb
      clear hb
      have hbaH := Lib.hid hba
      clear hba
      have hokH := Lib.hid hok
      clear hok
      by_cases i0 : inR 0 1000000000 fr = true
      · rw [if_pos i0] at hck
        by_cases i1 : inR 0 1000000000 tz = true
        · rw [if_pos i1] at hck
          by_cases hle : tz ≤ fr
          · rw [if_pos hle] at hck
            have hckH := Lib.hid hck
            clear hck
            have hxH := Lib.hid hx
            clear hx
            go_wp2_with (go_at_call 60; refine (moment_p _ _).mono ?_; rintro e wz ⟨rfl, rfl⟩)
            go_quiet (fail)
            go_wp2
            go_ret
            exact ⟨ret1_int hckH.out, bel_drewN hbaH.out _⟩
          · rw [if_neg hle] at hck
            have hle2 : decide (tz ≤ fr) = false := decide_eq_false hle
            have hle3 : fr < tz := by omega
            clear hle
            by_cases hk0 : k = 0
            · subst hk0
              rw [Nat.zero_mul, Nat.add_zero] at c0 c1
              have R : ∀ nq, StandsRel l c w (.int .i64 1) ((wr.alloc (.cells #[.int .i64 fr, .int .i64 tz] 93)).drewN nq) := by
                refine fun nq => ⟨1, by have := hllH.out; omega, by go_num, ?_, bel_drewN hbaH.out nq⟩
                rw [prevTo, if_pos rfl, Option.map_none, if_neg (by decide)] at hck
                rw [prevTo, if_neg (by decide), show l[1 - 1]? = l[0]? from rfl, hx]
                exact hck
              have hckH := Lib.hid hck
              clear hck
              have hxH := Lib.hid hx
              clear hx
              have RH := Lib.hid R
              clear R
              go_wp2_with (go_at_call 60; refine (moment_p _ _).mono ?_; rintro e wz ⟨rfl, rfl⟩)
              go_quiet (fail)
              go_wp2
              refine ⟨?rel, ?measure⟩
              case measure => (simp [intOf]; omega)
              case rel => first | exact (RH.out _) | exact ⟨rfl, (RH.out _)⟩ | ((try refine ⟨rfl, ?_⟩); (repeat apply Exists.intro); refine ⟨(RH.out _), ?_⟩; ((repeat' apply And.intro) <;> rfl))
            · obtain ⟨j, rfl⟩ : ∃ j, k = j + 1 := ⟨k - 1, by omega⟩
              obtain ⟨y, hy⟩ : ∃ y, l[j]? = some y := ⟨l[j]'(by have := hllH.out; omega), List.getElem?_eq_getElem _⟩
              obtain ⟨_, d1⟩ := cells_Span (hlH.out.below hbaH.out) hy
              have hoky := hlH.out.2.2 y (List.mem_of_getElem? hy)
              obtain ⟨yf, yt⟩ := y
              simp only at d1
              have hpr : prevTo l (j + 1) = some yt := by rw [prevTo, if_neg (by omega), show j + 1 - 1 = j from rfl, hy]; rfl
              rw [hpr, Option.map_some] at hck
              by_cases hlt2 : fr < yt
              · rw [if_pos (by rw [decide_eq_true hlt2])] at hck
                have hckH := Lib.hid hck
                clear hck
                have hprH := Lib.hid hpr
                clear hpr
                have hxH := Lib.hid hx
                clear hx
                have hyH := Lib.hid hy
                clear hy
                have hokyH := Lib.hid hoky
                clear hoky
                go_wp2_with (go_at_call 60; refine (moment_p _ _).mono ?_; rintro e wz ⟨rfl, rfl⟩)
                go_quiet (fail)
                go_wp2
                go_ret
                exact ⟨ret1_int hckH.out, bel_drewN hbaH.out _⟩
              · rw [if_neg (by rw [decide_eq_false hlt2]; decide)] at hck
                have hlt3 : decide (fr < yt) = false := decide_eq_false hlt2
                have hlt4 : yt ≤ fr := by omega
                clear hlt2
                have R : ∀ nq, StandsRel l c w (.int .i64 (j + 1 + 1)) ((wr.alloc (.cells #[.int .i64 fr, .int .i64 tz] 93)).drewN nq) := by
                  refine fun nq => ⟨j + 1 + 1, by have := hllH.out; omega, by go_num, ?_, bel_drewN hbaH.out nq⟩
                  rw [prevTo, if_neg (by omega), show j + 1 + 1 - 1 = j + 1 from rfl, hx]
                  exact hck
                have hckH := Lib.hid hck
                clear hck
                have hprH := Lib.hid hpr
                clear hpr
                have hxH := Lib.hid hx
                clear hx
                have hyH := Lib.hid hy
                clear hy
                have RH := Lib.hid R
                clear R
                have hokyH := Lib.hid hoky
                clear hoky
                go_wp2_with (go_at_call 60; refine (moment_p _ _).mono ?_; rintro e wz ⟨rfl, rfl⟩)
                go_quiet (fail)
                go_wp2
                refine ⟨?rel, ?measure⟩
                case measure => (simp [intOf]; omega)
                case rel => first | exact (RH.out _) | exact ⟨rfl, (RH.out _)⟩ | ((try refine ⟨rfl, ?_⟩); (repeat apply Exists.intro); refine ⟨(RH.out _), ?_⟩; ((repeat' apply And.intro) <;> rfl))
        · rw [if_neg i1] at hck
          have i1 : inR 0 1000000000 tz = false := by simpa using i1
          have hckH := Lib.hid hck
          clear hck
          have hxH := Lib.hid hx
          clear hx
          go_wp2_with (go_at_call 60; refine (moment_p _ _).mono ?_; rintro e wz ⟨rfl, rfl⟩)
          go_ret
          exact ⟨ret1_int hckH.out, hbaH.out⟩
      · rw [if_neg i0] at hck
        have i0 : inR 0 1000000000 fr = false := by simpa using i0
        have hckH := Lib.hid hck
        clear hck
        have hxH := Lib.hid hx
        clear hx
        go_wp2_with (go_at_call 60; refine (moment_p _ _).mono ?_; rintro e wz ⟨rfl, rfl⟩)
        go_ret
        exact ⟨ret1_int hckH.out, hbaH.out⟩
    · have e : l.drop k = [] := List.drop_eq_nil_of_le (by have := hllH.out; omega)
      rw [e] at hck
      have hc0 : 0 = c := by rw [← hck]; unfold standsErr; rfl
      have hckH := Lib.hid hck
      clear hck
      have hbH := Lib.hid hb
      clear hb
      have eH := Lib.hid e
      clear e
      have hc0H := Lib.hid hc0
      clear hc0
      go_wp2
      go_ret
      exact ⟨ret1_int hc0H.out, hbH.out⟩

theorem stands_any (A : Option Addr) (len cap : Nat) (l : List Span) (w : World) (hl : SlAt RSpan w A len l) (c : Int) (hF : standsF l = c) :
    Calls Tryd.prog 61 #[.slice A len cap] w fun e w' => e = .returned (.int .i64 c) ∧ Below w.heap.size w w' := by
  unfold standsF at hF
  rw [hl.1] at hF
  by_cases h : len ≤ 20
  · rw [if_pos h] at hF
    exact stands_ok A len cap l w h hl c hF
  · rw [if_neg h] at hF
    subst hF
    clear hl
    go_enter Tryd.func61, Tryd.ntmps61
    go_wp2
    go_ret
    exact ⟨rfl, Below.refl _ _⟩

end Go.Proofs.YtbapkhkklglbaaaDoor.C9
