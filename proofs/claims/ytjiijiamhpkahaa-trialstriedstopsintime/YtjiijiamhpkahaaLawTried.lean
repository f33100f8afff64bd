/-
  The walk of smithyardlaw10.TrialsTriedMatchesSpec.
-/
import Derived.Test.YtjiijiamhpkahaaAwakeT
import Derived.Test.YtjiijiamhpkahaaTypesP
namespace Go.Proofs.Ytjiijiamhpkahaa
open Go.RowKit

theorem rtried_bad (t n : Int) (A : Option Addr) (len cap : Nat) (w : World) (h : ¬ (1 ≤ t ∧ t ≤ 100 ∧ 1 ≤ n ∧ n ≤ t)) :
    Calls Try.prog 8 #[.int .i64 t, .int .i64 n, .slice A len cap] w fun e w' => e = .returned (.tuple #[.int .i64 0, .int .i64 0, .int .i64 1]) ∧ w = w' := by
  by_cases a : 1 ≤ t
  · by_cases b : t ≤ 100
    · by_cases c : 1 ≤ n
      · have d : ¬ n ≤ t := fun d => h ⟨a, b, c, d⟩
        clear h
        go_enter Try.func8, Try.ntmps8
        go_wp2
        go_ret3
        exact ⟨rfl, rfl⟩
      · clear h
        go_enter Try.func8, Try.ntmps8
        go_wp2
        go_ret3
        exact ⟨rfl, rfl⟩
    · clear h
      go_enter Try.func8, Try.ntmps8
      go_wp2
      go_ret3
      exact ⟨rfl, rfl⟩
  · clear h
    go_enter Try.func8, Try.ntmps8
    go_wp2
    go_ret3
    exact ⟨rfl, rfl⟩

theorem rtried_form (t n : Int) (A : Option Addr) (len cap : Nat) (w : World) (h1 : 1 ≤ t) (h2 : t ≤ 100) (h3 : 1 ≤ n) (h4 : n ≤ t) (_ : ((len : Int) == t) = false) (_ : ((len : Int) != t) = true) :
    Calls Try.prog 8 #[.int .i64 t, .int .i64 n, .slice A len cap] w fun e w' => e = .returned (.tuple #[.int .i64 0, .int .i64 0, .int .i64 3]) ∧ w = w' := by
  go_enter Try.func8, Try.ntmps8
  go_wp2
  go_ret3
  exact ⟨rfl, rfl⟩

theorem rtried_any (t n : Int) (A : Option Addr) (len cap : Nat) (l : List Bool) (w : World) (hl : BoolsAt w A len l) :
    Calls Try.prog 8 #[.int .i64 t, .int .i64 n, .slice A len cap] w fun e w' =>
      e = .returned (.tuple #[.int .i64 (triedF t n l).1, .int .i64 (triedF t n l).2.1, .int .i64 (triedF t n l).2.2]) ∧ w = w' := by
  unfold triedF
  by_cases h : 1 ≤ t ∧ t ≤ 100 ∧ 1 ≤ n ∧ n ≤ t
  · rw [if_pos h]
    by_cases hx : (l.length : Int) = t
    · rw [if_pos hx]
      obtain ⟨h1, h2, h3, h4⟩ := h
      obtain ⟨rfl, ha⟩ := hl
      obtain ⟨ad, rfl, hc⟩ := ha (by omega)
      have := rtried_ok t.toNat n.toNat ad cap l w (by omega) (by omega) (by omega) (by omega) (by omega) (by rw [show t.toNat = l.length by omega]; exact hc)
      rw [show ((t.toNat : Nat) : Int) = t by omega, show ((n.toNat : Nat) : Int) = n by omega, show t.toNat = l.length by omega] at this
      rw [show t.toNat = l.length by omega]
      exact this
    · rw [if_neg hx]
      obtain ⟨rfl, ha⟩ := hl
      exact rtried_form t n A _ cap w h.1 h.2.1 h.2.2.1 h.2.2.2 (by simpa using hx) (by simpa using hx)
  · rw [if_neg h]
    exact rtried_bad t n A len cap w h

theorem law_tried (t n : Int) (A : Option Addr) (len cap : Nat) (l : List Bool) (w : World) (hl : BoolsAt w A len l) :
    Calls Try.prog 3 #[.int .i64 t, .int .i64 n, .slice A len cap] w fun e w' => e = .returned (.bool true) ∧ Below w.heap.size w w' := by
  have hlH := Lib.hid hl
  clear hl
  obtain ⟨a, b, c, hx⟩ : ∃ a b c, triedF t n l = (a, b, c) := ⟨_, _, _, rfl⟩
  have hxH := Lib.hid hx
  clear hx
  go_enter Try.func3, Try.ntmps3
  go_wp2_with fail
  refine (tried_any t n A len cap l _ hlH.out).mono ?_
  rw [hxH.out]
  rintro e w' ⟨rfl, rfl⟩
  go_wp2_with fail
  refine (rtried_any t n A len cap l _ hlH.out).mono ?_
  rw [hxH.out]
  rintro e w' ⟨rfl, rfl⟩
  go_wp2_with fail
  refine (awake_any _).mono ?_
  rintro e w' ⟨rfl, hb⟩
  go_wp2
  go_ret
  exact ⟨rfl, hb⟩

theorem boolsAt {w : World} {A : Option Addr} {n : Nat} {l : List Bool} (h : SlAt RBool w A n l) : BoolsAt w A n l := by
  obtain ⟨h1, h2, _⟩ := h
  refine ⟨h1, fun hn => ?_⟩
  obtain ⟨b, off, rfl, hc⟩ := h2 hn
  refine ⟨_, rfl, fun i hi => ?_⟩
  have := hc i (l.getD i false) (by rw [List.getD_eq_getElem?_getD, List.getElem?_eq_getElem (by omega)]; rfl) 0 _ rfl
  rw [Addr.add_lit]
  simpa [RBool] using this

theorem walk_tried (t n : Int) (l : SlD Bool) (w : World) (_ : RInt.ok w t) (_ : RInt.ok w n) (h : (RSl RBool).ok w l) :
    Calls Try.prog 3 #[.int .i64 t, .int .i64 n, .slice l.A l.n l.cap] w fun e w' => e = .returned (.bool true) ∧ Below w.heap.size w w' :=
  law_tried t n l.A l.n l.cap l.l w (boolsAt h.1)
end Go.Proofs.Ytjiijiamhpkahaa
