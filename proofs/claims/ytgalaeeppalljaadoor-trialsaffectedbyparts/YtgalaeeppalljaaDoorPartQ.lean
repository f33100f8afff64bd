/-
  A part in lowest terms: lowest of the program, part of the reference.
-/
import Derived.Test.YtgalaeeppalljaaDoorIn
import Derived.IntWalk
import Derived.RegionTactic
namespace Go.Proofs.YtgalaeeppalljaaDoor
open Go.RowKit
set_option linter.unusedVariables false

def partF (num den : Nat) : Nat × Nat := if den = 0 then (0, 1) else (num / Nat.gcd num den, den / Nat.gcd num den)
def GcdRel (g : Nat) (a b : Value) : Prop := ∃ x y : Nat, a = .int .i64 x ∧ b = .int .i64 y ∧ x ≤ 10000 ∧ y ≤ 10000 ∧ Nat.gcd x y = g
theorem gcd_step {x y : Nat} (h : 0 < y) : Nat.gcd y (x % y) = Nat.gcd x y := by
  rw [Nat.gcd_comm y, ← Nat.gcd_rec, Nat.gcd_comm]
theorem tmod_nat (x y : Nat) : ((x : Int).tmod y) = ((x % y : Nat) : Int) := by rw [Int.natCast_emod]; exact Int.tmod_eq_emod_of_nonneg (by omega)
theorem tdiv_nat (x y : Nat) : ((x : Int).tdiv y) = ((x / y : Nat) : Int) := by rw [Int.natCast_ediv]; exact Int.tdiv_eq_ediv_of_nonneg (by omega)

theorem wrap64_of {n : Int} (h0 : -9223372036854775808 ≤ n) (h1 : n ≤ 9223372036854775807) : wrap64 n = n := IntWalk.wrap64_in _ ⟨h0, h1⟩

set_option maxHeartbeats 1000000 in
theorem lowest_any (num den : Nat) (hd : 0 < den) (hn : num ≤ 10000) (hd2 : den ≤ 10000) (w : World) (p q : Nat) (hpq : partF num den = (p, q)) :
    Calls Tryd.prog 73 #[.int .i64 num, .int .i64 den] w fun e w' => e = .returned (.agg #[.int .i64 p, .int .i64 q]) ∧ Below w.heap.size w w' := by
  unfold partF at hpq
  rw [if_neg (by omega)] at hpq
  have hgp : 0 < Nat.gcd num den := Nat.gcd_pos_of_pos_right _ hd
  obtain ⟨g, hgd⟩ : ∃ g, Nat.gcd num den = g := ⟨_, rfl⟩
  rw [hgd] at hpq hgp
  rw [Prod.mk.injEq] at hpq
  obtain ⟨hp, hq⟩ := hpq
  have hpH := Lib.hid hp
  clear hp
  have hqH := Lib.hid hq
  clear hq
  have hgdH := Lib.hid hgd
  clear hgd
  go_enter Tryd.func73, Tryd.ntmps73
  go_wp2_with fail
  go_loopw [5, 6] (fun a b wr => GcdRel g a b ∧ ∃ n, wr = (w.alloc (.cells #[.int .i64 0, .int .i64 0] 50)).drewN n) (fun _ b _ => (intOf b).toNat)
  case atStart => exact ⟨⟨num, den, rfl, rfl, hn, hd2, hgdH.out⟩, 0, rfl⟩
  case round =>
    obtain ⟨⟨x, y, rfl, rfl, hx, hy, hg⟩, n, rfl⟩ := hrel
    by_cases h0 : y = 0
    · subst h0
      rw [Nat.gcd_zero_right] at hg
      obtain rfl : x = g := hg
      have e1 : ((num : Int) / (x : Int)) = ((p : Nat) : Int) := by rw [← hpH.out, Int.natCast_ediv]
      have e2 : ((den : Int) / (x : Int)) = ((q : Nat) : Int) := by rw [← hqH.out, Int.natCast_ediv]
      have hx0 : ¬ (x : Int) = 0 := by omega
      go_wp2_with fail
      have hp3 : p ≤ num := by rw [← hpH.out]; exact Nat.div_le_self _ _
      have hq3 : q ≤ den := by rw [← hqH.out]; exact Nat.div_le_self _ _
      have w1 : wrap64 (p : Int) = p := wrap64_of (by omega) (by omega)
      have w2 : wrap64 (q : Int) = q := wrap64_of (by omega) (by omega)
      go_region
      go_wp2
      exact bodyPost_ret (v := .agg #[.int .i64 p, .int .i64 q]) (by simp [results, Tryd.results73, go_sem]) rfl ⟨rfl, ((bel_drewN ((Below.refl _ _).alloc (Nat.le_refl _) _) _).setCell (by simp) _).setCell (by simp) _⟩
    · have h1 : ((y : Int) != 0) = true := by simpa using h0
      have h2 : ((y : Int) == 0) = false := by simpa using h0
      have hlt : x % y < y := Nat.mod_lt _ (by omega)
      have hms : ((x : Int) % (y : Int)) = ((x % y : Nat) : Int) := (Int.natCast_emod x y).symm
      have R : GcdRel g (.int .i64 y) (.int .i64 ((x : Int) % (y : Int))) := ⟨y, x % y, rfl, by rw [hms], hy, by omega, by rw [gcd_step (by omega), hg]⟩
      clear hms
      have RH := Lib.hid R
      clear R
      have hgH := Lib.hid hg
      clear hg
      go_wp2_with fail
      go_quiet (fail)
      go_wp2
      refine ⟨?rel, ?measure⟩
      case measure => simp [intOf]; omega
      case rel => exact ⟨RH.out, _, World.drewN_drewN _ _ _⟩
set_option maxHeartbeats 1000000 in
theorem rpart_pos (num den : Nat) (hd : 0 < den) (hn : num ≤ 10000) (hd2 : den ≤ 10000) (w : World) (p q : Nat) (hpq : partF num den = (p, q)) :
    Calls Tryd.prog 74 #[.int .i64 num, .int .i64 den] w fun e w' => e = .returned (.agg #[.int .i64 p, .int .i64 q]) ∧ Below w.heap.size w w' := by
  unfold partF at hpq
  rw [if_neg (by omega)] at hpq
  have hgp : 0 < Nat.gcd num den := Nat.gcd_pos_of_pos_right _ hd
  obtain ⟨g, hgd⟩ : ∃ g, Nat.gcd num den = g := ⟨_, rfl⟩
  rw [hgd] at hpq hgp
  rw [Prod.mk.injEq] at hpq
  obtain ⟨hp, hq⟩ := hpq
  have hpH := Lib.hid hp
  clear hp
  have hqH := Lib.hid hq
  clear hq
  have hgdH := Lib.hid hgd
  clear hgd
  go_enter Tryd.func74, Tryd.ntmps74
  have hd2' : ((den : Int) == 0) = false := by simp; omega
  go_wp2_with fail
  go_loopw [5, 6] (fun a b wr => GcdRel g a b ∧ ∃ n, wr = (w.alloc (.cells #[.int .i64 0, .int .i64 0] 50)).drewN n) (fun _ b _ => (intOf b).toNat)
  case atStart => exact ⟨⟨num, den, rfl, rfl, hn, hd2, hgdH.out⟩, 0, rfl⟩
  case round =>
    obtain ⟨⟨x, y, rfl, rfl, hx, hy, hg⟩, n, rfl⟩ := hrel
    by_cases h0 : y = 0
    · subst h0
      rw [Nat.gcd_zero_right] at hg
      obtain rfl : x = g := hg
      have e1 : ((num : Int) / (x : Int)) = ((p : Nat) : Int) := by rw [← hpH.out, Int.natCast_ediv]
      have e2 : ((den : Int) / (x : Int)) = ((q : Nat) : Int) := by rw [← hqH.out, Int.natCast_ediv]
      have hx0 : ¬ (x : Int) = 0 := by omega
      go_wp2_with fail
      have hp3 : p ≤ num := by rw [← hpH.out]; exact Nat.div_le_self _ _
      have hq3 : q ≤ den := by rw [← hqH.out]; exact Nat.div_le_self _ _
      have w1 : wrap64 (p : Int) = p := wrap64_of (by omega) (by omega)
      have w2 : wrap64 (q : Int) = q := wrap64_of (by omega) (by omega)
      go_region
      go_wp2
      exact bodyPost_ret (v := .agg #[.int .i64 p, .int .i64 q]) (by simp [results, Tryd.results74, go_sem]) rfl ⟨rfl, ((bel_drewN ((Below.refl _ _).alloc (Nat.le_refl _) _) _).setCell (by simp) _).setCell (by simp) _⟩
    · have h1 : (0 : Int) < (y : Int) := by omega
      have h2 : ((y : Int) == 0) = false := by simpa using h0
      have hlt : x % y < y := Nat.mod_lt _ (by omega)
      have hms : ((x : Int) % (y : Int)) = ((x % y : Nat) : Int) := (Int.natCast_emod x y).symm
      have R : GcdRel g (.int .i64 y) (.int .i64 ((x : Int) % (y : Int))) := ⟨y, x % y, rfl, by rw [hms], hy, by omega, by rw [gcd_step (by omega), hg]⟩
      clear hms
      have RH := Lib.hid R
      clear R
      have hgH := Lib.hid hg
      clear hg
      go_wp2_with fail
      go_quiet (fail)
      go_wp2
      refine ⟨?rel, ?measure⟩
      case measure => simp [intOf]; omega
      case rel => exact ⟨RH.out, _, World.drewN_drewN _ _ _⟩

theorem rpart_any (num den : Nat) (hn : num ≤ 10000) (hd2 : den ≤ 10000) (w : World) (p q : Nat) (hpq : partF num den = (p, q)) :
    Calls Tryd.prog 74 #[.int .i64 num, .int .i64 den] w fun e w' => e = .returned (.agg #[.int .i64 p, .int .i64 q]) ∧ Below w.heap.size w w' := by
  by_cases hd : 0 < den
  · exact rpart_pos num den hd hn hd2 w p q hpq
  · obtain rfl : den = 0 := by omega
    rw [partF, if_pos rfl, Prod.mk.injEq] at hpq
    obtain ⟨rfl, rfl⟩ := hpq
    go_enter Tryd.func74, Tryd.ntmps74
    go_wp2
    exact bodyPost_ret (v := .agg #[.int .i64 0, .int .i64 1]) (by simp [results, Tryd.results74, go_sem]) rfl ⟨rfl, by first | exact (Below.refl _ _).alloc (Nat.le_refl _) _ | exact ((((Below.refl _ _).alloc (Nat.le_refl _) _)).setCell (Nat.le_refl _) _).setCell (Nat.le_refl _) _⟩
end Go.Proofs.YtgalaeeppalljaaDoor
