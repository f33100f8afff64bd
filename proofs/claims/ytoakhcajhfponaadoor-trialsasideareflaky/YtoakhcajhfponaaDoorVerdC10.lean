/-
  verdict, of the program and of the reference.
-/
import Derived.Test.YtoakhcajhfponaaDoorTallyC10
namespace Go.Proofs.YtoakhcajhfponaaDoor.C10
open Go.RowKit
set_option linter.unusedVariables false

def verdF (x : Int × Int) : Int := if x.1 + x.2 = 0 then 1 else if x.2 = 0 then 2 else if x.1 = 0 then 3 else 4

theorem verdict_any (p f : Int) (w : World) (hp : 0 ≤ p) (hf : 0 ≤ f) (hpf : p + f ≤ 3001) (c : Int) (hc : verdF (p, f) = c) :
    Calls Tryd.prog 98 #[.agg #[.int .i64 p, .int .i64 f]] w fun e w' => e = .returned (.int .i64 c) ∧ Below w.heap.size w w' := by
  have hba := (Below.refl w.heap.size w).alloc (Nat.le_refl _) (.cells #[.int .i64 p, .int .i64 f] 144)
  unfold verdF at hc
  simp only at hc
  have hbaH := Lib.hid hba
  clear hba
  by_cases h1 : p + f = 0
  · rw [if_pos h1] at hc
    subst hc
    have h1' : (p + f == 0) = true := by simpa using h1
    go_enter Tryd.func98, Tryd.ntmps98
    go_wp2
    go_ret
    exact ⟨rfl, (Below.refl _ _).alloc (Nat.le_refl _) _⟩
  · rw [if_neg h1] at hc
    have h1' : (p + f == 0) = false := by simpa using h1
    by_cases h2 : f = 0
    · rw [if_pos h2] at hc
      subst hc
      have h2' : (f == 0) = true := by simpa using h2
      go_enter Tryd.func98, Tryd.ntmps98
      go_wp2
      go_ret
      exact ⟨rfl, (Below.refl _ _).alloc (Nat.le_refl _) _⟩
    · rw [if_neg h2] at hc
      have h2' : (f == 0) = false := by simpa using h2
      by_cases h3 : p = 0
      · rw [if_pos h3] at hc
        subst hc
        have h3' : (p == 0) = true := by simpa using h3
        go_enter Tryd.func98, Tryd.ntmps98
        go_wp2
        go_ret
        exact ⟨rfl, (Below.refl _ _).alloc (Nat.le_refl _) _⟩
      · rw [if_neg h3] at hc
        subst hc
        have h3' : (p == 0) = false := by simpa using h3
        go_enter Tryd.func98, Tryd.ntmps98
        go_wp2
        go_ret
        exact ⟨rfl, (Below.refl _ _).alloc (Nat.le_refl _) _⟩

def VRel (l : List TestRun) (x : ByteArray × ByteArray) (w0 : World) (g b i : Value) (wr : World) : Prop :=
  ∃ (k : Nat), k ≤ l.length ∧ i = .int .i64 k ∧ g = .bool (decide (0 < (tal (l.take k) x).1)) ∧ b = .bool (decide (0 < (tal (l.take k) x).2)) ∧ Below w0.heap.size w0 wr

end Go.Proofs.YtoakhcajhfponaaDoor.C10
