/-
  tallies, verdict.
-/
import Derived.Test.YtpmnkhklfoknhaaGreatDoorIdC10
import Derived.Test.YtpmnkhklfoknhaaGreatDoorHistC10
namespace Go.Proofs.YtpmnkhklfoknhaaGreatDoor.C10
open Go.RowKit Go.Maps
set_option linter.unusedVariables false

/-- how many runs with that test and key passed, failed -/
def tal : List TestRun → ByteArray × ByteArray → Int × Int
  | [], _ => (0, 0)
  | r :: s, x => if (r.test, r.key) = x then (if r.pass = true then ((tal s x).1 + 1, (tal s x).2) else ((tal s x).1, (tal s x).2 + 1)) else tal s x
def talF (l : List TestRun) (x : ByteArray × ByteArray) : Option (Int × Int) := if tal l x = (0, 0) then none else some (tal l x)
def valT (x : Int × Int) : Value := .agg #[.int .i64 x.1, .int .i64 x.2]
theorem injT : InjV valT := fun a b h => by
  simp only [valT, Value.agg.injEq, Array.mk.injEq, List.cons.injEq, Value.int.injEq, true_and, and_true] at h
  exact Prod.ext h.1 h.2

theorem tal_nonneg : ∀ (l : List TestRun) (x : ByteArray × ByteArray), 0 ≤ (tal l x).1 ∧ 0 ≤ (tal l x).2 ∧ (tal l x).1 + (tal l x).2 ≤ l.length
  | [], x => by simp [tal]
  | r :: s, x => by
    have := tal_nonneg s x
    rw [tal]
    simp only [List.length_cons]
    split
    · split <;> simp only <;> omega
    · omega
theorem tal_snoc : ∀ (l : List TestRun) (r : TestRun) (x : ByteArray × ByteArray), tal (l ++ [r]) x = if (r.test, r.key) = x then (if r.pass = true then ((tal l x).1 + 1, (tal l x).2) else ((tal l x).1, (tal l x).2 + 1)) else tal l x
  | [], r, x => by simp [tal]
  | y :: s, r, x => by
    have ih := tal_snoc s r x
    rw [List.cons_append, tal, ih, tal]
    by_cases h1 : (y.test, y.key) = x
    · by_cases h2 : (r.test, r.key) = x
      · by_cases p1 : y.pass = true
        · by_cases p2 : r.pass = true
          · simp [h1, h2, p1, p2]
          · simp [h1, h2, p1, p2]
        · by_cases p2 : r.pass = true
          · simp [h1, h2, p1, p2]
          · simp [h1, h2, p1, p2]
      · simp [h1, h2]
    · simp [h1]
theorem talF_snoc (l : List TestRun) (r : TestRun) : upd (talF l) (r.test, r.key) (tal (l ++ [r]) (r.test, r.key)) = talF (l ++ [r]) := by
  funext x
  unfold upd talF
  rw [tal_snoc l r x, tal_snoc l r (r.test, r.key)]
  by_cases h : x = (r.test, r.key)
  · subst h
    have h0 := tal_nonneg l (r.test, r.key)
    simp only [if_true]
    split
    · rw [if_neg]
      intro e
      have := congrArg Prod.fst e
      simp only at this
      omega
    · rw [if_neg]
      intro e
      have := congrArg Prod.snd e
      simp only at this
      omega
  · simp only [if_neg h, if_neg (show ¬ (r.test, r.key) = x from fun e => h e.symm)]
theorem talF_getD (l : List TestRun) (x : ByteArray × ByteArray) : (talF l x).getD (0, 0) = tal l x := by
  unfold talF
  split
  · rename_i h; rw [h]; rfl
  · rfl

end Go.Proofs.YtpmnkhklfoknhaaGreatDoor.C10
