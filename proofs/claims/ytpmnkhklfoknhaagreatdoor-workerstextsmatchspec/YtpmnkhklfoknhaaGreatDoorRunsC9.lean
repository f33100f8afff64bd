/-
  The order of runs: compareRuns of the program, before of the reference.
-/
import Derived.Test.YtpmnkhklfoknhaaGreatDoorTypesM
import Derived.Test.YtpmnkhklfoknhaaGreatDoorWordPC9
import Derived.Test.YtpmnkhklfoknhaaGreatDoorMomentC9
import Derived.Test.YtpmnkhklfoknhaaGreatDoorRead
import Derived.Test.YtpmnkhklfoknhaaGreatDoorOrC9
import Derived.Test.YtpmnkhklfoknhaaGreatDoorShelf
import Derived.Deep.RegionHeld3
namespace Go.Proofs.YtpmnkhklfoknhaaGreatDoor.C9
open Go.RowKit
set_option linter.unusedVariables false

def runLt (a b : Run) : Bool := if a.from_ = b.from_ then (if a.id_ = b.id_ then ltS a.worker b.worker else ltS a.id_ b.id_) else decide (a.from_ < b.from_)
def runCmp (a b : Run) : Int := orF [Lib.compareInt a.from_ b.from_, cmpS a.id_ b.id_, cmpS a.worker b.worker]

theorem runCmp_eq (a b : Run) : runCmp a b = if a.from_ = b.from_ then (if a.id_ = b.id_ then cmpS a.worker b.worker else cmpS a.id_ b.id_) else if a.from_ < b.from_ then -1 else 1 := by
  unfold runCmp
  simp only [orF]
  by_cases h : a.from_ = b.from_
  · have h0 : Lib.compareInt a.from_ b.from_ = 0 := by
      unfold Lib.compareInt
      rw [if_neg (by omega), if_neg (by omega)]
    rw [if_pos h0, if_pos h]
    by_cases h2 : a.id_ = b.id_
    · rw [if_pos ((cmpS_zero _ _).2 h2), if_pos h2]
      split
      · rename_i h3; exact h3.symm
      · rfl
    · rw [if_neg (fun e => h2 ((cmpS_zero _ _).1 e)), if_neg h2]
  · rw [if_neg h]
    by_cases h2 : a.from_ < b.from_
    · have h0 : Lib.compareInt a.from_ b.from_ = -1 := by
        unfold Lib.compareInt
        rw [if_pos h2]
      rw [h0, if_pos h2]; rfl
    · have h0 : Lib.compareInt a.from_ b.from_ = 1 := by
        unfold Lib.compareInt
        rw [if_neg h2, if_pos (by omega)]
      rw [h0, if_neg h2]; rfl
theorem runCmp_le {a b : Run} (h : runLt b a = false) : runCmp a b ≤ 0 := by
  rw [runCmp_eq]
  unfold runLt at h
  by_cases h1 : a.from_ = b.from_
  · rw [if_pos h1]
    rw [if_pos h1.symm] at h
    by_cases h2 : a.id_ = b.id_
    · rw [if_pos h2]
      rw [if_pos h2.symm, ltS_cmp, cmpS_swap a.worker b.worker] at h
      have := of_decide_eq_false h
      rcases cmpS_range a.worker b.worker with h3 | h3 | h3 <;> omega
    · rw [if_neg h2]
      rw [if_neg (fun e => h2 e.symm), ltS_cmp, cmpS_swap a.id_ b.id_] at h
      have := of_decide_eq_false h
      rcases cmpS_range a.id_ b.id_ with h3 | h3 | h3 <;> omega
  · rw [if_neg h1]
    rw [if_neg (fun e => h1 e.symm)] at h
    have := of_decide_eq_false h
    rw [if_pos (by omega)]
    decide
theorem runCmp_gt {a b : Run} (h : runLt b a = true) : 0 < runCmp a b := by
  rw [runCmp_eq]
  unfold runLt at h
  by_cases h1 : a.from_ = b.from_
  · rw [if_pos h1]
    rw [if_pos h1.symm] at h
    by_cases h2 : a.id_ = b.id_
    · rw [if_pos h2]
      rw [if_pos h2.symm, ltS_cmp, cmpS_swap a.worker b.worker] at h
      have := of_decide_eq_true h
      omega
    · rw [if_neg h2]
      rw [if_neg (fun e => h2 e.symm), ltS_cmp, cmpS_swap a.id_ b.id_] at h
      have := of_decide_eq_true h
      omega
  · rw [if_neg h1]
    rw [if_neg (fun e => h1 e.symm)] at h
    have := of_decide_eq_true h
    rw [if_neg (by omega)]
    decide
theorem before_any (a b : Run) (w : World) (c : Bool) (hF : runLt a b = c) :
    Calls Tryz.prog 47 #[.agg #[.string a.id_, .string a.worker, .int .i64 a.from_, .int .i64 a.to_, .int .i64 a.end_], .agg #[.string b.id_, .string b.worker, .int .i64 b.from_, .int .i64 b.to_, .int .i64 b.end_]] w fun e w' => e = .returned (.bool c) ∧ Below w.heap.size w w' := by
  have hba := ((Below.refl w.heap.size w).alloc (Nat.le_refl _) (.cells #[.string a.id_, .string a.worker, .int .i64 a.from_, .int .i64 a.to_, .int .i64 a.end_] 28)).alloc (by simp) (.cells #[.string b.id_, .string b.worker, .int .i64 b.from_, .int .i64 b.to_, .int .i64 b.end_] 28)
  unfold runLt at hF
  have hbaH := Lib.hid hba
  clear hba
  by_cases h1 : a.from_ = b.from_
  · rw [if_pos h1] at hF
    have h1' : (a.from_ != b.from_) = false := by simpa using h1
    clear h1
    by_cases h2 : a.id_ = b.id_
    · rw [if_pos h2] at hF
      have h3 := nbne_data h2
      clear h2
      have hFH := Lib.hid hF
      clear hF
      go_enter Tryz.func47, Tryz.ntmps47
      go_wp2
      go_ret
      exact ⟨ret_bool hFH.out, hbaH.out⟩
    · rw [if_neg h2] at hF
      have h3 := bne_data h2
      clear h2
      have hFH := Lib.hid hF
      clear hF
      go_enter Tryz.func47, Tryz.ntmps47
      go_wp2
      go_ret
      exact ⟨ret_bool hFH.out, hbaH.out⟩
  · rw [if_neg h1] at hF
    have h2 : (a.from_ != b.from_) = true := by simpa using h1
    clear h1
    have hFH := Lib.hid hF
    clear hF
    go_enter Tryz.func47, Tryz.ntmps47
    go_wp2
    go_ret
    exact ⟨ret_bool hFH.out, hbaH.out⟩

theorem or_cells {w : World} {A : Option Addr} {b : Nat} {x y z : Int} (hA : A = some ⟨b, 0, none⟩) (h0 : w.cell? ⟨b, 0, none⟩ = some (.int .i64 x)) (h1 : w.cell? ⟨b, 1, none⟩ = some (.int .i64 y)) (h2 : w.cell? ⟨b, 2, none⟩ = some (.int .i64 z)) (hx : I64 x := by trivial) (hy : I64 y := by trivial) (hz : I64 z := by trivial) :
    SlAt RInt w A 3 [x, y, z] := by
  refine ⟨rfl, fun _ => ⟨b, 0, hA, fun i v hv j u hu => ?_⟩, ?_⟩
  · match j, hu with
    | 0, hu =>
      simp only [RInt, List.getElem?_cons_zero, Option.some.injEq] at hu
      subst hu
      match i, hv with
      | 0, hv => simp only [List.getElem?_cons_zero, Option.some.injEq] at hv; subst hv; exact h0
      | 1, hv => simp only [List.getElem?_cons_succ, List.getElem?_cons_zero, Option.some.injEq] at hv; subst hv; exact h1
      | 2, hv => simp only [List.getElem?_cons_succ, List.getElem?_cons_zero, Option.some.injEq] at hv; subst hv; exact h2
      | n + 3, hv => simp at hv
    | n + 1, hu => simp [RInt] at hu
  · intro v hv
    simp only [List.mem_cons, List.not_mem_nil, or_false] at hv
    rcases hv with rfl | rfl | rfl
    · exact hx
    · exact hy
    · exact hz
theorem I64_of {x : Int} (h : x = -1 ∨ x = 0 ∨ x = 1) : I64 x := by unfold I64; omega
theorem cmpI_range (x y : Int) : Lib.compareInt x y = -1 ∨ Lib.compareInt x y = 0 ∨ Lib.compareInt x y = 1 := by
  unfold Lib.compareInt
  split
  · exact Or.inl rfl
  · split
    · exact Or.inr (Or.inr rfl)
    · exact Or.inr (Or.inl rfl)

theorem compareRuns_any (a b : Run) (w : World) (c : Int) (hF : runCmp a b = c) :
    Calls Tryz.prog 41 #[.agg #[.string a.id_, .string a.worker, .int .i64 a.from_, .int .i64 a.to_, .int .i64 a.end_], .agg #[.string b.id_, .string b.worker, .int .i64 b.from_, .int .i64 b.to_, .int .i64 b.end_]] w fun e w' => e = .returned (.int .i64 c) ∧ Below w.heap.size w w' := by
  have hba := ((Below.refl w.heap.size w).alloc (Nat.le_refl _) (.cells #[.string a.id_, .string a.worker, .int .i64 a.from_, .int .i64 a.to_, .int .i64 a.end_] 28)).alloc (by simp) (.cells #[.string b.id_, .string b.worker, .int .i64 b.from_, .int .i64 b.to_, .int .i64 b.end_] 28)
  obtain ⟨w0, hw0⟩ : ∃ w0, w0 = (w.alloc (.cells #[.string a.id_, .string a.worker, .int .i64 a.from_, .int .i64 a.to_, .int .i64 a.end_] 28)).alloc (.cells #[.string b.id_, .string b.worker, .int .i64 b.from_, .int .i64 b.to_, .int .i64 b.end_] 28) := ⟨_, rfl⟩
  rw [← hw0] at hba
  have hbaH := Lib.hid hba
  clear hba
  have hFH := Lib.hid hF
  clear hF
  have hw0H := Lib.hid hw0
  clear hw0
  go_enter Tryz.func41, Tryz.ntmps41
  go_wp2_with fail
  go_region_held3 (fun w' => w'.cell? ⟨w.heap.size, 2, none⟩ = some (.int .i64 a.from_) ∧ w'.cell? ⟨w.heap.size + 1, 2, none⟩ = some (.int .i64 b.from_) ∧ w'.cell? ⟨w.heap.size, 0, none⟩ = some (.string a.id_) ∧ w'.cell? ⟨w.heap.size + 1, 0, none⟩ = some (.string b.id_) ∧ w'.cell? ⟨w.heap.size, 1, none⟩ = some (.string a.worker) ∧ w'.cell? ⟨w.heap.size + 1, 1, none⟩ = some (.string b.worker)) (go_keep)
    (first
      | (go_at_call 70; refine (Tryz.cmp_Compare_int _ _ _).mono ?_; rintro e w1 ⟨rfl, rfl⟩)
      | (go_at_call 71; refine (Tryz.strings_Compare _ _ _).mono ?_; rintro e w1 ⟨rfl, rfl⟩)
      | (go_at_call 69; refine (or_any _ 3 _ [Lib.compareInt a.from_ b.from_, cmpS a.id_ b.id_, cmpS a.worker b.worker] _ (by omega) (or_cells rfl ?_ ?_ ?_ (I64_of (cmpI_range _ _)) (I64_of (cmpS_range _ _)) (I64_of (cmpS_range _ _))) c (by exact hFH.out)).mono ?_; (simp [go_sem]); (simp [go_sem]; rfl); (simp [go_sem]; rfl); rintro e w1 ⟨rfl, rfl⟩))
  go_wp2
  go_ret
  obtain rfl := hw0H.out
  exact ⟨rfl, by first | exact bel_drewN (Below.alloc hbaH.out (by have := hbaH.out.size; omega) _) _ | exact (Below.alloc hbaH.out (by have := hbaH.out.size; omega) _).drew⟩
end Go.Proofs.YtpmnkhklfoknhaaGreatDoor.C9
