/-
  The text of runs, in plain words; it is read as those runs.
-/
import Derived.Test.YtpmnkhklfoknhaaGreatDoorTextP
import Derived.Test.YtpmnkhklfoknhaaGreatDoorItoaPC9
import Derived.Test.YtpmnkhklfoknhaaGreatDoorHReadWC9
namespace Go.Proofs.YtpmnkhklfoknhaaGreatDoor.C9
open Go.RowKit
set_option linter.unusedVariables false

theorem word_row {s : ByteArray} (h : wordB s = true) : rowB s = true ∧ s.size ≤ 40 := by
  unfold wordB at h
  have h3 : s.size = s.data.toList.length := by simp
  cases hd : s.data.toList with
  | nil => rw [hd] at h; cases h
  | cons c r =>
    rw [hd] at h h3
    rw [wordL, Bool.and_eq_true, Bool.and_eq_true] at h
    obtain ⟨⟨_, h1⟩, h2⟩ := h
    have h1 := of_decide_eq_true h1
    rw [List.length_cons] at h3
    refine ⟨rowB_of (by omega) fun b hb => ?_, by omega⟩
    rw [hd] at hb
    have := List.all_eq_true.1 h2 b hb
    unfold wch at this
    rw [decide_eq_true_iff] at this
    omega
def endB (n : Int) : ByteArray := if n = 1 then DONE else if n = 2 then LOST else STOP
theorem endB_row (n : Int) : rowB (endB n) = true := by
  unfold endB
  split
  · decide
  · split <;> decide
theorem endB_N {n : Int} (h : 1 ≤ n ∧ n ≤ 3) : endN (endB n) = n := by
  obtain rfl | rfl | rfl : n = 1 ∨ n = 2 ∨ n = 3 := by omega
  · decide
  · decide
  · decide
def wordsT (r : Run) : List ByteArray := [itoaB r.from_, itoaB r.to_, endB r.end_, r.id_, r.worker]
def textT (l : List Run) : List UInt8 := l.flatMap (fun r => lineL (wordsT r))
structure RunGood (r : Run) : Prop where
  id_ : rowB r.id_ = true
  worker : rowB r.worker = true
  from_ : 0 ≤ r.from_ ∧ r.from_ ≤ 1000000000
  to_ : 0 ≤ r.to_ ∧ r.to_ ≤ 1000000000
  end_ : 1 ≤ r.end_ ∧ r.end_ ≤ 3
  isz : r.id_.size ≤ 40
  wsz : r.worker.size ≤ 40
theorem words_row {r : Run} (h : RunGood r) : ∀ w ∈ wordsT r, rowB w = true := by
  intro w hw
  simp only [wordsT, List.mem_cons, List.not_mem_nil, or_false] at hw
  rcases hw with rfl | rfl | rfl | rfl | rfl
  · exact itoa_row h.from_.1 (by have := h.from_.2; omega)
  · exact itoa_row h.to_.1 (by have := h.to_.2; omega)
  · exact endB_row _
  · exact h.id_
  · exact h.worker
theorem words_line {r : Run} (h : RunGood r) : wordsOf (bsL (Lib.join ((wordsT r).map (·.data.toList)) [32])) = wordsT r :=
  words_join _ _ fun w hw => (row_no (words_row h w hw)).1
theorem line_good {r : Run} (h : RunGood r) : lineB (wordsT r) = true ∧ lineV (wordsT r) = r := by
  have h1 := numR_itoa h.from_.1 (by have := h.from_.2; omega)
  have h2 := numR_itoa h.to_.1 (by have := h.to_.2; omega)
  have h3 := endB_N h.end_
  constructor
  · unfold wordsT
    rw [lineB, h1, h2, h3, h.id_, h.worker, decide_eq_true (by have := h.end_.1; omega)]; rfl
  · unfold wordsT
    rw [lineV, h1, h2, h3]
theorem rdF_text : ∀ (l : List Run) (f n : Nat) (acc : List Run), (∀ r ∈ l, RunGood r) → (textT l).length ≤ f → rdF f (textT l) n acc = (acc ++ l, 0)
  | [], f, n, acc, _, _ => by
    show rdF f [] n acc = _
    rw [List.append_nil]
    cases f with
    | zero => rfl
    | succ f => rw [rdF, if_pos rfl]
  | r :: l, f, n, acc, hg, hf => by
    have e : textT (r :: l) = lineL (wordsT r) ++ textT l := rfl
    have hlen : (textT (r :: l)).length = (lineL (wordsT r)).length + (textT l).length := by rw [e, List.length_append]
    have h1 := line_len (wordsT r)
    obtain ⟨f, rfl⟩ : ∃ g, f = g + 1 := ⟨f - 1, by omega⟩
    have hr := hg r List.mem_cons_self
    have hc := line_cut (wordsT r) (textT l) (fun w hw => (row_no (words_row hr w hw)).2)
    obtain ⟨g1, g2⟩ := line_good hr
    rw [e, rdF, if_neg (line_ne _ _), hc]
    simp only
    rw [words_line hr, g1, g2, Bool.and_true, if_pos rfl, rdF_text l f (n + 1) (acc ++ [r]) (fun x hx => hg x (List.mem_cons_of_mem _ hx)) (by omega), List.append_assoc]
    rfl
theorem runs_in : ∀ (l : List Run) (p : Option Run), runsErr p l = 0 → ∀ r ∈ l, RunGood r
  | x :: s, p, h, r, hr => by
    unfold runsErr at h
    by_cases a : wordB x.id_ = true ∧ wordB x.worker = true
    · rw [if_pos a] at h
      by_cases b : inR 0 1000000000 x.from_ = true ∧ inR 0 1000000000 x.to_ = true
      · rw [if_pos b] at h
        by_cases c : x.to_ < x.from_
        · rw [if_pos c] at h; cases h
        · rw [if_neg c] at h
          by_cases d : inR 1 3 x.end_ = true
          · rw [if_pos d] at h
            by_cases e : p.map (fun q => runLt q x) = some false
            · rw [if_pos e] at h; cases h
            · rw [if_neg e] at h
              rcases List.mem_cons.1 hr with rfl | hr
              · have a1 := word_row a.1
                have a2 := word_row a.2
                exact ⟨a1.1, a2.1, inR_true b.1, inR_true b.2, inR_true d, a1.2, a2.2⟩
              · exact runs_in s _ h r hr
          · rw [if_neg d] at h; cases h
      · rw [if_neg b] at h; cases h
    · rw [if_neg a] at h; cases h
theorem runs_good {l : List Run} (h : runsF l = 0) : ∀ r ∈ l, RunGood r := by
  unfold runsF at h
  by_cases h0 : l.length ≤ 4000
  · rw [if_pos h0] at h
    exact runs_in l none h
  · rw [if_neg h0] at h; cases h
theorem readR_text {l : List Run} (h : runsF l = 0) (hs : (textT l).length ≤ 600000) : readR (bsL (textT l)) = (l, 0, 0) := by
  have hsz : (bsL (textT l)).size = (textT l).length := bsL_size _
  have hd : (bsL (textT l)).data.toList = textT l := rfl
  have hr := rdF_text l (textT l).length 1 [] (runs_good h) (Nat.le_refl _)
  rw [List.nil_append] at hr
  unfold readR
  rw [hsz, hd, if_pos hs, hr]
  simp only [h, if_true]
def textR (l : List Run) : ByteArray × Int := if runsF l = 0 then (if (textT l).length ≤ 600000 then (bsL (textT l), 0) else (⟨#[]⟩, 2)) else (⟨#[]⟩, runsF l)
end Go.Proofs.YtpmnkhklfoknhaaGreatDoor.C9
