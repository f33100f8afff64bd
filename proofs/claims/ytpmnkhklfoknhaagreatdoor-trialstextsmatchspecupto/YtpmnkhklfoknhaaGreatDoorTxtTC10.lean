/-
  The text of a history, in plain words; it is read as that history.
-/
import Derived.Test.YtpmnkhklfoknhaaGreatDoorTextP
import Derived.Test.YtpmnkhklfoknhaaGreatDoorItoaPC10
import Derived.Test.YtpmnkhklfoknhaaGreatDoorHReadC10
namespace Go.Proofs.YtpmnkhklfoknhaaGreatDoor.C10
open Go.RowKit
set_option linter.unusedVariables false

theorem path_row {s : ByteArray} (h : pathB s = true) : rowB s = true := by
  unfold pathB at h
  rw [Bool.and_eq_true] at h
  obtain ⟨h1, h2⟩ := h
  refine rowB_of (by have := inR_true h1; omega) fun b hb => ?_
  have hd : (parts s).map (·.data.toList) = Lib.splitK [47] 0 (Lib.countB s ⟨#[47]⟩) s.data.toList := Lib.splitB_data ⟨#[47]⟩ 0 _ s
  rcases mem_splitK (c := 47) (Lib.countB s ⟨#[47]⟩) s.data.toList b hb with rfl | ⟨p, hp, hbp⟩
  · decide
  · rw [← hd] at hp
    obtain ⟨q, hq, rfl⟩ := List.mem_map.1 hp
    have := List.all_eq_true.1 h2 q hq
    unfold partB partL at this
    simp only [Bool.and_eq_true] at this
    have := List.all_eq_true.1 this.1.1.1 b hbp
    unfold pch at this
    rw [decide_eq_true_iff] at this
    omega
theorem hexb (b : UInt8) : hcut.contains b = decide ((48 ≤ b.toNat ∧ b.toNat ≤ 57) ∨ (97 ≤ b.toNat ∧ b.toNat ≤ 102)) := by
  have := byte_all (p := fun b => hcut.contains b == decide ((48 ≤ b.toNat ∧ b.toNat ≤ 57) ∨ (97 ≤ b.toNat ∧ b.toNat ≤ 102))) (by decide +kernel) b
  simpa using this
theorem dig_rowB {s : ByteArray} (h : digB s = true) : rowB s = true := by
  unfold digB at h
  rw [Bool.and_eq_true] at h
  obtain ⟨h1, h2⟩ := h
  have h1 : (s.size : Int) = 16 := by simpa using h1
  refine rowB_of (by omega) fun b hb => ?_
  have := List.all_eq_true.1 h2 b hb
  rw [hexb, decide_eq_true_iff] at this
  omega

def passB (p : Bool) : ByteArray := if p = true then PASS else FAIL
def wordsT (r : TestRun) : List ByteArray := [itoaB r.at_, r.test, r.key, passB r.pass, itoaB r.seconds]
def textT (l : List TestRun) : List UInt8 := l.flatMap (fun r => lineL (wordsT r))
structure RunGood (r : TestRun) : Prop where
  test : rowB r.test = true
  key : rowB r.key = true
  at0 : 0 ≤ r.at_ ∧ r.at_ ≤ 1000000000
  sec : 0 ≤ r.seconds ∧ r.seconds ≤ 100000
  tsz : r.test.size ≤ 200
  ksz : r.key.size = 16
theorem pass_row (p : Bool) : rowB (passB p) = true := by cases p <;> decide
theorem pass_dec (p : Bool) : decide (passB p = PASS) = p := by cases p <;> decide
theorem pass_or (p : Bool) : (decide (passB p = PASS) || decide (passB p = FAIL)) = true := by cases p <;> decide
theorem words_row {r : TestRun} (h : RunGood r) : ∀ w ∈ wordsT r, rowB w = true := by
  intro w hw
  simp only [wordsT, List.mem_cons, List.not_mem_nil, or_false] at hw
  rcases hw with rfl | rfl | rfl | rfl | rfl
  · exact itoa_row h.at0.1 (by have := h.at0.2; omega)
  · exact h.test
  · exact h.key
  · exact pass_row _
  · exact itoa_row h.sec.1 (by have := h.sec.2; omega)
theorem words_line {r : TestRun} (h : RunGood r) : wordsOf (bsL (Lib.join ((wordsT r).map (·.data.toList)) [32])) = wordsT r :=
  words_join _ _ fun w hw => (row_no (words_row h w hw)).1
theorem line_good {r : TestRun} (h : RunGood r) : lineB (wordsT r) = true ∧ lineV (wordsT r) = r := by
  have h1 := numR_itoa h.at0.1 (by have := h.at0.2; omega)
  have h2 := numR_itoa h.sec.1 (by have := h.sec.2; omega)
  constructor
  · unfold wordsT
    rw [lineB_r, h.test, h.key, pass_or, h1, h2]; rfl
  · unfold wordsT
    rw [lineV, h1, h2, pass_dec]
theorem rdF_text : ∀ (l : List TestRun) (f n : Nat) (acc : List TestRun), (∀ r ∈ l, RunGood r) → (textT l).length ≤ f → rdF f (textT l) n acc = (acc ++ l, 0)
  | [], f, n, acc, _, _ => by
    show rdF f [] n acc = _
    rw [List.append_nil]
    cases f with
    | zero => rfl
    | succ f => rw [rdF, if_pos rfl]
  | r :: l, f, n, acc, hg, hf => by
    have e : textT (r :: l) = lineL (wordsT r) ++ textT l := rfl
    have hlen : (textT (r :: l)).length = (lineL (wordsT r)).length + (textT l).length := by rw [e, List.length_append]
    have h1 := line_len (wordsT r)
    obtain ⟨f, rfl⟩ : ∃ g, f = g + 1 := ⟨f - 1, by omega⟩
    have hr := hg r List.mem_cons_self
    have hc := line_cut (wordsT r) (textT l) (fun w hw => (row_no (words_row hr w hw)).2)
    obtain ⟨g1, g2⟩ := line_good hr
    rw [e, rdF, if_neg (line_ne _ _), hc]
    simp only
    rw [words_line hr, g1, g2, Bool.and_true, if_pos rfl, rdF_text l f (n + 1) (acc ++ [r]) (fun x hx => hg x (List.mem_cons_of_mem _ hx)) (by omega), List.append_assoc]
    rfl
theorem hist_good {l : List TestRun} (h : histF l = 0) : ∀ r ∈ l, RunGood r := by
  unfold histF at h
  by_cases h0 : l.length ≤ 3000
  · rw [if_pos h0] at h
    have key : ∀ (l : List TestRun) (p : Option Int), histErr p l = 0 → ∀ r ∈ l, pathB r.test = true ∧ digB r.key = true := by
      intro l
      induction l with
      | nil => intro p _ r hr; cases hr
      | cons x s ih =>
        intro p h r hr
        unfold histErr at h
        by_cases a : pathB x.test = true
        · rw [if_pos a] at h
          by_cases b : digB x.key = true
          · rw [if_pos b] at h
            by_cases c : inR 0 1000000000 x.at_ = true ∧ inR 0 100000 x.seconds = true
            · rw [if_pos c] at h
              by_cases d : p.map (fun t => decide (x.at_ < t)) = some true
              · rw [if_pos d] at h; cases h
              · rw [if_neg d] at h
                rcases List.mem_cons.1 hr with rfl | hr
                · exact ⟨a, b⟩
                · exact ih _ h r hr
            · rw [if_neg c] at h; cases h
          · rw [if_neg b] at h; cases h
        · rw [if_neg a] at h; cases h
    intro r hr
    obtain ⟨a, b⟩ := key l none h r hr
    obtain ⟨c1, c2, c3, c4⟩ := hist_in l none h r hr
    have a2 := a
    have b2 := b
    unfold pathB at a2
    unfold digB at b2
    rw [Bool.and_eq_true] at a2 b2
    have a3 := inR_true a2.1
    have b3 : (r.key.size : Int) = 16 := by simpa using b2.1
    exact ⟨path_row a, dig_rowB b, ⟨c1, c2⟩, ⟨c3, c4⟩, by omega, by omega⟩
  · rw [if_neg h0] at h; cases h
theorem readR_text {l : List TestRun} (h : histF l = 0) (hs : (textT l).length ≤ 900000) : readR (bsL (textT l)) = (l, 0, 0) := by
  have hsz : (bsL (textT l)).size = (textT l).length := bsL_size _
  have hd : (bsL (textT l)).data.toList = textT l := rfl
  have hr := rdF_text l (textT l).length 1 [] (hist_good h) (Nat.le_refl _)
  rw [List.nil_append] at hr
  unfold readR
  rw [hsz, hd, if_pos hs, hr]
  simp only [h, if_true]
def textR (l : List TestRun) : ByteArray × Int := if histF l = 0 then (if (textT l).length ≤ 900000 then (bsL (textT l), 0) else (⟨#[]⟩, 2)) else (⟨#[]⟩, histF l)
end Go.Proofs.YtpmnkhklfoknhaaGreatDoor.C10
