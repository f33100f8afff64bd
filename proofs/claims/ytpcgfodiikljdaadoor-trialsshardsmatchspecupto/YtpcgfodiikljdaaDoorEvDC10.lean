/-
  What Longest is of what Shards made: in plain words.
-/
import Derived.Test.YtpcgfodiikljdaaDoorShPC10
import Derived.Test.YtpcgfodiikljdaaDoorLoPC10
import Derived.Test.YtpcgfodiikljdaaDoorCaseOfC10
namespace Go.Proofs.YtpcgfodiikljdaaDoor.C10
open Go.RowKit Go.Sort
set_option linter.unusedVariables false

theorem same_perm {f : TestCase → Int} {l m : List TestCase} (h : SameCls f l m) : l.Perm m := by
  refine List.perm_iff_count.2 fun x => ?_
  have h1 := congrArg (List.count x) (h (f x))
  unfold cls at h1
  rw [List.count_filter (by simp), List.count_filter (by simp)] at h1
  exact h1
theorem sortB_perm (l : List ByteArray) : (sortB l).Perm l := by
  unfold sortB
  have h := (List.mergeSort_perm (dat l) (fun x y => decide (x ≤ y))).map bsOf
  have h2 : (dat l).map bsOf = l := und_dat l
  rw [h2] at h
  exact h
theorem flat_perm : ∀ Rs : List (List TestCase), ((Rs.map fun r => sortB (nms r)).flatten).Perm (nms Rs.flatten)
  | [] => by simp [nms]
  | r :: Rs => by
    have h := flat_perm Rs
    rw [List.map_cons, List.flatten_cons, List.flatten_cons]
    have e : nms (r ++ Rs.flatten) = nms r ++ nms Rs.flatten := by simp [nms]
    rw [e]
    exact (sortB_perm _).append h
theorem mostS_spec : ∀ (l : List TestCase) (m : Int), m ≤ mostS l m ∧ (∀ c ∈ l, c.seconds ≤ mostS l m) ∧ (mostS l m = m ∨ ∃ c ∈ l, c.seconds = mostS l m)
  | [], m => ⟨Int.le_refl _, fun c hc => (by cases hc), .inl rfl⟩
  | c :: r, m => by
    unfold mostS
    obtain ⟨k, hk⟩ : ∃ k, (if m < c.seconds then c.seconds else m) = k := ⟨_, rfl⟩
    have h1 : m ≤ k ∧ c.seconds ≤ k ∧ (k = m ∨ c.seconds = k) := by rw [← hk]; split <;> omega
    rw [hk]
    obtain ⟨a, b, d⟩ := mostS_spec r k
    refine ⟨by omega, fun x hx => ?_, ?_⟩
    · rcases List.mem_cons.1 hx with rfl | hx
      · omega
      · exact b x hx
    · rcases d with d | ⟨x, hx, d⟩
      · rcases h1.2.2 with e | e
        · exact .inl (by rw [d, e])
        · exact .inr ⟨c, List.mem_cons_self, by rw [d, e]⟩
      · exact .inr ⟨x, List.mem_cons_of_mem _ hx, d⟩
theorem mostV_spec (cs : List TestCase) : ∀ (l : List (List ByteArray)) (m : Int), m ≤ mostV cs l m ∧ (∀ r ∈ l, sumV cs r ≤ mostV cs l m) ∧ (mostV cs l m = m ∨ ∃ r ∈ l, sumV cs r = mostV cs l m)
  | [], m => ⟨Int.le_refl _, fun c hc => (by cases hc), .inl rfl⟩
  | c :: r, m => by
    unfold mostV
    rw [List.foldl_cons]
    obtain ⟨k, hk⟩ : ∃ k, (if m < sumV cs c then sumV cs c else m) = k := ⟨_, rfl⟩
    have h1 : m ≤ k ∧ sumV cs c ≤ k ∧ (k = m ∨ sumV cs c = k) := by rw [← hk]; split <;> omega
    rw [hk]
    obtain ⟨a, b, d⟩ := mostV_spec cs r k
    unfold mostV at a b d
    refine ⟨by omega, fun x hx => ?_, ?_⟩
    · rcases List.mem_cons.1 hx with rfl | hx
      · omega
      · exact b x hx
    · rcases d with d | ⟨x, hx, d⟩
      · rcases h1.2.2 with e | e
        · exact .inl (by rw [d, e])
        · exact .inr ⟨c, List.mem_cons_self, by rw [d, e]⟩
      · exact .inr ⟨x, List.mem_cons_of_mem _ hx, d⟩
theorem long_even {t : Test} {N : Nat} {M : List TestCase} (h0 : testF t = 0) (hN : 1 ≤ N) (hN2 : N ≤ 100) (hM : SameCls fS M t.cases.l) :
    ∃ mx, longF t (shRows N M) = (mx, 0) ∧ 0 ≤ mx ∧ mx ≤ 50000000 ∧ mx * (N : Int) ≤ sec t.cases.l + mostS t.cases.l 0 * (N : Int) ∧ sec t.cases.l ≤ mx * (N : Int) ∧ mostS t.cases.l 0 ≤ mx := by
  obtain ⟨h1, h2, h3, h4⟩ := testF_ok h0
  obtain ⟨cs, hcs⟩ : ∃ l, t.cases.l = l := ⟨_, rfl⟩
  rw [hcs] at h1 h2 h3 h4 hM ⊢
  have hp := same_perm hM
  have hc : ∀ c ∈ M, 0 ≤ c.seconds ∧ c.seconds ≤ 100000 := fun c hc => h3 c (hp.mem_iff.1 hc)
  obtain ⟨m0, m1, m2⟩ := mostS_spec cs 0
  have hD := dealt_ok (n := N) (most := mostS cs 0) hN m0 M (fun c hc2 => ⟨(hc c hc2).1, m1 c (hp.mem_iff.1 hc2)⟩)
  have hNm : Names cs := h4
  have hrl : (shRows N M).length = N := by unfold shRows; rw [List.length_map, dealt_len]
  have hfl : ((shRows N M).flatten).Perm (cs.map (·.name)) := (flat_perm (dealt N M)).trans ((hD.perm.trans hp).map _)
  have hlo := longO_ok hNm (shRows N M) [] 0 (fun r hr s hs => hfl.mem_iff.1 (List.mem_flatten.2 ⟨r, hr, hs⟩)) (by rw [List.append_nil]; exact hfl.nodup_iff.2 h4) (by rw [List.length_nil, Nat.zero_add, hfl.length_eq, List.length_map])
  obtain ⟨v0, v1, v2⟩ := mostV_spec cs (shRows N M) 0
  have hsum : ∀ r ∈ dealt N M, sumV cs (sortB (nms r)) = sec r := fun r hr => by
    rw [sumV_perm (sortB_perm _)]
    exact sumV_names hNm fun c hc2 => hp.mem_iff.1 (hD.perm.mem_iff.1 (List.mem_flatten.2 ⟨r, hr, hc2⟩))
  have hrow : ∀ r ∈ dealt N M, sec r ≤ mostV cs (shRows N M) 0 := fun r hr => by
    rw [← hsum r hr]; exact v1 _ (List.mem_map.2 ⟨r, hr, rfl⟩)
  have hsM : sec M = sec cs := sum_perm (hp.map _)
  have hds := dealt_sec (n := N) M hc
  have hl5 : M.length ≤ 500 := by rw [hp.length_eq]; exact h2
  refine ⟨mostV cs (shRows N M) 0, ?_, v0, ?_, ?_, ?_, ?_⟩
  · unfold longF
    rw [if_pos h0, hrl, if_pos hN2, hcs]
    exact hlo
  · rcases v2 with e | ⟨x, hx, e⟩
    · omega
    · obtain ⟨r, hr, rfl⟩ := List.mem_map.1 hx
      rw [hsum r hr] at e
      have := hds r hr
      omega
  · rcases v2 with e | ⟨x, hx, e⟩
    · rw [e, Int.zero_mul]
      have a : 0 ≤ sec cs := by
        rw [← hsM]
        have := sum_ge (m := 0) (l := M.map (·.seconds)) (fun x hx => by obtain ⟨c, hc2, rfl⟩ := List.mem_map.1 hx; exact (hc c hc2).1)
        unfold sec; simpa using this
      have b := Int.mul_nonneg m0 (show (0 : Int) ≤ (N : Int) by omega)
      omega
    · obtain ⟨r, hr, rfl⟩ := List.mem_map.1 hx
      rw [hsum r hr] at e
      rw [← e, ← hsM]
      exact hD.even r hr
  · have := sum_le (m := mostV cs (shRows N M) 0) (l := (dealt N M).map sec) (fun x hx => by obtain ⟨r, hr, rfl⟩ := List.mem_map.1 hx; exact hrow r hr)
    rw [hD.sum, hsM, List.length_map, dealt_len, Int.mul_comm] at this
    exact this
  · rcases m2 with e | ⟨c, hc2, e⟩
    · omega
    · obtain ⟨r, hr, hcr⟩ := List.mem_flatten.1 (hD.perm.mem_iff.2 (hp.mem_iff.2 hc2))
      have h5 := hrow r hr
      have h6 : c.seconds ≤ sec r := by
        obtain ⟨a, b, rfl⟩ := List.append_of_mem hcr
        have hr0 : ∀ x ∈ a ++ c :: b, 0 ≤ x.seconds := fun x hx => (hc x (hD.perm.mem_iff.1 (List.mem_flatten.2 ⟨_, hr, hx⟩))).1
        have e1 : sec (a ++ c :: b) = sec a + (c.seconds + sec b) := by rw [sec_app]; unfold sec; rw [List.map_cons, List.sum_cons]
        have g : ∀ l : List TestCase, (∀ x ∈ l, 0 ≤ x.seconds) → 0 ≤ sec l := fun l hl => by
          have := sum_ge (m := 0) (l := l.map (·.seconds)) (fun x hx => by obtain ⟨c, hc2, rfl⟩ := List.mem_map.1 hx; exact hl c hc2)
          unfold sec; simpa using this
        have g1 := g a fun x hx => hr0 x (List.mem_append.2 (.inl hx))
        have g2 := g b fun x hx => hr0 x (List.mem_append.2 (.inr (List.mem_cons_of_mem _ hx)))
        omega
      omega
end Go.Proofs.YtpcgfodiikljdaaDoor.C10
