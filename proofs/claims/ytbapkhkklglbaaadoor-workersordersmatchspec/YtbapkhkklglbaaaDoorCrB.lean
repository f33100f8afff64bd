/-
  The longest ways from the end of the order on, in plain words: what holds behind k rounds.
-/
import Derived.Test.YtbapkhkklglbaaaDoorCrM
namespace Go.Proofs.YtbapkhkklglbaaaDoor
set_option linter.unusedVariables false

section
variable {g : Nat → List Nat} {sz : Nat → Int} {N : Nat} {C : Nat → Int} {out : List Nat}
/-- behind k rounds from the end -/
structure Bk (g : Nat → List Nat) (sz : Nat → Int) (N : Nat) (C : Nat → Int) (out : List Nat) (k : Nat) (S : List Int) : Prop where
  len : S.length = N
  done : ∀ j, j < N → j ∈ out.drop (N - k) → gt S j = C j
  left : ∀ j, j < N → j ∉ out.drop (N - k) → MaxOf g (· ∈ out.drop (N - k)) C j (gt S j)
/-- amid the works that i waits for -/
structure Bi (S1 : List Int) (c : Int) (pre : List Nat) (S : List Int) : Prop where
  len : S.length = S1.length
  at_ : ∀ j, gt S j = if j ∈ pre then max (gt S1 j) c else gt S1 j
theorem Bi.nil (S1 : List Int) (c : Int) : Bi S1 c [] S1 := ⟨rfl, fun j => by simp⟩
theorem Bi.step {S1 S : List Int} {c : Int} {pre : List Nat} (h : Bi S1 c pre S) {k : Nat} (hk : k < S.length) : Bi S1 c (pre ++ [k]) (S.set k (max (gt S k) c)) := by
  refine ⟨by rw [List.length_set]; exact h.len, fun j => ?_⟩
  rw [gt_set hk]
  have := h.at_ j
  by_cases e : j = k
  · subst e
    rw [if_pos rfl, if_pos (by simp), this]
    split <;> omega
  · rw [if_neg e, this]
    by_cases hj : j ∈ pre
    · rw [if_pos hj, if_pos (by simp [hj])]
    · rw [if_neg hj, if_neg (by simp [hj, e])]
theorem zero_gt (N k : Nat) : gt (List.replicate N (0 : Int)) k = 0 := by
  unfold gt
  rw [List.getD_eq_getElem?_getD]
  by_cases h : k < N
  · rw [List.getElem?_replicate, if_pos h]; rfl
  · rw [List.getElem?_eq_none (by simp; omega)]; rfl
theorem Bk.nil (hl : out.length = N) : Bk g sz N C out 0 (List.replicate N 0) := by
  have e : out.drop (N - 0) = [] := List.drop_eq_nil_of_le (by omega)
  refine ⟨by simp, fun j _ hj => (by rw [e] at hj; cases hj), fun j _ _ => ?_⟩
  rw [e, zero_gt]
  exact ⟨Int.le_refl _, fun k hk => (by cases hk), .inl rfl⟩
theorem Bk.all {S : List Int} (ht : Topo g N out) (hl : out.length = N) (h : Bk g sz N C out N S) : ∀ j, j < N → gt S j = C j := fun j hj => h.done j hj (by rw [Nat.sub_self, List.drop_zero]; exact ht.all hl hj)
/-- the work whose turn it is -/
theorem Bk.turn {S : List Int} {k i : Nat} (ht : Topo g N out) (hl : out.length = N) (hC : Crit g sz N C) (h : Bk g sz N C out k S) (hk : k < N) (hi : out[N - 1 - k]? = some i) :
    i < N ∧ gt S i + sz i = C i ∧ i ∉ g i ∧ out.drop (N - (k + 1)) = i :: out.drop (N - k) ∧ ∀ j ∈ g i, j < N ∧ j ∉ out.drop (N - k) := by
  have hd : out.drop (N - (k + 1)) = i :: out.drop (N - k) := by
    obtain ⟨h1, h2⟩ := List.getElem?_eq_some_iff.1 hi
    rw [show N - (k + 1) = N - 1 - k by omega, List.drop_eq_getElem_cons h1, h2, show N - 1 - k + 1 = N - k by omega]
  have e : out = out.take (N - (k + 1)) ++ i :: out.drop (N - k) := by rw [← hd, List.take_append_drop]
  obtain ⟨a, ha⟩ : ∃ a, out.take (N - (k + 1)) = a := ⟨_, rfl⟩
  obtain ⟨b, hb⟩ : ∃ b, out.drop (N - k) = b := ⟨_, rfl⟩
  rw [ha, hb] at e
  have hiN : i < N := ht.lt i (by rw [e]; simp)
  have hnd := ht.nodup
  have hpre : ∀ j ∈ g i, j ∈ a := fun j hj => ht.pre a b i e j hj
  rw [e] at hnd
  have hib : i ∉ b := fun h => (List.nodup_cons.1 (List.nodup_append.1 hnd).2.1).1 h
  have hig : i ∉ g i := fun h => (List.nodup_append.1 hnd).2.2 i (hpre i h) i (by simp) rfl
  refine ⟨hiN, ?_, hig, by rw [hd], fun j hj => ⟨ht.lt j (by rw [e]; simp [hpre j hj]), fun h => ?_⟩⟩
  · obtain ⟨m, h1, h2⟩ := hC i hiN
    have h3 := h.left i hiN (by rw [hb]; exact hib)
    rw [hb] at h3
    have := h3.uniq (h1.congr (fun q hq => ⟨fun hqN => topo_behind ht hl e hqN hq, fun hqb => ht.lt q (by rw [e]; simp [hqb])⟩) (fun _ _ _ => rfl))
    omega
  · rw [hb] at h
    exact (List.nodup_append.1 hnd).2.2 j (hpre j hj) j (by simp [h]) rfl
theorem Bk.step {S S2 : List Int} {k i : Nat} (ht : Topo g N out) (hl : out.length = N) (hC : Crit g sz N C) (hC0 : ∀ j, j < N → 0 ≤ C j) (h : Bk g sz N C out k S) (hk : k < N) (hi : out[N - 1 - k]? = some i)
    (h2 : Bi (S.set i (C i)) (C i) (g i) S2) : Bk g sz N C out (k + 1) S2 := by
  obtain ⟨hiN, t1, t2, t3, t4⟩ := h.turn ht hl hC hk hi
  have hlt : i < S.length := by rw [h.len]; exact hiN
  have hat : ∀ j, gt S2 j = if j ∈ g i then max (gt S j) (C i) else if j = i then C i else gt S j := fun j => by
    rw [h2.at_, gt_set hlt]
    by_cases hj : j ∈ g i
    · rw [if_pos hj, if_pos hj, if_neg (fun e => by subst e; exact t2 hj)]
    · rw [if_neg hj, if_neg hj]
  refine ⟨by rw [h2.len, List.length_set]; exact h.len, fun j hj hm => ?_, fun j hj hm => ?_⟩
  · rw [t3] at hm
    rw [hat]
    rcases List.mem_cons.1 hm with rfl | hm
    · rw [if_neg t2, if_pos rfl]
    · rw [if_neg (fun hg => (t4 j hg).2 hm)]
      split
      · rename_i e; rw [e]
      · exact h.done j hj hm
  · rw [t3] at hm ⊢
    have hji : j ≠ i := fun e => hm (by rw [e]; simp)
    have hjb : j ∉ out.drop (N - k) := fun h => hm (by simp [h])
    have h3 := h.left j hj hjb
    rw [hat]
    by_cases hg : j ∈ g i
    · rw [if_pos hg]
      refine ⟨by have := h3.nn; omega, fun q hq hjq => ?_, ?_⟩
      · rcases List.mem_cons.1 hq with rfl | hq
        · omega
        · have := h3.up q hq hjq; omega
      · by_cases hm : gt S j ≤ C i
        · exact .inr ⟨i, by simp, hg, by omega⟩
        · rcases h3.at_ with e | ⟨q, a, b, e⟩
          · have := hC0 i hiN; omega
          · exact .inr ⟨q, List.mem_cons_of_mem _ a, b, by omega⟩
    · rw [if_neg hg, if_neg hji]
      exact h3.congr (fun q hq => ⟨fun h => List.mem_cons_of_mem _ h, fun h => by
        rcases List.mem_cons.1 h with rfl | h
        · exact absurd hq hg
        · exact h⟩) (fun _ _ _ => rfl)
/-- all numbers stay within bounds -/
theorem Bk.b {S : List Int} {k : Nat} {B : Int} (h : Bk g sz N C out k S) (ht : Topo g N out) (hB : 0 ≤ B) (hb : ∀ j, j < N → 0 ≤ C j ∧ C j ≤ B) : ∀ j, j < N → 0 ≤ gt S j ∧ gt S j ≤ B := fun j hj => by
  by_cases hm : j ∈ out.drop (N - k)
  · rw [h.done j hj hm]; exact hb j hj
  · have h3 := h.left j hj hm
    refine ⟨h3.nn, ?_⟩
    rcases h3.at_ with e | ⟨q, a, b, e⟩
    · omega
    · rw [e]; exact (hb q (ht.lt q (List.mem_of_mem_drop a))).2
end
end Go.Proofs.YtbapkhkklglbaaaDoor
