/-
  The program's longest ways as a fold over the order, from its end on.
-/
import Derived.Test.YtbapkhkklglbaaaDoorCrB
import Derived.Test.YtbapkhkklglbaaaDoorBackIC9
import Derived.Test.YtbapkhkklglbaaaDoorCrRC9
namespace Go.Proofs.YtbapkhkklglbaaaDoor.C9
open Go.RowKit
set_option linter.unusedVariables false

def stI (i : Nat) (S : List Int) (k : Nat) : List Int := S.set k (max (gt S k) (gt S i))
def stO (l : List Work) (S : List Int) (i : Nat) : List Int := (gOf l i).foldl (stI i) (S.set i (wrap64 (gt S i + szOf l i)))
def runO (l : List Work) (N : Nat) (is : List Nat) : List Int := is.foldl (stO l) (List.replicate N 0)
theorem stI_len (i : Nat) (S : List Int) (k : Nat) : (stI i S k).length = S.length := List.length_set
theorem runO_snoc (l : List Work) (N : Nat) (is : List Nat) (i : Nat) : runO l N (is ++ [i]) = stO l (runO l N is) i := by unfold runO; rw [List.foldl_append]; rfl
theorem fold_bi {S1 : List Int} {i : Nat} {c : Int} (hc : gt S1 i = c) : ∀ (ks pre : List Nat) (S : List Int), Bi S1 c pre S → (∀ k ∈ ks, k < S1.length ∧ k ≠ i) → i ∉ pre → Bi S1 c (pre ++ ks) (ks.foldl (stI i) S)
  | [], pre, S, h, _, _ => by simpa using h
  | k :: ks, pre, S, h, hk, hi => by
    have e : gt S i = c := by rw [h.at_, if_neg hi, hc]
    have h2 := h.step (k := k) (by rw [h.len]; exact (hk k List.mem_cons_self).1)
    have h3 := fold_bi hc ks (pre ++ [k]) (stI i S k) (by unfold stI; rw [e]; exact h2) (fun j hj => hk j (List.mem_cons_of_mem _ hj)) (fun h => by
      rcases List.mem_append.1 h with h | h
      · exact hi h
      · exact (hk k List.mem_cons_self).2 (List.mem_singleton.1 h).symm)
    rw [List.append_assoc] at h3
    exact h3
def ixO (out : List Nat) {n : Nat} (x : Fin n) : Nat := out.getD x.val 0
theorem runO_bk {l : List Work} {N : Nat} {C : Nat → Int} {out : List Nat} {n : Nat} (hn : n = N) (ht : Topo (gOf l) N out) (hl : out.length = N) (hC : Crit (gOf l) (szOf l) N C) (hb : ∀ j, j < N → 0 ≤ C j ∧ C j ≤ 200000000) :
    ∀ k, k ≤ N → Bk (gOf l) (szOf l) N C out k (runO l N (((downF n).take k).map (ixO out)))
  | 0, _ => by simpa [runO] using Bk.nil hl
  | k + 1, hk => by
    subst hn
    have ih := runO_bk rfl ht hl hC hb k (by omega)
    rw [downF_take (by omega), List.map_append, List.map_singleton, runO_snoc]
    have hi : out[n - 1 - k]? = some (ixO out (⟨n - 1 - k, by omega⟩ : Fin n)) := by
      unfold ixO
      rw [List.getD_eq_getElem?_getD, List.getElem?_eq_getElem (by omega)]; rfl
    obtain ⟨i, hie⟩ : ∃ i, ixO out (⟨n - 1 - k, by omega⟩ : Fin n) = i := ⟨_, rfl⟩
    rw [hie] at hi ⊢
    obtain ⟨S, hS⟩ : ∃ S, runO l n (((downF n).take k).map (ixO out)) = S := ⟨_, rfl⟩
    rw [hS] at ih ⊢
    obtain ⟨t0, t1, t2, t3, t4⟩ := ih.turn ht hl hC (by omega) hi
    refine ih.step ht hl hC (fun j hj => (hb j hj).1) (by omega) hi ?_
    unfold stO
    have hbi := hb i t0
    rw [t1, IntWalk.wrap64_in _ (by omega)]
    have hlt : i < S.length := by rw [ih.len]; exact t0
    have := fold_bi (S1 := S.set i (C i)) (i := i) (c := C i) (by rw [gt_set hlt, if_pos rfl]) (gOf l i) [] _ (Bi.nil _ _) (fun k hk => ⟨by rw [List.length_set, ih.len]; exact (t4 k hk).1, fun e => by subst e; exact t2 hk⟩) (by simp)
    simpa using this
theorem runO_all {l : List Work} {N : Nat} {C : Nat → Int} {out : List Nat} {n : Nat} (hn : n = N) (ht : Topo (gOf l) N out) (hl : out.length = N) (hC : Crit (gOf l) (szOf l) N C) (hb : ∀ j, j < N → 0 ≤ C j ∧ C j ≤ 200000000) :
    ∀ j, j < N → gt (runO l N ((downF n).map (ixO out))) j = C j := by
  have h := runO_bk hn ht hl hC hb N (Nat.le_refl _)
  rw [List.take_of_length_le (by rw [downF_len]; omega)] at h
  exact h.all ht hl
end Go.Proofs.YtbapkhkklglbaaaDoor.C9
