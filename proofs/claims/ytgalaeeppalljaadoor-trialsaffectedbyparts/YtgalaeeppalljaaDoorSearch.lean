/-
  slices.BinarySearch at []string, in a row of paths in order.
-/
import Derived.Test.YtgalaeeppalljaaDoorPaths
import Derived.Test.YtgalaeeppalljaaDoorShelfD
import Derived.Shelf.Spec.SearchS
namespace Go.Proofs.YtgalaeeppalljaaDoor
open Go.RowKit Go.Lib
set_option linter.unusedVariables false

theorem sle_false {a b : ByteArray} (h : sle a b = false) : cmpS b a = -1 := by
  rw [sle_cmp, decide_eq_false_iff_not] at h
  have := cmpS_range a b
  rw [cmpS_swap]; omega
theorem paths_rise : ∀ (l : List ByteArray) (p : Option ByteArray), pathsErr p l = 0 → l.Pairwise (fun a b => cmpS a b = -1) ∧ ∀ q, p = some q → ∀ a ∈ l, cmpS q a = -1
  | [], p, _ => ⟨List.Pairwise.nil, fun q _ a ha => by cases ha⟩
  | s :: r, p, h => by
    rw [pathsErr] at h
    by_cases hb : pathB s = true
    · rw [if_pos hb] at h
      by_cases hp : p.map (sle s ·) = some true
      · rw [if_pos hp] at h; cases h
      · rw [if_neg hp] at h
        obtain ⟨h1, h2⟩ := paths_rise r _ h
        refine ⟨List.pairwise_cons.2 ⟨h2 s rfl, h1⟩, fun q hq a ha => ?_⟩
        subst hq
        have hs : cmpS q s = -1 := by
          cases hs : sle s q
          · exact sle_false hs
          · rw [Option.map_some, hs] at hp; exact absurd rfl hp
        rcases List.mem_cons.1 ha with rfl | ha
        · exact hs
        · exact cmpS_trans hs (h2 s rfl a ha)
    · rw [if_neg hb] at h; cases h

theorem thr (f : Nat → Bool) (hf : ∀ t, f (t + 1) = true → f t = true) : ∀ n, f n = false → ∃ k, k ≤ n ∧ (∀ t, t < k → f t = true) ∧ ∀ t, k ≤ t → f t = false
  | 0, h => ⟨0, Nat.le_refl _, fun t ht => by omega, fun t _ => by
    induction t with
    | zero => exact h
    | succ t ih => cases e : f (t + 1) with
      | false => rfl
      | true => have ih := ih (Nat.zero_le _); rw [hf t e] at ih; cases ih⟩
  | n + 1, h => by
    cases e : f n with
    | false =>
      obtain ⟨k, hk, h1, h2⟩ := thr f hf n e
      exact ⟨k, by omega, h1, h2⟩
    | true =>
      refine ⟨n + 1, Nat.le_refl _, fun t ht => ?_, fun t ht => ?_⟩
      · have : ∀ d, d ≤ n → f (n - d) = true := by
          intro d
          induction d with
          | zero => intro _; exact e
          | succ d ih =>
            intro hd
            have := ih (by omega)
            exact hf _ (by rw [show n - (d + 1) + 1 = n - d by omega]; exact this)
        have h3 := this (n - t) (by omega)
        rwa [show n - (n - t) = t by omega] at h3
      · have : ∀ d, f (n + 1 + d) = false := by
          intro d
          induction d with
          | zero => exact h
          | succ d ih => cases e2 : f (n + 1 + (d + 1)) with
            | false => rfl
            | true => rw [show n + 1 + (d + 1) = n + 1 + d + 1 by omega] at e2; rw [hf _ e2] at ih; cases ih
        have h3 := this (t - (n + 1))
        rwa [show n + 1 + (t - (n + 1)) = t by omega] at h3

theorem cmpS_self (a : ByteArray) : cmpS a a = 0 := (cmpS_zero a a).2 rfl

/-- x is in the list -/
def inL (l : List ByteArray) (x : ByteArray) : Bool := l.any (fun y => decide (y = x))
theorem inL_iff {l : List ByteArray} {x : ByteArray} : inL l x = true ↔ x ∈ l := by
  unfold inL
  rw [List.any_eq_true]
  exact ⟨fun ⟨y, hy, h⟩ => by rw [decide_eq_true_iff] at h; rwa [← h], fun h => ⟨x, h, decide_eq_true rfl⟩⟩

theorem search_any (A : Option Addr) (n c : Nat) (l : List ByteArray) (x : ByteArray) (w : World) (hn : n ≤ 100000) (hl : SlAt RStr w A n l) (hr : l.Pairwise (fun a b => cmpS a b = -1)) :
    Calls Tryd.prog 55 #[.slice A n c, .string x] w fun e w' => ∃ i : Int, e = .returned (.tuple #[.int .i64 i, .bool (inL l x)]) ∧ Below w.heap.size w w' := by
  by_cases h0 : n = 0
  · subst h0
    obtain rfl : l = [] := List.eq_nil_of_length_eq_zero hl.1
    refine (Any2.slices_BinarySearch_string_empty Tryd.laysNm226 A c x w).mono ?_
    rintro e w' ⟨rfl, rfl⟩
    exact ⟨0, rfl, Below.refl _ _⟩
  · obtain ⟨b, off, rfl, _⟩ := hl.2.1 (by omega)
    have hll := hl.1
    refine (Any2.slices_BinarySearch_string Tryd.laysNm226 b off n c (fun t => l.getD t x) x w (by omega) (fun j hj => ?_)).mono ?_
    · have := cell_Str hl (List.getElem?_eq_getElem (show j < l.length by omega))
      rw [this, List.getD_eq_getElem?_getD, List.getElem?_eq_getElem (show j < l.length by omega)]
      rfl
    · rintro e w' ⟨rfl, q, rfl⟩
      refine ⟨((bsGo (fun t => Op.bytesLess (l.getD t x).toList x.toList) n 0 n : Nat) : Int), ?_, bel_drewN (Below.refl _ _) q⟩
      have hg : ∀ t, t < l.length → l.getD t x = l[t]! := fun t ht => by
        rw [List.getD_eq_getElem?_getD, List.getElem?_eq_getElem ht, getElem!_pos _ t ht]; rfl
      have hlt : ∀ i j, i < j → j < l.length → cmpS l[i]! l[j]! = -1 := fun i j hij hj => by
        have := List.pairwise_iff_getElem.1 hr i j (by omega) hj hij
        rwa [getElem!_pos _ i (by omega), getElem!_pos _ j hj]
      have hf : ∀ t, Op.bytesLess (l.getD t x).toList x.toList = decide (cmpS (l.getD t x) x = -1) := fun t => ltS_cmp _ _
      have hout : ∀ t, l.length ≤ t → l.getD t x = x := fun t ht => by
        rw [List.getD_eq_getElem?_getD, List.getElem?_eq_none ht]; rfl
      obtain ⟨k, hk, h1, h2⟩ := thr (fun t => Op.bytesLess (l.getD t x).toList x.toList) (fun t ht => by
        rw [hf, decide_eq_true_iff] at ht ⊢
        by_cases hlt2 : t + 1 < l.length
        · rw [hg _ hlt2] at ht
          rw [hg _ (by omega)]
          exact cmpS_trans (hlt t (t + 1) (by omega) hlt2) ht
        · rw [hout _ (by omega), cmpS_self] at ht
          omega) n (by
        rw [hf, hout _ (by omega), cmpS_self]; decide)
      rw [bsGo_spec _ k h1 h2 n 0 n (by omega) (Nat.zero_le _) hk]
      have hfin : decide (k < n ∧ l.getD k x = x) = inL l x := by
        rw [Bool.eq_iff_iff, decide_eq_true_iff, inL_iff]
        constructor
        · rintro ⟨hkn, hx⟩
          rw [← hx, hg _ (by omega), getElem!_pos _ k (by omega)]
          exact List.getElem_mem _
        · intro hx
          obtain ⟨j, hj, hjx⟩ := List.getElem_of_mem hx
          have hjk : k ≤ j := by
            rcases Nat.lt_or_ge j k with h | h
            · have := h1 j h
              rw [hf, decide_eq_true_iff, hg _ hj, getElem!_pos _ j hj, hjx, cmpS_self] at this
              omega
            · exact h
          have hkj : ¬ k < j := fun h => by
            have h3 := h2 k (Nat.le_refl _)
            rw [hf, decide_eq_false_iff_not, hg _ (by omega)] at h3
            apply h3
            have := hlt k j h hj
            rwa [getElem!_pos l j hj, hjx] at this
          obtain rfl : k = j := by omega
          exact ⟨by omega, by rw [hg _ hj, getElem!_pos _ k hj, hjx]⟩
      rw [hfin]
end Go.Proofs.YtgalaeeppalljaaDoor
