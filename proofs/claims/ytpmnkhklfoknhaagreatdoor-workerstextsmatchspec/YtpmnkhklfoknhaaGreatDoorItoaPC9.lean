/-
  A number's numeral is read as that number: in plain words.
-/
import Derived.Test.YtpmnkhklfoknhaaGreatDoorNumC9
import Derived.Lib.ItoaNum
import Derived.Lib.ItoaMem
namespace Go.Proofs.YtpmnkhklfoknhaaGreatDoor.C9
open Go.RowKit
set_option linter.unusedVariables false

theorem dig_mem (d : Nat) (h : d < 10) : dset.contains (UInt8.ofNat (48 + d)) = true := by
  rw [dset_dig, decide_eq_true_iff]
  have : (UInt8.ofNat (48 + d)).toNat = 48 + d := by rw [UInt8.toNat_ofNat']; omega
  omega
theorem decDigits_all (u : Nat) : (Lib.decDigits u).all (dset.contains ·) = true := by
  induction u using Nat.strongRecOn with
  | _ u ih =>
    by_cases h : u < 10
    · rw [Lib.decDigits, dif_pos h, List.all_cons, dig_mem u h]; rfl
    · rw [Lib.decDigits, dif_neg h, List.all_append, ih (u / 10) (by omega), List.all_cons, dig_mem (u % 10) (by omega)]; rfl
theorem decDigits_ne (u : Nat) : Lib.decDigits u ≠ [] := by
  rw [Lib.decDigits]
  split <;> simp
theorem decDigits_head (u : Nat) (h : 1 ≤ u) : (Lib.decDigits u).head? ≠ some 48 := by
  induction u using Nat.strongRecOn with
  | _ u ih =>
    by_cases h10 : u < 10
    · rw [Lib.decDigits, dif_pos h10]
      intro e
      simp only [List.head?_cons, Option.some.injEq] at e
      have := congrArg UInt8.toNat e
      rw [UInt8.toNat_ofNat'] at this
      have h9 : (48 : UInt8).toNat = 48 := rfl
      omega
    · rw [Lib.decDigits, dif_neg h10, List.head?_append]
      have hne := ih (u / 10) (by omega) (by omega)
      cases hd : (Lib.decDigits (u / 10)).head? with
      | none => exact absurd (List.head?_eq_none_iff.1 hd) (decDigits_ne _)
      | some b => rw [hd] at hne; simpa using hne
theorem decFrom_app : ∀ (l : List UInt8) (acc m : Nat) (d : Nat), Lib.decFrom acc l = some m → d < 10 → Lib.decFrom acc (l ++ [UInt8.ofNat (48 + d)]) = some (m * 10 + d)
  | [], acc, m, d, h, hd => by
    simp only [Lib.decFrom, Option.some.injEq] at h
    subst h
    have : (UInt8.ofNat (48 + d)).toNat = 48 + d := by rw [UInt8.toNat_ofNat']; omega
    rw [List.nil_append, Lib.decFrom]
    unfold Lib.digitVal
    rw [this, if_pos (by omega), show 48 + d - 48 = d by omega]
    rfl
  | b :: r, acc, m, d, h, hd => by
    rw [List.cons_append]
    unfold Lib.decFrom at h ⊢
    cases hv : Lib.digitVal b with
    | none => rw [hv] at h; cases h
    | some v =>
      rw [hv] at h
      exact decFrom_app r _ m d h hd
theorem decFrom_dec (u : Nat) : Lib.decFrom 0 (Lib.decDigits u) = some u := by
  induction u using Nat.strongRecOn with
  | _ u ih =>
    by_cases h : u < 10
    · rw [Lib.decDigits, dif_pos h]
      have := decFrom_app [] 0 0 u rfl h
      simpa using this
    · rw [Lib.decDigits, dif_neg h, decFrom_app _ 0 (u / 10) (u % 10) (ih (u / 10) (by omega)) (by omega)]
      congr 1; omega
theorem atoi_dec (u : Nat) : Lib.atoi (Lib.decDigits u) = some (u : Int) := by
  have hall := decDigits_all u
  have hdf := decFrom_dec u
  cases hd : Lib.decDigits u with
  | nil => exact absurd hd (decDigits_ne u)
  | cons b r =>
    rw [hd] at hall hdf
    simp only [List.all_cons, Bool.and_eq_true] at hall
    have hb := hall.1
    rw [dset_dig, decide_eq_true_iff] at hb
    have h1 : (b == 45) = false := by rw [beq_eq_false_iff_ne]; rintro rfl; revert hb; decide
    have h2 : (b == 43) = false := by rw [beq_eq_false_iff_ne]; rintro rfl; revert hb; decide
    show (if (b == 45) = true then _ else if (b == 43) = true then _ else _) = _
    rw [h1, h2]
    simp only [Bool.false_eq_true, if_false]
    unfold Lib.decNat
    simp [hdf]
theorem nDigits_le : ∀ (k u : Nat), 1 ≤ k → u < 10 ^ k → Lib.nDigits u ≤ k
  | 0, u, h, _ => by omega
  | k + 1, u, _, h => by
    by_cases h10 : u < 10
    · rw [Lib.nDigits_small h10]; omega
    · rw [Lib.nDigits_big h10]
      cases k with
      | zero => simp at h; omega
      | succ k =>
        have := nDigits_le (k + 1) (u / 10) (by omega) (by rw [Nat.pow_succ] at h; omega)
        omega
/-- the numeral of a number -/
def itoaB (n : Int) : ByteArray := ⟨(Lib.itoa n).toArray⟩
theorem itoaB_data (n : Int) : (itoaB n).data.toList = Lib.itoa n := rfl
theorem itoaB_size {n : Int} (h0 : 0 ≤ n) (h1 : n < 10000000000) : 1 ≤ (itoaB n).size ∧ (itoaB n).size ≤ 10 := by
  obtain ⟨u, rfl⟩ : ∃ u : Nat, n = u := ⟨n.toNat, by omega⟩
  have e : (itoaB (u : Int)).size = (Lib.decDigits u).length := by
    show (Lib.itoa (u : Int)).toArray.size = _
    rw [Lib.itoa_nonneg]; simp
  have h2 := nDigits_le 10 u (by omega) (by omega)
  have h3 := Lib.nDigits_pos u
  rw [Lib.decDigits_length] at e
  omega
theorem numR_itoa {n : Int} (h0 : 0 ≤ n) (h1 : n < 10000000000) : numR (itoaB n) = (n, true) := by
  obtain ⟨s0, s1⟩ := itoaB_size h0 h1
  obtain ⟨u, rfl⟩ : ∃ u : Nat, n = u := ⟨n.toNat, by omega⟩
  have hd : (itoaB (u : Int)).data.toList = Lib.decDigits u := by rw [itoaB_data, Lib.itoa_nonneg]
  have hlead : leadB (itoaB (u : Int)) = false := by
    unfold leadB
    rw [decide_eq_false_iff_not, hd]
    rintro ⟨h, h48⟩
    rcases Nat.eq_zero_or_pos u with rfl | hu
    · have e : (itoaB ((0 : Nat) : Int)).size = (Lib.decDigits 0).length := by
        show (Lib.itoa ((0 : Nat) : Int)).toArray.size = _
        rw [Lib.itoa_nonneg]; simp
      rw [Lib.decDigits_length, Lib.nDigits_small (by omega)] at e
      omega
    · exact decDigits_head u hu h48
  have hn : numB (itoaB (u : Int)) = true := by
    unfold numB
    rw [hlead, hd, decDigits_all, decide_eq_true s0, decide_eq_true s1]; rfl
  unfold numR
  rw [if_pos hn]
  unfold numV
  rw [hd, atoi_dec]
  rfl
theorem itoa_dig {n : Int} (h0 : 0 ≤ n) : ∀ b ∈ (itoaB n).data.toList, 48 ≤ b.toNat ∧ b.toNat ≤ 57 := by
  obtain ⟨u, rfl⟩ : ∃ u : Nat, n = u := ⟨n.toNat, by omega⟩
  intro b hb
  rw [itoaB_data, Lib.itoa_nonneg] at hb
  have := List.all_eq_true.1 (decDigits_all u) b hb
  rwa [dset_dig, decide_eq_true_iff] at this
theorem row_no {s : ByteArray} (h : rowB s = true) : (32 : UInt8) ∉ s.data.toList ∧ (10 : UInt8) ∉ s.data.toList := by
  unfold rowB rowL at h
  rw [Bool.and_eq_true, List.all_eq_true] at h
  refine ⟨fun hm => ?_, fun hm => ?_⟩
  · have := h.2 _ hm; revert this; decide
  · have := h.2 _ hm; revert this; decide
theorem rowB_of {s : ByteArray} (h0 : 1 ≤ s.size) (h : ∀ b ∈ s.data.toList, 33 ≤ b.toNat ∧ b.toNat ≤ 126) : rowB s = true := by
  unfold rowB rowL
  rw [Bool.and_eq_true, List.all_eq_true]
  refine ⟨?_, fun b hb => decide_eq_true (h b hb)⟩
  have h3 : s.size = s.data.toList.length := by simp
  cases hd : s.data.toList with
  | nil => rw [hd, List.length_nil] at h3; omega
  | cons a r => rfl
theorem itoa_row {n : Int} (h0 : 0 ≤ n) (h1 : n < 10000000000) : rowB (itoaB n) = true :=
  rowB_of (itoaB_size h0 h1).1 fun b hb => by have := itoa_dig h0 b hb; omega
end Go.Proofs.YtpmnkhklfoknhaaGreatDoor.C9
