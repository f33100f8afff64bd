/-
  ReadLabel of the reference of chapter 2, isLabel of the reference.
-/
import Derived.Test.YtkfijngajabmgaaDoorLabelPC11
namespace Go.Proofs.YtkfijngajabmgaaDoor.C11
open Go.RowKit Go.Lib
set_option linter.unusedVariables false

theorem cut_whole {t H N : List UInt8} (h : cut t [58] = (H, N, true)) : t = H ++ 58 :: N ∧ (58 : UInt8) ∉ H := by
  rcases cut_cases t with ⟨_, h1⟩ | ⟨a, b, h1, h2, h3⟩
  · rw [h] at h1; cases h1
  · rw [h] at h3
    injection h3 with e1 e2
    injection e2 with e2 _
    subst e1 e2
    exact ⟨h1, h2⟩
theorem cut_none {t H N : List UInt8} (h : cut t [58] = (H, N, false)) : H = t ∧ (58 : UInt8) ∉ t := by
  rcases cut_cases t with ⟨h0, h1⟩ | ⟨a, b, h1, h2, h3⟩
  · rw [h] at h1
    injection h1 with e1 _
    exact ⟨e1, h0⟩
  · rw [h] at h3; cases h3
theorem rr_two {t H N : List UInt8} (h : cut t [58] = (H, N, true)) (hp : hasPrefix H [47, 47] = true) : (checkB (bs (H.drop 2)) (bs N) = true → RlSpec t (bs (H.drop 2)) (bs N) 0) ∧ (checkB (bs (H.drop 2)) (bs N) = false → labelL t = false) := by
  obtain ⟨h1, h2⟩ := cut_whole h
  have hH := pref2 hp
  have hd : t.drop 2 = H.drop 2 ++ 58 :: N := by
    rw [h1]
    conv => lhs; rw [hH]
    rfl
  have htp : hasPrefix t [47, 47] = true := by
    rw [h1, hH]
    exact pref2_of _
  exact rl_whole htp (cut_of hd (fun hin => h2 (List.mem_of_mem_drop hin)))
theorem rr_three {t H N : List UInt8} (u : ByteArray) (h : cut t [58] = (H, N, false)) (hp : hasPrefix H [47, 47] = true) (hu : u.size ≤ (bs (H.drop 2)).size) : RlSpec t (bs (H.drop 2)) u 0 ∧ labelL t = false := by
  obtain ⟨rfl, h0⟩ := cut_none h
  have := cut_no (s := H.drop 2) (fun hin => h0 (List.mem_of_mem_drop hin))
  exact rl_long u hp this hu
theorem rr_one {t N : List UInt8} (h : cut t [58] = ([], N, true)) : RlSpec t ⟨#[]⟩ (bs N) 0 ∧ labelL t = false := by
  obtain ⟨h1, _⟩ := cut_whole h
  rw [List.nil_append] at h1
  have hp : hasPrefix t [47, 47] = false := by rw [h1]; rfl
  exact rl_none _ _ hp (Nat.zero_le _) (by rw [bs_size, h1, List.length_cons]; omega)
theorem rr_four {t H N : List UInt8} {is : Bool} (h : cut t [58] = (H, N, is)) (h1 : is = true → H ≠ []) (h2 : is = true → hasPrefix H [47, 47] = false) : labelL t = false := by
  cases is
  · obtain ⟨_, h0⟩ := cut_none h
    exact label_no_colon (fun hin => h0 (List.mem_of_mem_drop hin))
  · obtain ⟨e, h0⟩ := cut_whole h
    apply label_no_pref
    have hp := h2 rfl
    match H, h1 rfl with
    | [x], _ =>
      rw [e]
      unfold hasPrefix
      simp [List.isPrefixOf]
    | x :: y :: r, _ =>
      rw [e]
      unfold hasPrefix at hp ⊢
      simp only [List.cons_append, List.isPrefixOf] at hp ⊢
      exact hp


end Go.Proofs.YtkfijngajabmgaaDoor.C11
