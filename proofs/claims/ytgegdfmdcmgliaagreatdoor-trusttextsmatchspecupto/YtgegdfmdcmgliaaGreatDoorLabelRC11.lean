/-
  ReadLabel of the reference of chapter 2, isLabel of the reference.
-/
import Derived.Test.YtgegdfmdcmgliaaGreatDoorLabelPC11
namespace Go.Proofs.YtgegdfmdcmgliaaGreatDoor.C11
open Go.RowKit Go.Lib
set_option linter.unusedVariables false

set_option maxHeartbeats 1000000 in
theorem rpkg_nil (w : World) : Calls Tryz.prog 166 #[.string ⟨#[]⟩] w fun e w' => e = .returned (.bool true) ∧ w = w' := by
  go_enter Tryz.func166, Tryz.ntmps166
  go_wp2_with fail
  go_ret
  exact ⟨rfl, rfl⟩

theorem cut_whole {t H N : List UInt8} (h : cut t [58] = (H, N, true)) : t = H ++ 58 :: N ∧ (58 : UInt8) ∉ H := by
  rcases cut_cases t with ⟨_, h1⟩ | ⟨a, b, h1, h2, h3⟩
  · rw [h] at h1; cases h1
  · rw [h] at h3
    injection h3 with e1 e2
    injection e2 with e2 _
    subst e1 e2
    exact ⟨h1, h2⟩
theorem cut_none {t H N : List UInt8} (h : cut t [58] = (H, N, false)) : H = t ∧ (58 : UInt8) ∉ t := by
  rcases cut_cases t with ⟨h0, h1⟩ | ⟨a, b, h1, h2, h3⟩
  · rw [h] at h1
    injection h1 with e1 _
    exact ⟨e1, h0⟩
  · rw [h] at h3; cases h3
theorem rr_two {t H N : List UInt8} (h : cut t [58] = (H, N, true)) (hp : hasPrefix H [47, 47] = true) : (checkB (bs (H.drop 2)) (bs N) = true → RlSpec t (bs (H.drop 2)) (bs N) 0) ∧ (checkB (bs (H.drop 2)) (bs N) = false → labelL t = false) := by
  obtain ⟨h1, h2⟩ := cut_whole h
  have hH := pref2 hp
  have hd : t.drop 2 = H.drop 2 ++ 58 :: N := by
    rw [h1]
    conv => lhs; rw [hH]
    rfl
  have htp : hasPrefix t [47, 47] = true := by
    rw [h1, hH]
    exact pref2_of _
  exact rl_whole htp (cut_of hd (fun hin => h2 (List.mem_of_mem_drop hin)))
theorem rr_three {t H N : List UInt8} (u : ByteArray) (h : cut t [58] = (H, N, false)) (hp : hasPrefix H [47, 47] = true) (hu : u.size ≤ (bs (H.drop 2)).size) : RlSpec t (bs (H.drop 2)) u 0 ∧ labelL t = false := by
  obtain ⟨rfl, h0⟩ := cut_none h
  have := cut_no (s := H.drop 2) (fun hin => h0 (List.mem_of_mem_drop hin))
  exact rl_long u hp this hu
theorem rr_one {t N : List UInt8} (h : cut t [58] = ([], N, true)) : RlSpec t ⟨#[]⟩ (bs N) 0 ∧ labelL t = false := by
  obtain ⟨h1, _⟩ := cut_whole h
  rw [List.nil_append] at h1
  have hp : hasPrefix t [47, 47] = false := by rw [h1]; rfl
  exact rl_none _ _ hp (Nat.zero_le _) (by rw [bs_size, h1, List.length_cons]; omega)
theorem rr_four {t H N : List UInt8} {is : Bool} (h : cut t [58] = (H, N, is)) (h1 : is = true → H ≠ []) (h2 : is = true → hasPrefix H [47, 47] = false) : labelL t = false := by
  cases is
  · obtain ⟨_, h0⟩ := cut_none h
    exact label_no_colon (fun hin => h0 (List.mem_of_mem_drop hin))
  · obtain ⟨e, h0⟩ := cut_whole h
    apply label_no_pref
    have hp := h2 rfl
    match H, h1 rfl with
    | [x], _ =>
      rw [e]
      unfold hasPrefix
      simp [List.isPrefixOf]
    | x :: y :: r, _ =>
      rw [e]
      unfold hasPrefix at hp ⊢
      simp only [List.cons_append, List.isPrefixOf] at hp ⊢
      exact hp


set_option maxRecDepth 100000 in
set_option maxHeartbeats 4000000 in
theorem rreadLabel_any (s : ByteArray) (w : World) (hm : MaxLenAt w) (hs : s.size ≤ 2000000) :
    Calls Tryz.prog 136 #[.string s, .string ⟨#[]⟩] w (RlOut s.data.toList w) := by
  have hsl : s.data.toList.length = s.size := by show s.data.toList.length = s.data.size; exact Array.length_toList
  have hLC := LC.made w 111
  have hba := ((Below.refl w.heap.size w).alloc (Nat.le_refl _) (.cells #[.string ⟨#[]⟩, .string ⟨#[]⟩] 111)).alloc (by simp) (.cells #[.string ⟨#[]⟩, .string ⟨#[]⟩] 111)
  obtain ⟨H, N, is, hcut⟩ : ∃ H N nm, cut s.data.toList [58] = (H, N, nm) := ⟨_, _, _, rfl⟩
  obtain ⟨wh, hwh⟩ : ∃ b, hasPrefix H [47, 47] = b := ⟨_, rfl⟩
  obtain ⟨R, hR⟩ : ∃ R, trimPrefix H [47, 47] = R := ⟨_, rfl⟩
  have hHl : H.length ≤ s.data.toList.length ∧ N.length ≤ s.data.toList.length := by
    cases is
    · obtain ⟨rfl, h0⟩ := cut_none hcut
      rcases cut_cases s.data.toList with ⟨_, h1⟩ | ⟨a, b, _, _, h3⟩
      · rw [hcut] at h1
        injection h1 with _ e2
        injection e2 with e2 _
        subst e2
        exact ⟨Nat.le_refl _, Nat.zero_le _⟩
      · rw [hcut] at h3; cases h3
    · obtain ⟨h1, _⟩ := cut_whole hcut
      have := congrArg List.length h1
      rw [List.length_append, List.length_cons] at this
      omega
  have hRl : R.length ≤ H.length := by
    rw [← hR]; unfold trimPrefix
    split
    · rw [List.length_drop]; omega
    · exact Nat.le_refl _
  have hNs : (bs N).size ≤ 2000000 := by rw [bs_size]; omega
  have hRs : (bs R).size ≤ 2000000 := by rw [bs_size]; omega
  have hzs : (⟨#[]⟩ : ByteArray).size ≤ 2000000 := by decide
  have hwR : wh = true → R = H.drop 2 := fun h => by rw [← hR]; unfold trimPrefix; rw [hwh, h]; rfl
  have h2f := fun h => rr_two (t := s.data.toList) (H := H) (N := N) h
  have hcp : ∀ w, Calls Tryz.prog 116 #[.string (bs H), .string ⟨#[47, 47]⟩] w fun e w' => e = .returned (.tuple #[.string (bs R), .bool wh]) ∧ w' = w := fun w => cp2_any (bs H) wh R (by rw [bs_data]; exact hwh) (by rw [bs_data]; exact hR) w
  obtain ⟨he, hhe⟩ : ∃ b, ((bs H).toList == []) = b := ⟨_, rfl⟩
  obtain ⟨re, hre⟩ : ∃ b, ((bs R).toList == []) = b := ⟨_, rfl⟩
  have hheH : he = true → H = [] := fun h => by
    rw [h, Lib.toList_data, bs_data, beq_iff_eq] at hhe; exact hhe
  have hheN : he = false → H ≠ [] := fun h e => by
    rw [h, Lib.toList_data, bs_data, e] at hhe
    exact absurd hhe (by decide)
  have hreR : re = true → R = [] := fun h => by
    rw [h, Lib.toList_data, bs_data, beq_iff_eq] at hre; exact hre
  have hmH := Lib.hid hm
  clear hm
  have hcutH := Lib.hid hcut
  clear hcut
  have hwhH := Lib.hid hwh
  clear hwh
  have hRH := Lib.hid hR
  clear hR
  have hslH := Lib.hid hsl
  clear hsl
  have hLCH := Lib.hid hLC
  clear hLC
  have hbaH := Lib.hid hba
  clear hba
  have hwRH := Lib.hid hwR
  clear hwR
  have h2fH := Lib.hid h2f
  clear h2f
  have hcpH := Lib.hid hcp
  clear hcp
  have hheHH := Lib.hid hheH
  clear hheH
  have hheNH := Lib.hid hheN
  clear hheN
  have hreRH := Lib.hid hreR
  clear hreR
  have hHlH := Lib.hid hHl
  clear hHl
  have hRlH := Lib.hid hRl
  clear hRl
  go_enter Tryz.func136, Tryz.ntmps136
  go_wp2_with fail
  refine (rpkg_nil _).mono ?_
  rintro e w1 ⟨rfl, rfl⟩
  go_wp2_with fail
  refine (cut58_any s H N is hcutH.out _ (hmH.out.below hbaH.out) (by omega)).mono ?_
  rintro e w2 ⟨rfl, hw2⟩
  have hL2 := hLCH.out.below hw2
  have hb2 := hbaH.out.trans (hw2.mono hbaH.out.size)
  clear hw2
  have hL2H := Lib.hid hL2
  clear hL2
  have hb2H := Lib.hid hb2
  clear hb2
  go_wp2_with fail
  refine (hcpH.out _).mono ?_
  rintro e w1 ⟨rfl, hw1⟩
  subst hw1
  obtain ⟨w2, rfl⟩ : ∃ W, W = w1 := ⟨_, rfl⟩
  have hL2 := hL2H.out
  have hb2 := hb2H.out
  clear hL2H hb2H
  have l0 := hL2.l0
  have l1 := hL2.l1
  have f0 := hL2.fz 1 0 (by decide)
  have f1 := hL2.fz 1 1 (by decide)
  cases is
  · cases wh
    · have hlF : labelL s.data.toList = false := rr_four hcutH.out (fun h => by cases h) (fun h => by cases h)
      have r0 := hL2.r0
      have r1 := hL2.r1
      have g0 := hL2.fz 0 0 (by decide)
      have g1 := hL2.fz 0 1 (by decide)
      rw [Nat.add_zero] at g0 g1
      have hL2H := Lib.hid hL2
      clear hL2
      have hb2H := Lib.hid hb2
      clear hb2
      have hlFH := Lib.hid hlF
      clear hlF
      go_wp2_with fail
      all_goals exact bodyPost_ret (v := .tuple #[.agg #[.string ⟨#[]⟩, .string ⟨#[]⟩], .int .i64 10]) (by simp [results, Tryz.results136, go_sem, r0, r1]) rfl ⟨bs [], bs [], 10, rfl, .inr ⟨by decide, rfl, rfl, hlFH.out⟩, (hb2H.out.setCell (Nat.le_refl _) _).setCell (Nat.le_refl _) _⟩
    · cases re
      · obtain rfl := hwRH.out rfl
        have hL2H := Lib.hid hL2
        clear hL2
        have hb2H := Lib.hid hb2
        clear hb2
        go_wp2_with fail
        refine (rlast_any (bs (H.drop 2)) _ hRs).mono ?_
        rintro e w3 ⟨u, rfl, hu, hw3⟩
        have hus : u.size ≤ 2000000 := by omega
        have hsp1 := rr_three u hcutH.out hwhH.out hu
        have hL3 := hL2H.out
        rw [hw3] at hL3
        have hb3a := hb2H.out
        rw [hw3] at hb3a
        clear l0 l1 f0 f1
        have l0 := hL3.l0
        have l1 := hL3.l1
        have f0 := hL3.fz 1 0 (by decide)
        have f1 := hL3.fz 1 1 (by decide)
        have hL3 := hL3.set (bs (H.drop 2)) u
        have hb3 : Below w.heap.size w ((w3.setCell ⟨w.heap.size + 1, 0, none⟩ (.string (bs (H.drop 2)))).setCell ⟨w.heap.size + 1, 1, none⟩ (.string u)) := (hb3a.setCell (Nat.le_succ _) _).setCell (Nat.le_succ _) _
        have hm3 := hmH.out.below hb3
        have hsp : (checkB (bs (H.drop 2)) (u) = true → RlSpec s.data.toList (bs (H.drop 2)) (u) 0) ∧ (checkB (bs (H.drop 2)) (u) = false → labelL s.data.toList = false) := ⟨fun _ => hsp1.1, fun _ => hsp1.2⟩
        clear hsp1 hL2H hb2H hb3a
        have hw3H := Lib.hid hw3
        clear hw3
        obtain ⟨b, hb⟩ : ∃ b, checkB (bs (H.drop 2)) (u) = b := ⟨_, rfl⟩
        rw [hb] at hsp
        have hm3H := Lib.hid hm3
        clear hm3
        have hL3H := Lib.hid hL3
        clear hL3
        have hb3H := Lib.hid hb3
        clear hb3
        have hbH := Lib.hid hb
        clear hb
        have hspH := Lib.hid hsp
        clear hsp
        go_wp2_with fail
        refine (rcheck_any (bs (H.drop 2)) (u) _ hm3H.out hRs hus b hbH.out).mono ?_
        rintro e w4 ⟨rfl, hw4⟩
        have hL4 := hL3H.out.below hw4
        have hb4 := hb3H.out.trans (hw4.mono hb3H.out.size)
        have r0 := hL4.r0
        have r1 := hL4.r1
        have k0 := hL4.l0
        have k1 := hL4.l1
        have g0 := hL4.fz 0 0 (by decide)
        have g1 := hL4.fz 0 1 (by decide)
        rw [Nat.add_zero] at g0 g1
        clear hw4 l0 l1 f0 f1
        have hL4H := Lib.hid hL4
        clear hL4
        have hb4H := Lib.hid hb4
        clear hb4
        cases b
        · go_wp2_with fail
          all_goals exact bodyPost_ret (v := .tuple #[.agg #[.string ⟨#[]⟩, .string ⟨#[]⟩], .int .i64 10]) (by simp [results, Tryz.results136, go_sem, r0, r1]) rfl ⟨bs [], bs [], 10, rfl, .inr ⟨by decide, rfl, rfl, hspH.out.2 (by first | rfl | trivial)⟩, (hb4H.out.setCell (Nat.le_refl _) _).setCell (Nat.le_refl _) _⟩
        · go_wp2_with fail
          all_goals exact bodyPost_ret (v := .tuple #[.agg #[.string (bs (H.drop 2)), .string (u)], .int .i64 0]) (by simp [results, Tryz.results136, go_sem, r0, r1]) rfl ⟨_, _, 0, rfl, hspH.out.1 (by first | rfl | trivial), (hb4H.out.setCell (Nat.le_refl _) _).setCell (Nat.le_refl _) _⟩
      · have hlF : labelL s.data.toList = false := rr_four hcutH.out (fun h => by cases h) (fun h => by cases h)
        have r0 := hL2.r0
        have r1 := hL2.r1
        have g0 := hL2.fz 0 0 (by decide)
        have g1 := hL2.fz 0 1 (by decide)
        rw [Nat.add_zero] at g0 g1
        have hL2H := Lib.hid hL2
        clear hL2
        have hb2H := Lib.hid hb2
        clear hb2
        have hlFH := Lib.hid hlF
        clear hlF
        go_wp2_with fail
        all_goals exact bodyPost_ret (v := .tuple #[.agg #[.string ⟨#[]⟩, .string ⟨#[]⟩], .int .i64 10]) (by simp [results, Tryz.results136, go_sem, r0, r1]) rfl ⟨bs [], bs [], 10, rfl, .inr ⟨by decide, rfl, rfl, hlFH.out⟩, (hb2H.out.setCell (Nat.le_refl _) _).setCell (Nat.le_refl _) _⟩
  · cases he
    · cases wh
      · have hlF : labelL s.data.toList = false := rr_four hcutH.out (fun _ => hheNH.out rfl) (fun _ => hwhH.out)
        have r0 := hL2.r0
        have r1 := hL2.r1
        have g0 := hL2.fz 0 0 (by decide)
        have g1 := hL2.fz 0 1 (by decide)
        rw [Nat.add_zero] at g0 g1
        have hL2H := Lib.hid hL2
        clear hL2
        have hb2H := Lib.hid hb2
        clear hb2
        have hlFH := Lib.hid hlF
        clear hlF
        go_wp2_with fail
        all_goals exact bodyPost_ret (v := .tuple #[.agg #[.string ⟨#[]⟩, .string ⟨#[]⟩], .int .i64 10]) (by simp [results, Tryz.results136, go_sem, r0, r1]) rfl ⟨bs [], bs [], 10, rfl, .inr ⟨by decide, rfl, rfl, hlFH.out⟩, (hb2H.out.setCell (Nat.le_refl _) _).setCell (Nat.le_refl _) _⟩
      · obtain rfl := hwRH.out rfl
        have hL3 := hL2.set (bs (H.drop 2)) (bs N)
        have hb3 : Below w.heap.size w ((w2.setCell ⟨w.heap.size + 1, 0, none⟩ (.string (bs (H.drop 2)))).setCell ⟨w.heap.size + 1, 1, none⟩ (.string (bs N))) := (hb2.setCell (Nat.le_succ _) _).setCell (Nat.le_succ _) _
        have hm3 := hmH.out.below hb3
        have hsp := h2fH.out hcutH.out hwhH.out
        clear hL2 hb2
        obtain ⟨b, hb⟩ : ∃ b, checkB (bs (H.drop 2)) (bs N) = b := ⟨_, rfl⟩
        rw [hb] at hsp
        have hm3H := Lib.hid hm3
        clear hm3
        have hL3H := Lib.hid hL3
        clear hL3
        have hb3H := Lib.hid hb3
        clear hb3
        have hbH := Lib.hid hb
        clear hb
        have hspH := Lib.hid hsp
        clear hsp
        go_wp2_with fail
        refine (rcheck_any (bs (H.drop 2)) (bs N) _ hm3H.out hRs hNs b hbH.out).mono ?_
        rintro e w4 ⟨rfl, hw4⟩
        have hL4 := hL3H.out.below hw4
        have hb4 := hb3H.out.trans (hw4.mono hb3H.out.size)
        have r0 := hL4.r0
        have r1 := hL4.r1
        have k0 := hL4.l0
        have k1 := hL4.l1
        have g0 := hL4.fz 0 0 (by decide)
        have g1 := hL4.fz 0 1 (by decide)
        rw [Nat.add_zero] at g0 g1
        clear hw4 l0 l1 f0 f1
        have hL4H := Lib.hid hL4
        clear hL4
        have hb4H := Lib.hid hb4
        clear hb4
        cases b
        · go_wp2_with fail
          all_goals exact bodyPost_ret (v := .tuple #[.agg #[.string ⟨#[]⟩, .string ⟨#[]⟩], .int .i64 10]) (by simp [results, Tryz.results136, go_sem, r0, r1]) rfl ⟨bs [], bs [], 10, rfl, .inr ⟨by decide, rfl, rfl, hspH.out.2 (by first | rfl | trivial)⟩, (hb4H.out.setCell (Nat.le_refl _) _).setCell (Nat.le_refl _) _⟩
        · go_wp2_with fail
          all_goals exact bodyPost_ret (v := .tuple #[.agg #[.string (bs (H.drop 2)), .string (bs N)], .int .i64 0]) (by simp [results, Tryz.results136, go_sem, r0, r1]) rfl ⟨_, _, 0, rfl, hspH.out.1 (by first | rfl | trivial), (hb4H.out.setCell (Nat.le_refl _) _).setCell (Nat.le_refl _) _⟩
    · obtain rfl := hheHH.out rfl
      have hsp1 := rr_one hcutH.out
      have hL3 := hL2.set1 (bs N)
      have hb3 : Below w.heap.size w (w2.setCell ⟨w.heap.size + 1, 1, none⟩ (.string (bs N))) := hb2.setCell (Nat.le_succ _) _
      have hm3 := hmH.out.below hb3
      have hsp : (checkB (⟨#[]⟩) (bs N) = true → RlSpec s.data.toList (⟨#[]⟩) (bs N) 0) ∧ (checkB (⟨#[]⟩) (bs N) = false → labelL s.data.toList = false) := ⟨fun _ => hsp1.1, fun _ => hsp1.2⟩
      clear hsp1 hL2 hb2
      obtain ⟨b, hb⟩ : ∃ b, checkB (⟨#[]⟩) (bs N) = b := ⟨_, rfl⟩
      rw [hb] at hsp
      have hm3H := Lib.hid hm3
      clear hm3
      have hL3H := Lib.hid hL3
      clear hL3
      have hb3H := Lib.hid hb3
      clear hb3
      have hbH := Lib.hid hb
      clear hb
      have hspH := Lib.hid hsp
      clear hsp
      go_wp2_with fail
      refine (rcheck_any (⟨#[]⟩) (bs N) _ hm3H.out hzs hNs b hbH.out).mono ?_
      rintro e w4 ⟨rfl, hw4⟩
      have hL4 := hL3H.out.below hw4
      have hb4 := hb3H.out.trans (hw4.mono hb3H.out.size)
      have r0 := hL4.r0
      have r1 := hL4.r1
      have k0 := hL4.l0
      have k1 := hL4.l1
      have g0 := hL4.fz 0 0 (by decide)
      have g1 := hL4.fz 0 1 (by decide)
      rw [Nat.add_zero] at g0 g1
      clear hw4 l0 l1 f0 f1
      have hL4H := Lib.hid hL4
      clear hL4
      have hb4H := Lib.hid hb4
      clear hb4
      cases b
      · go_wp2_with fail
        all_goals exact bodyPost_ret (v := .tuple #[.agg #[.string ⟨#[]⟩, .string ⟨#[]⟩], .int .i64 10]) (by simp [results, Tryz.results136, go_sem, r0, r1]) rfl ⟨bs [], bs [], 10, rfl, .inr ⟨by decide, rfl, rfl, hspH.out.2 (by first | rfl | trivial)⟩, (hb4H.out.setCell (Nat.le_refl _) _).setCell (Nat.le_refl _) _⟩
      · go_wp2_with fail
        all_goals exact bodyPost_ret (v := .tuple #[.agg #[.string (⟨#[]⟩), .string (bs N)], .int .i64 0]) (by simp [results, Tryz.results136, go_sem, r0, r1]) rfl ⟨_, _, 0, rfl, hspH.out.1 (by first | rfl | trivial), (hb4H.out.setCell (Nat.le_refl _) _).setCell (Nat.le_refl _) _⟩

set_option maxHeartbeats 1000000 in
theorem isLabel_big (s : ByteArray) (w : World) (hm : MaxLenAt w) (hs : s.size ≤ 2000000) (b : Bool) (hb : labelL s.data.toList = b) :
    Calls Tryz.prog 97 #[.string s] w fun e w' => e = .returned (.bool b) ∧ Below w.heap.size w w' := by
  have hsl : s.data.toList.length = s.size := by show s.data.toList.length = s.data.size; exact Array.length_toList
  have hmH := Lib.hid hm
  clear hm
  have hbH := Lib.hid hb
  clear hb
  have hslH := Lib.hid hsl
  clear hsl
  go_enter Tryz.func97, Tryz.ntmps97
  go_wp2_with fail
  refine (rreadLabel_any s _ hmH.out hs).mono ?_
  rintro e w1 ⟨p, n, f, rfl, hsp, hw1⟩
  have hba := hw1.alloc hw1.size (.cells #[.string p, .string n] 111)
  rcases hsp with ⟨rfl, h1, h2, h3⟩ | ⟨h1, rfl, rfl, h2⟩
  · rw [hbH.out] at h3
    have he := wholeB_eq s p n b h3
    have he2 : (s.toList == (wholeB p n).toList) = b := by rw [← he, Bool.eq_iff_iff, beq_iff_eq, beq_iff_eq]; exact eq_comm
    have hp : p.size ≤ 2000000 := by have := hslH.out; omega
    have hn : n.size ≤ 2000000 := by have := hslH.out; omega
    unfold wholeB at he2
    clear h1 h2 h3 he
    have hw1H := Lib.hid hw1
    clear hw1
    have hbaH := Lib.hid hba
    clear hba
    go_wp2
    go_ret
    exact ⟨rfl, hbaH.out⟩
  · have hf : (f == 0) = false := by simpa using h1
    obtain rfl : false = b := by rw [← hbH.out, h2]
    clear h1 h2
    have hw1H := Lib.hid hw1
    clear hw1
    have hbaH := Lib.hid hba
    clear hba
    go_wp2
    go_ret
    exact ⟨rfl, hbaH.out⟩
theorem isLabel_any (s : ByteArray) (w : World) (hm : MaxLenAt w) (hs : s.size ≤ 1048576) (b : Bool) (hb : labelL s.data.toList = b) :
    Calls Tryz.prog 97 #[.string s] w fun e w' => e = .returned (.bool b) ∧ Below w.heap.size w w' := isLabel_big s w hm (by omega) b hb
end Go.Proofs.YtgegdfmdcmgliaaGreatDoor.C11
