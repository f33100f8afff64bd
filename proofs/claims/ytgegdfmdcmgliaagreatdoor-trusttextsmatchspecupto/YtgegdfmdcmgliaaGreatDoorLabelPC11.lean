/-
  ReadLabel and IsWhole of the program.
-/
import Derived.Test.YtgegdfmdcmgliaaGreatDoorLabelCC11
namespace Go.Proofs.YtgegdfmdcmgliaaGreatDoor.C11
open Go.RowKit Go.Lib
set_option linter.unusedVariables false

/-- what ReadLabel comes to, as far as whole labels go -/
def RlSpec (t : List UInt8) (p n : ByteArray) (f : Int) : Prop :=
  (f = 0 ∧ p.size ≤ t.length ∧ n.size ≤ t.length ∧ (wholeL p.data.toList n.data.toList = t ↔ labelL t = true)) ∨ (f ≠ 0 ∧ p = bs [] ∧ n = bs [] ∧ labelL t = false)
def RlOut (t : List UInt8) (w : World) (e : Ending) (w' : World) : Prop :=
  ∃ (p n : ByteArray) (f : Int), e = .returned (.tuple #[.agg #[.string p, .string n], .int .i64 f]) ∧ RlSpec t p n f ∧ Below w.heap.size w w'
/-- as RlOut, and where there is no fault the label has passed the check -/
def RlOutP (t : List UInt8) (w : World) (e : Ending) (w' : World) : Prop :=
  ∃ (p n : ByteArray) (f : Int), e = .returned (.tuple #[.agg #[.string p, .string n], .int .i64 f]) ∧ RlSpec t p n f ∧ (f = 0 → checkB p n = true) ∧ Below w.heap.size w w'
theorem checkB_size {p n : ByteArray} (h : checkB p n = true) : p.size ≤ 2000000 ∧ n.size ≤ 2000000 := by
  unfold checkB okPkgB at h
  rw [Bool.and_eq_true, Bool.or_eq_true] at h
  have hp : ∀ {s : ByteArray}, pathB s = true → s.size ≤ 200 := fun {s} h => by
    unfold pathB at h
    rw [Bool.and_eq_true] at h
    have := inR_true h.1
    omega
  refine ⟨?_, by have := hp h.2; omega⟩
  rcases h.1 with h1 | h1
  · rw [of_decide_eq_true h1, bs_size]; simp
  · have := hp h1; omega
/-- the cells of the result and of the label that is made -/
structure LC (B : Nat) (a b c d : ByteArray) (W : World) : Prop where
  r0 : W.cell? ⟨B, 0, none⟩ = some (.string a)
  r1 : W.cell? ⟨B, 1, none⟩ = some (.string b)
  l0 : W.cell? ⟨B + 1, 0, none⟩ = some (.string c)
  l1 : W.cell? ⟨B + 1, 1, none⟩ = some (.string d)
  fz : ∀ i j, i < 2 → W.frozen? ⟨B + i, j, none⟩ = false
theorem LC.below {B : Nat} {a b c d : ByteArray} {W W' : World} (h : LC B a b c d W) (hb : Below W.heap.size W W') : LC B a b c d W' := by
  have h0 : B < W.heap.size := cell?_lt h.r0
  have h1 : B + 1 < W.heap.size := cell?_lt h.l0
  exact ⟨(hb.cell (p := ⟨B, 0, none⟩) h0).trans h.r0, (hb.cell (p := ⟨B, 1, none⟩) h0).trans h.r1, (hb.cell (p := ⟨B + 1, 0, none⟩) h1).trans h.l0, (hb.cell (p := ⟨B + 1, 1, none⟩) h1).trans h.l1, fun i j hi => (hb.frozen (p := ⟨B + i, j, none⟩) (show B + i < W.heap.size by omega)).trans (h.fz i j hi)⟩
theorem LC.made2 (w : World) (T : TypeId) (c d : ByteArray) : LC w.heap.size ⟨#[]⟩ ⟨#[]⟩ c d ((w.alloc (.cells #[.string ⟨#[]⟩, .string ⟨#[]⟩] T)).alloc (.cells #[.string c, .string d] T)) := by
  have h1 := cell_new w #[.string ⟨#[]⟩, .string ⟨#[]⟩] T
  have h2 := cell_new (w.alloc (.cells #[.string ⟨#[]⟩, .string ⟨#[]⟩] T)) #[.string c, .string d] T
  rw [World.size_alloc] at h2
  refine ⟨(World.cell?_alloc_lt _ _ _ (by simp)).trans (h1 0), (World.cell?_alloc_lt _ _ _ (by simp)).trans (h1 1), h2 0, h2 1, fun i j hi => ?_⟩
  match i, hi with
  | 0, _ =>
    rw [Nat.add_zero, World.frozen?_alloc_past _ _ _ (by simp)]
    exact World.frozen?_alloc_new w _ T j
  | 1, _ =>
    have := World.frozen?_alloc_new (w.alloc (.cells #[.string ⟨#[]⟩, .string ⟨#[]⟩] T)) #[.string c, .string d] T j
    rwa [World.size_alloc] at this
theorem LC.made (w : World) (T : TypeId) : LC w.heap.size ⟨#[]⟩ ⟨#[]⟩ ⟨#[]⟩ ⟨#[]⟩ ((w.alloc (.cells #[.string ⟨#[]⟩, .string ⟨#[]⟩] T)).alloc (.cells #[.string ⟨#[]⟩, .string ⟨#[]⟩] T)) := LC.made2 w T _ _
theorem LC.set {B : Nat} {a b c d : ByteArray} {W : World} (h : LC B a b c d W) (c' d' : ByteArray) : LC B a b c' d' ((W.setCell ⟨B + 1, 0, none⟩ (.string c')).setCell ⟨B + 1, 1, none⟩ (.string d')) := by
  have o : ∀ p : Addr, p ≠ ⟨B + 1, 0, none⟩ → p ≠ ⟨B + 1, 1, none⟩ → ((W.setCell ⟨B + 1, 0, none⟩ (.string c')).setCell ⟨B + 1, 1, none⟩ (.string d')).cell? p = W.cell? p := fun p h1 h2 => by
    rw [World.cell?_setCell_other _ _ _ _ (fun e => h2 e.symm), World.cell?_setCell_other _ _ _ _ (fun e => h1 e.symm)]
  refine ⟨(o _ (by simp) (by simp)).trans h.r0, (o _ (by simp) (by simp)).trans h.r1, ?_, ?_, fun i j hi => by rw [World.frozen?_setCell, World.frozen?_setCell]; exact h.fz i j hi⟩
  · rw [World.cell?_setCell_other _ _ _ _ (by simp)]
    exact World.cell?_setCell_same' _ _ _ (by rw [h.l0]; rfl)
  · exact World.cell?_setCell_same' _ _ _ (by rw [World.cell?_setCell_other _ _ _ _ (by simp), h.l1]; rfl)

theorem LC.set1 {B : Nat} {a b c d : ByteArray} {W : World} (h : LC B a b c d W) (d' : ByteArray) : LC B a b c d' (W.setCell ⟨B + 1, 1, none⟩ (.string d')) := by
  have o : ∀ p : Addr, p ≠ ⟨B + 1, 1, none⟩ → (W.setCell ⟨B + 1, 1, none⟩ (.string d')).cell? p = W.cell? p := fun p h2 => by
    rw [World.cell?_setCell_other _ _ _ _ (fun e => h2 e.symm)]
  exact ⟨(o _ (by simp)).trans h.r0, (o _ (by simp)).trans h.r1, (o _ (by simp)).trans h.l0, World.cell?_setCell_same' _ _ _ (by rw [h.l1]; rfl), fun i j hi => by rw [World.frozen?_setCell]; exact h.fz i j hi⟩
theorem drop2_len (t : List UInt8) : (t.drop 2).length ≤ t.length := by rw [List.length_drop]; omega
theorem rl_whole {t P N : List UInt8} (hp : hasPrefix t [47, 47] = true) (hc : cut (t.drop 2) [58] = (P, N, true)) : (checkB (bs P) (bs N) = true → RlSpec t (bs P) (bs N) 0) ∧ (checkB (bs P) (bs N) = false → labelL t = false) := by
  rcases cut_cases (t.drop 2) with ⟨_, h⟩ | ⟨a, b, h1, h2, h3⟩
  · rw [hc] at h; cases h
  · rw [hc] at h3
    injection h3 with e1 e2
    injection e2 with e2 _
    subst e1 e2
    have e : t = wholeL P N := by
      have := pref2 hp
      rw [h1] at this
      rw [this]
      simp [wholeL]
    have hl := label_of (n := N) h2
    rw [← e] at hl
    have hlen := drop2_len t
    rw [h1, List.length_append, List.length_cons] at hlen
    refine ⟨fun h => .inl ⟨rfl, by rw [bs_size]; omega, by rw [bs_size]; omega, ?_⟩, fun h => by rw [hl, h]⟩
    rw [bs_data, bs_data, hl, h]
    exact ⟨fun _ => rfl, fun _ => e.symm⟩
theorem rl_long {t : List UInt8} {P N : List UInt8} (u : ByteArray) (hp : hasPrefix t [47, 47] = true) (hc : cut (t.drop 2) [58] = (P, N, false)) (hu : u.size ≤ (bs P).size) : RlSpec t (bs P) u 0 ∧ labelL t = false := by
  rcases cut_cases (t.drop 2) with ⟨h0, h⟩ | ⟨a, b, h1, h2, h3⟩
  · rw [hc] at h
    injection h with e1 e2
    subst e1
    have hn := label_no_colon h0
    have hlen := drop2_len t
    rw [bs_size] at hu
    refine ⟨.inl ⟨rfl, by rw [bs_size]; omega, by omega, ?_⟩, hn⟩
    rw [bs_data, hn]
    exact ⟨fun h => absurd h (not_whole_long hp), fun h => by cases h⟩
  · rw [hc] at h3; cases h3
theorem rl_none {t : List UInt8} (p n : ByteArray) (hp : hasPrefix t [47, 47] = false) (h1 : p.size ≤ t.length) (h2 : n.size ≤ t.length) : RlSpec t p n 0 ∧ labelL t = false := by
  have hn := label_no_pref hp
  refine ⟨.inl ⟨rfl, h1, h2, ?_⟩, hn⟩
  rw [hn]
  exact ⟨fun h => absurd h (not_whole_no_pref hp), fun h => by cases h⟩


set_option maxRecDepth 100000 in
set_option maxHeartbeats 4000000 in
theorem readLabel_any (s : ByteArray) (w : World) (hm : MaxLenAt w) (hs : s.size ≤ 9223372036854775807) :
    Calls Tryz.prog 79 #[.string s, .string ⟨#[]⟩] w (RlOutP s.data.toList w) := by
  have hsl : s.data.toList.length = s.size := by show s.data.toList.length = s.data.size; exact Array.length_toList
  obtain ⟨pf, hpf⟩ : ∃ b, hasPrefix s.data.toList [47, 47] = b := ⟨_, rfl⟩
  obtain ⟨pc, hpc⟩ : ∃ b, hasPrefix s.data.toList [58] = b := ⟨_, rfl⟩
  have hLC := LC.made w 111
  have hba := ((Below.refl w.heap.size w).alloc (Nat.le_refl _) (.cells #[.string ⟨#[]⟩, .string ⟨#[]⟩] 111)).alloc (by simp) (.cells #[.string ⟨#[]⟩, .string ⟨#[]⟩] 111)
  obtain ⟨t1, ht1⟩ : ∃ t, trimPrefix s.data.toList [58] = t := ⟨_, rfl⟩
  have ht1l : t1.length ≤ s.data.toList.length := by
    rw [← ht1]; unfold trimPrefix
    split
    · rw [List.length_drop]; omega
    · exact Nat.le_refl _
  obtain ⟨t2, htr⟩ : ∃ t, trimPrefix s.data.toList [47, 47] = t := ⟨_, rfl⟩
  cases pf
  · have hsp0 : ∀ p n : ByteArray, p.size ≤ s.data.toList.length → n.size ≤ s.data.toList.length → RlSpec s.data.toList p n 0 ∧ labelL s.data.toList = false := fun p n => rl_none p n hpf
    have hmH := Lib.hid hm
    clear hm
    have hpfH := Lib.hid hpf
    clear hpf
    have hpcH := Lib.hid hpc
    clear hpc
    have htrH := Lib.hid htr
    clear htr
    have ht1H := Lib.hid ht1
    clear ht1
    have hslH := Lib.hid hsl
    clear hsl
    have hLCH := Lib.hid hLC
    clear hLC
    have hbaH := Lib.hid hba
    clear hba
    have hsp0H := Lib.hid hsp0
    clear hsp0
    have ht1lH := Lib.hid ht1l
    clear ht1l
    go_enter Tryz.func79, Tryz.ntmps79
    go_wp2_with fail
    refine (cp2_any s false _ hpfH.out htrH.out _).mono ?_
    rintro e w1 ⟨rfl, rfl⟩
    go_wp2_with fail
    refine (cp1_any s pc _ hpcH.out ht1H.out _).mono ?_
    rintro e w1 ⟨rfl, rfl⟩
    cases pc
    · have hsp1 := hsp0H.out ⟨#[]⟩ ⟨#[]⟩ (Nat.zero_le _) (Nat.zero_le _)
      have hm3 := hmH.out.below hbaH.out
      have hL3 := hLCH.out
      have hb3 := hbaH.out
      have hsp : (checkB (⟨#[]⟩) (⟨#[]⟩) = true → RlSpec s.data.toList (⟨#[]⟩) (⟨#[]⟩) 0) ∧ (checkB (⟨#[]⟩) (⟨#[]⟩) = false → labelL s.data.toList = false) := ⟨fun _ => hsp1.1, fun _ => hsp1.2⟩
      clear hsp1
      obtain ⟨b, hb⟩ : ∃ b, checkB (⟨#[]⟩) (⟨#[]⟩) = b := ⟨_, rfl⟩
      rw [hb] at hsp
      have hm3H := Lib.hid hm3
      clear hm3
      have hL3H := Lib.hid hL3
      clear hL3
      have hb3H := Lib.hid hb3
      clear hb3
      have hbH := Lib.hid hb
      clear hb
      have hspH := Lib.hid hsp
      clear hsp
      go_wp2_with fail
      refine (check_any (⟨#[]⟩) (⟨#[]⟩) _ hm3H.out b hbH.out).mono ?_
      rintro e w4 ⟨rfl, hw4⟩
      have hL4 := hL3H.out.below hw4
      have hb4 := hb3H.out.trans (hw4.mono hb3H.out.size)
      have r0 := hL4.r0
      have r1 := hL4.r1
      have k0 := hL4.l0
      have k1 := hL4.l1
      have g0 := hL4.fz 0 0 (by decide)
      have g1 := hL4.fz 0 1 (by decide)
      rw [Nat.add_zero] at g0 g1
      clear hw4 hL3H
      have hL4H := Lib.hid hL4
      clear hL4
      have hb4H := Lib.hid hb4
      clear hb4
      cases b
      · go_wp2_with fail
        exact bodyPost_ret (v := .tuple #[.agg #[.string ⟨#[]⟩, .string ⟨#[]⟩], .int .i64 10]) (by simp [results, Tryz.results79, go_sem, r0, r1]) rfl ⟨bs [], bs [], 10, rfl, .inr ⟨by decide, rfl, rfl, hspH.out.2 (by first | rfl | trivial)⟩, fun h => (by cases h), (hb4H.out.setCell (Nat.le_refl _) _).setCell (Nat.le_refl _) _⟩
      · go_wp2_with fail
        all_goals exact bodyPost_ret (v := .tuple #[.agg #[.string (⟨#[]⟩), .string (⟨#[]⟩)], .int .i64 0]) (by simp [results, Tryz.results79, go_sem, r0, r1]) rfl ⟨_, _, 0, rfl, hspH.out.1 (by first | rfl | trivial), fun _ => hbH.out, (hb4H.out.setCell (Nat.le_refl _) _).setCell (Nat.le_refl _) _⟩
    · have hsp1 := hsp0H.out ⟨#[]⟩ (bs t1) (Nat.zero_le _) (by rw [bs_size]; exact ht1lH.out)
      have hL3 := LC.made2 w 111 ⟨#[]⟩ (bs t1)
      have hb3 := ((Below.refl w.heap.size w).alloc (Nat.le_refl _) (.cells #[.string ⟨#[]⟩, .string ⟨#[]⟩] 111)).alloc (by simp) (.cells #[.string ⟨#[]⟩, .string (bs t1)] 111)
      have hm3 := hmH.out.below hb3
      have hsp : (checkB (⟨#[]⟩) (bs t1) = true → RlSpec s.data.toList (⟨#[]⟩) (bs t1) 0) ∧ (checkB (⟨#[]⟩) (bs t1) = false → labelL s.data.toList = false) := ⟨fun _ => hsp1.1, fun _ => hsp1.2⟩
      clear hsp1
      obtain ⟨b, hb⟩ : ∃ b, checkB (⟨#[]⟩) (bs t1) = b := ⟨_, rfl⟩
      rw [hb] at hsp
      have hm3H := Lib.hid hm3
      clear hm3
      have hL3H := Lib.hid hL3
      clear hL3
      have hb3H := Lib.hid hb3
      clear hb3
      have hbH := Lib.hid hb
      clear hb
      have hspH := Lib.hid hsp
      clear hsp
      go_wp2_with fail
      refine (check_any (⟨#[]⟩) (bs t1) _ hm3H.out b hbH.out).mono ?_
      rintro e w4 ⟨rfl, hw4⟩
      have hL4 := hL3H.out.below hw4
      have hb4 := hb3H.out.trans (hw4.mono hb3H.out.size)
      have r0 := hL4.r0
      have r1 := hL4.r1
      have k0 := hL4.l0
      have k1 := hL4.l1
      have g0 := hL4.fz 0 0 (by decide)
      have g1 := hL4.fz 0 1 (by decide)
      rw [Nat.add_zero] at g0 g1
      clear hw4 hL3H
      have hL4H := Lib.hid hL4
      clear hL4
      have hb4H := Lib.hid hb4
      clear hb4
      cases b
      · go_wp2_with fail
        exact bodyPost_ret (v := .tuple #[.agg #[.string ⟨#[]⟩, .string ⟨#[]⟩], .int .i64 10]) (by simp [results, Tryz.results79, go_sem, r0, r1]) rfl ⟨bs [], bs [], 10, rfl, .inr ⟨by decide, rfl, rfl, hspH.out.2 (by first | rfl | trivial)⟩, fun h => (by cases h), (hb4H.out.setCell (Nat.le_refl _) _).setCell (Nat.le_refl _) _⟩
      · go_wp2_with fail
        all_goals exact bodyPost_ret (v := .tuple #[.agg #[.string (⟨#[]⟩), .string (bs t1)], .int .i64 0]) (by simp [results, Tryz.results79, go_sem, r0, r1]) rfl ⟨_, _, 0, rfl, hspH.out.1 (by first | rfl | trivial), fun _ => hbH.out, (hb4H.out.setCell (Nat.le_refl _) _).setCell (Nat.le_refl _) _⟩
  · have htr2 : t2 = s.data.toList.drop 2 := by rw [← htr]; unfold trimPrefix; rw [hpf]; rfl
    subst htr2
    obtain ⟨P, N, nm, hcut⟩ : ∃ P N nm, cut (s.data.toList.drop 2) [58] = (P, N, nm) := ⟨_, _, _, rfl⟩
    have hspW : nm = true → (checkB (bs P) (bs N) = true → RlSpec s.data.toList (bs P) (bs N) 0) ∧ (checkB (bs P) (bs N) = false → labelL s.data.toList = false) := fun h => by subst h; exact rl_whole hpf hcut
    have hspL : nm = false → ∀ u : ByteArray, u.size ≤ (bs P).size → RlSpec s.data.toList (bs P) u 0 ∧ labelL s.data.toList = false := fun h u hu => by subst h; exact rl_long u hpf hcut hu
    have hPs : (bs P).size ≤ 9223372036854775807 := by
      rw [bs_size]
      have h1 := drop2_len s.data.toList
      rcases cut_cases (s.data.toList.drop 2) with ⟨_, h⟩ | ⟨a, b, h2, _, h⟩
      · rw [hcut] at h
        injection h with e1 _
        rw [e1]; omega
      · rw [hcut] at h
        injection h with e1 _
        rw [e1]
        rw [h2, List.length_append] at h1
        omega
    have hmH := Lib.hid hm
    clear hm
    have hpfH := Lib.hid hpf
    clear hpf
    have hpcH := Lib.hid hpc
    clear hpc
    have htrH := Lib.hid htr
    clear htr
    have ht1H := Lib.hid ht1
    clear ht1
    have hcutH := Lib.hid hcut
    clear hcut
    have hslH := Lib.hid hsl
    clear hsl
    have hLCH := Lib.hid hLC
    clear hLC
    have hbaH := Lib.hid hba
    clear hba
    have hspWH := Lib.hid hspW
    clear hspW
    have hspLH := Lib.hid hspL
    clear hspL
    have ht1lH := Lib.hid ht1l
    clear ht1l
    go_enter Tryz.func79, Tryz.ntmps79
    go_wp2_with fail
    refine (cp2_any s true _ hpfH.out htrH.out _).mono ?_
    rintro e w1 ⟨rfl, rfl⟩
    go_wp2_with fail
    refine (cp1_any s pc _ hpcH.out ht1H.out _).mono ?_
    rintro e w1 ⟨rfl, rfl⟩
    cases nm
    · go_wp2_with fail
      refine (cut58_any (bs (s.data.toList.drop 2)) P N false (by rw [bs_data]; exact hcutH.out) _ (hmH.out.below hbaH.out) (by rw [bs_size, List.length_drop]; have := hslH.out; omega)).mono ?_
      rintro e w2 ⟨rfl, hw2⟩
      have hL2 := hLCH.out.below hw2
      have hb2 := hbaH.out.trans (hw2.mono hbaH.out.size)
      have l0 := hL2.l0
      have l1 := hL2.l1
      have f0 := hL2.fz 1 0 (by decide)
      have f1 := hL2.fz 1 1 (by decide)
      clear hw2
      have hL3 := hL2.set (bs P) (bs N)
      have hb3 : Below w.heap.size w ((w2.setCell ⟨w.heap.size + 1, 0, none⟩ (.string (bs P))).setCell ⟨w.heap.size + 1, 1, none⟩ (.string (bs N))) := (hb2.setCell (Nat.le_succ _) _).setCell (Nat.le_succ _) _
      have hm3 := hmH.out.below hb3
      clear hL2 hb2
      have hL3H := Lib.hid hL3
      clear hL3
      have hb3H := Lib.hid hb3
      clear hb3
      have hm3H := Lib.hid hm3
      clear hm3
      go_wp2_with fail
      refine (last_any (bs P) _ hPs).mono ?_
      rintro e w3 ⟨u, rfl, hu, hw3⟩
      have hsp1 := hspLH.out (by first | rfl | trivial) u hu
      have hL3a := hL3H.out
      rw [hw3] at hL3a
      have hb3a := hb3H.out
      rw [hw3] at hb3a
      clear l0 l1 f0 f1
      have l0 := hL3a.l0
      have l1 := hL3a.l1
      have f0 := hL3a.fz 1 0 (by decide)
      have f1 := hL3a.fz 1 1 (by decide)
      have hL3 := hL3a.set1 u
      have hb3 : Below w.heap.size w (w3.setCell ⟨w.heap.size + 1, 1, none⟩ (.string u)) := hb3a.setCell (Nat.le_succ _) _
      have hm3 := hmH.out.below hb3
      have hw3H := Lib.hid hw3
      clear hw3
      have hsp : (checkB (bs P) (u) = true → RlSpec s.data.toList (bs P) (u) 0) ∧ (checkB (bs P) (u) = false → labelL s.data.toList = false) := ⟨fun _ => hsp1.1, fun _ => hsp1.2⟩
      clear hsp1 hL3H hb3H hm3H hL3a hb3a
      obtain ⟨b, hb⟩ : ∃ b, checkB (bs P) (u) = b := ⟨_, rfl⟩
      rw [hb] at hsp
      have hm3H := Lib.hid hm3
      clear hm3
      have hL3H := Lib.hid hL3
      clear hL3
      have hb3H := Lib.hid hb3
      clear hb3
      have hbH := Lib.hid hb
      clear hb
      have hspH := Lib.hid hsp
      clear hsp
      go_wp2_with fail
      refine (check_any (bs P) (u) _ hm3H.out b hbH.out).mono ?_
      rintro e w4 ⟨rfl, hw4⟩
      have hL4 := hL3H.out.below hw4
      have hb4 := hb3H.out.trans (hw4.mono hb3H.out.size)
      have r0 := hL4.r0
      have r1 := hL4.r1
      have k0 := hL4.l0
      have k1 := hL4.l1
      have g0 := hL4.fz 0 0 (by decide)
      have g1 := hL4.fz 0 1 (by decide)
      rw [Nat.add_zero] at g0 g1
      clear hw4 l0 l1 f0 f1
      have hL4H := Lib.hid hL4
      clear hL4
      have hb4H := Lib.hid hb4
      clear hb4
      cases b
      · go_wp2_with fail
        exact bodyPost_ret (v := .tuple #[.agg #[.string ⟨#[]⟩, .string ⟨#[]⟩], .int .i64 10]) (by simp [results, Tryz.results79, go_sem, r0, r1]) rfl ⟨bs [], bs [], 10, rfl, .inr ⟨by decide, rfl, rfl, hspH.out.2 (by first | rfl | trivial)⟩, fun h => (by cases h), (hb4H.out.setCell (Nat.le_refl _) _).setCell (Nat.le_refl _) _⟩
      · go_wp2_with fail
        all_goals exact bodyPost_ret (v := .tuple #[.agg #[.string (bs P), .string (u)], .int .i64 0]) (by simp [results, Tryz.results79, go_sem, r0, r1]) rfl ⟨_, _, 0, rfl, hspH.out.1 (by first | rfl | trivial), fun _ => hbH.out, (hb4H.out.setCell (Nat.le_refl _) _).setCell (Nat.le_refl _) _⟩
    · go_wp2_with fail
      refine (cut58_any (bs (s.data.toList.drop 2)) P N true (by rw [bs_data]; exact hcutH.out) _ (hmH.out.below hbaH.out) (by rw [bs_size, List.length_drop]; have := hslH.out; omega)).mono ?_
      rintro e w2 ⟨rfl, hw2⟩
      have hL2 := hLCH.out.below hw2
      have hb2 := hbaH.out.trans (hw2.mono hbaH.out.size)
      have l0 := hL2.l0
      have l1 := hL2.l1
      have f0 := hL2.fz 1 0 (by decide)
      have f1 := hL2.fz 1 1 (by decide)
      clear hw2
      have hL3 := hL2.set (bs P) (bs N)
      have hb3 : Below w.heap.size w ((w2.setCell ⟨w.heap.size + 1, 0, none⟩ (.string (bs P))).setCell ⟨w.heap.size + 1, 1, none⟩ (.string (bs N))) := (hb2.setCell (Nat.le_succ _) _).setCell (Nat.le_succ _) _
      have hm3 := hmH.out.below hb3
      clear hL2 hb2
      have hsp := hspWH.out (by first | rfl | trivial)
      obtain ⟨b, hb⟩ : ∃ b, checkB (bs P) (bs N) = b := ⟨_, rfl⟩
      rw [hb] at hsp
      have hm3H := Lib.hid hm3
      clear hm3
      have hL3H := Lib.hid hL3
      clear hL3
      have hb3H := Lib.hid hb3
      clear hb3
      have hbH := Lib.hid hb
      clear hb
      have hspH := Lib.hid hsp
      clear hsp
      go_wp2_with fail
      refine (check_any (bs P) (bs N) _ hm3H.out b hbH.out).mono ?_
      rintro e w4 ⟨rfl, hw4⟩
      have hL4 := hL3H.out.below hw4
      have hb4 := hb3H.out.trans (hw4.mono hb3H.out.size)
      have r0 := hL4.r0
      have r1 := hL4.r1
      have k0 := hL4.l0
      have k1 := hL4.l1
      have g0 := hL4.fz 0 0 (by decide)
      have g1 := hL4.fz 0 1 (by decide)
      rw [Nat.add_zero] at g0 g1
      clear hw4 l0 l1 f0 f1
      have hL4H := Lib.hid hL4
      clear hL4
      have hb4H := Lib.hid hb4
      clear hb4
      cases b
      · go_wp2_with fail
        exact bodyPost_ret (v := .tuple #[.agg #[.string ⟨#[]⟩, .string ⟨#[]⟩], .int .i64 10]) (by simp [results, Tryz.results79, go_sem, r0, r1]) rfl ⟨bs [], bs [], 10, rfl, .inr ⟨by decide, rfl, rfl, hspH.out.2 (by first | rfl | trivial)⟩, fun h => (by cases h), (hb4H.out.setCell (Nat.le_refl _) _).setCell (Nat.le_refl _) _⟩
      · go_wp2_with fail
        all_goals exact bodyPost_ret (v := .tuple #[.agg #[.string (bs P), .string (bs N)], .int .i64 0]) (by simp [results, Tryz.results79, go_sem, r0, r1]) rfl ⟨_, _, 0, rfl, hspH.out.1 (by first | rfl | trivial), fun _ => hbH.out, (hb4H.out.setCell (Nat.le_refl _) _).setCell (Nat.le_refl _) _⟩

def wholeB (p n : ByteArray) : ByteArray := ⟨#[47, 47]⟩ ++ p ++ ⟨#[58]⟩ ++ n
theorem wholeB_data (p n : ByteArray) : (wholeB p n).data.toList = wholeL p.data.toList n.data.toList := by
  unfold wholeB wholeL
  simp [ByteArray.data_append]
theorem wholeB_eq (s p n : ByteArray) (b : Bool) (h : wholeL p.data.toList n.data.toList = s.data.toList ↔ b = true) : ((wholeB p n).toList == s.toList) = b := by
  rw [beq_data, Bool.eq_iff_iff, decide_eq_true_iff, ← h]
  constructor
  · intro e; rw [← e, wholeB_data]
  · intro e; rw [← data_bs (wholeB p n), wholeB_data, e, data_bs]
set_option maxHeartbeats 1000000 in
theorem Whole_any (p n : ByteArray) (w : World) (hp : p.size ≤ 2000000) (hn : n.size ≤ 2000000) :
    Calls Tryz.prog 80 #[.agg #[.string p, .string n]] w fun e w' => e = .returned (.string (wholeB p n)) ∧ Below w.heap.size w w' := by
  have hba := (Below.refl w.heap.size w).alloc (Nat.le_refl _) (.cells #[.string p, .string n] 111)
  unfold wholeB
  have hbaH := Lib.hid hba
  clear hba
  go_enter Tryz.func80, Tryz.ntmps80
  go_wp2
  go_ret
  exact ⟨rfl, hbaH.out⟩
set_option maxHeartbeats 1000000 in
theorem isWhole_big (s : ByteArray) (w : World) (hm : MaxLenAt w) (hs : s.size ≤ maxLen) (b : Bool) (hb : labelL s.data.toList = b) :
    Calls Tryz.prog 50 #[.string s] w fun e w' => e = .returned (.bool b) ∧ Below w.heap.size w w' := by
  have hs : s.size ≤ 9223372036854775807 := hs
  have hmH := Lib.hid hm
  clear hm
  have hbH := Lib.hid hb
  clear hb
  go_enter Tryz.func50, Tryz.ntmps50
  go_wp2_with fail
  refine (readLabel_any s _ hmH.out hs).mono ?_
  rintro e w1 ⟨p, n, f, rfl, hsp, hck, hw1⟩
  have hba := hw1.alloc hw1.size (.cells #[.string p, .string n] 111)
  rcases hsp with ⟨rfl, h1, h2, h3⟩ | ⟨h1, rfl, rfl, h2⟩
  · rw [hbH.out] at h3
    have he := wholeB_eq s p n b h3
    obtain ⟨hp, hn⟩ := checkB_size (hck rfl)
    clear h1 h2 h3 hck
    have hw1H := Lib.hid hw1
    clear hw1
    have hbaH := Lib.hid hba
    clear hba
    go_wp2_with fail
    refine (Whole_any p n _ hp hn).mono ?_
    rintro e w2 ⟨rfl, hw2⟩
    have hb2 := hbaH.out.trans (hw2.mono hbaH.out.size)
    clear hw2
    have hb2H := Lib.hid hb2
    clear hb2
    go_wp2
    go_ret
    exact ⟨rfl, hb2H.out⟩
  · have hf : (f == 0) = false := by simpa using h1
    obtain rfl : false = b := by rw [← hbH.out, h2]
    clear h1 h2 hck
    have hw1H := Lib.hid hw1
    clear hw1
    have hbaH := Lib.hid hba
    clear hba
    go_wp2
    go_ret
    exact ⟨rfl, hbaH.out⟩
theorem isWhole_any (s : ByteArray) (w : World) (hm : MaxLenAt w) (hs : s.size ≤ 1048576) (b : Bool) (hb : labelL s.data.toList = b) :
    Calls Tryz.prog 50 #[.string s] w fun e w' => e = .returned (.bool b) ∧ Below w.heap.size w w' := isWhole_big s w hm (by unfold maxLen; omega) b hb
end Go.Proofs.YtgegdfmdcmgliaaGreatDoor.C11
