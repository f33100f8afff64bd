/-
  The walk of TrialsShardsAreEven.
-/
import Derived.Test.YtpcgfodiikljdaaDoorEvDC10
import Derived.Test.YtpcgfodiikljdaaDoorAwakePC10
namespace Go.Proofs.YtpcgfodiikljdaaDoor.C10
open Go.RowKit
set_option linter.unusedVariables false
set_option linter.unusedSimpArgs false

/-- rows of strings in memory, as an argument reads -/
theorem rws_sl {w : World} {base bo N : Nat} {vs : Nat → Value} {Rs : List (List ByteArray)} (h : Rws w base bo N vs Rs) : ∃ L : List (SlD ByteArray), SlAt (RSl RStr) w (some ⟨bo, 0, none⟩) N L ∧ L.map (·.l) = Rs := by
  have key : ∀ j : Nat, j < N → ∃ d : SlD ByteArray, Rs[j]? = some d.l ∧ vs j = .slice d.A d.n d.cap ∧ (RSl RStr).ok w d := fun j hj => by
    obtain ⟨r, hr⟩ : ∃ r, Rs[j]? = some r := ⟨Rs[j]'(by rw [h.len]; exact hj), List.getElem?_eq_getElem _⟩
    have ho := h.own j r hr
    obtain ⟨A, c, hv⟩ := ho.form
    have ho2 : Own RStr 9 w base (.slice A r.length c) r := by rw [← hv]; exact ho
    refine ⟨⟨A, r.length, c, r⟩, hr, hv, ho2.slAt, ho2.cap_le, ?_, ?_⟩
    · rcases ho2.1.2 with ⟨hv, _⟩ | ⟨g, cap', cur, hv, _, _, _, h63, _⟩
      · injection hv with _ _ h3; subst h3; exact Nat.zero_le _
      · injection hv with _ _ h3; subst h3; exact h63
    · intro hA
      rcases ho2.1.2 with ⟨hv, _⟩ | ⟨g, cap', cur, hv, _⟩
      · injection hv with _ _ h3
      · injection hv with h1 _ _; rw [show A = none from hA] at h1; cases h1
  have hch : ∃ f : Nat → SlD ByteArray, ∀ j, j < N → Rs[j]? = some (f j).l ∧ vs j = .slice (f j).A (f j).n (f j).cap ∧ (RSl RStr).ok w (f j) :=
    ⟨fun j => if hj : j < N then Classical.choose (key j hj) else ⟨none, 0, 0, []⟩, fun j hj => by dsimp only; rw [dif_pos hj]; exact Classical.choose_spec (key j hj)⟩
  obtain ⟨f, hf⟩ := hch
  refine ⟨(List.range N).map f, ⟨by simp, fun _ => ⟨bo, 0, rfl, fun i x hx j v hv => ?_⟩, fun x hx => ?_⟩, ?_⟩
  · rw [List.getElem?_map] at hx
    obtain ⟨k, hk, rfl⟩ := Option.map_eq_some_iff.1 hx
    obtain ⟨hk1, hk2⟩ := List.getElem?_eq_some_iff.1 hk
    simp at hk1 hk2
    subst hk2
    match j, hv with
    | 0, hv =>
      simp only [RSl, List.getElem?_cons_zero, Option.some.injEq] at hv
      subst hv
      have := (h.cells i hk1).1
      rw [(hf i hk1).2.1] at this
      simpa [RSl] using this
    | j + 1, hv => simp [RSl] at hv
  · obtain ⟨i, hi, rfl⟩ := List.mem_map.1 hx
    exact (hf i (by simpa using hi)).2.2
  · refine List.ext_getElem? fun i => ?_
    rw [List.map_map, List.getElem?_map]
    by_cases hi : i < N
    · rw [List.getElem?_range hi, (hf i hi).1]; rfl
    · rw [List.getElem?_eq_none (by simp; omega), List.getElem?_eq_none (by rw [h.len]; omega)]; rfl
set_option maxRecDepth 100000 in
set_option maxHeartbeats 4000000 in
theorem law_even (t : Test) (n : Int) (w : World) (hl : RTest.ok w t) (hn : RInt.ok w n) (hm : MaxLenAt w) :
    Calls Tryd.prog 3 #[.agg (RTest.vals t).toArray, .int .i64 n] w fun e w' => e = .returned (.bool true) ∧ Below w.heap.size w w' := by
  obtain ⟨hnm, hc⟩ := hl
  have hnm : t.name.size ≤ maxLen := hnm
  have hsh := fun w => shards_any t n w
  have hlo := fun rs w => longest_any t rs w
  have hsu := fun w => Sums_any t w
  have hba := (Below.refl w.heap.size w).alloc (Nat.le_refl _) (.cells #[.string t.name, .slice t.cases.A t.cases.n t.cases.cap] 24)
  have hcok := fun h => testF_ok (t := t) h
  have hev := fun N M => long_even (t := t) (N := N) (M := M)
  have hcl := hc.1.1
  unfold ShAns shF at hsh
  obtain ⟨nm, A, N1, cap, cs⟩ := t
  simp only at hnm hc hsh hlo hsu hba hcok hev hcl ⊢
  simp only [RTest, RStr, RSl, List.cons_append, List.nil_append, List.singleton_append]
  obtain ⟨T, hT⟩ : ∃ t : Test, (⟨nm, ⟨A, N1, cap, cs⟩⟩ : Test) = t := ⟨_, rfl⟩
  rw [hT] at hsh hlo hcok hev
  obtain ⟨f, hf⟩ : ∃ f, testF T = f := ⟨_, rfl⟩
  obtain ⟨gf, hgf⟩ : ∃ g, (if testF T = 0 then if inR 1 100 n = true then 0 else 1 else testF T) = g := ⟨_, rfl⟩
  rw [hgf] at hsh
  have hcH := Lib.hid hc
  clear hc
  have hshH := Lib.hid hsh
  clear hsh
  have hloH := Lib.hid hlo
  clear hlo
  have hsuH := Lib.hid hsu
  clear hsu
  have hbaH := Lib.hid hba
  clear hba
  have hcokH := Lib.hid hcok
  clear hcok
  have hevH := Lib.hid hev
  clear hev
  have hmH := Lib.hid hm
  clear hm
  have hclH := Lib.hid hcl
  clear hcl
  have hTH := Lib.hid hT
  clear hT
  have hgfH := Lib.hid hgf
  clear hgf
  go_enter Tryd.func3, Tryd.ntmps3
  go_wp2_with fail
  refine (hshH.out _ (hmH.out.below hbaH.out) ((RSl RTestCase).mono _ _ _ hbaH.out hcH.out) hnm).mono ?_
  rintro e w1 ⟨hw1, h⟩
  have hb1 := hbaH.out.trans (hw1.mono hbaH.out.size)
  have q0 : w1.cell? ⟨w.heap.size, 0, none⟩ = some (.string nm) := (hw1.cell (by simp)).trans (cell_new _ _ _ 0)
  have q1 : w1.cell? ⟨w.heap.size, 1, none⟩ = some (.slice A N1 cap) := (hw1.cell (by simp)).trans (cell_new _ _ _ 1)
  have hw1s := hw1.size
  clear hw1
  rcases h with ⟨hne, rfl⟩ | ⟨h0, N, bo, base, vs, M, rfl, rfl, hM1, hM2, hR⟩
  · have hnb : (gf != 0) = true := by simpa using hne
    clear q0 q1
    have hb1H := Lib.hid hb1
    clear hb1
    go_wp2_with fail
    refine (awake_any _).mono ?_
    rintro e w2 ⟨rfl, hw2⟩
    have hb2 := hb1H.out.trans (hw2.mono hb1H.out.size)
    clear hw2
    have hb2H := Lib.hid hb2
    clear hb2
    go_wp2
    go_ret
    exact ⟨rfl, hb2H.out⟩
  · subst h0
    have hgf := hgfH.out
    have hT0 : testF T = 0 := by
      by_cases e : testF T = 0
      · exact e
      · rw [if_neg e] at hgf; exact absurd hgf e
    rw [if_pos hT0] at hgf
    have hin : inR 1 100 (N : Int) = true := by
      by_cases e : inR 1 100 (N : Int) = true
      · exact e
      · rw [if_neg e] at hgf; cases hgf
    have hN := inR_true hin
    obtain ⟨g1, g2, g3, g4⟩ := hcokH.out hT0
    obtain ⟨mx, m1, m2, m3, m4, m5, m6⟩ := hevH.out N M hT0 (by omega) (by omega) hM2
    obtain ⟨L, hL1, hL2⟩ := rws_sl hR
    have hlon := hloH.out ⟨some ⟨bo, 0, none⟩, N, N, L⟩ w1 (hmH.out.below hb1) ((RSl RTestCase).mono _ _ _ hb1 hcH.out) hnm hL1 (by show N ≤ maxLen; unfold maxLen; omega) (mx, 0) (by rw [hL2]; exact m1)
    have hms : (0 : Int) ≤ mostS cs 0 := (mostS_spec cs 0).1
    obtain ⟨al, hal⟩ : ∃ a, sec cs = a := ⟨_, rfl⟩
    obtain ⟨mo, hmo⟩ : ∃ a, mostS cs 0 = a := ⟨_, rfl⟩
    rw [hal] at m4 m5
    rw [hmo] at m4 m6 hms
    obtain ⟨P, hP⟩ : ∃ p, mx * (N : Int) = p := ⟨_, rfl⟩
    obtain ⟨Q, hQ⟩ : ∃ p, mo * (N : Int) = p := ⟨_, rfl⟩
    have hPb : P ≤ 5000000000 := by
      have a : mx * (N : Int) ≤ 50000000 * (N : Int) := Int.mul_le_mul_of_nonneg_right m3 (by omega)
      omega
    have hP0 : 0 ≤ P := by rw [← hP]; exact Int.mul_nonneg m2 (by omega)
    have hQP : Q ≤ P := by rw [← hP, ← hQ]; exact Int.mul_le_mul_of_nonneg_right m6 (by omega)
    have hQ0 : 0 ≤ Q := by rw [← hQ]; exact Int.mul_nonneg hms (by omega)
    have hal0 : 0 ≤ al := by
      rw [← hal]
      have := sum_ge (m := 0) (l := cs.map (·.seconds)) (fun x hx => by obtain ⟨c, hc2, rfl⟩ := List.mem_map.1 hx; exact (g3 c hc2).1)
      unfold sec; simpa using this
    rw [hP] at m4 m5
    rw [hQ] at m4
    have hcl := hclH.out
    have hsum := fun w2 (hb : Below w.heap.size w w2) => hsuH.out w2 ((RSl RTestCase).mono _ _ _ hb hcH.out) (by omega) g3 al mo hal hmo
    clear hgf hL1 hL2 hR hM1 hM2 hcl
    have hb1H := Lib.hid hb1
    clear hb1
    have hlonH := Lib.hid hlon
    clear hlon
    have hsumH := Lib.hid hsum
    clear hsum
    have g3H := Lib.hid g3
    clear g3
    have g4H := Lib.hid g4
    clear g4
    have m1H := Lib.hid m1
    clear m1
    have halH := Lib.hid hal
    clear hal
    have hmoH := Lib.hid hmo
    clear hmo
    have hT0H := Lib.hid hT0
    clear hT0
    have hinH := Lib.hid hin
    clear hin
    go_wp2_with fail
    refine hlonH.out.mono ?_
    rintro e w2 ⟨rfl, hw2⟩
    have hb2 := hb1H.out.trans (hw2.mono hb1H.out.size)
    have q0 := (hw2.cell (cell?_lt q0)).trans q0
    have q1 := (hw2.cell (cell?_lt q1)).trans q1
    clear hw2
    have hb2H := Lib.hid hb2
    clear hb2
    go_wp2_with fail
    refine (hsumH.out _ hb2H.out).mono ?_
    rintro e w3 ⟨rfl, hw3⟩
    have hb3 := hb2H.out.trans (hw3.mono hb2H.out.size)
    clear hw3 q0 q1
    have hxx : mo ≤ mx := m6
    have hb3H := Lib.hid hb3
    clear hb3
    go_wp2_with fail
    refine (awake_any _).mono ?_
    rintro e w4 ⟨rfl, hw4⟩
    have hb4 := hb3H.out.trans (hw4.mono hb3H.out.size)
    clear hw4
    have hb4H := Lib.hid hb4
    clear hb4
    go_wp2
    go_ret
    exact ⟨rfl, hb4H.out⟩
end Go.Proofs.YtpcgfodiikljdaaDoor.C10
