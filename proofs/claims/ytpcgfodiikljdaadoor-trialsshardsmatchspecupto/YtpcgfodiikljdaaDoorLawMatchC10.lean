/-
  The walk of TrialsShardsMatchSpec.
-/
import Derived.Test.YtpcgfodiikljdaaDoorLawEvenC10
import Derived.Test.YtpcgfodiikljdaaDoorShR2C10
import Derived.Test.YtpcgfodiikljdaaDoorLoRC10
import Derived.Test.YtpcgfodiikljdaaDoorSaRC10
namespace Go.Proofs.YtpcgfodiikljdaaDoor.C10
open Go.RowKit
set_option linter.unusedVariables false
set_option linter.unusedSimpArgs false

def RowsQ (t : Test) (n : Int) (r : List (List ByteArray)) : Prop := (shF t n ≠ 0 ∧ r = []) ∨ (shF t n = 0 ∧ ∃ (N : Nat) (M : List TestCase), n = N ∧ SortedBy fS M ∧ SameCls fS M t.cases.l ∧ r = shRows N M)
theorem RowsQ.eq {t : Test} {n : Int} {r r' : List (List ByteArray)} (h : RowsQ t n r) (h' : RowsQ t n r') : r = r' := by
  rcases h with ⟨a, rfl⟩ | ⟨a, N, M, b, c, d, rfl⟩
  · rcases h' with ⟨_, rfl⟩ | ⟨a', _⟩
    · rfl
    · exact absurd a' a
  · rcases h' with ⟨a', _⟩ | ⟨_, N', M', b', c', d', rfl⟩
    · exact absurd a a'
    · have e1 : N = N' := by omega
      have e2 : M = M' := sorted_uniq c c' (d.trans d'.symm)
      rw [e1, e2]
theorem sh_rows {t : Test} {n : Int} {w w' : World} {e : Ending} (h : ShAns t n w e w') : ∃ (A : Option Addr) (n1 c1 : Nat) (L : List (SlD ByteArray)), e = .returned (.tuple #[.slice A n1 c1, .int .i64 (shF t n)]) ∧ SlAt (RSl RStr) w' A n1 L ∧ n1 ≤ 100 ∧ RowsQ t n (L.map (·.l)) ∧ Below w.heap.size w w' := by
  obtain ⟨hb, h⟩ := h
  rcases h with ⟨hne, he⟩ | ⟨h0, N, bo, base, vs, M, hn, he, hM1, hM2, hR⟩
  · exact ⟨none, 0, 0, [], he, ⟨rfl, fun h => absurd h (Nat.lt_irrefl 0), fun x hx => by cases hx⟩, Nat.zero_le _, .inl ⟨hne, rfl⟩, hb⟩
  · obtain ⟨L, h1, h2⟩ := rws_sl hR
    have hN : N ≤ 100 := by
      have h3 := h0
      unfold shF at h3
      by_cases e1 : testF t = 0
      · rw [if_pos e1] at h3
        by_cases e2 : inR 1 100 n = true
        · have := inR_true e2; omega
        · rw [if_neg e2] at h3; cases h3
      · rw [if_neg e1] at h3; exact absurd h3 e1
    exact ⟨some ⟨bo, 0, none⟩, N, N, L, by rw [h0]; exact he, h1, hN, .inr ⟨h0, N, M, hn, hM1, hM2, h2⟩, hb⟩
set_option maxRecDepth 100000 in
set_option maxHeartbeats 8000000 in
theorem law_match (t : Test) (n : Int) (rs : SlD (SlD ByteArray)) (w : World) (hl : RTest.ok w t) (hn : RInt.ok w n) (hrs : (RSl (RSl RStr)).ok w rs) (hbk : RTest.bulk t + RInt.bulk n + (RSl (RSl RStr)).bulk rs ≤ 1048576) (hm : MaxLenAt w) :
    Calls Tryd.prog 4 #[.agg (RTest.vals t).toArray, .int .i64 n, .slice rs.A rs.n rs.cap] w fun e w' => e = .returned (.bool true) ∧ Below w.heap.size w w' := by
  obtain ⟨hnm, hc⟩ := hl
  have hnm : t.name.size ≤ maxLen := hnm
  have hnz : t.name.size < 4294967281 := by
    have h1 : RTest.bulk t = RStr.bulk t.name + (RSl RTestCase).bulk t.cases := rfl
    have h2 : RStr.bulk t.name = t.name.size + 1 := rfl
    omega
  obtain ⟨gf, hgf⟩ : ∃ g, shF t n = g := ⟨_, rfl⟩
  obtain ⟨tf, htf⟩ : ∃ g, testF t = g := ⟨_, rfl⟩
  obtain ⟨an, han⟩ : ∃ g, longF t (rs.l.map (·.l)) = g := ⟨_, rfl⟩
  have hrn : rs.n ≤ maxLen := Nat.le_trans hrs.2.1 hrs.2.2.1
  have hc2 : ∀ W, Below w.heap.size w W → (RSl RTestCase).ok W t.cases := fun W hb => (RSl RTestCase).mono _ _ _ hb hc
  have hsh : ∀ W, Below w.heap.size w W → _ := fun W hb => (shards_any t n W (hm.below hb) (hc2 W hb) hnm).mono fun e w' h => sh_rows h
  have hrsh : ∀ W, Below w.heap.size w W → _ := fun W hb => (rshards_any t n W (hm.below hb) (hc2 W hb) hnz).mono fun e w' h => sh_rows h
  have hck : ∀ W, Below w.heap.size w W → _ := fun W hb => checkTest_any t W (hm.below hb) (hc2 W hb) hnm tf htf
  have hrck : ∀ W, Below w.heap.size w W → _ := fun W hb => rcheckTest_any t W (hm.below hb) (hc2 W hb) hnz tf htf
  have hlo : ∀ W, Below w.heap.size w W → _ := fun W hb => longest_any t rs W (hm.below hb) (hc2 W hb) hnm (hrs.1.below hb) hrn an han
  have hrlo : ∀ W, Below w.heap.size w W → _ := fun W hb => rlongest_any t rs W (hm.below hb) (hc2 W hb) hnz (hrs.1.below hb) hrn an han
  rw [hgf] at hsh hrsh
  have hba := (Below.refl w.heap.size w).alloc (Nat.le_refl _) (.cells #[.string t.name, .slice t.cases.A t.cases.n t.cases.cap] 24)
  clear hbk hc2 hgf htf han hm hrs
  have heq := fun r r' => RowsQ.eq (t := t) (n := n) (r := r) (r' := r')
  obtain ⟨RQ, hRQ⟩ : ∃ Q, RowsQ t n = Q := ⟨_, rfl⟩
  rw [hRQ] at hsh hrsh heq
  clear hRQ
  obtain ⟨nm, A, N1, cap, cs⟩ := t
  obtain ⟨rA, rn, rcap, rl⟩ := rs
  simp only at hsh hrsh hck hrck hlo hrlo hba ⊢
  simp only [RTest, RStr, RSl, List.cons_append, List.nil_append, List.singleton_append]
  clear hnm hnz hrn hc
  have hshH := Lib.hid hsh
  clear hsh
  have hrshH := Lib.hid hrsh
  clear hrsh
  have hckH := Lib.hid hck
  clear hck
  have hrckH := Lib.hid hrck
  clear hrck
  have hloH := Lib.hid hlo
  clear hlo
  have hrloH := Lib.hid hrlo
  clear hrlo
  have hbaH := Lib.hid hba
  clear hba
  have heqH := Lib.hid heq
  clear heq
  go_enter Tryd.func4, Tryd.ntmps4
  go_wp2_with fail
  refine (hshH.out _ hbaH.out).mono ?_
  rintro e w1 ⟨A1, n1, c1, L1, rfl, s1, z1, r1, hw1⟩
  have hb1 := hbaH.out.trans (hw1.mono hbaH.out.size)
  have q0 : w1.cell? ⟨w.heap.size, 0, none⟩ = some (.string nm) := (hw1.cell (by simp)).trans (cell_new _ _ _ 0)
  have q1 : w1.cell? ⟨w.heap.size, 1, none⟩ = some (.slice A N1 cap) := (hw1.cell (by simp)).trans (cell_new _ _ _ 1)
  clear hw1
  have hb1H := Lib.hid hb1
  clear hb1
  have s1H := Lib.hid s1
  clear s1
  have r1H := Lib.hid r1
  clear r1
  go_wp2_with fail
  refine (hrshH.out _ hb1H.out).mono ?_
  rintro e w2 ⟨A2, n2, c2, L2, rfl, s2, z2, r2, hw2⟩
  have hb2 := hb1H.out.trans (hw2.mono hb1H.out.size)
  have q0 := (hw2.cell (cell?_lt q0)).trans q0
  have q1 := (hw2.cell (cell?_lt q1)).trans q1
  have s1 := s1H.out.below hw2
  have hee := heqH.out _ _ r1H.out r2
  have hn12 : n2 = n1 := by
    have := congrArg List.length hee
    rw [List.length_map, List.length_map, s1.1, s2.1] at this
    omega
  subst hn12
  have hsame : ∀ W, Below w2.heap.size w2 W → _ := fun W hb => sameRows_any A1 A2 n2 c1 c2 L1 L2 W (s1.below hb) (s2.below hb) hee (by omega)
  clear hw2 r2 s1H s1 s2 hee
  have hb2H := Lib.hid hb2
  clear hb2
  have hsameH := Lib.hid hsame
  clear hsame
  go_wp2_with fail
  go_region_held3 (fun w' => w'.cell? ⟨w.heap.size, 0, none⟩ = some (.string nm) ∧ w'.cell? ⟨w.heap.size, 1, none⟩ = some (.slice A N1 cap)) (first | go_keep | exact two_below hwa (by assumption) | exact two_below hwb (by assumption) | exact two_below hws (by assumption))
    (first
      | (go_at_call 10
         refine (hckH.out _ (by first | exact hb2H.out.drew | exact hb2H.out.drew.trans (hwb.mono (by have := hb2H.out.size; simpa using this)))).mono ?_
         rintro e wa ⟨rfl, hwa⟩)
      | (go_at_call 11
         refine (hrckH.out _ (by first | exact hb2H.out.drew | exact hb2H.out.drew.trans (hwa.mono (by have := hb2H.out.size; simpa using this)))).mono ?_
         rintro e wb ⟨rfl, hwb⟩)
      | (go_at_call 12
         have hbs : Below w2.heap.size w2 wb := by first | exact (Below.refl _ _).drew.trans ((hwa.mono (by simp)).trans (hwb.mono (by have := hwa.size; simpa using this))) | exact (Below.refl _ _).drew.trans (hwb.mono (by simp))
         refine (hsameH.out _ (by first | exact hbs | exact hbs.trans (hwa.mono hbs.size))).mono ?_
         rintro e ws ⟨rfl, hws⟩))
  have hbw : Below w2.heap.size w2 ws := by
    have hs0 := hbs.size
    first
      | exact hbs.trans (hws.mono hbs.size)
      | exact (hbs.trans (hwa.mono hbs.size)).trans (hws.mono (Nat.le_trans hs0 hwa.size))
  have hb5 := hb2H.out.trans (hbw.mono hb2H.out.size)
  have q0 := (hbw.cell (cell?_lt q0)).trans q0
  have q1 := (hbw.cell (cell?_lt q1)).trans q1
  clear hwa hwb hws hbs hbw
  have hb5H := Lib.hid hb5
  clear hb5
  go_wp2_with fail
  refine (hloH.out _ hb5H.out).mono ?_
  rintro e w6 ⟨rfl, hw6⟩
  have hb6 := hb5H.out.trans (hw6.mono hb5H.out.size)
  have q0 := (hw6.cell (cell?_lt q0)).trans q0
  have q1 := (hw6.cell (cell?_lt q1)).trans q1
  clear hw6
  have hb6H := Lib.hid hb6
  clear hb6
  go_wp2_with fail
  refine (hrloH.out _ hb6H.out).mono ?_
  rintro e w7 ⟨rfl, hw7⟩
  have hb7 := hb6H.out.trans (hw7.mono hb6H.out.size)
  clear hw7 q0 q1
  have hb7H := Lib.hid hb7
  clear hb7
  go_wp2_with fail
  refine (awake_any _).mono ?_
  rintro e w8 ⟨rfl, hw8⟩
  have hb8 := hb7H.out.trans (hw8.mono hb7H.out.size)
  clear hw8
  have hb8H := Lib.hid hb8
  clear hb8
  go_wp2
  go_ret
  exact ⟨rfl, hb8H.out⟩
instance : Inhabited (SlD ByteArray) := ⟨⟨none, 0, 0, []⟩⟩
theorem opens_t_rows : Opens Tryd.prog 25 (RSl (RSl RStr)) := opens_slice Tryd.underlying25 (by kernel_rfl) (by decide) (opens_slice Tryd.underlying48 (by kernel_rfl) (by decide) opens_t_str)
end Go.Proofs.YtpcgfodiikljdaaDoor.C10
