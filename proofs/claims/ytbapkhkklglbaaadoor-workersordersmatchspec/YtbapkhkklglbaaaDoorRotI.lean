/-
  rotate of slices' stable sort.
-/
import Derived.Test.YtbapkhkklglbaaaDoorSwpI
namespace Go.Proofs.YtbapkhkklglbaaaDoor
open Go.ChangeShapes Go.WideShapes Go.Deep Go.RowKit
set_option linter.unusedVariables false

def RtRel (C : CC) (T : List Int) (b off n m : Nat) (w0 : World) (vi vj : Value) (wr : World) : Prop :=
  ∃ (i j : Nat) (A L R B : List Int), vi = .int .i64 i ∧ vj = .int .i64 j ∧ 1 ≤ i ∧ 1 ≤ j ∧ i ≤ m ∧ L.length = i ∧ R.length = j ∧ A.length = m - i ∧ RowI C wr b off n (A ++ L ++ R ++ B) ∧ A ++ R ++ L ++ B = T ∧ Srt b w0 wr
set_option maxRecDepth 100000 in
set_option maxHeartbeats 8000000 in
theorem rotate_any (C : CC) (b off n cap : Nat) (P X Y S : List Int) (a m e : Nat) (g : Value) (w : World) (hP : P.length = a) (hm : m = a + X.length) (he : e = m + Y.length) (hX : 1 ≤ X.length) (hY : 1 ≤ Y.length) (hn : n ≤ 1000000000) (hrow : RowI C w b off n (P ++ X ++ Y ++ S)) :
    Calls Tryd.prog 69 #[.slice (some ⟨b, off, none⟩) n cap, .int .i64 a, .int .i64 m, .int .i64 e, g] w fun e w' => e = .returned (.tuple #[]) ∧ RowI C w' b off n (P ++ Y ++ X ++ S) ∧ Srt b w w' := by
  have hlen := hrow.sl.1
  simp only [List.length_append] at hlen
  have hen : e ≤ n := by omega
  have i0 : (m : Int) - (a : Int) = ((m - a : Nat) : Int) := by omega
  have j0 : (e : Int) - (m : Int) = ((e - m : Nat) : Int) := by omega
  obtain ⟨T, hT⟩ : ∃ T, P ++ Y ++ X ++ S = T := ⟨_, rfl⟩
  have hstart : RtRel C T b off n m w (.int .i64 ((m - a : Nat) : Int)) (.int .i64 ((e - m : Nat) : Int)) w := ⟨m - a, e - m, P, X, Y, S, rfl, rfl, by omega, by omega, by omega, by omega, by omega, by omega, hrow, hT, World.grownBy.refl _ _⟩
  have ham : a ≤ m := by omega
  have hme : m ≤ e := by omega
  rw [hT]
  have hrowH := Lib.hid hrow
  clear hrow
  have hlenH := Lib.hid hlen
  clear hlen
  have hPH := Lib.hid hP
  clear hP
  have hXH := Lib.hid hX
  clear hX
  have hYH := Lib.hid hY
  clear hY
  have hTH := Lib.hid hT
  clear hT
  have hstartH := Lib.hid hstart
  clear hstart
  have hmH := Lib.hid hm
  clear hm
  have heH := Lib.hid he
  clear he
  have i0H := Lib.hid i0
  clear i0
  have j0H := Lib.hid j0
  clear j0
  go_enter Tryd.func69, Tryd.ntmps69
  go_wp2_with fail
  go_loopw [10, 11] (fun vi vj wr => RtRel C T b off n m w vi vj wr) (fun vi vj _ => (intOf vi).toNat + (intOf vj).toNat)
  case atStart =>
    have := hstartH.out
    rw [← i0H.out, ← j0H.out] at this
    exact this
  case round =>
    clear hstartH i0H j0H
    obtain ⟨i, j, A, L, R, B, rfl, rfl, hi1, hj1, him, hL, hR, hA, hrw, hTT, hs⟩ := hrel
    have hl2 := hrw.sl.1
    simp only [List.length_append] at hl2
    have hmj : m + j ≤ n := by omega
    rcases Nat.lt_trichotomy i j with hlt | heq | hgt
    · have hne : ((i : Int) != (j : Int)) = true := by simp; omega
      have hne2 : ¬ (i : Int) = (j : Int) := by omega
      have hg : ¬ (j : Int) < (i : Int) := by omega
      have hb := swapRange_any C b off n cap A L (R.take (j - i)) (R.drop (j - i)) B i (m - i) (m + j - i) g wr hA hL (by rw [List.length_drop]; omega) (by rw [List.length_take]; omega) hn (by simpa using hrw)
      have c1 : (m : Int) - (i : Int) = ((m - i : Nat) : Int) := by omega
      have c2 : (m : Int) + (j : Int) - (i : Int) = ((m + j - i : Nat) : Int) := by omega
      have R1 : ∀ w', RowI C w' b off n (A ++ R.drop (j - i) ++ R.take (j - i) ++ L ++ B) → Srt b wr w' → RtRel C T b off n m w (.int .i64 (i : Int)) (.int .i64 ((j : Int) - (i : Int))) w' := fun w' h1 h2 => by
        refine ⟨i, j - i, A, R.drop (j - i), R.take (j - i), L ++ B, rfl, by go_num, hi1, by omega, him, by rw [List.length_drop]; omega, by rw [List.length_take]; omega, hA, by simpa using h1, ?_, hs.trans h2⟩
        rw [← hTT, List.append_assoc A, List.take_append_drop]; simp
      have hLH := Lib.hid hL
      clear hL
      have hRH := Lib.hid hR
      clear hR
      have hAH := Lib.hid hA
      clear hA
      have hrwH := Lib.hid hrw
      clear hrw
      have hTTH := Lib.hid hTT
      clear hTT
      have hsH := Lib.hid hs
      clear hs
      have hl2H := Lib.hid hl2
      clear hl2
      have hbH := Lib.hid hb
      clear hb
      have R1H := Lib.hid R1
      clear R1
      have c1H := Lib.hid c1
      clear c1
      have c2H := Lib.hid c2
      clear c2
      go_wp2_with fail
      rw [c1H.out, c2H.out]
      refine hbH.out.mono ?_
      rintro e w1 ⟨rfl, hr1, hs1⟩
      have R2 := R1H.out w1 hr1 hs1
      clear hr1 hs1
      have R2H := Lib.hid R2
      clear R2
      go_wp2
      refine ⟨?rel, ?measure⟩
      case measure => (simp [intOf]; omega)
      case rel => first | exact R2H.out | exact ⟨rfl, R2H.out⟩ | ((try refine ⟨rfl, ?_⟩); (repeat apply Exists.intro); refine ⟨R2H.out, ?_⟩; ((repeat' apply And.intro) <;> rfl))
    · subst heq
      have hne : ((i : Int) != (i : Int)) = false := by simp
      have hb := swapRange_any C b off n cap A L [] R B i (m - i) m g wr hA hL hR (by simp; omega) hn (by simpa using hrw)
      have c1 : (m : Int) - (i : Int) = ((m - i : Nat) : Int) := by omega
      rw [show A ++ R ++ [] ++ L ++ B = T by rw [← hTT]; simp] at hb
      have hLH := Lib.hid hL
      clear hL
      have hRH := Lib.hid hR
      clear hR
      have hAH := Lib.hid hA
      clear hA
      have hrwH := Lib.hid hrw
      clear hrw
      have hTTH := Lib.hid hTT
      clear hTT
      have hsH := Lib.hid hs
      clear hs
      have hl2H := Lib.hid hl2
      clear hl2
      have hbH := Lib.hid hb
      clear hb
      have c1H := Lib.hid c1
      clear c1
      go_wp2_with fail
      rw [c1H.out]
      refine hbH.out.mono ?_
      rintro e w1 ⟨rfl, hr1, hs1⟩
      have hs2 := hsH.out.trans hs1
      clear hs1
      have hr1H := Lib.hid hr1
      clear hr1
      have hs2H := Lib.hid hs2
      clear hs2
      go_wp2
      go_end0
      exact ⟨rfl, hr1H.out, hs2H.out⟩
    · have hne : ((i : Int) != (j : Int)) = true := by simp; omega
      have hne2 : ¬ (i : Int) = (j : Int) := by omega
      have hg : (j : Int) < (i : Int) := by omega
      have hb := swapRange_any C b off n cap A (L.take j) (L.drop j) R B j (m - i) m g wr hA (by rw [List.length_take]; omega) hR (by rw [List.length_drop]; omega) hn (by rw [List.append_assoc A, List.take_append_drop]; simpa using hrw)
      have c1 : (m : Int) - (i : Int) = ((m - i : Nat) : Int) := by omega
      have R1 : ∀ w', RowI C w' b off n (A ++ R ++ L.drop j ++ L.take j ++ B) → Srt b wr w' → RtRel C T b off n m w (.int .i64 ((i : Int) - (j : Int))) (.int .i64 (j : Int)) w' := fun w' h1 h2 => by
        refine ⟨i - j, j, A ++ R, L.drop j, L.take j, B, by go_num, rfl, by omega, hj1, by omega, by rw [List.length_drop]; omega, by rw [List.length_take]; omega, by rw [List.length_append]; omega, h1, ?_, hs.trans h2⟩
        rw [← hTT, List.append_assoc (A ++ R), List.take_append_drop]
      have hLH := Lib.hid hL
      clear hL
      have hRH := Lib.hid hR
      clear hR
      have hAH := Lib.hid hA
      clear hA
      have hrwH := Lib.hid hrw
      clear hrw
      have hTTH := Lib.hid hTT
      clear hTT
      have hsH := Lib.hid hs
      clear hs
      have hl2H := Lib.hid hl2
      clear hl2
      have hbH := Lib.hid hb
      clear hb
      have R1H := Lib.hid R1
      clear R1
      have c1H := Lib.hid c1
      clear c1
      go_wp2_with fail
      rw [c1H.out]
      refine hbH.out.mono ?_
      rintro e w1 ⟨rfl, hr1, hs1⟩
      have R2 := R1H.out w1 hr1 hs1
      clear hr1 hs1
      have R2H := Lib.hid R2
      clear R2
      go_wp2
      refine ⟨?rel, ?measure⟩
      case measure => (simp [intOf]; omega)
      case rel => first | exact R2H.out | exact ⟨rfl, R2H.out⟩ | ((try refine ⟨rfl, ?_⟩); (repeat apply Exists.intro); refine ⟨R2H.out, ?_⟩; ((repeat' apply And.intro) <;> rfl))
end Go.Proofs.YtbapkhkklglbaaaDoor
