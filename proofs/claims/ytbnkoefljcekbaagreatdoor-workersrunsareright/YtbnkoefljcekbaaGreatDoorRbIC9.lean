/-
 Several texts of mine as one, without what is not wanted here: XSym3I, XMrgI, XStbI, XStbN, XFst.
-/
import Derived.Test.YtbnkoefljcekbaaGreatDoorRbHC9
import Derived.Test.YtbnkoefljcekbaaGreatDoorRbFC9
import Derived.Laws.OwnMore
namespace Go.Proofs.YtbnkoefljcekbaaGreatDoor.C9
open Go.ChangeShapes Go.WideShapes Go.Deep Go.RowKit
set_option linter.unusedVariables false

def MgHyp (C : CC) (b off n cap k : Nat) : Prop := ∀ (P L R S : List Int) (a m e : Nat) (w : World), P.length = a → m = a + L.length → e = m + R.length → e - a ≤ k → 1 ≤ L.length → 1 ≤ R.length → SortedBy (fI C) L → SortedBy (fI C) R → RowI C w b off n (P ++ L ++ R ++ S) →
 Calls Tryz.prog 223 #[.slice (some ⟨b, off, none⟩) n cap, .int .i64 a, .int .i64 m, .int .i64 e, (gI C)] w (MgAns C P (L ++ R) S b off n w)
def B3Rel (C : CC) (D L R : List Int) (a mid s0 r0 b off n : Nat) (w0 : World) (vs vr : Value) (wr : World) : Prop :=
 ∃ st r : Nat, s0 ≤ st ∧ st ≤ r ∧ r ≤ r0 ∧ vs = .int .i64 (st : Int) ∧ vr = .int .i64 (r : Int) ∧ (s0 < st → ∀ x y, L[st - 1 - a]? = some x → R[mid - st]? = some y → (fI C) x ≤ (fI C) y) ∧ (r < r0 → ∀ x y, L[r - a]? = some x → R[mid - 1 - r]? = some y → (fI C) y < (fI C) x) ∧ RowI C wr b off n D ∧ Srt b w0 wr
theorem sorted_parts (C : CC) {L R : List Int} {i j : Nat} (hL : SortedBy (fI C) L) (hR : SortedBy (fI C) R) (hj : j ≤ R.length) (hi : i ≤ L.length)
  (h1 : 0 < i → ∀ x y, L[i - 1]? = some x → R[j]? = some y → (fI C) x ≤ (fI C) y) (h2 : 0 < j → ∀ x y, L[i]? = some x → R[j - 1]? = some y → (fI C) y < (fI C) x) {M1 M2 : List Int}
  (m1 : SortedBy (fI C) M1) (m2 : SortedBy (fI C) M2) (s1 : SameCls (fI C) M1 (L.take i ++ R.take j)) (s2 : SameCls (fI C) M2 (L.drop i ++ R.drop j)) : SortedBy (fI C) (M1 ++ M2) ∧ SameCls (fI C) (M1 ++ M2) (L ++ R) := by
 have := sym_step (f := fI C) (A := L.take i) (X := L.drop i) (Y := R.take j) (B := R.drop j) (M1 := M1) (M2 := M2) (by rw [List.take_append_drop]; exact hL) (by rw [List.take_append_drop]; exact hR)
  (fun x hx y hy => by
   rw [getLast_take hi] at hx
   rw [head_drop] at hy
   split at hx
   ·cases hx
   ·exact h1 (by omega) x y hx hy)
  (fun x hx y hy => by
   rw [head_drop] at hx
   rw [getLast_take hj] at hy
   split at hy
   ·cases hy
   ·exact h2 (by omega) x y hx hy) m1 m2 s1 s2
 rw [List.take_append_drop, List.take_append_drop] at this
 exact this
set_option maxRecDepth 100000 in
set_option maxHeartbeats 32000000 in
theorem merge3 (C : CC) (b off n cap k : Nat) (ih : MgHyp C b off n cap k) (P L R S : List Int) (a m e : Nat) (w : World) (hP : P.length = a) (hm : m = a + L.length) (he : e = m + R.length) (hk : e - a ≤ k + 1) (hl1 : 2 ≤ L.length) (hl2 : 2 ≤ R.length) (hn : n ≤ 1000000000) (hsL : SortedBy (fI C) L) (hsR : SortedBy (fI C) R) (hrow : RowI C w b off n (P ++ L ++ R ++ S)) :
  Calls Tryz.prog 223 #[.slice (some ⟨b, off, none⟩) n cap, .int .i64 a, .int .i64 m, .int .i64 e, (gI C)] w (MgAns C P (L ++ R) S b off n w) := by
 have hlen := hrow.sl.1
 simp only [List.length_append] at hlen
 have hen : e ≤ n := by omega
 have hme : m + 2 ≤ e := by omega
 have ham : a + 2 ≤ m := by omega
 have hma : ¬ (m : Int) - (a : Int) = 1 := by omega
 have hma2 : ((m : Int) - (a : Int) == 1) = false := by simpa using hma
 have hem : ¬ (e : Int) - (m : Int) = 1 := by omega
 have hem2 : ((e : Int) - (m : Int) == 1) = false := by simpa using hem
 obtain ⟨mid, hmid⟩ : ∃ mid, (a + e) / 2 = mid := ⟨_, rfl⟩
 have hmidi : ((a : Int) + (e : Int)) / 2 = (mid : Int) := by omega
 have hmid1 : a < mid := by omega
 have hmid2 : mid < e := by omega
 unfold MgHyp at ih
 unfold gI at ih
 unfold gI
 by_cases hmm : mid < m
 ·obtain ⟨s0, hs0⟩ : ∃ s0, mid + m - e = s0 := ⟨_, rfl⟩
  have hs0i : (mid : Int) + (m : Int) - (e : Int) = (s0 : Int) := by omega
  obtain ⟨r0, hr0⟩ : ∃ r0, mid = r0 := ⟨_, rfl⟩
  have hsr : s0 ≤ r0 := by omega
  have hgeo : a ≤ s0 ∧ r0 ≤ mid ∧ r0 ≤ m ∧ mid - s0 ≤ e - m ∧ (s0 = a ∨ mid - s0 = e - m) ∧ (r0 = m ∨ r0 = mid) := ⟨by omega, by omega, by omega, by omega, .inr (by omega), .inr hr0.symm⟩
  have hrowH := Lib.hid hrow
  clear hrow
  have hlenH := Lib.hid hlen
  clear hlen
  have hPH := Lib.hid hP
  clear hP
  have heH := Lib.hid he
  clear he
  have hsLH := Lib.hid hsL
  clear hsL
  have hsRH := Lib.hid hsR
  clear hsR
  have hmH := Lib.hid hm
  clear hm
  have hgeoH := Lib.hid hgeo
  clear hgeo
  have hsrH := Lib.hid hsr
  clear hsr
  have ihH := Lib.hid ih
  clear ih
  have hl1H := Lib.hid hl1
  clear hl1
  have hl2H := Lib.hid hl2
  clear hl2
  have hs0H := Lib.hid hs0
  clear hs0
  have hr0H := Lib.hid hr0
  clear hr0
  have hmidH := Lib.hid hmid
  clear hmid
  go_enter Tryz.func223, Tryz.ntmps223
  go_wp2_with fail
  go_loopw [20, 21] (fun vs vr wr => B3Rel C (P ++ L ++ R ++ S) L R a mid s0 r0 b off n w vs vr wr) (fun vs vr _ => (intOf vr).toNat - (intOf vs).toNat)
  case atStart => exact ⟨s0, r0, Nat.le_refl _, hsrH.out, Nat.le_refl _, rfl, (by rw [hr0H.out]), fun h => by omega, fun h => by omega, hrowH.out, World.grownBy.refl _ _⟩
  case round =>
   obtain ⟨st, r, hst0, hstr, hrr0, rfl, rfl, hgood, hbad, hrw, hs⟩ := hrel
   obtain ⟨g1, g2, g3, g4, g5, g6⟩ := hgeoH.out
   have hrm : r ≤ m := by omega
   have hrmid : r ≤ mid := by omega
   have hast : a ≤ st := by omega
   by_cases hlt : st < r
   ·obtain ⟨H, hH⟩ : ∃ H, (st + r) / 2 = H := ⟨_, rfl⟩
    have hHi : ((st : Int) + (r : Int)) / 2 = (H : Int) := by omega
    have hHI : st ≤ H := by omega
    have hHJ : H < r := by omega
    obtain ⟨Z, hZ⟩ : ∃ Z, mid + m - 1 - H = Z := ⟨_, rfl⟩
    have hZi : (mid : Int) + (m : Int) - 1 - (H : Int) = (Z : Int) := by omega
    have hm := hmH.out
    have he := heH.out
    obtain ⟨x, hx⟩ : ∃ x, L[H - a]? = some x := ⟨L[H - a]'(by omega), List.getElem?_eq_getElem _⟩
    obtain ⟨y, hy⟩ : ∃ y, R[mid - 1 - H]? = some y := ⟨R[mid - 1 - H]'(by omega), List.getElem?_eq_getElem _⟩
    have hgx := get_at (P := P) (S := R ++ S) (i := a) hPH.out hx
    rw [← List.append_assoc, show a + (H - a) = H by omega] at hgx
    have hgy := get_at (P := P ++ L) (S := S) (i := m) (by rw [List.length_append]; have := hPH.out; omega) hy
    rw [show m + (mid - 1 - H) = Z by omega] at hgy
    have v0 := hrw.at_ hgx
    have u0 := hrw.at_ hgy
    obtain ⟨v, hv⟩ : ∃ v, Lib.compareInt (vC C x) (vC C y) = v := ⟨_, rfl⟩
    have hvl : v < 0 ↔ (vC C x) < (vC C y) := by rw [← hv]; exact cmpI_lt
    have k0 : (0 : Int) ≤ (H : Int) := by omega
    have k1 : (H : Int) < (n : Int) := by omega
    have k2 : (0 : Int) ≤ (Z : Int) := by omega
    have k3 : (Z : Int) < (n : Int) := by omega
    have hwZ : IntKind.i64.wrap (Z : Int) = (Z : Int) := by rw [IntKind.wrap_i64]; omega
    clear hm he
    have hgoodH := Lib.hid hgood
    clear hgood
    have hbadH := Lib.hid hbad
    clear hbad
    have hrwH := Lib.hid hrw
    clear hrw
    have hsH := Lib.hid hs
    clear hs
    have hxH := Lib.hid hx
    clear hx
    have hyH := Lib.hid hy
    clear hy
    have hgyH := Lib.hid hgy
    clear hgy
    have hgxH := Lib.hid hgx
    clear hgx
    have hvH := Lib.hid hv
    clear hv
    have hvlH := Lib.hid hvl
    clear hvl
    have hHH := Lib.hid hH
    clear hH
    have hZH := Lib.hid hZ
    clear hZ
    have g1H := Lib.hid g1
    clear g1
    have g2H := Lib.hid g2
    clear g2
    have g3H := Lib.hid g3
    clear g3
    have g4H := Lib.hid g4
    clear g4
    have g5H := Lib.hid g5
    clear g5
    have g6H := Lib.hid g6
    clear g6
    go_wp2_with fail
    refine wp_region_held_drew (S := (fun w' => w'.cell? ⟨b, off + Z, none⟩ = some (.int .i64 y) ∧ w'.cell? ⟨b, off + H, none⟩ = some (.int .i64 x))) (by kernel_rfl) ⟨u0, v0⟩ (fun hHeld => ?_)
    clear u0 v0
    refine tkH (i := 0) (d := some 158) (v := ?_) (hy := Or.inl ⟨by rfl, ?_⟩) (h := ?_)
    rotate_left
    ·(intro w hSw; (try dsimp only at hSw); go_simp; (try with_reducible rfl))
    (try simp only [Act.put, tkA, tkB, tkC])
    refine tkH (i := 1) (d := some 159) (v := ?_) (hy := Or.inl ⟨by rfl, ?_⟩) (h := ?_)
    rotate_left
    ·(intro w hSw; (try dsimp only at hSw); go_simp; (try with_reducible rfl))
    (try simp only [Act.put, tkA, tkB, tkC])
    refine tkH (i := 2) (d := some 160) (v := ?_) (hy := Or.inl ⟨by rfl, ?_⟩) (h := ?_)
    rotate_left
    ·(intro w hSw; (try dsimp only at hSw); go_simp; (try with_reducible rfl))
    (try simp only [Act.put, tkA, tkB, tkC])
    refine tkH (i := 3) (d := some 161) (v := ?_) (hy := Or.inl ⟨by rfl, ?_⟩) (h := ?_)
    rotate_left
    ·(intro w hSw; (try dsimp only at hSw); go_simp; (try with_reducible rfl))
    (try simp only [Act.put, tkA, tkB, tkC])
    refine tkH (i := 4) (d := some 162) (v := ?_) (hy := Or.inl ⟨by rfl, ?_⟩) (h := ?_)
    rotate_left
    ·(intro w hSw; (try dsimp only at hSw); go_simp; (try with_reducible rfl))
    (try simp only [Act.put, tkA, tkB, tkC])
    refine tkH (i := 5) (d := some 163) (v := ?_) (hy := Or.inl ⟨by rfl, ?_⟩) (h := ?_)
    rotate_left
    ·(intro w hSw; (try dsimp only at hSw); go_simp; (try with_reducible rfl))
    (try simp only [Act.put, tkA, tkB, tkC])
    refine tkH (i := 6) (d := some 164) (v := ?_) (hy := Or.inl ⟨by rfl, ?_⟩) (h := ?_)
    rotate_left
    ·(intro w hSw; (try dsimp only at hSw); go_simp; (try with_reducible rfl))
    (try simp only [Act.put, tkA, tkB, tkC])
    refine tkH (i := 7) (d := some 165) (v := ?_) (hy := Or.inl ⟨by rfl, ?_⟩) (h := ?_)
    rotate_left
    ·(intro w hSw; (try dsimp only at hSw); go_simp; (try with_reducible rfl))
    (try simp only [Act.put, tkA, tkB, tkC])
    refine tkH (i := 8) (d := some 166) (v := ?_) (hy := Or.inl ⟨by rfl, ?_⟩) (h := ?_)
    rotate_left
    ·(intro w hSw; (try dsimp only at hSw); go_simp; (try with_reducible rfl))
    (try simp only [Act.put, tkA, tkB, tkC])
    refine tkH (i := 9) (d := some 167) (v := ?_) (hy := Or.inl ⟨by rfl, ?_⟩) (h := ?_)
    rotate_left
    ·(intro w hSw; (try dsimp only at hSw); go_simp; (try with_reducible rfl))
    (try simp only [Act.put, tkA, tkB, tkC])
    refine tkH (i := 10) (d := some 168) (v := ?_) (hy := Or.inl ⟨by rfl, ?_⟩) (h := ?_)
    rotate_left
    ·(intro w hSw; (try dsimp only at hSw); go_simp; (try with_reducible rfl))
    (try simp only [Act.put, tkA, tkB, tkC])
    refine wpAnyH_ready (rs := [11]) (by kernel_rfl) (by simp) ?_
    refine AllReadyH.cons (i := 11) rfl (fun K hK => ?_) AllReadyH.nil
    go_simp
    go_at_call 159
    refine (cmp_any C y x _ v (hrwH.out.cr.below (Below.refl _ _).drew) (hrwH.out.in_ hgyH.out) (hrwH.out.in_ hgxH.out) hvH.out).mono ?_
    rintro e' w2 ⟨rfl, hb2⟩
    have hb2a : Below wr.heap.size wr w2 := by first | exact hb2 | exact (Below.refl _ _).drew.trans hb2
    replace hHeld := keep2i hb2 hHeld
    have hrw3 := hrwH.out.below hb2a
    have hs3 := hsH.out.trans (Srt.of_below hb2a)
    clear hb2 hb2a
    have hrw3H := Lib.hid hrw3
    clear hrw3
    have hs3H := Lib.hid hs3
    clear hs3
    refine hK.out _ _ hHeld (fun hHeld => ?_)
    clear hK K
    (try simp only [Act.put, List.setIfInBounds_toArray, List.set_cons_zero, List.set_cons_succ])
    clear hHeld
    refine tkH (i := 12) (d := some 170) (v := ?_) (hy := Or.inl ⟨by rfl, ?_⟩) (h := ?_)
    rotate_left
    ·(intro w hSw; (try dsimp only at hSw); go_simp; (try with_reducible rfl))
    (try simp only [Act.put, tkA, tkB, tkC])
    refine tkH (i := 13) (d := some 171) (v := ?_) (hy := Or.inl ⟨by rfl, ?_⟩) (h := ?_)
    rotate_left
    ·(intro w hSw; (try dsimp only at hSw); go_simp; (try with_reducible rfl))
    (try simp only [Act.put, tkA, tkB, tkC])
    refine wpAnyH_done (by kernel_rfl) ?_ _
    by_cases hc : v < 0
    ·have R1 : B3Rel C (P ++ L ++ R ++ S) L R a mid s0 r0 b off n w (.int .i64 (st : Int)) (.int .i64 (H : Int)) w2 := by
      refine ⟨st, H, hst0, hHI, by omega, rfl, rfl, hgoodH.out, fun _ x' y' hx' hy' => ?_, hrw3H.out, hs3H.out⟩
      rw [hxH.out] at hx'
      rw [hyH.out] at hy'
      injection hx' with hx'
      injection hy' with hy'
      subst hx'
      subst hy'
      have := hvlH.out.1 hc
      unfold fI; omega
     rw [show (!decide (v < 0)) = false by simp [hc]]
     have R1H := Lib.hid R1
     clear R1
     go_wp2
     refine ⟨?rel, ?measure⟩
     case measure => (simp [intOf]; omega)
     case rel => first | exact R1H.out | exact ⟨rfl, R1H.out⟩ | ((try refine ⟨rfl, ?_⟩); (repeat apply Exists.intro); refine ⟨R1H.out, ?_⟩; ((repeat' apply And.intro) <;> rfl))
    ·have R1 : B3Rel C (P ++ L ++ R ++ S) L R a mid s0 r0 b off n w (.int .i64 ((H : Int) + 1)) (.int .i64 (r : Int)) w2 := by
      refine ⟨H + 1, r, by omega, by omega, hrr0, by go_num, rfl, fun _ x' y' hx' hy' => ?_, hbadH.out, hrw3H.out, hs3H.out⟩
      rw [show H + 1 - 1 - a = H - a by omega, hxH.out] at hx'
      rw [show mid - (H + 1) = mid - 1 - H by omega, hyH.out] at hy'
      injection hx' with hx'
      injection hy' with hy'
      subst hx'
      subst hy'
      have : ¬ (vC C x) < (vC C y) := fun h => hc (hvlH.out.2 h)
      unfold fI; omega
     rw [show (!decide (v < 0)) = true by simp; omega]
     have R1H := Lib.hid R1
     clear R1
     go_wp2
     refine ⟨?rel, ?measure⟩
     case measure => (simp [intOf]; omega)
     case rel => first | exact R1H.out | exact ⟨rfl, R1H.out⟩ | ((try refine ⟨rfl, ?_⟩); (repeat apply Exists.intro); refine ⟨R1H.out, ?_⟩; ((repeat' apply And.intro) <;> rfl))
   ·obtain rfl : st = r := by omega
    have hm := hmH.out
    have he := heH.out
    have hP := hPH.out
    obtain ⟨En, hEn⟩ : ∃ En, mid + m - st = En := ⟨_, rfl⟩
    have hEni : (mid : Int) + (m : Int) - (st : Int) = (En : Int) := by omega
    have hsym := fun M1 M2 => sorted_parts C (L := L) (R := R) (i := st - a) (j := mid - st) (M1 := M1) (M2 := M2) hsLH.out hsRH.out (by omega) (by omega)
     (fun h0 x y hx hy => by
      rcases g5 with e0 | e0
      ·exact hgood (by omega) x y (by rw [show st - 1 - a = st - a - 1 by omega]; exact hx) hy
      ·by_cases hss : s0 < st
       ·exact hgood hss x y (by rw [show st - 1 - a = st - a - 1 by omega]; exact hx) hy
       ·exfalso
        have := (List.getElem?_eq_some_iff.1 hy).1
        omega)
     (fun h0 x y hx hy => by
      by_cases hss : st < r0
      ·exact hbad hss x y hx (by rw [show mid - 1 - st = mid - st - 1 by omega]; exact hy)
      ·exfalso
       have := (List.getElem?_eq_some_iff.1 hx).1
       rcases g6 with e0 | e0 <;> omega)
    obtain ⟨A, hA⟩ : ∃ A, L.take (st - a) = A := ⟨_, rfl⟩
    obtain ⟨X, hX⟩ : ∃ X, L.drop (st - a) = X := ⟨_, rfl⟩
    obtain ⟨Y, hY⟩ : ∃ Y, R.take (mid - st) = Y := ⟨_, rfl⟩
    obtain ⟨B, hB⟩ : ∃ B, R.drop (mid - st) = B := ⟨_, rfl⟩
    have hAX : L = A ++ X := by rw [← hA, ← hX, List.take_append_drop]
    have hYB : R = Y ++ B := by rw [← hY, ← hB, List.take_append_drop]
    have lA : A.length = st - a := by rw [← hA, List.length_take]; omega
    have lX : X.length = m - st := by rw [← hX, List.length_drop]; omega
    have lY : Y.length = mid - st := by rw [← hY, List.length_take]; omega
    have lB : B.length = e - En := by rw [← hB, List.length_drop]; omega
    have hsA : SortedBy (fI C) A := by have := hsLH.out; rw [hAX] at this; exact sorted_left this
    have hsX : SortedBy (fI C) X := by have := hsLH.out; rw [hAX] at this; exact sorted_right this
    have hsY : SortedBy (fI C) Y := by have := hsRH.out; rw [hYB] at this; exact sorted_left this
    have hsB : SortedBy (fI C) B := by have := hsRH.out; rw [hYB] at this; exact sorted_right this
    rw [hA, hX, hY, hB] at hsym
    have hrwA : RowI C wr b off n (P ++ A ++ X ++ Y ++ (B ++ S)) := by rw [hAX, hYB] at hrw; simpa using hrw
    have hEe : En ≤ e := by omega
    have hEm : m ≤ En := by omega
    have hEl : En + st = mid + m := by omega
    have l1 := hl1H.out
    have l2 := hl2H.out
    clear hgood hbad hrw
    by_cases hX0 : X = []
    ·have hsm : m ≤ st := by have := lX; rw [hX0, List.length_nil] at this; omega
     have t0 : ¬ (st : Int) < (m : Int) := by omega
     have t2 : (a : Int) < (st : Int) := by omega
     have t5 : ¬ (mid : Int) < (En : Int) := by omega
     by_cases hY0 : Y = []
     ·have hm3 : mid ≤ st := by have := lY; rw [hY0, List.length_nil] at this; omega
      have t3 : ¬ (st : Int) < (mid : Int) := by omega
      have hfin := hsym (A ++ Y) (X ++ B) (by rw [hY0, List.append_nil]; exact hsA) (by rw [hX0]; exact hsB) (SameCls.refl _) (SameCls.refl _)
      have hrw9 : RowI C wr b off n (P ++ ((A ++ Y) ++ (X ++ B)) ++ S) := by rw [hX0, hY0] at hrwA ⊢; simpa using hrwA
      have hPH := Lib.hid hP
      clear hP
      have lAH := Lib.hid lA
      clear lA
      have lXH := Lib.hid lX
      clear lX
      have lYH := Lib.hid lY
      clear lY
      have lBH := Lib.hid lB
      clear lB
      have hsAH := Lib.hid hsA
      clear hsA
      have hsXH := Lib.hid hsX
      clear hsX
      have hsYH := Lib.hid hsY
      clear hsY
      have hsBH := Lib.hid hsB
      clear hsB
      have hrwAH := Lib.hid hrwA
      clear hrwA
      have hAXH := Lib.hid hAX
      clear hAX
      have hYBH := Lib.hid hYB
      clear hYB
      have hAH := Lib.hid hA
      clear hA
      have hXH := Lib.hid hX
      clear hX
      have hYH := Lib.hid hY
      clear hY
      have hBH := Lib.hid hB
      clear hB
      have hmH := Lib.hid hm
      clear hm
      have heH := Lib.hid he
      clear he
      have g1H := Lib.hid g1
      clear g1
      have g2H := Lib.hid g2
      clear g2
      have g3H := Lib.hid g3
      clear g3
      have g4H := Lib.hid g4
      clear g4
      have g5H := Lib.hid g5
      clear g5
      have g6H := Lib.hid g6
      clear g6
      have hEnH := Lib.hid hEn
      clear hEn
      have hElH := Lib.hid hEl
      clear hEl
      have hX0H := Lib.hid hX0
      clear hX0
      have hY0H := Lib.hid hY0
      clear hY0
      have hsymH := Lib.hid hsym
      clear hsym
      have hfinH := Lib.hid hfin
      clear hfin
      have hrw9H := Lib.hid hrw9
      clear hrw9
      have hsH := Lib.hid hs
      clear hs
      go_wp2
      all_goals (go_end0; exact ⟨rfl, _, hfinH.out.1, hfinH.out.2, hrw9H.out, hsH.out⟩)
     ·have y1 : 1 ≤ Y.length := by cases Y with | nil => exact absurd rfl hY0 | cons z t => simp
      have t3 : (st : Int) < (mid : Int) := by omega
      have hcall := ihH.out P A Y (X ++ (B ++ S)) a st mid wr hP (by omega) (by omega) (by omega) (by omega) y1 hsA hsY (by rw [hX0] at hrwA ⊢; simpa using hrwA)
      have hPH := Lib.hid hP
      clear hP
      have lAH := Lib.hid lA
      clear lA
      have lXH := Lib.hid lX
      clear lX
      have lYH := Lib.hid lY
      clear lY
      have lBH := Lib.hid lB
      clear lB
      have hsAH := Lib.hid hsA
      clear hsA
      have hsXH := Lib.hid hsX
      clear hsX
      have hsYH := Lib.hid hsY
      clear hsY
      have hsBH := Lib.hid hsB
      clear hsB
      have hrwAH := Lib.hid hrwA
      clear hrwA
      have hAXH := Lib.hid hAX
      clear hAX
      have hYBH := Lib.hid hYB
      clear hYB
      have hAH := Lib.hid hA
      clear hA
      have hXH := Lib.hid hX
      clear hX
      have hYH := Lib.hid hY
      clear hY
      have hBH := Lib.hid hB
      clear hB
      have hmH := Lib.hid hm
      clear hm
      have heH := Lib.hid he
      clear he
      have g1H := Lib.hid g1
      clear g1
      have g2H := Lib.hid g2
      clear g2
      have g3H := Lib.hid g3
      clear g3
      have g4H := Lib.hid g4
      clear g4
      have g5H := Lib.hid g5
      clear g5
      have g6H := Lib.hid g6
      clear g6
      have hEnH := Lib.hid hEn
      clear hEn
      have hElH := Lib.hid hEl
      clear hEl
      have hX0H := Lib.hid hX0
      clear hX0
      have hY0H := Lib.hid hY0
      clear hY0
      have hsymH := Lib.hid hsym
      clear hsym
      have hsH := Lib.hid hs
      clear hs
      have hcallH := Lib.hid hcall
      clear hcall
      go_wp2_with fail
      refine hcallH.out.mono ?_
      rintro e' w3 ⟨rfl, M1, q1, c1, hrw8, hs8⟩
      have hfin := hsymH.out M1 (X ++ B) q1 (by rw [hX0H.out]; exact hsBH.out) c1 (SameCls.refl _)
      have hs9 := hsH.out.trans hs8
      clear q1 c1 hs8
      have hfinH := Lib.hid hfin
      clear hfin
      have hrw8H := Lib.hid hrw8
      clear hrw8
      have hs9H := Lib.hid hs9
      clear hs9
      go_wp2
      all_goals (go_end0; exact ⟨rfl, _, hfinH.out.1, hfinH.out.2, by simpa using hrw8H.out, hs9H.out⟩)
    ·have x1 : 1 ≤ X.length := by cases X with | nil => exact absurd rfl hX0 | cons z t => simp
     have t0 : (st : Int) < (m : Int) := by omega
     have t5 : (mid : Int) < (En : Int) := by omega
     by_cases hY0 : Y = []
     ·have hm3 : mid ≤ st := by have := lY; rw [hY0, List.length_nil] at this; omega
      have t1 : ¬ (m : Int) < (En : Int) := by omega
      have t2 : (a : Int) < (st : Int) := by omega
      have t3 : ¬ (st : Int) < (mid : Int) := by omega
      have t6 : (En : Int) < (e : Int) := by omega
      have hcall := ihH.out (P ++ A) X B S mid En e wr (by rw [List.length_append]; omega) (by omega) (by omega) (by omega) x1 (by omega) hsX hsB (by rw [hY0] at hrwA; simpa using hrwA)
      have hPH := Lib.hid hP
      clear hP
      have lAH := Lib.hid lA
      clear lA
      have lXH := Lib.hid lX
      clear lX
      have lYH := Lib.hid lY
      clear lY
      have lBH := Lib.hid lB
      clear lB
      have hsAH := Lib.hid hsA
      clear hsA
      have hsXH := Lib.hid hsX
      clear hsX
      have hsYH := Lib.hid hsY
      clear hsY
      have hsBH := Lib.hid hsB
      clear hsB
      have hrwAH := Lib.hid hrwA
      clear hrwA
      have hAXH := Lib.hid hAX
      clear hAX
      have hYBH := Lib.hid hYB
      clear hYB
      have hAH := Lib.hid hA
      clear hA
      have hXH := Lib.hid hX
      clear hX
      have hYH := Lib.hid hY
      clear hY
      have hBH := Lib.hid hB
      clear hB
      have hmH := Lib.hid hm
      clear hm
      have heH := Lib.hid he
      clear he
      have g1H := Lib.hid g1
      clear g1
      have g2H := Lib.hid g2
      clear g2
      have g3H := Lib.hid g3
      clear g3
      have g4H := Lib.hid g4
      clear g4
      have g5H := Lib.hid g5
      clear g5
      have g6H := Lib.hid g6
      clear g6
      have hEnH := Lib.hid hEn
      clear hEn
      have hElH := Lib.hid hEl
      clear hEl
      have hX0H := Lib.hid hX0
      clear hX0
      have hY0H := Lib.hid hY0
      clear hY0
      have hsymH := Lib.hid hsym
      clear hsym
      have hsH := Lib.hid hs
      clear hs
      have hcallH := Lib.hid hcall
      clear hcall
      go_wp2_with fail
      refine hcallH.out.mono ?_
      rintro e' w3 ⟨rfl, M2, q2, c2, hrw8, hs8⟩
      have hfin := hsymH.out (A ++ Y) M2 (by rw [hY0H.out, List.append_nil]; exact hsAH.out) q2 (SameCls.refl _) c2
      have hrw9 : RowI C w3 b off n (P ++ ((A ++ Y) ++ M2) ++ S) := by rw [hY0H.out]; simpa using hrw8
      have hs9 := hsH.out.trans hs8
      clear q2 c2 hs8 hrw8
      have hfinH := Lib.hid hfin
      clear hfin
      have hrw9H := Lib.hid hrw9
      clear hrw9
      have hs9H := Lib.hid hs9
      clear hs9
      go_wp2
      all_goals (go_end0; exact ⟨rfl, _, hfinH.out.1, hfinH.out.2, hrw9H.out, hs9H.out⟩)
     ·have y1 : 1 ≤ Y.length := by cases Y with | nil => exact absurd rfl hY0 | cons z t => simp
      have t1 : (m : Int) < (En : Int) := by omega
      have t3 : (st : Int) < (mid : Int) := by omega
      have hrot := rotate_any C b off n cap (P ++ A) X Y (B ++ S) st m En (gI C) wr (by rw [List.length_append]; omega) (by omega) (by omega) x1 y1 hn hrwA
      unfold gI at hrot
      have hPH := Lib.hid hP
      clear hP
      have lAH := Lib.hid lA
      clear lA
      have lXH := Lib.hid lX
      clear lX
      have lYH := Lib.hid lY
      clear lY
      have lBH := Lib.hid lB
      clear lB
      have hsAH := Lib.hid hsA
      clear hsA
      have hsXH := Lib.hid hsX
      clear hsX
      have hsYH := Lib.hid hsY
      clear hsY
      have hsBH := Lib.hid hsB
      clear hsB
      have hrwAH := Lib.hid hrwA
      clear hrwA
      have hAXH := Lib.hid hAX
      clear hAX
      have hYBH := Lib.hid hYB
      clear hYB
      have hAH := Lib.hid hA
      clear hA
      have hXH := Lib.hid hX
      clear hX
      have hYH := Lib.hid hY
      clear hY
      have hBH := Lib.hid hB
      clear hB
      have hmH := Lib.hid hm
      clear hm
      have heH := Lib.hid he
      clear he
      have g1H := Lib.hid g1
      clear g1
      have g2H := Lib.hid g2
      clear g2
      have g3H := Lib.hid g3
      clear g3
      have g4H := Lib.hid g4
      clear g4
      have g5H := Lib.hid g5
      clear g5
      have g6H := Lib.hid g6
      clear g6
      have hEnH := Lib.hid hEn
      clear hEn
      have hElH := Lib.hid hEl
      clear hEl
      have hX0H := Lib.hid hX0
      clear hX0
      have hY0H := Lib.hid hY0
      clear hY0
      have hsymH := Lib.hid hsym
      clear hsym
      have hsH := Lib.hid hs
      clear hs
      have hrotH := Lib.hid hrot
      clear hrot
      go_wp2_with fail
      refine hrotH.out.mono ?_
      rintro e' w3 ⟨rfl, hrw8, hs8⟩
      have hs9 := hsH.out.trans hs8
      clear hs8
      have hrw8H := Lib.hid hrw8
      clear hrw8
      have hs9H := Lib.hid hs9
      clear hs9
      by_cases hA0 : a < st
      ·have t2 : (a : Int) < (st : Int) := by omega
       have hcall := ihH.out P A Y (X ++ (B ++ S)) a st mid w3 hPH.out (by have := lAH.out; omega) (by have := lYH.out; omega) (by omega) (by have := lAH.out; omega) y1 hsAH.out hsYH.out (by simpa using hrw8H.out)
       have hcallH := Lib.hid hcall
       clear hcall
       go_wp2_with fail
       refine hcallH.out.mono ?_
       rintro e' w4 ⟨rfl, M1, q1, c1, hrw7, hs7⟩
       have hs10 := hs9H.out.trans hs7
       have lM1 : M1.length = mid - a := by have := c1.len; rw [List.length_append] at this; have := lAH.out; have := lYH.out; omega
       clear hs7
       have q1H := Lib.hid q1
       clear q1
       have c1H := Lib.hid c1
       clear c1
       have hrw7H := Lib.hid hrw7
       clear hrw7
       have hs10H := Lib.hid hs10
       clear hs10
       have lM1H := Lib.hid lM1
       clear lM1
       by_cases hB0 : En < e
       ·have t6 : (En : Int) < (e : Int) := by omega
        have hcall2 := ihH.out (P ++ M1) X B S mid En e w4 (by rw [List.length_append]; have := lM1H.out; have := hPH.out; omega) (by have := lXH.out; have := hEnH.out; omega) (by have := lBH.out; omega) (by omega) x1 (by have := lBH.out; omega) hsXH.out hsBH.out (by simpa using hrw7H.out)
        have hcall2H := Lib.hid hcall2
        clear hcall2
        go_wp2_with fail
        refine hcall2H.out.mono ?_
        rintro e' w5 ⟨rfl, M2, q2, c2, hrw6, hs6⟩
        have hfin := hsymH.out M1 M2 q1H.out q2 c1H.out c2
        have hs11 := (hs10H.out).trans hs6
        clear q2 c2 hs6
        have hfinH := Lib.hid hfin
        clear hfin
        have hrw6H := Lib.hid hrw6
        clear hrw6
        have hs11H := Lib.hid hs11
        clear hs11
        go_wp2
        all_goals (go_end0; exact ⟨rfl, _, hfinH.out.1, hfinH.out.2, by simpa using hrw6H.out, hs11H.out⟩)
       ·have t6 : ¬ (En : Int) < (e : Int) := by omega
        have hBn : B = [] := List.eq_nil_of_length_eq_zero (by have := lBH.out; omega)
        have hfin := hsymH.out M1 (X ++ B) q1H.out (by rw [hBn, List.append_nil]; exact hsXH.out) c1H.out (SameCls.refl _)
        have hfinH := Lib.hid hfin
        clear hfin
        have hBnH := Lib.hid hBn
        clear hBn
        go_wp2
        all_goals (go_end0; exact ⟨rfl, _, hfinH.out.1, hfinH.out.2, by simpa using hrw7H.out, hs10H.out⟩)
      ·have t2 : ¬ (a : Int) < (st : Int) := by omega
       have hAn : A = [] := List.eq_nil_of_length_eq_zero (by have := lAH.out; omega)
       have q1 : SortedBy (fI C) (A ++ Y) := by rw [hAn]; exact hsYH.out
       have lM1 : (A ++ Y).length = mid - a := by rw [List.length_append]; have := lAH.out; have := lYH.out; omega
       have hrw7 : RowI C w3 b off n (P ++ (A ++ Y) ++ (X ++ (B ++ S))) := by simpa using hrw8H.out
       have q1H := Lib.hid q1
       clear q1
       have hrw7H := Lib.hid hrw7
       clear hrw7
       have lM1H := Lib.hid lM1
       clear lM1
       have hAnH := Lib.hid hAn
       clear hAn
       by_cases hB0 : En < e
       ·have t6 : (En : Int) < (e : Int) := by omega
        have hcall2 := ihH.out (P ++ (A ++ Y)) X B S mid En e w3 (by rw [List.length_append]; have := lM1H.out; have := hPH.out; omega) (by have := lXH.out; have := hEnH.out; omega) (by have := lBH.out; omega) (by omega) x1 (by have := lBH.out; omega) hsXH.out hsBH.out (by simpa using hrw7H.out)
        have hcall2H := Lib.hid hcall2
        clear hcall2
        go_wp2_with fail
        refine hcall2H.out.mono ?_
        rintro e' w5 ⟨rfl, M2, q2, c2, hrw6, hs6⟩
        have hfin := hsymH.out (A ++ Y) M2 q1H.out q2 (SameCls.refl _) c2
        have hs11 := (hs9H.out).trans hs6
        clear q2 c2 hs6
        have hfinH := Lib.hid hfin
        clear hfin
        have hrw6H := Lib.hid hrw6
        clear hrw6
        have hs11H := Lib.hid hs11
        clear hs11
        go_wp2
        all_goals (go_end0; exact ⟨rfl, _, hfinH.out.1, hfinH.out.2, by simpa using hrw6H.out, hs11H.out⟩)
       ·have t6 : ¬ (En : Int) < (e : Int) := by omega
        have hBn : B = [] := List.eq_nil_of_length_eq_zero (by have := lBH.out; omega)
        have hfin := hsymH.out (A ++ Y) (X ++ B) q1H.out (by rw [hBn, List.append_nil]; exact hsXH.out) (SameCls.refl _) (SameCls.refl _)
        have hfinH := Lib.hid hfin
        clear hfin
        have hBnH := Lib.hid hBn
        clear hBn
        go_wp2
        all_goals (go_end0; exact ⟨rfl, _, hfinH.out.1, hfinH.out.2, by simpa using hrw7H.out, hs9H.out⟩)
 ·have hmm2 : ¬ (mid : Int) < (m : Int) := by omega
  obtain ⟨s0, hs0⟩ : ∃ s0, a = s0 := ⟨_, rfl⟩
  obtain ⟨r0, hr0⟩ : ∃ r0, m = r0 := ⟨_, rfl⟩
  have hsr : s0 ≤ r0 := by omega
  have hgeo : a ≤ s0 ∧ r0 ≤ mid ∧ r0 ≤ m ∧ mid - s0 ≤ e - m ∧ (s0 = a ∨ mid - s0 = e - m) ∧ (r0 = m ∨ r0 = mid) := ⟨by omega, by omega, by omega, by omega, .inl hs0.symm, .inl hr0.symm⟩
  have hrowH := Lib.hid hrow
  clear hrow
  have hlenH := Lib.hid hlen
  clear hlen
  have hPH := Lib.hid hP
  clear hP
  have heH := Lib.hid he
  clear he
  have hsLH := Lib.hid hsL
  clear hsL
  have hsRH := Lib.hid hsR
  clear hsR
  have hmH := Lib.hid hm
  clear hm
  have hgeoH := Lib.hid hgeo
  clear hgeo
  have hsrH := Lib.hid hsr
  clear hsr
  have ihH := Lib.hid ih
  clear ih
  have hl1H := Lib.hid hl1
  clear hl1
  have hl2H := Lib.hid hl2
  clear hl2
  have hs0H := Lib.hid hs0
  clear hs0
  have hr0H := Lib.hid hr0
  clear hr0
  have hmidH := Lib.hid hmid
  clear hmid
  go_enter Tryz.func223, Tryz.ntmps223
  go_wp2_with fail
  go_loopw [20, 21] (fun vs vr wr => B3Rel C (P ++ L ++ R ++ S) L R a mid s0 r0 b off n w vs vr wr) (fun vs vr _ => (intOf vr).toNat - (intOf vs).toNat)
  case atStart => exact ⟨s0, r0, Nat.le_refl _, hsrH.out, Nat.le_refl _, (by rw [hs0H.out]), (by rw [hr0H.out]), fun h => by omega, fun h => by omega, hrowH.out, World.grownBy.refl _ _⟩
  case round =>
   obtain ⟨st, r, hst0, hstr, hrr0, rfl, rfl, hgood, hbad, hrw, hs⟩ := hrel
   obtain ⟨g1, g2, g3, g4, g5, g6⟩ := hgeoH.out
   have hrm : r ≤ m := by omega
   have hrmid : r ≤ mid := by omega
   have hast : a ≤ st := by omega
   by_cases hlt : st < r
   ·obtain ⟨H, hH⟩ : ∃ H, (st + r) / 2 = H := ⟨_, rfl⟩
    have hHi : ((st : Int) + (r : Int)) / 2 = (H : Int) := by omega
    have hHI : st ≤ H := by omega
    have hHJ : H < r := by omega
    obtain ⟨Z, hZ⟩ : ∃ Z, mid + m - 1 - H = Z := ⟨_, rfl⟩
    have hZi : (mid : Int) + (m : Int) - 1 - (H : Int) = (Z : Int) := by omega
    have hm := hmH.out
    have he := heH.out
    obtain ⟨x, hx⟩ : ∃ x, L[H - a]? = some x := ⟨L[H - a]'(by omega), List.getElem?_eq_getElem _⟩
    obtain ⟨y, hy⟩ : ∃ y, R[mid - 1 - H]? = some y := ⟨R[mid - 1 - H]'(by omega), List.getElem?_eq_getElem _⟩
    have hgx := get_at (P := P) (S := R ++ S) (i := a) hPH.out hx
    rw [← List.append_assoc, show a + (H - a) = H by omega] at hgx
    have hgy := get_at (P := P ++ L) (S := S) (i := m) (by rw [List.length_append]; have := hPH.out; omega) hy
    rw [show m + (mid - 1 - H) = Z by omega] at hgy
    have v0 := hrw.at_ hgx
    have u0 := hrw.at_ hgy
    obtain ⟨v, hv⟩ : ∃ v, Lib.compareInt (vC C x) (vC C y) = v := ⟨_, rfl⟩
    have hvl : v < 0 ↔ (vC C x) < (vC C y) := by rw [← hv]; exact cmpI_lt
    have k0 : (0 : Int) ≤ (H : Int) := by omega
    have k1 : (H : Int) < (n : Int) := by omega
    have k2 : (0 : Int) ≤ (Z : Int) := by omega
    have k3 : (Z : Int) < (n : Int) := by omega
    have hwZ : IntKind.i64.wrap (Z : Int) = (Z : Int) := by rw [IntKind.wrap_i64]; omega
    clear hm he
    have hgoodH := Lib.hid hgood
    clear hgood
    have hbadH := Lib.hid hbad
    clear hbad
    have hrwH := Lib.hid hrw
    clear hrw
    have hsH := Lib.hid hs
    clear hs
    have hxH := Lib.hid hx
    clear hx
    have hyH := Lib.hid hy
    clear hy
    have hgyH := Lib.hid hgy
    clear hgy
    have hgxH := Lib.hid hgx
    clear hgx
    have hvH := Lib.hid hv
    clear hv
    have hvlH := Lib.hid hvl
    clear hvl
    have hHH := Lib.hid hH
    clear hH
    have hZH := Lib.hid hZ
    clear hZ
    have g1H := Lib.hid g1
    clear g1
    have g2H := Lib.hid g2
    clear g2
    have g3H := Lib.hid g3
    clear g3
    have g4H := Lib.hid g4
    clear g4
    have g5H := Lib.hid g5
    clear g5
    have g6H := Lib.hid g6
    clear g6
    go_wp2_with fail
    refine wp_region_held_drew (S := (fun w' => w'.cell? ⟨b, off + Z, none⟩ = some (.int .i64 y) ∧ w'.cell? ⟨b, off + H, none⟩ = some (.int .i64 x))) (by kernel_rfl) ⟨u0, v0⟩ (fun hHeld => ?_)
    clear u0 v0
    refine tkH (i := 0) (d := some 158) (v := ?_) (hy := Or.inl ⟨by rfl, ?_⟩) (h := ?_)
    rotate_left
    ·(intro w hSw; (try dsimp only at hSw); go_simp; (try with_reducible rfl))
    (try simp only [Act.put, tkA, tkB, tkC])
    refine tkH (i := 1) (d := some 159) (v := ?_) (hy := Or.inl ⟨by rfl, ?_⟩) (h := ?_)
    rotate_left
    ·(intro w hSw; (try dsimp only at hSw); go_simp; (try with_reducible rfl))
    (try simp only [Act.put, tkA, tkB, tkC])
    refine tkH (i := 2) (d := some 160) (v := ?_) (hy := Or.inl ⟨by rfl, ?_⟩) (h := ?_)
    rotate_left
    ·(intro w hSw; (try dsimp only at hSw); go_simp; (try with_reducible rfl))
    (try simp only [Act.put, tkA, tkB, tkC])
    refine tkH (i := 3) (d := some 161) (v := ?_) (hy := Or.inl ⟨by rfl, ?_⟩) (h := ?_)
    rotate_left
    ·(intro w hSw; (try dsimp only at hSw); go_simp; (try with_reducible rfl))
    (try simp only [Act.put, tkA, tkB, tkC])
    refine tkH (i := 4) (d := some 162) (v := ?_) (hy := Or.inl ⟨by rfl, ?_⟩) (h := ?_)
    rotate_left
    ·(intro w hSw; (try dsimp only at hSw); go_simp; (try with_reducible rfl))
    (try simp only [Act.put, tkA, tkB, tkC])
    refine tkH (i := 5) (d := some 163) (v := ?_) (hy := Or.inl ⟨by rfl, ?_⟩) (h := ?_)
    rotate_left
    ·(intro w hSw; (try dsimp only at hSw); go_simp; (try with_reducible rfl))
    (try simp only [Act.put, tkA, tkB, tkC])
    refine tkH (i := 6) (d := some 164) (v := ?_) (hy := Or.inl ⟨by rfl, ?_⟩) (h := ?_)
    rotate_left
    ·(intro w hSw; (try dsimp only at hSw); go_simp; (try with_reducible rfl))
    (try simp only [Act.put, tkA, tkB, tkC])
    refine tkH (i := 7) (d := some 165) (v := ?_) (hy := Or.inl ⟨by rfl, ?_⟩) (h := ?_)
    rotate_left
    ·(intro w hSw; (try dsimp only at hSw); go_simp; (try with_reducible rfl))
    (try simp only [Act.put, tkA, tkB, tkC])
    refine tkH (i := 8) (d := some 166) (v := ?_) (hy := Or.inl ⟨by rfl, ?_⟩) (h := ?_)
    rotate_left
    ·(intro w hSw; (try dsimp only at hSw); go_simp; (try with_reducible rfl))
    (try simp only [Act.put, tkA, tkB, tkC])
    refine tkH (i := 9) (d := some 167) (v := ?_) (hy := Or.inl ⟨by rfl, ?_⟩) (h := ?_)
    rotate_left
    ·(intro w hSw; (try dsimp only at hSw); go_simp; (try with_reducible rfl))
    (try simp only [Act.put, tkA, tkB, tkC])
    refine tkH (i := 10) (d := some 168) (v := ?_) (hy := Or.inl ⟨by rfl, ?_⟩) (h := ?_)
    rotate_left
    ·(intro w hSw; (try dsimp only at hSw); go_simp; (try with_reducible rfl))
    (try simp only [Act.put, tkA, tkB, tkC])
    refine wpAnyH_ready (rs := [11]) (by kernel_rfl) (by simp) ?_
    refine AllReadyH.cons (i := 11) rfl (fun K hK => ?_) AllReadyH.nil
    go_simp
    go_at_call 159
    refine (cmp_any C y x _ v (hrwH.out.cr.below (Below.refl _ _).drew) (hrwH.out.in_ hgyH.out) (hrwH.out.in_ hgxH.out) hvH.out).mono ?_
    rintro e' w2 ⟨rfl, hb2⟩
    have hb2a : Below wr.heap.size wr w2 := by first | exact hb2 | exact (Below.refl _ _).drew.trans hb2
    replace hHeld := keep2i hb2 hHeld
    have hrw3 := hrwH.out.below hb2a
    have hs3 := hsH.out.trans (Srt.of_below hb2a)
    clear hb2 hb2a
    have hrw3H := Lib.hid hrw3
    clear hrw3
    have hs3H := Lib.hid hs3
    clear hs3
    refine hK.out _ _ hHeld (fun hHeld => ?_)
    clear hK K
    (try simp only [Act.put, List.setIfInBounds_toArray, List.set_cons_zero, List.set_cons_succ])
    clear hHeld
    refine tkH (i := 12) (d := some 170) (v := ?_) (hy := Or.inl ⟨by rfl, ?_⟩) (h := ?_)
    rotate_left
    ·(intro w hSw; (try dsimp only at hSw); go_simp; (try with_reducible rfl))
    (try simp only [Act.put, tkA, tkB, tkC])
    refine tkH (i := 13) (d := some 171) (v := ?_) (hy := Or.inl ⟨by rfl, ?_⟩) (h := ?_)
    rotate_left
    ·(intro w hSw; (try dsimp only at hSw); go_simp; (try with_reducible rfl))
    (try simp only [Act.put, tkA, tkB, tkC])
    refine wpAnyH_done (by kernel_rfl) ?_ _
    by_cases hc : v < 0
    ·have R1 : B3Rel C (P ++ L ++ R ++ S) L R a mid s0 r0 b off n w (.int .i64 (st : Int)) (.int .i64 (H : Int)) w2 := by
      refine ⟨st, H, hst0, hHI, by omega, rfl, rfl, hgoodH.out, fun _ x' y' hx' hy' => ?_, hrw3H.out, hs3H.out⟩
      rw [hxH.out] at hx'
      rw [hyH.out] at hy'
      injection hx' with hx'
      injection hy' with hy'
      subst hx'
      subst hy'
      have := hvlH.out.1 hc
      unfold fI; omega
     rw [show (!decide (v < 0)) = false by simp [hc]]
     have R1H := Lib.hid R1
     clear R1
     go_wp2
     refine ⟨?rel, ?measure⟩
     case measure => (simp [intOf]; omega)
     case rel => first | exact R1H.out | exact ⟨rfl, R1H.out⟩ | ((try refine ⟨rfl, ?_⟩); (repeat apply Exists.intro); refine ⟨R1H.out, ?_⟩; ((repeat' apply And.intro) <;> rfl))
    ·have R1 : B3Rel C (P ++ L ++ R ++ S) L R a mid s0 r0 b off n w (.int .i64 ((H : Int) + 1)) (.int .i64 (r : Int)) w2 := by
      refine ⟨H + 1, r, by omega, by omega, hrr0, by go_num, rfl, fun _ x' y' hx' hy' => ?_, hbadH.out, hrw3H.out, hs3H.out⟩
      rw [show H + 1 - 1 - a = H - a by omega, hxH.out] at hx'
      rw [show mid - (H + 1) = mid - 1 - H by omega, hyH.out] at hy'
      injection hx' with hx'
      injection hy' with hy'
      subst hx'
      subst hy'
      have : ¬ (vC C x) < (vC C y) := fun h => hc (hvlH.out.2 h)
      unfold fI; omega
     rw [show (!decide (v < 0)) = true by simp; omega]
     have R1H := Lib.hid R1
     clear R1
     go_wp2
     refine ⟨?rel, ?measure⟩
     case measure => (simp [intOf]; omega)
     case rel => first | exact R1H.out | exact ⟨rfl, R1H.out⟩ | ((try refine ⟨rfl, ?_⟩); (repeat apply Exists.intro); refine ⟨R1H.out, ?_⟩; ((repeat' apply And.intro) <;> rfl))
   ·obtain rfl : st = r := by omega
    have hm := hmH.out
    have he := heH.out
    have hP := hPH.out
    obtain ⟨En, hEn⟩ : ∃ En, mid + m - st = En := ⟨_, rfl⟩
    have hEni : (mid : Int) + (m : Int) - (st : Int) = (En : Int) := by omega
    have hsym := fun M1 M2 => sorted_parts C (L := L) (R := R) (i := st - a) (j := mid - st) (M1 := M1) (M2 := M2) hsLH.out hsRH.out (by omega) (by omega)
     (fun h0 x y hx hy => by
      rcases g5 with e0 | e0
      ·exact hgood (by omega) x y (by rw [show st - 1 - a = st - a - 1 by omega]; exact hx) hy
      ·by_cases hss : s0 < st
       ·exact hgood hss x y (by rw [show st - 1 - a = st - a - 1 by omega]; exact hx) hy
       ·exfalso
        have := (List.getElem?_eq_some_iff.1 hy).1
        omega)
     (fun h0 x y hx hy => by
      by_cases hss : st < r0
      ·exact hbad hss x y hx (by rw [show mid - 1 - st = mid - st - 1 by omega]; exact hy)
      ·exfalso
       have := (List.getElem?_eq_some_iff.1 hx).1
       rcases g6 with e0 | e0 <;> omega)
    obtain ⟨A, hA⟩ : ∃ A, L.take (st - a) = A := ⟨_, rfl⟩
    obtain ⟨X, hX⟩ : ∃ X, L.drop (st - a) = X := ⟨_, rfl⟩
    obtain ⟨Y, hY⟩ : ∃ Y, R.take (mid - st) = Y := ⟨_, rfl⟩
    obtain ⟨B, hB⟩ : ∃ B, R.drop (mid - st) = B := ⟨_, rfl⟩
    have hAX : L = A ++ X := by rw [← hA, ← hX, List.take_append_drop]
    have hYB : R = Y ++ B := by rw [← hY, ← hB, List.take_append_drop]
    have lA : A.length = st - a := by rw [← hA, List.length_take]; omega
    have lX : X.length = m - st := by rw [← hX, List.length_drop]; omega
    have lY : Y.length = mid - st := by rw [← hY, List.length_take]; omega
    have lB : B.length = e - En := by rw [← hB, List.length_drop]; omega
    have hsA : SortedBy (fI C) A := by have := hsLH.out; rw [hAX] at this; exact sorted_left this
    have hsX : SortedBy (fI C) X := by have := hsLH.out; rw [hAX] at this; exact sorted_right this
    have hsY : SortedBy (fI C) Y := by have := hsRH.out; rw [hYB] at this; exact sorted_left this
    have hsB : SortedBy (fI C) B := by have := hsRH.out; rw [hYB] at this; exact sorted_right this
    rw [hA, hX, hY, hB] at hsym
    have hrwA : RowI C wr b off n (P ++ A ++ X ++ Y ++ (B ++ S)) := by rw [hAX, hYB] at hrw; simpa using hrw
    have hEe : En ≤ e := by omega
    have hEm : m ≤ En := by omega
    have hEl : En + st = mid + m := by omega
    have l1 := hl1H.out
    have l2 := hl2H.out
    clear hgood hbad hrw
    by_cases hX0 : X = []
    ·have hsm : m ≤ st := by have := lX; rw [hX0, List.length_nil] at this; omega
     have t0 : ¬ (st : Int) < (m : Int) := by omega
     have t2 : (a : Int) < (st : Int) := by omega
     have t5 : ¬ (mid : Int) < (En : Int) := by omega
     by_cases hY0 : Y = []
     ·have hm3 : mid ≤ st := by have := lY; rw [hY0, List.length_nil] at this; omega
      have t3 : ¬ (st : Int) < (mid : Int) := by omega
      have hfin := hsym (A ++ Y) (X ++ B) (by rw [hY0, List.append_nil]; exact hsA) (by rw [hX0]; exact hsB) (SameCls.refl _) (SameCls.refl _)
      have hrw9 : RowI C wr b off n (P ++ ((A ++ Y) ++ (X ++ B)) ++ S) := by rw [hX0, hY0] at hrwA ⊢; simpa using hrwA
      have hPH := Lib.hid hP
      clear hP
      have lAH := Lib.hid lA
      clear lA
      have lXH := Lib.hid lX
      clear lX
      have lYH := Lib.hid lY
      clear lY
      have lBH := Lib.hid lB
      clear lB
      have hsAH := Lib.hid hsA
      clear hsA
      have hsXH := Lib.hid hsX
      clear hsX
      have hsYH := Lib.hid hsY
      clear hsY
      have hsBH := Lib.hid hsB
      clear hsB
      have hrwAH := Lib.hid hrwA
      clear hrwA
      have hAXH := Lib.hid hAX
      clear hAX
      have hYBH := Lib.hid hYB
      clear hYB
      have hAH := Lib.hid hA
      clear hA
      have hXH := Lib.hid hX
      clear hX
      have hYH := Lib.hid hY
      clear hY
      have hBH := Lib.hid hB
      clear hB
      have hmH := Lib.hid hm
      clear hm
      have heH := Lib.hid he
      clear he
      have g1H := Lib.hid g1
      clear g1
      have g2H := Lib.hid g2
      clear g2
      have g3H := Lib.hid g3
      clear g3
      have g4H := Lib.hid g4
      clear g4
      have g5H := Lib.hid g5
      clear g5
      have g6H := Lib.hid g6
      clear g6
      have hEnH := Lib.hid hEn
      clear hEn
      have hElH := Lib.hid hEl
      clear hEl
      have hX0H := Lib.hid hX0
      clear hX0
      have hY0H := Lib.hid hY0
      clear hY0
      have hsymH := Lib.hid hsym
      clear hsym
      have hfinH := Lib.hid hfin
      clear hfin
      have hrw9H := Lib.hid hrw9
      clear hrw9
      have hsH := Lib.hid hs
      clear hs
      go_wp2
      all_goals (go_end0; exact ⟨rfl, _, hfinH.out.1, hfinH.out.2, hrw9H.out, hsH.out⟩)
     ·have y1 : 1 ≤ Y.length := by cases Y with | nil => exact absurd rfl hY0 | cons z t => simp
      have t3 : (st : Int) < (mid : Int) := by omega
      have hcall := ihH.out P A Y (X ++ (B ++ S)) a st mid wr hP (by omega) (by omega) (by omega) (by omega) y1 hsA hsY (by rw [hX0] at hrwA ⊢; simpa using hrwA)
      have hPH := Lib.hid hP
      clear hP
      have lAH := Lib.hid lA
      clear lA
      have lXH := Lib.hid lX
      clear lX
      have lYH := Lib.hid lY
      clear lY
      have lBH := Lib.hid lB
      clear lB
      have hsAH := Lib.hid hsA
      clear hsA
      have hsXH := Lib.hid hsX
      clear hsX
      have hsYH := Lib.hid hsY
      clear hsY
      have hsBH := Lib.hid hsB
      clear hsB
      have hrwAH := Lib.hid hrwA
      clear hrwA
      have hAXH := Lib.hid hAX
      clear hAX
      have hYBH := Lib.hid hYB
      clear hYB
      have hAH := Lib.hid hA
      clear hA
      have hXH := Lib.hid hX
      clear hX
      have hYH := Lib.hid hY
      clear hY
      have hBH := Lib.hid hB
      clear hB
      have hmH := Lib.hid hm
      clear hm
      have heH := Lib.hid he
      clear he
      have g1H := Lib.hid g1
      clear g1
      have g2H := Lib.hid g2
      clear g2
      have g3H := Lib.hid g3
      clear g3
      have g4H := Lib.hid g4
      clear g4
      have g5H := Lib.hid g5
      clear g5
      have g6H := Lib.hid g6
      clear g6
      have hEnH := Lib.hid hEn
      clear hEn
      have hElH := Lib.hid hEl
      clear hEl
      have hX0H := Lib.hid hX0
      clear hX0
      have hY0H := Lib.hid hY0
      clear hY0
      have hsymH := Lib.hid hsym
      clear hsym
      have hsH := Lib.hid hs
      clear hs
      have hcallH := Lib.hid hcall
      clear hcall
      go_wp2_with fail
      refine hcallH.out.mono ?_
      rintro e' w3 ⟨rfl, M1, q1, c1, hrw8, hs8⟩
      have hfin := hsymH.out M1 (X ++ B) q1 (by rw [hX0H.out]; exact hsBH.out) c1 (SameCls.refl _)
      have hs9 := hsH.out.trans hs8
      clear q1 c1 hs8
      have hfinH := Lib.hid hfin
      clear hfin
      have hrw8H := Lib.hid hrw8
      clear hrw8
      have hs9H := Lib.hid hs9
      clear hs9
      go_wp2
      all_goals (go_end0; exact ⟨rfl, _, hfinH.out.1, hfinH.out.2, by simpa using hrw8H.out, hs9H.out⟩)
    ·have x1 : 1 ≤ X.length := by cases X with | nil => exact absurd rfl hX0 | cons z t => simp
     have t0 : (st : Int) < (m : Int) := by omega
     have t5 : (mid : Int) < (En : Int) := by omega
     by_cases hY0 : Y = []
     ·have hm3 : mid ≤ st := by have := lY; rw [hY0, List.length_nil] at this; omega
      have t1 : ¬ (m : Int) < (En : Int) := by omega
      have t2 : (a : Int) < (st : Int) := by omega
      have t3 : ¬ (st : Int) < (mid : Int) := by omega
      have t6 : (En : Int) < (e : Int) := by omega
      have hcall := ihH.out (P ++ A) X B S mid En e wr (by rw [List.length_append]; omega) (by omega) (by omega) (by omega) x1 (by omega) hsX hsB (by rw [hY0] at hrwA; simpa using hrwA)
      have hPH := Lib.hid hP
      clear hP
      have lAH := Lib.hid lA
      clear lA
      have lXH := Lib.hid lX
      clear lX
      have lYH := Lib.hid lY
      clear lY
      have lBH := Lib.hid lB
      clear lB
      have hsAH := Lib.hid hsA
      clear hsA
      have hsXH := Lib.hid hsX
      clear hsX
      have hsYH := Lib.hid hsY
      clear hsY
      have hsBH := Lib.hid hsB
      clear hsB
      have hrwAH := Lib.hid hrwA
      clear hrwA
      have hAXH := Lib.hid hAX
      clear hAX
      have hYBH := Lib.hid hYB
      clear hYB
      have hAH := Lib.hid hA
      clear hA
      have hXH := Lib.hid hX
      clear hX
      have hYH := Lib.hid hY
      clear hY
      have hBH := Lib.hid hB
      clear hB
      have hmH := Lib.hid hm
      clear hm
      have heH := Lib.hid he
      clear he
      have g1H := Lib.hid g1
      clear g1
      have g2H := Lib.hid g2
      clear g2
      have g3H := Lib.hid g3
      clear g3
      have g4H := Lib.hid g4
      clear g4
      have g5H := Lib.hid g5
      clear g5
      have g6H := Lib.hid g6
      clear g6
      have hEnH := Lib.hid hEn
      clear hEn
      have hElH := Lib.hid hEl
      clear hEl
      have hX0H := Lib.hid hX0
      clear hX0
      have hY0H := Lib.hid hY0
      clear hY0
      have hsymH := Lib.hid hsym
      clear hsym
      have hsH := Lib.hid hs
      clear hs
      have hcallH := Lib.hid hcall
      clear hcall
      go_wp2_with fail
      refine hcallH.out.mono ?_
      rintro e' w3 ⟨rfl, M2, q2, c2, hrw8, hs8⟩
      have hfin := hsymH.out (A ++ Y) M2 (by rw [hY0H.out, List.append_nil]; exact hsAH.out) q2 (SameCls.refl _) c2
      have hrw9 : RowI C w3 b off n (P ++ ((A ++ Y) ++ M2) ++ S) := by rw [hY0H.out]; simpa using hrw8
      have hs9 := hsH.out.trans hs8
      clear q2 c2 hs8 hrw8
      have hfinH := Lib.hid hfin
      clear hfin
      have hrw9H := Lib.hid hrw9
      clear hrw9
      have hs9H := Lib.hid hs9
      clear hs9
      go_wp2
      all_goals (go_end0; exact ⟨rfl, _, hfinH.out.1, hfinH.out.2, hrw9H.out, hs9H.out⟩)
     ·have y1 : 1 ≤ Y.length := by cases Y with | nil => exact absurd rfl hY0 | cons z t => simp
      have t1 : (m : Int) < (En : Int) := by omega
      have t3 : (st : Int) < (mid : Int) := by omega
      have hrot := rotate_any C b off n cap (P ++ A) X Y (B ++ S) st m En (gI C) wr (by rw [List.length_append]; omega) (by omega) (by omega) x1 y1 hn hrwA
      unfold gI at hrot
      have hPH := Lib.hid hP
      clear hP
      have lAH := Lib.hid lA
      clear lA
      have lXH := Lib.hid lX
      clear lX
      have lYH := Lib.hid lY
      clear lY
      have lBH := Lib.hid lB
      clear lB
      have hsAH := Lib.hid hsA
      clear hsA
      have hsXH := Lib.hid hsX
      clear hsX
      have hsYH := Lib.hid hsY
      clear hsY
      have hsBH := Lib.hid hsB
      clear hsB
      have hrwAH := Lib.hid hrwA
      clear hrwA
      have hAXH := Lib.hid hAX
      clear hAX
      have hYBH := Lib.hid hYB
      clear hYB
      have hAH := Lib.hid hA
      clear hA
      have hXH := Lib.hid hX
      clear hX
      have hYH := Lib.hid hY
      clear hY
      have hBH := Lib.hid hB
      clear hB
      have hmH := Lib.hid hm
      clear hm
      have heH := Lib.hid he
      clear he
      have g1H := Lib.hid g1
      clear g1
      have g2H := Lib.hid g2
      clear g2
      have g3H := Lib.hid g3
      clear g3
      have g4H := Lib.hid g4
      clear g4
      have g5H := Lib.hid g5
      clear g5
      have g6H := Lib.hid g6
      clear g6
      have hEnH := Lib.hid hEn
      clear hEn
      have hElH := Lib.hid hEl
      clear hEl
      have hX0H := Lib.hid hX0
      clear hX0
      have hY0H := Lib.hid hY0
      clear hY0
      have hsymH := Lib.hid hsym
      clear hsym
      have hsH := Lib.hid hs
      clear hs
      have hrotH := Lib.hid hrot
      clear hrot
      go_wp2_with fail
      refine hrotH.out.mono ?_
      rintro e' w3 ⟨rfl, hrw8, hs8⟩
      have hs9 := hsH.out.trans hs8
      clear hs8
      have hrw8H := Lib.hid hrw8
      clear hrw8
      have hs9H := Lib.hid hs9
      clear hs9
      by_cases hA0 : a < st
      ·have t2 : (a : Int) < (st : Int) := by omega
       have hcall := ihH.out P A Y (X ++ (B ++ S)) a st mid w3 hPH.out (by have := lAH.out; omega) (by have := lYH.out; omega) (by omega) (by have := lAH.out; omega) y1 hsAH.out hsYH.out (by simpa using hrw8H.out)
       have hcallH := Lib.hid hcall
       clear hcall
       go_wp2_with fail
       refine hcallH.out.mono ?_
       rintro e' w4 ⟨rfl, M1, q1, c1, hrw7, hs7⟩
       have hs10 := hs9H.out.trans hs7
       have lM1 : M1.length = mid - a := by have := c1.len; rw [List.length_append] at this; have := lAH.out; have := lYH.out; omega
       clear hs7
       have q1H := Lib.hid q1
       clear q1
       have c1H := Lib.hid c1
       clear c1
       have hrw7H := Lib.hid hrw7
       clear hrw7
       have hs10H := Lib.hid hs10
       clear hs10
       have lM1H := Lib.hid lM1
       clear lM1
       by_cases hB0 : En < e
       ·have t6 : (En : Int) < (e : Int) := by omega
        have hcall2 := ihH.out (P ++ M1) X B S mid En e w4 (by rw [List.length_append]; have := lM1H.out; have := hPH.out; omega) (by have := lXH.out; have := hEnH.out; omega) (by have := lBH.out; omega) (by omega) x1 (by have := lBH.out; omega) hsXH.out hsBH.out (by simpa using hrw7H.out)
        have hcall2H := Lib.hid hcall2
        clear hcall2
        go_wp2_with fail
        refine hcall2H.out.mono ?_
        rintro e' w5 ⟨rfl, M2, q2, c2, hrw6, hs6⟩
        have hfin := hsymH.out M1 M2 q1H.out q2 c1H.out c2
        have hs11 := (hs10H.out).trans hs6
        clear q2 c2 hs6
        have hfinH := Lib.hid hfin
        clear hfin
        have hrw6H := Lib.hid hrw6
        clear hrw6
        have hs11H := Lib.hid hs11
        clear hs11
        go_wp2
        all_goals (go_end0; exact ⟨rfl, _, hfinH.out.1, hfinH.out.2, by simpa using hrw6H.out, hs11H.out⟩)
       ·have t6 : ¬ (En : Int) < (e : Int) := by omega
        have hBn : B = [] := List.eq_nil_of_length_eq_zero (by have := lBH.out; omega)
        have hfin := hsymH.out M1 (X ++ B) q1H.out (by rw [hBn, List.append_nil]; exact hsXH.out) c1H.out (SameCls.refl _)
        have hfinH := Lib.hid hfin
        clear hfin
        have hBnH := Lib.hid hBn
        clear hBn
        go_wp2
        all_goals (go_end0; exact ⟨rfl, _, hfinH.out.1, hfinH.out.2, by simpa using hrw7H.out, hs10H.out⟩)
      ·have t2 : ¬ (a : Int) < (st : Int) := by omega
       have hAn : A = [] := List.eq_nil_of_length_eq_zero (by have := lAH.out; omega)
       have q1 : SortedBy (fI C) (A ++ Y) := by rw [hAn]; exact hsYH.out
       have lM1 : (A ++ Y).length = mid - a := by rw [List.length_append]; have := lAH.out; have := lYH.out; omega
       have hrw7 : RowI C w3 b off n (P ++ (A ++ Y) ++ (X ++ (B ++ S))) := by simpa using hrw8H.out
       have q1H := Lib.hid q1
       clear q1
       have hrw7H := Lib.hid hrw7
       clear hrw7
       have lM1H := Lib.hid lM1
       clear lM1
       have hAnH := Lib.hid hAn
       clear hAn
       by_cases hB0 : En < e
       ·have t6 : (En : Int) < (e : Int) := by omega
        have hcall2 := ihH.out (P ++ (A ++ Y)) X B S mid En e w3 (by rw [List.length_append]; have := lM1H.out; have := hPH.out; omega) (by have := lXH.out; have := hEnH.out; omega) (by have := lBH.out; omega) (by omega) x1 (by have := lBH.out; omega) hsXH.out hsBH.out (by simpa using hrw7H.out)
        have hcall2H := Lib.hid hcall2
        clear hcall2
        go_wp2_with fail
        refine hcall2H.out.mono ?_
        rintro e' w5 ⟨rfl, M2, q2, c2, hrw6, hs6⟩
        have hfin := hsymH.out (A ++ Y) M2 q1H.out q2 (SameCls.refl _) c2
        have hs11 := (hs9H.out).trans hs6
        clear q2 c2 hs6
        have hfinH := Lib.hid hfin
        clear hfin
        have hrw6H := Lib.hid hrw6
        clear hrw6
        have hs11H := Lib.hid hs11
        clear hs11
        go_wp2
        all_goals (go_end0; exact ⟨rfl, _, hfinH.out.1, hfinH.out.2, by simpa using hrw6H.out, hs11H.out⟩)
       ·have t6 : ¬ (En : Int) < (e : Int) := by omega
        have hBn : B = [] := List.eq_nil_of_length_eq_zero (by have := lBH.out; omega)
        have hfin := hsymH.out (A ++ Y) (X ++ B) q1H.out (by rw [hBn, List.append_nil]; exact hsXH.out) (SameCls.refl _) (SameCls.refl _)
        have hfinH := Lib.hid hfin
        clear hfin
        have hBnH := Lib.hid hBn
        clear hBn
        go_wp2
        all_goals (go_end0; exact ⟨rfl, _, hfinH.out.1, hfinH.out.2, by simpa using hrw7H.out, hs9H.out⟩)
end Go.Proofs.YtbnkoefljcekbaaGreatDoor.C9

namespace Go.Proofs.YtbnkoefljcekbaaGreatDoor.C9
open Go.ChangeShapes Go.WideShapes Go.Deep Go.RowKit
set_option linter.unusedVariables false

theorem merge_any (C : CC) (b off n cap : Nat) (hn : n ≤ 1000000000) : ∀ k, MgHyp C b off n cap k := by
 intro k
 induction k with
 | zero =>
  intro P L R S a m e w hP hm he hk h1 h2 hsL hsR hrow
  exfalso; omega
 | succ k ih =>
  intro P L R S a m e w hP hm he hk h1 h2 hsL hsR hrow
  by_cases hl : L.length = 1
  ·obtain ⟨x, rfl⟩ := List.length_eq_one_iff.1 hl
   exact merge1 C b off n cap P R S x a m e w hP (by rw [hm, hl]) he hn hsR hrow
  ·by_cases hr : R.length = 1
   ·obtain ⟨y, rfl⟩ := List.length_eq_one_iff.1 hr
    exact merge2 C b off n cap P L S y a m e w hP hm (by omega) (by rw [he, hr]) hn hsL hrow
   ·exact merge3 C b off n cap k ih P L R S a m e w hP hm he hk (by omega) (by omega) hn hsL hsR hrow
/-- blocks of one length, each sorted -/
def Blks (C : CC) (bs : Nat) (Bs : List (List Int)) : Prop := ∀ x ∈ Bs, x.length = bs ∧ SortedBy (fI C) x
theorem Blks.app {C : CC} {bs : Nat} {Bs : List (List Int)} {x : List Int} (h : Blks C bs Bs) (h1 : x.length = bs) (h2 : SortedBy (fI C) x) : Blks C bs (Bs ++ [x]) := fun y hy => by
 rcases List.mem_append.1 hy with hy | hy
 ·exact h y hy
 ·rw [List.mem_singleton.1 hy]; exact ⟨h1, h2⟩
theorem flat_app (Bs : List (List Int)) (x : List Int) : (Bs ++ [x]).flatten = Bs.flatten ++ x := by simp
theorem Blks.two {C : CC} {bs : Nat} {Bs : List (List Int)} {T : List Int} (h : Blks C bs Bs) (hT : T.length < bs) (hl : 2 * bs ≤ (Bs.flatten ++ T).length) : ∃ x y Cs, Bs = x :: y :: Cs ∧ x.length = bs ∧ y.length = bs ∧ SortedBy (fI C) x ∧ SortedBy (fI C) y ∧ Blks C bs Cs := by
 match Bs, h with
 | [], _ => simp at hl; omega
 | [x], h => have := (h x (by simp)).1; simp at hl; omega
 | x :: y :: Cs, h => exact ⟨x, y, Cs, rfl, (h x (by simp)).1, (h y (by simp)).1, (h x (by simp)).2, (h y (by simp)).2, fun z hz => h z (by simp [hz])⟩
theorem Blks.few {C : CC} {bs : Nat} {Bs : List (List Int)} {T : List Int} (h : Blks C bs Bs) (hb : 0 < bs) (hl : (Bs.flatten ++ T).length < 2 * bs) : Bs = [] ∨ ∃ x, Bs = [x] ∧ x.length = bs ∧ SortedBy (fI C) x := by
 match Bs, h with
 | [], _ => exact .inl rfl
 | [x], h => exact .inr ⟨x, rfl, (h x (by simp)).1, (h x (by simp)).2⟩
 | x :: y :: Cs, h =>
  have h1 := (h x (by simp)).1
  have h2 := (h y (by simp)).1
  simp only [List.flatten_cons, List.length_append] at hl
  omega
end Go.Proofs.YtbnkoefljcekbaaGreatDoor.C9

namespace Go.Proofs.YtbnkoefljcekbaaGreatDoor.C9
open Go.ChangeShapes Go.WideShapes Go.Deep Go.RowKit
set_option linter.unusedVariables false

def St1 (C : CC) (D0 : List Int) (b off n : Nat) (w0 : World) (va vb : Value) (wr : World) : Prop :=
 ∃ (Bs : List (List Int)) (T : List Int) (a e : Nat), Blks C 20 Bs ∧ Bs.flatten.length = a ∧ a + 20 = e ∧ va = .int .i64 (a : Int) ∧ vb = .int .i64 (e : Int) ∧ SameCls (fI C) (Bs.flatten ++ T) D0 ∧ RowI C wr b off n (Bs.flatten ++ T) ∧ Srt b w0 wr
def St2 (C : CC) (D0 : List Int) (b off n : Nat) (w0 : World) (vs : Value) (wr : World) : Prop :=
 ∃ (bs : Nat) (Bs : List (List Int)) (T : List Int), 0 < bs ∧ bs ≤ 2 * n + 20 ∧ vs = .int .i64 (bs : Int) ∧ Blks C bs Bs ∧ T.length < bs ∧ SortedBy (fI C) T ∧ SameCls (fI C) (Bs.flatten ++ T) D0 ∧ RowI C wr b off n (Bs.flatten ++ T) ∧ Srt b w0 wr
def St3 (C : CC) (D0 : List Int) (bs b off n : Nat) (w0 : World) (va vb : Value) (wr : World) : Prop :=
 ∃ (Ds Bs : List (List Int)) (T : List Int) (a e : Nat), Blks C (2 * bs) Ds ∧ Blks C bs Bs ∧ T.length < bs ∧ SortedBy (fI C) T ∧ Ds.flatten.length = a ∧ a + 2 * bs = e ∧ va = .int .i64 (a : Int) ∧ vb = .int .i64 (e : Int) ∧ SameCls (fI C) (Ds.flatten ++ Bs.flatten ++ T) D0 ∧ RowI C wr b off n (Ds.flatten ++ Bs.flatten ++ T) ∧ Srt b w0 wr
set_option maxRecDepth 100000 in
set_option maxHeartbeats 16000000 in
theorem stable_cmp (C : CC) (b off n cap : Nat) (D : List Int) (w : World) (hn : n ≤ 1000000000) (hrow : RowI C w b off n D) :
  Calls Tryz.prog 204 #[.slice (some ⟨b, off, none⟩) n cap, .int .i64 n, (gI C)] w fun e w' => e = .returned (.tuple #[]) ∧ ∃ M, SortedBy (fI C) M ∧ SameCls (fI C) M D ∧ RowI C w' b off n M ∧ Srt b w w' := by
 have hstart : St1 C D b off n w (.int .i64 0) (.int .i64 20) w := ⟨[], D, 0, 20, (fun x hx => (by cases hx)), rfl, rfl, by go_num, by go_num, SameCls.refl _, hrow, World.grownBy.refl _ _⟩
 have him : ∀ k, MgHyp C b off n cap k := merge_any C b off n cap hn
 unfold MgHyp at him
 have hins : ∀ (P M S : List Int) (a e : Nat) (w : World), P.length = a → e = a + M.length → RowI C w b off n (P ++ M ++ S) →
  Calls Tryz.prog 222 #[.slice (some ⟨b, off, none⟩) n cap, .int .i64 a, .int .i64 e, (gI C)] w fun e w' => e = .returned (.tuple #[]) ∧ ∃ M', SortedBy (fI C) M' ∧ SameCls (fI C) M' M ∧ RowI C w' b off n (P ++ M' ++ S) ∧ Srt b w w' := fun P M S a e w hP he hr => insertion_any C b off n cap P M S a e w hP he hn hr
 unfold gI at him hins
 unfold gI
 have hrowH := Lib.hid hrow
 clear hrow
 have hstartH := Lib.hid hstart
 clear hstart
 have himH := Lib.hid him
 clear him
 have hinsH := Lib.hid hins
 clear hins
 go_enter Tryz.func204, Tryz.ntmps204
 go_wp2_with fail
 go_loopw [7, 8] (fun va vb wr => St1 C D b off n w va vb wr) (fun _ vb _ => (n + 21) - (intOf vb).toNat)
 case atStart => exact hstartH.out
 case round =>
  clear hstartH
  obtain ⟨Bs, T, a, e, hB, hBl, hae, rfl, rfl, hcl, hrw, hs⟩ := hrel
  have hl := hrw.sl.1
  rw [List.length_append] at hl
  by_cases hen : e ≤ n
  ·have heni : (e : Int) ≤ (n : Int) := by omega
   have lM : (T.take 20).length = 20 := by rw [List.length_take]; omega
   have hcall := hinsH.out Bs.flatten (T.take 20) (T.drop 20) a e wr hBl (by omega) (by rw [List.append_assoc, List.take_append_drop]; exact hrw)
   have hae1 : a < e := by omega
   have hBH := Lib.hid hB
   clear hB
   have hBlH := Lib.hid hBl
   clear hBl
   have haeH := Lib.hid hae
   clear hae
   have hclH := Lib.hid hcl
   clear hcl
   have hrwH := Lib.hid hrw
   clear hrw
   have hsH := Lib.hid hs
   clear hs
   have hlH := Lib.hid hl
   clear hl
   have lMH := Lib.hid lM
   clear lM
   have hcallH := Lib.hid hcall
   clear hcall
   go_wp2_with fail
   refine hcallH.out.mono ?_
   rintro e' w2 ⟨rfl, M', q1, c1, hrw2, hs2⟩
   have R1 : St1 C D b off n w (.int .i64 (e : Int)) (.int .i64 ((e : Int) + 20)) w2 := by
    have lM' : M'.length = 20 := c1.len.trans lMH.out
    refine ⟨Bs ++ [M'], T.drop 20, e, e + 20, hBH.out.app lM' q1, ?_, rfl, rfl, by go_num, ?_, by rw [flat_app]; exact hrw2, hsH.out.trans hs2⟩
    ·rw [flat_app, List.length_append]; have := hBlH.out; have := haeH.out; omega
    ·rw [flat_app]
     refine SameCls.trans ?_ hclH.out
     rw [List.append_assoc]
     refine (SameCls.refl _).app ?_
     have := c1.app (SameCls.refl (f := fI C) (T.drop 20))
     rwa [List.take_append_drop] at this
   clear q1 c1 hrw2 hs2
   have R1H := Lib.hid R1
   clear R1
   go_wp2
   refine ⟨?rel, ?measure⟩
   case measure => (simp [intOf]; omega)
   case rel => first | exact R1H.out | exact ⟨rfl, R1H.out⟩ | ((try refine ⟨rfl, ?_⟩); (repeat apply Exists.intro); refine ⟨R1H.out, ?_⟩; ((repeat' apply And.intro) <;> rfl))
  ·have heni : ¬ (e : Int) ≤ (n : Int) := by omega
   have hcall := hinsH.out Bs.flatten T [] a n wr hBl (by omega) (by rw [List.append_nil]; exact hrw)
   have lT : T.length < 20 := by omega
   have han : a ≤ n := by omega
   have hBH := Lib.hid hB
   clear hB
   have hBlH := Lib.hid hBl
   clear hBl
   have haeH := Lib.hid hae
   clear hae
   have hclH := Lib.hid hcl
   clear hcl
   have hrwH := Lib.hid hrw
   clear hrw
   have hsH := Lib.hid hs
   clear hs
   have hlH := Lib.hid hl
   clear hl
   have lTH := Lib.hid lT
   clear lT
   have hcallH := Lib.hid hcall
   clear hcall
   go_wp2_with fail
   refine hcallH.out.mono ?_
   rintro e' w2 ⟨rfl, T', q1, c1, hrw2, hs2⟩
   have hst : St2 C D b off n w (.int .i64 20) w2 := by
    refine ⟨20, Bs, T', by omega, by omega, by go_num, hBH.out, by rw [c1.len]; exact lTH.out, q1, ?_, by rw [List.append_nil] at hrw2; exact hrw2, hsH.out.trans hs2⟩
    exact ((SameCls.refl _).app c1).trans hclH.out
   clear q1 c1 hrw2 hs2
   have hstH := Lib.hid hst
   clear hst
   go_wp2_with fail
   clear hcallH hrwH hsH hclH hlH lTH hBH hBlH haeH
   go_loopw [6] (fun vs wr => St2 C D b off n w vs wr) (fun vs _ => n - (intOf vs).toNat)
   case atStart => exact hstH.out
   case round =>
    clear hstH
    obtain ⟨bs, Bs, T, hb0, hbn, rfl, hB, hT, hsT, hcl, hrw, hs⟩ := hrel
    have hl := hrw.sl.1
    rw [List.length_append] at hl
    by_cases hlt : bs < n
    ·have hlti : (bs : Int) < (n : Int) := by omega
     obtain ⟨B2, hB2⟩ : ∃ B2, 2 * bs = B2 := ⟨_, rfl⟩
     have hB2i : 2 * (bs : Int) = (B2 : Int) := by omega
     have hB2b : B2 ≤ 2000000000 := by omega
     have hst : St3 C D bs b off n w (.int .i64 0) (.int .i64 (B2 : Int)) wr := ⟨[], Bs, T, 0, 2 * bs, fun x hx => (by cases hx), hB, hT, hsT, rfl, by omega, by go_num, by go_num, by simpa using hcl, by simpa using hrw, hs⟩
     have hBH := Lib.hid hB
     clear hB
     have hTH := Lib.hid hT
     clear hT
     have hsTH := Lib.hid hsT
     clear hsT
     have hclH := Lib.hid hcl
     clear hcl
     have hrwH := Lib.hid hrw
     clear hrw
     have hsH := Lib.hid hs
     clear hs
     have hlH := Lib.hid hl
     clear hl
     have hstH := Lib.hid hst
     clear hst
     have hB2H := Lib.hid hB2
     clear hB2
     go_wp2_with fail
     clear hBH hTH hsTH hclH hrwH hsH hlH
     go_loopw [7, 8] (fun va vb wr => St3 C D bs b off n w va vb wr) (fun _ vb _ => (n + 1) - (intOf vb).toNat)
     case atStart => exact hstH.out
     case round =>
      clear hstH
      obtain ⟨Ds, Bs, T, a, e, hD, hB, hT, hsT, hDl, hae, rfl, rfl, hcl, hrw, hs⟩ := hrel
      have hl := hrw.sl.1
      rw [List.append_assoc, List.length_append] at hl
      obtain ⟨m, hm⟩ : ∃ m, a + bs = m := ⟨_, rfl⟩
      have hmi : (a : Int) + (bs : Int) = (m : Int) := by omega
      have hem : e = m + bs := by omega
      by_cases hen : e ≤ n
      ·have heni : (e : Int) ≤ (n : Int) := by omega
       obtain ⟨x, y, Cs, rfl, lx, ly, sx, sy, hC⟩ := hB.two hT (by omega)
       have hcall := himH.out (e - a) Ds.flatten x y (Cs.flatten ++ T) a m e wr hDl (by omega) (by omega) (Nat.le_refl _) (by omega) (by omega) sx sy (by simpa using hrw)
       have heb : e ≤ 1000000000 := by omega
       have hmb : m ≤ 1000000000 := by omega
       have R0 : ∀ M', SortedBy (fI C) M' → SameCls (fI C) M' (x ++ y) → ∀ w2, RowI C w2 b off n (Ds.flatten ++ M' ++ (Cs.flatten ++ T)) → Srt b wr w2 → St3 C D bs b off n w (.int .i64 (e : Int)) (.int .i64 ((e : Int) + (B2 : Int))) w2 := fun M' q1 c1 w2 h1 h2 => by
        have hB2 := hB2H.out
        have lM' : M'.length = 2 * bs := by rw [c1.len, List.length_append]; omega
        refine ⟨Ds ++ [M'], Cs, T, e, e + 2 * bs, hD.app lM' q1, hC, hT, hsT, ?_, rfl, rfl, by go_num, ?_, by rw [flat_app]; simpa using h1, hs.trans h2⟩
        ·rw [flat_app, List.length_append]; omega
        ·rw [flat_app]
         refine SameCls.trans ?_ hcl
         have := ((SameCls.refl (f := fI C) Ds.flatten).app c1).app (SameCls.refl (f := fI C) (Cs.flatten ++ T))
         simpa using this
       have hDH := Lib.hid hD
       clear hD
       have hTH := Lib.hid hT
       clear hT
       have hsTH := Lib.hid hsT
       clear hsT
       have hDlH := Lib.hid hDl
       clear hDl
       have haeH := Lib.hid hae
       clear hae
       have hclH := Lib.hid hcl
       clear hcl
       have hrwH := Lib.hid hrw
       clear hrw
       have hsH := Lib.hid hs
       clear hs
       have hlH := Lib.hid hl
       clear hl
       have lxH := Lib.hid lx
       clear lx
       have lyH := Lib.hid ly
       clear ly
       have sxH := Lib.hid sx
       clear sx
       have syH := Lib.hid sy
       clear sy
       have hCH := Lib.hid hC
       clear hC
       have hcallH := Lib.hid hcall
       clear hcall
       have R0H := Lib.hid R0
       clear R0
       have hmH := Lib.hid hm
       clear hm
       have hemH := Lib.hid hem
       clear hem
       go_wp2_with fail
       refine hcallH.out.mono ?_
       rintro e' w2 ⟨rfl, M', q1, c1, hrw2, hs2⟩
       have R1 := R0H.out M' q1 c1 w2 hrw2 hs2
       clear q1 c1 hrw2 hs2
       have R1H := Lib.hid R1
       clear R1
       go_wp2
       refine ⟨?rel, ?measure⟩
       case measure => exact (by simp [intOf]; omega)
       case rel => first | exact R1H.out | exact ⟨rfl, R1H.out⟩ | ((try refine ⟨rfl, ?_⟩); (repeat apply Exists.intro); refine ⟨R1H.out, ?_⟩; ((repeat' apply And.intro) <;> rfl))
      ·have heni : ¬ (e : Int) ≤ (n : Int) := by omega
       have han : a ≤ n := by omega
       have hmb : m ≤ 4000000000 := by omega
       have hfew := hB.few (T := T) hb0 (by omega)
       by_cases hmn : m < n
       ·have hmni : (m : Int) < (n : Int) := by omega
        obtain ⟨x, rfl, lx, sx⟩ : ∃ x, Bs = [x] ∧ x.length = bs ∧ SortedBy (fI C) x := by
         rcases hfew with rfl | h
         ·simp only [List.flatten_nil, List.nil_append] at hl; omega
         ·exact h
        simp only [List.flatten_cons, List.flatten_nil, List.append_nil, List.length_append] at hl hrw hcl
        have hcall := himH.out (n - a) Ds.flatten x T [] a m n wr hDl (by omega) (by omega) (Nat.le_refl _) (by omega) (by omega) sx hsT (by rw [List.append_nil]; exact hrw)
        have R0 : ∀ M', SortedBy (fI C) M' → SameCls (fI C) M' (x ++ T) → ∀ w2, RowI C w2 b off n (Ds.flatten ++ M' ++ []) → Srt b wr w2 → St2 C D b off n w (.int .i64 ((bs : Int) * 2)) w2 := fun M' q1 c1 w2 h1 h2 => by
         refine ⟨2 * bs, Ds, M', by omega, by omega, by congr 1; omega, hD, by rw [c1.len, List.length_append]; omega, q1, ?_, by rw [List.append_nil] at h1; exact h1, hs.trans h2⟩
         refine SameCls.trans ?_ hcl
         rw [List.append_assoc]
         exact (SameCls.refl _).app c1
        clear hfew
        have hDH := Lib.hid hD
        clear hD
        have hBH := Lib.hid hB
        clear hB
        have hTH := Lib.hid hT
        clear hT
        have hsTH := Lib.hid hsT
        clear hsT
        have hDlH := Lib.hid hDl
        clear hDl
        have haeH := Lib.hid hae
        clear hae
        have hclH := Lib.hid hcl
        clear hcl
        have hrwH := Lib.hid hrw
        clear hrw
        have hsH := Lib.hid hs
        clear hs
        have hlH := Lib.hid hl
        clear hl
        have lxH := Lib.hid lx
        clear lx
        have sxH := Lib.hid sx
        clear sx
        have hcallH := Lib.hid hcall
        clear hcall
        have R0H := Lib.hid R0
        clear R0
        have hmH := Lib.hid hm
        clear hm
        have hemH := Lib.hid hem
        clear hem
        go_wp2_with fail
        refine hcallH.out.mono ?_
        rintro e' w2 ⟨rfl, M', q1, c1, hrw2, hs2⟩
        have R1 := R0H.out M' q1 c1 w2 hrw2 hs2
        clear q1 c1 hrw2 hs2
        have R1H := Lib.hid R1
        clear R1
        go_wp2
        refine ⟨?rel, ?measure⟩
        case measure => exact (by simp [intOf]; omega)
        case rel => first | exact R1H.out | exact ⟨rfl, R1H.out⟩ | ((try refine ⟨rfl, ?_⟩); (repeat apply Exists.intro); refine ⟨R1H.out, ?_⟩; ((repeat' apply And.intro) <;> rfl))
       ·have hmni : ¬ (m : Int) < (n : Int) := by omega
        have R1 : St2 C D b off n w (.int .i64 ((bs : Int) * 2)) wr := by
         rcases hfew with rfl | ⟨x, rfl, lx, sx⟩
         ·exact ⟨2 * bs, Ds, T, by omega, by omega, by congr 1; omega, hD, by omega, hsT, by simpa using hcl, by simpa using hrw, hs⟩
         ·simp only [List.flatten_cons, List.flatten_nil, List.append_nil, List.length_append] at hl hrw hcl
          obtain rfl : T = [] := List.eq_nil_of_length_eq_zero (by omega)
          exact ⟨2 * bs, Ds, x, by omega, by omega, by congr 1; omega, hD, by omega, sx, by simpa using hcl, by simpa using hrw, hs⟩
        clear hfew
        have hDH := Lib.hid hD
        clear hD
        have hBH := Lib.hid hB
        clear hB
        have hTH := Lib.hid hT
        clear hT
        have hsTH := Lib.hid hsT
        clear hsT
        have hDlH := Lib.hid hDl
        clear hDl
        have haeH := Lib.hid hae
        clear hae
        have hclH := Lib.hid hcl
        clear hcl
        have hrwH := Lib.hid hrw
        clear hrw
        have hsH := Lib.hid hs
        clear hs
        have hlH := Lib.hid hl
        clear hl
        have R1H := Lib.hid R1
        clear R1
        have hmH := Lib.hid hm
        clear hm
        have hemH := Lib.hid hem
        clear hem
        go_wp2
        refine ⟨?rel, ?measure⟩
        case measure => exact (by simp [intOf]; omega)
        case rel => first | exact R1H.out | exact ⟨rfl, R1H.out⟩ | ((try refine ⟨rfl, ?_⟩); (repeat apply Exists.intro); refine ⟨R1H.out, ?_⟩; ((repeat' apply And.intro) <;> rfl))
    ·have hlti : ¬ (bs : Int) < (n : Int) := by omega
     have hfin : ∃ M, SortedBy (fI C) M ∧ SameCls (fI C) M D ∧ RowI C wr b off n M := by
      rcases hB.few (T := T) hb0 (by rw [List.length_append]; omega) with rfl | ⟨x, rfl, lx, sx⟩
      ·exact ⟨T, hsT, by simpa using hcl, by simpa using hrw⟩
      ·simp only [List.flatten_cons, List.flatten_nil, List.append_nil] at hl hrw hcl
       obtain rfl : T = [] := List.eq_nil_of_length_eq_zero (by omega)
       exact ⟨x, sx, by simpa using hcl, by simpa using hrw⟩
     have hBH := Lib.hid hB
     clear hB
     have hTH := Lib.hid hT
     clear hT
     have hsTH := Lib.hid hsT
     clear hsT
     have hclH := Lib.hid hcl
     clear hcl
     have hrwH := Lib.hid hrw
     clear hrw
     have hsH := Lib.hid hs
     clear hs
     have hlH := Lib.hid hl
     clear hl
     have hfinH := Lib.hid hfin
     clear hfin
     go_wp2
     go_end0
     obtain ⟨M, q1, q2, q3⟩ := hfinH.out
     exact ⟨rfl, M, q1, q2, q3, hsH.out⟩
set_option maxRecDepth 100000 in
theorem stable_any (C : CC) (b off n cap : Nat) (D : List Int) (w : World) (hn : n ≤ 1000000000) (hrow : RowI C w b off n D) :
  Calls Tryz.prog 158 #[.slice (some ⟨b, off, none⟩) n cap, (gI C)] w fun e w' => e = .returned (.tuple #[]) ∧ ∃ M, SortedBy (fI C) M ∧ SameCls (fI C) M D ∧ RowI C w' b off n M ∧ Srt b w w' := by
 have h := stable_cmp C b off n cap D w hn hrow
 unfold gI at h
 unfold gI
 have hH := Lib.hid h
 clear h
 go_enter Tryz.func158, Tryz.ntmps158
 go_wp2_with fail
 refine hH.out.mono ?_
 rintro e w1 ⟨rfl, h1⟩
 have hf := h1
 clear h1
 have hfH := Lib.hid hf
 clear hf
 go_wp2
 go_end0
 exact ⟨rfl, hfH.out⟩
end Go.Proofs.YtbnkoefljcekbaaGreatDoor.C9

namespace Go.Proofs.YtbnkoefljcekbaaGreatDoor.C9
open Go.ChangeShapes Go.WideShapes Go.Deep Go.RowKit
set_option linter.unusedVariables false
set_option linter.unusedSimpArgs false

set_option maxRecDepth 100000 in
theorem ins_nil (C : CC) (w : World) : Calls Tryz.prog 222 #[.slice none 0 0, .int .i64 0, .int .i64 0, (gI C)] w fun e w' => e = .returned (.tuple #[]) ∧ w' = w := by
 unfold gI
 go_enter Tryz.func222, Tryz.ntmps222
 go_wp2
 go_loopw [8] (fun i wr => i = .int .i64 1 ∧ wr = w) (fun i _ => 0)
 case atStart => exact ⟨rfl, rfl⟩
 case round =>
  obtain ⟨rfl, rfl⟩ := hrel
  go_wp2
  go_end0
  exact ⟨rfl, rfl⟩
set_option maxRecDepth 100000 in
theorem stcmp_nil (C : CC) (w : World) : Calls Tryz.prog 204 #[.slice none 0 0, .int .i64 0, (gI C)] w fun e w' => e = .returned (.tuple #[]) ∧ w' = w := by
 have hi := fun w => ins_nil C w
 unfold gI at hi
 unfold gI
 have hiH := Lib.hid hi
 clear hi
 go_enter Tryz.func204, Tryz.ntmps204
 go_wp2
 go_loopw [7, 8] (fun va vb wr => va = .int .i64 0 ∧ vb = .int .i64 20 ∧ wr = w) (fun _ vb _ => 0)
 case atStart => exact ⟨rfl, rfl, rfl⟩
 case round =>
  obtain ⟨rfl, rfl, rfl⟩ := hrel
  go_wp2_with fail
  refine (hiH.out _).mono ?_
  rintro e w2 ⟨rfl, rfl⟩
  go_wp2
  go_loopw [6] (fun vs wr => vs = .int .i64 20 ∧ wr = w2) (fun vs _ => 0)
  case atStart => exact ⟨rfl, rfl⟩
  case round =>
   obtain ⟨rfl, rfl⟩ := hrel
   go_wp2
   go_end0
   exact ⟨rfl, rfl⟩
set_option maxRecDepth 100000 in
theorem stable_nil (C : CC) (w : World) : Calls Tryz.prog 158 #[.slice none 0 0, (gI C)] w fun e w' => e = .returned (.tuple #[]) ∧ w' = w := by
 have hi := fun w => stcmp_nil C w
 unfold gI at hi
 unfold gI
 have hiH := Lib.hid hi
 clear hi
 go_enter Tryz.func158, Tryz.ntmps158
 go_wp2_with fail
 refine (hiH.out _).mono ?_
 rintro e w1 ⟨rfl, rfl⟩
 go_wp2
 go_end0
 exact ⟨rfl, rfl⟩
end Go.Proofs.YtbnkoefljcekbaaGreatDoor.C9

namespace Go.Proofs.YtbnkoefljcekbaaGreatDoor.C9
open Go.ChangeShapes Go.WideShapes Go.Deep Go.RowKit
set_option linter.unusedVariables false
set_option linter.unusedSimpArgs false

/-- what is asked of the predicate on numbers -/
def PredN (g : Nat) (lb : Array Value) (p : Nat → Bool) (N : Nat) (w : World) : Prop :=
 ∀ (W : World) (k : Nat), k < N → Below w.heap.size w W → Calls Tryz.prog g (#[.int .i64 k] ++ lb) W fun e w' => e = .returned (.bool (p k)) ∧ Below W.heap.size W w'
def upN (p : Nat → Bool) (k : Nat) : List Nat := (List.range k).filter p
theorem upN_succ (p : Nat → Bool) (k : Nat) : upN p (k + 1) = if p k = true then upN p k ++ [k] else upN p k := by
 unfold upN
 rw [List.range_succ, List.filter_append]
 by_cases h : p k = true
 ·simp [h]
 ·simp [h]
theorem upN_len (p : Nat → Bool) (k : Nat) : (upN p k).length ≤ k := by
 have := List.length_filter_le p (List.range k)
 rw [List.length_range] at this
 exact this
def CrBox (S : List Int) (CB N : Nat) (w : World) : CC := ⟨S, w.heap.size, CB, N⟩
def FsR (p : Nat → Bool) (S : List Int) (CB N : Nat) (w : World) (v i : Value) (wr : World) : Prop :=
 ∃ (k : Nat) (A' : Option Addr) (n' c' : Nat), k ≤ N ∧ i = .int .i64 k ∧ v = .slice A' n' c' ∧ Own RInt 3 wr (w.heap.size + 1) v (nz (upN p k)) ∧ Below w.heap.size w wr ∧ CrAt (CrBox S CB N w) wr ∧ w.heap.size + 1 ≤ wr.heap.size
end Go.Proofs.YtbnkoefljcekbaaGreatDoor.C9
