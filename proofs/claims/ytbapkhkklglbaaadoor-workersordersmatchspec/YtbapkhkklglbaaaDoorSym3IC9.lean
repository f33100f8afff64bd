/-
  symMerge of slices' stable sort, whole.
-/
import Derived.Test.YtbapkhkklglbaaaDoorSymIC9
namespace Go.Proofs.YtbapkhkklglbaaaDoor.C9
open Go.ChangeShapes Go.WideShapes Go.Deep Go.RowKit
set_option linter.unusedVariables false

def MgHyp (C : CC) (b off n cap k : Nat) : Prop := ∀ (P L R S : List Int) (a m e : Nat) (w : World), P.length = a → m = a + L.length → e = m + R.length → e - a ≤ k → 1 ≤ L.length → 1 ≤ R.length → SortedBy (fI C) L → SortedBy (fI C) R → RowI C w b off n (P ++ L ++ R ++ S) →
  Calls Tryd.prog 58 #[.slice (some ⟨b, off, none⟩) n cap, .int .i64 a, .int .i64 m, .int .i64 e, (gI C)] w (MgAns C P (L ++ R) S b off n w)
def B3Rel (C : CC) (D L R : List Int) (a mid s0 r0 b off n : Nat) (w0 : World) (vs vr : Value) (wr : World) : Prop :=
  ∃ st r : Nat, s0 ≤ st ∧ st ≤ r ∧ r ≤ r0 ∧ vs = .int .i64 (st : Int) ∧ vr = .int .i64 (r : Int) ∧ (s0 < st → ∀ x y, L[st - 1 - a]? = some x → R[mid - st]? = some y → (fI C) x ≤ (fI C) y) ∧ (r < r0 → ∀ x y, L[r - a]? = some x → R[mid - 1 - r]? = some y → (fI C) y < (fI C) x) ∧ RowI C wr b off n D ∧ Srt b w0 wr
theorem sorted_parts (C : CC) {L R : List Int} {i j : Nat} (hL : SortedBy (fI C) L) (hR : SortedBy (fI C) R) (hj : j ≤ R.length) (hi : i ≤ L.length)
    (h1 : 0 < i → ∀ x y, L[i - 1]? = some x → R[j]? = some y → (fI C) x ≤ (fI C) y) (h2 : 0 < j → ∀ x y, L[i]? = some x → R[j - 1]? = some y → (fI C) y < (fI C) x) {M1 M2 : List Int}
    (m1 : SortedBy (fI C) M1) (m2 : SortedBy (fI C) M2) (s1 : SameCls (fI C) M1 (L.take i ++ R.take j)) (s2 : SameCls (fI C) M2 (L.drop i ++ R.drop j)) : SortedBy (fI C) (M1 ++ M2) ∧ SameCls (fI C) (M1 ++ M2) (L ++ R) := by
  have := sym_step (f := fI C) (A := L.take i) (X := L.drop i) (Y := R.take j) (B := R.drop j) (M1 := M1) (M2 := M2) (by rw [List.take_append_drop]; exact hL) (by rw [List.take_append_drop]; exact hR)
    (fun x hx y hy => by
      rw [getLast_take hi] at hx
      rw [head_drop] at hy
      split at hx
      · cases hx
      · exact h1 (by omega) x y hx hy)
    (fun x hx y hy => by
      rw [head_drop] at hx
      rw [getLast_take hj] at hy
      split at hy
      · cases hy
      · exact h2 (by omega) x y hx hy) m1 m2 s1 s2
  rw [List.take_append_drop, List.take_append_drop] at this
  exact this
set_option maxRecDepth 100000 in
set_option maxHeartbeats 32000000 in
theorem merge3 (C : CC) (b off n cap k : Nat) (ih : MgHyp C b off n cap k) (P L R S : List Int) (a m e : Nat) (w : World) (hP : P.length = a) (hm : m = a + L.length) (he : e = m + R.length) (hk : e - a ≤ k + 1) (hl1 : 2 ≤ L.length) (hl2 : 2 ≤ R.length) (hn : n ≤ 1000000000) (hsL : SortedBy (fI C) L) (hsR : SortedBy (fI C) R) (hrow : RowI C w b off n (P ++ L ++ R ++ S)) :
    Calls Tryd.prog 58 #[.slice (some ⟨b, off, none⟩) n cap, .int .i64 a, .int .i64 m, .int .i64 e, (gI C)] w (MgAns C P (L ++ R) S b off n w) := by
  have hlen := hrow.sl.1
  simp only [List.length_append] at hlen
  have hen : e ≤ n := by omega
  have hme : m + 2 ≤ e := by omega
  have ham : a + 2 ≤ m := by omega
  have hma : ¬ (m : Int) - (a : Int) = 1 := by omega
  have hma2 : ((m : Int) - (a : Int) == 1) = false := by simpa using hma
  have hem : ¬ (e : Int) - (m : Int) = 1 := by omega
  have hem2 : ((e : Int) - (m : Int) == 1) = false := by simpa using hem
  obtain ⟨mid, hmid⟩ : ∃ mid, (a + e) / 2 = mid := ⟨_, rfl⟩
  have hmidi : ((a : Int) + (e : Int)) / 2 = (mid : Int) := by omega
  have hmid1 : a < mid := by omega
  have hmid2 : mid < e := by omega
  unfold MgHyp at ih
  unfold gI at ih
  unfold gI
  by_cases hmm : mid < m
  · obtain ⟨s0, hs0⟩ : ∃ s0, mid + m - e = s0 := ⟨_, rfl⟩
    have hs0i : (mid : Int) + (m : Int) - (e : Int) = (s0 : Int) := by omega
    obtain ⟨r0, hr0⟩ : ∃ r0, mid = r0 := ⟨_, rfl⟩
    have hsr : s0 ≤ r0 := by omega
    have hgeo : a ≤ s0 ∧ r0 ≤ mid ∧ r0 ≤ m ∧ mid - s0 ≤ e - m ∧ (s0 = a ∨ mid - s0 = e - m) ∧ (r0 = m ∨ r0 = mid) := ⟨by omega, by omega, by omega, by omega, .inr (by omega), .inr hr0.symm⟩
    have hrowH := Lib.hid hrow
    clear hrow
    have hlenH := Lib.hid hlen
    clear hlen
    have hPH := Lib.hid hP
    clear hP
    have heH := Lib.hid he
    clear he
    have hsLH := Lib.hid hsL
    clear hsL
    have hsRH := Lib.hid hsR
    clear hsR
    have hmH := Lib.hid hm
    clear hm
    have hgeoH := Lib.hid hgeo
    clear hgeo
    have hsrH := Lib.hid hsr
    clear hsr
    have ihH := Lib.hid ih
    clear ih
    have hl1H := Lib.hid hl1
    clear hl1
    have hl2H := Lib.hid hl2
    clear hl2
    have hs0H := Lib.hid hs0
    clear hs0
    have hr0H := Lib.hid hr0
    clear hr0
    have hmidH := Lib.hid hmid
    clear hmid
    go_enter Tryd.func58, Tryd.ntmps58
    go_wp2_with fail
    go_loopw [20, 21] (fun vs vr wr => B3Rel C (P ++ L ++ R ++ S) L R a mid s0 r0 b off n w vs vr wr) (fun vs vr _ => (intOf vr).toNat - (intOf vs).toNat)
    case atStart => exact ⟨s0, r0, Nat.le_refl _, hsrH.out, Nat.le_refl _, rfl, (by rw [hr0H.out]), fun h => by omega, fun h => by omega, hrowH.out, World.grownBy.refl _ _⟩
    case round =>
      obtain ⟨st, r, hst0, hstr, hrr0, rfl, rfl, hgood, hbad, hrw, hs⟩ := hrel
      obtain ⟨g1, g2, g3, g4, g5, g6⟩ := hgeoH.out
      have hrm : r ≤ m := by omega
      have hrmid : r ≤ mid := by omega
      have hast : a ≤ st := by omega
      by_cases hlt : st < r
      · obtain ⟨H, hH⟩ : ∃ H, (st + r) / 2 = H := ⟨_, rfl⟩
        have hHi : ((st : Int) + (r : Int)) / 2 = (H : Int) := by omega
        have hHI : st ≤ H := by omega
        have hHJ : H < r := by omega
        obtain ⟨Z, hZ⟩ : ∃ Z, mid + m - 1 - H = Z := ⟨_, rfl⟩
        have hZi : (mid : Int) + (m : Int) - 1 - (H : Int) = (Z : Int) := by omega
        have hm := hmH.out
        have he := heH.out
        obtain ⟨x, hx⟩ : ∃ x, L[H - a]? = some x := ⟨L[H - a]'(by omega), List.getElem?_eq_getElem _⟩
        obtain ⟨y, hy⟩ : ∃ y, R[mid - 1 - H]? = some y := ⟨R[mid - 1 - H]'(by omega), List.getElem?_eq_getElem _⟩
        have hgx := get_at (P := P) (S := R ++ S) (i := a) hPH.out hx
        rw [← List.append_assoc, show a + (H - a) = H by omega] at hgx
        have hgy := get_at (P := P ++ L) (S := S) (i := m) (by rw [List.length_append]; have := hPH.out; omega) hy
        rw [show m + (mid - 1 - H) = Z by omega] at hgy
        have v0 := hrw.at_ hgx
        have u0 := hrw.at_ hgy
        obtain ⟨v, hv⟩ : ∃ v, Lib.compareInt (vC C x) (vC C y) = v := ⟨_, rfl⟩
        have hvl : v < 0 ↔ (vC C x) < (vC C y) := by rw [← hv]; exact cmpI_lt
        have k0 : (0 : Int) ≤ (H : Int) := by omega
        have k1 : (H : Int) < (n : Int) := by omega
        have k2 : (0 : Int) ≤ (Z : Int) := by omega
        have k3 : (Z : Int) < (n : Int) := by omega
        have hwZ : IntKind.i64.wrap (Z : Int) = (Z : Int) := by rw [IntKind.wrap_i64]; omega
        clear hm he
        have hgoodH := Lib.hid hgood
        clear hgood
        have hbadH := Lib.hid hbad
        clear hbad
        have hrwH := Lib.hid hrw
        clear hrw
        have hsH := Lib.hid hs
        clear hs
        have hxH := Lib.hid hx
        clear hx
        have hyH := Lib.hid hy
        clear hy
        have hgyH := Lib.hid hgy
        clear hgy
        have hgxH := Lib.hid hgx
        clear hgx
        have hvH := Lib.hid hv
        clear hv
        have hvlH := Lib.hid hvl
        clear hvl
        have hHH := Lib.hid hH
        clear hH
        have hZH := Lib.hid hZ
        clear hZ
        have g1H := Lib.hid g1
        clear g1
        have g2H := Lib.hid g2
        clear g2
        have g3H := Lib.hid g3
        clear g3
        have g4H := Lib.hid g4
        clear g4
        have g5H := Lib.hid g5
        clear g5
        have g6H := Lib.hid g6
        clear g6
        go_wp2_with fail
        refine wp_region_held_drew (S := (fun w' => w'.cell? ⟨b, off + Z, none⟩ = some (.int .i64 y) ∧ w'.cell? ⟨b, off + H, none⟩ = some (.int .i64 x))) (by kernel_rfl) ⟨u0, v0⟩ (fun hHeld => ?_)
        clear u0 v0
        refine takeH (i := 0) (d := some 158) (v := ?_) rfl rfl (by kernel_rfl) (by kernel_rfl) (by kernel_rfl) (fun _ _ _ h => h) (Or.inl ⟨by rfl, ?_⟩) (by assumption) ?_
        rotate_left
        · (intro w hSw; (try dsimp only at hSw); go_simp; (try with_reducible rfl))
        (try simp only [Act.put, List.setIfInBounds_toArray, List.set_cons_zero, List.set_cons_succ])
        refine takeH (i := 1) (d := some 159) (v := ?_) rfl rfl (by kernel_rfl) (by kernel_rfl) (by kernel_rfl) (fun _ _ _ h => h) (Or.inl ⟨by rfl, ?_⟩) (by assumption) ?_
        rotate_left
        · (intro w hSw; (try dsimp only at hSw); go_simp; (try with_reducible rfl))
        (try simp only [Act.put, List.setIfInBounds_toArray, List.set_cons_zero, List.set_cons_succ])
        refine takeH (i := 2) (d := some 160) (v := ?_) rfl rfl (by kernel_rfl) (by kernel_rfl) (by kernel_rfl) (fun _ _ _ h => h) (Or.inl ⟨by rfl, ?_⟩) (by assumption) ?_
        rotate_left
        · (intro w hSw; (try dsimp only at hSw); go_simp; (try with_reducible rfl))
        (try simp only [Act.put, List.setIfInBounds_toArray, List.set_cons_zero, List.set_cons_succ])
        refine takeH (i := 3) (d := some 161) (v := ?_) rfl rfl (by kernel_rfl) (by kernel_rfl) (by kernel_rfl) (fun _ _ _ h => h) (Or.inl ⟨by rfl, ?_⟩) (by assumption) ?_
        rotate_left
        · (intro w hSw; (try dsimp only at hSw); go_simp; (try with_reducible rfl))
        (try simp only [Act.put, List.setIfInBounds_toArray, List.set_cons_zero, List.set_cons_succ])
        refine takeH (i := 4) (d := some 162) (v := ?_) rfl rfl (by kernel_rfl) (by kernel_rfl) (by kernel_rfl) (fun _ _ _ h => h) (Or.inl ⟨by rfl, ?_⟩) (by assumption) ?_
        rotate_left
        · (intro w hSw; (try dsimp only at hSw); go_simp; (try with_reducible rfl))
        (try simp only [Act.put, List.setIfInBounds_toArray, List.set_cons_zero, List.set_cons_succ])
        refine takeH (i := 5) (d := some 163) (v := ?_) rfl rfl (by kernel_rfl) (by kernel_rfl) (by kernel_rfl) (fun _ _ _ h => h) (Or.inl ⟨by rfl, ?_⟩) (by assumption) ?_
        rotate_left
        · (intro w hSw; (try dsimp only at hSw); go_simp; (try with_reducible rfl))
        (try simp only [Act.put, List.setIfInBounds_toArray, List.set_cons_zero, List.set_cons_succ])
        refine takeH (i := 6) (d := some 164) (v := ?_) rfl rfl (by kernel_rfl) (by kernel_rfl) (by kernel_rfl) (fun _ _ _ h => h) (Or.inl ⟨by rfl, ?_⟩) (by assumption) ?_
        rotate_left
        · (intro w hSw; (try dsimp only at hSw); go_simp; (try with_reducible rfl))
        (try simp only [Act.put, List.setIfInBounds_toArray, List.set_cons_zero, List.set_cons_succ])
        refine takeH (i := 7) (d := some 165) (v := ?_) rfl rfl (by kernel_rfl) (by kernel_rfl) (by kernel_rfl) (fun _ _ _ h => h) (Or.inl ⟨by rfl, ?_⟩) (by assumption) ?_
        rotate_left
        · (intro w hSw; (try dsimp only at hSw); go_simp; (try with_reducible rfl))
        (try simp only [Act.put, List.setIfInBounds_toArray, List.set_cons_zero, List.set_cons_succ])
        refine takeH (i := 8) (d := some 166) (v := ?_) rfl rfl (by kernel_rfl) (by kernel_rfl) (by kernel_rfl) (fun _ _ _ h => h) (Or.inl ⟨by rfl, ?_⟩) (by assumption) ?_
        rotate_left
        · (intro w hSw; (try dsimp only at hSw); go_simp; (try with_reducible rfl))
        (try simp only [Act.put, List.setIfInBounds_toArray, List.set_cons_zero, List.set_cons_succ])
        refine takeH (i := 9) (d := some 167) (v := ?_) rfl rfl (by kernel_rfl) (by kernel_rfl) (by kernel_rfl) (fun _ _ _ h => h) (Or.inl ⟨by rfl, ?_⟩) (by assumption) ?_
        rotate_left
        · (intro w hSw; (try dsimp only at hSw); go_simp; (try with_reducible rfl))
        (try simp only [Act.put, List.setIfInBounds_toArray, List.set_cons_zero, List.set_cons_succ])
        refine takeH (i := 10) (d := some 168) (v := ?_) rfl rfl (by kernel_rfl) (by kernel_rfl) (by kernel_rfl) (fun _ _ _ h => h) (Or.inl ⟨by rfl, ?_⟩) (by assumption) ?_
        rotate_left
        · (intro w hSw; (try dsimp only at hSw); go_simp; (try with_reducible rfl))
        (try simp only [Act.put, List.setIfInBounds_toArray, List.set_cons_zero, List.set_cons_succ])
        refine wpAnyH_ready (rs := [11]) (by kernel_rfl) (by simp) ?_
        refine AllReadyH.cons (i := 11) rfl (fun K hK => ?_) AllReadyH.nil
        go_simp
        go_at_call 32
        refine (cmp_any C y x _ v (hrwH.out.cr.below (Below.refl _ _).drew) (hrwH.out.in_ hgyH.out) (hrwH.out.in_ hgxH.out) hvH.out).mono ?_
        rintro e' w2 ⟨rfl, hb2⟩
        have hb2a : Below wr.heap.size wr w2 := by first | exact hb2 | exact (Below.refl _ _).drew.trans hb2
        replace hHeld := keep2i hb2 hHeld
        have hrw3 := hrwH.out.below hb2a
        have hs3 := hsH.out.trans (Srt.of_below hb2a)
        clear hb2 hb2a
        have hrw3H := Lib.hid hrw3
        clear hrw3
        have hs3H := Lib.hid hs3
        clear hs3
        refine hK.out _ _ hHeld (fun hHeld => ?_)
        clear hK K
        (try simp only [Act.put, List.setIfInBounds_toArray, List.set_cons_zero, List.set_cons_succ])
        clear hHeld
        refine takeH (i := 12) (d := some 170) (v := ?_) rfl rfl (by kernel_rfl) (by kernel_rfl) (by kernel_rfl) (fun _ _ _ h => h) (Or.inl ⟨by rfl, ?_⟩) (by assumption) ?_
        rotate_left
        · (intro w hSw; (try dsimp only at hSw); go_simp; (try with_reducible rfl))
        (try simp only [Act.put, List.setIfInBounds_toArray, List.set_cons_zero, List.set_cons_succ])
        refine takeH (i := 13) (d := some 171) (v := ?_) rfl rfl (by kernel_rfl) (by kernel_rfl) (by kernel_rfl) (fun _ _ _ h => h) (Or.inl ⟨by rfl, ?_⟩) (by assumption) ?_
        rotate_left
        · (intro w hSw; (try dsimp only at hSw); go_simp; (try with_reducible rfl))
        (try simp only [Act.put, List.setIfInBounds_toArray, List.set_cons_zero, List.set_cons_succ])
        refine wpAnyH_done (by kernel_rfl) ?_ _
        by_cases hc : v < 0
        · have R1 : B3Rel C (P ++ L ++ R ++ S) L R a mid s0 r0 b off n w (.int .i64 (st : Int)) (.int .i64 (H : Int)) w2 := by
            refine ⟨st, H, hst0, hHI, by omega, rfl, rfl, hgoodH.out, fun _ x' y' hx' hy' => ?_, hrw3H.out, hs3H.out⟩
            rw [hxH.out] at hx'
            rw [hyH.out] at hy'
            injection hx' with hx'
            injection hy' with hy'
            subst hx'
            subst hy'
            have := hvlH.out.1 hc
            unfold fI; omega
          rw [show (!decide (v < 0)) = false by simp [hc]]
          have R1H := Lib.hid R1
          clear R1
          go_wp2
          refine ⟨?rel, ?measure⟩
          case measure => (simp [intOf]; omega)
          case rel => first | exact R1H.out | exact ⟨rfl, R1H.out⟩ | ((try refine ⟨rfl, ?_⟩); (repeat apply Exists.intro); refine ⟨R1H.out, ?_⟩; ((repeat' apply And.intro) <;> rfl))
        · have R1 : B3Rel C (P ++ L ++ R ++ S) L R a mid s0 r0 b off n w (.int .i64 ((H : Int) + 1)) (.int .i64 (r : Int)) w2 := by
            refine ⟨H + 1, r, by omega, by omega, hrr0, by go_num, rfl, fun _ x' y' hx' hy' => ?_, hbadH.out, hrw3H.out, hs3H.out⟩
            rw [show H + 1 - 1 - a = H - a by omega, hxH.out] at hx'
            rw [show mid - (H + 1) = mid - 1 - H by omega, hyH.out] at hy'
            injection hx' with hx'
            injection hy' with hy'
            subst hx'
            subst hy'
            have : ¬ (vC C x) < (vC C y) := fun h => hc (hvlH.out.2 h)
            unfold fI; omega
          rw [show (!decide (v < 0)) = true by simp; omega]
          have R1H := Lib.hid R1
          clear R1
          go_wp2
          refine ⟨?rel, ?measure⟩
          case measure => (simp [intOf]; omega)
          case rel => first | exact R1H.out | exact ⟨rfl, R1H.out⟩ | ((try refine ⟨rfl, ?_⟩); (repeat apply Exists.intro); refine ⟨R1H.out, ?_⟩; ((repeat' apply And.intro) <;> rfl))
      · obtain rfl : st = r := by omega
        have hm := hmH.out
        have he := heH.out
        have hP := hPH.out
        obtain ⟨En, hEn⟩ : ∃ En, mid + m - st = En := ⟨_, rfl⟩
        have hEni : (mid : Int) + (m : Int) - (st : Int) = (En : Int) := by omega
        have hsym := fun M1 M2 => sorted_parts C (L := L) (R := R) (i := st - a) (j := mid - st) (M1 := M1) (M2 := M2) hsLH.out hsRH.out (by omega) (by omega)
          (fun h0 x y hx hy => by
            rcases g5 with e0 | e0
            · exact hgood (by omega) x y (by rw [show st - 1 - a = st - a - 1 by omega]; exact hx) hy
            · by_cases hss : s0 < st
              · exact hgood hss x y (by rw [show st - 1 - a = st - a - 1 by omega]; exact hx) hy
              · exfalso
                have := (List.getElem?_eq_some_iff.1 hy).1
                omega)
          (fun h0 x y hx hy => by
            by_cases hss : st < r0
            · exact hbad hss x y hx (by rw [show mid - 1 - st = mid - st - 1 by omega]; exact hy)
            · exfalso
              have := (List.getElem?_eq_some_iff.1 hx).1
              rcases g6 with e0 | e0 <;> omega)
        obtain ⟨A, hA⟩ : ∃ A, L.take (st - a) = A := ⟨_, rfl⟩
        obtain ⟨X, hX⟩ : ∃ X, L.drop (st - a) = X := ⟨_, rfl⟩
        obtain ⟨Y, hY⟩ : ∃ Y, R.take (mid - st) = Y := ⟨_, rfl⟩
        obtain ⟨B, hB⟩ : ∃ B, R.drop (mid - st) = B := ⟨_, rfl⟩
        have hAX : L = A ++ X := by rw [← hA, ← hX, List.take_append_drop]
        have hYB : R = Y ++ B := by rw [← hY, ← hB, List.take_append_drop]
        have lA : A.length = st - a := by rw [← hA, List.length_take]; omega
        have lX : X.length = m - st := by rw [← hX, List.length_drop]; omega
        have lY : Y.length = mid - st := by rw [← hY, List.length_take]; omega
        have lB : B.length = e - En := by rw [← hB, List.length_drop]; omega
        have hsA : SortedBy (fI C) A := by have := hsLH.out; rw [hAX] at this; exact sorted_left this
        have hsX : SortedBy (fI C) X := by have := hsLH.out; rw [hAX] at this; exact sorted_right this
        have hsY : SortedBy (fI C) Y := by have := hsRH.out; rw [hYB] at this; exact sorted_left this
        have hsB : SortedBy (fI C) B := by have := hsRH.out; rw [hYB] at this; exact sorted_right this
        rw [hA, hX, hY, hB] at hsym
        have hrwA : RowI C wr b off n (P ++ A ++ X ++ Y ++ (B ++ S)) := by rw [hAX, hYB] at hrw; simpa using hrw
        have hEe : En ≤ e := by omega
        have hEm : m ≤ En := by omega
        have hEl : En + st = mid + m := by omega
        have l1 := hl1H.out
        have l2 := hl2H.out
        clear hgood hbad hrw
        by_cases hX0 : X = []
        · have hsm : m ≤ st := by have := lX; rw [hX0, List.length_nil] at this; omega
          have t0 : ¬ (st : Int) < (m : Int) := by omega
          have t2 : (a : Int) < (st : Int) := by omega
          have t5 : ¬ (mid : Int) < (En : Int) := by omega
          by_cases hY0 : Y = []
          · have hm3 : mid ≤ st := by have := lY; rw [hY0, List.length_nil] at this; omega
            have t3 : ¬ (st : Int) < (mid : Int) := by omega
            have hfin := hsym (A ++ Y) (X ++ B) (by rw [hY0, List.append_nil]; exact hsA) (by rw [hX0]; exact hsB) (SameCls.refl _) (SameCls.refl _)
            have hrw9 : RowI C wr b off n (P ++ ((A ++ Y) ++ (X ++ B)) ++ S) := by rw [hX0, hY0] at hrwA ⊢; simpa using hrwA
            have hPH := Lib.hid hP
            clear hP
            have lAH := Lib.hid lA
            clear lA
            have lXH := Lib.hid lX
            clear lX
            have lYH := Lib.hid lY
            clear lY
            have lBH := Lib.hid lB
            clear lB
            have hsAH := Lib.hid hsA
            clear hsA
            have hsXH := Lib.hid hsX
            clear hsX
            have hsYH := Lib.hid hsY
            clear hsY
            have hsBH := Lib.hid hsB
            clear hsB
            have hrwAH := Lib.hid hrwA
            clear hrwA
            have hAXH := Lib.hid hAX
            clear hAX
            have hYBH := Lib.hid hYB
            clear hYB
            have hAH := Lib.hid hA
            clear hA
            have hXH := Lib.hid hX
            clear hX
            have hYH := Lib.hid hY
            clear hY
            have hBH := Lib.hid hB
            clear hB
            have hmH := Lib.hid hm
            clear hm
            have heH := Lib.hid he
            clear he
            have g1H := Lib.hid g1
            clear g1
            have g2H := Lib.hid g2
            clear g2
            have g3H := Lib.hid g3
            clear g3
            have g4H := Lib.hid g4
            clear g4
            have g5H := Lib.hid g5
            clear g5
            have g6H := Lib.hid g6
            clear g6
            have hEnH := Lib.hid hEn
            clear hEn
            have hElH := Lib.hid hEl
            clear hEl
            have hX0H := Lib.hid hX0
            clear hX0
            have hY0H := Lib.hid hY0
            clear hY0
            have hsymH := Lib.hid hsym
            clear hsym
            have hfinH := Lib.hid hfin
            clear hfin
            have hrw9H := Lib.hid hrw9
            clear hrw9
            have hsH := Lib.hid hs
            clear hs
            go_wp2
            all_goals (go_end0; exact ⟨rfl, _, hfinH.out.1, hfinH.out.2, hrw9H.out, hsH.out⟩)
          · have y1 : 1 ≤ Y.length := by cases Y with | nil => exact absurd rfl hY0 | cons z t => simp
            have t3 : (st : Int) < (mid : Int) := by omega
            have hcall := ihH.out P A Y (X ++ (B ++ S)) a st mid wr hP (by omega) (by omega) (by omega) (by omega) y1 hsA hsY (by rw [hX0] at hrwA ⊢; simpa using hrwA)
            have hPH := Lib.hid hP
            clear hP
            have lAH := Lib.hid lA
            clear lA
            have lXH := Lib.hid lX
            clear lX
            have lYH := Lib.hid lY
            clear lY
            have lBH := Lib.hid lB
            clear lB
            have hsAH := Lib.hid hsA
            clear hsA
            have hsXH := Lib.hid hsX
            clear hsX
            have hsYH := Lib.hid hsY
            clear hsY
            have hsBH := Lib.hid hsB
            clear hsB
            have hrwAH := Lib.hid hrwA
            clear hrwA
            have hAXH := Lib.hid hAX
            clear hAX
            have hYBH := Lib.hid hYB
            clear hYB
            have hAH := Lib.hid hA
            clear hA
            have hXH := Lib.hid hX
            clear hX
            have hYH := Lib.hid hY
            clear hY
            have hBH := Lib.hid hB
            clear hB
            have hmH := Lib.hid hm
            clear hm
            have heH := Lib.hid he
            clear he
            have g1H := Lib.hid g1
            clear g1
            have g2H := Lib.hid g2
            clear g2
            have g3H := Lib.hid g3
            clear g3
            have g4H := Lib.hid g4
            clear g4
            have g5H := Lib.hid g5
            clear g5
            have g6H := Lib.hid g6
            clear g6
            have hEnH := Lib.hid hEn
            clear hEn
            have hElH := Lib.hid hEl
            clear hEl
            have hX0H := Lib.hid hX0
            clear hX0
            have hY0H := Lib.hid hY0
            clear hY0
            have hsymH := Lib.hid hsym
            clear hsym
            have hsH := Lib.hid hs
            clear hs
            have hcallH := Lib.hid hcall
            clear hcall
            go_wp2_with fail
            refine hcallH.out.mono ?_
            rintro e' w3 ⟨rfl, M1, q1, c1, hrw8, hs8⟩
            have hfin := hsymH.out M1 (X ++ B) q1 (by rw [hX0H.out]; exact hsBH.out) c1 (SameCls.refl _)
            have hs9 := hsH.out.trans hs8
            clear q1 c1 hs8
            have hfinH := Lib.hid hfin
            clear hfin
            have hrw8H := Lib.hid hrw8
            clear hrw8
            have hs9H := Lib.hid hs9
            clear hs9
            go_wp2
            all_goals (go_end0; exact ⟨rfl, _, hfinH.out.1, hfinH.out.2, by simpa using hrw8H.out, hs9H.out⟩)
        · have x1 : 1 ≤ X.length := by cases X with | nil => exact absurd rfl hX0 | cons z t => simp
          have t0 : (st : Int) < (m : Int) := by omega
          have t5 : (mid : Int) < (En : Int) := by omega
          by_cases hY0 : Y = []
          · have hm3 : mid ≤ st := by have := lY; rw [hY0, List.length_nil] at this; omega
            have t1 : ¬ (m : Int) < (En : Int) := by omega
            have t2 : (a : Int) < (st : Int) := by omega
            have t3 : ¬ (st : Int) < (mid : Int) := by omega
            have t6 : (En : Int) < (e : Int) := by omega
            have hcall := ihH.out (P ++ A) X B S mid En e wr (by rw [List.length_append]; omega) (by omega) (by omega) (by omega) x1 (by omega) hsX hsB (by rw [hY0] at hrwA; simpa using hrwA)
            have hPH := Lib.hid hP
            clear hP
            have lAH := Lib.hid lA
            clear lA
            have lXH := Lib.hid lX
            clear lX
            have lYH := Lib.hid lY
            clear lY
            have lBH := Lib.hid lB
            clear lB
            have hsAH := Lib.hid hsA
            clear hsA
            have hsXH := Lib.hid hsX
            clear hsX
            have hsYH := Lib.hid hsY
            clear hsY
            have hsBH := Lib.hid hsB
            clear hsB
            have hrwAH := Lib.hid hrwA
            clear hrwA
            have hAXH := Lib.hid hAX
            clear hAX
            have hYBH := Lib.hid hYB
            clear hYB
            have hAH := Lib.hid hA
            clear hA
            have hXH := Lib.hid hX
            clear hX
            have hYH := Lib.hid hY
            clear hY
            have hBH := Lib.hid hB
            clear hB
            have hmH := Lib.hid hm
            clear hm
            have heH := Lib.hid he
            clear he
            have g1H := Lib.hid g1
            clear g1
            have g2H := Lib.hid g2
            clear g2
            have g3H := Lib.hid g3
            clear g3
            have g4H := Lib.hid g4
            clear g4
            have g5H := Lib.hid g5
            clear g5
            have g6H := Lib.hid g6
            clear g6
            have hEnH := Lib.hid hEn
            clear hEn
            have hElH := Lib.hid hEl
            clear hEl
            have hX0H := Lib.hid hX0
            clear hX0
            have hY0H := Lib.hid hY0
            clear hY0
            have hsymH := Lib.hid hsym
            clear hsym
            have hsH := Lib.hid hs
            clear hs
            have hcallH := Lib.hid hcall
            clear hcall
            go_wp2_with fail
            refine hcallH.out.mono ?_
            rintro e' w3 ⟨rfl, M2, q2, c2, hrw8, hs8⟩
            have hfin := hsymH.out (A ++ Y) M2 (by rw [hY0H.out, List.append_nil]; exact hsAH.out) q2 (SameCls.refl _) c2
            have hrw9 : RowI C w3 b off n (P ++ ((A ++ Y) ++ M2) ++ S) := by rw [hY0H.out]; simpa using hrw8
            have hs9 := hsH.out.trans hs8
            clear q2 c2 hs8 hrw8
            have hfinH := Lib.hid hfin
            clear hfin
            have hrw9H := Lib.hid hrw9
            clear hrw9
            have hs9H := Lib.hid hs9
            clear hs9
            go_wp2
            all_goals (go_end0; exact ⟨rfl, _, hfinH.out.1, hfinH.out.2, hrw9H.out, hs9H.out⟩)
          · have y1 : 1 ≤ Y.length := by cases Y with | nil => exact absurd rfl hY0 | cons z t => simp
            have t1 : (m : Int) < (En : Int) := by omega
            have t3 : (st : Int) < (mid : Int) := by omega
            have hrot := rotate_any C b off n cap (P ++ A) X Y (B ++ S) st m En (gI C) wr (by rw [List.length_append]; omega) (by omega) (by omega) x1 y1 hn hrwA
            unfold gI at hrot
            have hPH := Lib.hid hP
            clear hP
            have lAH := Lib.hid lA
            clear lA
            have lXH := Lib.hid lX
            clear lX
            have lYH := Lib.hid lY
            clear lY
            have lBH := Lib.hid lB
            clear lB
            have hsAH := Lib.hid hsA
            clear hsA
            have hsXH := Lib.hid hsX
            clear hsX
            have hsYH := Lib.hid hsY
            clear hsY
            have hsBH := Lib.hid hsB
            clear hsB
            have hrwAH := Lib.hid hrwA
            clear hrwA
            have hAXH := Lib.hid hAX
            clear hAX
            have hYBH := Lib.hid hYB
            clear hYB
            have hAH := Lib.hid hA
            clear hA
            have hXH := Lib.hid hX
            clear hX
            have hYH := Lib.hid hY
            clear hY
            have hBH := Lib.hid hB
            clear hB
            have hmH := Lib.hid hm
            clear hm
            have heH := Lib.hid he
            clear he
            have g1H := Lib.hid g1
            clear g1
            have g2H := Lib.hid g2
            clear g2
            have g3H := Lib.hid g3
            clear g3
            have g4H := Lib.hid g4
            clear g4
            have g5H := Lib.hid g5
            clear g5
            have g6H := Lib.hid g6
            clear g6
            have hEnH := Lib.hid hEn
            clear hEn
            have hElH := Lib.hid hEl
            clear hEl
            have hX0H := Lib.hid hX0
            clear hX0
            have hY0H := Lib.hid hY0
            clear hY0
            have hsymH := Lib.hid hsym
            clear hsym
            have hsH := Lib.hid hs
            clear hs
            have hrotH := Lib.hid hrot
            clear hrot
            go_wp2_with fail
            refine hrotH.out.mono ?_
            rintro e' w3 ⟨rfl, hrw8, hs8⟩
            have hs9 := hsH.out.trans hs8
            clear hs8
            have hrw8H := Lib.hid hrw8
            clear hrw8
            have hs9H := Lib.hid hs9
            clear hs9
            by_cases hA0 : a < st
            · have t2 : (a : Int) < (st : Int) := by omega
              have hcall := ihH.out P A Y (X ++ (B ++ S)) a st mid w3 hPH.out (by have := lAH.out; omega) (by have := lYH.out; omega) (by omega) (by have := lAH.out; omega) y1 hsAH.out hsYH.out (by simpa using hrw8H.out)
              have hcallH := Lib.hid hcall
              clear hcall
              go_wp2_with fail
              refine hcallH.out.mono ?_
              rintro e' w4 ⟨rfl, M1, q1, c1, hrw7, hs7⟩
              have hs10 := hs9H.out.trans hs7
              have lM1 : M1.length = mid - a := by have := c1.len; rw [List.length_append] at this; have := lAH.out; have := lYH.out; omega
              clear hs7
              have q1H := Lib.hid q1
              clear q1
              have c1H := Lib.hid c1
              clear c1
              have hrw7H := Lib.hid hrw7
              clear hrw7
              have hs10H := Lib.hid hs10
              clear hs10
              have lM1H := Lib.hid lM1
              clear lM1
              by_cases hB0 : En < e
              · have t6 : (En : Int) < (e : Int) := by omega
                have hcall2 := ihH.out (P ++ M1) X B S mid En e w4 (by rw [List.length_append]; have := lM1H.out; have := hPH.out; omega) (by have := lXH.out; have := hEnH.out; omega) (by have := lBH.out; omega) (by omega) x1 (by have := lBH.out; omega) hsXH.out hsBH.out (by simpa using hrw7H.out)
                have hcall2H := Lib.hid hcall2
                clear hcall2
                go_wp2_with fail
                refine hcall2H.out.mono ?_
                rintro e' w5 ⟨rfl, M2, q2, c2, hrw6, hs6⟩
                have hfin := hsymH.out M1 M2 q1H.out q2 c1H.out c2
                have hs11 := (hs10H.out).trans hs6
                clear q2 c2 hs6
                have hfinH := Lib.hid hfin
                clear hfin
                have hrw6H := Lib.hid hrw6
                clear hrw6
                have hs11H := Lib.hid hs11
                clear hs11
                go_wp2
                all_goals (go_end0; exact ⟨rfl, _, hfinH.out.1, hfinH.out.2, by simpa using hrw6H.out, hs11H.out⟩)
              · have t6 : ¬ (En : Int) < (e : Int) := by omega
                have hBn : B = [] := List.eq_nil_of_length_eq_zero (by have := lBH.out; omega)
                have hfin := hsymH.out M1 (X ++ B) q1H.out (by rw [hBn, List.append_nil]; exact hsXH.out) c1H.out (SameCls.refl _)
                have hfinH := Lib.hid hfin
                clear hfin
                have hBnH := Lib.hid hBn
                clear hBn
                go_wp2
                all_goals (go_end0; exact ⟨rfl, _, hfinH.out.1, hfinH.out.2, by simpa using hrw7H.out, hs10H.out⟩)
            · have t2 : ¬ (a : Int) < (st : Int) := by omega
              have hAn : A = [] := List.eq_nil_of_length_eq_zero (by have := lAH.out; omega)
              have q1 : SortedBy (fI C) (A ++ Y) := by rw [hAn]; exact hsYH.out
              have lM1 : (A ++ Y).length = mid - a := by rw [List.length_append]; have := lAH.out; have := lYH.out; omega
              have hrw7 : RowI C w3 b off n (P ++ (A ++ Y) ++ (X ++ (B ++ S))) := by simpa using hrw8H.out
              have q1H := Lib.hid q1
              clear q1
              have hrw7H := Lib.hid hrw7
              clear hrw7
              have lM1H := Lib.hid lM1
              clear lM1
              have hAnH := Lib.hid hAn
              clear hAn
              by_cases hB0 : En < e
              · have t6 : (En : Int) < (e : Int) := by omega
                have hcall2 := ihH.out (P ++ (A ++ Y)) X B S mid En e w3 (by rw [List.length_append]; have := lM1H.out; have := hPH.out; omega) (by have := lXH.out; have := hEnH.out; omega) (by have := lBH.out; omega) (by omega) x1 (by have := lBH.out; omega) hsXH.out hsBH.out (by simpa using hrw7H.out)
                have hcall2H := Lib.hid hcall2
                clear hcall2
                go_wp2_with fail
                refine hcall2H.out.mono ?_
                rintro e' w5 ⟨rfl, M2, q2, c2, hrw6, hs6⟩
                have hfin := hsymH.out (A ++ Y) M2 q1H.out q2 (SameCls.refl _) c2
                have hs11 := (hs9H.out).trans hs6
                clear q2 c2 hs6
                have hfinH := Lib.hid hfin
                clear hfin
                have hrw6H := Lib.hid hrw6
                clear hrw6
                have hs11H := Lib.hid hs11
                clear hs11
                go_wp2
                all_goals (go_end0; exact ⟨rfl, _, hfinH.out.1, hfinH.out.2, by simpa using hrw6H.out, hs11H.out⟩)
              · have t6 : ¬ (En : Int) < (e : Int) := by omega
                have hBn : B = [] := List.eq_nil_of_length_eq_zero (by have := lBH.out; omega)
                have hfin := hsymH.out (A ++ Y) (X ++ B) q1H.out (by rw [hBn, List.append_nil]; exact hsXH.out) (SameCls.refl _) (SameCls.refl _)
                have hfinH := Lib.hid hfin
                clear hfin
                have hBnH := Lib.hid hBn
                clear hBn
                go_wp2
                all_goals (go_end0; exact ⟨rfl, _, hfinH.out.1, hfinH.out.2, by simpa using hrw7H.out, hs9H.out⟩)
  · have hmm2 : ¬ (mid : Int) < (m : Int) := by omega
    obtain ⟨s0, hs0⟩ : ∃ s0, a = s0 := ⟨_, rfl⟩
    obtain ⟨r0, hr0⟩ : ∃ r0, m = r0 := ⟨_, rfl⟩
    have hsr : s0 ≤ r0 := by omega
    have hgeo : a ≤ s0 ∧ r0 ≤ mid ∧ r0 ≤ m ∧ mid - s0 ≤ e - m ∧ (s0 = a ∨ mid - s0 = e - m) ∧ (r0 = m ∨ r0 = mid) := ⟨by omega, by omega, by omega, by omega, .inl hs0.symm, .inl hr0.symm⟩
    have hrowH := Lib.hid hrow
    clear hrow
    have hlenH := Lib.hid hlen
    clear hlen
    have hPH := Lib.hid hP
    clear hP
    have heH := Lib.hid he
    clear he
    have hsLH := Lib.hid hsL
    clear hsL
    have hsRH := Lib.hid hsR
    clear hsR
    have hmH := Lib.hid hm
    clear hm
    have hgeoH := Lib.hid hgeo
    clear hgeo
    have hsrH := Lib.hid hsr
    clear hsr
    have ihH := Lib.hid ih
    clear ih
    have hl1H := Lib.hid hl1
    clear hl1
    have hl2H := Lib.hid hl2
    clear hl2
    have hs0H := Lib.hid hs0
    clear hs0
    have hr0H := Lib.hid hr0
    clear hr0
    have hmidH := Lib.hid hmid
    clear hmid
    go_enter Tryd.func58, Tryd.ntmps58
    go_wp2_with fail
    go_loopw [20, 21] (fun vs vr wr => B3Rel C (P ++ L ++ R ++ S) L R a mid s0 r0 b off n w vs vr wr) (fun vs vr _ => (intOf vr).toNat - (intOf vs).toNat)
    case atStart => exact ⟨s0, r0, Nat.le_refl _, hsrH.out, Nat.le_refl _, (by rw [hs0H.out]), (by rw [hr0H.out]), fun h => by omega, fun h => by omega, hrowH.out, World.grownBy.refl _ _⟩
    case round =>
      obtain ⟨st, r, hst0, hstr, hrr0, rfl, rfl, hgood, hbad, hrw, hs⟩ := hrel
      obtain ⟨g1, g2, g3, g4, g5, g6⟩ := hgeoH.out
      have hrm : r ≤ m := by omega
      have hrmid : r ≤ mid := by omega
      have hast : a ≤ st := by omega
      by_cases hlt : st < r
      · obtain ⟨H, hH⟩ : ∃ H, (st + r) / 2 = H := ⟨_, rfl⟩
        have hHi : ((st : Int) + (r : Int)) / 2 = (H : Int) := by omega
        have hHI : st ≤ H := by omega
        have hHJ : H < r := by omega
        obtain ⟨Z, hZ⟩ : ∃ Z, mid + m - 1 - H = Z := ⟨_, rfl⟩
        have hZi : (mid : Int) + (m : Int) - 1 - (H : Int) = (Z : Int) := by omega
        have hm := hmH.out
        have he := heH.out
        obtain ⟨x, hx⟩ : ∃ x, L[H - a]? = some x := ⟨L[H - a]'(by omega), List.getElem?_eq_getElem _⟩
        obtain ⟨y, hy⟩ : ∃ y, R[mid - 1 - H]? = some y := ⟨R[mid - 1 - H]'(by omega), List.getElem?_eq_getElem _⟩
        have hgx := get_at (P := P) (S := R ++ S) (i := a) hPH.out hx
        rw [← List.append_assoc, show a + (H - a) = H by omega] at hgx
        have hgy := get_at (P := P ++ L) (S := S) (i := m) (by rw [List.length_append]; have := hPH.out; omega) hy
        rw [show m + (mid - 1 - H) = Z by omega] at hgy
        have v0 := hrw.at_ hgx
        have u0 := hrw.at_ hgy
        obtain ⟨v, hv⟩ : ∃ v, Lib.compareInt (vC C x) (vC C y) = v := ⟨_, rfl⟩
        have hvl : v < 0 ↔ (vC C x) < (vC C y) := by rw [← hv]; exact cmpI_lt
        have k0 : (0 : Int) ≤ (H : Int) := by omega
        have k1 : (H : Int) < (n : Int) := by omega
        have k2 : (0 : Int) ≤ (Z : Int) := by omega
        have k3 : (Z : Int) < (n : Int) := by omega
        have hwZ : IntKind.i64.wrap (Z : Int) = (Z : Int) := by rw [IntKind.wrap_i64]; omega
        clear hm he
        have hgoodH := Lib.hid hgood
        clear hgood
        have hbadH := Lib.hid hbad
        clear hbad
        have hrwH := Lib.hid hrw
        clear hrw
        have hsH := Lib.hid hs
        clear hs
        have hxH := Lib.hid hx
        clear hx
        have hyH := Lib.hid hy
        clear hy
        have hgyH := Lib.hid hgy
        clear hgy
        have hgxH := Lib.hid hgx
        clear hgx
        have hvH := Lib.hid hv
        clear hv
        have hvlH := Lib.hid hvl
        clear hvl
        have hHH := Lib.hid hH
        clear hH
        have hZH := Lib.hid hZ
        clear hZ
        have g1H := Lib.hid g1
        clear g1
        have g2H := Lib.hid g2
        clear g2
        have g3H := Lib.hid g3
        clear g3
        have g4H := Lib.hid g4
        clear g4
        have g5H := Lib.hid g5
        clear g5
        have g6H := Lib.hid g6
        clear g6
        go_wp2_with fail
        refine wp_region_held_drew (S := (fun w' => w'.cell? ⟨b, off + Z, none⟩ = some (.int .i64 y) ∧ w'.cell? ⟨b, off + H, none⟩ = some (.int .i64 x))) (by kernel_rfl) ⟨u0, v0⟩ (fun hHeld => ?_)
        clear u0 v0
        refine takeH (i := 0) (d := some 158) (v := ?_) rfl rfl (by kernel_rfl) (by kernel_rfl) (by kernel_rfl) (fun _ _ _ h => h) (Or.inl ⟨by rfl, ?_⟩) (by assumption) ?_
        rotate_left
        · (intro w hSw; (try dsimp only at hSw); go_simp; (try with_reducible rfl))
        (try simp only [Act.put, List.setIfInBounds_toArray, List.set_cons_zero, List.set_cons_succ])
        refine takeH (i := 1) (d := some 159) (v := ?_) rfl rfl (by kernel_rfl) (by kernel_rfl) (by kernel_rfl) (fun _ _ _ h => h) (Or.inl ⟨by rfl, ?_⟩) (by assumption) ?_
        rotate_left
        · (intro w hSw; (try dsimp only at hSw); go_simp; (try with_reducible rfl))
        (try simp only [Act.put, List.setIfInBounds_toArray, List.set_cons_zero, List.set_cons_succ])
        refine takeH (i := 2) (d := some 160) (v := ?_) rfl rfl (by kernel_rfl) (by kernel_rfl) (by kernel_rfl) (fun _ _ _ h => h) (Or.inl ⟨by rfl, ?_⟩) (by assumption) ?_
        rotate_left
        · (intro w hSw; (try dsimp only at hSw); go_simp; (try with_reducible rfl))
        (try simp only [Act.put, List.setIfInBounds_toArray, List.set_cons_zero, List.set_cons_succ])
        refine takeH (i := 3) (d := some 161) (v := ?_) rfl rfl (by kernel_rfl) (by kernel_rfl) (by kernel_rfl) (fun _ _ _ h => h) (Or.inl ⟨by rfl, ?_⟩) (by assumption) ?_
        rotate_left
        · (intro w hSw; (try dsimp only at hSw); go_simp; (try with_reducible rfl))
        (try simp only [Act.put, List.setIfInBounds_toArray, List.set_cons_zero, List.set_cons_succ])
        refine takeH (i := 4) (d := some 162) (v := ?_) rfl rfl (by kernel_rfl) (by kernel_rfl) (by kernel_rfl) (fun _ _ _ h => h) (Or.inl ⟨by rfl, ?_⟩) (by assumption) ?_
        rotate_left
        · (intro w hSw; (try dsimp only at hSw); go_simp; (try with_reducible rfl))
        (try simp only [Act.put, List.setIfInBounds_toArray, List.set_cons_zero, List.set_cons_succ])
        refine takeH (i := 5) (d := some 163) (v := ?_) rfl rfl (by kernel_rfl) (by kernel_rfl) (by kernel_rfl) (fun _ _ _ h => h) (Or.inl ⟨by rfl, ?_⟩) (by assumption) ?_
        rotate_left
        · (intro w hSw; (try dsimp only at hSw); go_simp; (try with_reducible rfl))
        (try simp only [Act.put, List.setIfInBounds_toArray, List.set_cons_zero, List.set_cons_succ])
        refine takeH (i := 6) (d := some 164) (v := ?_) rfl rfl (by kernel_rfl) (by kernel_rfl) (by kernel_rfl) (fun _ _ _ h => h) (Or.inl ⟨by rfl, ?_⟩) (by assumption) ?_
        rotate_left
        · (intro w hSw; (try dsimp only at hSw); go_simp; (try with_reducible rfl))
        (try simp only [Act.put, List.setIfInBounds_toArray, List.set_cons_zero, List.set_cons_succ])
        refine takeH (i := 7) (d := some 165) (v := ?_) rfl rfl (by kernel_rfl) (by kernel_rfl) (by kernel_rfl) (fun _ _ _ h => h) (Or.inl ⟨by rfl, ?_⟩) (by assumption) ?_
        rotate_left
        · (intro w hSw; (try dsimp only at hSw); go_simp; (try with_reducible rfl))
        (try simp only [Act.put, List.setIfInBounds_toArray, List.set_cons_zero, List.set_cons_succ])
        refine takeH (i := 8) (d := some 166) (v := ?_) rfl rfl (by kernel_rfl) (by kernel_rfl) (by kernel_rfl) (fun _ _ _ h => h) (Or.inl ⟨by rfl, ?_⟩) (by assumption) ?_
        rotate_left
        · (intro w hSw; (try dsimp only at hSw); go_simp; (try with_reducible rfl))
        (try simp only [Act.put, List.setIfInBounds_toArray, List.set_cons_zero, List.set_cons_succ])
        refine takeH (i := 9) (d := some 167) (v := ?_) rfl rfl (by kernel_rfl) (by kernel_rfl) (by kernel_rfl) (fun _ _ _ h => h) (Or.inl ⟨by rfl, ?_⟩) (by assumption) ?_
        rotate_left
        · (intro w hSw; (try dsimp only at hSw); go_simp; (try with_reducible rfl))
        (try simp only [Act.put, List.setIfInBounds_toArray, List.set_cons_zero, List.set_cons_succ])
        refine takeH (i := 10) (d := some 168) (v := ?_) rfl rfl (by kernel_rfl) (by kernel_rfl) (by kernel_rfl) (fun _ _ _ h => h) (Or.inl ⟨by rfl, ?_⟩) (by assumption) ?_
        rotate_left
        · (intro w hSw; (try dsimp only at hSw); go_simp; (try with_reducible rfl))
        (try simp only [Act.put, List.setIfInBounds_toArray, List.set_cons_zero, List.set_cons_succ])
        refine wpAnyH_ready (rs := [11]) (by kernel_rfl) (by simp) ?_
        refine AllReadyH.cons (i := 11) rfl (fun K hK => ?_) AllReadyH.nil
        go_simp
        go_at_call 32
        refine (cmp_any C y x _ v (hrwH.out.cr.below (Below.refl _ _).drew) (hrwH.out.in_ hgyH.out) (hrwH.out.in_ hgxH.out) hvH.out).mono ?_
        rintro e' w2 ⟨rfl, hb2⟩
        have hb2a : Below wr.heap.size wr w2 := by first | exact hb2 | exact (Below.refl _ _).drew.trans hb2
        replace hHeld := keep2i hb2 hHeld
        have hrw3 := hrwH.out.below hb2a
        have hs3 := hsH.out.trans (Srt.of_below hb2a)
        clear hb2 hb2a
        have hrw3H := Lib.hid hrw3
        clear hrw3
        have hs3H := Lib.hid hs3
        clear hs3
        refine hK.out _ _ hHeld (fun hHeld => ?_)
        clear hK K
        (try simp only [Act.put, List.setIfInBounds_toArray, List.set_cons_zero, List.set_cons_succ])
        clear hHeld
        refine takeH (i := 12) (d := some 170) (v := ?_) rfl rfl (by kernel_rfl) (by kernel_rfl) (by kernel_rfl) (fun _ _ _ h => h) (Or.inl ⟨by rfl, ?_⟩) (by assumption) ?_
        rotate_left
        · (intro w hSw; (try dsimp only at hSw); go_simp; (try with_reducible rfl))
        (try simp only [Act.put, List.setIfInBounds_toArray, List.set_cons_zero, List.set_cons_succ])
        refine takeH (i := 13) (d := some 171) (v := ?_) rfl rfl (by kernel_rfl) (by kernel_rfl) (by kernel_rfl) (fun _ _ _ h => h) (Or.inl ⟨by rfl, ?_⟩) (by assumption) ?_
        rotate_left
        · (intro w hSw; (try dsimp only at hSw); go_simp; (try with_reducible rfl))
        (try simp only [Act.put, List.setIfInBounds_toArray, List.set_cons_zero, List.set_cons_succ])
        refine wpAnyH_done (by kernel_rfl) ?_ _
        by_cases hc : v < 0
        · have R1 : B3Rel C (P ++ L ++ R ++ S) L R a mid s0 r0 b off n w (.int .i64 (st : Int)) (.int .i64 (H : Int)) w2 := by
            refine ⟨st, H, hst0, hHI, by omega, rfl, rfl, hgoodH.out, fun _ x' y' hx' hy' => ?_, hrw3H.out, hs3H.out⟩
            rw [hxH.out] at hx'
            rw [hyH.out] at hy'
            injection hx' with hx'
            injection hy' with hy'
            subst hx'
            subst hy'
            have := hvlH.out.1 hc
            unfold fI; omega
          rw [show (!decide (v < 0)) = false by simp [hc]]
          have R1H := Lib.hid R1
          clear R1
          go_wp2
          refine ⟨?rel, ?measure⟩
          case measure => (simp [intOf]; omega)
          case rel => first | exact R1H.out | exact ⟨rfl, R1H.out⟩ | ((try refine ⟨rfl, ?_⟩); (repeat apply Exists.intro); refine ⟨R1H.out, ?_⟩; ((repeat' apply And.intro) <;> rfl))
        · have R1 : B3Rel C (P ++ L ++ R ++ S) L R a mid s0 r0 b off n w (.int .i64 ((H : Int) + 1)) (.int .i64 (r : Int)) w2 := by
            refine ⟨H + 1, r, by omega, by omega, hrr0, by go_num, rfl, fun _ x' y' hx' hy' => ?_, hbadH.out, hrw3H.out, hs3H.out⟩
            rw [show H + 1 - 1 - a = H - a by omega, hxH.out] at hx'
            rw [show mid - (H + 1) = mid - 1 - H by omega, hyH.out] at hy'
            injection hx' with hx'
            injection hy' with hy'
            subst hx'
            subst hy'
            have : ¬ (vC C x) < (vC C y) := fun h => hc (hvlH.out.2 h)
            unfold fI; omega
          rw [show (!decide (v < 0)) = true by simp; omega]
          have R1H := Lib.hid R1
          clear R1
          go_wp2
          refine ⟨?rel, ?measure⟩
          case measure => (simp [intOf]; omega)
          case rel => first | exact R1H.out | exact ⟨rfl, R1H.out⟩ | ((try refine ⟨rfl, ?_⟩); (repeat apply Exists.intro); refine ⟨R1H.out, ?_⟩; ((repeat' apply And.intro) <;> rfl))
      · obtain rfl : st = r := by omega
        have hm := hmH.out
        have he := heH.out
        have hP := hPH.out
        obtain ⟨En, hEn⟩ : ∃ En, mid + m - st = En := ⟨_, rfl⟩
        have hEni : (mid : Int) + (m : Int) - (st : Int) = (En : Int) := by omega
        have hsym := fun M1 M2 => sorted_parts C (L := L) (R := R) (i := st - a) (j := mid - st) (M1 := M1) (M2 := M2) hsLH.out hsRH.out (by omega) (by omega)
          (fun h0 x y hx hy => by
            rcases g5 with e0 | e0
            · exact hgood (by omega) x y (by rw [show st - 1 - a = st - a - 1 by omega]; exact hx) hy
            · by_cases hss : s0 < st
              · exact hgood hss x y (by rw [show st - 1 - a = st - a - 1 by omega]; exact hx) hy
              · exfalso
                have := (List.getElem?_eq_some_iff.1 hy).1
                omega)
          (fun h0 x y hx hy => by
            by_cases hss : st < r0
            · exact hbad hss x y hx (by rw [show mid - 1 - st = mid - st - 1 by omega]; exact hy)
            · exfalso
              have := (List.getElem?_eq_some_iff.1 hx).1
              rcases g6 with e0 | e0 <;> omega)
        obtain ⟨A, hA⟩ : ∃ A, L.take (st - a) = A := ⟨_, rfl⟩
        obtain ⟨X, hX⟩ : ∃ X, L.drop (st - a) = X := ⟨_, rfl⟩
        obtain ⟨Y, hY⟩ : ∃ Y, R.take (mid - st) = Y := ⟨_, rfl⟩
        obtain ⟨B, hB⟩ : ∃ B, R.drop (mid - st) = B := ⟨_, rfl⟩
        have hAX : L = A ++ X := by rw [← hA, ← hX, List.take_append_drop]
        have hYB : R = Y ++ B := by rw [← hY, ← hB, List.take_append_drop]
        have lA : A.length = st - a := by rw [← hA, List.length_take]; omega
        have lX : X.length = m - st := by rw [← hX, List.length_drop]; omega
        have lY : Y.length = mid - st := by rw [← hY, List.length_take]; omega
        have lB : B.length = e - En := by rw [← hB, List.length_drop]; omega
        have hsA : SortedBy (fI C) A := by have := hsLH.out; rw [hAX] at this; exact sorted_left this
        have hsX : SortedBy (fI C) X := by have := hsLH.out; rw [hAX] at this; exact sorted_right this
        have hsY : SortedBy (fI C) Y := by have := hsRH.out; rw [hYB] at this; exact sorted_left this
        have hsB : SortedBy (fI C) B := by have := hsRH.out; rw [hYB] at this; exact sorted_right this
        rw [hA, hX, hY, hB] at hsym
        have hrwA : RowI C wr b off n (P ++ A ++ X ++ Y ++ (B ++ S)) := by rw [hAX, hYB] at hrw; simpa using hrw
        have hEe : En ≤ e := by omega
        have hEm : m ≤ En := by omega
        have hEl : En + st = mid + m := by omega
        have l1 := hl1H.out
        have l2 := hl2H.out
        clear hgood hbad hrw
        by_cases hX0 : X = []
        · have hsm : m ≤ st := by have := lX; rw [hX0, List.length_nil] at this; omega
          have t0 : ¬ (st : Int) < (m : Int) := by omega
          have t2 : (a : Int) < (st : Int) := by omega
          have t5 : ¬ (mid : Int) < (En : Int) := by omega
          by_cases hY0 : Y = []
          · have hm3 : mid ≤ st := by have := lY; rw [hY0, List.length_nil] at this; omega
            have t3 : ¬ (st : Int) < (mid : Int) := by omega
            have hfin := hsym (A ++ Y) (X ++ B) (by rw [hY0, List.append_nil]; exact hsA) (by rw [hX0]; exact hsB) (SameCls.refl _) (SameCls.refl _)
            have hrw9 : RowI C wr b off n (P ++ ((A ++ Y) ++ (X ++ B)) ++ S) := by rw [hX0, hY0] at hrwA ⊢; simpa using hrwA
            have hPH := Lib.hid hP
            clear hP
            have lAH := Lib.hid lA
            clear lA
            have lXH := Lib.hid lX
            clear lX
            have lYH := Lib.hid lY
            clear lY
            have lBH := Lib.hid lB
            clear lB
            have hsAH := Lib.hid hsA
            clear hsA
            have hsXH := Lib.hid hsX
            clear hsX
            have hsYH := Lib.hid hsY
            clear hsY
            have hsBH := Lib.hid hsB
            clear hsB
            have hrwAH := Lib.hid hrwA
            clear hrwA
            have hAXH := Lib.hid hAX
            clear hAX
            have hYBH := Lib.hid hYB
            clear hYB
            have hAH := Lib.hid hA
            clear hA
            have hXH := Lib.hid hX
            clear hX
            have hYH := Lib.hid hY
            clear hY
            have hBH := Lib.hid hB
            clear hB
            have hmH := Lib.hid hm
            clear hm
            have heH := Lib.hid he
            clear he
            have g1H := Lib.hid g1
            clear g1
            have g2H := Lib.hid g2
            clear g2
            have g3H := Lib.hid g3
            clear g3
            have g4H := Lib.hid g4
            clear g4
            have g5H := Lib.hid g5
            clear g5
            have g6H := Lib.hid g6
            clear g6
            have hEnH := Lib.hid hEn
            clear hEn
            have hElH := Lib.hid hEl
            clear hEl
            have hX0H := Lib.hid hX0
            clear hX0
            have hY0H := Lib.hid hY0
            clear hY0
            have hsymH := Lib.hid hsym
            clear hsym
            have hfinH := Lib.hid hfin
            clear hfin
            have hrw9H := Lib.hid hrw9
            clear hrw9
            have hsH := Lib.hid hs
            clear hs
            go_wp2
            all_goals (go_end0; exact ⟨rfl, _, hfinH.out.1, hfinH.out.2, hrw9H.out, hsH.out⟩)
          · have y1 : 1 ≤ Y.length := by cases Y with | nil => exact absurd rfl hY0 | cons z t => simp
            have t3 : (st : Int) < (mid : Int) := by omega
            have hcall := ihH.out P A Y (X ++ (B ++ S)) a st mid wr hP (by omega) (by omega) (by omega) (by omega) y1 hsA hsY (by rw [hX0] at hrwA ⊢; simpa using hrwA)
            have hPH := Lib.hid hP
            clear hP
            have lAH := Lib.hid lA
            clear lA
            have lXH := Lib.hid lX
            clear lX
            have lYH := Lib.hid lY
            clear lY
            have lBH := Lib.hid lB
            clear lB
            have hsAH := Lib.hid hsA
            clear hsA
            have hsXH := Lib.hid hsX
            clear hsX
            have hsYH := Lib.hid hsY
            clear hsY
            have hsBH := Lib.hid hsB
            clear hsB
            have hrwAH := Lib.hid hrwA
            clear hrwA
            have hAXH := Lib.hid hAX
            clear hAX
            have hYBH := Lib.hid hYB
            clear hYB
            have hAH := Lib.hid hA
            clear hA
            have hXH := Lib.hid hX
            clear hX
            have hYH := Lib.hid hY
            clear hY
            have hBH := Lib.hid hB
            clear hB
            have hmH := Lib.hid hm
            clear hm
            have heH := Lib.hid he
            clear he
            have g1H := Lib.hid g1
            clear g1
            have g2H := Lib.hid g2
            clear g2
            have g3H := Lib.hid g3
            clear g3
            have g4H := Lib.hid g4
            clear g4
            have g5H := Lib.hid g5
            clear g5
            have g6H := Lib.hid g6
            clear g6
            have hEnH := Lib.hid hEn
            clear hEn
            have hElH := Lib.hid hEl
            clear hEl
            have hX0H := Lib.hid hX0
            clear hX0
            have hY0H := Lib.hid hY0
            clear hY0
            have hsymH := Lib.hid hsym
            clear hsym
            have hsH := Lib.hid hs
            clear hs
            have hcallH := Lib.hid hcall
            clear hcall
            go_wp2_with fail
            refine hcallH.out.mono ?_
            rintro e' w3 ⟨rfl, M1, q1, c1, hrw8, hs8⟩
            have hfin := hsymH.out M1 (X ++ B) q1 (by rw [hX0H.out]; exact hsBH.out) c1 (SameCls.refl _)
            have hs9 := hsH.out.trans hs8
            clear q1 c1 hs8
            have hfinH := Lib.hid hfin
            clear hfin
            have hrw8H := Lib.hid hrw8
            clear hrw8
            have hs9H := Lib.hid hs9
            clear hs9
            go_wp2
            all_goals (go_end0; exact ⟨rfl, _, hfinH.out.1, hfinH.out.2, by simpa using hrw8H.out, hs9H.out⟩)
        · have x1 : 1 ≤ X.length := by cases X with | nil => exact absurd rfl hX0 | cons z t => simp
          have t0 : (st : Int) < (m : Int) := by omega
          have t5 : (mid : Int) < (En : Int) := by omega
          by_cases hY0 : Y = []
          · have hm3 : mid ≤ st := by have := lY; rw [hY0, List.length_nil] at this; omega
            have t1 : ¬ (m : Int) < (En : Int) := by omega
            have t2 : (a : Int) < (st : Int) := by omega
            have t3 : ¬ (st : Int) < (mid : Int) := by omega
            have t6 : (En : Int) < (e : Int) := by omega
            have hcall := ihH.out (P ++ A) X B S mid En e wr (by rw [List.length_append]; omega) (by omega) (by omega) (by omega) x1 (by omega) hsX hsB (by rw [hY0] at hrwA; simpa using hrwA)
            have hPH := Lib.hid hP
            clear hP
            have lAH := Lib.hid lA
            clear lA
            have lXH := Lib.hid lX
            clear lX
            have lYH := Lib.hid lY
            clear lY
            have lBH := Lib.hid lB
            clear lB
            have hsAH := Lib.hid hsA
            clear hsA
            have hsXH := Lib.hid hsX
            clear hsX
            have hsYH := Lib.hid hsY
            clear hsY
            have hsBH := Lib.hid hsB
            clear hsB
            have hrwAH := Lib.hid hrwA
            clear hrwA
            have hAXH := Lib.hid hAX
            clear hAX
            have hYBH := Lib.hid hYB
            clear hYB
            have hAH := Lib.hid hA
            clear hA
            have hXH := Lib.hid hX
            clear hX
            have hYH := Lib.hid hY
            clear hY
            have hBH := Lib.hid hB
            clear hB
            have hmH := Lib.hid hm
            clear hm
            have heH := Lib.hid he
            clear he
            have g1H := Lib.hid g1
            clear g1
            have g2H := Lib.hid g2
            clear g2
            have g3H := Lib.hid g3
            clear g3
            have g4H := Lib.hid g4
            clear g4
            have g5H := Lib.hid g5
            clear g5
            have g6H := Lib.hid g6
            clear g6
            have hEnH := Lib.hid hEn
            clear hEn
            have hElH := Lib.hid hEl
            clear hEl
            have hX0H := Lib.hid hX0
            clear hX0
            have hY0H := Lib.hid hY0
            clear hY0
            have hsymH := Lib.hid hsym
            clear hsym
            have hsH := Lib.hid hs
            clear hs
            have hcallH := Lib.hid hcall
            clear hcall
            go_wp2_with fail
            refine hcallH.out.mono ?_
            rintro e' w3 ⟨rfl, M2, q2, c2, hrw8, hs8⟩
            have hfin := hsymH.out (A ++ Y) M2 (by rw [hY0H.out, List.append_nil]; exact hsAH.out) q2 (SameCls.refl _) c2
            have hrw9 : RowI C w3 b off n (P ++ ((A ++ Y) ++ M2) ++ S) := by rw [hY0H.out]; simpa using hrw8
            have hs9 := hsH.out.trans hs8
            clear q2 c2 hs8 hrw8
            have hfinH := Lib.hid hfin
            clear hfin
            have hrw9H := Lib.hid hrw9
            clear hrw9
            have hs9H := Lib.hid hs9
            clear hs9
            go_wp2
            all_goals (go_end0; exact ⟨rfl, _, hfinH.out.1, hfinH.out.2, hrw9H.out, hs9H.out⟩)
          · have y1 : 1 ≤ Y.length := by cases Y with | nil => exact absurd rfl hY0 | cons z t => simp
            have t1 : (m : Int) < (En : Int) := by omega
            have t3 : (st : Int) < (mid : Int) := by omega
            have hrot := rotate_any C b off n cap (P ++ A) X Y (B ++ S) st m En (gI C) wr (by rw [List.length_append]; omega) (by omega) (by omega) x1 y1 hn hrwA
            unfold gI at hrot
            have hPH := Lib.hid hP
            clear hP
            have lAH := Lib.hid lA
            clear lA
            have lXH := Lib.hid lX
            clear lX
            have lYH := Lib.hid lY
            clear lY
            have lBH := Lib.hid lB
            clear lB
            have hsAH := Lib.hid hsA
            clear hsA
            have hsXH := Lib.hid hsX
            clear hsX
            have hsYH := Lib.hid hsY
            clear hsY
            have hsBH := Lib.hid hsB
            clear hsB
            have hrwAH := Lib.hid hrwA
            clear hrwA
            have hAXH := Lib.hid hAX
            clear hAX
            have hYBH := Lib.hid hYB
            clear hYB
            have hAH := Lib.hid hA
            clear hA
            have hXH := Lib.hid hX
            clear hX
            have hYH := Lib.hid hY
            clear hY
            have hBH := Lib.hid hB
            clear hB
            have hmH := Lib.hid hm
            clear hm
            have heH := Lib.hid he
            clear he
            have g1H := Lib.hid g1
            clear g1
            have g2H := Lib.hid g2
            clear g2
            have g3H := Lib.hid g3
            clear g3
            have g4H := Lib.hid g4
            clear g4
            have g5H := Lib.hid g5
            clear g5
            have g6H := Lib.hid g6
            clear g6
            have hEnH := Lib.hid hEn
            clear hEn
            have hElH := Lib.hid hEl
            clear hEl
            have hX0H := Lib.hid hX0
            clear hX0
            have hY0H := Lib.hid hY0
            clear hY0
            have hsymH := Lib.hid hsym
            clear hsym
            have hsH := Lib.hid hs
            clear hs
            have hrotH := Lib.hid hrot
            clear hrot
            go_wp2_with fail
            refine hrotH.out.mono ?_
            rintro e' w3 ⟨rfl, hrw8, hs8⟩
            have hs9 := hsH.out.trans hs8
            clear hs8
            have hrw8H := Lib.hid hrw8
            clear hrw8
            have hs9H := Lib.hid hs9
            clear hs9
            by_cases hA0 : a < st
            · have t2 : (a : Int) < (st : Int) := by omega
              have hcall := ihH.out P A Y (X ++ (B ++ S)) a st mid w3 hPH.out (by have := lAH.out; omega) (by have := lYH.out; omega) (by omega) (by have := lAH.out; omega) y1 hsAH.out hsYH.out (by simpa using hrw8H.out)
              have hcallH := Lib.hid hcall
              clear hcall
              go_wp2_with fail
              refine hcallH.out.mono ?_
              rintro e' w4 ⟨rfl, M1, q1, c1, hrw7, hs7⟩
              have hs10 := hs9H.out.trans hs7
              have lM1 : M1.length = mid - a := by have := c1.len; rw [List.length_append] at this; have := lAH.out; have := lYH.out; omega
              clear hs7
              have q1H := Lib.hid q1
              clear q1
              have c1H := Lib.hid c1
              clear c1
              have hrw7H := Lib.hid hrw7
              clear hrw7
              have hs10H := Lib.hid hs10
              clear hs10
              have lM1H := Lib.hid lM1
              clear lM1
              by_cases hB0 : En < e
              · have t6 : (En : Int) < (e : Int) := by omega
                have hcall2 := ihH.out (P ++ M1) X B S mid En e w4 (by rw [List.length_append]; have := lM1H.out; have := hPH.out; omega) (by have := lXH.out; have := hEnH.out; omega) (by have := lBH.out; omega) (by omega) x1 (by have := lBH.out; omega) hsXH.out hsBH.out (by simpa using hrw7H.out)
                have hcall2H := Lib.hid hcall2
                clear hcall2
                go_wp2_with fail
                refine hcall2H.out.mono ?_
                rintro e' w5 ⟨rfl, M2, q2, c2, hrw6, hs6⟩
                have hfin := hsymH.out M1 M2 q1H.out q2 c1H.out c2
                have hs11 := (hs10H.out).trans hs6
                clear q2 c2 hs6
                have hfinH := Lib.hid hfin
                clear hfin
                have hrw6H := Lib.hid hrw6
                clear hrw6
                have hs11H := Lib.hid hs11
                clear hs11
                go_wp2
                all_goals (go_end0; exact ⟨rfl, _, hfinH.out.1, hfinH.out.2, by simpa using hrw6H.out, hs11H.out⟩)
              · have t6 : ¬ (En : Int) < (e : Int) := by omega
                have hBn : B = [] := List.eq_nil_of_length_eq_zero (by have := lBH.out; omega)
                have hfin := hsymH.out M1 (X ++ B) q1H.out (by rw [hBn, List.append_nil]; exact hsXH.out) c1H.out (SameCls.refl _)
                have hfinH := Lib.hid hfin
                clear hfin
                have hBnH := Lib.hid hBn
                clear hBn
                go_wp2
                all_goals (go_end0; exact ⟨rfl, _, hfinH.out.1, hfinH.out.2, by simpa using hrw7H.out, hs10H.out⟩)
            · have t2 : ¬ (a : Int) < (st : Int) := by omega
              have hAn : A = [] := List.eq_nil_of_length_eq_zero (by have := lAH.out; omega)
              have q1 : SortedBy (fI C) (A ++ Y) := by rw [hAn]; exact hsYH.out
              have lM1 : (A ++ Y).length = mid - a := by rw [List.length_append]; have := lAH.out; have := lYH.out; omega
              have hrw7 : RowI C w3 b off n (P ++ (A ++ Y) ++ (X ++ (B ++ S))) := by simpa using hrw8H.out
              have q1H := Lib.hid q1
              clear q1
              have hrw7H := Lib.hid hrw7
              clear hrw7
              have lM1H := Lib.hid lM1
              clear lM1
              have hAnH := Lib.hid hAn
              clear hAn
              by_cases hB0 : En < e
              · have t6 : (En : Int) < (e : Int) := by omega
                have hcall2 := ihH.out (P ++ (A ++ Y)) X B S mid En e w3 (by rw [List.length_append]; have := lM1H.out; have := hPH.out; omega) (by have := lXH.out; have := hEnH.out; omega) (by have := lBH.out; omega) (by omega) x1 (by have := lBH.out; omega) hsXH.out hsBH.out (by simpa using hrw7H.out)
                have hcall2H := Lib.hid hcall2
                clear hcall2
                go_wp2_with fail
                refine hcall2H.out.mono ?_
                rintro e' w5 ⟨rfl, M2, q2, c2, hrw6, hs6⟩
                have hfin := hsymH.out (A ++ Y) M2 q1H.out q2 (SameCls.refl _) c2
                have hs11 := (hs9H.out).trans hs6
                clear q2 c2 hs6
                have hfinH := Lib.hid hfin
                clear hfin
                have hrw6H := Lib.hid hrw6
                clear hrw6
                have hs11H := Lib.hid hs11
                clear hs11
                go_wp2
                all_goals (go_end0; exact ⟨rfl, _, hfinH.out.1, hfinH.out.2, by simpa using hrw6H.out, hs11H.out⟩)
              · have t6 : ¬ (En : Int) < (e : Int) := by omega
                have hBn : B = [] := List.eq_nil_of_length_eq_zero (by have := lBH.out; omega)
                have hfin := hsymH.out (A ++ Y) (X ++ B) q1H.out (by rw [hBn, List.append_nil]; exact hsXH.out) (SameCls.refl _) (SameCls.refl _)
                have hfinH := Lib.hid hfin
                clear hfin
                have hBnH := Lib.hid hBn
                clear hBn
                go_wp2
                all_goals (go_end0; exact ⟨rfl, _, hfinH.out.1, hfinH.out.2, by simpa using hrw7H.out, hs9H.out⟩)
end Go.Proofs.YtbapkhkklglbaaaDoor.C9
