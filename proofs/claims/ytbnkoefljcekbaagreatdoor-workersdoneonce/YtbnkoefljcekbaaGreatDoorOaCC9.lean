/-
  Several texts of mine as one, without what is not wanted here: XSymI, XSym3I, XMrgI, XStbI, XStbN, XFst, XRdy, XFstP, XCFarmW, XFmA, XFmB, XSeconds.
-/
import Derived.Test.YtbnkoefljcekbaaGreatDoorOaBC9
import Derived.Laws.OwnMore
import Derived.Deep.RegionHeld3
import Derived.Test.YtbnkoefljcekbaaGreatDoorOaAC9
import Derived.Test.YtbnkoefljcekbaaGreatDoorOaGC
namespace Go.Proofs.YtbnkoefljcekbaaGreatDoor.C9
open Go.ChangeShapes Go.WideShapes Go.Deep Go.RowKit
set_option linter.unusedVariables false

def MgAns (C : CC) (P M S : List Int) (b off n : Nat) (w0 : World) (e : Ending) (w' : World) : Prop :=
  e = .returned (.tuple #[]) ∧ ∃ M', SortedBy (fI C) M' ∧ SameCls (fI C) M' M ∧ RowI C w' b off n (P ++ M' ++ S) ∧ Srt b w0 w'
/-- the first search: behind which of R does x go -/
def B1Rel (C : CC) (D R : List Int) (x : Int) (m b off n : Nat) (w0 : World) (vi vj : Value) (wr : World) : Prop :=
  ∃ p q I J : Nat, p ≤ q ∧ q ≤ R.length ∧ I = m + p ∧ J = m + q ∧ vi = .int .i64 (I : Int) ∧ vj = .int .i64 (J : Int) ∧ (∀ y, 0 < p → R[p - 1]? = some y → (fI C) y < (fI C) x) ∧ (∀ y, R[q]? = some y → (fI C) x ≤ (fI C) y) ∧ RowI C wr b off n D ∧ Srt b w0 wr
def S1Rel (C : CC) (P R S : List Int) (x : Int) (a p b off n : Nat) (w0 : World) (vk : Value) (wr : World) : Prop :=
  ∃ t : Nat, t ≤ p ∧ vk = .int .i64 ((a : Int) + (t : Int)) ∧ RowI C wr b off n (P ++ R.take t ++ x :: R.drop t ++ S) ∧ Srt b w0 wr
theorem getLast_take {R : List Int} {p : Nat} (hp : p ≤ R.length) : (R.take p).getLast? = if p = 0 then none else R[p - 1]? := by
  rw [List.getLast?_eq_getElem?, List.length_take, Nat.min_eq_left hp]
  split
  · subst_vars; simp
  · rw [List.getElem?_take_of_lt (by omega)]
theorem head_drop {R : List Int} {p : Nat} : (R.drop p).head? = R[p]? := by rw [List.head?_drop]
theorem put_left (C : CC) {R : List Int} {x : Int} {p : Nat} (hs : SortedBy (fI C) R) (hp : p ≤ R.length) (h1 : ∀ y, 0 < p → R[p - 1]? = some y → (fI C) y < (fI C) x) (h2 : ∀ y, R[p]? = some y → (fI C) x ≤ (fI C) y) :
    SortedBy (fI C) (R.take p ++ x :: R.drop p) ∧ SameCls (fI C) (R.take p ++ x :: R.drop p) ([x] ++ R) := by
  have hR : SortedBy (fI C) (R.take p ++ R.drop p) := by rw [List.take_append_drop]; exact hs
  have := sym_step (f := fI C) (A := []) (X := [x]) (Y := R.take p) (B := R.drop p) (M1 := R.take p) (M2 := x :: R.drop p) (List.pairwise_singleton _ _) hR (fun y hy => by simp at hy)
    (fun u hu y hy => by
      simp only [List.head?_cons, Option.some.injEq] at hu
      subst hu
      rw [getLast_take hp] at hy
      split at hy
      · cases hy
      · exact h1 y (by omega) hy)
    (sorted_left hR) (List.pairwise_cons.2 ⟨fun y hy => by
      have hd := sorted_right hR
      cases hdr : R.drop p with
      | nil => rw [hdr] at hy; cases hy
      | cons z r =>
        have hz : R[p]? = some z := by rw [← head_drop, hdr]; rfl
        have hxz := h2 z hz
        rw [hdr] at hd hy
        rcases List.mem_cons.1 hy with rfl | hy
        · exact hxz
        · exact Int.le_trans hxz ((List.pairwise_cons.1 hd).1 y hy), sorted_right hR⟩) (SameCls.refl _) (SameCls.refl _)
  rw [List.nil_append, List.take_append_drop] at this
  exact this
theorem put_right (C : CC) {L : List Int} {y : Int} {p : Nat} (hs : SortedBy (fI C) L) (hp : p ≤ L.length) (h1 : ∀ x, 0 < p → L[p - 1]? = some x → (fI C) x ≤ (fI C) y) (h2 : ∀ x, L[p]? = some x → (fI C) y < (fI C) x) :
    SortedBy (fI C) (L.take p ++ y :: L.drop p) ∧ SameCls (fI C) (L.take p ++ y :: L.drop p) (L ++ [y]) := by
  have hL : SortedBy (fI C) (L.take p ++ L.drop p) := by rw [List.take_append_drop]; exact hs
  have := sym_step (f := fI C) (A := L.take p) (X := L.drop p) (Y := [y]) (B := []) (M1 := L.take p ++ [y]) (M2 := L.drop p) hL (List.pairwise_singleton _ _) (fun x hx u hu => by simp at hu)
    (fun x hx u hu => by
      simp only [List.getLast?_singleton, Option.some.injEq] at hu
      subst hu
      rw [head_drop] at hx
      exact h2 x hx)
    (sorted_app (sorted_left hL) (List.pairwise_singleton _ _) (fun x hx u hu => by
      rw [List.mem_singleton.1 hu]
      obtain ⟨l, hl⟩ : ∃ l, (L.take p).getLast? = some l := by
        cases h : (L.take p).getLast? with
        | none => rw [List.getLast?_eq_none_iff] at h; rw [h] at hx; cases hx
        | some l => exact ⟨l, rfl⟩
      have hly : (fI C) l ≤ (fI C) y := by
        have hl2 := hl
        rw [getLast_take hp] at hl2
        split at hl2
        · cases hl2
        · exact h1 l (by omega) hl2
      obtain ⟨i, hi⟩ := List.getLast?_eq_some_iff.1 hl
      have hs2 := sorted_left hL
      rw [hi] at hx hs2
      rcases List.mem_append.1 hx with hx | hx
      · exact Int.le_trans (sorted_cross hs2 x hx l (by simp)) hly
      · rw [List.mem_singleton.1 hx]; exact hly)) (sorted_right hL) (SameCls.refl _) (by simpa using SameCls.refl (f := fI C) (L.drop p))
  rw [List.take_append_drop, List.append_assoc (L.take p)] at this
  simpa using this
theorem get_at {P R S : List Int} {k i : Nat} {y : Int} (h : P.length = i) (hy : R[k]? = some y) : (P ++ R ++ S)[i + k]? = some y := by
  subst h
  have hk := (List.getElem?_eq_some_iff.1 hy).1
  rw [List.append_assoc, List.getElem?_append_right (by omega), Nat.add_sub_cancel_left, List.getElem?_append_left hk]
  exact hy
set_option maxRecDepth 100000 in
set_option maxHeartbeats 16000000 in
theorem merge1 (C : CC) (b off n cap : Nat) (P R S : List Int) (x : Int) (a m e : Nat) (w : World) (hP : P.length = a) (hm : m = a + 1) (he : e = m + R.length) (hn : n ≤ 1000000000) (hsR : SortedBy (fI C) R) (hrow : RowI C w b off n (P ++ [x] ++ R ++ S)) :
    Calls Tryz.prog 223 #[.slice (some ⟨b, off, none⟩) n cap, .int .i64 a, .int .i64 m, .int .i64 e, (gI C)] w (MgAns C P ([x] ++ R) S b off n w) := by
  have hlen := hrow.sl.1
  simp only [List.length_append, List.length_singleton] at hlen
  have hen : e ≤ n := by omega
  have hme : m ≤ e := by omega
  have ham : a < m := by omega
  have hma : (m : Int) - (a : Int) = 1 := by omega
  unfold gI
  have hstart : B1Rel C (P ++ [x] ++ R ++ S) R x m b off n w (.int .i64 (m : Int)) (.int .i64 (e : Int)) w := ⟨0, R.length, m, e, by omega, Nat.le_refl _, by omega, he, rfl, rfl, fun y h => by omega, fun y hy => by simp at hy, hrow, World.grownBy.refl _ _⟩
  have hrowH := Lib.hid hrow
  clear hrow
  have hlenH := Lib.hid hlen
  clear hlen
  have hPH := Lib.hid hP
  clear hP
  have hstartH := Lib.hid hstart
  clear hstart
  have heH := Lib.hid he
  clear he
  have hsRH := Lib.hid hsR
  clear hsR
  have hmH := Lib.hid hm
  clear hm
  go_enter Tryz.func223, Tryz.ntmps223
  go_wp2_with fail
  go_loopw [10, 11] (fun vi vj wr => B1Rel C (P ++ [x] ++ R ++ S) R x m b off n w vi vj wr) (fun vi vj _ => (intOf vj).toNat - (intOf vi).toNat)
  case atStart => exact hstartH.out
  case round =>
    clear hstartH
    obtain ⟨p, q, I, J, hpq, hqR, hI, hJ, rfl, rfl, hp1, hq1, hrw, hs⟩ := hrel
    have hJe : J ≤ e := by have := heH.out; omega
    have hmI : m ≤ I := by omega
    by_cases hlt : p < q
    · have hIJ : I < J := by omega
      obtain ⟨H, hH⟩ : ∃ H, (I + J) / 2 = H := ⟨_, rfl⟩
      have hHi : ((I : Int) + (J : Int)) / 2 = (H : Int) := by omega
      have hH2 : H = m + (p + q) / 2 := by omega
      have hHI : I ≤ H := by omega
      have hHJ : H < J := by omega
      obtain ⟨y, hy⟩ : ∃ y, R[(p + q) / 2]? = some y := ⟨R[(p + q) / 2]'(by omega), List.getElem?_eq_getElem _⟩
      have hgy := get_at (P := P ++ [x]) (S := S) (i := m) (by rw [List.length_append]; have := hPH.out; have := hmH.out; simp; omega) hy
      rw [← hH2] at hgy
      have hgx : (P ++ [x] ++ R ++ S)[a]? = some x := by rw [List.append_assoc, List.append_assoc]; exact get_mid (S := []) hPH.out
      have v0 := hrw.at_ hgx
      have u0 := hrw.at_ hgy
      obtain ⟨v, hv⟩ : ∃ v, Lib.compareInt (vC C x) (vC C y) = v := ⟨_, rfl⟩
      have hvl : v < 0 ↔ (vC C x) < (vC C y) := by rw [← hv]; exact cmpI_lt
      have k0 : (0 : Int) ≤ (H : Int) := by omega
      have k1 : (H : Int) < (n : Int) := by omega
      have k2 : (0 : Int) ≤ (a : Int) := by omega
      have k3 : (a : Int) < (n : Int) := by omega
      have hp1H := Lib.hid hp1
      clear hp1
      have hq1H := Lib.hid hq1
      clear hq1
      have hrwH := Lib.hid hrw
      clear hrw
      have hsH := Lib.hid hs
      clear hs
      have hyH := Lib.hid hy
      clear hy
      have hgyH := Lib.hid hgy
      clear hgy
      have hgxH := Lib.hid hgx
      clear hgx
      have hvH := Lib.hid hv
      clear hv
      have hvlH := Lib.hid hvl
      clear hvl
      have hHH := Lib.hid hH
      clear hH
      have hH2H := Lib.hid hH2
      clear hH2
      have hIH := Lib.hid hI
      clear hI
      have hJH := Lib.hid hJ
      clear hJ
      go_wp2_with fail
      refine wp_region_held_drew (S := (fun w' => w'.cell? ⟨b, off + H, none⟩ = some (.int .i64 y) ∧ w'.cell? ⟨b, off + a, none⟩ = some (.int .i64 x))) (by kernel_rfl) ⟨u0, v0⟩ (fun hHeld => ?_)
      clear u0 v0
      refine tkH (i := 0) (d := some 40) (v := ?_) (hy := Or.inl ⟨by rfl, ?_⟩) (h := ?_)
      rotate_left
      · (intro w hSw; (try dsimp only at hSw); go_simp; (try with_reducible rfl))
      (try simp only [Act.put, tkA, tkB, tkC])
      refine tkH (i := 1) (d := some 41) (v := ?_) (hy := Or.inl ⟨by rfl, ?_⟩) (h := ?_)
      rotate_left
      · (intro w hSw; (try dsimp only at hSw); go_simp; (try with_reducible rfl))
      (try simp only [Act.put, tkA, tkB, tkC])
      refine tkH (i := 2) (d := some 42) (v := ?_) (hy := Or.inl ⟨by rfl, ?_⟩) (h := ?_)
      rotate_left
      · (intro w hSw; (try dsimp only at hSw); go_simp; (try with_reducible rfl))
      (try simp only [Act.put, tkA, tkB, tkC])
      refine tkH (i := 3) (d := some 43) (v := ?_) (hy := Or.inl ⟨by rfl, ?_⟩) (h := ?_)
      rotate_left
      · (intro w hSw; (try dsimp only at hSw); go_simp; (try with_reducible rfl))
      (try simp only [Act.put, tkA, tkB, tkC])
      refine tkH (i := 4) (d := some 44) (v := ?_) (hy := Or.inl ⟨by rfl, ?_⟩) (h := ?_)
      rotate_left
      · (intro w hSw; (try dsimp only at hSw); go_simp; (try with_reducible rfl))
      (try simp only [Act.put, tkA, tkB, tkC])
      refine tkH (i := 5) (d := some 45) (v := ?_) (hy := Or.inl ⟨by rfl, ?_⟩) (h := ?_)
      rotate_left
      · (intro w hSw; (try dsimp only at hSw); go_simp; (try with_reducible rfl))
      (try simp only [Act.put, tkA, tkB, tkC])
      refine tkH (i := 6) (d := some 46) (v := ?_) (hy := Or.inl ⟨by rfl, ?_⟩) (h := ?_)
      rotate_left
      · (intro w hSw; (try dsimp only at hSw); go_simp; (try with_reducible rfl))
      (try simp only [Act.put, tkA, tkB, tkC])
      refine tkH (i := 7) (d := some 47) (v := ?_) (hy := Or.inl ⟨by rfl, ?_⟩) (h := ?_)
      rotate_left
      · (intro w hSw; (try dsimp only at hSw); go_simp; (try with_reducible rfl))
      (try simp only [Act.put, tkA, tkB, tkC])
      refine tkH (i := 8) (d := some 48) (v := ?_) (hy := Or.inl ⟨by rfl, ?_⟩) (h := ?_)
      rotate_left
      · (intro w hSw; (try dsimp only at hSw); go_simp; (try with_reducible rfl))
      (try simp only [Act.put, tkA, tkB, tkC])
      refine wpAnyH_ready (rs := [9]) (by kernel_rfl) (by simp) ?_
      refine AllReadyH.cons (i := 9) rfl (fun K hK => ?_) AllReadyH.nil
      go_simp
      go_at_call 159
      refine (cmp_any C y x _ v (hrwH.out.cr.below (Below.refl _ _).drew) (hrwH.out.in_ hgyH.out) (hrwH.out.in_ hgxH.out) hvH.out).mono ?_
      rintro e' w2 ⟨rfl, hb2⟩
      have hb2a : Below wr.heap.size wr w2 := by first | exact hb2 | exact (Below.refl _ _).drew.trans hb2
      replace hHeld := keep2i hb2 hHeld
      have hrw3 := hrwH.out.below hb2a
      have hs3 := hsH.out.trans (Srt.of_below hb2a)
      clear hb2 hb2a
      have hrw3H := Lib.hid hrw3
      clear hrw3
      have hs3H := Lib.hid hs3
      clear hs3
      refine hK.out _ _ hHeld (fun hHeld => ?_)
      clear hK K
      (try simp only [Act.put, List.setIfInBounds_toArray, List.set_cons_zero, List.set_cons_succ])
      clear hHeld
      refine tkH (i := 10) (d := some 50) (v := ?_) (hy := Or.inl ⟨by rfl, ?_⟩) (h := ?_)
      rotate_left
      · (intro w hSw; (try dsimp only at hSw); go_simp; (try with_reducible rfl))
      (try simp only [Act.put, tkA, tkB, tkC])
      refine wpAnyH_done (by kernel_rfl) ?_ _
      by_cases hc : v < 0
      · have R1 : B1Rel C (P ++ [x] ++ R ++ S) R x m b off n w (.int .i64 ((H : Int) + 1)) (.int .i64 (J : Int)) w2 := by
          refine ⟨(p + q) / 2 + 1, q, H + 1, J, by omega, hqR, by have := hH2H.out; omega, hJH.out, by go_num, rfl, fun z _ hz => ?_, hq1H.out, hrw3H.out, hs3H.out⟩
          rw [Nat.add_sub_cancel, hyH.out] at hz
          injection hz with hz
          subst hz
          have := hvlH.out.1 hc
          unfold fI; omega
        have R1H := Lib.hid R1
        clear R1
        go_wp2
        refine ⟨?rel, ?measure⟩
        case measure => (simp [intOf]; omega)
        case rel => first | exact R1H.out | exact ⟨rfl, R1H.out⟩ | ((try refine ⟨rfl, ?_⟩); (repeat apply Exists.intro); refine ⟨R1H.out, ?_⟩; ((repeat' apply And.intro) <;> rfl))
      · have R1 : B1Rel C (P ++ [x] ++ R ++ S) R x m b off n w (.int .i64 (I : Int)) (.int .i64 (H : Int)) w2 := by
          refine ⟨p, (p + q) / 2, I, H, by omega, by omega, hIH.out, hH2H.out, rfl, rfl, hp1H.out, fun z hz => ?_, hrw3H.out, hs3H.out⟩
          rw [hyH.out] at hz
          injection hz with hz
          subst hz
          have : ¬ (vC C x) < (vC C y) := fun h => hc (hvlH.out.2 h)
          unfold fI; omega
        have R1H := Lib.hid R1
        clear R1
        go_wp2
        refine ⟨?rel, ?measure⟩
        case measure => (simp [intOf]; omega)
        case rel => first | exact R1H.out | exact ⟨rfl, R1H.out⟩ | ((try refine ⟨rfl, ?_⟩); (repeat apply Exists.intro); refine ⟨R1H.out, ?_⟩; ((repeat' apply And.intro) <;> rfl))
    · obtain rfl : p = q := by omega
      obtain rfl : I = J := by omega
      have hpl := put_left C hsRH.out hqR hp1 hq1
      have hst : S1Rel C P R S x a p b off n w (.int .i64 (a : Int)) wr := ⟨0, Nat.zero_le _, by go_num, by simpa using hrw, hs⟩
      have hIa : (I : Int) - 1 = (a : Int) + (p : Int) := by have := hmH.out; omega
      clear hrw hs hp1 hq1
      have hplH := Lib.hid hpl
      clear hpl
      have hstH := Lib.hid hst
      clear hst
      have hIH := Lib.hid hI
      clear hI
      go_wp2_with fail
      go_loopw [13] (fun vk wr => S1Rel C P R S x a p b off n w vk wr) (fun vk _ => (I - 1) - (intOf vk).toNat)
      case atStart => exact hstH.out
      case round =>
        clear hstH
        obtain ⟨t, htp, rfl, hrw, hs⟩ := hrel
        by_cases hlt2 : t < p
        · obtain ⟨y, hy⟩ : ∃ y, R[t]? = some y := ⟨R[t]'(by omega), List.getElem?_eq_getElem _⟩
          obtain ⟨K, hK⟩ : ∃ K, a + t = K := ⟨_, rfl⟩
          have hKi : (a : Int) + (t : Int) = (K : Int) := by omega
          have hd : P ++ R.take t ++ x :: R.drop t ++ S = (P ++ R.take t) ++ x :: [] ++ y :: (R.drop (t + 1) ++ S) := by rw [drop_cons hy]; simp
          rw [hd] at hrw
          rw [hKi]
          have hgx : ((P ++ R.take t) ++ x :: [] ++ y :: (R.drop (t + 1) ++ S))[K]? = some x := by rw [List.append_assoc]; exact get_mid (S := []) (by rw [List.length_append, List.length_take]; have := hPH.out; omega)
          have hgy : ((P ++ R.take t) ++ x :: [] ++ y :: (R.drop (t + 1) ++ S))[K + 1]? = some y := get_mid (S := []) (by simp only [List.length_append, List.length_cons, List.length_nil, List.length_take]; have := hPH.out; omega)
          have hKn : K + 1 < n := by have := heH.out; have := hmH.out; omega
          have R1 : S1Rel C P R S x a p b off n w (.int .i64 ((K : Int) + 1)) (exW wr b off K (K + 1) x y).drew := by
            have hsw := (hrw.swap (i := K) (j := K + 1) (by rw [List.length_append, List.length_take]; have := hPH.out; omega) (by simp)).drew
            refine ⟨t + 1, by omega, by go_num, ?_, (hs.trans (exW_srt _ _ _ _ _ _ _)).trans Srt.drew⟩
            rw [List.take_add_one, hy]
            simpa using hsw
          have x0 := hrw.at_ hgx
          have y0 := hrw.at_ hgy
          have fz := hrw.fz
          have f0 := fz K
          have f2 := fz (K + 1)
          have k0 : (0 : Int) ≤ (K : Int) := by omega
          have k1 : (K : Int) + 1 < (n : Int) := by omega
          have k2 : (K : Int) < (a : Int) + (p : Int) := by omega
          have hKI : K < I - 1 := by omega
          unfold exW at R1
          clear fz
          have hrwH := Lib.hid hrw
          clear hrw
          have hsH := Lib.hid hs
          clear hs
          have hyH := Lib.hid hy
          clear hy
          have hdH := Lib.hid hd
          clear hd
          have hgxH := Lib.hid hgx
          clear hgx
          have hgyH := Lib.hid hgy
          clear hgy
          have hKH := Lib.hid hK
          clear hK
          have hKiH := Lib.hid hKi
          clear hKi
          have R1H := Lib.hid R1
          clear R1
          go_wp2_with fail
          go_region
          go_wp2
          refine ⟨?rel, ?measure⟩
          case measure => exact (by simp [intOf]; omega)
          case rel => first | exact R1H.out | exact ⟨rfl, R1H.out⟩ | ((try refine ⟨rfl, ?_⟩); (repeat apply Exists.intro); refine ⟨R1H.out, ?_⟩; ((repeat' apply And.intro) <;> rfl))
        · obtain rfl : t = p := by omega
          obtain ⟨q1, q2⟩ := hplH.out
          have hrwH := Lib.hid hrw
          clear hrw
          have hsH := Lib.hid hs
          clear hs
          have q1H := Lib.hid q1
          clear q1
          have q2H := Lib.hid q2
          clear q2
          go_wp2
          go_end0
          exact ⟨rfl, _, q1H.out, q2H.out, by simpa using hrwH.out, hsH.out⟩
/-- the second search: ahead of which of L does y go -/
def B2Rel (C : CC) (D L : List Int) (y : Int) (a b off n : Nat) (w0 : World) (vi vj : Value) (wr : World) : Prop :=
  ∃ p q I J : Nat, p ≤ q ∧ q ≤ L.length ∧ I = a + p ∧ J = a + q ∧ vi = .int .i64 (I : Int) ∧ vj = .int .i64 (J : Int) ∧ (∀ x, 0 < p → L[p - 1]? = some x → (fI C) x ≤ (fI C) y) ∧ (∀ x, L[q]? = some x → (fI C) y < (fI C) x) ∧ RowI C wr b off n D ∧ Srt b w0 wr
def S2Rel (C : CC) (P L S : List Int) (y : Int) (a p b off n : Nat) (w0 : World) (vk : Value) (wr : World) : Prop :=
  ∃ t : Nat, p ≤ t ∧ t ≤ L.length ∧ vk = .int .i64 ((a : Int) + (t : Int)) ∧ RowI C wr b off n (P ++ L.take t ++ y :: L.drop t ++ S) ∧ Srt b w0 wr
set_option maxRecDepth 100000 in
set_option maxHeartbeats 16000000 in
theorem merge2 (C : CC) (b off n cap : Nat) (P L S : List Int) (y : Int) (a m e : Nat) (w : World) (hP : P.length = a) (hm : m = a + L.length) (hL2 : 2 ≤ L.length) (he : e = m + 1) (hn : n ≤ 1000000000) (hsL : SortedBy (fI C) L) (hrow : RowI C w b off n (P ++ L ++ [y] ++ S)) :
    Calls Tryz.prog 223 #[.slice (some ⟨b, off, none⟩) n cap, .int .i64 a, .int .i64 m, .int .i64 e, (gI C)] w (MgAns C P (L ++ [y]) S b off n w) := by
  have hlen := hrow.sl.1
  simp only [List.length_append, List.length_singleton] at hlen
  have hen : e ≤ n := by omega
  have hme : m < e := by omega
  have ham : a + 1 < m := by omega
  have hma : ¬ (m : Int) - (a : Int) = 1 := by omega
  have hma2 : ((m : Int) - (a : Int) == 1) = false := by simpa using hma
  have hem : (e : Int) - (m : Int) = 1 := by omega
  unfold gI
  have hstart : B2Rel C (P ++ L ++ [y] ++ S) L y a b off n w (.int .i64 (a : Int)) (.int .i64 (m : Int)) w := ⟨0, L.length, a, m, by omega, Nat.le_refl _, by omega, hm, rfl, rfl, fun y h => by omega, fun x hx => by simp at hx, hrow, World.grownBy.refl _ _⟩
  have hrowH := Lib.hid hrow
  clear hrow
  have hlenH := Lib.hid hlen
  clear hlen
  have hPH := Lib.hid hP
  clear hP
  have hstartH := Lib.hid hstart
  clear hstart
  have heH := Lib.hid he
  clear he
  have hsLH := Lib.hid hsL
  clear hsL
  have hmH := Lib.hid hm
  clear hm
  go_enter Tryz.func223, Tryz.ntmps223
  go_wp2_with fail
  go_loopw [14, 15] (fun vi vj wr => B2Rel C (P ++ L ++ [y] ++ S) L y a b off n w vi vj wr) (fun vi vj _ => (intOf vj).toNat - (intOf vi).toNat)
  case atStart => exact hstartH.out
  case round =>
    clear hstartH
    obtain ⟨p, q, I, J, hpq, hqL, hI, hJ, rfl, rfl, hp1, hq1, hrw, hs⟩ := hrel
    have hJm : J ≤ m := by have := hmH.out; omega
    have haI : a ≤ I := by omega
    by_cases hlt : p < q
    · have hIJ : I < J := by omega
      obtain ⟨H, hH⟩ : ∃ H, (I + J) / 2 = H := ⟨_, rfl⟩
      have hHi : ((I : Int) + (J : Int)) / 2 = (H : Int) := by omega
      have hH2 : H = a + (p + q) / 2 := by omega
      have hHI : I ≤ H := by omega
      have hHJ : H < J := by omega
      obtain ⟨x, hx⟩ : ∃ x, L[(p + q) / 2]? = some x := ⟨L[(p + q) / 2]'(by omega), List.getElem?_eq_getElem _⟩
      have hgx := get_at (P := P) (S := [y] ++ S) (i := a) hPH.out hx
      rw [← hH2, ← List.append_assoc] at hgx
      have hgy : (P ++ L ++ [y] ++ S)[m]? = some y := by rw [List.append_assoc]; exact get_mid (S := []) (by rw [List.length_append]; have := hPH.out; have := hmH.out; omega)
      have v0 := hrw.at_ hgx
      have u0 := hrw.at_ hgy
      obtain ⟨v, hv⟩ : ∃ v, Lib.compareInt (vC C x) (vC C y) = v := ⟨_, rfl⟩
      have hvl : v < 0 ↔ (vC C x) < (vC C y) := by rw [← hv]; exact cmpI_lt
      have k0 : (0 : Int) ≤ (H : Int) := by omega
      have k1 : (H : Int) < (n : Int) := by omega
      have k2 : (0 : Int) ≤ (m : Int) := by omega
      have k3 : (m : Int) < (n : Int) := by omega
      have hp1H := Lib.hid hp1
      clear hp1
      have hq1H := Lib.hid hq1
      clear hq1
      have hrwH := Lib.hid hrw
      clear hrw
      have hsH := Lib.hid hs
      clear hs
      have hxH := Lib.hid hx
      clear hx
      have hgyH := Lib.hid hgy
      clear hgy
      have hgxH := Lib.hid hgx
      clear hgx
      have hvH := Lib.hid hv
      clear hv
      have hvlH := Lib.hid hvl
      clear hvl
      have hHH := Lib.hid hH
      clear hH
      have hH2H := Lib.hid hH2
      clear hH2
      have hIH := Lib.hid hI
      clear hI
      have hJH := Lib.hid hJ
      clear hJ
      go_wp2_with fail
      refine wp_region_held_drew (S := (fun w' => w'.cell? ⟨b, off + m, none⟩ = some (.int .i64 y) ∧ w'.cell? ⟨b, off + H, none⟩ = some (.int .i64 x))) (by kernel_rfl) ⟨u0, v0⟩ (fun hHeld => ?_)
      clear u0 v0
      refine tkH (i := 0) (d := some 92) (v := ?_) (hy := Or.inl ⟨by rfl, ?_⟩) (h := ?_)
      rotate_left
      · (intro w hSw; (try dsimp only at hSw); go_simp; (try with_reducible rfl))
      (try simp only [Act.put, tkA, tkB, tkC])
      refine tkH (i := 1) (d := some 93) (v := ?_) (hy := Or.inl ⟨by rfl, ?_⟩) (h := ?_)
      rotate_left
      · (intro w hSw; (try dsimp only at hSw); go_simp; (try with_reducible rfl))
      (try simp only [Act.put, tkA, tkB, tkC])
      refine tkH (i := 2) (d := some 94) (v := ?_) (hy := Or.inl ⟨by rfl, ?_⟩) (h := ?_)
      rotate_left
      · (intro w hSw; (try dsimp only at hSw); go_simp; (try with_reducible rfl))
      (try simp only [Act.put, tkA, tkB, tkC])
      refine tkH (i := 3) (d := some 95) (v := ?_) (hy := Or.inl ⟨by rfl, ?_⟩) (h := ?_)
      rotate_left
      · (intro w hSw; (try dsimp only at hSw); go_simp; (try with_reducible rfl))
      (try simp only [Act.put, tkA, tkB, tkC])
      refine tkH (i := 4) (d := some 96) (v := ?_) (hy := Or.inl ⟨by rfl, ?_⟩) (h := ?_)
      rotate_left
      · (intro w hSw; (try dsimp only at hSw); go_simp; (try with_reducible rfl))
      (try simp only [Act.put, tkA, tkB, tkC])
      refine tkH (i := 5) (d := some 97) (v := ?_) (hy := Or.inl ⟨by rfl, ?_⟩) (h := ?_)
      rotate_left
      · (intro w hSw; (try dsimp only at hSw); go_simp; (try with_reducible rfl))
      (try simp only [Act.put, tkA, tkB, tkC])
      refine tkH (i := 6) (d := some 98) (v := ?_) (hy := Or.inl ⟨by rfl, ?_⟩) (h := ?_)
      rotate_left
      · (intro w hSw; (try dsimp only at hSw); go_simp; (try with_reducible rfl))
      (try simp only [Act.put, tkA, tkB, tkC])
      refine tkH (i := 7) (d := some 99) (v := ?_) (hy := Or.inl ⟨by rfl, ?_⟩) (h := ?_)
      rotate_left
      · (intro w hSw; (try dsimp only at hSw); go_simp; (try with_reducible rfl))
      (try simp only [Act.put, tkA, tkB, tkC])
      refine tkH (i := 8) (d := some 100) (v := ?_) (hy := Or.inl ⟨by rfl, ?_⟩) (h := ?_)
      rotate_left
      · (intro w hSw; (try dsimp only at hSw); go_simp; (try with_reducible rfl))
      (try simp only [Act.put, tkA, tkB, tkC])
      refine wpAnyH_ready (rs := [9]) (by kernel_rfl) (by simp) ?_
      refine AllReadyH.cons (i := 9) rfl (fun K hK => ?_) AllReadyH.nil
      go_simp
      go_at_call 159
      refine (cmp_any C y x _ v (hrwH.out.cr.below (Below.refl _ _).drew) (hrwH.out.in_ hgyH.out) (hrwH.out.in_ hgxH.out) hvH.out).mono ?_
      rintro e' w2 ⟨rfl, hb2⟩
      have hb2a : Below wr.heap.size wr w2 := by first | exact hb2 | exact (Below.refl _ _).drew.trans hb2
      replace hHeld := keep2i hb2 hHeld
      have hrw3 := hrwH.out.below hb2a
      have hs3 := hsH.out.trans (Srt.of_below hb2a)
      clear hb2 hb2a
      have hrw3H := Lib.hid hrw3
      clear hrw3
      have hs3H := Lib.hid hs3
      clear hs3
      refine hK.out _ _ hHeld (fun hHeld => ?_)
      clear hK K
      (try simp only [Act.put, List.setIfInBounds_toArray, List.set_cons_zero, List.set_cons_succ])
      clear hHeld
      refine tkH (i := 10) (d := some 102) (v := ?_) (hy := Or.inl ⟨by rfl, ?_⟩) (h := ?_)
      rotate_left
      · (intro w hSw; (try dsimp only at hSw); go_simp; (try with_reducible rfl))
      (try simp only [Act.put, tkA, tkB, tkC])
      refine tkH (i := 11) (d := some 103) (v := ?_) (hy := Or.inl ⟨by rfl, ?_⟩) (h := ?_)
      rotate_left
      · (intro w hSw; (try dsimp only at hSw); go_simp; (try with_reducible rfl))
      (try simp only [Act.put, tkA, tkB, tkC])
      refine wpAnyH_done (by kernel_rfl) ?_ _
      by_cases hc : v < 0
      · have R1 : B2Rel C (P ++ L ++ [y] ++ S) L y a b off n w (.int .i64 (I : Int)) (.int .i64 (H : Int)) w2 := by
          refine ⟨p, (p + q) / 2, I, H, by omega, by omega, hIH.out, hH2H.out, rfl, rfl, hp1H.out, fun z hz => ?_, hrw3H.out, hs3H.out⟩
          rw [hxH.out] at hz
          injection hz with hz
          subst hz
          have := hvlH.out.1 hc
          unfold fI; omega
        rw [show (!decide (v < 0)) = false by simp [hc]]
        have R1H := Lib.hid R1
        clear R1
        go_wp2
        refine ⟨?rel, ?measure⟩
        case measure => (simp [intOf]; omega)
        case rel => first | exact R1H.out | exact ⟨rfl, R1H.out⟩ | ((try refine ⟨rfl, ?_⟩); (repeat apply Exists.intro); refine ⟨R1H.out, ?_⟩; ((repeat' apply And.intro) <;> rfl))
      · have R1 : B2Rel C (P ++ L ++ [y] ++ S) L y a b off n w (.int .i64 ((H : Int) + 1)) (.int .i64 (J : Int)) w2 := by
          refine ⟨(p + q) / 2 + 1, q, H + 1, J, by omega, hqL, by have := hH2H.out; omega, hJH.out, by go_num, rfl, fun z _ hz => ?_, hq1H.out, hrw3H.out, hs3H.out⟩
          rw [Nat.add_sub_cancel, hxH.out] at hz
          injection hz with hz
          subst hz
          have : ¬ (vC C x) < (vC C y) := fun h => hc (hvlH.out.2 h)
          unfold fI; omega
        rw [show (!decide (v < 0)) = true by simp; omega]
        have R1H := Lib.hid R1
        clear R1
        go_wp2
        refine ⟨?rel, ?measure⟩
        case measure => (simp [intOf]; omega)
        case rel => first | exact R1H.out | exact ⟨rfl, R1H.out⟩ | ((try refine ⟨rfl, ?_⟩); (repeat apply Exists.intro); refine ⟨R1H.out, ?_⟩; ((repeat' apply And.intro) <;> rfl))
    · obtain rfl : p = q := by omega
      obtain rfl : I = J := by omega
      have hpl := put_right C hsLH.out hqL hp1 hq1
      have hst : S2Rel C P L S y a p b off n w (.int .i64 (m : Int)) wr := ⟨L.length, hqL, Nat.le_refl _, by have := hmH.out; congr 1; omega, by simpa using hrw, hs⟩
      have hIa : (I : Int) = (a : Int) + (p : Int) := by omega
      clear hrw hs hp1 hq1
      have hplH := Lib.hid hpl
      clear hpl
      have hstH := Lib.hid hst
      clear hst
      have hIH := Lib.hid hI
      clear hI
      have hIaH := Lib.hid hIa
      clear hIa
      go_wp2_with fail
      go_loopw [17] (fun vk wr => S2Rel C P L S y a p b off n w vk wr) (fun vk _ => (intOf vk).toNat)
      case atStart => exact hstH.out
      case round =>
        clear hstH
        obtain ⟨t, hpt, htL, rfl, hrw, hs⟩ := hrel
        have hIa := hIaH.out
        by_cases hlt2 : p < t
        · obtain ⟨t, rfl⟩ : ∃ u, t = u + 1 := ⟨t - 1, by omega⟩
          obtain ⟨x, hx⟩ : ∃ x, L[t]? = some x := ⟨L[t]'(by omega), List.getElem?_eq_getElem _⟩
          obtain ⟨K, hK⟩ : ∃ K, a + t = K := ⟨_, rfl⟩
          have hKi : (a : Int) + ((t + 1 : Nat) : Int) = (K : Int) + 1 := by omega
          have hd : P ++ L.take (t + 1) ++ y :: L.drop (t + 1) ++ S = (P ++ L.take t) ++ x :: [] ++ y :: (L.drop (t + 1) ++ S) := by rw [List.take_add_one, hx]; simp
          rw [hd] at hrw
          rw [hKi]
          have hgx : ((P ++ L.take t) ++ x :: [] ++ y :: (L.drop (t + 1) ++ S))[K]? = some x := by rw [List.append_assoc]; exact get_mid (S := []) (by rw [List.length_append, List.length_take]; have := hPH.out; omega)
          have hgy : ((P ++ L.take t) ++ x :: [] ++ y :: (L.drop (t + 1) ++ S))[K + 1]? = some y := get_mid (S := []) (by simp only [List.length_append, List.length_cons, List.length_nil, List.length_take]; have := hPH.out; omega)
          have hKn : K + 1 < n := by have := hmH.out; omega
          have R1 : S2Rel C P L S y a p b off n w (.int .i64 (K : Int)) (exW wr b off (K + 1) K y x).drew := by
            have hsw := (hrw.swap2 (i := K) (j := K + 1) (by rw [List.length_append, List.length_take]; have := hPH.out; omega) (by simp)).drew
            refine ⟨t, by omega, by omega, by congr 1; omega, ?_, (hs.trans (exW_srt _ _ _ _ _ _ _)).trans Srt.drew⟩
            rw [drop_cons hx]
            simpa using hsw
          have x0 := hrw.at_ hgx
          have y0 := hrw.at_ hgy
          have fz := hrw.fz
          have f0 := fz K
          have f2 := fz (K + 1)
          have k0 : (0 : Int) ≤ (K : Int) := by omega
          have k1 : (K : Int) + 1 < (n : Int) := by omega
          have k2 : (I : Int) < (K : Int) + 1 := by omega
          have hw2 : IntKind.i64.wrap (K : Int) = (K : Int) := by rw [IntKind.wrap_i64]; omega
          unfold exW at R1
          clear fz hIa
          have hrwH := Lib.hid hrw
          clear hrw
          have hsH := Lib.hid hs
          clear hs
          have hxH := Lib.hid hx
          clear hx
          have hdH := Lib.hid hd
          clear hd
          have hgxH := Lib.hid hgx
          clear hgx
          have hgyH := Lib.hid hgy
          clear hgy
          have hKH := Lib.hid hK
          clear hK
          have hKiH := Lib.hid hKi
          clear hKi
          have R1H := Lib.hid R1
          clear R1
          go_wp2_with fail
          go_region
          go_wp2
          refine ⟨?rel, ?measure⟩
          case measure => exact (by simp [intOf] <;> omega)
          case rel => first | exact R1H.out | exact ⟨rfl, R1H.out⟩ | ((try refine ⟨rfl, ?_⟩); (repeat apply Exists.intro); refine ⟨R1H.out, ?_⟩; ((repeat' apply And.intro) <;> rfl))
        · obtain rfl : t = p := by omega
          obtain ⟨q1, q2⟩ := hplH.out
          have hng : ¬ (I : Int) < (a : Int) + (t : Int) := by omega
          clear hIa
          have hrwH := Lib.hid hrw
          clear hrw
          have hsH := Lib.hid hs
          clear hs
          have q1H := Lib.hid q1
          clear q1
          have q2H := Lib.hid q2
          clear q2
          go_wp2
          go_end0
          exact ⟨rfl, _, q1H.out, q2H.out, by simpa using hrwH.out, hsH.out⟩
end Go.Proofs.YtbnkoefljcekbaaGreatDoor.C9

namespace Go.Proofs.YtbnkoefljcekbaaGreatDoor.C9
open Go.ChangeShapes Go.WideShapes Go.Deep Go.RowKit
set_option linter.unusedVariables false

def MgHyp (C : CC) (b off n cap k : Nat) : Prop := ∀ (P L R S : List Int) (a m e : Nat) (w : World), P.length = a → m = a + L.length → e = m + R.length → e - a ≤ k → 1 ≤ L.length → 1 ≤ R.length → SortedBy (fI C) L → SortedBy (fI C) R → RowI C w b off n (P ++ L ++ R ++ S) →
  Calls Tryz.prog 223 #[.slice (some ⟨b, off, none⟩) n cap, .int .i64 a, .int .i64 m, .int .i64 e, (gI C)] w (MgAns C P (L ++ R) S b off n w)
def B3Rel (C : CC) (D L R : List Int) (a mid s0 r0 b off n : Nat) (w0 : World) (vs vr : Value) (wr : World) : Prop :=
  ∃ st r : Nat, s0 ≤ st ∧ st ≤ r ∧ r ≤ r0 ∧ vs = .int .i64 (st : Int) ∧ vr = .int .i64 (r : Int) ∧ (s0 < st → ∀ x y, L[st - 1 - a]? = some x → R[mid - st]? = some y → (fI C) x ≤ (fI C) y) ∧ (r < r0 → ∀ x y, L[r - a]? = some x → R[mid - 1 - r]? = some y → (fI C) y < (fI C) x) ∧ RowI C wr b off n D ∧ Srt b w0 wr
theorem sorted_parts (C : CC) {L R : List Int} {i j : Nat} (hL : SortedBy (fI C) L) (hR : SortedBy (fI C) R) (hj : j ≤ R.length) (hi : i ≤ L.length)
    (h1 : 0 < i → ∀ x y, L[i - 1]? = some x → R[j]? = some y → (fI C) x ≤ (fI C) y) (h2 : 0 < j → ∀ x y, L[i]? = some x → R[j - 1]? = some y → (fI C) y < (fI C) x) {M1 M2 : List Int}
    (m1 : SortedBy (fI C) M1) (m2 : SortedBy (fI C) M2) (s1 : SameCls (fI C) M1 (L.take i ++ R.take j)) (s2 : SameCls (fI C) M2 (L.drop i ++ R.drop j)) : SortedBy (fI C) (M1 ++ M2) ∧ SameCls (fI C) (M1 ++ M2) (L ++ R) := by
  have := sym_step (f := fI C) (A := L.take i) (X := L.drop i) (Y := R.take j) (B := R.drop j) (M1 := M1) (M2 := M2) (by rw [List.take_append_drop]; exact hL) (by rw [List.take_append_drop]; exact hR)
    (fun x hx y hy => by
      rw [getLast_take hi] at hx
      rw [head_drop] at hy
      split at hx
      · cases hx
      · exact h1 (by omega) x y hx hy)
    (fun x hx y hy => by
      rw [head_drop] at hx
      rw [getLast_take hj] at hy
      split at hy
      · cases hy
      · exact h2 (by omega) x y hx hy) m1 m2 s1 s2
  rw [List.take_append_drop, List.take_append_drop] at this
  exact this
set_option maxRecDepth 100000 in
set_option maxHeartbeats 32000000 in
theorem merge3 (C : CC) (b off n cap k : Nat) (ih : MgHyp C b off n cap k) (P L R S : List Int) (a m e : Nat) (w : World) (hP : P.length = a) (hm : m = a + L.length) (he : e = m + R.length) (hk : e - a ≤ k + 1) (hl1 : 2 ≤ L.length) (hl2 : 2 ≤ R.length) (hn : n ≤ 1000000000) (hsL : SortedBy (fI C) L) (hsR : SortedBy (fI C) R) (hrow : RowI C w b off n (P ++ L ++ R ++ S)) :
    Calls Tryz.prog 223 #[.slice (some ⟨b, off, none⟩) n cap, .int .i64 a, .int .i64 m, .int .i64 e, (gI C)] w (MgAns C P (L ++ R) S b off n w) := by
  have hlen := hrow.sl.1
  simp only [List.length_append] at hlen
  have hen : e ≤ n := by omega
  have hme : m + 2 ≤ e := by omega
  have ham : a + 2 ≤ m := by omega
  have hma : ¬ (m : Int) - (a : Int) = 1 := by omega
  have hma2 : ((m : Int) - (a : Int) == 1) = false := by simpa using hma
  have hem : ¬ (e : Int) - (m : Int) = 1 := by omega
  have hem2 : ((e : Int) - (m : Int) == 1) = false := by simpa using hem
  obtain ⟨mid, hmid⟩ : ∃ mid, (a + e) / 2 = mid := ⟨_, rfl⟩
  have hmidi : ((a : Int) + (e : Int)) / 2 = (mid : Int) := by omega
  have hmid1 : a < mid := by omega
  have hmid2 : mid < e := by omega
  unfold MgHyp at ih
  unfold gI at ih
  unfold gI
  by_cases hmm : mid < m
  · obtain ⟨s0, hs0⟩ : ∃ s0, mid + m - e = s0 := ⟨_, rfl⟩
    have hs0i : (mid : Int) + (m : Int) - (e : Int) = (s0 : Int) := by omega
    obtain ⟨r0, hr0⟩ : ∃ r0, mid = r0 := ⟨_, rfl⟩
    have hsr : s0 ≤ r0 := by omega
    have hgeo : a ≤ s0 ∧ r0 ≤ mid ∧ r0 ≤ m ∧ mid - s0 ≤ e - m ∧ (s0 = a ∨ mid - s0 = e - m) ∧ (r0 = m ∨ r0 = mid) := ⟨by omega, by omega, by omega, by omega, .inr (by omega), .inr hr0.symm⟩
    have hrowH := Lib.hid hrow
    clear hrow
    have hlenH := Lib.hid hlen
    clear hlen
    have hPH := Lib.hid hP
    clear hP
    have heH := Lib.hid he
    clear he
    have hsLH := Lib.hid hsL
    clear hsL
    have hsRH := Lib.hid hsR
    clear hsR
    have hmH := Lib.hid hm
    clear hm
    have hgeoH := Lib.hid hgeo
    clear hgeo
    have hsrH := Lib.hid hsr
    clear hsr
    have ihH := Lib.hid ih
    clear ih
    have hl1H := Lib.hid hl1
    clear hl1
    have hl2H := Lib.hid hl2
    clear hl2
    have hs0H := Lib.hid hs0
    clear hs0
    have hr0H := Lib.hid hr0
    clear hr0
    have hmidH := Lib.hid hmid
    clear hmid
    go_enter Tryz.func223, Tryz.ntmps223
    go_wp2_with fail
    go_loopw [20, 21] (fun vs vr wr => B3Rel C (P ++ L ++ R ++ S) L R a mid s0 r0 b off n w vs vr wr) (fun vs vr _ => (intOf vr).toNat - (intOf vs).toNat)
    case atStart => exact ⟨s0, r0, Nat.le_refl _, hsrH.out, Nat.le_refl _, rfl, (by rw [hr0H.out]), fun h => by omega, fun h => by omega, hrowH.out, World.grownBy.refl _ _⟩
    case round =>
      obtain ⟨st, r, hst0, hstr, hrr0, rfl, rfl, hgood, hbad, hrw, hs⟩ := hrel
      obtain ⟨g1, g2, g3, g4, g5, g6⟩ := hgeoH.out
      have hrm : r ≤ m := by omega
      have hrmid : r ≤ mid := by omega
      have hast : a ≤ st := by omega
      by_cases hlt : st < r
      · obtain ⟨H, hH⟩ : ∃ H, (st + r) / 2 = H := ⟨_, rfl⟩
        have hHi : ((st : Int) + (r : Int)) / 2 = (H : Int) := by omega
        have hHI : st ≤ H := by omega
        have hHJ : H < r := by omega
        obtain ⟨Z, hZ⟩ : ∃ Z, mid + m - 1 - H = Z := ⟨_, rfl⟩
        have hZi : (mid : Int) + (m : Int) - 1 - (H : Int) = (Z : Int) := by omega
        have hm := hmH.out
        have he := heH.out
        obtain ⟨x, hx⟩ : ∃ x, L[H - a]? = some x := ⟨L[H - a]'(by omega), List.getElem?_eq_getElem _⟩
        obtain ⟨y, hy⟩ : ∃ y, R[mid - 1 - H]? = some y := ⟨R[mid - 1 - H]'(by omega), List.getElem?_eq_getElem _⟩
        have hgx := get_at (P := P) (S := R ++ S) (i := a) hPH.out hx
        rw [← List.append_assoc, show a + (H - a) = H by omega] at hgx
        have hgy := get_at (P := P ++ L) (S := S) (i := m) (by rw [List.length_append]; have := hPH.out; omega) hy
        rw [show m + (mid - 1 - H) = Z by omega] at hgy
        have v0 := hrw.at_ hgx
        have u0 := hrw.at_ hgy
        obtain ⟨v, hv⟩ : ∃ v, Lib.compareInt (vC C x) (vC C y) = v := ⟨_, rfl⟩
        have hvl : v < 0 ↔ (vC C x) < (vC C y) := by rw [← hv]; exact cmpI_lt
        have k0 : (0 : Int) ≤ (H : Int) := by omega
        have k1 : (H : Int) < (n : Int) := by omega
        have k2 : (0 : Int) ≤ (Z : Int) := by omega
        have k3 : (Z : Int) < (n : Int) := by omega
        have hwZ : IntKind.i64.wrap (Z : Int) = (Z : Int) := by rw [IntKind.wrap_i64]; omega
        clear hm he
        have hgoodH := Lib.hid hgood
        clear hgood
        have hbadH := Lib.hid hbad
        clear hbad
        have hrwH := Lib.hid hrw
        clear hrw
        have hsH := Lib.hid hs
        clear hs
        have hxH := Lib.hid hx
        clear hx
        have hyH := Lib.hid hy
        clear hy
        have hgyH := Lib.hid hgy
        clear hgy
        have hgxH := Lib.hid hgx
        clear hgx
        have hvH := Lib.hid hv
        clear hv
        have hvlH := Lib.hid hvl
        clear hvl
        have hHH := Lib.hid hH
        clear hH
        have hZH := Lib.hid hZ
        clear hZ
        have g1H := Lib.hid g1
        clear g1
        have g2H := Lib.hid g2
        clear g2
        have g3H := Lib.hid g3
        clear g3
        have g4H := Lib.hid g4
        clear g4
        have g5H := Lib.hid g5
        clear g5
        have g6H := Lib.hid g6
        clear g6
        go_wp2_with fail
        refine wp_region_held_drew (S := (fun w' => w'.cell? ⟨b, off + Z, none⟩ = some (.int .i64 y) ∧ w'.cell? ⟨b, off + H, none⟩ = some (.int .i64 x))) (by kernel_rfl) ⟨u0, v0⟩ (fun hHeld => ?_)
        clear u0 v0
        refine tkH (i := 0) (d := some 158) (v := ?_) (hy := Or.inl ⟨by rfl, ?_⟩) (h := ?_)
        rotate_left
        · (intro w hSw; (try dsimp only at hSw); go_simp; (try with_reducible rfl))
        (try simp only [Act.put, tkA, tkB, tkC])
        refine tkH (i := 1) (d := some 159) (v := ?_) (hy := Or.inl ⟨by rfl, ?_⟩) (h := ?_)
        rotate_left
        · (intro w hSw; (try dsimp only at hSw); go_simp; (try with_reducible rfl))
        (try simp only [Act.put, tkA, tkB, tkC])
        refine tkH (i := 2) (d := some 160) (v := ?_) (hy := Or.inl ⟨by rfl, ?_⟩) (h := ?_)
        rotate_left
        · (intro w hSw; (try dsimp only at hSw); go_simp; (try with_reducible rfl))
        (try simp only [Act.put, tkA, tkB, tkC])
        refine tkH (i := 3) (d := some 161) (v := ?_) (hy := Or.inl ⟨by rfl, ?_⟩) (h := ?_)
        rotate_left
        · (intro w hSw; (try dsimp only at hSw); go_simp; (try with_reducible rfl))
        (try simp only [Act.put, tkA, tkB, tkC])
        refine tkH (i := 4) (d := some 162) (v := ?_) (hy := Or.inl ⟨by rfl, ?_⟩) (h := ?_)
        rotate_left
        · (intro w hSw; (try dsimp only at hSw); go_simp; (try with_reducible rfl))
        (try simp only [Act.put, tkA, tkB, tkC])
        refine tkH (i := 5) (d := some 163) (v := ?_) (hy := Or.inl ⟨by rfl, ?_⟩) (h := ?_)
        rotate_left
        · (intro w hSw; (try dsimp only at hSw); go_simp; (try with_reducible rfl))
        (try simp only [Act.put, tkA, tkB, tkC])
        refine tkH (i := 6) (d := some 164) (v := ?_) (hy := Or.inl ⟨by rfl, ?_⟩) (h := ?_)
        rotate_left
        · (intro w hSw; (try dsimp only at hSw); go_simp; (try with_reducible rfl))
        (try simp only [Act.put, tkA, tkB, tkC])
        refine tkH (i := 7) (d := some 165) (v := ?_) (hy := Or.inl ⟨by rfl, ?_⟩) (h := ?_)
        rotate_left
        · (intro w hSw; (try dsimp only at hSw); go_simp; (try with_reducible rfl))
        (try simp only [Act.put, tkA, tkB, tkC])
        refine tkH (i := 8) (d := some 166) (v := ?_) (hy := Or.inl ⟨by rfl, ?_⟩) (h := ?_)
        rotate_left
        · (intro w hSw; (try dsimp only at hSw); go_simp; (try with_reducible rfl))
        (try simp only [Act.put, tkA, tkB, tkC])
        refine tkH (i := 9) (d := some 167) (v := ?_) (hy := Or.inl ⟨by rfl, ?_⟩) (h := ?_)
        rotate_left
        · (intro w hSw; (try dsimp only at hSw); go_simp; (try with_reducible rfl))
        (try simp only [Act.put, tkA, tkB, tkC])
        refine tkH (i := 10) (d := some 168) (v := ?_) (hy := Or.inl ⟨by rfl, ?_⟩) (h := ?_)
        rotate_left
        · (intro w hSw; (try dsimp only at hSw); go_simp; (try with_reducible rfl))
        (try simp only [Act.put, tkA, tkB, tkC])
        refine wpAnyH_ready (rs := [11]) (by kernel_rfl) (by simp) ?_
        refine AllReadyH.cons (i := 11) rfl (fun K hK => ?_) AllReadyH.nil
        go_simp
        go_at_call 159
        refine (cmp_any C y x _ v (hrwH.out.cr.below (Below.refl _ _).drew) (hrwH.out.in_ hgyH.out) (hrwH.out.in_ hgxH.out) hvH.out).mono ?_
        rintro e' w2 ⟨rfl, hb2⟩
        have hb2a : Below wr.heap.size wr w2 := by first | exact hb2 | exact (Below.refl _ _).drew.trans hb2
        replace hHeld := keep2i hb2 hHeld
        have hrw3 := hrwH.out.below hb2a
        have hs3 := hsH.out.trans (Srt.of_below hb2a)
        clear hb2 hb2a
        have hrw3H := Lib.hid hrw3
        clear hrw3
        have hs3H := Lib.hid hs3
        clear hs3
        refine hK.out _ _ hHeld (fun hHeld => ?_)
        clear hK K
        (try simp only [Act.put, List.setIfInBounds_toArray, List.set_cons_zero, List.set_cons_succ])
        clear hHeld
        refine tkH (i := 12) (d := some 170) (v := ?_) (hy := Or.inl ⟨by rfl, ?_⟩) (h := ?_)
        rotate_left
        · (intro w hSw; (try dsimp only at hSw); go_simp; (try with_reducible rfl))
        (try simp only [Act.put, tkA, tkB, tkC])
        refine tkH (i := 13) (d := some 171) (v := ?_) (hy := Or.inl ⟨by rfl, ?_⟩) (h := ?_)
        rotate_left
        · (intro w hSw; (try dsimp only at hSw); go_simp; (try with_reducible rfl))
        (try simp only [Act.put, tkA, tkB, tkC])
        refine wpAnyH_done (by kernel_rfl) ?_ _
        by_cases hc : v < 0
        · have R1 : B3Rel C (P ++ L ++ R ++ S) L R a mid s0 r0 b off n w (.int .i64 (st : Int)) (.int .i64 (H : Int)) w2 := by
            refine ⟨st, H, hst0, hHI, by omega, rfl, rfl, hgoodH.out, fun _ x' y' hx' hy' => ?_, hrw3H.out, hs3H.out⟩
            rw [hxH.out] at hx'
            rw [hyH.out] at hy'
            injection hx' with hx'
            injection hy' with hy'
            subst hx'
            subst hy'
            have := hvlH.out.1 hc
            unfold fI; omega
          rw [show (!decide (v < 0)) = false by simp [hc]]
          have R1H := Lib.hid R1
          clear R1
          go_wp2
          refine ⟨?rel, ?measure⟩
          case measure => (simp [intOf]; omega)
          case rel => first | exact R1H.out | exact ⟨rfl, R1H.out⟩ | ((try refine ⟨rfl, ?_⟩); (repeat apply Exists.intro); refine ⟨R1H.out, ?_⟩; ((repeat' apply And.intro) <;> rfl))
        · have R1 : B3Rel C (P ++ L ++ R ++ S) L R a mid s0 r0 b off n w (.int .i64 ((H : Int) + 1)) (.int .i64 (r : Int)) w2 := by
            refine ⟨H + 1, r, by omega, by omega, hrr0, by go_num, rfl, fun _ x' y' hx' hy' => ?_, hbadH.out, hrw3H.out, hs3H.out⟩
            rw [show H + 1 - 1 - a = H - a by omega, hxH.out] at hx'
            rw [show mid - (H + 1) = mid - 1 - H by omega, hyH.out] at hy'
            injection hx' with hx'
            injection hy' with hy'
            subst hx'
            subst hy'
            have : ¬ (vC C x) < (vC C y) := fun h => hc (hvlH.out.2 h)
            unfold fI; omega
          rw [show (!decide (v < 0)) = true by simp; omega]
          have R1H := Lib.hid R1
          clear R1
          go_wp2
          refine ⟨?rel, ?measure⟩
          case measure => (simp [intOf]; omega)
          case rel => first | exact R1H.out | exact ⟨rfl, R1H.out⟩ | ((try refine ⟨rfl, ?_⟩); (repeat apply Exists.intro); refine ⟨R1H.out, ?_⟩; ((repeat' apply And.intro) <;> rfl))
      · obtain rfl : st = r := by omega
        have hm := hmH.out
        have he := heH.out
        have hP := hPH.out
        obtain ⟨En, hEn⟩ : ∃ En, mid + m - st = En := ⟨_, rfl⟩
        have hEni : (mid : Int) + (m : Int) - (st : Int) = (En : Int) := by omega
        have hsym := fun M1 M2 => sorted_parts C (L := L) (R := R) (i := st - a) (j := mid - st) (M1 := M1) (M2 := M2) hsLH.out hsRH.out (by omega) (by omega)
          (fun h0 x y hx hy => by
            rcases g5 with e0 | e0
            · exact hgood (by omega) x y (by rw [show st - 1 - a = st - a - 1 by omega]; exact hx) hy
            · by_cases hss : s0 < st
              · exact hgood hss x y (by rw [show st - 1 - a = st - a - 1 by omega]; exact hx) hy
              · exfalso
                have := (List.getElem?_eq_some_iff.1 hy).1
                omega)
          (fun h0 x y hx hy => by
            by_cases hss : st < r0
            · exact hbad hss x y hx (by rw [show mid - 1 - st = mid - st - 1 by omega]; exact hy)
            · exfalso
              have := (List.getElem?_eq_some_iff.1 hx).1
              rcases g6 with e0 | e0 <;> omega)
        obtain ⟨A, hA⟩ : ∃ A, L.take (st - a) = A := ⟨_, rfl⟩
        obtain ⟨X, hX⟩ : ∃ X, L.drop (st - a) = X := ⟨_, rfl⟩
        obtain ⟨Y, hY⟩ : ∃ Y, R.take (mid - st) = Y := ⟨_, rfl⟩
        obtain ⟨B, hB⟩ : ∃ B, R.drop (mid - st) = B := ⟨_, rfl⟩
        have hAX : L = A ++ X := by rw [← hA, ← hX, List.take_append_drop]
        have hYB : R = Y ++ B := by rw [← hY, ← hB, List.take_append_drop]
        have lA : A.length = st - a := by rw [← hA, List.length_take]; omega
        have lX : X.length = m - st := by rw [← hX, List.length_drop]; omega
        have lY : Y.length = mid - st := by rw [← hY, List.length_take]; omega
        have lB : B.length = e - En := by rw [← hB, List.length_drop]; omega
        have hsA : SortedBy (fI C) A := by have := hsLH.out; rw [hAX] at this; exact sorted_left this
        have hsX : SortedBy (fI C) X := by have := hsLH.out; rw [hAX] at this; exact sorted_right this
        have hsY : SortedBy (fI C) Y := by have := hsRH.out; rw [hYB] at this; exact sorted_left this
        have hsB : SortedBy (fI C) B := by have := hsRH.out; rw [hYB] at this; exact sorted_right this
        rw [hA, hX, hY, hB] at hsym
        have hrwA : RowI C wr b off n (P ++ A ++ X ++ Y ++ (B ++ S)) := by rw [hAX, hYB] at hrw; simpa using hrw
        have hEe : En ≤ e := by omega
        have hEm : m ≤ En := by omega
        have hEl : En + st = mid + m := by omega
        have l1 := hl1H.out
        have l2 := hl2H.out
        clear hgood hbad hrw
        by_cases hX0 : X = []
        · have hsm : m ≤ st := by have := lX; rw [hX0, List.length_nil] at this; omega
          have t0 : ¬ (st : Int) < (m : Int) := by omega
          have t2 : (a : Int) < (st : Int) := by omega
          have t5 : ¬ (mid : Int) < (En : Int) := by omega
          by_cases hY0 : Y = []
          · have hm3 : mid ≤ st := by have := lY; rw [hY0, List.length_nil] at this; omega
            have t3 : ¬ (st : Int) < (mid : Int) := by omega
            have hfin := hsym (A ++ Y) (X ++ B) (by rw [hY0, List.append_nil]; exact hsA) (by rw [hX0]; exact hsB) (SameCls.refl _) (SameCls.refl _)
            have hrw9 : RowI C wr b off n (P ++ ((A ++ Y) ++ (X ++ B)) ++ S) := by rw [hX0, hY0] at hrwA ⊢; simpa using hrwA
            have hPH := Lib.hid hP
            clear hP
            have lAH := Lib.hid lA
            clear lA
            have lXH := Lib.hid lX
            clear lX
            have lYH := Lib.hid lY
            clear lY
            have lBH := Lib.hid lB
            clear lB
            have hsAH := Lib.hid hsA
            clear hsA
            have hsXH := Lib.hid hsX
            clear hsX
            have hsYH := Lib.hid hsY
            clear hsY
            have hsBH := Lib.hid hsB
            clear hsB
            have hrwAH := Lib.hid hrwA
            clear hrwA
            have hAXH := Lib.hid hAX
            clear hAX
            have hYBH := Lib.hid hYB
            clear hYB
            have hAH := Lib.hid hA
            clear hA
            have hXH := Lib.hid hX
            clear hX
            have hYH := Lib.hid hY
            clear hY
            have hBH := Lib.hid hB
            clear hB
            have hmH := Lib.hid hm
            clear hm
            have heH := Lib.hid he
            clear he
            have g1H := Lib.hid g1
            clear g1
            have g2H := Lib.hid g2
            clear g2
            have g3H := Lib.hid g3
            clear g3
            have g4H := Lib.hid g4
            clear g4
            have g5H := Lib.hid g5
            clear g5
            have g6H := Lib.hid g6
            clear g6
            have hEnH := Lib.hid hEn
            clear hEn
            have hElH := Lib.hid hEl
            clear hEl
            have hX0H := Lib.hid hX0
            clear hX0
            have hY0H := Lib.hid hY0
            clear hY0
            have hsymH := Lib.hid hsym
            clear hsym
            have hfinH := Lib.hid hfin
            clear hfin
            have hrw9H := Lib.hid hrw9
            clear hrw9
            have hsH := Lib.hid hs
            clear hs
            go_wp2
            all_goals (go_end0; exact ⟨rfl, _, hfinH.out.1, hfinH.out.2, hrw9H.out, hsH.out⟩)
          · have y1 : 1 ≤ Y.length := by cases Y with | nil => exact absurd rfl hY0 | cons z t => simp
            have t3 : (st : Int) < (mid : Int) := by omega
            have hcall := ihH.out P A Y (X ++ (B ++ S)) a st mid wr hP (by omega) (by omega) (by omega) (by omega) y1 hsA hsY (by rw [hX0] at hrwA ⊢; simpa using hrwA)
            have hPH := Lib.hid hP
            clear hP
            have lAH := Lib.hid lA
            clear lA
            have lXH := Lib.hid lX
            clear lX
            have lYH := Lib.hid lY
            clear lY
            have lBH := Lib.hid lB
            clear lB
            have hsAH := Lib.hid hsA
            clear hsA
            have hsXH := Lib.hid hsX
            clear hsX
            have hsYH := Lib.hid hsY
            clear hsY
            have hsBH := Lib.hid hsB
            clear hsB
            have hrwAH := Lib.hid hrwA
            clear hrwA
            have hAXH := Lib.hid hAX
            clear hAX
            have hYBH := Lib.hid hYB
            clear hYB
            have hAH := Lib.hid hA
            clear hA
            have hXH := Lib.hid hX
            clear hX
            have hYH := Lib.hid hY
            clear hY
            have hBH := Lib.hid hB
            clear hB
            have hmH := Lib.hid hm
            clear hm
            have heH := Lib.hid he
            clear he
            have g1H := Lib.hid g1
            clear g1
            have g2H := Lib.hid g2
            clear g2
            have g3H := Lib.hid g3
            clear g3
            have g4H := Lib.hid g4
            clear g4
            have g5H := Lib.hid g5
            clear g5
            have g6H := Lib.hid g6
            clear g6
            have hEnH := Lib.hid hEn
            clear hEn
            have hElH := Lib.hid hEl
            clear hEl
            have hX0H := Lib.hid hX0
            clear hX0
            have hY0H := Lib.hid hY0
            clear hY0
            have hsymH := Lib.hid hsym
            clear hsym
            have hsH := Lib.hid hs
            clear hs
            have hcallH := Lib.hid hcall
            clear hcall
            go_wp2_with fail
            refine hcallH.out.mono ?_
            rintro e' w3 ⟨rfl, M1, q1, c1, hrw8, hs8⟩
            have hfin := hsymH.out M1 (X ++ B) q1 (by rw [hX0H.out]; exact hsBH.out) c1 (SameCls.refl _)
            have hs9 := hsH.out.trans hs8
            clear q1 c1 hs8
            have hfinH := Lib.hid hfin
            clear hfin
            have hrw8H := Lib.hid hrw8
            clear hrw8
            have hs9H := Lib.hid hs9
            clear hs9
            go_wp2
            all_goals (go_end0; exact ⟨rfl, _, hfinH.out.1, hfinH.out.2, by simpa using hrw8H.out, hs9H.out⟩)
        · have x1 : 1 ≤ X.length := by cases X with | nil => exact absurd rfl hX0 | cons z t => simp
          have t0 : (st : Int) < (m : Int) := by omega
          have t5 : (mid : Int) < (En : Int) := by omega
          by_cases hY0 : Y = []
          · have hm3 : mid ≤ st := by have := lY; rw [hY0, List.length_nil] at this; omega
            have t1 : ¬ (m : Int) < (En : Int) := by omega
            have t2 : (a : Int) < (st : Int) := by omega
            have t3 : ¬ (st : Int) < (mid : Int) := by omega
            have t6 : (En : Int) < (e : Int) := by omega
            have hcall := ihH.out (P ++ A) X B S mid En e wr (by rw [List.length_append]; omega) (by omega) (by omega) (by omega) x1 (by omega) hsX hsB (by rw [hY0] at hrwA; simpa using hrwA)
            have hPH := Lib.hid hP
            clear hP
            have lAH := Lib.hid lA
            clear lA
            have lXH := Lib.hid lX
            clear lX
            have lYH := Lib.hid lY
            clear lY
            have lBH := Lib.hid lB
            clear lB
            have hsAH := Lib.hid hsA
            clear hsA
            have hsXH := Lib.hid hsX
            clear hsX
            have hsYH := Lib.hid hsY
            clear hsY
            have hsBH := Lib.hid hsB
            clear hsB
            have hrwAH := Lib.hid hrwA
            clear hrwA
            have hAXH := Lib.hid hAX
            clear hAX
            have hYBH := Lib.hid hYB
            clear hYB
            have hAH := Lib.hid hA
            clear hA
            have hXH := Lib.hid hX
            clear hX
            have hYH := Lib.hid hY
            clear hY
            have hBH := Lib.hid hB
            clear hB
            have hmH := Lib.hid hm
            clear hm
            have heH := Lib.hid he
            clear he
            have g1H := Lib.hid g1
            clear g1
            have g2H := Lib.hid g2
            clear g2
            have g3H := Lib.hid g3
            clear g3
            have g4H := Lib.hid g4
            clear g4
            have g5H := Lib.hid g5
            clear g5
            have g6H := Lib.hid g6
            clear g6
            have hEnH := Lib.hid hEn
            clear hEn
            have hElH := Lib.hid hEl
            clear hEl
            have hX0H := Lib.hid hX0
            clear hX0
            have hY0H := Lib.hid hY0
            clear hY0
            have hsymH := Lib.hid hsym
            clear hsym
            have hsH := Lib.hid hs
            clear hs
            have hcallH := Lib.hid hcall
            clear hcall
            go_wp2_with fail
            refine hcallH.out.mono ?_
            rintro e' w3 ⟨rfl, M2, q2, c2, hrw8, hs8⟩
            have hfin := hsymH.out (A ++ Y) M2 (by rw [hY0H.out, List.append_nil]; exact hsAH.out) q2 (SameCls.refl _) c2
            have hrw9 : RowI C w3 b off n (P ++ ((A ++ Y) ++ M2) ++ S) := by rw [hY0H.out]; simpa using hrw8
            have hs9 := hsH.out.trans hs8
            clear q2 c2 hs8 hrw8
            have hfinH := Lib.hid hfin
            clear hfin
            have hrw9H := Lib.hid hrw9
            clear hrw9
            have hs9H := Lib.hid hs9
            clear hs9
            go_wp2
            all_goals (go_end0; exact ⟨rfl, _, hfinH.out.1, hfinH.out.2, hrw9H.out, hs9H.out⟩)
          · have y1 : 1 ≤ Y.length := by cases Y with | nil => exact absurd rfl hY0 | cons z t => simp
            have t1 : (m : Int) < (En : Int) := by omega
            have t3 : (st : Int) < (mid : Int) := by omega
            have hrot := rotate_any C b off n cap (P ++ A) X Y (B ++ S) st m En (gI C) wr (by rw [List.length_append]; omega) (by omega) (by omega) x1 y1 hn hrwA
            unfold gI at hrot
            have hPH := Lib.hid hP
            clear hP
            have lAH := Lib.hid lA
            clear lA
            have lXH := Lib.hid lX
            clear lX
            have lYH := Lib.hid lY
            clear lY
            have lBH := Lib.hid lB
            clear lB
            have hsAH := Lib.hid hsA
            clear hsA
            have hsXH := Lib.hid hsX
            clear hsX
            have hsYH := Lib.hid hsY
            clear hsY
            have hsBH := Lib.hid hsB
            clear hsB
            have hrwAH := Lib.hid hrwA
            clear hrwA
            have hAXH := Lib.hid hAX
            clear hAX
            have hYBH := Lib.hid hYB
            clear hYB
            have hAH := Lib.hid hA
            clear hA
            have hXH := Lib.hid hX
            clear hX
            have hYH := Lib.hid hY
            clear hY
            have hBH := Lib.hid hB
            clear hB
            have hmH := Lib.hid hm
            clear hm
            have heH := Lib.hid he
            clear he
            have g1H := Lib.hid g1
            clear g1
            have g2H := Lib.hid g2
            clear g2
            have g3H := Lib.hid g3
            clear g3
            have g4H := Lib.hid g4
            clear g4
            have g5H := Lib.hid g5
            clear g5
            have g6H := Lib.hid g6
            clear g6
            have hEnH := Lib.hid hEn
            clear hEn
            have hElH := Lib.hid hEl
            clear hEl
            have hX0H := Lib.hid hX0
            clear hX0
            have hY0H := Lib.hid hY0
            clear hY0
            have hsymH := Lib.hid hsym
            clear hsym
            have hsH := Lib.hid hs
            clear hs
            have hrotH := Lib.hid hrot
            clear hrot
            go_wp2_with fail
            refine hrotH.out.mono ?_
            rintro e' w3 ⟨rfl, hrw8, hs8⟩
            have hs9 := hsH.out.trans hs8
            clear hs8
            have hrw8H := Lib.hid hrw8
            clear hrw8
            have hs9H := Lib.hid hs9
            clear hs9
            by_cases hA0 : a < st
            · have t2 : (a : Int) < (st : Int) := by omega
              have hcall := ihH.out P A Y (X ++ (B ++ S)) a st mid w3 hPH.out (by have := lAH.out; omega) (by have := lYH.out; omega) (by omega) (by have := lAH.out; omega) y1 hsAH.out hsYH.out (by simpa using hrw8H.out)
              have hcallH := Lib.hid hcall
              clear hcall
              go_wp2_with fail
              refine hcallH.out.mono ?_
              rintro e' w4 ⟨rfl, M1, q1, c1, hrw7, hs7⟩
              have hs10 := hs9H.out.trans hs7
              have lM1 : M1.length = mid - a := by have := c1.len; rw [List.length_append] at this; have := lAH.out; have := lYH.out; omega
              clear hs7
              have q1H := Lib.hid q1
              clear q1
              have c1H := Lib.hid c1
              clear c1
              have hrw7H := Lib.hid hrw7
              clear hrw7
              have hs10H := Lib.hid hs10
              clear hs10
              have lM1H := Lib.hid lM1
              clear lM1
              by_cases hB0 : En < e
              · have t6 : (En : Int) < (e : Int) := by omega
                have hcall2 := ihH.out (P ++ M1) X B S mid En e w4 (by rw [List.length_append]; have := lM1H.out; have := hPH.out; omega) (by have := lXH.out; have := hEnH.out; omega) (by have := lBH.out; omega) (by omega) x1 (by have := lBH.out; omega) hsXH.out hsBH.out (by simpa using hrw7H.out)
                have hcall2H := Lib.hid hcall2
                clear hcall2
                go_wp2_with fail
                refine hcall2H.out.mono ?_
                rintro e' w5 ⟨rfl, M2, q2, c2, hrw6, hs6⟩
                have hfin := hsymH.out M1 M2 q1H.out q2 c1H.out c2
                have hs11 := (hs10H.out).trans hs6
                clear q2 c2 hs6
                have hfinH := Lib.hid hfin
                clear hfin
                have hrw6H := Lib.hid hrw6
                clear hrw6
                have hs11H := Lib.hid hs11
                clear hs11
                go_wp2
                all_goals (go_end0; exact ⟨rfl, _, hfinH.out.1, hfinH.out.2, by simpa using hrw6H.out, hs11H.out⟩)
              · have t6 : ¬ (En : Int) < (e : Int) := by omega
                have hBn : B = [] := List.eq_nil_of_length_eq_zero (by have := lBH.out; omega)
                have hfin := hsymH.out M1 (X ++ B) q1H.out (by rw [hBn, List.append_nil]; exact hsXH.out) c1H.out (SameCls.refl _)
                have hfinH := Lib.hid hfin
                clear hfin
                have hBnH := Lib.hid hBn
                clear hBn
                go_wp2
                all_goals (go_end0; exact ⟨rfl, _, hfinH.out.1, hfinH.out.2, by simpa using hrw7H.out, hs10H.out⟩)
            · have t2 : ¬ (a : Int) < (st : Int) := by omega
              have hAn : A = [] := List.eq_nil_of_length_eq_zero (by have := lAH.out; omega)
              have q1 : SortedBy (fI C) (A ++ Y) := by rw [hAn]; exact hsYH.out
              have lM1 : (A ++ Y).length = mid - a := by rw [List.length_append]; have := lAH.out; have := lYH.out; omega
              have hrw7 : RowI C w3 b off n (P ++ (A ++ Y) ++ (X ++ (B ++ S))) := by simpa using hrw8H.out
              have q1H := Lib.hid q1
              clear q1
              have hrw7H := Lib.hid hrw7
              clear hrw7
              have lM1H := Lib.hid lM1
              clear lM1
              have hAnH := Lib.hid hAn
              clear hAn
              by_cases hB0 : En < e
              · have t6 : (En : Int) < (e : Int) := by omega
                have hcall2 := ihH.out (P ++ (A ++ Y)) X B S mid En e w3 (by rw [List.length_append]; have := lM1H.out; have := hPH.out; omega) (by have := lXH.out; have := hEnH.out; omega) (by have := lBH.out; omega) (by omega) x1 (by have := lBH.out; omega) hsXH.out hsBH.out (by simpa using hrw7H.out)
                have hcall2H := Lib.hid hcall2
                clear hcall2
                go_wp2_with fail
                refine hcall2H.out.mono ?_
                rintro e' w5 ⟨rfl, M2, q2, c2, hrw6, hs6⟩
                have hfin := hsymH.out (A ++ Y) M2 q1H.out q2 (SameCls.refl _) c2
                have hs11 := (hs9H.out).trans hs6
                clear q2 c2 hs6
                have hfinH := Lib.hid hfin
                clear hfin
                have hrw6H := Lib.hid hrw6
                clear hrw6
                have hs11H := Lib.hid hs11
                clear hs11
                go_wp2
                all_goals (go_end0; exact ⟨rfl, _, hfinH.out.1, hfinH.out.2, by simpa using hrw6H.out, hs11H.out⟩)
              · have t6 : ¬ (En : Int) < (e : Int) := by omega
                have hBn : B = [] := List.eq_nil_of_length_eq_zero (by have := lBH.out; omega)
                have hfin := hsymH.out (A ++ Y) (X ++ B) q1H.out (by rw [hBn, List.append_nil]; exact hsXH.out) (SameCls.refl _) (SameCls.refl _)
                have hfinH := Lib.hid hfin
                clear hfin
                have hBnH := Lib.hid hBn
                clear hBn
                go_wp2
                all_goals (go_end0; exact ⟨rfl, _, hfinH.out.1, hfinH.out.2, by simpa using hrw7H.out, hs9H.out⟩)
  · have hmm2 : ¬ (mid : Int) < (m : Int) := by omega
    obtain ⟨s0, hs0⟩ : ∃ s0, a = s0 := ⟨_, rfl⟩
    obtain ⟨r0, hr0⟩ : ∃ r0, m = r0 := ⟨_, rfl⟩
    have hsr : s0 ≤ r0 := by omega
    have hgeo : a ≤ s0 ∧ r0 ≤ mid ∧ r0 ≤ m ∧ mid - s0 ≤ e - m ∧ (s0 = a ∨ mid - s0 = e - m) ∧ (r0 = m ∨ r0 = mid) := ⟨by omega, by omega, by omega, by omega, .inl hs0.symm, .inl hr0.symm⟩
    have hrowH := Lib.hid hrow
    clear hrow
    have hlenH := Lib.hid hlen
    clear hlen
    have hPH := Lib.hid hP
    clear hP
    have heH := Lib.hid he
    clear he
    have hsLH := Lib.hid hsL
    clear hsL
    have hsRH := Lib.hid hsR
    clear hsR
    have hmH := Lib.hid hm
    clear hm
    have hgeoH := Lib.hid hgeo
    clear hgeo
    have hsrH := Lib.hid hsr
    clear hsr
    have ihH := Lib.hid ih
    clear ih
    have hl1H := Lib.hid hl1
    clear hl1
    have hl2H := Lib.hid hl2
    clear hl2
    have hs0H := Lib.hid hs0
    clear hs0
    have hr0H := Lib.hid hr0
    clear hr0
    have hmidH := Lib.hid hmid
    clear hmid
    go_enter Tryz.func223, Tryz.ntmps223
    go_wp2_with fail
    go_loopw [20, 21] (fun vs vr wr => B3Rel C (P ++ L ++ R ++ S) L R a mid s0 r0 b off n w vs vr wr) (fun vs vr _ => (intOf vr).toNat - (intOf vs).toNat)
    case atStart => exact ⟨s0, r0, Nat.le_refl _, hsrH.out, Nat.le_refl _, (by rw [hs0H.out]), (by rw [hr0H.out]), fun h => by omega, fun h => by omega, hrowH.out, World.grownBy.refl _ _⟩
    case round =>
      obtain ⟨st, r, hst0, hstr, hrr0, rfl, rfl, hgood, hbad, hrw, hs⟩ := hrel
      obtain ⟨g1, g2, g3, g4, g5, g6⟩ := hgeoH.out
      have hrm : r ≤ m := by omega
      have hrmid : r ≤ mid := by omega
      have hast : a ≤ st := by omega
      by_cases hlt : st < r
      · obtain ⟨H, hH⟩ : ∃ H, (st + r) / 2 = H := ⟨_, rfl⟩
        have hHi : ((st : Int) + (r : Int)) / 2 = (H : Int) := by omega
        have hHI : st ≤ H := by omega
        have hHJ : H < r := by omega
        obtain ⟨Z, hZ⟩ : ∃ Z, mid + m - 1 - H = Z := ⟨_, rfl⟩
        have hZi : (mid : Int) + (m : Int) - 1 - (H : Int) = (Z : Int) := by omega
        have hm := hmH.out
        have he := heH.out
        obtain ⟨x, hx⟩ : ∃ x, L[H - a]? = some x := ⟨L[H - a]'(by omega), List.getElem?_eq_getElem _⟩
        obtain ⟨y, hy⟩ : ∃ y, R[mid - 1 - H]? = some y := ⟨R[mid - 1 - H]'(by omega), List.getElem?_eq_getElem _⟩
        have hgx := get_at (P := P) (S := R ++ S) (i := a) hPH.out hx
        rw [← List.append_assoc, show a + (H - a) = H by omega] at hgx
        have hgy := get_at (P := P ++ L) (S := S) (i := m) (by rw [List.length_append]; have := hPH.out; omega) hy
        rw [show m + (mid - 1 - H) = Z by omega] at hgy
        have v0 := hrw.at_ hgx
        have u0 := hrw.at_ hgy
        obtain ⟨v, hv⟩ : ∃ v, Lib.compareInt (vC C x) (vC C y) = v := ⟨_, rfl⟩
        have hvl : v < 0 ↔ (vC C x) < (vC C y) := by rw [← hv]; exact cmpI_lt
        have k0 : (0 : Int) ≤ (H : Int) := by omega
        have k1 : (H : Int) < (n : Int) := by omega
        have k2 : (0 : Int) ≤ (Z : Int) := by omega
        have k3 : (Z : Int) < (n : Int) := by omega
        have hwZ : IntKind.i64.wrap (Z : Int) = (Z : Int) := by rw [IntKind.wrap_i64]; omega
        clear hm he
        have hgoodH := Lib.hid hgood
        clear hgood
        have hbadH := Lib.hid hbad
        clear hbad
        have hrwH := Lib.hid hrw
        clear hrw
        have hsH := Lib.hid hs
        clear hs
        have hxH := Lib.hid hx
        clear hx
        have hyH := Lib.hid hy
        clear hy
        have hgyH := Lib.hid hgy
        clear hgy
        have hgxH := Lib.hid hgx
        clear hgx
        have hvH := Lib.hid hv
        clear hv
        have hvlH := Lib.hid hvl
        clear hvl
        have hHH := Lib.hid hH
        clear hH
        have hZH := Lib.hid hZ
        clear hZ
        have g1H := Lib.hid g1
        clear g1
        have g2H := Lib.hid g2
        clear g2
        have g3H := Lib.hid g3
        clear g3
        have g4H := Lib.hid g4
        clear g4
        have g5H := Lib.hid g5
        clear g5
        have g6H := Lib.hid g6
        clear g6
        go_wp2_with fail
        refine wp_region_held_drew (S := (fun w' => w'.cell? ⟨b, off + Z, none⟩ = some (.int .i64 y) ∧ w'.cell? ⟨b, off + H, none⟩ = some (.int .i64 x))) (by kernel_rfl) ⟨u0, v0⟩ (fun hHeld => ?_)
        clear u0 v0
        refine tkH (i := 0) (d := some 158) (v := ?_) (hy := Or.inl ⟨by rfl, ?_⟩) (h := ?_)
        rotate_left
        · (intro w hSw; (try dsimp only at hSw); go_simp; (try with_reducible rfl))
        (try simp only [Act.put, tkA, tkB, tkC])
        refine tkH (i := 1) (d := some 159) (v := ?_) (hy := Or.inl ⟨by rfl, ?_⟩) (h := ?_)
        rotate_left
        · (intro w hSw; (try dsimp only at hSw); go_simp; (try with_reducible rfl))
        (try simp only [Act.put, tkA, tkB, tkC])
        refine tkH (i := 2) (d := some 160) (v := ?_) (hy := Or.inl ⟨by rfl, ?_⟩) (h := ?_)
        rotate_left
        · (intro w hSw; (try dsimp only at hSw); go_simp; (try with_reducible rfl))
        (try simp only [Act.put, tkA, tkB, tkC])
        refine tkH (i := 3) (d := some 161) (v := ?_) (hy := Or.inl ⟨by rfl, ?_⟩) (h := ?_)
        rotate_left
        · (intro w hSw; (try dsimp only at hSw); go_simp; (try with_reducible rfl))
        (try simp only [Act.put, tkA, tkB, tkC])
        refine tkH (i := 4) (d := some 162) (v := ?_) (hy := Or.inl ⟨by rfl, ?_⟩) (h := ?_)
        rotate_left
        · (intro w hSw; (try dsimp only at hSw); go_simp; (try with_reducible rfl))
        (try simp only [Act.put, tkA, tkB, tkC])
        refine tkH (i := 5) (d := some 163) (v := ?_) (hy := Or.inl ⟨by rfl, ?_⟩) (h := ?_)
        rotate_left
        · (intro w hSw; (try dsimp only at hSw); go_simp; (try with_reducible rfl))
        (try simp only [Act.put, tkA, tkB, tkC])
        refine tkH (i := 6) (d := some 164) (v := ?_) (hy := Or.inl ⟨by rfl, ?_⟩) (h := ?_)
        rotate_left
        · (intro w hSw; (try dsimp only at hSw); go_simp; (try with_reducible rfl))
        (try simp only [Act.put, tkA, tkB, tkC])
        refine tkH (i := 7) (d := some 165) (v := ?_) (hy := Or.inl ⟨by rfl, ?_⟩) (h := ?_)
        rotate_left
        · (intro w hSw; (try dsimp only at hSw); go_simp; (try with_reducible rfl))
        (try simp only [Act.put, tkA, tkB, tkC])
        refine tkH (i := 8) (d := some 166) (v := ?_) (hy := Or.inl ⟨by rfl, ?_⟩) (h := ?_)
        rotate_left
        · (intro w hSw; (try dsimp only at hSw); go_simp; (try with_reducible rfl))
        (try simp only [Act.put, tkA, tkB, tkC])
        refine tkH (i := 9) (d := some 167) (v := ?_) (hy := Or.inl ⟨by rfl, ?_⟩) (h := ?_)
        rotate_left
        · (intro w hSw; (try dsimp only at hSw); go_simp; (try with_reducible rfl))
        (try simp only [Act.put, tkA, tkB, tkC])
        refine tkH (i := 10) (d := some 168) (v := ?_) (hy := Or.inl ⟨by rfl, ?_⟩) (h := ?_)
        rotate_left
        · (intro w hSw; (try dsimp only at hSw); go_simp; (try with_reducible rfl))
        (try simp only [Act.put, tkA, tkB, tkC])
        refine wpAnyH_ready (rs := [11]) (by kernel_rfl) (by simp) ?_
        refine AllReadyH.cons (i := 11) rfl (fun K hK => ?_) AllReadyH.nil
        go_simp
        go_at_call 159
        refine (cmp_any C y x _ v (hrwH.out.cr.below (Below.refl _ _).drew) (hrwH.out.in_ hgyH.out) (hrwH.out.in_ hgxH.out) hvH.out).mono ?_
        rintro e' w2 ⟨rfl, hb2⟩
        have hb2a : Below wr.heap.size wr w2 := by first | exact hb2 | exact (Below.refl _ _).drew.trans hb2
        replace hHeld := keep2i hb2 hHeld
        have hrw3 := hrwH.out.below hb2a
        have hs3 := hsH.out.trans (Srt.of_below hb2a)
        clear hb2 hb2a
        have hrw3H := Lib.hid hrw3
        clear hrw3
        have hs3H := Lib.hid hs3
        clear hs3
        refine hK.out _ _ hHeld (fun hHeld => ?_)
        clear hK K
        (try simp only [Act.put, List.setIfInBounds_toArray, List.set_cons_zero, List.set_cons_succ])
        clear hHeld
        refine tkH (i := 12) (d := some 170) (v := ?_) (hy := Or.inl ⟨by rfl, ?_⟩) (h := ?_)
        rotate_left
        · (intro w hSw; (try dsimp only at hSw); go_simp; (try with_reducible rfl))
        (try simp only [Act.put, tkA, tkB, tkC])
        refine tkH (i := 13) (d := some 171) (v := ?_) (hy := Or.inl ⟨by rfl, ?_⟩) (h := ?_)
        rotate_left
        · (intro w hSw; (try dsimp only at hSw); go_simp; (try with_reducible rfl))
        (try simp only [Act.put, tkA, tkB, tkC])
        refine wpAnyH_done (by kernel_rfl) ?_ _
        by_cases hc : v < 0
        · have R1 : B3Rel C (P ++ L ++ R ++ S) L R a mid s0 r0 b off n w (.int .i64 (st : Int)) (.int .i64 (H : Int)) w2 := by
            refine ⟨st, H, hst0, hHI, by omega, rfl, rfl, hgoodH.out, fun _ x' y' hx' hy' => ?_, hrw3H.out, hs3H.out⟩
            rw [hxH.out] at hx'
            rw [hyH.out] at hy'
            injection hx' with hx'
            injection hy' with hy'
            subst hx'
            subst hy'
            have := hvlH.out.1 hc
            unfold fI; omega
          rw [show (!decide (v < 0)) = false by simp [hc]]
          have R1H := Lib.hid R1
          clear R1
          go_wp2
          refine ⟨?rel, ?measure⟩
          case measure => (simp [intOf]; omega)
          case rel => first | exact R1H.out | exact ⟨rfl, R1H.out⟩ | ((try refine ⟨rfl, ?_⟩); (repeat apply Exists.intro); refine ⟨R1H.out, ?_⟩; ((repeat' apply And.intro) <;> rfl))
        · have R1 : B3Rel C (P ++ L ++ R ++ S) L R a mid s0 r0 b off n w (.int .i64 ((H : Int) + 1)) (.int .i64 (r : Int)) w2 := by
            refine ⟨H + 1, r, by omega, by omega, hrr0, by go_num, rfl, fun _ x' y' hx' hy' => ?_, hbadH.out, hrw3H.out, hs3H.out⟩
            rw [show H + 1 - 1 - a = H - a by omega, hxH.out] at hx'
            rw [show mid - (H + 1) = mid - 1 - H by omega, hyH.out] at hy'
            injection hx' with hx'
            injection hy' with hy'
            subst hx'
            subst hy'
            have : ¬ (vC C x) < (vC C y) := fun h => hc (hvlH.out.2 h)
            unfold fI; omega
          rw [show (!decide (v < 0)) = true by simp; omega]
          have R1H := Lib.hid R1
          clear R1
          go_wp2
          refine ⟨?rel, ?measure⟩
          case measure => (simp [intOf]; omega)
          case rel => first | exact R1H.out | exact ⟨rfl, R1H.out⟩ | ((try refine ⟨rfl, ?_⟩); (repeat apply Exists.intro); refine ⟨R1H.out, ?_⟩; ((repeat' apply And.intro) <;> rfl))
      · obtain rfl : st = r := by omega
        have hm := hmH.out
        have he := heH.out
        have hP := hPH.out
        obtain ⟨En, hEn⟩ : ∃ En, mid + m - st = En := ⟨_, rfl⟩
        have hEni : (mid : Int) + (m : Int) - (st : Int) = (En : Int) := by omega
        have hsym := fun M1 M2 => sorted_parts C (L := L) (R := R) (i := st - a) (j := mid - st) (M1 := M1) (M2 := M2) hsLH.out hsRH.out (by omega) (by omega)
          (fun h0 x y hx hy => by
            rcases g5 with e0 | e0
            · exact hgood (by omega) x y (by rw [show st - 1 - a = st - a - 1 by omega]; exact hx) hy
            · by_cases hss : s0 < st
              · exact hgood hss x y (by rw [show st - 1 - a = st - a - 1 by omega]; exact hx) hy
              · exfalso
                have := (List.getElem?_eq_some_iff.1 hy).1
                omega)
          (fun h0 x y hx hy => by
            by_cases hss : st < r0
            · exact hbad hss x y hx (by rw [show mid - 1 - st = mid - st - 1 by omega]; exact hy)
            · exfalso
              have := (List.getElem?_eq_some_iff.1 hx).1
              rcases g6 with e0 | e0 <;> omega)
        obtain ⟨A, hA⟩ : ∃ A, L.take (st - a) = A := ⟨_, rfl⟩
        obtain ⟨X, hX⟩ : ∃ X, L.drop (st - a) = X := ⟨_, rfl⟩
        obtain ⟨Y, hY⟩ : ∃ Y, R.take (mid - st) = Y := ⟨_, rfl⟩
        obtain ⟨B, hB⟩ : ∃ B, R.drop (mid - st) = B := ⟨_, rfl⟩
        have hAX : L = A ++ X := by rw [← hA, ← hX, List.take_append_drop]
        have hYB : R = Y ++ B := by rw [← hY, ← hB, List.take_append_drop]
        have lA : A.length = st - a := by rw [← hA, List.length_take]; omega
        have lX : X.length = m - st := by rw [← hX, List.length_drop]; omega
        have lY : Y.length = mid - st := by rw [← hY, List.length_take]; omega
        have lB : B.length = e - En := by rw [← hB, List.length_drop]; omega
        have hsA : SortedBy (fI C) A := by have := hsLH.out; rw [hAX] at this; exact sorted_left this
        have hsX : SortedBy (fI C) X := by have := hsLH.out; rw [hAX] at this; exact sorted_right this
        have hsY : SortedBy (fI C) Y := by have := hsRH.out; rw [hYB] at this; exact sorted_left this
        have hsB : SortedBy (fI C) B := by have := hsRH.out; rw [hYB] at this; exact sorted_right this
        rw [hA, hX, hY, hB] at hsym
        have hrwA : RowI C wr b off n (P ++ A ++ X ++ Y ++ (B ++ S)) := by rw [hAX, hYB] at hrw; simpa using hrw
        have hEe : En ≤ e := by omega
        have hEm : m ≤ En := by omega
        have hEl : En + st = mid + m := by omega
        have l1 := hl1H.out
        have l2 := hl2H.out
        clear hgood hbad hrw
        by_cases hX0 : X = []
        · have hsm : m ≤ st := by have := lX; rw [hX0, List.length_nil] at this; omega
          have t0 : ¬ (st : Int) < (m : Int) := by omega
          have t2 : (a : Int) < (st : Int) := by omega
          have t5 : ¬ (mid : Int) < (En : Int) := by omega
          by_cases hY0 : Y = []
          · have hm3 : mid ≤ st := by have := lY; rw [hY0, List.length_nil] at this; omega
            have t3 : ¬ (st : Int) < (mid : Int) := by omega
            have hfin := hsym (A ++ Y) (X ++ B) (by rw [hY0, List.append_nil]; exact hsA) (by rw [hX0]; exact hsB) (SameCls.refl _) (SameCls.refl _)
            have hrw9 : RowI C wr b off n (P ++ ((A ++ Y) ++ (X ++ B)) ++ S) := by rw [hX0, hY0] at hrwA ⊢; simpa using hrwA
            have hPH := Lib.hid hP
            clear hP
            have lAH := Lib.hid lA
            clear lA
            have lXH := Lib.hid lX
            clear lX
            have lYH := Lib.hid lY
            clear lY
            have lBH := Lib.hid lB
            clear lB
            have hsAH := Lib.hid hsA
            clear hsA
            have hsXH := Lib.hid hsX
            clear hsX
            have hsYH := Lib.hid hsY
            clear hsY
            have hsBH := Lib.hid hsB
            clear hsB
            have hrwAH := Lib.hid hrwA
            clear hrwA
            have hAXH := Lib.hid hAX
            clear hAX
            have hYBH := Lib.hid hYB
            clear hYB
            have hAH := Lib.hid hA
            clear hA
            have hXH := Lib.hid hX
            clear hX
            have hYH := Lib.hid hY
            clear hY
            have hBH := Lib.hid hB
            clear hB
            have hmH := Lib.hid hm
            clear hm
            have heH := Lib.hid he
            clear he
            have g1H := Lib.hid g1
            clear g1
            have g2H := Lib.hid g2
            clear g2
            have g3H := Lib.hid g3
            clear g3
            have g4H := Lib.hid g4
            clear g4
            have g5H := Lib.hid g5
            clear g5
            have g6H := Lib.hid g6
            clear g6
            have hEnH := Lib.hid hEn
            clear hEn
            have hElH := Lib.hid hEl
            clear hEl
            have hX0H := Lib.hid hX0
            clear hX0
            have hY0H := Lib.hid hY0
            clear hY0
            have hsymH := Lib.hid hsym
            clear hsym
            have hfinH := Lib.hid hfin
            clear hfin
            have hrw9H := Lib.hid hrw9
            clear hrw9
            have hsH := Lib.hid hs
            clear hs
            go_wp2
            all_goals (go_end0; exact ⟨rfl, _, hfinH.out.1, hfinH.out.2, hrw9H.out, hsH.out⟩)
          · have y1 : 1 ≤ Y.length := by cases Y with | nil => exact absurd rfl hY0 | cons z t => simp
            have t3 : (st : Int) < (mid : Int) := by omega
            have hcall := ihH.out P A Y (X ++ (B ++ S)) a st mid wr hP (by omega) (by omega) (by omega) (by omega) y1 hsA hsY (by rw [hX0] at hrwA ⊢; simpa using hrwA)
            have hPH := Lib.hid hP
            clear hP
            have lAH := Lib.hid lA
            clear lA
            have lXH := Lib.hid lX
            clear lX
            have lYH := Lib.hid lY
            clear lY
            have lBH := Lib.hid lB
            clear lB
            have hsAH := Lib.hid hsA
            clear hsA
            have hsXH := Lib.hid hsX
            clear hsX
            have hsYH := Lib.hid hsY
            clear hsY
            have hsBH := Lib.hid hsB
            clear hsB
            have hrwAH := Lib.hid hrwA
            clear hrwA
            have hAXH := Lib.hid hAX
            clear hAX
            have hYBH := Lib.hid hYB
            clear hYB
            have hAH := Lib.hid hA
            clear hA
            have hXH := Lib.hid hX
            clear hX
            have hYH := Lib.hid hY
            clear hY
            have hBH := Lib.hid hB
            clear hB
            have hmH := Lib.hid hm
            clear hm
            have heH := Lib.hid he
            clear he
            have g1H := Lib.hid g1
            clear g1
            have g2H := Lib.hid g2
            clear g2
            have g3H := Lib.hid g3
            clear g3
            have g4H := Lib.hid g4
            clear g4
            have g5H := Lib.hid g5
            clear g5
            have g6H := Lib.hid g6
            clear g6
            have hEnH := Lib.hid hEn
            clear hEn
            have hElH := Lib.hid hEl
            clear hEl
            have hX0H := Lib.hid hX0
            clear hX0
            have hY0H := Lib.hid hY0
            clear hY0
            have hsymH := Lib.hid hsym
            clear hsym
            have hsH := Lib.hid hs
            clear hs
            have hcallH := Lib.hid hcall
            clear hcall
            go_wp2_with fail
            refine hcallH.out.mono ?_
            rintro e' w3 ⟨rfl, M1, q1, c1, hrw8, hs8⟩
            have hfin := hsymH.out M1 (X ++ B) q1 (by rw [hX0H.out]; exact hsBH.out) c1 (SameCls.refl _)
            have hs9 := hsH.out.trans hs8
            clear q1 c1 hs8
            have hfinH := Lib.hid hfin
            clear hfin
            have hrw8H := Lib.hid hrw8
            clear hrw8
            have hs9H := Lib.hid hs9
            clear hs9
            go_wp2
            all_goals (go_end0; exact ⟨rfl, _, hfinH.out.1, hfinH.out.2, by simpa using hrw8H.out, hs9H.out⟩)
        · have x1 : 1 ≤ X.length := by cases X with | nil => exact absurd rfl hX0 | cons z t => simp
          have t0 : (st : Int) < (m : Int) := by omega
          have t5 : (mid : Int) < (En : Int) := by omega
          by_cases hY0 : Y = []
          · have hm3 : mid ≤ st := by have := lY; rw [hY0, List.length_nil] at this; omega
            have t1 : ¬ (m : Int) < (En : Int) := by omega
            have t2 : (a : Int) < (st : Int) := by omega
            have t3 : ¬ (st : Int) < (mid : Int) := by omega
            have t6 : (En : Int) < (e : Int) := by omega
            have hcall := ihH.out (P ++ A) X B S mid En e wr (by rw [List.length_append]; omega) (by omega) (by omega) (by omega) x1 (by omega) hsX hsB (by rw [hY0] at hrwA; simpa using hrwA)
            have hPH := Lib.hid hP
            clear hP
            have lAH := Lib.hid lA
            clear lA
            have lXH := Lib.hid lX
            clear lX
            have lYH := Lib.hid lY
            clear lY
            have lBH := Lib.hid lB
            clear lB
            have hsAH := Lib.hid hsA
            clear hsA
            have hsXH := Lib.hid hsX
            clear hsX
            have hsYH := Lib.hid hsY
            clear hsY
            have hsBH := Lib.hid hsB
            clear hsB
            have hrwAH := Lib.hid hrwA
            clear hrwA
            have hAXH := Lib.hid hAX
            clear hAX
            have hYBH := Lib.hid hYB
            clear hYB
            have hAH := Lib.hid hA
            clear hA
            have hXH := Lib.hid hX
            clear hX
            have hYH := Lib.hid hY
            clear hY
            have hBH := Lib.hid hB
            clear hB
            have hmH := Lib.hid hm
            clear hm
            have heH := Lib.hid he
            clear he
            have g1H := Lib.hid g1
            clear g1
            have g2H := Lib.hid g2
            clear g2
            have g3H := Lib.hid g3
            clear g3
            have g4H := Lib.hid g4
            clear g4
            have g5H := Lib.hid g5
            clear g5
            have g6H := Lib.hid g6
            clear g6
            have hEnH := Lib.hid hEn
            clear hEn
            have hElH := Lib.hid hEl
            clear hEl
            have hX0H := Lib.hid hX0
            clear hX0
            have hY0H := Lib.hid hY0
            clear hY0
            have hsymH := Lib.hid hsym
            clear hsym
            have hsH := Lib.hid hs
            clear hs
            have hcallH := Lib.hid hcall
            clear hcall
            go_wp2_with fail
            refine hcallH.out.mono ?_
            rintro e' w3 ⟨rfl, M2, q2, c2, hrw8, hs8⟩
            have hfin := hsymH.out (A ++ Y) M2 (by rw [hY0H.out, List.append_nil]; exact hsAH.out) q2 (SameCls.refl _) c2
            have hrw9 : RowI C w3 b off n (P ++ ((A ++ Y) ++ M2) ++ S) := by rw [hY0H.out]; simpa using hrw8
            have hs9 := hsH.out.trans hs8
            clear q2 c2 hs8 hrw8
            have hfinH := Lib.hid hfin
            clear hfin
            have hrw9H := Lib.hid hrw9
            clear hrw9
            have hs9H := Lib.hid hs9
            clear hs9
            go_wp2
            all_goals (go_end0; exact ⟨rfl, _, hfinH.out.1, hfinH.out.2, hrw9H.out, hs9H.out⟩)
          · have y1 : 1 ≤ Y.length := by cases Y with | nil => exact absurd rfl hY0 | cons z t => simp
            have t1 : (m : Int) < (En : Int) := by omega
            have t3 : (st : Int) < (mid : Int) := by omega
            have hrot := rotate_any C b off n cap (P ++ A) X Y (B ++ S) st m En (gI C) wr (by rw [List.length_append]; omega) (by omega) (by omega) x1 y1 hn hrwA
            unfold gI at hrot
            have hPH := Lib.hid hP
            clear hP
            have lAH := Lib.hid lA
            clear lA
            have lXH := Lib.hid lX
            clear lX
            have lYH := Lib.hid lY
            clear lY
            have lBH := Lib.hid lB
            clear lB
            have hsAH := Lib.hid hsA
            clear hsA
            have hsXH := Lib.hid hsX
            clear hsX
            have hsYH := Lib.hid hsY
            clear hsY
            have hsBH := Lib.hid hsB
            clear hsB
            have hrwAH := Lib.hid hrwA
            clear hrwA
            have hAXH := Lib.hid hAX
            clear hAX
            have hYBH := Lib.hid hYB
            clear hYB
            have hAH := Lib.hid hA
            clear hA
            have hXH := Lib.hid hX
            clear hX
            have hYH := Lib.hid hY
            clear hY
            have hBH := Lib.hid hB
            clear hB
            have hmH := Lib.hid hm
            clear hm
            have heH := Lib.hid he
            clear he
            have g1H := Lib.hid g1
            clear g1
            have g2H := Lib.hid g2
            clear g2
            have g3H := Lib.hid g3
            clear g3
            have g4H := Lib.hid g4
            clear g4
            have g5H := Lib.hid g5
            clear g5
            have g6H := Lib.hid g6
            clear g6
            have hEnH := Lib.hid hEn
            clear hEn
            have hElH := Lib.hid hEl
            clear hEl
            have hX0H := Lib.hid hX0
            clear hX0
            have hY0H := Lib.hid hY0
            clear hY0
            have hsymH := Lib.hid hsym
            clear hsym
            have hsH := Lib.hid hs
            clear hs
            have hrotH := Lib.hid hrot
            clear hrot
            go_wp2_with fail
            refine hrotH.out.mono ?_
            rintro e' w3 ⟨rfl, hrw8, hs8⟩
            have hs9 := hsH.out.trans hs8
            clear hs8
            have hrw8H := Lib.hid hrw8
            clear hrw8
            have hs9H := Lib.hid hs9
            clear hs9
            by_cases hA0 : a < st
            · have t2 : (a : Int) < (st : Int) := by omega
              have hcall := ihH.out P A Y (X ++ (B ++ S)) a st mid w3 hPH.out (by have := lAH.out; omega) (by have := lYH.out; omega) (by omega) (by have := lAH.out; omega) y1 hsAH.out hsYH.out (by simpa using hrw8H.out)
              have hcallH := Lib.hid hcall
              clear hcall
              go_wp2_with fail
              refine hcallH.out.mono ?_
              rintro e' w4 ⟨rfl, M1, q1, c1, hrw7, hs7⟩
              have hs10 := hs9H.out.trans hs7
              have lM1 : M1.length = mid - a := by have := c1.len; rw [List.length_append] at this; have := lAH.out; have := lYH.out; omega
              clear hs7
              have q1H := Lib.hid q1
              clear q1
              have c1H := Lib.hid c1
              clear c1
              have hrw7H := Lib.hid hrw7
              clear hrw7
              have hs10H := Lib.hid hs10
              clear hs10
              have lM1H := Lib.hid lM1
              clear lM1
              by_cases hB0 : En < e
              · have t6 : (En : Int) < (e : Int) := by omega
                have hcall2 := ihH.out (P ++ M1) X B S mid En e w4 (by rw [List.length_append]; have := lM1H.out; have := hPH.out; omega) (by have := lXH.out; have := hEnH.out; omega) (by have := lBH.out; omega) (by omega) x1 (by have := lBH.out; omega) hsXH.out hsBH.out (by simpa using hrw7H.out)
                have hcall2H := Lib.hid hcall2
                clear hcall2
                go_wp2_with fail
                refine hcall2H.out.mono ?_
                rintro e' w5 ⟨rfl, M2, q2, c2, hrw6, hs6⟩
                have hfin := hsymH.out M1 M2 q1H.out q2 c1H.out c2
                have hs11 := (hs10H.out).trans hs6
                clear q2 c2 hs6
                have hfinH := Lib.hid hfin
                clear hfin
                have hrw6H := Lib.hid hrw6
                clear hrw6
                have hs11H := Lib.hid hs11
                clear hs11
                go_wp2
                all_goals (go_end0; exact ⟨rfl, _, hfinH.out.1, hfinH.out.2, by simpa using hrw6H.out, hs11H.out⟩)
              · have t6 : ¬ (En : Int) < (e : Int) := by omega
                have hBn : B = [] := List.eq_nil_of_length_eq_zero (by have := lBH.out; omega)
                have hfin := hsymH.out M1 (X ++ B) q1H.out (by rw [hBn, List.append_nil]; exact hsXH.out) c1H.out (SameCls.refl _)
                have hfinH := Lib.hid hfin
                clear hfin
                have hBnH := Lib.hid hBn
                clear hBn
                go_wp2
                all_goals (go_end0; exact ⟨rfl, _, hfinH.out.1, hfinH.out.2, by simpa using hrw7H.out, hs10H.out⟩)
            · have t2 : ¬ (a : Int) < (st : Int) := by omega
              have hAn : A = [] := List.eq_nil_of_length_eq_zero (by have := lAH.out; omega)
              have q1 : SortedBy (fI C) (A ++ Y) := by rw [hAn]; exact hsYH.out
              have lM1 : (A ++ Y).length = mid - a := by rw [List.length_append]; have := lAH.out; have := lYH.out; omega
              have hrw7 : RowI C w3 b off n (P ++ (A ++ Y) ++ (X ++ (B ++ S))) := by simpa using hrw8H.out
              have q1H := Lib.hid q1
              clear q1
              have hrw7H := Lib.hid hrw7
              clear hrw7
              have lM1H := Lib.hid lM1
              clear lM1
              have hAnH := Lib.hid hAn
              clear hAn
              by_cases hB0 : En < e
              · have t6 : (En : Int) < (e : Int) := by omega
                have hcall2 := ihH.out (P ++ (A ++ Y)) X B S mid En e w3 (by rw [List.length_append]; have := lM1H.out; have := hPH.out; omega) (by have := lXH.out; have := hEnH.out; omega) (by have := lBH.out; omega) (by omega) x1 (by have := lBH.out; omega) hsXH.out hsBH.out (by simpa using hrw7H.out)
                have hcall2H := Lib.hid hcall2
                clear hcall2
                go_wp2_with fail
                refine hcall2H.out.mono ?_
                rintro e' w5 ⟨rfl, M2, q2, c2, hrw6, hs6⟩
                have hfin := hsymH.out (A ++ Y) M2 q1H.out q2 (SameCls.refl _) c2
                have hs11 := (hs9H.out).trans hs6
                clear q2 c2 hs6
                have hfinH := Lib.hid hfin
                clear hfin
                have hrw6H := Lib.hid hrw6
                clear hrw6
                have hs11H := Lib.hid hs11
                clear hs11
                go_wp2
                all_goals (go_end0; exact ⟨rfl, _, hfinH.out.1, hfinH.out.2, by simpa using hrw6H.out, hs11H.out⟩)
              · have t6 : ¬ (En : Int) < (e : Int) := by omega
                have hBn : B = [] := List.eq_nil_of_length_eq_zero (by have := lBH.out; omega)
                have hfin := hsymH.out (A ++ Y) (X ++ B) q1H.out (by rw [hBn, List.append_nil]; exact hsXH.out) (SameCls.refl _) (SameCls.refl _)
                have hfinH := Lib.hid hfin
                clear hfin
                have hBnH := Lib.hid hBn
                clear hBn
                go_wp2
                all_goals (go_end0; exact ⟨rfl, _, hfinH.out.1, hfinH.out.2, by simpa using hrw7H.out, hs9H.out⟩)
end Go.Proofs.YtbnkoefljcekbaaGreatDoor.C9

namespace Go.Proofs.YtbnkoefljcekbaaGreatDoor.C9
open Go.ChangeShapes Go.WideShapes Go.Deep Go.RowKit
set_option linter.unusedVariables false

theorem merge_any (C : CC) (b off n cap : Nat) (hn : n ≤ 1000000000) : ∀ k, MgHyp C b off n cap k := by
  intro k
  induction k with
  | zero =>
    intro P L R S a m e w hP hm he hk h1 h2 hsL hsR hrow
    exfalso; omega
  | succ k ih =>
    intro P L R S a m e w hP hm he hk h1 h2 hsL hsR hrow
    by_cases hl : L.length = 1
    · obtain ⟨x, rfl⟩ := List.length_eq_one_iff.1 hl
      exact merge1 C b off n cap P R S x a m e w hP (by rw [hm, hl]) he hn hsR hrow
    · by_cases hr : R.length = 1
      · obtain ⟨y, rfl⟩ := List.length_eq_one_iff.1 hr
        exact merge2 C b off n cap P L S y a m e w hP hm (by omega) (by rw [he, hr]) hn hsL hrow
      · exact merge3 C b off n cap k ih P L R S a m e w hP hm he hk (by omega) (by omega) hn hsL hsR hrow
/-- blocks of one length, each sorted -/
def Blks (C : CC) (bs : Nat) (Bs : List (List Int)) : Prop := ∀ x ∈ Bs, x.length = bs ∧ SortedBy (fI C) x
theorem Blks.app {C : CC} {bs : Nat} {Bs : List (List Int)} {x : List Int} (h : Blks C bs Bs) (h1 : x.length = bs) (h2 : SortedBy (fI C) x) : Blks C bs (Bs ++ [x]) := fun y hy => by
  rcases List.mem_append.1 hy with hy | hy
  · exact h y hy
  · rw [List.mem_singleton.1 hy]; exact ⟨h1, h2⟩
theorem flat_app (Bs : List (List Int)) (x : List Int) : (Bs ++ [x]).flatten = Bs.flatten ++ x := by simp
theorem Blks.two {C : CC} {bs : Nat} {Bs : List (List Int)} {T : List Int} (h : Blks C bs Bs) (hT : T.length < bs) (hl : 2 * bs ≤ (Bs.flatten ++ T).length) : ∃ x y Cs, Bs = x :: y :: Cs ∧ x.length = bs ∧ y.length = bs ∧ SortedBy (fI C) x ∧ SortedBy (fI C) y ∧ Blks C bs Cs := by
  match Bs, h with
  | [], _ => simp at hl; omega
  | [x], h => have := (h x (by simp)).1; simp at hl; omega
  | x :: y :: Cs, h => exact ⟨x, y, Cs, rfl, (h x (by simp)).1, (h y (by simp)).1, (h x (by simp)).2, (h y (by simp)).2, fun z hz => h z (by simp [hz])⟩
theorem Blks.few {C : CC} {bs : Nat} {Bs : List (List Int)} {T : List Int} (h : Blks C bs Bs) (hb : 0 < bs) (hl : (Bs.flatten ++ T).length < 2 * bs) : Bs = [] ∨ ∃ x, Bs = [x] ∧ x.length = bs ∧ SortedBy (fI C) x := by
  match Bs, h with
  | [], _ => exact .inl rfl
  | [x], h => exact .inr ⟨x, rfl, (h x (by simp)).1, (h x (by simp)).2⟩
  | x :: y :: Cs, h =>
    have h1 := (h x (by simp)).1
    have h2 := (h y (by simp)).1
    simp only [List.flatten_cons, List.length_append] at hl
    omega
end Go.Proofs.YtbnkoefljcekbaaGreatDoor.C9

namespace Go.Proofs.YtbnkoefljcekbaaGreatDoor.C9
open Go.ChangeShapes Go.WideShapes Go.Deep Go.RowKit
set_option linter.unusedVariables false

def St1 (C : CC) (D0 : List Int) (b off n : Nat) (w0 : World) (va vb : Value) (wr : World) : Prop :=
  ∃ (Bs : List (List Int)) (T : List Int) (a e : Nat), Blks C 20 Bs ∧ Bs.flatten.length = a ∧ a + 20 = e ∧ va = .int .i64 (a : Int) ∧ vb = .int .i64 (e : Int) ∧ SameCls (fI C) (Bs.flatten ++ T) D0 ∧ RowI C wr b off n (Bs.flatten ++ T) ∧ Srt b w0 wr
def St2 (C : CC) (D0 : List Int) (b off n : Nat) (w0 : World) (vs : Value) (wr : World) : Prop :=
  ∃ (bs : Nat) (Bs : List (List Int)) (T : List Int), 0 < bs ∧ bs ≤ 2 * n + 20 ∧ vs = .int .i64 (bs : Int) ∧ Blks C bs Bs ∧ T.length < bs ∧ SortedBy (fI C) T ∧ SameCls (fI C) (Bs.flatten ++ T) D0 ∧ RowI C wr b off n (Bs.flatten ++ T) ∧ Srt b w0 wr
def St3 (C : CC) (D0 : List Int) (bs b off n : Nat) (w0 : World) (va vb : Value) (wr : World) : Prop :=
  ∃ (Ds Bs : List (List Int)) (T : List Int) (a e : Nat), Blks C (2 * bs) Ds ∧ Blks C bs Bs ∧ T.length < bs ∧ SortedBy (fI C) T ∧ Ds.flatten.length = a ∧ a + 2 * bs = e ∧ va = .int .i64 (a : Int) ∧ vb = .int .i64 (e : Int) ∧ SameCls (fI C) (Ds.flatten ++ Bs.flatten ++ T) D0 ∧ RowI C wr b off n (Ds.flatten ++ Bs.flatten ++ T) ∧ Srt b w0 wr
set_option maxRecDepth 100000 in
set_option maxHeartbeats 16000000 in
theorem stable_cmp (C : CC) (b off n cap : Nat) (D : List Int) (w : World) (hn : n ≤ 1000000000) (hrow : RowI C w b off n D) :
    Calls Tryz.prog 204 #[.slice (some ⟨b, off, none⟩) n cap, .int .i64 n, (gI C)] w fun e w' => e = .returned (.tuple #[]) ∧ ∃ M, SortedBy (fI C) M ∧ SameCls (fI C) M D ∧ RowI C w' b off n M ∧ Srt b w w' := by
  have hstart : St1 C D b off n w (.int .i64 0) (.int .i64 20) w := ⟨[], D, 0, 20, (fun x hx => (by cases hx)), rfl, rfl, by go_num, by go_num, SameCls.refl _, hrow, World.grownBy.refl _ _⟩
  have him : ∀ k, MgHyp C b off n cap k := merge_any C b off n cap hn
  unfold MgHyp at him
  have hins : ∀ (P M S : List Int) (a e : Nat) (w : World), P.length = a → e = a + M.length → RowI C w b off n (P ++ M ++ S) →
    Calls Tryz.prog 222 #[.slice (some ⟨b, off, none⟩) n cap, .int .i64 a, .int .i64 e, (gI C)] w fun e w' => e = .returned (.tuple #[]) ∧ ∃ M', SortedBy (fI C) M' ∧ SameCls (fI C) M' M ∧ RowI C w' b off n (P ++ M' ++ S) ∧ Srt b w w' := fun P M S a e w hP he hr => insertion_any C b off n cap P M S a e w hP he hn hr
  unfold gI at him hins
  unfold gI
  have hrowH := Lib.hid hrow
  clear hrow
  have hstartH := Lib.hid hstart
  clear hstart
  have himH := Lib.hid him
  clear him
  have hinsH := Lib.hid hins
  clear hins
  go_enter Tryz.func204, Tryz.ntmps204
  go_wp2_with fail
  go_loopw [7, 8] (fun va vb wr => St1 C D b off n w va vb wr) (fun _ vb _ => (n + 21) - (intOf vb).toNat)
  case atStart => exact hstartH.out
  case round =>
    clear hstartH
    obtain ⟨Bs, T, a, e, hB, hBl, hae, rfl, rfl, hcl, hrw, hs⟩ := hrel
    have hl := hrw.sl.1
    rw [List.length_append] at hl
    by_cases hen : e ≤ n
    · have heni : (e : Int) ≤ (n : Int) := by omega
      have lM : (T.take 20).length = 20 := by rw [List.length_take]; omega
      have hcall := hinsH.out Bs.flatten (T.take 20) (T.drop 20) a e wr hBl (by omega) (by rw [List.append_assoc, List.take_append_drop]; exact hrw)
      have hae1 : a < e := by omega
      have hBH := Lib.hid hB
      clear hB
      have hBlH := Lib.hid hBl
      clear hBl
      have haeH := Lib.hid hae
      clear hae
      have hclH := Lib.hid hcl
      clear hcl
      have hrwH := Lib.hid hrw
      clear hrw
      have hsH := Lib.hid hs
      clear hs
      have hlH := Lib.hid hl
      clear hl
      have lMH := Lib.hid lM
      clear lM
      have hcallH := Lib.hid hcall
      clear hcall
      go_wp2_with fail
      refine hcallH.out.mono ?_
      rintro e' w2 ⟨rfl, M', q1, c1, hrw2, hs2⟩
      have R1 : St1 C D b off n w (.int .i64 (e : Int)) (.int .i64 ((e : Int) + 20)) w2 := by
        have lM' : M'.length = 20 := c1.len.trans lMH.out
        refine ⟨Bs ++ [M'], T.drop 20, e, e + 20, hBH.out.app lM' q1, ?_, rfl, rfl, by go_num, ?_, by rw [flat_app]; exact hrw2, hsH.out.trans hs2⟩
        · rw [flat_app, List.length_append]; have := hBlH.out; have := haeH.out; omega
        · rw [flat_app]
          refine SameCls.trans ?_ hclH.out
          rw [List.append_assoc]
          refine (SameCls.refl _).app ?_
          have := c1.app (SameCls.refl (f := fI C) (T.drop 20))
          rwa [List.take_append_drop] at this
      clear q1 c1 hrw2 hs2
      have R1H := Lib.hid R1
      clear R1
      go_wp2
      refine ⟨?rel, ?measure⟩
      case measure => (simp [intOf]; omega)
      case rel => first | exact R1H.out | exact ⟨rfl, R1H.out⟩ | ((try refine ⟨rfl, ?_⟩); (repeat apply Exists.intro); refine ⟨R1H.out, ?_⟩; ((repeat' apply And.intro) <;> rfl))
    · have heni : ¬ (e : Int) ≤ (n : Int) := by omega
      have hcall := hinsH.out Bs.flatten T [] a n wr hBl (by omega) (by rw [List.append_nil]; exact hrw)
      have lT : T.length < 20 := by omega
      have han : a ≤ n := by omega
      have hBH := Lib.hid hB
      clear hB
      have hBlH := Lib.hid hBl
      clear hBl
      have haeH := Lib.hid hae
      clear hae
      have hclH := Lib.hid hcl
      clear hcl
      have hrwH := Lib.hid hrw
      clear hrw
      have hsH := Lib.hid hs
      clear hs
      have hlH := Lib.hid hl
      clear hl
      have lTH := Lib.hid lT
      clear lT
      have hcallH := Lib.hid hcall
      clear hcall
      go_wp2_with fail
      refine hcallH.out.mono ?_
      rintro e' w2 ⟨rfl, T', q1, c1, hrw2, hs2⟩
      have hst : St2 C D b off n w (.int .i64 20) w2 := by
        refine ⟨20, Bs, T', by omega, by omega, by go_num, hBH.out, by rw [c1.len]; exact lTH.out, q1, ?_, by rw [List.append_nil] at hrw2; exact hrw2, hsH.out.trans hs2⟩
        exact ((SameCls.refl _).app c1).trans hclH.out
      clear q1 c1 hrw2 hs2
      have hstH := Lib.hid hst
      clear hst
      go_wp2_with fail
      clear hcallH hrwH hsH hclH hlH lTH hBH hBlH haeH
      go_loopw [6] (fun vs wr => St2 C D b off n w vs wr) (fun vs _ => n - (intOf vs).toNat)
      case atStart => exact hstH.out
      case round =>
        clear hstH
        obtain ⟨bs, Bs, T, hb0, hbn, rfl, hB, hT, hsT, hcl, hrw, hs⟩ := hrel
        have hl := hrw.sl.1
        rw [List.length_append] at hl
        by_cases hlt : bs < n
        · have hlti : (bs : Int) < (n : Int) := by omega
          obtain ⟨B2, hB2⟩ : ∃ B2, 2 * bs = B2 := ⟨_, rfl⟩
          have hB2i : 2 * (bs : Int) = (B2 : Int) := by omega
          have hB2b : B2 ≤ 2000000000 := by omega
          have hst : St3 C D bs b off n w (.int .i64 0) (.int .i64 (B2 : Int)) wr := ⟨[], Bs, T, 0, 2 * bs, fun x hx => (by cases hx), hB, hT, hsT, rfl, by omega, by go_num, by go_num, by simpa using hcl, by simpa using hrw, hs⟩
          have hBH := Lib.hid hB
          clear hB
          have hTH := Lib.hid hT
          clear hT
          have hsTH := Lib.hid hsT
          clear hsT
          have hclH := Lib.hid hcl
          clear hcl
          have hrwH := Lib.hid hrw
          clear hrw
          have hsH := Lib.hid hs
          clear hs
          have hlH := Lib.hid hl
          clear hl
          have hstH := Lib.hid hst
          clear hst
          have hB2H := Lib.hid hB2
          clear hB2
          go_wp2_with fail
          clear hBH hTH hsTH hclH hrwH hsH hlH
          go_loopw [7, 8] (fun va vb wr => St3 C D bs b off n w va vb wr) (fun _ vb _ => (n + 1) - (intOf vb).toNat)
          case atStart => exact hstH.out
          case round =>
            clear hstH
            obtain ⟨Ds, Bs, T, a, e, hD, hB, hT, hsT, hDl, hae, rfl, rfl, hcl, hrw, hs⟩ := hrel
            have hl := hrw.sl.1
            rw [List.append_assoc, List.length_append] at hl
            obtain ⟨m, hm⟩ : ∃ m, a + bs = m := ⟨_, rfl⟩
            have hmi : (a : Int) + (bs : Int) = (m : Int) := by omega
            have hem : e = m + bs := by omega
            by_cases hen : e ≤ n
            · have heni : (e : Int) ≤ (n : Int) := by omega
              obtain ⟨x, y, Cs, rfl, lx, ly, sx, sy, hC⟩ := hB.two hT (by omega)
              have hcall := himH.out (e - a) Ds.flatten x y (Cs.flatten ++ T) a m e wr hDl (by omega) (by omega) (Nat.le_refl _) (by omega) (by omega) sx sy (by simpa using hrw)
              have heb : e ≤ 1000000000 := by omega
              have hmb : m ≤ 1000000000 := by omega
              have R0 : ∀ M', SortedBy (fI C) M' → SameCls (fI C) M' (x ++ y) → ∀ w2, RowI C w2 b off n (Ds.flatten ++ M' ++ (Cs.flatten ++ T)) → Srt b wr w2 → St3 C D bs b off n w (.int .i64 (e : Int)) (.int .i64 ((e : Int) + (B2 : Int))) w2 := fun M' q1 c1 w2 h1 h2 => by
                have hB2 := hB2H.out
                have lM' : M'.length = 2 * bs := by rw [c1.len, List.length_append]; omega
                refine ⟨Ds ++ [M'], Cs, T, e, e + 2 * bs, hD.app lM' q1, hC, hT, hsT, ?_, rfl, rfl, by go_num, ?_, by rw [flat_app]; simpa using h1, hs.trans h2⟩
                · rw [flat_app, List.length_append]; omega
                · rw [flat_app]
                  refine SameCls.trans ?_ hcl
                  have := ((SameCls.refl (f := fI C) Ds.flatten).app c1).app (SameCls.refl (f := fI C) (Cs.flatten ++ T))
                  simpa using this
              have hDH := Lib.hid hD
              clear hD
              have hTH := Lib.hid hT
              clear hT
              have hsTH := Lib.hid hsT
              clear hsT
              have hDlH := Lib.hid hDl
              clear hDl
              have haeH := Lib.hid hae
              clear hae
              have hclH := Lib.hid hcl
              clear hcl
              have hrwH := Lib.hid hrw
              clear hrw
              have hsH := Lib.hid hs
              clear hs
              have hlH := Lib.hid hl
              clear hl
              have lxH := Lib.hid lx
              clear lx
              have lyH := Lib.hid ly
              clear ly
              have sxH := Lib.hid sx
              clear sx
              have syH := Lib.hid sy
              clear sy
              have hCH := Lib.hid hC
              clear hC
              have hcallH := Lib.hid hcall
              clear hcall
              have R0H := Lib.hid R0
              clear R0
              have hmH := Lib.hid hm
              clear hm
              have hemH := Lib.hid hem
              clear hem
              go_wp2_with fail
              refine hcallH.out.mono ?_
              rintro e' w2 ⟨rfl, M', q1, c1, hrw2, hs2⟩
              have R1 := R0H.out M' q1 c1 w2 hrw2 hs2
              clear q1 c1 hrw2 hs2
              have R1H := Lib.hid R1
              clear R1
              go_wp2
              refine ⟨?rel, ?measure⟩
              case measure => exact (by simp [intOf]; omega)
              case rel => first | exact R1H.out | exact ⟨rfl, R1H.out⟩ | ((try refine ⟨rfl, ?_⟩); (repeat apply Exists.intro); refine ⟨R1H.out, ?_⟩; ((repeat' apply And.intro) <;> rfl))
            · have heni : ¬ (e : Int) ≤ (n : Int) := by omega
              have han : a ≤ n := by omega
              have hmb : m ≤ 4000000000 := by omega
              have hfew := hB.few (T := T) hb0 (by omega)
              by_cases hmn : m < n
              · have hmni : (m : Int) < (n : Int) := by omega
                obtain ⟨x, rfl, lx, sx⟩ : ∃ x, Bs = [x] ∧ x.length = bs ∧ SortedBy (fI C) x := by
                  rcases hfew with rfl | h
                  · simp only [List.flatten_nil, List.nil_append] at hl; omega
                  · exact h
                simp only [List.flatten_cons, List.flatten_nil, List.append_nil, List.length_append] at hl hrw hcl
                have hcall := himH.out (n - a) Ds.flatten x T [] a m n wr hDl (by omega) (by omega) (Nat.le_refl _) (by omega) (by omega) sx hsT (by rw [List.append_nil]; exact hrw)
                have R0 : ∀ M', SortedBy (fI C) M' → SameCls (fI C) M' (x ++ T) → ∀ w2, RowI C w2 b off n (Ds.flatten ++ M' ++ []) → Srt b wr w2 → St2 C D b off n w (.int .i64 ((bs : Int) * 2)) w2 := fun M' q1 c1 w2 h1 h2 => by
                  refine ⟨2 * bs, Ds, M', by omega, by omega, by congr 1; omega, hD, by rw [c1.len, List.length_append]; omega, q1, ?_, by rw [List.append_nil] at h1; exact h1, hs.trans h2⟩
                  refine SameCls.trans ?_ hcl
                  rw [List.append_assoc]
                  exact (SameCls.refl _).app c1
                clear hfew
                have hDH := Lib.hid hD
                clear hD
                have hBH := Lib.hid hB
                clear hB
                have hTH := Lib.hid hT
                clear hT
                have hsTH := Lib.hid hsT
                clear hsT
                have hDlH := Lib.hid hDl
                clear hDl
                have haeH := Lib.hid hae
                clear hae
                have hclH := Lib.hid hcl
                clear hcl
                have hrwH := Lib.hid hrw
                clear hrw
                have hsH := Lib.hid hs
                clear hs
                have hlH := Lib.hid hl
                clear hl
                have lxH := Lib.hid lx
                clear lx
                have sxH := Lib.hid sx
                clear sx
                have hcallH := Lib.hid hcall
                clear hcall
                have R0H := Lib.hid R0
                clear R0
                have hmH := Lib.hid hm
                clear hm
                have hemH := Lib.hid hem
                clear hem
                go_wp2_with fail
                refine hcallH.out.mono ?_
                rintro e' w2 ⟨rfl, M', q1, c1, hrw2, hs2⟩
                have R1 := R0H.out M' q1 c1 w2 hrw2 hs2
                clear q1 c1 hrw2 hs2
                have R1H := Lib.hid R1
                clear R1
                go_wp2
                refine ⟨?rel, ?measure⟩
                case measure => exact (by simp [intOf]; omega)
                case rel => first | exact R1H.out | exact ⟨rfl, R1H.out⟩ | ((try refine ⟨rfl, ?_⟩); (repeat apply Exists.intro); refine ⟨R1H.out, ?_⟩; ((repeat' apply And.intro) <;> rfl))
              · have hmni : ¬ (m : Int) < (n : Int) := by omega
                have R1 : St2 C D b off n w (.int .i64 ((bs : Int) * 2)) wr := by
                  rcases hfew with rfl | ⟨x, rfl, lx, sx⟩
                  · exact ⟨2 * bs, Ds, T, by omega, by omega, by congr 1; omega, hD, by omega, hsT, by simpa using hcl, by simpa using hrw, hs⟩
                  · simp only [List.flatten_cons, List.flatten_nil, List.append_nil, List.length_append] at hl hrw hcl
                    obtain rfl : T = [] := List.eq_nil_of_length_eq_zero (by omega)
                    exact ⟨2 * bs, Ds, x, by omega, by omega, by congr 1; omega, hD, by omega, sx, by simpa using hcl, by simpa using hrw, hs⟩
                clear hfew
                have hDH := Lib.hid hD
                clear hD
                have hBH := Lib.hid hB
                clear hB
                have hTH := Lib.hid hT
                clear hT
                have hsTH := Lib.hid hsT
                clear hsT
                have hDlH := Lib.hid hDl
                clear hDl
                have haeH := Lib.hid hae
                clear hae
                have hclH := Lib.hid hcl
                clear hcl
                have hrwH := Lib.hid hrw
                clear hrw
                have hsH := Lib.hid hs
                clear hs
                have hlH := Lib.hid hl
                clear hl
                have R1H := Lib.hid R1
                clear R1
                have hmH := Lib.hid hm
                clear hm
                have hemH := Lib.hid hem
                clear hem
                go_wp2
                refine ⟨?rel, ?measure⟩
                case measure => exact (by simp [intOf]; omega)
                case rel => first | exact R1H.out | exact ⟨rfl, R1H.out⟩ | ((try refine ⟨rfl, ?_⟩); (repeat apply Exists.intro); refine ⟨R1H.out, ?_⟩; ((repeat' apply And.intro) <;> rfl))
        · have hlti : ¬ (bs : Int) < (n : Int) := by omega
          have hfin : ∃ M, SortedBy (fI C) M ∧ SameCls (fI C) M D ∧ RowI C wr b off n M := by
            rcases hB.few (T := T) hb0 (by rw [List.length_append]; omega) with rfl | ⟨x, rfl, lx, sx⟩
            · exact ⟨T, hsT, by simpa using hcl, by simpa using hrw⟩
            · simp only [List.flatten_cons, List.flatten_nil, List.append_nil] at hl hrw hcl
              obtain rfl : T = [] := List.eq_nil_of_length_eq_zero (by omega)
              exact ⟨x, sx, by simpa using hcl, by simpa using hrw⟩
          have hBH := Lib.hid hB
          clear hB
          have hTH := Lib.hid hT
          clear hT
          have hsTH := Lib.hid hsT
          clear hsT
          have hclH := Lib.hid hcl
          clear hcl
          have hrwH := Lib.hid hrw
          clear hrw
          have hsH := Lib.hid hs
          clear hs
          have hlH := Lib.hid hl
          clear hl
          have hfinH := Lib.hid hfin
          clear hfin
          go_wp2
          go_end0
          obtain ⟨M, q1, q2, q3⟩ := hfinH.out
          exact ⟨rfl, M, q1, q2, q3, hsH.out⟩
set_option maxRecDepth 100000 in
theorem stable_any (C : CC) (b off n cap : Nat) (D : List Int) (w : World) (hn : n ≤ 1000000000) (hrow : RowI C w b off n D) :
    Calls Tryz.prog 158 #[.slice (some ⟨b, off, none⟩) n cap, (gI C)] w fun e w' => e = .returned (.tuple #[]) ∧ ∃ M, SortedBy (fI C) M ∧ SameCls (fI C) M D ∧ RowI C w' b off n M ∧ Srt b w w' := by
  have h := stable_cmp C b off n cap D w hn hrow
  unfold gI at h
  unfold gI
  have hH := Lib.hid h
  clear h
  go_enter Tryz.func158, Tryz.ntmps158
  go_wp2_with fail
  refine hH.out.mono ?_
  rintro e w1 ⟨rfl, h1⟩
  have hf := h1
  clear h1
  have hfH := Lib.hid hf
  clear hf
  go_wp2
  go_end0
  exact ⟨rfl, hfH.out⟩
end Go.Proofs.YtbnkoefljcekbaaGreatDoor.C9

namespace Go.Proofs.YtbnkoefljcekbaaGreatDoor.C9
open Go.ChangeShapes Go.WideShapes Go.Deep Go.RowKit
set_option linter.unusedVariables false
set_option linter.unusedSimpArgs false

set_option maxRecDepth 100000 in
theorem ins_nil (C : CC) (w : World) : Calls Tryz.prog 222 #[.slice none 0 0, .int .i64 0, .int .i64 0, (gI C)] w fun e w' => e = .returned (.tuple #[]) ∧ w' = w := by
  unfold gI
  go_enter Tryz.func222, Tryz.ntmps222
  go_wp2
  go_loopw [8] (fun i wr => i = .int .i64 1 ∧ wr = w) (fun i _ => 0)
  case atStart => exact ⟨rfl, rfl⟩
  case round =>
    obtain ⟨rfl, rfl⟩ := hrel
    go_wp2
    go_end0
    exact ⟨rfl, rfl⟩
set_option maxRecDepth 100000 in
theorem stcmp_nil (C : CC) (w : World) : Calls Tryz.prog 204 #[.slice none 0 0, .int .i64 0, (gI C)] w fun e w' => e = .returned (.tuple #[]) ∧ w' = w := by
  have hi := fun w => ins_nil C w
  unfold gI at hi
  unfold gI
  have hiH := Lib.hid hi
  clear hi
  go_enter Tryz.func204, Tryz.ntmps204
  go_wp2
  go_loopw [7, 8] (fun va vb wr => va = .int .i64 0 ∧ vb = .int .i64 20 ∧ wr = w) (fun _ vb _ => 0)
  case atStart => exact ⟨rfl, rfl, rfl⟩
  case round =>
    obtain ⟨rfl, rfl, rfl⟩ := hrel
    go_wp2_with fail
    refine (hiH.out _).mono ?_
    rintro e w2 ⟨rfl, rfl⟩
    go_wp2
    go_loopw [6] (fun vs wr => vs = .int .i64 20 ∧ wr = w2) (fun vs _ => 0)
    case atStart => exact ⟨rfl, rfl⟩
    case round =>
      obtain ⟨rfl, rfl⟩ := hrel
      go_wp2
      go_end0
      exact ⟨rfl, rfl⟩
set_option maxRecDepth 100000 in
theorem stable_nil (C : CC) (w : World) : Calls Tryz.prog 158 #[.slice none 0 0, (gI C)] w fun e w' => e = .returned (.tuple #[]) ∧ w' = w := by
  have hi := fun w => stcmp_nil C w
  unfold gI at hi
  unfold gI
  have hiH := Lib.hid hi
  clear hi
  go_enter Tryz.func158, Tryz.ntmps158
  go_wp2_with fail
  refine (hiH.out _).mono ?_
  rintro e w1 ⟨rfl, rfl⟩
  go_wp2
  go_end0
  exact ⟨rfl, rfl⟩
end Go.Proofs.YtbnkoefljcekbaaGreatDoor.C9

namespace Go.Proofs.YtbnkoefljcekbaaGreatDoor.C9
open Go.ChangeShapes Go.WideShapes Go.Deep Go.RowKit
set_option linter.unusedVariables false
set_option linter.unusedSimpArgs false

/-- what is asked of the predicate on numbers -/
def PredN (g : Nat) (lb : Array Value) (p : Nat → Bool) (N : Nat) (w : World) : Prop :=
  ∀ (W : World) (k : Nat), k < N → Below w.heap.size w W → Calls Tryz.prog g (#[.int .i64 k] ++ lb) W fun e w' => e = .returned (.bool (p k)) ∧ Below W.heap.size W w'
def upN (p : Nat → Bool) (k : Nat) : List Nat := (List.range k).filter p
theorem upN_succ (p : Nat → Bool) (k : Nat) : upN p (k + 1) = if p k = true then upN p k ++ [k] else upN p k := by
  unfold upN
  rw [List.range_succ, List.filter_append]
  by_cases h : p k = true
  · simp [h]
  · simp [h]
theorem upN_len (p : Nat → Bool) (k : Nat) : (upN p k).length ≤ k := by
  have := List.length_filter_le p (List.range k)
  rw [List.length_range] at this
  exact this
def CrBox (S : List Int) (CB N : Nat) (w : World) : CC := ⟨S, w.heap.size, CB, N⟩
def FsR (p : Nat → Bool) (S : List Int) (CB N : Nat) (w : World) (v i : Value) (wr : World) : Prop :=
  ∃ (k : Nat) (A' : Option Addr) (n' c' : Nat), k ≤ N ∧ i = .int .i64 k ∧ v = .slice A' n' c' ∧ Own RInt 3 wr (w.heap.size + 1) v (nz (upN p k)) ∧ Below w.heap.size w wr ∧ CrAt (CrBox S CB N w) wr ∧ w.heap.size + 1 ≤ wr.heap.size
end Go.Proofs.YtbnkoefljcekbaaGreatDoor.C9

namespace Go.Proofs.YtbnkoefljcekbaaGreatDoor.C9
open Go.ChangeShapes Go.WideShapes Go.Deep Go.RowKit
set_option linter.unusedVariables false
set_option linter.unusedSimpArgs false

/-- the boxes of l and done, wherever they lie, and done itself -/
structure RdC (P Q DB N c : Nat) (A : Option Addr) (f : Nat → Bool) (W : World) : Prop where
  c0 : W.cell? ⟨P, 0, none⟩ = some (.slice A N c)
  cD : W.cell? ⟨Q, 0, none⟩ = some (.slice (some ⟨DB, 0, none⟩) N N)
  row : BRow W DB N f
  lt : DB < W.heap.size
theorem RdC.below {P Q DB N c : Nat} {A : Option Addr} {f : Nat → Bool} {W W' : World} (h : RdC P Q DB N c A f W) (hb : Below W.heap.size W W') : RdC P Q DB N c A f W' :=
  ⟨(hb.cell (cell?_lt h.c0)).trans h.c0, (hb.cell (cell?_lt h.cD)).trans h.cD, h.row.below hb h.lt, Nat.lt_of_lt_of_le h.lt hb.size⟩
set_option maxHeartbeats 1000000 in
theorem rdy1_any (P Q DB N c : Nat) (A : Option Addr) (f : Nat → Bool) (l : List Work) (s : ByteArray) (W : World) (hN : N ≤ 1000) (hF : RdC P Q DB N c A f W) (hl : SlAt RWork W A N l) (hr : l.Pairwise fun a b => cmpS a.id_ b.id_ = -1) (hs : hasId l s = true) :
    Calls Tryz.prog 154 #[.string s, .pointer (some ⟨P, 0, none⟩), .pointer (some ⟨Q, 0, none⟩)] W fun e w' => e = .returned (.bool (!f (ixOf l s))) ∧ Below W.heap.size W w' := by
  have c0 := hF.c0
  have hll := hl.1
  obtain ⟨k, hk⟩ : ∃ k, ixOf l s = k := ⟨_, rfl⟩
  have hkl : k < N := by rw [← hk, ← hll]; exact ixOf_lt hs
  rw [hk]
  obtain ⟨u, hu⟩ : ∃ u, f k = u := ⟨_, rfl⟩
  rw [hu]
  have hFH := Lib.hid hF
  clear hF
  have hlH := Lib.hid hl
  clear hl
  have hrH := Lib.hid hr
  clear hr
  have hsH := Lib.hid hs
  clear hs
  have hkH := Lib.hid hk
  clear hk
  have huH := Lib.hid hu
  clear hu
  go_enter Tryz.func154, Tryz.ntmps154
  go_wp2_with fail
  refine (workAt_any A N c l s _ hN hlH.out hrH.out).mono ?_
  rintro e w1 ⟨i, rfl, hi, hb⟩
  rw [hsH.out]
  obtain rfl : i = k := (hi hsH.out).trans hkH.out
  have hF1 := hFH.out.below hb
  have cD := hF1.cD
  have cR := (hF1.row i hkl).1
  rw [huH.out] at cR
  clear hi c0
  have hF1H := Lib.hid hF1
  clear hF1
  have hbH := Lib.hid hb
  clear hb
  go_wp2
  go_ret
  exact ⟨rfl, hbH.out⟩
def rdP (l : List Work) (f : Nat → Bool) (k : Nat) : Bool := (gOf l k).all f
theorem rdP_get {l : List Work} {f : Nat → Bool} {k : Nat} {x : Work} (hx : l[k]? = some x) {b : Bool} (hb : x.after.l.any (fun s => !f (ixOf l s)) = b) : rdP l f k = !b := by
  unfold rdP
  rw [gOf_get hx, List.all_map, ← hb, List.not_any_eq_all_not]
  simp [Function.comp_def]
set_option maxRecDepth 100000 in
set_option maxHeartbeats 2000000 in
theorem ready_any (DB N c : Nat) (A : Option Addr) (f : Nat → Bool) (l : List Work) (k : Nat) (w : World) (hN : N ≤ 1000) (hrow : BRow w DB N f) (hDB : DB < w.heap.size) (hl : SlAt RWork w A N l) (hok : WOk l) (hk : k < N) :
    Calls Tryz.prog 106 #[.slice A N c, .int .i64 k, .slice (some ⟨DB, 0, none⟩) N N] w fun e w' => e = .returned (.bool (rdP l f k)) ∧ Below w.heap.size w w' := by
  have hll := hl.1
  have eg : ∀ args w, (callFunc 154 args).run Tryz.prog w = .ok (.enter 154 args) w := enters_of Tryz.func154 (by kernel_rfl) rfl
  obtain ⟨b, off, hA, _⟩ := hl.2.1 (by omega)
  subst hA
  obtain ⟨x, hx⟩ : ∃ x, l[k]? = some x := ⟨l[k]'(by omega), List.getElem?_eq_getElem _⟩
  obtain ⟨W, hW⟩ : ∃ X, (w.alloc (.cells #[.slice (some ⟨b, off, none⟩) N c] 23)).alloc (.cells #[.slice (some ⟨DB, 0, none⟩) N N] 59) = X := ⟨_, rfl⟩
  have hb : Below w.heap.size w W := by rw [← hW]; exact ((Below.refl _ _).alloc (Nat.le_refl _) _).alloc (by simp) _
  have hF : RdC w.heap.size (w.heap.size + 1) DB N c (some ⟨b, off, none⟩) f W := by
    have b0 := (Boxed.new w 23 (.slice (some ⟨b, off, none⟩) N c)).alloc (.cells #[.slice (some ⟨DB, 0, none⟩) N N] 59)
    have b1 := Boxed.new (w.alloc (.cells #[.slice (some ⟨b, off, none⟩) N c] 23)) 59 (.slice (some ⟨DB, 0, none⟩) N N)
    rw [World.size_alloc] at b1
    rw [hW] at b0 b1
    exact ⟨b0.cell, b1.cell, hrow.below hb hDB, Nat.lt_of_lt_of_le hDB hb.size⟩
  obtain ⟨d0, d1, d2, d3⟩ := cells_Work (hl.below hb) hx
  have hxm := List.mem_of_getElem? hx
  have hxa := (hl.2.2 x hxm).2.2.2
  have hxn : x.after.n ≤ 9223372036854775807 := Nat.le_trans hxa.2.1 hxa.2.2.1
  have hsl := hxa.1.below hb
  obtain ⟨pb, hpb⟩ : ∃ b, x.after.l.any (fun s => !f (ixOf l s)) = b := ⟨_, rfl⟩
  have hpred : PredL 154 #[.pointer (some ⟨w.heap.size, 0, none⟩), .pointer (some ⟨w.heap.size + 1, 0, none⟩)] (fun s => !f (ixOf l s)) x.after.l W := fun W' s hs hW' =>
    rdy1_any _ _ DB N c _ f l s W' hN (hF.below hW') ((hl.below hb).below hW') hok.rise (allThere_get hok.all hx hs)
  have hrp := rdP_get hx hpb
  rw [hrp]
  have c0 := hF.c0
  have hlH := Lib.hid hl
  clear hl
  have hokH := Lib.hid hok
  clear hok
  have hxH := Lib.hid hx
  clear hx
  have hbH := Lib.hid hb
  clear hb
  have hFH := Lib.hid hF
  clear hF
  have hxaH := Lib.hid hxa
  clear hxa
  have hslH := Lib.hid hsl
  clear hsl
  have hpbH := Lib.hid hpb
  clear hpb
  have hpredH := Lib.hid hpred
  clear hpred
  have hrpH := Lib.hid hrp
  clear hrp
  have hrowH := Lib.hid hrow
  clear hrow
  go_enter Tryz.func106, Tryz.ntmps106
  go_wp2_with fail
  refine (containsFunc_any 154 #[.pointer (some ⟨w.heap.size, 0, none⟩), .pointer (some ⟨w.heap.size + 1, 0, none⟩)] eg (fun s => !f (ixOf l s)) x.after.A x.after.n x.after.cap x.after.l _ hslH.out hxn hpredH.out pb hpbH.out).mono ?_
  rintro e w5 ⟨rfl, hw5⟩
  have hb5 := hbH.out.trans (hw5.mono hbH.out.size)
  clear hw5
  have hb5H := Lib.hid hb5
  clear hb5
  go_wp2
  go_ret
  exact ⟨rfl, hb5H.out⟩
end Go.Proofs.YtbnkoefljcekbaaGreatDoor.C9

namespace Go.Proofs.YtbnkoefljcekbaaGreatDoor.C9
open Go.ChangeShapes Go.WideShapes Go.Deep Go.RowKit
set_option linter.unusedVariables false
set_option linter.unusedSimpArgs false

theorem keepC {W w' : World} {a : Addr} {v : Value} (hb : Below W.heap.size W w') (h : W.cell? a = some v) : w'.cell? a = some v := (hb.cell (cell?_lt h)).trans h
theorem RdC.set {P Q DB N c k : Nat} {A : Option Addr} {f : Nat → Bool} {W : World} (h : RdC P Q DB N c A f W) (hP : P ≠ DB) (hQ : Q ≠ DB) : RdC P Q DB N c A (fun j => if j = k then true else f j) (W.setCell ⟨DB, k, none⟩ (.bool true)) :=
  ⟨by rw [World.cell?_setCell_other _ _ _ _ (by intro e; exact hP (congrArg Addr.block e).symm)]; exact h.c0, by rw [World.cell?_setCell_other _ _ _ _ (by intro e; exact hQ (congrArg Addr.block e).symm)]; exact h.cD, h.row.set true, by simpa using h.lt⟩

end Go.Proofs.YtbnkoefljcekbaaGreatDoor.C9

namespace Go.Proofs.YtbnkoefljcekbaaGreatDoor.C9
open Go.ChangeShapes Go.WideShapes Go.Deep Go.RowKit
set_option linter.unusedVariables false
set_option linter.unusedSimpArgs false

def LosRel (ws : List Worker) (l : List Loss) (d : Int) (w0 : World) (i : Value) (wr : World) : Prop :=
  ∃ k : Nat, k ≤ l.length ∧ i = .int .i64 k ∧ lossErr ws (prevLo l k) (l.drop k) = d ∧ Below w0.heap.size w0 wr
def CfAns (c : Int) (w : World) (e : Ending) (w' : World) : Prop := e = .returned (.int .i64 c) ∧ Below w.heap.size w w'
abbrev farmV (x : Farm) : Value := .agg #[.slice x.workers.A x.workers.n x.workers.cap, .slice x.works.A x.works.n x.works.cap, .slice x.lost.A x.lost.n x.lost.cap, .int .i64 x.tries, .bool x.doubles]
set_option maxRecDepth 100000 in
set_option maxHeartbeats 8000000 in
theorem farm_any (x : Farm) (w : World) (hx : RFarm.ok w x) (c : Int) (hF : farmF x = c) :
    Calls Tryz.prog 12 #[farmV x] w (CfAns c w) := by
  obtain ⟨hx0, hx1, hx2, hx3, hx4⟩ := hx
  unfold farmV
  obtain ⟨Z, hZ⟩ : ∃ Z, CfAns c w = Z := ⟨_, rfl⟩
  have hZ' : ∀ W, Below w.heap.size w W → Z (.returned (.int .i64 c)) W := fun W h => by rw [← hZ]; exact ⟨rfl, h⟩
  rw [hZ]
  clear hZ
  unfold farmF at hF
  obtain ⟨⟨wA, wn, wc, wsl⟩, ⟨xA, xn, xc, xsl⟩, ⟨lA, ln, lc, lsl⟩, tr, db⟩ := x
  simp only at hx0 hx1 hx2 hx3 hx4 hF ⊢
  obtain ⟨W1, hW1⟩ : ∃ Y, w.alloc (.cells #[.slice wA wn wc, .slice xA xn xc, .slice lA ln lc, .int .i64 tr, .bool db] 26) = Y := ⟨_, rfl⟩
  obtain ⟨xb, hxb⟩ : ∃ b, w.heap.size = b := ⟨_, rfl⟩
  have hba : Below w.heap.size w W1 := by rw [← hW1]; exact (Below.refl _ _).alloc (Nat.le_refl _) _
  have c0 : W1.cell? ⟨xb, 0, none⟩ = some (.slice wA wn wc) := by rw [← hW1, ← hxb]; exact cell_new _ _ _ 0
  have c1 : W1.cell? ⟨xb, 1, none⟩ = some (.slice xA xn xc) := by rw [← hW1, ← hxb]; exact cell_new _ _ _ 1
  have c2 : W1.cell? ⟨xb, 2, none⟩ = some (.slice lA ln lc) := by rw [← hW1, ← hxb]; exact cell_new _ _ _ 2
  have c3 : W1.cell? ⟨xb, 3, none⟩ = some (.int .i64 tr) := by rw [← hW1, ← hxb]; exact cell_new _ _ _ 3
  have hw1 : SlAt RWorker W1 wA wn wsl := hx0.1.below hba
  have hw2 : SlAt RWork W1 xA xn xsl := hx1.1.below hba
  have hw3 : SlAt RLoss W1 lA ln lsl := hx2.1.below hba
  have hm2 : ln ≤ lc ∧ lc ≤ maxLen := ⟨hx2.2.1, hx2.2.2.1⟩
  have hC : ∀ W, Below W1.heap.size W1 W → W.cell? ⟨xb, 2, none⟩ = some (.slice lA ln lc) ∧ W.cell? ⟨xb, 0, none⟩ = some (.slice wA wn wc) ∧ W.cell? ⟨xb, 3, none⟩ = some (.int .i64 tr) := fun W h => ⟨keepC h c2, keepC h c0, keepC h c3⟩
  have hll : lsl.length = ln := hw3.1
  have hwl : wsl.length = wn := hw1.1
  obtain ⟨f1, hf1⟩ : ∃ f, workersF wsl = f := ⟨_, rfl⟩
  obtain ⟨f2, hf2⟩ : ∃ f, worksF xsl = f := ⟨_, rfl⟩
  rw [hf1, hf2] at hF
  have RZ : ∀ W, Below W1.heap.size W1 W → Z (.returned (.int .i64 c)) W := fun W h => hZ' W (hba.trans (h.mono hba.size))
  have hCH := Lib.hid hC
  clear hC
  have hZ'H := Lib.hid hZ'
  clear hZ'
  have hx0H := Lib.hid hx0
  clear hx0
  have hx1H := Lib.hid hx1
  clear hx1
  have hx2H := Lib.hid hx2
  clear hx2
  have hx3H := Lib.hid hx3
  clear hx3
  have hx4H := Lib.hid hx4
  clear hx4
  have hW1H := Lib.hid hW1
  clear hW1
  have hxbH := Lib.hid hxb
  clear hxb
  have hbaH := Lib.hid hba
  clear hba
  have hw1H := Lib.hid hw1
  clear hw1
  have hw2H := Lib.hid hw2
  clear hw2
  have hw3H := Lib.hid hw3
  clear hw3
  have hFH := Lib.hid hF
  clear hF
  have hf1H := Lib.hid hf1
  clear hf1
  have hf2H := Lib.hid hf2
  clear hf2
  have hllH := Lib.hid hll
  clear hll
  have hwlH := Lib.hid hwl
  clear hwl
  have RZH := Lib.hid RZ
  clear RZ
  go_enter Tryz.func12, Tryz.ntmps12
  go_wp2_with fail
  rw [hW1H.out, hxbH.out]
  refine (workers_any wA wn wc wsl _ hw1H.out f1 hf1H.out).mono ?_
  rintro e w1 ⟨rfl, hb1⟩
  have c0 := keepC hb1 c0
  have c1 := keepC hb1 c1
  have c2 := keepC hb1 c2
  have c3 := keepC hb1 c3
  have hF := hFH.out
  clear hFH
  by_cases h1 : f1 = 0
  · subst h1
    rw [if_pos rfl] at hF
    have hb1H := Lib.hid hb1
    clear hb1
    have hFH := Lib.hid hF
    clear hF
    go_wp2_with fail
    refine (works_any xA xn xc xsl _ (hw2H.out.below hb1H.out) f2 hf2H.out).mono ?_
    rintro e w2 ⟨rfl, hb2⟩
    have c0 := keepC hb2 c0
    have c2 := keepC hb2 c2
    have c3 := keepC hb2 c3
    have hb2 := hb1H.out.trans (hb2.mono hb1H.out.size)
    have hF := hFH.out
    clear hFH
    by_cases h2 : f2 = 0
    · subst h2
      rw [if_pos rfl, hllH.out] at hF
      by_cases h3 : ln ≤ 200
      · rw [if_pos h3] at hF
        obtain ⟨d, hd⟩ : ∃ d, lossErr wsl none lsl = d := ⟨_, rfl⟩
        rw [hd] at hF
        have hst : LosRel wsl lsl d W1 (.int .i64 0) w2 := ⟨0, Nat.zero_le _, rfl, hd, hb2⟩
        have hrise : wsl.length ≤ 50 ∧ wsl.Pairwise fun a b => cmpS a.name b.name = -1 := by
          have h := hf1H.out
          unfold workersF at h
          by_cases h6 : wsl.length ≤ 50
          · rw [if_pos h6] at h; exact ⟨h6, (workersErr_ok _ _ h).2.1⟩
          · rw [if_neg h6] at h; exact absurd h (by decide)
        have he5 : (5 : Int) = d → c = 5 := fun e => by rw [← e, if_neg (by decide)] at hF; exact hF.symm
        have he1 : (1 : Int) = d → c = 1 := fun e => by rw [← e, if_neg (by decide)] at hF; exact hF.symm
        have he8 : (8 : Int) = d → c = 8 := fun e => by rw [← e, if_neg (by decide)] at hF; exact hF.symm
        have he0 : (0 : Int) = d → (if inR 1 10 tr = true then 0 else 1) = c := fun e => by rw [← e, if_pos rfl] at hF; exact hF
        clear hF
        have hb2H := Lib.hid hb2
        clear hb2
        have hstH := Lib.hid hst
        clear hst
        have hdH := Lib.hid hd
        clear hd
        have hriseH := Lib.hid hrise
        clear hrise
        have he5H := Lib.hid he5
        clear he5
        have he1H := Lib.hid he1
        clear he1
        have he8H := Lib.hid he8
        clear he8
        have he0H := Lib.hid he0
        clear he0
        go_wp2_with fail
        clear c0 c1 c2 c3
        go_loopw [28] (fun i w5 => LosRel wsl lsl d W1 i w5) (fun i _ => ln - (intOf i).toNat)
        case atStart => exact hstH.out
        case round =>
          clear hstH
          obtain ⟨k, hk, rfl, hck, hb⟩ := hrel
          have hkl : k ≤ ln := by have := hllH.out; omega
          have hbs := hb.size
          obtain ⟨c2, c0, c3⟩ := hCH.out wr hb
          by_cases hlt : k < ln
          · have hsl := hw3H.out.below hb
            obtain ⟨bl, ol, hA9, _⟩ := hsl.2.1 (by omega)
            subst hA9
            obtain ⟨y, hy⟩ : ∃ y, lsl[k]? = some y := ⟨lsl[k]'(by have := hllH.out; omega), List.getElem?_eq_getElem _⟩
            obtain ⟨d0, d1⟩ := cells_Loss hsl hy
            have hok := hsl.2.2 y (List.mem_of_getElem? hy)
            rw [drop_lo hy, lossErr] at hck
            have hkl2 : k + 1 ≤ lsl.length := by have := hllH.out; omega
            have hpn : prevLo lsl (k + 1) = some y := by rw [prevLo, if_neg (by omega), show k + 1 - 1 = k from rfl, hy]
            obtain ⟨nm, mt⟩ := y
            simp only at d0 d1 hck
            have hba := hb.alloc hbs (.cells #[.string nm, .int .i64 mt] 71)
            have hbas := hba.size
            have c0a := keepC ((Below.refl wr.heap.size wr).alloc (Nat.le_refl _) (.cells #[.string nm, .int .i64 mt] 71)) c0
            have hwk := (hw1H.out.below hba)
            have n5 : hasNm wsl nm = false → c = 5 := fun h => he5H.out (by rw [h] at hck; rw [if_neg (by decide)] at hck; exact hck)
            obtain ⟨hn, hhn⟩ : ∃ b, hasNm wsl nm = b := ⟨_, rfl⟩
            rw [hhn] at n5
            have hyH := Lib.hid hy
            clear hy
            have hckH := Lib.hid hck
            clear hck
            have hbH := Lib.hid hb
            clear hb
            have hbaH := Lib.hid hba
            clear hba
            have hbasH := Lib.hid hbas
            clear hbas
            have hokH := Lib.hid hok
            clear hok
            have hpnH := Lib.hid hpn
            clear hpn
            have hkl2H := Lib.hid hkl2
            clear hkl2
            have hwkH := Lib.hid hwk
            clear hwk
            have hslH := Lib.hid hsl
            clear hsl
            have n5H := Lib.hid n5
            clear n5
            have hhnH := Lib.hid hhn
            clear hhn
            go_wp2_with fail
            refine (workerAt_any wA wn wc wsl nm _ (by have := hriseH.out.1; have := hwlH.out; omega) hwkH.out hriseH.out.2).mono ?_
            rintro e w4 ⟨i, rfl, _, hw4⟩
            rw [hhnH.out]
            have q0 : w4.cell? ⟨wr.heap.size, 0, none⟩ = some (.string nm) := (hw4.cell (by simp)).trans (cell_new _ _ _ 0)
            have q1 : w4.cell? ⟨wr.heap.size, 1, none⟩ = some (.int .i64 mt) := (hw4.cell (by simp)).trans (cell_new _ _ _ 1)
            have hb4 := hbaH.out.trans (hw4.mono hbasH.out)
            clear c0 c0a c2 c3 d0 d1
            have c2 := (hCH.out w4 hb4).1
            cases hn
            · obtain rfl := n5H.out rfl
              have R := RZH.out _ hb4
              have RH := Lib.hid R
              clear R
              have hb4H := Lib.hid hb4
              clear hb4
              have hw4H := Lib.hid hw4
              clear hw4
              go_wp2
              exact RH.out
            · have hck := hckH.out
              clear hckH
              rw [if_pos hhnH.out] at hck
              by_cases i1 : inR 0 1000000000 mt = true
              · rw [if_pos i1] at hck
                by_cases hk0 : k = 0
                · subst hk0
                  have R : ∀ nq, LosRel wsl lsl d W1 (.int .i64 1) (w4.drewN nq) := by
                    refine fun nq => ⟨1, hkl2H.out, by go_num, ?_, bel_drewN hb4 nq⟩
                    rw [prevLo, if_pos rfl, Option.map_none, if_neg (by decide)] at hck
                    rw [show prevLo lsl 1 = _ from hpnH.out]
                    exact hck
                  have RH := Lib.hid R
                  clear R
                  have hckH := Lib.hid hck
                  clear hck
                  have hb4H := Lib.hid hb4
                  clear hb4
                  have hw4H := Lib.hid hw4
                  clear hw4
                  go_wp2_with (go_at_call 39; refine (moment_p _ _).mono ?_; rintro e wz ⟨rfl, rfl⟩)
                  go_quiet (fail)
                  go_wp2
                  refine ⟨?rel, ?measure⟩
                  case measure => (simp [intOf]; omega)
                  case rel => first | exact (RH.out _) | exact ⟨rfl, (RH.out _)⟩ | ((try refine ⟨rfl, ?_⟩); (repeat apply Exists.intro); refine ⟨(RH.out _), ?_⟩; ((repeat' apply And.intro) <;> rfl))
                · obtain ⟨j, rfl⟩ : ∃ j, k = j + 1 := ⟨k - 1, by omega⟩
                  obtain ⟨y, hy⟩ : ∃ y, lsl[j]? = some y := ⟨lsl[j]'(by have := hllH.out; omega), List.getElem?_eq_getElem _⟩
                  obtain ⟨d0, d1⟩ := cells_Loss (hw3H.out.below hb4) hy
                  have hpr : prevLo lsl (j + 1) = some y := by rw [prevLo, if_neg (by omega), show j + 1 - 1 = j from rfl, hy]
                  rw [hpr, Option.map_some] at hck
                  clear hpr
                  obtain ⟨ynm, ymt⟩ := y
                  simp only at d0 d1
                  have f0 : (0 : Int) ≤ (j : Int) := by omega
                  have f1 : (j : Int) < (ln : Int) := by omega
                  have hln2 : ln ≤ 200 := h3
                  have f2 : IntKind.i64.wrap ((j : Int) + 1 - 1) = (j : Int) := by rw [show (j : Int) + 1 - 1 = (j : Int) by omega]; exact IntWalk.i64_in _ (by omega)
                  have f3 : (j : Int).toNat = j := by omega
                  have f4 : IntKind.i64.wrap (j : Int) = (j : Int) := IntWalk.i64_in _ (by omega)
                  have f5 : IntKind.i64.wrap (((j + 1 : Nat) : Int) - 1) = (j : Int) := by rw [show ((j + 1 : Nat) : Int) - 1 = (j : Int) by omega]; exact f4
                  obtain ⟨cc, hcc⟩ : ∃ cc, lossCmp ⟨nm, mt⟩ ⟨ynm, ymt⟩ = cc := ⟨_, rfl⟩
                  have hle := lossCmp_le ⟨nm, mt⟩ ⟨ynm, ymt⟩
                  rw [hcc] at hle
                  rw [← hle] at hck
                  unfold lossCmp at hcc
                  clear hle
                  cases hcd : decide (cc ≤ 0)
                  · rw [hcd, if_neg (by decide)] at hck
                    have R : ∀ wx, Below W1.heap.size W1 wx → LosRel wsl lsl d W1 (.int .i64 (j + 1 + 1)) wx := by
                      refine fun wx hbx => ⟨j + 1 + 1, hkl2H.out, by go_num, ?_, hbx⟩
                      rw [hpnH.out]
                      exact hck
                    have hckH := Lib.hid hck
                    clear hck
                    have hccH := Lib.hid hcc
                    clear hcc
                    have hb4H := Lib.hid hb4
                    clear hb4
                    have hw4H := Lib.hid hw4
                    clear hw4
                    have RH := Lib.hid R
                    clear R
                    have hyH := Lib.hid hy
                    clear hy
                    go_wp2_with (go_at_call 39; refine (moment_p _ _).mono ?_; rintro e wz ⟨rfl, rfl⟩)
                    go_region_held3 (fun w' => w'.cell? ⟨wr.heap.size, 0, none⟩ = some (.string nm) ∧ w'.cell? ⟨wr.heap.size, 1, none⟩ = some (.int .i64 mt) ∧ w'.cell? ⟨xb, 2, none⟩ = some (.slice (some ⟨bl, ol, none⟩) ln lc) ∧ w'.cell? ⟨bl, ol + j * 2, none⟩ = some (.string ynm) ∧ w'.cell? ⟨bl, ol + j * 2 + 1, none⟩ = some (.int .i64 ymt)) (go_keep)
                      (first
                        | (go_at_call 41; refine (Tryz.cmp_Compare_int _ _ _).mono ?_; rintro e w1 ⟨rfl, rfl⟩)
                        | (go_at_call 42; refine (Tryz.strings_Compare _ _ _).mono ?_; rintro e w1 ⟨rfl, rfl⟩)
                        | (go_at_call 40; refine (or_any _ 2 _ [Lib.compareInt mt ymt, cmpS nm ynm] _ (by omega) (or_cells2 rfl ?_ ?_ (I64_of (cmpI_range _ _)) (I64_of (cmpS_range _ _))) cc (by exact hccH.out)).mono ?_; (simp [go_sem]); (simp [go_sem]; rfl); rintro e w1 ⟨rfl, rfl⟩))
                    go_wp2
                    refine ⟨?rel, ?measure⟩
                    case measure => (simp [intOf]; omega)
                    case rel => first | exact (RH.out _ (by first | exact bel_drewN (Below.alloc hb4H.out (by have := hb4H.out.size; omega) _) _ | exact (Below.alloc hb4H.out (by have := hb4H.out.size; omega) _).drew)) | exact ⟨rfl, (RH.out _ (by first | exact bel_drewN (Below.alloc hb4H.out (by have := hb4H.out.size; omega) _) _ | exact (Below.alloc hb4H.out (by have := hb4H.out.size; omega) _).drew))⟩ | ((try refine ⟨rfl, ?_⟩); (repeat apply Exists.intro); refine ⟨(RH.out _ (by first | exact bel_drewN (Below.alloc hb4H.out (by have := hb4H.out.size; omega) _) _ | exact (Below.alloc hb4H.out (by have := hb4H.out.size; omega) _).drew)), ?_⟩; ((repeat' apply And.intro) <;> rfl))
                  · rw [hcd, if_pos rfl] at hck
                    obtain rfl := he8H.out hck
                    have R : ∀ W, Below W1.heap.size W1 W → _ := RZH.out
                    have hckH := Lib.hid hck
                    clear hck
                    have hccH := Lib.hid hcc
                    clear hcc
                    have hb4H := Lib.hid hb4
                    clear hb4
                    have hw4H := Lib.hid hw4
                    clear hw4
                    have RH := Lib.hid R
                    clear R
                    have hyH := Lib.hid hy
                    clear hy
                    go_wp2_with (go_at_call 39; refine (moment_p _ _).mono ?_; rintro e wz ⟨rfl, rfl⟩)
                    go_region_held3 (fun w' => w'.cell? ⟨wr.heap.size, 0, none⟩ = some (.string nm) ∧ w'.cell? ⟨wr.heap.size, 1, none⟩ = some (.int .i64 mt) ∧ w'.cell? ⟨xb, 2, none⟩ = some (.slice (some ⟨bl, ol, none⟩) ln lc) ∧ w'.cell? ⟨bl, ol + j * 2, none⟩ = some (.string ynm) ∧ w'.cell? ⟨bl, ol + j * 2 + 1, none⟩ = some (.int .i64 ymt)) (go_keep)
                      (first
                        | (go_at_call 41; refine (Tryz.cmp_Compare_int _ _ _).mono ?_; rintro e w1 ⟨rfl, rfl⟩)
                        | (go_at_call 42; refine (Tryz.strings_Compare _ _ _).mono ?_; rintro e w1 ⟨rfl, rfl⟩)
                        | (go_at_call 40; refine (or_any _ 2 _ [Lib.compareInt mt ymt, cmpS nm ynm] _ (by omega) (or_cells2 rfl ?_ ?_ (I64_of (cmpI_range _ _)) (I64_of (cmpS_range _ _))) cc (by exact hccH.out)).mono ?_; (simp [go_sem]); (simp [go_sem]; rfl); rintro e w1 ⟨rfl, rfl⟩))
                    go_wp2
                    exact RH.out _ (by first | exact bel_drewN (Below.alloc hb4H.out (by have := hb4H.out.size; omega) _) _ | exact (Below.alloc hb4H.out (by have := hb4H.out.size; omega) _).drew)
              · rw [if_neg i1] at hck
                obtain rfl := he1H.out hck
                have R := RZH.out _ hb4
                have i1' : inR 0 1000000000 mt = false := by simpa using i1
                clear i1
                have RH := Lib.hid R
                clear R
                have hb4H := Lib.hid hb4
                clear hb4
                have hw4H := Lib.hid hw4
                clear hw4
                have hckH := Lib.hid hck
                clear hck
                go_wp2_with (go_at_call 39; refine (moment_p _ _).mono ?_; rintro e wz ⟨rfl, rfl⟩)
                exact RH.out
          · obtain rfl : k = ln := by omega
            have e : lsl.drop k = [] := List.drop_eq_nil_of_le (by have := hllH.out; omega)
            rw [e, lossErr] at hck
            have hF := he0H.out hck
            clear e hck
            by_cases i1 : inR 1 10 tr = true
            · rw [if_pos i1] at hF
              subst hF
              have R := RZH.out _ hb
              have RH := Lib.hid R
              clear R
              have hbH := Lib.hid hb
              clear hb
              go_wp2_with (go_at_call 43; refine (within_p _ _ _ _).mono ?_; rintro e wz ⟨rfl, rfl⟩)
              exact RH.out
            · rw [if_neg i1] at hF
              subst hF
              have i1' : inR 1 10 tr = false := by simpa using i1
              clear i1
              have R := RZH.out _ hb
              have RH := Lib.hid R
              clear R
              have hbH := Lib.hid hb
              clear hb
              go_wp2_with (go_at_call 43; refine (within_p _ _ _ _).mono ?_; rintro e wz ⟨rfl, rfl⟩)
              exact RH.out
      · rw [if_neg h3] at hF
        subst hF
        have R := RZH.out _ hb2
        have RH := Lib.hid R
        clear R
        have hb2H := Lib.hid hb2
        clear hb2
        go_wp2
        exact RH.out
    · rw [if_neg h2] at hF
      subst hF
      have R := RZH.out _ hb2
      have h2' : (f2 != 0) = true := by simpa using h2
      clear h2
      have RH := Lib.hid R
      clear R
      have hb2H := Lib.hid hb2
      clear hb2
      go_wp2
      exact RH.out
  · rw [if_neg h1] at hF
    subst hF
    have R := RZH.out _ hb1
    have h1' : (f1 != 0) = true := by simpa using h1
    clear h1
    have RH := Lib.hid R
    clear R
    have hb1H := Lib.hid hb1
    clear hb1
    go_wp2
    exact RH.out
end Go.Proofs.YtbnkoefljcekbaaGreatDoor.C9

namespace Go.Proofs.YtbnkoefljcekbaaGreatDoor.C9
open Go.ChangeShapes Go.WideShapes Go.Deep Go.RowKit
set_option linter.unusedVariables false
set_option linter.unusedSimpArgs false

theorem busy_take {P : List RR} {n k : Nat} {r : RR} (hg : ∀ r ∈ P, going r = true) (h : P[n]? = some r) : busy (P.take (n + 1)) k = busy (P.take n) k + (if r.worker = k then 1 else 0) := by
  unfold busy
  rw [List.take_add_one, h, Option.toList_some, List.countP_append, List.countP_singleton, hg r (List.mem_of_getElem? h)]
  by_cases e : r.worker = k
  · simp [e]
  · simp [e]
theorem busy_len (P : List RR) (k : Nat) : busy P k ≤ P.length := List.countP_le_length
def RnRel (P : List RR) (k : Nat) (w : World) (n i : Value) (wr : World) : Prop :=
  ∃ j : Nat, j ≤ P.length ∧ i = .int .i64 j ∧ n = .int .i64 (busy (P.take j) k) ∧ Below w.heap.size w wr
set_option maxHeartbeats 1000000 in
theorem running_any (fb : Nat) (A : Option Addr) (n cap : Nat) (F : FP) (P : List RR) (k : Nat) (w : World) (h8 : w.cell? ⟨fb, 8, none⟩ = some (.slice A n cap)) (hl : SlAt RGRun w A n (P.map (gr F))) (hn : n ≤ 1000000) (hg : ∀ r ∈ P, going r = true) :
    Calls Tryz.prog 205 #[.pointer (some ⟨fb, 0, none⟩), .int .i64 k] w fun e w' => e = .returned (.int .i64 (busy P k)) ∧ Below w.heap.size w w' := by
  have hll : P.length = n := by have := hl.1; rwa [List.length_map] at this
  have hfl := cell?_lt h8
  have hlH := Lib.hid hl
  clear hl
  have hgH := Lib.hid hg
  clear hg
  have hllH := Lib.hid hll
  clear hll
  go_enter Tryz.func205, Tryz.ntmps205
  go_wp2_with fail
  go_loopw [5, 13] (fun c i wr => RnRel P k w c i wr) (fun _ i _ => n - (intOf i).toNat)
  case atStart => exact ⟨0, Nat.zero_le _, rfl, rfl, Below.refl _ _⟩
  case round =>
    obtain ⟨j, hj, rfl, rfl, hb⟩ := hrel
    have hbl := busy_len (P.take j) k
    rw [List.length_take] at hbl
    have hln := hllH.out
    by_cases hlt : j < n
    · obtain ⟨b, off, hA, _⟩ := hlH.out.2.1 (by omega)
      subst hA
      obtain ⟨r, hr⟩ : ∃ r, P[j]? = some r := ⟨P[j]'(by omega), List.getElem?_eq_getElem _⟩
      obtain ⟨d0, d1, d2, d3⟩ := cells_GRun (hlH.out.below hb) (x := gr F r) (by rw [List.getElem?_map, hr]; rfl)
      have hst := busy_take (k := k) hgH.out hr
      have hbs := hb.size
      have hba := hb.alloc hbs (.cells #[.int .i64 (gr F r).work, .int .i64 (gr F r).worker, .int .i64 (gr F r).from_, .int .i64 (gr F r).end_] 144)
      have hw : (gr F r).worker = (r.worker : Int) := rfl
      obtain ⟨c, hc⟩ : ∃ c, busy (P.take j) k = c := ⟨_, rfl⟩
      rw [hc] at hst hbl ⊢
      rw [hw] at d1 hba
      obtain ⟨g0, hg0⟩ : ∃ g, (gr F r).work = g := ⟨_, rfl⟩
      obtain ⟨g2, hg2⟩ : ∃ g, (gr F r).from_ = g := ⟨_, rfl⟩
      obtain ⟨g3, hg3⟩ : ∃ g, (gr F r).end_ = g := ⟨_, rfl⟩
      rw [hg0] at d0 hba
      rw [hg2] at d2 hba
      rw [hg3] at d3 hba
      have hj1 : j + 1 ≤ P.length := by omega
      by_cases e : r.worker = k
      · rw [if_pos e] at hst
        have R : RnRel P k w (.int .i64 ((c : Int) + 1)) (.int .i64 ((j : Int) + 1)) (wr.alloc (.cells #[.int .i64 g0, .int .i64 r.worker, .int .i64 g2, .int .i64 g3] 144)) :=
          ⟨j + 1, hj1, by go_num, by rw [hst]; go_num, hba⟩
        have e' : ((r.worker : Int) == (k : Int)) = true := by rw [e]; simp
        clear e hw hg0 hg2 hg3
        have hrH := Lib.hid hr
        clear hr
        have hbH := Lib.hid hb
        clear hb
        have hstH := Lib.hid hst
        clear hst
        have hbaH := Lib.hid hba
        clear hba
        have hcH := Lib.hid hc
        clear hc
        have RH := Lib.hid R
        clear R
        have hlnH := Lib.hid hln
        clear hln
        go_wp2
        refine ⟨?rel, ?measure⟩
        case measure => (simp [intOf]; omega)
        case rel => first | exact RH.out | exact ⟨rfl, RH.out⟩ | ((try refine ⟨rfl, ?_⟩); (repeat apply Exists.intro); refine ⟨RH.out, ?_⟩; ((repeat' apply And.intro) <;> rfl))
      · rw [if_neg e] at hst
        have R : RnRel P k w (.int .i64 (c : Int)) (.int .i64 ((j : Int) + 1)) (wr.alloc (.cells #[.int .i64 g0, .int .i64 r.worker, .int .i64 g2, .int .i64 g3] 144)) :=
          ⟨j + 1, hj1, by go_num, by rw [hst]; go_num, hba⟩
        have e' : ((r.worker : Int) == (k : Int)) = false := by simpa using fun h => e (by omega)
        clear e hw hg0 hg2 hg3
        have hrH := Lib.hid hr
        clear hr
        have hbH := Lib.hid hb
        clear hb
        have hstH := Lib.hid hst
        clear hst
        have hbaH := Lib.hid hba
        clear hba
        have hcH := Lib.hid hc
        clear hc
        have RH := Lib.hid R
        clear R
        have hlnH := Lib.hid hln
        clear hln
        go_wp2
        refine ⟨?rel, ?measure⟩
        case measure => (simp [intOf]; omega)
        case rel => first | exact RH.out | exact ⟨rfl, RH.out⟩ | ((try refine ⟨rfl, ?_⟩); (repeat apply Exists.intro); refine ⟨RH.out, ?_⟩; ((repeat' apply And.intro) <;> rfl))
    · obtain rfl : j = n := by omega
      rw [List.take_of_length_le (by omega)]
      have hbH := Lib.hid hb
      clear hb
      have hlnH := Lib.hid hln
      clear hln
      have hblH := Lib.hid hbl
      clear hbl
      go_wp2
      go_ret
      exact ⟨rfl, hbH.out⟩
end Go.Proofs.YtbnkoefljcekbaaGreatDoor.C9

namespace Go.Proofs.YtbnkoefljcekbaaGreatDoor.C9
open Go.ChangeShapes Go.WideShapes Go.Deep Go.RowKit
set_option linter.unusedVariables false
set_option linter.unusedSimpArgs false

def bI : Option Nat → Int
  | none => -1
  | some b => b
theorem bI_lt {ok : Nat → Bool} {sp : Nat → Int} {n : Nat} : -1 ≤ bI (bestW ok sp n) ∧ bI (bestW ok sp n) < n := by
  cases h : bestW ok sp n with
  | none => show -1 ≤ (-1 : Int) ∧ (-1 : Int) < n; omega
  | some b => have := (bestW_some h).1; show -1 ≤ (b : Int) ∧ (b : Int) < n; omega
theorem bestW_no {ok : Nat → Bool} {sp : Nat → Int} {n : Nat} (h : ok n = false) : bestW ok sp (n + 1) = bestW ok sp n := by rw [bestW, if_neg (by rw [h]; simp)]
theorem bestW_yes {ok : Nat → Bool} {sp : Nat → Int} {n : Nat} (h : ok n = true) : bestW ok sp (n + 1) = match bestW ok sp n with
      | none => some n
      | some b => if sp b < sp n then some n else some b := by rw [bestW, if_pos h]; cases bestW ok sp n <;> rfl
theorem FS.wk {X : FX} {s : PS} {w0 : World} (h : FS X s w0) {k : Nat} {y : Worker} (hy : X.x.workers.l[k]? = some y) : X.F.wfrom k = y.from_ ∧ X.F.wto k = y.to_ ∧ X.F.slots k = y.slots ∧ X.F.speed k = y.speed ∧ (∀ i, X.F.fit k i = fitF (woOf X.x i).needs.l y.has.l) := by
  obtain ⟨o, e⟩ := h.F
  rw [e]
  simp only [fpOf]
  rw [wkOf_get hy]
  exact ⟨rfl, rfl, rfl, rfl, fun _ => rfl⟩
theorem FS.nW {X : FX} {s : PS} {w0 : World} (h : FS X s w0) : X.F.nW = X.x.workers.n ∧ X.F.nX = X.x.works.n ∧ X.x.workers.l.length = X.x.workers.n ∧ X.x.works.l.length = X.x.works.n ∧ X.x.workers.n ≤ 50 ∧ X.x.works.n ≤ 200 := by
  obtain ⟨o, e⟩ := h.F
  have h1 : X.x.workers.l.length = X.x.workers.n := h.ws.1.1
  have h2 : X.x.works.l.length = X.x.works.n := h.xs.1.1
  have h3 := h.ok.wkn
  have h4 := h.ok.wo.len
  rw [e]
  exact ⟨h1, h2, h1, h2, by omega, by omega⟩
def BestRel (F : FP) (ok : Nat → Bool) (N : Nat) (w : World) (b i : Value) (wr : World) : Prop :=
  ∃ j : Nat, j ≤ N ∧ i = .int .i64 j ∧ b = .int .i64 (bI (bestW ok F.speed j)) ∧ Below w.heap.size w wr
theorem keep10 {W w' : World} {a0 a1 a2 a3 a4 a5 a6 a7 a8 a9 : Addr} {v0 v1 v2 v3 v4 v5 v6 v7 v8 v9 : Value} (hb : Below W.heap.size W w') (h : W.cell? a0 = some v0 ∧ W.cell? a1 = some v1 ∧ W.cell? a2 = some v2 ∧ W.cell? a3 = some v3 ∧ W.cell? a4 = some v4 ∧ W.cell? a5 = some v5 ∧ W.cell? a6 = some v6 ∧ W.cell? a7 = some v7 ∧ W.cell? a8 = some v8 ∧ W.cell? a9 = some v9) :
    w'.cell? a0 = some v0 ∧ w'.cell? a1 = some v1 ∧ w'.cell? a2 = some v2 ∧ w'.cell? a3 = some v3 ∧ w'.cell? a4 = some v4 ∧ w'.cell? a5 = some v5 ∧ w'.cell? a6 = some v6 ∧ w'.cell? a7 = some v7 ∧ w'.cell? a8 = some v8 ∧ w'.cell? a9 = some v9 :=
  ⟨keepC hb h.1, keepC hb h.2.1, keepC hb h.2.2.1, keepC hb h.2.2.2.1, keepC hb h.2.2.2.2.1, keepC hb h.2.2.2.2.2.1, keepC hb h.2.2.2.2.2.2.1, keepC hb h.2.2.2.2.2.2.2.1, keepC hb h.2.2.2.2.2.2.2.2.1, keepC hb h.2.2.2.2.2.2.2.2.2⟩
set_option maxRecDepth 100000 in
set_option maxHeartbeats 8000000 in
theorem best_any {X : FX} {K : KD Tryz.prog 71 Loss} {rv ov : Value} {s : PS} {w0 w : World} (hA : FA X K rv ov s w0 w) (hS : FS X s w0) (i : Nat) (hi : i < X.F.nX) (bo : Option Nat) (hlen : s.runs.length ≤ 1000000) :
    Calls Tryz.prog 162 #[.pointer (some ⟨X.f, 0, none⟩), .int .i64 i, .int .i64 (bI bo)] w fun e w' => e = .returned (.int .i64 (bI (bestW (canW X.F s.now s.runs i bo) X.F.speed X.F.nW))) ∧ Below w.heap.size w w' := by
  obtain ⟨n1, n2, n3, n4, n5, n6⟩ := hS.nW
  obtain ⟨A, cap, hrv⟩ := hA.runs.form
  obtain ⟨n, hn⟩ : ∃ n, (s.runs.map (gr X.F)).length = n := ⟨_, rfl⟩
  rw [hn] at hrv
  subst hrv
  have hn : n ≤ 1000000 := by rw [← hn, List.length_map]; exact hlen
  have c0 := (hA.core.blk 0 _ rfl).1
  have c1 := (hA.core.blk 1 _ rfl).1
  have c7 := (hA.core.blk 7 _ rfl).1
  have c8 := (hA.core.blk 8 _ rfl).1
  have hfl := cell?_lt c0
  have hsl := hA.runs.slAt
  have hws := hS.ws.1.below hA.core.bel
  have hxs := hS.xs.1.below hA.core.bel
  have hxok := hS.xs
  obtain ⟨bx, ox, hXA, _⟩ := hxs.2.1 (by omega)
  obtain ⟨z, hz⟩ : ∃ z, X.x.works.l[i]? = some z := ⟨X.x.works.l[i]'(by omega), List.getElem?_eq_getElem _⟩
  have hzw : woOf X.x i = z := woOf_get hz
  have hzo := hxs.2.2 z (List.mem_of_getElem? hz)
  rw [hXA] at hxs c1
  obtain ⟨x0, x1, x2, x3⟩ := cells_Work hxs hz
  have hgo : ∀ r ∈ s.runs, going r = true := fun r hr => (hS.rn r hr).1
  obtain ⟨bt, hbt⟩ : ∃ b, bI bo = b := ⟨_, rfl⟩
  obtain ⟨ok, hok⟩ : ∃ f, canW X.F s.now s.runs i bo = f := ⟨_, rfl⟩
  have hwsA := hws
  clear x0 x2 x3
  rw [hbt, hok, n1]
  have hN := X.x.workers.n
  obtain ⟨N, hN⟩ : ∃ N, X.x.workers.n = N := ⟨_, rfl⟩
  obtain ⟨WA, hWA⟩ : ∃ A, X.x.workers.A = A := ⟨_, rfl⟩
  rw [hN] at c0 hws n1 n3 n5 ⊢
  rw [hWA] at c0 hws
  rw [n2] at hi
  have hAH := Lib.hid hA
  clear hA
  have hSH := Lib.hid hS
  clear hS
  have hslH := Lib.hid hsl
  clear hsl
  have hwsH := Lib.hid hws
  clear hws
  have hxsH := Lib.hid hxs
  clear hxs
  have hxokH := Lib.hid hxok
  clear hxok
  have hzH := Lib.hid hz
  clear hz
  have hzwH := Lib.hid hzw
  clear hzw
  have hzoH := Lib.hid hzo
  clear hzo
  have hgoH := Lib.hid hgo
  clear hgo
  have hbtH := Lib.hid hbt
  clear hbt
  have hokH := Lib.hid hok
  clear hok
  have n1H := Lib.hid n1
  clear n1
  have n2H := Lib.hid n2
  clear n2
  have n3H := Lib.hid n3
  clear n3
  have n4H := Lib.hid n4
  clear n4
  have hwsAH := Lib.hid hwsA
  clear hwsA
  have hXAH := Lib.hid hXA
  clear hXA
  have hNH := Lib.hid hN
  clear hN
  have hWAH := Lib.hid hWA
  clear hWA
  go_enter Tryz.func162, Tryz.ntmps162
  go_wp2_with fail
  go_loopw [7, 16] (fun b i wr => BestRel X.F ok N w b i wr) (fun _ i _ => N - (intOf i).toNat)
  case atStart => exact ⟨0, Nat.zero_le _, rfl, rfl, Below.refl _ _⟩
  case round =>
    obtain ⟨j, hj, rfl, rfl, hb⟩ := hrel
    have hbs := hb.size
    have hbl := bI_lt (ok := ok) (sp := X.F.speed) (n := j)
    have c0 := (hb.cell hfl).trans c0
    have c1 := (hb.cell hfl).trans c1
    have c7 := (hb.cell hfl).trans c7
    have c8 := (hb.cell hfl).trans c8
    have x1 := (hb.cell (cell?_lt x1)).trans x1
    by_cases hlt : j < N
    · obtain ⟨by_, oy, hYA, _⟩ := hwsH.out.2.1 (by omega)
      obtain ⟨y, hy⟩ : ∃ y, X.x.workers.l[j]? = some y := ⟨X.x.workers.l[j]'(by have := n3H.out; omega), List.getElem?_eq_getElem _⟩
      subst hYA
      have hws' := hwsH.out.below hb
      obtain ⟨d0, d1, d2, d3, d4, d5, d6⟩ := cells_Worker hws' hy
      have hyo := hws'.2.2 y (List.mem_of_getElem? hy)
      obtain ⟨k1, k2, k3, k4, k5⟩ := hSH.out.wk hy
      have hcan : ok j = (!(some j == bo) && (decide (y.from_ ≤ s.now) && (decide (s.now < y.to_) && (decide ((busy s.runs j : Int) < y.slots) && fitF z.needs.l y.has.l)))) := by
        rw [← hokH.out]; unfold canW; rw [k1, k2, k3, k5, hzwH.out]
      obtain ⟨yn, yh, ys, yv, yf, yt, yd⟩ := y
      simp only at d0 d1 d2 d3 d4 d5 d6 hcan k4 hyo
      have hba := (Below.refl wr.heap.size wr).alloc (Nat.le_refl _) (.cells #[.string yn, .slice yh.A yh.n yh.cap, .int .i64 ys, .int .i64 yv, .int .i64 yf, .int .i64 yt, .slice yd.A yd.n yd.cap] 84)
      have hb5 : Below w.heap.size w (wr.alloc (.cells #[.string yn, .slice yh.A yh.n yh.cap, .int .i64 ys, .int .i64 yv, .int .i64 yf, .int .i64 yt, .slice yd.A yd.n yd.cap] 84)) := hb.trans (hba.mono hbs)
      have hH0 : (fun w' : World => w'.cell? ⟨X.f, 7, none⟩ = some (.int .i64 s.now) ∧ w'.cell? ⟨wr.heap.size, 4, none⟩ = some (.int .i64 yf) ∧ w'.cell? ⟨wr.heap.size, 5, none⟩ = some (.int .i64 yt) ∧ w'.cell? ⟨wr.heap.size, 2, none⟩ = some (.int .i64 ys) ∧ w'.cell? ⟨X.f, 1, none⟩ = some (.slice (some ⟨bx, ox, none⟩) X.x.works.n X.x.works.cap) ∧ w'.cell? ⟨bx, ox + i * 4 + 1, none⟩ = some (.slice z.needs.A z.needs.n z.needs.cap) ∧ w'.cell? ⟨wr.heap.size, 1, none⟩ = some (.slice yh.A yh.n yh.cap) ∧ w'.cell? ⟨X.f, 8, none⟩ = some (.slice A n cap) ∧ w'.cell? ⟨wr.heap.size, 3, none⟩ = some (.int .i64 yv) ∧ w'.cell? ⟨X.f, 0, none⟩ = some (.slice (some ⟨by_, oy, none⟩) N X.x.workers.cap)) (wr.alloc (.cells #[.string yn, .slice yh.A yh.n yh.cap, .int .i64 ys, .int .i64 yv, .int .i64 yf, .int .i64 yt, .slice yd.A yd.n yd.cap] 84)) :=
        ⟨keepC hba c7, cell_new _ _ _ 4, cell_new _ _ _ 5, cell_new _ _ _ 2, keepC hba c1, keepC hba x1, cell_new _ _ _ 1, keepC hba c8, cell_new _ _ _ 3, keepC hba c0⟩
      have Rno : ok j = false → ∀ w', Below wr.heap.size wr w' → BestRel X.F ok N w (.int .i64 (bI (bestW ok X.F.speed j))) (.int .i64 ((j : Int) + 1)) w' := fun hno w' hw' =>
        ⟨j + 1, hlt, by go_num, by rw [bestW_no hno], hb.trans (hw'.mono hbs)⟩
      obtain ⟨bv, hbv⟩ : ∃ b, bI (bestW ok X.F.speed j) = b := ⟨_, rfl⟩
      rw [hbv] at hbl Rno ⊢
      have hbn : -1 ≤ bv ∧ bv < (j : Int) := hbl
      clear hbl c7 c1 c8 x1 c0
      by_cases e1 : some j = bo
      · have e1' : ((j : Int) == bt) = true := by rw [← hbtH.out, ← e1]; simp [bI]
        have hno := Rno (by rw [hcan, ← e1]; simp)
        clear Rno hcan k1 k2 k3 k4 k5 e1
        have hbH := Lib.hid hb
        clear hb
        have hyH := Lib.hid hy
        clear hy
        have hyoH := Lib.hid hyo
        clear hyo
        have hbaH := Lib.hid hba
        clear hba
        have hb5H := Lib.hid hb5
        clear hb5
        have hnoH := Lib.hid hno
        clear hno
        have hbvH := Lib.hid hbv
        clear hbv
        have hH0H := Lib.hid hH0
        clear hH0
        have hws'H := Lib.hid hws'
        clear hws'
        have hH0 := hH0H.out
        clear hH0H
        go_wp2_with fail
        refine wp_region_held_drew (S := fun w' => w'.cell? ⟨X.f, 7, none⟩ = some (.int .i64 s.now) ∧ w'.cell? ⟨wr.heap.size, 4, none⟩ = some (.int .i64 yf) ∧ w'.cell? ⟨wr.heap.size, 5, none⟩ = some (.int .i64 yt) ∧ w'.cell? ⟨wr.heap.size, 2, none⟩ = some (.int .i64 ys) ∧ w'.cell? ⟨X.f, 1, none⟩ = some (.slice (some ⟨bx, ox, none⟩) X.x.works.n X.x.works.cap) ∧ w'.cell? ⟨bx, ox + i * 4 + 1, none⟩ = some (.slice z.needs.A z.needs.n z.needs.cap) ∧ w'.cell? ⟨wr.heap.size, 1, none⟩ = some (.slice yh.A yh.n yh.cap) ∧ w'.cell? ⟨X.f, 8, none⟩ = some (.slice A n cap) ∧ w'.cell? ⟨wr.heap.size, 3, none⟩ = some (.int .i64 yv) ∧ w'.cell? ⟨X.f, 0, none⟩ = some (.slice (some ⟨by_, oy, none⟩) N X.x.workers.cap)) (by kernel_rfl) hH0 (fun hHeld => ?_)
        refine tkH (i := 0) (d := some 21) (v := ?_) (hy := Or.inl ⟨by rfl, ?_⟩) (h := ?_)
        rotate_left
        · (intro w hSw; (try dsimp only at hSw); go_simp; (try with_reducible rfl))
        (try simp only [Act.put, tkA, tkB, tkC])
        refine tkH (i := 1) (d := some 22) (v := ?_) (hy := Or.inl ⟨by rfl, ?_⟩) (h := ?_)
        rotate_left
        · (intro w hSw; (try dsimp only at hSw); go_simp; (try with_reducible rfl))
        (try simp only [Act.put, tkA, tkB, tkC])
        refine tkH (i := 2) (d := some 23) (v := ?_) (hy := Or.inl ⟨by rfl, ?_⟩) (h := ?_)
        rotate_left
        · (intro w hSw; (try dsimp only at hSw); go_simp; (try with_reducible rfl))
        (try simp only [Act.put, tkA, tkB, tkC])
        refine tkH (i := 3) (d := some 24) (v := ?_) (hy := Or.inl ⟨by rfl, ?_⟩) (h := ?_)
        rotate_left
        · (intro w hSw; (try dsimp only at hSw); go_simp; (try with_reducible rfl))
        (try simp only [Act.put, tkA, tkB, tkC])
        refine skH (i := 4) (d := some 25) ?_
        (try simp only [Act.put, tkA, tkB, tkC])
        refine skH (i := 5) (d := some 26) ?_
        (try simp only [Act.put, tkA, tkB, tkC])
        refine skH (i := 6) (d := some 27) ?_
        (try simp only [Act.put, tkA, tkB, tkC])
        refine skH (i := 7) (d := some 28) ?_
        (try simp only [Act.put, tkA, tkB, tkC])
        refine skH (i := 8) (d := some 29) ?_
        (try simp only [Act.put, tkA, tkB, tkC])
        refine skH (i := 9) (d := some 30) ?_
        (try simp only [Act.put, tkA, tkB, tkC])
        refine skH (i := 10) (d := some 31) ?_
        (try simp only [Act.put, tkA, tkB, tkC])
        refine tkH (i := 11) (d := some 32) (v := ?_) (hy := Or.inl ⟨by rfl, ?_⟩) (h := ?_)
        rotate_left
        · (intro w hSw; (try dsimp only at hSw); go_simp; (try with_reducible rfl))
        (try simp only [Act.put, tkA, tkB, tkC])
        refine tkH (i := 12) (d := some 33) (v := ?_) (hy := Or.inl ⟨by rfl, ?_⟩) (h := ?_)
        rotate_left
        · (intro w hSw; (try dsimp only at hSw); go_simp; (try with_reducible rfl))
        (try simp only [Act.put, tkA, tkB, tkC])
        refine skH (i := 13) (d := some 34) ?_
        (try simp only [Act.put, tkA, tkB, tkC])
        refine skH (i := 14) (d := some 35) ?_
        (try simp only [Act.put, tkA, tkB, tkC])
        refine skH (i := 15) (d := some 36) ?_
        (try simp only [Act.put, tkA, tkB, tkC])
        refine skH (i := 16) (d := some 37) ?_
        (try simp only [Act.put, tkA, tkB, tkC])
        refine skH (i := 17) (d := some 38) ?_
        (try simp only [Act.put, tkA, tkB, tkC])
        refine skH (i := 18) (d := some 39) ?_
        (try simp only [Act.put, tkA, tkB, tkC])
        refine skH (i := 19) (d := some 40) ?_
        (try simp only [Act.put, tkA, tkB, tkC])
        refine tkH (i := 20) (d := some 41) (v := ?_) (hy := Or.inl ⟨by rfl, ?_⟩) (h := ?_)
        rotate_left
        · (intro w hSw; (try dsimp only at hSw); go_simp; (try with_reducible rfl))
        (try simp only [Act.put, tkA, tkB, tkC])
        refine tkH (i := 21) (d := some 42) (v := ?_) (hy := Or.inl ⟨by rfl, ?_⟩) (h := ?_)
        rotate_left
        · (intro w hSw; (try dsimp only at hSw); go_simp; (try with_reducible rfl))
        (try simp only [Act.put, tkA, tkB, tkC])
        refine skH (i := 22) (d := some 43) ?_
        (try simp only [Act.put, tkA, tkB, tkC])
        refine skH (i := 23) (d := some 44) ?_
        (try simp only [Act.put, tkA, tkB, tkC])
        refine skH (i := 24) (d := some 45) ?_
        (try simp only [Act.put, tkA, tkB, tkC])
        refine skH (i := 25) (d := some 46) ?_
        (try simp only [Act.put, tkA, tkB, tkC])
        refine skH (i := 26) (d := some 47) ?_
        (try simp only [Act.put, tkA, tkB, tkC])
        refine skH (i := 27) (d := some 48) ?_
        (try simp only [Act.put, tkA, tkB, tkC])
        refine tkH (i := 28) (d := some 49) (v := ?_) (hy := Or.inl ⟨by rfl, ?_⟩) (h := ?_)
        rotate_left
        · (intro w hSw; (try dsimp only at hSw); go_simp; (try with_reducible rfl))
        (try simp only [Act.put, tkA, tkB, tkC])
        refine tkH (i := 29) (d := some 50) (v := ?_) (hy := Or.inl ⟨by rfl, ?_⟩) (h := ?_)
        rotate_left
        · (intro w hSw; (try dsimp only at hSw); go_simp; (try with_reducible rfl))
        (try simp only [Act.put, tkA, tkB, tkC])
        refine skH (i := 30) (d := some 51) ?_
        (try simp only [Act.put, tkA, tkB, tkC])
        refine skH (i := 31) (d := some 52) ?_
        (try simp only [Act.put, tkA, tkB, tkC])
        refine skH (i := 32) (d := some 53) ?_
        (try simp only [Act.put, tkA, tkB, tkC])
        refine skH (i := 33) (d := some 54) ?_
        (try simp only [Act.put, tkA, tkB, tkC])
        refine skH (i := 34) (d := some 55) ?_
        (try simp only [Act.put, tkA, tkB, tkC])
        refine skH (i := 35) (d := some 56) ?_
        (try simp only [Act.put, tkA, tkB, tkC])
        refine skH (i := 36) (d := some 57) ?_
        (try simp only [Act.put, tkA, tkB, tkC])
        refine skH (i := 37) (d := some 58) ?_
        (try simp only [Act.put, tkA, tkB, tkC])
        refine skH (i := 38) (d := some 59) ?_
        (try simp only [Act.put, tkA, tkB, tkC])
        refine skH (i := 39) (d := some 60) ?_
        (try simp only [Act.put, tkA, tkB, tkC])
        refine skH (i := 40) (d := some 61) ?_
        (try simp only [Act.put, tkA, tkB, tkC])
        refine skH (i := 41) (d := some 62) ?_
        (try simp only [Act.put, tkA, tkB, tkC])
        refine skH (i := 42) (d := some 63) ?_
        (try simp only [Act.put, tkA, tkB, tkC])
        refine tkH (i := 43) (d := some 64) (v := ?_) (hy := Or.inl ⟨by rfl, ?_⟩) (h := ?_)
        rotate_left
        · (intro w hSw; (try dsimp only at hSw); go_simp; (try with_reducible rfl))
        (try simp only [Act.put, tkA, tkB, tkC])
        refine wpAnyH_done (by kernel_rfl) ?_ _
        clear hHeld hH0
        go_wp2
        refine ⟨?rel, ?measure⟩
        case measure => (simp [intOf]; omega)
        case rel => first | exact (hnoH.out _ ((hbaH.out).drew)) | exact ⟨rfl, (hnoH.out _ ((hbaH.out).drew))⟩ | ((try refine ⟨rfl, ?_⟩); (repeat apply Exists.intro); refine ⟨(hnoH.out _ ((hbaH.out).drew)), ?_⟩; ((repeat' apply And.intro) <;> rfl))
      · have e1' : ((j : Int) == bt) = false := by
          rw [← hbtH.out]
          cases bo with
          | none => simp [bI]
          | some b =>
            have : ¬ (j : Int) = (b : Int) := fun h => e1 (by congr 1; omega)
            simpa [bI] using this
        have e1b : (some j == bo) = false := by simpa using e1
        rw [e1b] at hcan
        by_cases e2 : s.now < yf
        · have e2' : decide (s.now < yf) = true := by simpa using e2
          have hno := Rno (by rw [hcan]; simp; omega)
          clear Rno hcan k1 k2 k3 k4 k5 e1 e1b
          have hbH := Lib.hid hb
          clear hb
          have hyH := Lib.hid hy
          clear hy
          have hyoH := Lib.hid hyo
          clear hyo
          have hbaH := Lib.hid hba
          clear hba
          have hb5H := Lib.hid hb5
          clear hb5
          have hnoH := Lib.hid hno
          clear hno
          have hbvH := Lib.hid hbv
          clear hbv
          have hH0H := Lib.hid hH0
          clear hH0
          have hws'H := Lib.hid hws'
          clear hws'
          have hH0 := hH0H.out
          clear hH0H
          go_wp2_with fail
          refine wp_region_held_drew (S := fun w' => w'.cell? ⟨X.f, 7, none⟩ = some (.int .i64 s.now) ∧ w'.cell? ⟨wr.heap.size, 4, none⟩ = some (.int .i64 yf) ∧ w'.cell? ⟨wr.heap.size, 5, none⟩ = some (.int .i64 yt) ∧ w'.cell? ⟨wr.heap.size, 2, none⟩ = some (.int .i64 ys) ∧ w'.cell? ⟨X.f, 1, none⟩ = some (.slice (some ⟨bx, ox, none⟩) X.x.works.n X.x.works.cap) ∧ w'.cell? ⟨bx, ox + i * 4 + 1, none⟩ = some (.slice z.needs.A z.needs.n z.needs.cap) ∧ w'.cell? ⟨wr.heap.size, 1, none⟩ = some (.slice yh.A yh.n yh.cap) ∧ w'.cell? ⟨X.f, 8, none⟩ = some (.slice A n cap) ∧ w'.cell? ⟨wr.heap.size, 3, none⟩ = some (.int .i64 yv) ∧ w'.cell? ⟨X.f, 0, none⟩ = some (.slice (some ⟨by_, oy, none⟩) N X.x.workers.cap)) (by kernel_rfl) hH0 (fun hHeld => ?_)
          refine tkH (i := 0) (d := some 21) (v := ?_) (hy := Or.inl ⟨by rfl, ?_⟩) (h := ?_)
          rotate_left
          · (intro w hSw; (try dsimp only at hSw); go_simp; (try with_reducible rfl))
          (try simp only [Act.put, tkA, tkB, tkC])
          refine tkH (i := 1) (d := some 22) (v := ?_) (hy := Or.inl ⟨by rfl, ?_⟩) (h := ?_)
          rotate_left
          · (intro w hSw; (try dsimp only at hSw); go_simp; (try with_reducible rfl))
          (try simp only [Act.put, tkA, tkB, tkC])
          refine tkH (i := 2) (d := some 23) (v := ?_) (hy := Or.inl ⟨by rfl, ?_⟩) (h := ?_)
          rotate_left
          · (intro w hSw; (try dsimp only at hSw); go_simp; (try with_reducible rfl))
          (try simp only [Act.put, tkA, tkB, tkC])
          refine tkH (i := 3) (d := some 24) (v := ?_) (hy := Or.inl ⟨by rfl, ?_⟩) (h := ?_)
          rotate_left
          · (intro w hSw; (try dsimp only at hSw); go_simp; (try with_reducible rfl))
          (try simp only [Act.put, tkA, tkB, tkC])
          refine tkH (i := 4) (d := some 25) (v := ?_) (hy := Or.inl ⟨by rfl, ?_⟩) (h := ?_)
          rotate_left
          · (intro w hSw; (try dsimp only at hSw); go_simp; (try with_reducible rfl))
          (try simp only [Act.put, tkA, tkB, tkC])
          refine tkH (i := 5) (d := some 26) (v := ?_) (hy := Or.inl ⟨by rfl, ?_⟩) (h := ?_)
          rotate_left
          · (intro w hSw; (try dsimp only at hSw); go_simp; (try with_reducible rfl))
          (try simp only [Act.put, tkA, tkB, tkC])
          refine tkH (i := 6) (d := some 27) (v := ?_) (hy := Or.inl ⟨by rfl, ?_⟩) (h := ?_)
          rotate_left
          · (intro w hSw; (try dsimp only at hSw); go_simp; (try with_reducible rfl))
          (try simp only [Act.put, tkA, tkB, tkC])
          refine tkH (i := 7) (d := some 28) (v := ?_) (hy := Or.inl ⟨by rfl, ?_⟩) (h := ?_)
          rotate_left
          · (intro w hSw; (try dsimp only at hSw); go_simp; (try with_reducible rfl))
          (try simp only [Act.put, tkA, tkB, tkC])
          refine tkH (i := 8) (d := some 29) (v := ?_) (hy := Or.inl ⟨by rfl, ?_⟩) (h := ?_)
          rotate_left
          · (intro w hSw; (try dsimp only at hSw); go_simp; (try with_reducible rfl))
          (try simp only [Act.put, tkA, tkB, tkC])
          refine tkH (i := 9) (d := some 30) (v := ?_) (hy := Or.inl ⟨by rfl, ?_⟩) (h := ?_)
          rotate_left
          · (intro w hSw; (try dsimp only at hSw); go_simp; (try with_reducible rfl))
          (try simp only [Act.put, tkA, tkB, tkC])
          refine tkH (i := 10) (d := some 31) (v := ?_) (hy := Or.inl ⟨by rfl, ?_⟩) (h := ?_)
          rotate_left
          · (intro w hSw; (try dsimp only at hSw); go_simp; (try with_reducible rfl))
          (try simp only [Act.put, tkA, tkB, tkC])
          refine tkH (i := 11) (d := some 32) (v := ?_) (hy := Or.inl ⟨by rfl, ?_⟩) (h := ?_)
          rotate_left
          · (intro w hSw; (try dsimp only at hSw); go_simp; (try with_reducible rfl))
          (try simp only [Act.put, tkA, tkB, tkC])
          refine tkH (i := 12) (d := some 33) (v := ?_) (hy := Or.inl ⟨by rfl, ?_⟩) (h := ?_)
          rotate_left
          · (intro w hSw; (try dsimp only at hSw); go_simp; (try with_reducible rfl))
          (try simp only [Act.put, tkA, tkB, tkC])
          refine skH (i := 13) (d := some 34) ?_
          (try simp only [Act.put, tkA, tkB, tkC])
          refine skH (i := 14) (d := some 35) ?_
          (try simp only [Act.put, tkA, tkB, tkC])
          refine skH (i := 15) (d := some 36) ?_
          (try simp only [Act.put, tkA, tkB, tkC])
          refine skH (i := 16) (d := some 37) ?_
          (try simp only [Act.put, tkA, tkB, tkC])
          refine skH (i := 17) (d := some 38) ?_
          (try simp only [Act.put, tkA, tkB, tkC])
          refine skH (i := 18) (d := some 39) ?_
          (try simp only [Act.put, tkA, tkB, tkC])
          refine skH (i := 19) (d := some 40) ?_
          (try simp only [Act.put, tkA, tkB, tkC])
          refine tkH (i := 20) (d := some 41) (v := ?_) (hy := Or.inl ⟨by rfl, ?_⟩) (h := ?_)
          rotate_left
          · (intro w hSw; (try dsimp only at hSw); go_simp; (try with_reducible rfl))
          (try simp only [Act.put, tkA, tkB, tkC])
          refine tkH (i := 21) (d := some 42) (v := ?_) (hy := Or.inl ⟨by rfl, ?_⟩) (h := ?_)
          rotate_left
          · (intro w hSw; (try dsimp only at hSw); go_simp; (try with_reducible rfl))
          (try simp only [Act.put, tkA, tkB, tkC])
          refine skH (i := 22) (d := some 43) ?_
          (try simp only [Act.put, tkA, tkB, tkC])
          refine skH (i := 23) (d := some 44) ?_
          (try simp only [Act.put, tkA, tkB, tkC])
          refine skH (i := 24) (d := some 45) ?_
          (try simp only [Act.put, tkA, tkB, tkC])
          refine skH (i := 25) (d := some 46) ?_
          (try simp only [Act.put, tkA, tkB, tkC])
          refine skH (i := 26) (d := some 47) ?_
          (try simp only [Act.put, tkA, tkB, tkC])
          refine skH (i := 27) (d := some 48) ?_
          (try simp only [Act.put, tkA, tkB, tkC])
          refine tkH (i := 28) (d := some 49) (v := ?_) (hy := Or.inl ⟨by rfl, ?_⟩) (h := ?_)
          rotate_left
          · (intro w hSw; (try dsimp only at hSw); go_simp; (try with_reducible rfl))
          (try simp only [Act.put, tkA, tkB, tkC])
          refine tkH (i := 29) (d := some 50) (v := ?_) (hy := Or.inl ⟨by rfl, ?_⟩) (h := ?_)
          rotate_left
          · (intro w hSw; (try dsimp only at hSw); go_simp; (try with_reducible rfl))
          (try simp only [Act.put, tkA, tkB, tkC])
          refine skH (i := 30) (d := some 51) ?_
          (try simp only [Act.put, tkA, tkB, tkC])
          refine skH (i := 31) (d := some 52) ?_
          (try simp only [Act.put, tkA, tkB, tkC])
          refine skH (i := 32) (d := some 53) ?_
          (try simp only [Act.put, tkA, tkB, tkC])
          refine skH (i := 33) (d := some 54) ?_
          (try simp only [Act.put, tkA, tkB, tkC])
          refine skH (i := 34) (d := some 55) ?_
          (try simp only [Act.put, tkA, tkB, tkC])
          refine skH (i := 35) (d := some 56) ?_
          (try simp only [Act.put, tkA, tkB, tkC])
          refine skH (i := 36) (d := some 57) ?_
          (try simp only [Act.put, tkA, tkB, tkC])
          refine skH (i := 37) (d := some 58) ?_
          (try simp only [Act.put, tkA, tkB, tkC])
          refine skH (i := 38) (d := some 59) ?_
          (try simp only [Act.put, tkA, tkB, tkC])
          refine skH (i := 39) (d := some 60) ?_
          (try simp only [Act.put, tkA, tkB, tkC])
          refine skH (i := 40) (d := some 61) ?_
          (try simp only [Act.put, tkA, tkB, tkC])
          refine skH (i := 41) (d := some 62) ?_
          (try simp only [Act.put, tkA, tkB, tkC])
          refine skH (i := 42) (d := some 63) ?_
          (try simp only [Act.put, tkA, tkB, tkC])
          refine tkH (i := 43) (d := some 64) (v := ?_) (hy := Or.inl ⟨by rfl, ?_⟩) (h := ?_)
          rotate_left
          · (intro w hSw; (try dsimp only at hSw); go_simp; (try with_reducible rfl))
          (try simp only [Act.put, tkA, tkB, tkC])
          refine wpAnyH_done (by kernel_rfl) ?_ _
          clear hHeld hH0
          go_wp2
          refine ⟨?rel, ?measure⟩
          case measure => (simp [intOf]; omega)
          case rel => first | exact (hnoH.out _ ((hbaH.out).drew)) | exact ⟨rfl, (hnoH.out _ ((hbaH.out).drew))⟩ | ((try refine ⟨rfl, ?_⟩); (repeat apply Exists.intro); refine ⟨(hnoH.out _ ((hbaH.out).drew)), ?_⟩; ((repeat' apply And.intro) <;> rfl))
        · have e2' : decide (s.now < yf) = false := by simpa using e2
          by_cases e3 : yt ≤ s.now
          · have e3' : decide (yt ≤ s.now) = true := by simpa using e3
            have hno := Rno (by rw [hcan]; simp; omega)
            clear Rno hcan k1 k2 k3 k4 k5 e1 e1b
            have hbH := Lib.hid hb
            clear hb
            have hyH := Lib.hid hy
            clear hy
            have hyoH := Lib.hid hyo
            clear hyo
            have hbaH := Lib.hid hba
            clear hba
            have hb5H := Lib.hid hb5
            clear hb5
            have hnoH := Lib.hid hno
            clear hno
            have hbvH := Lib.hid hbv
            clear hbv
            have hH0H := Lib.hid hH0
            clear hH0
            have hws'H := Lib.hid hws'
            clear hws'
            have hH0 := hH0H.out
            clear hH0H
            go_wp2_with fail
            refine wp_region_held_drew (S := fun w' => w'.cell? ⟨X.f, 7, none⟩ = some (.int .i64 s.now) ∧ w'.cell? ⟨wr.heap.size, 4, none⟩ = some (.int .i64 yf) ∧ w'.cell? ⟨wr.heap.size, 5, none⟩ = some (.int .i64 yt) ∧ w'.cell? ⟨wr.heap.size, 2, none⟩ = some (.int .i64 ys) ∧ w'.cell? ⟨X.f, 1, none⟩ = some (.slice (some ⟨bx, ox, none⟩) X.x.works.n X.x.works.cap) ∧ w'.cell? ⟨bx, ox + i * 4 + 1, none⟩ = some (.slice z.needs.A z.needs.n z.needs.cap) ∧ w'.cell? ⟨wr.heap.size, 1, none⟩ = some (.slice yh.A yh.n yh.cap) ∧ w'.cell? ⟨X.f, 8, none⟩ = some (.slice A n cap) ∧ w'.cell? ⟨wr.heap.size, 3, none⟩ = some (.int .i64 yv) ∧ w'.cell? ⟨X.f, 0, none⟩ = some (.slice (some ⟨by_, oy, none⟩) N X.x.workers.cap)) (by kernel_rfl) hH0 (fun hHeld => ?_)
            refine tkH (i := 0) (d := some 21) (v := ?_) (hy := Or.inl ⟨by rfl, ?_⟩) (h := ?_)
            rotate_left
            · (intro w hSw; (try dsimp only at hSw); go_simp; (try with_reducible rfl))
            (try simp only [Act.put, tkA, tkB, tkC])
            refine tkH (i := 1) (d := some 22) (v := ?_) (hy := Or.inl ⟨by rfl, ?_⟩) (h := ?_)
            rotate_left
            · (intro w hSw; (try dsimp only at hSw); go_simp; (try with_reducible rfl))
            (try simp only [Act.put, tkA, tkB, tkC])
            refine tkH (i := 2) (d := some 23) (v := ?_) (hy := Or.inl ⟨by rfl, ?_⟩) (h := ?_)
            rotate_left
            · (intro w hSw; (try dsimp only at hSw); go_simp; (try with_reducible rfl))
            (try simp only [Act.put, tkA, tkB, tkC])
            refine tkH (i := 3) (d := some 24) (v := ?_) (hy := Or.inl ⟨by rfl, ?_⟩) (h := ?_)
            rotate_left
            · (intro w hSw; (try dsimp only at hSw); go_simp; (try with_reducible rfl))
            (try simp only [Act.put, tkA, tkB, tkC])
            refine tkH (i := 4) (d := some 25) (v := ?_) (hy := Or.inl ⟨by rfl, ?_⟩) (h := ?_)
            rotate_left
            · (intro w hSw; (try dsimp only at hSw); go_simp; (try with_reducible rfl))
            (try simp only [Act.put, tkA, tkB, tkC])
            refine tkH (i := 5) (d := some 26) (v := ?_) (hy := Or.inl ⟨by rfl, ?_⟩) (h := ?_)
            rotate_left
            · (intro w hSw; (try dsimp only at hSw); go_simp; (try with_reducible rfl))
            (try simp only [Act.put, tkA, tkB, tkC])
            refine tkH (i := 6) (d := some 27) (v := ?_) (hy := Or.inl ⟨by rfl, ?_⟩) (h := ?_)
            rotate_left
            · (intro w hSw; (try dsimp only at hSw); go_simp; (try with_reducible rfl))
            (try simp only [Act.put, tkA, tkB, tkC])
            refine tkH (i := 7) (d := some 28) (v := ?_) (hy := Or.inl ⟨by rfl, ?_⟩) (h := ?_)
            rotate_left
            · (intro w hSw; (try dsimp only at hSw); go_simp; (try with_reducible rfl))
            (try simp only [Act.put, tkA, tkB, tkC])
            refine tkH (i := 8) (d := some 29) (v := ?_) (hy := Or.inl ⟨by rfl, ?_⟩) (h := ?_)
            rotate_left
            · (intro w hSw; (try dsimp only at hSw); go_simp; (try with_reducible rfl))
            (try simp only [Act.put, tkA, tkB, tkC])
            refine tkH (i := 9) (d := some 30) (v := ?_) (hy := Or.inl ⟨by rfl, ?_⟩) (h := ?_)
            rotate_left
            · (intro w hSw; (try dsimp only at hSw); go_simp; (try with_reducible rfl))
            (try simp only [Act.put, tkA, tkB, tkC])
            refine tkH (i := 10) (d := some 31) (v := ?_) (hy := Or.inl ⟨by rfl, ?_⟩) (h := ?_)
            rotate_left
            · (intro w hSw; (try dsimp only at hSw); go_simp; (try with_reducible rfl))
            (try simp only [Act.put, tkA, tkB, tkC])
            refine tkH (i := 11) (d := some 32) (v := ?_) (hy := Or.inl ⟨by rfl, ?_⟩) (h := ?_)
            rotate_left
            · (intro w hSw; (try dsimp only at hSw); go_simp; (try with_reducible rfl))
            (try simp only [Act.put, tkA, tkB, tkC])
            refine tkH (i := 12) (d := some 33) (v := ?_) (hy := Or.inl ⟨by rfl, ?_⟩) (h := ?_)
            rotate_left
            · (intro w hSw; (try dsimp only at hSw); go_simp; (try with_reducible rfl))
            (try simp only [Act.put, tkA, tkB, tkC])
            refine tkH (i := 13) (d := some 34) (v := ?_) (hy := Or.inl ⟨by rfl, ?_⟩) (h := ?_)
            rotate_left
            · (intro w hSw; (try dsimp only at hSw); go_simp; (try with_reducible rfl))
            (try simp only [Act.put, tkA, tkB, tkC])
            refine tkH (i := 14) (d := some 35) (v := ?_) (hy := Or.inl ⟨by rfl, ?_⟩) (h := ?_)
            rotate_left
            · (intro w hSw; (try dsimp only at hSw); go_simp; (try with_reducible rfl))
            (try simp only [Act.put, tkA, tkB, tkC])
            refine tkH (i := 15) (d := some 36) (v := ?_) (hy := Or.inl ⟨by rfl, ?_⟩) (h := ?_)
            rotate_left
            · (intro w hSw; (try dsimp only at hSw); go_simp; (try with_reducible rfl))
            (try simp only [Act.put, tkA, tkB, tkC])
            refine tkH (i := 16) (d := some 37) (v := ?_) (hy := Or.inl ⟨by rfl, ?_⟩) (h := ?_)
            rotate_left
            · (intro w hSw; (try dsimp only at hSw); go_simp; (try with_reducible rfl))
            (try simp only [Act.put, tkA, tkB, tkC])
            refine tkH (i := 17) (d := some 38) (v := ?_) (hy := Or.inl ⟨by rfl, ?_⟩) (h := ?_)
            rotate_left
            · (intro w hSw; (try dsimp only at hSw); go_simp; (try with_reducible rfl))
            (try simp only [Act.put, tkA, tkB, tkC])
            refine tkH (i := 18) (d := some 39) (v := ?_) (hy := Or.inl ⟨by rfl, ?_⟩) (h := ?_)
            rotate_left
            · (intro w hSw; (try dsimp only at hSw); go_simp; (try with_reducible rfl))
            (try simp only [Act.put, tkA, tkB, tkC])
            refine tkH (i := 19) (d := some 40) (v := ?_) (hy := Or.inl ⟨by rfl, ?_⟩) (h := ?_)
            rotate_left
            · (intro w hSw; (try dsimp only at hSw); go_simp; (try with_reducible rfl))
            (try simp only [Act.put, tkA, tkB, tkC])
            refine tkH (i := 20) (d := some 41) (v := ?_) (hy := Or.inl ⟨by rfl, ?_⟩) (h := ?_)
            rotate_left
            · (intro w hSw; (try dsimp only at hSw); go_simp; (try with_reducible rfl))
            (try simp only [Act.put, tkA, tkB, tkC])
            refine tkH (i := 21) (d := some 42) (v := ?_) (hy := Or.inl ⟨by rfl, ?_⟩) (h := ?_)
            rotate_left
            · (intro w hSw; (try dsimp only at hSw); go_simp; (try with_reducible rfl))
            (try simp only [Act.put, tkA, tkB, tkC])
            refine skH (i := 22) (d := some 43) ?_
            (try simp only [Act.put, tkA, tkB, tkC])
            refine skH (i := 23) (d := some 44) ?_
            (try simp only [Act.put, tkA, tkB, tkC])
            refine skH (i := 24) (d := some 45) ?_
            (try simp only [Act.put, tkA, tkB, tkC])
            refine skH (i := 25) (d := some 46) ?_
            (try simp only [Act.put, tkA, tkB, tkC])
            refine skH (i := 26) (d := some 47) ?_
            (try simp only [Act.put, tkA, tkB, tkC])
            refine skH (i := 27) (d := some 48) ?_
            (try simp only [Act.put, tkA, tkB, tkC])
            refine tkH (i := 28) (d := some 49) (v := ?_) (hy := Or.inl ⟨by rfl, ?_⟩) (h := ?_)
            rotate_left
            · (intro w hSw; (try dsimp only at hSw); go_simp; (try with_reducible rfl))
            (try simp only [Act.put, tkA, tkB, tkC])
            refine tkH (i := 29) (d := some 50) (v := ?_) (hy := Or.inl ⟨by rfl, ?_⟩) (h := ?_)
            rotate_left
            · (intro w hSw; (try dsimp only at hSw); go_simp; (try with_reducible rfl))
            (try simp only [Act.put, tkA, tkB, tkC])
            refine skH (i := 30) (d := some 51) ?_
            (try simp only [Act.put, tkA, tkB, tkC])
            refine skH (i := 31) (d := some 52) ?_
            (try simp only [Act.put, tkA, tkB, tkC])
            refine skH (i := 32) (d := some 53) ?_
            (try simp only [Act.put, tkA, tkB, tkC])
            refine skH (i := 33) (d := some 54) ?_
            (try simp only [Act.put, tkA, tkB, tkC])
            refine skH (i := 34) (d := some 55) ?_
            (try simp only [Act.put, tkA, tkB, tkC])
            refine skH (i := 35) (d := some 56) ?_
            (try simp only [Act.put, tkA, tkB, tkC])
            refine skH (i := 36) (d := some 57) ?_
            (try simp only [Act.put, tkA, tkB, tkC])
            refine skH (i := 37) (d := some 58) ?_
            (try simp only [Act.put, tkA, tkB, tkC])
            refine skH (i := 38) (d := some 59) ?_
            (try simp only [Act.put, tkA, tkB, tkC])
            refine skH (i := 39) (d := some 60) ?_
            (try simp only [Act.put, tkA, tkB, tkC])
            refine skH (i := 40) (d := some 61) ?_
            (try simp only [Act.put, tkA, tkB, tkC])
            refine skH (i := 41) (d := some 62) ?_
            (try simp only [Act.put, tkA, tkB, tkC])
            refine skH (i := 42) (d := some 63) ?_
            (try simp only [Act.put, tkA, tkB, tkC])
            refine tkH (i := 43) (d := some 64) (v := ?_) (hy := Or.inl ⟨by rfl, ?_⟩) (h := ?_)
            rotate_left
            · (intro w hSw; (try dsimp only at hSw); go_simp; (try with_reducible rfl))
            (try simp only [Act.put, tkA, tkB, tkC])
            refine wpAnyH_done (by kernel_rfl) ?_ _
            clear hHeld hH0
            go_wp2
            refine ⟨?rel, ?measure⟩
            case measure => (simp [intOf]; omega)
            case rel => first | exact (hnoH.out _ ((hbaH.out).drew)) | exact ⟨rfl, (hnoH.out _ ((hbaH.out).drew))⟩ | ((try refine ⟨rfl, ?_⟩); (repeat apply Exists.intro); refine ⟨(hnoH.out _ ((hbaH.out).drew)), ?_⟩; ((repeat' apply And.intro) <;> rfl))
          · have e3' : decide (yt ≤ s.now) = false := by simpa using e3
            obtain ⟨bz, hbz⟩ : ∃ b, busy s.runs j = b := ⟨_, rfl⟩
            by_cases e4 : ys ≤ (bz : Int)
            · have e4' : decide (ys ≤ (bz : Int)) = true := by simpa using e4
              have hno := Rno (by rw [hcan, hbz]; simp; omega)
              clear Rno hcan k1 k2 k3 k4 k5 e1 e1b
              have hbH := Lib.hid hb
              clear hb
              have hyH := Lib.hid hy
              clear hy
              have hyoH := Lib.hid hyo
              clear hyo
              have hbaH := Lib.hid hba
              clear hba
              have hb5H := Lib.hid hb5
              clear hb5
              have hnoH := Lib.hid hno
              clear hno
              have hbvH := Lib.hid hbv
              clear hbv
              have hH0H := Lib.hid hH0
              clear hH0
              have hws'H := Lib.hid hws'
              clear hws'
              have hbzH := Lib.hid hbz
              clear hbz
              have hH0 := hH0H.out
              clear hH0H
              go_wp2_with fail
              refine wp_region_held_drew (S := fun w' => w'.cell? ⟨X.f, 7, none⟩ = some (.int .i64 s.now) ∧ w'.cell? ⟨wr.heap.size, 4, none⟩ = some (.int .i64 yf) ∧ w'.cell? ⟨wr.heap.size, 5, none⟩ = some (.int .i64 yt) ∧ w'.cell? ⟨wr.heap.size, 2, none⟩ = some (.int .i64 ys) ∧ w'.cell? ⟨X.f, 1, none⟩ = some (.slice (some ⟨bx, ox, none⟩) X.x.works.n X.x.works.cap) ∧ w'.cell? ⟨bx, ox + i * 4 + 1, none⟩ = some (.slice z.needs.A z.needs.n z.needs.cap) ∧ w'.cell? ⟨wr.heap.size, 1, none⟩ = some (.slice yh.A yh.n yh.cap) ∧ w'.cell? ⟨X.f, 8, none⟩ = some (.slice A n cap) ∧ w'.cell? ⟨wr.heap.size, 3, none⟩ = some (.int .i64 yv) ∧ w'.cell? ⟨X.f, 0, none⟩ = some (.slice (some ⟨by_, oy, none⟩) N X.x.workers.cap)) (by kernel_rfl) hH0 (fun hHeld => ?_)
              refine tkH (i := 0) (d := some 21) (v := ?_) (hy := Or.inl ⟨by rfl, ?_⟩) (h := ?_)
              rotate_left
              · (intro w hSw; (try dsimp only at hSw); go_simp; (try with_reducible rfl))
              (try simp only [Act.put, tkA, tkB, tkC])
              refine tkH (i := 1) (d := some 22) (v := ?_) (hy := Or.inl ⟨by rfl, ?_⟩) (h := ?_)
              rotate_left
              · (intro w hSw; (try dsimp only at hSw); go_simp; (try with_reducible rfl))
              (try simp only [Act.put, tkA, tkB, tkC])
              refine tkH (i := 2) (d := some 23) (v := ?_) (hy := Or.inl ⟨by rfl, ?_⟩) (h := ?_)
              rotate_left
              · (intro w hSw; (try dsimp only at hSw); go_simp; (try with_reducible rfl))
              (try simp only [Act.put, tkA, tkB, tkC])
              refine tkH (i := 3) (d := some 24) (v := ?_) (hy := Or.inl ⟨by rfl, ?_⟩) (h := ?_)
              rotate_left
              · (intro w hSw; (try dsimp only at hSw); go_simp; (try with_reducible rfl))
              (try simp only [Act.put, tkA, tkB, tkC])
              refine tkH (i := 4) (d := some 25) (v := ?_) (hy := Or.inl ⟨by rfl, ?_⟩) (h := ?_)
              rotate_left
              · (intro w hSw; (try dsimp only at hSw); go_simp; (try with_reducible rfl))
              (try simp only [Act.put, tkA, tkB, tkC])
              refine tkH (i := 5) (d := some 26) (v := ?_) (hy := Or.inl ⟨by rfl, ?_⟩) (h := ?_)
              rotate_left
              · (intro w hSw; (try dsimp only at hSw); go_simp; (try with_reducible rfl))
              (try simp only [Act.put, tkA, tkB, tkC])
              refine tkH (i := 6) (d := some 27) (v := ?_) (hy := Or.inl ⟨by rfl, ?_⟩) (h := ?_)
              rotate_left
              · (intro w hSw; (try dsimp only at hSw); go_simp; (try with_reducible rfl))
              (try simp only [Act.put, tkA, tkB, tkC])
              refine tkH (i := 7) (d := some 28) (v := ?_) (hy := Or.inl ⟨by rfl, ?_⟩) (h := ?_)
              rotate_left
              · (intro w hSw; (try dsimp only at hSw); go_simp; (try with_reducible rfl))
              (try simp only [Act.put, tkA, tkB, tkC])
              refine tkH (i := 8) (d := some 29) (v := ?_) (hy := Or.inl ⟨by rfl, ?_⟩) (h := ?_)
              rotate_left
              · (intro w hSw; (try dsimp only at hSw); go_simp; (try with_reducible rfl))
              (try simp only [Act.put, tkA, tkB, tkC])
              refine tkH (i := 9) (d := some 30) (v := ?_) (hy := Or.inl ⟨by rfl, ?_⟩) (h := ?_)
              rotate_left
              · (intro w hSw; (try dsimp only at hSw); go_simp; (try with_reducible rfl))
              (try simp only [Act.put, tkA, tkB, tkC])
              refine tkH (i := 10) (d := some 31) (v := ?_) (hy := Or.inl ⟨by rfl, ?_⟩) (h := ?_)
              rotate_left
              · (intro w hSw; (try dsimp only at hSw); go_simp; (try with_reducible rfl))
              (try simp only [Act.put, tkA, tkB, tkC])
              refine tkH (i := 11) (d := some 32) (v := ?_) (hy := Or.inl ⟨by rfl, ?_⟩) (h := ?_)
              rotate_left
              · (intro w hSw; (try dsimp only at hSw); go_simp; (try with_reducible rfl))
              (try simp only [Act.put, tkA, tkB, tkC])
              refine tkH (i := 12) (d := some 33) (v := ?_) (hy := Or.inl ⟨by rfl, ?_⟩) (h := ?_)
              rotate_left
              · (intro w hSw; (try dsimp only at hSw); go_simp; (try with_reducible rfl))
              (try simp only [Act.put, tkA, tkB, tkC])
              refine tkH (i := 13) (d := some 34) (v := ?_) (hy := Or.inl ⟨by rfl, ?_⟩) (h := ?_)
              rotate_left
              · (intro w hSw; (try dsimp only at hSw); go_simp; (try with_reducible rfl))
              (try simp only [Act.put, tkA, tkB, tkC])
              refine tkH (i := 14) (d := some 35) (v := ?_) (hy := Or.inl ⟨by rfl, ?_⟩) (h := ?_)
              rotate_left
              · (intro w hSw; (try dsimp only at hSw); go_simp; (try with_reducible rfl))
              (try simp only [Act.put, tkA, tkB, tkC])
              refine tkH (i := 15) (d := some 36) (v := ?_) (hy := Or.inl ⟨by rfl, ?_⟩) (h := ?_)
              rotate_left
              · (intro w hSw; (try dsimp only at hSw); go_simp; (try with_reducible rfl))
              (try simp only [Act.put, tkA, tkB, tkC])
              refine tkH (i := 16) (d := some 37) (v := ?_) (hy := Or.inl ⟨by rfl, ?_⟩) (h := ?_)
              rotate_left
              · (intro w hSw; (try dsimp only at hSw); go_simp; (try with_reducible rfl))
              (try simp only [Act.put, tkA, tkB, tkC])
              refine tkH (i := 17) (d := some 38) (v := ?_) (hy := Or.inl ⟨by rfl, ?_⟩) (h := ?_)
              rotate_left
              · (intro w hSw; (try dsimp only at hSw); go_simp; (try with_reducible rfl))
              (try simp only [Act.put, tkA, tkB, tkC])
              refine tkH (i := 18) (d := some 39) (v := ?_) (hy := Or.inl ⟨by rfl, ?_⟩) (h := ?_)
              rotate_left
              · (intro w hSw; (try dsimp only at hSw); go_simp; (try with_reducible rfl))
              (try simp only [Act.put, tkA, tkB, tkC])
              refine tkH (i := 19) (d := some 40) (v := ?_) (hy := Or.inl ⟨by rfl, ?_⟩) (h := ?_)
              rotate_left
              · (intro w hSw; (try dsimp only at hSw); go_simp; (try with_reducible rfl))
              (try simp only [Act.put, tkA, tkB, tkC])
              refine tkH (i := 20) (d := some 41) (v := ?_) (hy := Or.inl ⟨by rfl, ?_⟩) (h := ?_)
              rotate_left
              · (intro w hSw; (try dsimp only at hSw); go_simp; (try with_reducible rfl))
              (try simp only [Act.put, tkA, tkB, tkC])
              refine tkH (i := 21) (d := some 42) (v := ?_) (hy := Or.inl ⟨by rfl, ?_⟩) (h := ?_)
              rotate_left
              · (intro w hSw; (try dsimp only at hSw); go_simp; (try with_reducible rfl))
              (try simp only [Act.put, tkA, tkB, tkC])
              refine tkH (i := 22) (d := some 43) (v := ?_) (hy := Or.inl ⟨by rfl, ?_⟩) (h := ?_)
              rotate_left
              · (intro w hSw; (try dsimp only at hSw); go_simp; (try with_reducible rfl))
              (try simp only [Act.put, tkA, tkB, tkC])
              refine tkH (i := 23) (d := some 44) (v := ?_) (hy := Or.inl ⟨by rfl, ?_⟩) (h := ?_)
              rotate_left
              · (intro w hSw; (try dsimp only at hSw); go_simp; (try with_reducible rfl))
              (try simp only [Act.put, tkA, tkB, tkC])
              refine tkH (i := 25) (d := some 46) (v := ?_) (hy := Or.inl ⟨by rfl, ?_⟩) (h := ?_)
              rotate_left
              · (intro w hSw; (try dsimp only at hSw); go_simp; (try with_reducible rfl))
              (try simp only [Act.put, tkA, tkB, tkC])
              refine tkH (i := 26) (d := some 47) (v := ?_) (hy := Or.inl ⟨by rfl, ?_⟩) (h := ?_)
              rotate_left
              · (intro w hSw; (try dsimp only at hSw); go_simp; (try with_reducible rfl))
              (try simp only [Act.put, tkA, tkB, tkC])
              refine wpAnyH_ready (rs := [24]) (by kernel_rfl) (by simp) ?_
              refine AllReadyH.cons (i := 24) rfl (fun K hK => ?_) AllReadyH.nil
              go_simp
              go_at_call 205
              refine (running_any X.f A n cap X.F s.runs j _ (hHeld.2.2.2.2.2.2.2.1) ((hslH.out.below (hb5H.out)).below (Below.refl _ _).drew) hn hgoH.out).mono ?_
              rintro e w4 ⟨rfl, hb4⟩
              rw [hbzH.out]
              have hHeld := keep10 hb4 hHeld
              have hb54 : Below wr.heap.size wr w4 := ((Below.refl wr.heap.size wr).alloc (Nat.le_refl _) _).drew.trans (hb4.mono (by simp))
              clear hb4
              have hb54H := Lib.hid hb54
              clear hb54
              refine hK.out _ _ hHeld (fun hHeld => ?_)
              clear hK K
              (try simp only [Act.put, List.setIfInBounds_toArray, List.set_cons_zero, List.set_cons_succ])
              refine tkH (i := 27) (d := some 48) (v := ?_) (hy := Or.inl ⟨by rfl, ?_⟩) (h := ?_)
              rotate_left
              · (intro w hSw; (try dsimp only at hSw); go_simp; (try with_reducible rfl))
              (try simp only [Act.put, tkA, tkB, tkC])
              refine tkH (i := 28) (d := some 49) (v := ?_) (hy := Or.inl ⟨by rfl, ?_⟩) (h := ?_)
              rotate_left
              · (intro w hSw; (try dsimp only at hSw); go_simp; (try with_reducible rfl))
              (try simp only [Act.put, tkA, tkB, tkC])
              refine tkH (i := 29) (d := some 50) (v := ?_) (hy := Or.inl ⟨by rfl, ?_⟩) (h := ?_)
              rotate_left
              · (intro w hSw; (try dsimp only at hSw); go_simp; (try with_reducible rfl))
              (try simp only [Act.put, tkA, tkB, tkC])
              refine skH (i := 30) (d := some 51) ?_
              (try simp only [Act.put, tkA, tkB, tkC])
              refine skH (i := 31) (d := some 52) ?_
              (try simp only [Act.put, tkA, tkB, tkC])
              refine skH (i := 32) (d := some 53) ?_
              (try simp only [Act.put, tkA, tkB, tkC])
              refine skH (i := 33) (d := some 54) ?_
              (try simp only [Act.put, tkA, tkB, tkC])
              refine skH (i := 34) (d := some 55) ?_
              (try simp only [Act.put, tkA, tkB, tkC])
              refine skH (i := 35) (d := some 56) ?_
              (try simp only [Act.put, tkA, tkB, tkC])
              refine skH (i := 36) (d := some 57) ?_
              (try simp only [Act.put, tkA, tkB, tkC])
              refine skH (i := 37) (d := some 58) ?_
              (try simp only [Act.put, tkA, tkB, tkC])
              refine skH (i := 38) (d := some 59) ?_
              (try simp only [Act.put, tkA, tkB, tkC])
              refine skH (i := 39) (d := some 60) ?_
              (try simp only [Act.put, tkA, tkB, tkC])
              refine skH (i := 40) (d := some 61) ?_
              (try simp only [Act.put, tkA, tkB, tkC])
              refine skH (i := 41) (d := some 62) ?_
              (try simp only [Act.put, tkA, tkB, tkC])
              refine skH (i := 42) (d := some 63) ?_
              (try simp only [Act.put, tkA, tkB, tkC])
              refine tkH (i := 43) (d := some 64) (v := ?_) (hy := Or.inl ⟨by rfl, ?_⟩) (h := ?_)
              rotate_left
              · (intro w hSw; (try dsimp only at hSw); go_simp; (try with_reducible rfl))
              (try simp only [Act.put, tkA, tkB, tkC])
              refine wpAnyH_done (by kernel_rfl) ?_ _
              clear hHeld hH0
              go_wp2
              refine ⟨?rel, ?measure⟩
              case measure => (simp [intOf]; omega)
              case rel => first | exact (hnoH.out _ hb54H.out) | exact ⟨rfl, (hnoH.out _ hb54H.out)⟩ | ((try refine ⟨rfl, ?_⟩); (repeat apply Exists.intro); refine ⟨(hnoH.out _ hb54H.out), ?_⟩; ((repeat' apply And.intro) <;> rfl))
            · have e4' : decide (ys ≤ (bz : Int)) = false := by simpa using e4
              obtain ⟨ft, hft⟩ : ∃ b, fitF z.needs.l yh.l = b := ⟨_, rfl⟩
              have hzn := hzoH.out.2.1
              have hyn := hyo.2.1
              cases ft
              · have hno := Rno (by rw [hcan, hft]; simp)
                clear Rno hcan k1 k2 k3 k4 k5 e1 e1b
                have hbH := Lib.hid hb
                clear hb
                have hyH := Lib.hid hy
                clear hy
                have hyoH := Lib.hid hyo
                clear hyo
                have hbaH := Lib.hid hba
                clear hba
                have hb5H := Lib.hid hb5
                clear hb5
                have hnoH := Lib.hid hno
                clear hno
                have hbvH := Lib.hid hbv
                clear hbv
                have hH0H := Lib.hid hH0
                clear hH0
                have hws'H := Lib.hid hws'
                clear hws'
                have hbzH := Lib.hid hbz
                clear hbz
                have hznH := Lib.hid hzn
                clear hzn
                have hynH := Lib.hid hyn
                clear hyn
                have hftH := Lib.hid hft
                clear hft
                have hH0 := hH0H.out
                clear hH0H
                go_wp2_with fail
                refine wp_region_held_drew (S := fun w' => w'.cell? ⟨X.f, 7, none⟩ = some (.int .i64 s.now) ∧ w'.cell? ⟨wr.heap.size, 4, none⟩ = some (.int .i64 yf) ∧ w'.cell? ⟨wr.heap.size, 5, none⟩ = some (.int .i64 yt) ∧ w'.cell? ⟨wr.heap.size, 2, none⟩ = some (.int .i64 ys) ∧ w'.cell? ⟨X.f, 1, none⟩ = some (.slice (some ⟨bx, ox, none⟩) X.x.works.n X.x.works.cap) ∧ w'.cell? ⟨bx, ox + i * 4 + 1, none⟩ = some (.slice z.needs.A z.needs.n z.needs.cap) ∧ w'.cell? ⟨wr.heap.size, 1, none⟩ = some (.slice yh.A yh.n yh.cap) ∧ w'.cell? ⟨X.f, 8, none⟩ = some (.slice A n cap) ∧ w'.cell? ⟨wr.heap.size, 3, none⟩ = some (.int .i64 yv) ∧ w'.cell? ⟨X.f, 0, none⟩ = some (.slice (some ⟨by_, oy, none⟩) N X.x.workers.cap)) (by kernel_rfl) hH0 (fun hHeld => ?_)
                refine tkH (i := 0) (d := some 21) (v := ?_) (hy := Or.inl ⟨by rfl, ?_⟩) (h := ?_)
                rotate_left
                · (intro w hSw; (try dsimp only at hSw); go_simp; (try with_reducible rfl))
                (try simp only [Act.put, tkA, tkB, tkC])
                refine tkH (i := 1) (d := some 22) (v := ?_) (hy := Or.inl ⟨by rfl, ?_⟩) (h := ?_)
                rotate_left
                · (intro w hSw; (try dsimp only at hSw); go_simp; (try with_reducible rfl))
                (try simp only [Act.put, tkA, tkB, tkC])
                refine tkH (i := 2) (d := some 23) (v := ?_) (hy := Or.inl ⟨by rfl, ?_⟩) (h := ?_)
                rotate_left
                · (intro w hSw; (try dsimp only at hSw); go_simp; (try with_reducible rfl))
                (try simp only [Act.put, tkA, tkB, tkC])
                refine tkH (i := 3) (d := some 24) (v := ?_) (hy := Or.inl ⟨by rfl, ?_⟩) (h := ?_)
                rotate_left
                · (intro w hSw; (try dsimp only at hSw); go_simp; (try with_reducible rfl))
                (try simp only [Act.put, tkA, tkB, tkC])
                refine tkH (i := 4) (d := some 25) (v := ?_) (hy := Or.inl ⟨by rfl, ?_⟩) (h := ?_)
                rotate_left
                · (intro w hSw; (try dsimp only at hSw); go_simp; (try with_reducible rfl))
                (try simp only [Act.put, tkA, tkB, tkC])
                refine tkH (i := 5) (d := some 26) (v := ?_) (hy := Or.inl ⟨by rfl, ?_⟩) (h := ?_)
                rotate_left
                · (intro w hSw; (try dsimp only at hSw); go_simp; (try with_reducible rfl))
                (try simp only [Act.put, tkA, tkB, tkC])
                refine tkH (i := 6) (d := some 27) (v := ?_) (hy := Or.inl ⟨by rfl, ?_⟩) (h := ?_)
                rotate_left
                · (intro w hSw; (try dsimp only at hSw); go_simp; (try with_reducible rfl))
                (try simp only [Act.put, tkA, tkB, tkC])
                refine tkH (i := 7) (d := some 28) (v := ?_) (hy := Or.inl ⟨by rfl, ?_⟩) (h := ?_)
                rotate_left
                · (intro w hSw; (try dsimp only at hSw); go_simp; (try with_reducible rfl))
                (try simp only [Act.put, tkA, tkB, tkC])
                refine tkH (i := 8) (d := some 29) (v := ?_) (hy := Or.inl ⟨by rfl, ?_⟩) (h := ?_)
                rotate_left
                · (intro w hSw; (try dsimp only at hSw); go_simp; (try with_reducible rfl))
                (try simp only [Act.put, tkA, tkB, tkC])
                refine tkH (i := 9) (d := some 30) (v := ?_) (hy := Or.inl ⟨by rfl, ?_⟩) (h := ?_)
                rotate_left
                · (intro w hSw; (try dsimp only at hSw); go_simp; (try with_reducible rfl))
                (try simp only [Act.put, tkA, tkB, tkC])
                refine tkH (i := 10) (d := some 31) (v := ?_) (hy := Or.inl ⟨by rfl, ?_⟩) (h := ?_)
                rotate_left
                · (intro w hSw; (try dsimp only at hSw); go_simp; (try with_reducible rfl))
                (try simp only [Act.put, tkA, tkB, tkC])
                refine tkH (i := 11) (d := some 32) (v := ?_) (hy := Or.inl ⟨by rfl, ?_⟩) (h := ?_)
                rotate_left
                · (intro w hSw; (try dsimp only at hSw); go_simp; (try with_reducible rfl))
                (try simp only [Act.put, tkA, tkB, tkC])
                refine tkH (i := 12) (d := some 33) (v := ?_) (hy := Or.inl ⟨by rfl, ?_⟩) (h := ?_)
                rotate_left
                · (intro w hSw; (try dsimp only at hSw); go_simp; (try with_reducible rfl))
                (try simp only [Act.put, tkA, tkB, tkC])
                refine tkH (i := 13) (d := some 34) (v := ?_) (hy := Or.inl ⟨by rfl, ?_⟩) (h := ?_)
                rotate_left
                · (intro w hSw; (try dsimp only at hSw); go_simp; (try with_reducible rfl))
                (try simp only [Act.put, tkA, tkB, tkC])
                refine tkH (i := 14) (d := some 35) (v := ?_) (hy := Or.inl ⟨by rfl, ?_⟩) (h := ?_)
                rotate_left
                · (intro w hSw; (try dsimp only at hSw); go_simp; (try with_reducible rfl))
                (try simp only [Act.put, tkA, tkB, tkC])
                refine tkH (i := 15) (d := some 36) (v := ?_) (hy := Or.inl ⟨by rfl, ?_⟩) (h := ?_)
                rotate_left
                · (intro w hSw; (try dsimp only at hSw); go_simp; (try with_reducible rfl))
                (try simp only [Act.put, tkA, tkB, tkC])
                refine tkH (i := 16) (d := some 37) (v := ?_) (hy := Or.inl ⟨by rfl, ?_⟩) (h := ?_)
                rotate_left
                · (intro w hSw; (try dsimp only at hSw); go_simp; (try with_reducible rfl))
                (try simp only [Act.put, tkA, tkB, tkC])
                refine tkH (i := 17) (d := some 38) (v := ?_) (hy := Or.inl ⟨by rfl, ?_⟩) (h := ?_)
                rotate_left
                · (intro w hSw; (try dsimp only at hSw); go_simp; (try with_reducible rfl))
                (try simp only [Act.put, tkA, tkB, tkC])
                refine tkH (i := 18) (d := some 39) (v := ?_) (hy := Or.inl ⟨by rfl, ?_⟩) (h := ?_)
                rotate_left
                · (intro w hSw; (try dsimp only at hSw); go_simp; (try with_reducible rfl))
                (try simp only [Act.put, tkA, tkB, tkC])
                refine tkH (i := 19) (d := some 40) (v := ?_) (hy := Or.inl ⟨by rfl, ?_⟩) (h := ?_)
                rotate_left
                · (intro w hSw; (try dsimp only at hSw); go_simp; (try with_reducible rfl))
                (try simp only [Act.put, tkA, tkB, tkC])
                refine tkH (i := 20) (d := some 41) (v := ?_) (hy := Or.inl ⟨by rfl, ?_⟩) (h := ?_)
                rotate_left
                · (intro w hSw; (try dsimp only at hSw); go_simp; (try with_reducible rfl))
                (try simp only [Act.put, tkA, tkB, tkC])
                refine tkH (i := 21) (d := some 42) (v := ?_) (hy := Or.inl ⟨by rfl, ?_⟩) (h := ?_)
                rotate_left
                · (intro w hSw; (try dsimp only at hSw); go_simp; (try with_reducible rfl))
                (try simp only [Act.put, tkA, tkB, tkC])
                refine tkH (i := 22) (d := some 43) (v := ?_) (hy := Or.inl ⟨by rfl, ?_⟩) (h := ?_)
                rotate_left
                · (intro w hSw; (try dsimp only at hSw); go_simp; (try with_reducible rfl))
                (try simp only [Act.put, tkA, tkB, tkC])
                refine tkH (i := 23) (d := some 44) (v := ?_) (hy := Or.inl ⟨by rfl, ?_⟩) (h := ?_)
                rotate_left
                · (intro w hSw; (try dsimp only at hSw); go_simp; (try with_reducible rfl))
                (try simp only [Act.put, tkA, tkB, tkC])
                refine tkH (i := 25) (d := some 46) (v := ?_) (hy := Or.inl ⟨by rfl, ?_⟩) (h := ?_)
                rotate_left
                · (intro w hSw; (try dsimp only at hSw); go_simp; (try with_reducible rfl))
                (try simp only [Act.put, tkA, tkB, tkC])
                refine tkH (i := 26) (d := some 47) (v := ?_) (hy := Or.inl ⟨by rfl, ?_⟩) (h := ?_)
                rotate_left
                · (intro w hSw; (try dsimp only at hSw); go_simp; (try with_reducible rfl))
                (try simp only [Act.put, tkA, tkB, tkC])
                refine wpAnyH_ready (rs := [24]) (by kernel_rfl) (by simp) ?_
                refine AllReadyH.cons (i := 24) rfl (fun K hK => ?_) AllReadyH.nil
                go_simp
                go_at_call 205
                refine (running_any X.f A n cap X.F s.runs j _ (hHeld.2.2.2.2.2.2.2.1) ((hslH.out.below (hb5H.out)).below (Below.refl _ _).drew) hn hgoH.out).mono ?_
                rintro e w4 ⟨rfl, hb4⟩
                rw [hbzH.out]
                have hHeld := keep10 hb4 hHeld
                have hb54 : Below wr.heap.size wr w4 := ((Below.refl wr.heap.size wr).alloc (Nat.le_refl _) _).drew.trans (hb4.mono (by simp))
                clear hb4
                have hb54H := Lib.hid hb54
                clear hb54
                refine hK.out _ _ hHeld (fun hHeld => ?_)
                clear hK K
                (try simp only [Act.put, List.setIfInBounds_toArray, List.set_cons_zero, List.set_cons_succ])
                refine tkH (i := 27) (d := some 48) (v := ?_) (hy := Or.inl ⟨by rfl, ?_⟩) (h := ?_)
                rotate_left
                · (intro w hSw; (try dsimp only at hSw); go_simp; (try with_reducible rfl))
                (try simp only [Act.put, tkA, tkB, tkC])
                refine tkH (i := 28) (d := some 49) (v := ?_) (hy := Or.inl ⟨by rfl, ?_⟩) (h := ?_)
                rotate_left
                · (intro w hSw; (try dsimp only at hSw); go_simp; (try with_reducible rfl))
                (try simp only [Act.put, tkA, tkB, tkC])
                refine tkH (i := 29) (d := some 50) (v := ?_) (hy := Or.inl ⟨by rfl, ?_⟩) (h := ?_)
                rotate_left
                · (intro w hSw; (try dsimp only at hSw); go_simp; (try with_reducible rfl))
                (try simp only [Act.put, tkA, tkB, tkC])
                refine tkH (i := 30) (d := some 51) (v := ?_) (hy := Or.inl ⟨by rfl, ?_⟩) (h := ?_)
                rotate_left
                · (intro w hSw; (try dsimp only at hSw); go_simp; (try with_reducible rfl))
                (try simp only [Act.put, tkA, tkB, tkC])
                refine tkH (i := 31) (d := some 52) (v := ?_) (hy := Or.inl ⟨by rfl, ?_⟩) (h := ?_)
                rotate_left
                · (intro w hSw; (try dsimp only at hSw); go_simp; (try with_reducible rfl))
                (try simp only [Act.put, tkA, tkB, tkC])
                refine tkH (i := 32) (d := some 53) (v := ?_) (hy := Or.inl ⟨by rfl, ?_⟩) (h := ?_)
                rotate_left
                · (intro w hSw; (try dsimp only at hSw); go_simp; (try with_reducible rfl))
                (try simp only [Act.put, tkA, tkB, tkC])
                refine tkH (i := 33) (d := some 54) (v := ?_) (hy := Or.inl ⟨by rfl, ?_⟩) (h := ?_)
                rotate_left
                · (intro w hSw; (try dsimp only at hSw); go_simp; (try with_reducible rfl))
                (try simp only [Act.put, tkA, tkB, tkC])
                refine tkH (i := 34) (d := some 55) (v := ?_) (hy := Or.inl ⟨by rfl, ?_⟩) (h := ?_)
                rotate_left
                · (intro w hSw; (try dsimp only at hSw); go_simp; (try with_reducible rfl))
                (try simp only [Act.put, tkA, tkB, tkC])
                refine tkH (i := 35) (d := some 56) (v := ?_) (hy := Or.inl ⟨by rfl, ?_⟩) (h := ?_)
                rotate_left
                · (intro w hSw; (try dsimp only at hSw); go_simp; (try with_reducible rfl))
                (try simp only [Act.put, tkA, tkB, tkC])
                refine tkH (i := 36) (d := some 57) (v := ?_) (hy := Or.inl ⟨by rfl, ?_⟩) (h := ?_)
                rotate_left
                · (intro w hSw; (try dsimp only at hSw); go_simp; (try with_reducible rfl))
                (try simp only [Act.put, tkA, tkB, tkC])
                refine tkH (i := 37) (d := some 58) (v := ?_) (hy := Or.inl ⟨by rfl, ?_⟩) (h := ?_)
                rotate_left
                · (intro w hSw; (try dsimp only at hSw); go_simp; (try with_reducible rfl))
                (try simp only [Act.put, tkA, tkB, tkC])
                refine tkH (i := 38) (d := some 59) (v := ?_) (hy := Or.inl ⟨by rfl, ?_⟩) (h := ?_)
                rotate_left
                · (intro w hSw; (try dsimp only at hSw); go_simp; (try with_reducible rfl))
                (try simp only [Act.put, tkA, tkB, tkC])
                refine tkH (i := 39) (d := some 60) (v := ?_) (hy := Or.inl ⟨by rfl, ?_⟩) (h := ?_)
                rotate_left
                · (intro w hSw; (try dsimp only at hSw); go_simp; (try with_reducible rfl))
                (try simp only [Act.put, tkA, tkB, tkC])
                refine tkH (i := 40) (d := some 61) (v := ?_) (hy := Or.inl ⟨by rfl, ?_⟩) (h := ?_)
                rotate_left
                · (intro w hSw; (try dsimp only at hSw); go_simp; (try with_reducible rfl))
                (try simp only [Act.put, tkA, tkB, tkC])
                refine wpAnyH_ready (rs := [41]) (by kernel_rfl) (by simp) ?_
                refine AllReadyH.cons (i := 41) rfl (fun K hK => ?_) AllReadyH.nil
                go_simp
                go_at_call 51
                refine (fit_any z.needs.A z.needs.n z.needs.cap z.needs.l yh.A yh.n yh.cap yh.l _ (hznH.out.1.below (hbH.out.trans (hb54H.out.mono hbs))) (Nat.le_trans hznH.out.2.1 hznH.out.2.2.1) (hynH.out.1.below hb54H.out) (Nat.le_trans hynH.out.2.1 hynH.out.2.2.1) false hftH.out).mono ?_
                rintro e w6 ⟨rfl, hb6⟩
                have hHeld := keep10 hb6 hHeld
                have hb56 := hb54H.out.trans (hb6.mono hb54H.out.size)
                clear hb6
                have hb56H := Lib.hid hb56
                clear hb56
                refine hK.out _ _ hHeld (fun hHeld => ?_)
                clear hK K
                (try simp only [Act.put, List.setIfInBounds_toArray, List.set_cons_zero, List.set_cons_succ])
                refine tkH (i := 42) (d := some 63) (v := ?_) (hy := Or.inl ⟨by rfl, ?_⟩) (h := ?_)
                rotate_left
                · (intro w hSw; (try dsimp only at hSw); go_simp; (try with_reducible rfl))
                (try simp only [Act.put, tkA, tkB, tkC])
                refine tkH (i := 43) (d := some 64) (v := ?_) (hy := Or.inl ⟨by rfl, ?_⟩) (h := ?_)
                rotate_left
                · (intro w hSw; (try dsimp only at hSw); go_simp; (try with_reducible rfl))
                (try simp only [Act.put, tkA, tkB, tkC])
                refine wpAnyH_done (by kernel_rfl) ?_ _
                clear hHeld hH0
                go_wp2
                refine ⟨?rel, ?measure⟩
                case measure => (simp [intOf]; omega)
                case rel => first | exact (hnoH.out _ hb56H.out) | exact ⟨rfl, (hnoH.out _ hb56H.out)⟩ | ((try refine ⟨rfl, ?_⟩); (repeat apply Exists.intro); refine ⟨(hnoH.out _ hb56H.out), ?_⟩; ((repeat' apply And.intro) <;> rfl))
              · have hyes : ok j = true := by rw [hcan, hbz, hft]; simp; omega
                have hstep := bestW_yes (sp := X.F.speed) hyes
                clear Rno hcan k1 k2 k3 k5 e1 e1b hyes
                cases hbo : bestW ok X.F.speed j with
                | none =>
                  rw [hbo] at hstep hbv
                  obtain rfl : bv = -1 := hbv.symm
                  have R : ∀ w', Below wr.heap.size wr w' → BestRel X.F ok N w (.int .i64 (j : Int)) (.int .i64 ((j : Int) + 1)) w' := fun w' hw' =>
                    ⟨j + 1, hlt, by go_num, by rw [hstep]; rfl, hb.trans (hw'.mono hbs)⟩
                  clear hbv
                  have hbH := Lib.hid hb
                  clear hb
                  have hyH := Lib.hid hy
                  clear hy
                  have hyoH := Lib.hid hyo
                  clear hyo
                  have hbaH := Lib.hid hba
                  clear hba
                  have hb5H := Lib.hid hb5
                  clear hb5
                  have hH0H := Lib.hid hH0
                  clear hH0
                  have hws'H := Lib.hid hws'
                  clear hws'
                  have hbzH := Lib.hid hbz
                  clear hbz
                  have hznH := Lib.hid hzn
                  clear hzn
                  have hynH := Lib.hid hyn
                  clear hyn
                  have hftH := Lib.hid hft
                  clear hft
                  have hstepH := Lib.hid hstep
                  clear hstep
                  have RH := Lib.hid R
                  clear R
                  have k4H := Lib.hid k4
                  clear k4
                  have hH0 := hH0H.out
                  clear hH0H
                  go_wp2_with fail
                  refine wp_region_held_drew (S := fun w' => w'.cell? ⟨X.f, 7, none⟩ = some (.int .i64 s.now) ∧ w'.cell? ⟨wr.heap.size, 4, none⟩ = some (.int .i64 yf) ∧ w'.cell? ⟨wr.heap.size, 5, none⟩ = some (.int .i64 yt) ∧ w'.cell? ⟨wr.heap.size, 2, none⟩ = some (.int .i64 ys) ∧ w'.cell? ⟨X.f, 1, none⟩ = some (.slice (some ⟨bx, ox, none⟩) X.x.works.n X.x.works.cap) ∧ w'.cell? ⟨bx, ox + i * 4 + 1, none⟩ = some (.slice z.needs.A z.needs.n z.needs.cap) ∧ w'.cell? ⟨wr.heap.size, 1, none⟩ = some (.slice yh.A yh.n yh.cap) ∧ w'.cell? ⟨X.f, 8, none⟩ = some (.slice A n cap) ∧ w'.cell? ⟨wr.heap.size, 3, none⟩ = some (.int .i64 yv) ∧ w'.cell? ⟨X.f, 0, none⟩ = some (.slice (some ⟨by_, oy, none⟩) N X.x.workers.cap)) (by kernel_rfl) hH0 (fun hHeld => ?_)
                  refine tkH (i := 0) (d := some 21) (v := ?_) (hy := Or.inl ⟨by rfl, ?_⟩) (h := ?_)
                  rotate_left
                  · (intro w hSw; (try dsimp only at hSw); go_simp; (try with_reducible rfl))
                  (try simp only [Act.put, tkA, tkB, tkC])
                  refine tkH (i := 1) (d := some 22) (v := ?_) (hy := Or.inl ⟨by rfl, ?_⟩) (h := ?_)
                  rotate_left
                  · (intro w hSw; (try dsimp only at hSw); go_simp; (try with_reducible rfl))
                  (try simp only [Act.put, tkA, tkB, tkC])
                  refine tkH (i := 2) (d := some 23) (v := ?_) (hy := Or.inl ⟨by rfl, ?_⟩) (h := ?_)
                  rotate_left
                  · (intro w hSw; (try dsimp only at hSw); go_simp; (try with_reducible rfl))
                  (try simp only [Act.put, tkA, tkB, tkC])
                  refine tkH (i := 3) (d := some 24) (v := ?_) (hy := Or.inl ⟨by rfl, ?_⟩) (h := ?_)
                  rotate_left
                  · (intro w hSw; (try dsimp only at hSw); go_simp; (try with_reducible rfl))
                  (try simp only [Act.put, tkA, tkB, tkC])
                  refine tkH (i := 4) (d := some 25) (v := ?_) (hy := Or.inl ⟨by rfl, ?_⟩) (h := ?_)
                  rotate_left
                  · (intro w hSw; (try dsimp only at hSw); go_simp; (try with_reducible rfl))
                  (try simp only [Act.put, tkA, tkB, tkC])
                  refine tkH (i := 5) (d := some 26) (v := ?_) (hy := Or.inl ⟨by rfl, ?_⟩) (h := ?_)
                  rotate_left
                  · (intro w hSw; (try dsimp only at hSw); go_simp; (try with_reducible rfl))
                  (try simp only [Act.put, tkA, tkB, tkC])
                  refine tkH (i := 6) (d := some 27) (v := ?_) (hy := Or.inl ⟨by rfl, ?_⟩) (h := ?_)
                  rotate_left
                  · (intro w hSw; (try dsimp only at hSw); go_simp; (try with_reducible rfl))
                  (try simp only [Act.put, tkA, tkB, tkC])
                  refine tkH (i := 7) (d := some 28) (v := ?_) (hy := Or.inl ⟨by rfl, ?_⟩) (h := ?_)
                  rotate_left
                  · (intro w hSw; (try dsimp only at hSw); go_simp; (try with_reducible rfl))
                  (try simp only [Act.put, tkA, tkB, tkC])
                  refine tkH (i := 8) (d := some 29) (v := ?_) (hy := Or.inl ⟨by rfl, ?_⟩) (h := ?_)
                  rotate_left
                  · (intro w hSw; (try dsimp only at hSw); go_simp; (try with_reducible rfl))
                  (try simp only [Act.put, tkA, tkB, tkC])
                  refine tkH (i := 9) (d := some 30) (v := ?_) (hy := Or.inl ⟨by rfl, ?_⟩) (h := ?_)
                  rotate_left
                  · (intro w hSw; (try dsimp only at hSw); go_simp; (try with_reducible rfl))
                  (try simp only [Act.put, tkA, tkB, tkC])
                  refine tkH (i := 10) (d := some 31) (v := ?_) (hy := Or.inl ⟨by rfl, ?_⟩) (h := ?_)
                  rotate_left
                  · (intro w hSw; (try dsimp only at hSw); go_simp; (try with_reducible rfl))
                  (try simp only [Act.put, tkA, tkB, tkC])
                  refine tkH (i := 11) (d := some 32) (v := ?_) (hy := Or.inl ⟨by rfl, ?_⟩) (h := ?_)
                  rotate_left
                  · (intro w hSw; (try dsimp only at hSw); go_simp; (try with_reducible rfl))
                  (try simp only [Act.put, tkA, tkB, tkC])
                  refine tkH (i := 12) (d := some 33) (v := ?_) (hy := Or.inl ⟨by rfl, ?_⟩) (h := ?_)
                  rotate_left
                  · (intro w hSw; (try dsimp only at hSw); go_simp; (try with_reducible rfl))
                  (try simp only [Act.put, tkA, tkB, tkC])
                  refine tkH (i := 13) (d := some 34) (v := ?_) (hy := Or.inl ⟨by rfl, ?_⟩) (h := ?_)
                  rotate_left
                  · (intro w hSw; (try dsimp only at hSw); go_simp; (try with_reducible rfl))
                  (try simp only [Act.put, tkA, tkB, tkC])
                  refine tkH (i := 14) (d := some 35) (v := ?_) (hy := Or.inl ⟨by rfl, ?_⟩) (h := ?_)
                  rotate_left
                  · (intro w hSw; (try dsimp only at hSw); go_simp; (try with_reducible rfl))
                  (try simp only [Act.put, tkA, tkB, tkC])
                  refine tkH (i := 15) (d := some 36) (v := ?_) (hy := Or.inl ⟨by rfl, ?_⟩) (h := ?_)
                  rotate_left
                  · (intro w hSw; (try dsimp only at hSw); go_simp; (try with_reducible rfl))
                  (try simp only [Act.put, tkA, tkB, tkC])
                  refine tkH (i := 16) (d := some 37) (v := ?_) (hy := Or.inl ⟨by rfl, ?_⟩) (h := ?_)
                  rotate_left
                  · (intro w hSw; (try dsimp only at hSw); go_simp; (try with_reducible rfl))
                  (try simp only [Act.put, tkA, tkB, tkC])
                  refine tkH (i := 17) (d := some 38) (v := ?_) (hy := Or.inl ⟨by rfl, ?_⟩) (h := ?_)
                  rotate_left
                  · (intro w hSw; (try dsimp only at hSw); go_simp; (try with_reducible rfl))
                  (try simp only [Act.put, tkA, tkB, tkC])
                  refine tkH (i := 18) (d := some 39) (v := ?_) (hy := Or.inl ⟨by rfl, ?_⟩) (h := ?_)
                  rotate_left
                  · (intro w hSw; (try dsimp only at hSw); go_simp; (try with_reducible rfl))
                  (try simp only [Act.put, tkA, tkB, tkC])
                  refine tkH (i := 19) (d := some 40) (v := ?_) (hy := Or.inl ⟨by rfl, ?_⟩) (h := ?_)
                  rotate_left
                  · (intro w hSw; (try dsimp only at hSw); go_simp; (try with_reducible rfl))
                  (try simp only [Act.put, tkA, tkB, tkC])
                  refine tkH (i := 20) (d := some 41) (v := ?_) (hy := Or.inl ⟨by rfl, ?_⟩) (h := ?_)
                  rotate_left
                  · (intro w hSw; (try dsimp only at hSw); go_simp; (try with_reducible rfl))
                  (try simp only [Act.put, tkA, tkB, tkC])
                  refine tkH (i := 21) (d := some 42) (v := ?_) (hy := Or.inl ⟨by rfl, ?_⟩) (h := ?_)
                  rotate_left
                  · (intro w hSw; (try dsimp only at hSw); go_simp; (try with_reducible rfl))
                  (try simp only [Act.put, tkA, tkB, tkC])
                  refine tkH (i := 22) (d := some 43) (v := ?_) (hy := Or.inl ⟨by rfl, ?_⟩) (h := ?_)
                  rotate_left
                  · (intro w hSw; (try dsimp only at hSw); go_simp; (try with_reducible rfl))
                  (try simp only [Act.put, tkA, tkB, tkC])
                  refine tkH (i := 23) (d := some 44) (v := ?_) (hy := Or.inl ⟨by rfl, ?_⟩) (h := ?_)
                  rotate_left
                  · (intro w hSw; (try dsimp only at hSw); go_simp; (try with_reducible rfl))
                  (try simp only [Act.put, tkA, tkB, tkC])
                  refine tkH (i := 25) (d := some 46) (v := ?_) (hy := Or.inl ⟨by rfl, ?_⟩) (h := ?_)
                  rotate_left
                  · (intro w hSw; (try dsimp only at hSw); go_simp; (try with_reducible rfl))
                  (try simp only [Act.put, tkA, tkB, tkC])
                  refine tkH (i := 26) (d := some 47) (v := ?_) (hy := Or.inl ⟨by rfl, ?_⟩) (h := ?_)
                  rotate_left
                  · (intro w hSw; (try dsimp only at hSw); go_simp; (try with_reducible rfl))
                  (try simp only [Act.put, tkA, tkB, tkC])
                  refine wpAnyH_ready (rs := [24]) (by kernel_rfl) (by simp) ?_
                  refine AllReadyH.cons (i := 24) rfl (fun K hK => ?_) AllReadyH.nil
                  go_simp
                  go_at_call 205
                  refine (running_any X.f A n cap X.F s.runs j _ (hHeld.2.2.2.2.2.2.2.1) ((hslH.out.below (hb5H.out)).below (Below.refl _ _).drew) hn hgoH.out).mono ?_
                  rintro e w4 ⟨rfl, hb4⟩
                  rw [hbzH.out]
                  have hHeld := keep10 hb4 hHeld
                  have hb54 : Below wr.heap.size wr w4 := ((Below.refl wr.heap.size wr).alloc (Nat.le_refl _) _).drew.trans (hb4.mono (by simp))
                  clear hb4
                  have hb54H := Lib.hid hb54
                  clear hb54
                  refine hK.out _ _ hHeld (fun hHeld => ?_)
                  clear hK K
                  (try simp only [Act.put, List.setIfInBounds_toArray, List.set_cons_zero, List.set_cons_succ])
                  refine tkH (i := 27) (d := some 48) (v := ?_) (hy := Or.inl ⟨by rfl, ?_⟩) (h := ?_)
                  rotate_left
                  · (intro w hSw; (try dsimp only at hSw); go_simp; (try with_reducible rfl))
                  (try simp only [Act.put, tkA, tkB, tkC])
                  refine tkH (i := 28) (d := some 49) (v := ?_) (hy := Or.inl ⟨by rfl, ?_⟩) (h := ?_)
                  rotate_left
                  · (intro w hSw; (try dsimp only at hSw); go_simp; (try with_reducible rfl))
                  (try simp only [Act.put, tkA, tkB, tkC])
                  refine tkH (i := 29) (d := some 50) (v := ?_) (hy := Or.inl ⟨by rfl, ?_⟩) (h := ?_)
                  rotate_left
                  · (intro w hSw; (try dsimp only at hSw); go_simp; (try with_reducible rfl))
                  (try simp only [Act.put, tkA, tkB, tkC])
                  refine tkH (i := 30) (d := some 51) (v := ?_) (hy := Or.inl ⟨by rfl, ?_⟩) (h := ?_)
                  rotate_left
                  · (intro w hSw; (try dsimp only at hSw); go_simp; (try with_reducible rfl))
                  (try simp only [Act.put, tkA, tkB, tkC])
                  refine tkH (i := 31) (d := some 52) (v := ?_) (hy := Or.inl ⟨by rfl, ?_⟩) (h := ?_)
                  rotate_left
                  · (intro w hSw; (try dsimp only at hSw); go_simp; (try with_reducible rfl))
                  (try simp only [Act.put, tkA, tkB, tkC])
                  refine tkH (i := 32) (d := some 53) (v := ?_) (hy := Or.inl ⟨by rfl, ?_⟩) (h := ?_)
                  rotate_left
                  · (intro w hSw; (try dsimp only at hSw); go_simp; (try with_reducible rfl))
                  (try simp only [Act.put, tkA, tkB, tkC])
                  refine tkH (i := 33) (d := some 54) (v := ?_) (hy := Or.inl ⟨by rfl, ?_⟩) (h := ?_)
                  rotate_left
                  · (intro w hSw; (try dsimp only at hSw); go_simp; (try with_reducible rfl))
                  (try simp only [Act.put, tkA, tkB, tkC])
                  refine tkH (i := 34) (d := some 55) (v := ?_) (hy := Or.inl ⟨by rfl, ?_⟩) (h := ?_)
                  rotate_left
                  · (intro w hSw; (try dsimp only at hSw); go_simp; (try with_reducible rfl))
                  (try simp only [Act.put, tkA, tkB, tkC])
                  refine tkH (i := 35) (d := some 56) (v := ?_) (hy := Or.inl ⟨by rfl, ?_⟩) (h := ?_)
                  rotate_left
                  · (intro w hSw; (try dsimp only at hSw); go_simp; (try with_reducible rfl))
                  (try simp only [Act.put, tkA, tkB, tkC])
                  refine tkH (i := 36) (d := some 57) (v := ?_) (hy := Or.inl ⟨by rfl, ?_⟩) (h := ?_)
                  rotate_left
                  · (intro w hSw; (try dsimp only at hSw); go_simp; (try with_reducible rfl))
                  (try simp only [Act.put, tkA, tkB, tkC])
                  refine tkH (i := 37) (d := some 58) (v := ?_) (hy := Or.inl ⟨by rfl, ?_⟩) (h := ?_)
                  rotate_left
                  · (intro w hSw; (try dsimp only at hSw); go_simp; (try with_reducible rfl))
                  (try simp only [Act.put, tkA, tkB, tkC])
                  refine tkH (i := 38) (d := some 59) (v := ?_) (hy := Or.inl ⟨by rfl, ?_⟩) (h := ?_)
                  rotate_left
                  · (intro w hSw; (try dsimp only at hSw); go_simp; (try with_reducible rfl))
                  (try simp only [Act.put, tkA, tkB, tkC])
                  refine tkH (i := 39) (d := some 60) (v := ?_) (hy := Or.inl ⟨by rfl, ?_⟩) (h := ?_)
                  rotate_left
                  · (intro w hSw; (try dsimp only at hSw); go_simp; (try with_reducible rfl))
                  (try simp only [Act.put, tkA, tkB, tkC])
                  refine tkH (i := 40) (d := some 61) (v := ?_) (hy := Or.inl ⟨by rfl, ?_⟩) (h := ?_)
                  rotate_left
                  · (intro w hSw; (try dsimp only at hSw); go_simp; (try with_reducible rfl))
                  (try simp only [Act.put, tkA, tkB, tkC])
                  refine wpAnyH_ready (rs := [41]) (by kernel_rfl) (by simp) ?_
                  refine AllReadyH.cons (i := 41) rfl (fun K hK => ?_) AllReadyH.nil
                  go_simp
                  go_at_call 51
                  refine (fit_any z.needs.A z.needs.n z.needs.cap z.needs.l yh.A yh.n yh.cap yh.l _ (hznH.out.1.below (hbH.out.trans (hb54H.out.mono hbs))) (Nat.le_trans hznH.out.2.1 hznH.out.2.2.1) (hynH.out.1.below hb54H.out) (Nat.le_trans hynH.out.2.1 hynH.out.2.2.1) true hftH.out).mono ?_
                  rintro e w6 ⟨rfl, hb6⟩
                  have hHeld := keep10 hb6 hHeld
                  have hb56 := hb54H.out.trans (hb6.mono hb54H.out.size)
                  clear hb6
                  have hb56H := Lib.hid hb56
                  clear hb56
                  refine hK.out _ _ hHeld (fun hHeld => ?_)
                  clear hK K
                  (try simp only [Act.put, List.setIfInBounds_toArray, List.set_cons_zero, List.set_cons_succ])
                  refine tkH (i := 42) (d := some 63) (v := ?_) (hy := Or.inl ⟨by rfl, ?_⟩) (h := ?_)
                  rotate_left
                  · (intro w hSw; (try dsimp only at hSw); go_simp; (try with_reducible rfl))
                  (try simp only [Act.put, tkA, tkB, tkC])
                  refine tkH (i := 43) (d := some 64) (v := ?_) (hy := Or.inl ⟨by rfl, ?_⟩) (h := ?_)
                  rotate_left
                  · (intro w hSw; (try dsimp only at hSw); go_simp; (try with_reducible rfl))
                  (try simp only [Act.put, tkA, tkB, tkC])
                  refine wpAnyH_done (by kernel_rfl) ?_ _
                  clear hH0
                  obtain ⟨v0, v1, v2, v3, v4, v5, v6, v7, v8, v9⟩ := hHeld
                  go_wp2_with fail
                  go_quiet (fail)
                  go_wp2
                  refine ⟨?rel, ?measure⟩
                  case measure => (simp [intOf]; omega)
                  case rel => first | exact (RH.out _ (bel_drewN hb56H.out _)) | exact ⟨rfl, (RH.out _ (bel_drewN hb56H.out _))⟩ | ((try refine ⟨rfl, ?_⟩); (repeat apply Exists.intro); refine ⟨(RH.out _ (bel_drewN hb56H.out _)), ?_⟩; ((repeat' apply And.intro) <;> rfl))
                | some b0 =>
                  rw [hbo] at hstep hbv
                  obtain rfl : bv = (b0 : Int) := hbv.symm
                  clear hbv
                  have hb0N : b0 < N := by omega
                  obtain ⟨yb, hyb⟩ : ∃ y, X.x.workers.l[b0]? = some y := ⟨X.x.workers.l[b0]'(by have := n3H.out; omega), List.getElem?_eq_getElem _⟩
                  have kb := (hSH.out.wk hyb).2.2.2.1
                  obtain ⟨ybv, hybv⟩ : ∃ v, yb.speed = v := ⟨_, rfl⟩
                  rw [hybv] at kb
                  simp only [kb, k4] at hstep
                  have e0' : decide ((b0 : Int) < 0) = false := by simp
                  clear k4 kb
                  by_cases e5 : ybv < yv
                  · rw [if_pos e5] at hstep
                    have R : ∀ w', Below wr.heap.size wr w' → BestRel X.F ok N w (.int .i64 (j : Int)) (.int .i64 ((j : Int) + 1)) w' := fun w' hw' =>
                      ⟨j + 1, hlt, by go_num, by rw [hstep]; rfl, hb.trans (hw'.mono hbs)⟩
                    have e5' : decide (ybv < yv) = true := by simpa using e5
                    have hbH := Lib.hid hb
                    clear hb
                    have hyH := Lib.hid hy
                    clear hy
                    have hyoH := Lib.hid hyo
                    clear hyo
                    have hbaH := Lib.hid hba
                    clear hba
                    have hb5H := Lib.hid hb5
                    clear hb5
                    have hH0H := Lib.hid hH0
                    clear hH0
                    have hws'H := Lib.hid hws'
                    clear hws'
                    have hbzH := Lib.hid hbz
                    clear hbz
                    have hznH := Lib.hid hzn
                    clear hzn
                    have hynH := Lib.hid hyn
                    clear hyn
                    have hftH := Lib.hid hft
                    clear hft
                    have hstepH := Lib.hid hstep
                    clear hstep
                    have RH := Lib.hid R
                    clear R
                    have hybH := Lib.hid hyb
                    clear hyb
                    have hybvH := Lib.hid hybv
                    clear hybv
                    have hH0 := hH0H.out
                    clear hH0H
                    go_wp2_with fail
                    refine wp_region_held_drew (S := fun w' => w'.cell? ⟨X.f, 7, none⟩ = some (.int .i64 s.now) ∧ w'.cell? ⟨wr.heap.size, 4, none⟩ = some (.int .i64 yf) ∧ w'.cell? ⟨wr.heap.size, 5, none⟩ = some (.int .i64 yt) ∧ w'.cell? ⟨wr.heap.size, 2, none⟩ = some (.int .i64 ys) ∧ w'.cell? ⟨X.f, 1, none⟩ = some (.slice (some ⟨bx, ox, none⟩) X.x.works.n X.x.works.cap) ∧ w'.cell? ⟨bx, ox + i * 4 + 1, none⟩ = some (.slice z.needs.A z.needs.n z.needs.cap) ∧ w'.cell? ⟨wr.heap.size, 1, none⟩ = some (.slice yh.A yh.n yh.cap) ∧ w'.cell? ⟨X.f, 8, none⟩ = some (.slice A n cap) ∧ w'.cell? ⟨wr.heap.size, 3, none⟩ = some (.int .i64 yv) ∧ w'.cell? ⟨X.f, 0, none⟩ = some (.slice (some ⟨by_, oy, none⟩) N X.x.workers.cap)) (by kernel_rfl) hH0 (fun hHeld => ?_)
                    refine tkH (i := 0) (d := some 21) (v := ?_) (hy := Or.inl ⟨by rfl, ?_⟩) (h := ?_)
                    rotate_left
                    · (intro w hSw; (try dsimp only at hSw); go_simp; (try with_reducible rfl))
                    (try simp only [Act.put, tkA, tkB, tkC])
                    refine tkH (i := 1) (d := some 22) (v := ?_) (hy := Or.inl ⟨by rfl, ?_⟩) (h := ?_)
                    rotate_left
                    · (intro w hSw; (try dsimp only at hSw); go_simp; (try with_reducible rfl))
                    (try simp only [Act.put, tkA, tkB, tkC])
                    refine tkH (i := 2) (d := some 23) (v := ?_) (hy := Or.inl ⟨by rfl, ?_⟩) (h := ?_)
                    rotate_left
                    · (intro w hSw; (try dsimp only at hSw); go_simp; (try with_reducible rfl))
                    (try simp only [Act.put, tkA, tkB, tkC])
                    refine tkH (i := 3) (d := some 24) (v := ?_) (hy := Or.inl ⟨by rfl, ?_⟩) (h := ?_)
                    rotate_left
                    · (intro w hSw; (try dsimp only at hSw); go_simp; (try with_reducible rfl))
                    (try simp only [Act.put, tkA, tkB, tkC])
                    refine tkH (i := 4) (d := some 25) (v := ?_) (hy := Or.inl ⟨by rfl, ?_⟩) (h := ?_)
                    rotate_left
                    · (intro w hSw; (try dsimp only at hSw); go_simp; (try with_reducible rfl))
                    (try simp only [Act.put, tkA, tkB, tkC])
                    refine tkH (i := 5) (d := some 26) (v := ?_) (hy := Or.inl ⟨by rfl, ?_⟩) (h := ?_)
                    rotate_left
                    · (intro w hSw; (try dsimp only at hSw); go_simp; (try with_reducible rfl))
                    (try simp only [Act.put, tkA, tkB, tkC])
                    refine tkH (i := 6) (d := some 27) (v := ?_) (hy := Or.inl ⟨by rfl, ?_⟩) (h := ?_)
                    rotate_left
                    · (intro w hSw; (try dsimp only at hSw); go_simp; (try with_reducible rfl))
                    (try simp only [Act.put, tkA, tkB, tkC])
                    refine tkH (i := 7) (d := some 28) (v := ?_) (hy := Or.inl ⟨by rfl, ?_⟩) (h := ?_)
                    rotate_left
                    · (intro w hSw; (try dsimp only at hSw); go_simp; (try with_reducible rfl))
                    (try simp only [Act.put, tkA, tkB, tkC])
                    refine tkH (i := 8) (d := some 29) (v := ?_) (hy := Or.inl ⟨by rfl, ?_⟩) (h := ?_)
                    rotate_left
                    · (intro w hSw; (try dsimp only at hSw); go_simp; (try with_reducible rfl))
                    (try simp only [Act.put, tkA, tkB, tkC])
                    refine tkH (i := 9) (d := some 30) (v := ?_) (hy := Or.inl ⟨by rfl, ?_⟩) (h := ?_)
                    rotate_left
                    · (intro w hSw; (try dsimp only at hSw); go_simp; (try with_reducible rfl))
                    (try simp only [Act.put, tkA, tkB, tkC])
                    refine tkH (i := 10) (d := some 31) (v := ?_) (hy := Or.inl ⟨by rfl, ?_⟩) (h := ?_)
                    rotate_left
                    · (intro w hSw; (try dsimp only at hSw); go_simp; (try with_reducible rfl))
                    (try simp only [Act.put, tkA, tkB, tkC])
                    refine tkH (i := 11) (d := some 32) (v := ?_) (hy := Or.inl ⟨by rfl, ?_⟩) (h := ?_)
                    rotate_left
                    · (intro w hSw; (try dsimp only at hSw); go_simp; (try with_reducible rfl))
                    (try simp only [Act.put, tkA, tkB, tkC])
                    refine tkH (i := 12) (d := some 33) (v := ?_) (hy := Or.inl ⟨by rfl, ?_⟩) (h := ?_)
                    rotate_left
                    · (intro w hSw; (try dsimp only at hSw); go_simp; (try with_reducible rfl))
                    (try simp only [Act.put, tkA, tkB, tkC])
                    refine tkH (i := 13) (d := some 34) (v := ?_) (hy := Or.inl ⟨by rfl, ?_⟩) (h := ?_)
                    rotate_left
                    · (intro w hSw; (try dsimp only at hSw); go_simp; (try with_reducible rfl))
                    (try simp only [Act.put, tkA, tkB, tkC])
                    refine tkH (i := 14) (d := some 35) (v := ?_) (hy := Or.inl ⟨by rfl, ?_⟩) (h := ?_)
                    rotate_left
                    · (intro w hSw; (try dsimp only at hSw); go_simp; (try with_reducible rfl))
                    (try simp only [Act.put, tkA, tkB, tkC])
                    refine tkH (i := 15) (d := some 36) (v := ?_) (hy := Or.inl ⟨by rfl, ?_⟩) (h := ?_)
                    rotate_left
                    · (intro w hSw; (try dsimp only at hSw); go_simp; (try with_reducible rfl))
                    (try simp only [Act.put, tkA, tkB, tkC])
                    refine tkH (i := 16) (d := some 37) (v := ?_) (hy := Or.inl ⟨by rfl, ?_⟩) (h := ?_)
                    rotate_left
                    · (intro w hSw; (try dsimp only at hSw); go_simp; (try with_reducible rfl))
                    (try simp only [Act.put, tkA, tkB, tkC])
                    refine tkH (i := 17) (d := some 38) (v := ?_) (hy := Or.inl ⟨by rfl, ?_⟩) (h := ?_)
                    rotate_left
                    · (intro w hSw; (try dsimp only at hSw); go_simp; (try with_reducible rfl))
                    (try simp only [Act.put, tkA, tkB, tkC])
                    refine tkH (i := 18) (d := some 39) (v := ?_) (hy := Or.inl ⟨by rfl, ?_⟩) (h := ?_)
                    rotate_left
                    · (intro w hSw; (try dsimp only at hSw); go_simp; (try with_reducible rfl))
                    (try simp only [Act.put, tkA, tkB, tkC])
                    refine tkH (i := 19) (d := some 40) (v := ?_) (hy := Or.inl ⟨by rfl, ?_⟩) (h := ?_)
                    rotate_left
                    · (intro w hSw; (try dsimp only at hSw); go_simp; (try with_reducible rfl))
                    (try simp only [Act.put, tkA, tkB, tkC])
                    refine tkH (i := 20) (d := some 41) (v := ?_) (hy := Or.inl ⟨by rfl, ?_⟩) (h := ?_)
                    rotate_left
                    · (intro w hSw; (try dsimp only at hSw); go_simp; (try with_reducible rfl))
                    (try simp only [Act.put, tkA, tkB, tkC])
                    refine tkH (i := 21) (d := some 42) (v := ?_) (hy := Or.inl ⟨by rfl, ?_⟩) (h := ?_)
                    rotate_left
                    · (intro w hSw; (try dsimp only at hSw); go_simp; (try with_reducible rfl))
                    (try simp only [Act.put, tkA, tkB, tkC])
                    refine tkH (i := 22) (d := some 43) (v := ?_) (hy := Or.inl ⟨by rfl, ?_⟩) (h := ?_)
                    rotate_left
                    · (intro w hSw; (try dsimp only at hSw); go_simp; (try with_reducible rfl))
                    (try simp only [Act.put, tkA, tkB, tkC])
                    refine tkH (i := 23) (d := some 44) (v := ?_) (hy := Or.inl ⟨by rfl, ?_⟩) (h := ?_)
                    rotate_left
                    · (intro w hSw; (try dsimp only at hSw); go_simp; (try with_reducible rfl))
                    (try simp only [Act.put, tkA, tkB, tkC])
                    refine tkH (i := 25) (d := some 46) (v := ?_) (hy := Or.inl ⟨by rfl, ?_⟩) (h := ?_)
                    rotate_left
                    · (intro w hSw; (try dsimp only at hSw); go_simp; (try with_reducible rfl))
                    (try simp only [Act.put, tkA, tkB, tkC])
                    refine tkH (i := 26) (d := some 47) (v := ?_) (hy := Or.inl ⟨by rfl, ?_⟩) (h := ?_)
                    rotate_left
                    · (intro w hSw; (try dsimp only at hSw); go_simp; (try with_reducible rfl))
                    (try simp only [Act.put, tkA, tkB, tkC])
                    refine wpAnyH_ready (rs := [24]) (by kernel_rfl) (by simp) ?_
                    refine AllReadyH.cons (i := 24) rfl (fun K hK => ?_) AllReadyH.nil
                    go_simp
                    go_at_call 205
                    refine (running_any X.f A n cap X.F s.runs j _ (hHeld.2.2.2.2.2.2.2.1) ((hslH.out.below (hb5H.out)).below (Below.refl _ _).drew) hn hgoH.out).mono ?_
                    rintro e w4 ⟨rfl, hb4⟩
                    rw [hbzH.out]
                    have hHeld := keep10 hb4 hHeld
                    have hb54 : Below wr.heap.size wr w4 := ((Below.refl wr.heap.size wr).alloc (Nat.le_refl _) _).drew.trans (hb4.mono (by simp))
                    clear hb4
                    have hb54H := Lib.hid hb54
                    clear hb54
                    refine hK.out _ _ hHeld (fun hHeld => ?_)
                    clear hK K
                    (try simp only [Act.put, List.setIfInBounds_toArray, List.set_cons_zero, List.set_cons_succ])
                    refine tkH (i := 27) (d := some 48) (v := ?_) (hy := Or.inl ⟨by rfl, ?_⟩) (h := ?_)
                    rotate_left
                    · (intro w hSw; (try dsimp only at hSw); go_simp; (try with_reducible rfl))
                    (try simp only [Act.put, tkA, tkB, tkC])
                    refine tkH (i := 28) (d := some 49) (v := ?_) (hy := Or.inl ⟨by rfl, ?_⟩) (h := ?_)
                    rotate_left
                    · (intro w hSw; (try dsimp only at hSw); go_simp; (try with_reducible rfl))
                    (try simp only [Act.put, tkA, tkB, tkC])
                    refine tkH (i := 29) (d := some 50) (v := ?_) (hy := Or.inl ⟨by rfl, ?_⟩) (h := ?_)
                    rotate_left
                    · (intro w hSw; (try dsimp only at hSw); go_simp; (try with_reducible rfl))
                    (try simp only [Act.put, tkA, tkB, tkC])
                    refine tkH (i := 30) (d := some 51) (v := ?_) (hy := Or.inl ⟨by rfl, ?_⟩) (h := ?_)
                    rotate_left
                    · (intro w hSw; (try dsimp only at hSw); go_simp; (try with_reducible rfl))
                    (try simp only [Act.put, tkA, tkB, tkC])
                    refine tkH (i := 31) (d := some 52) (v := ?_) (hy := Or.inl ⟨by rfl, ?_⟩) (h := ?_)
                    rotate_left
                    · (intro w hSw; (try dsimp only at hSw); go_simp; (try with_reducible rfl))
                    (try simp only [Act.put, tkA, tkB, tkC])
                    refine tkH (i := 32) (d := some 53) (v := ?_) (hy := Or.inl ⟨by rfl, ?_⟩) (h := ?_)
                    rotate_left
                    · (intro w hSw; (try dsimp only at hSw); go_simp; (try with_reducible rfl))
                    (try simp only [Act.put, tkA, tkB, tkC])
                    refine tkH (i := 33) (d := some 54) (v := ?_) (hy := Or.inl ⟨by rfl, ?_⟩) (h := ?_)
                    rotate_left
                    · (intro w hSw; (try dsimp only at hSw); go_simp; (try with_reducible rfl))
                    (try simp only [Act.put, tkA, tkB, tkC])
                    refine tkH (i := 34) (d := some 55) (v := ?_) (hy := Or.inl ⟨by rfl, ?_⟩) (h := ?_)
                    rotate_left
                    · (intro w hSw; (try dsimp only at hSw); go_simp; (try with_reducible rfl))
                    (try simp only [Act.put, tkA, tkB, tkC])
                    refine tkH (i := 35) (d := some 56) (v := ?_) (hy := Or.inl ⟨by rfl, ?_⟩) (h := ?_)
                    rotate_left
                    · (intro w hSw; (try dsimp only at hSw); go_simp; (try with_reducible rfl))
                    (try simp only [Act.put, tkA, tkB, tkC])
                    refine tkH (i := 36) (d := some 57) (v := ?_) (hy := Or.inl ⟨by rfl, ?_⟩) (h := ?_)
                    rotate_left
                    · (intro w hSw; (try dsimp only at hSw); go_simp; (try with_reducible rfl))
                    (try simp only [Act.put, tkA, tkB, tkC])
                    refine tkH (i := 37) (d := some 58) (v := ?_) (hy := Or.inl ⟨by rfl, ?_⟩) (h := ?_)
                    rotate_left
                    · (intro w hSw; (try dsimp only at hSw); go_simp; (try with_reducible rfl))
                    (try simp only [Act.put, tkA, tkB, tkC])
                    refine tkH (i := 38) (d := some 59) (v := ?_) (hy := Or.inl ⟨by rfl, ?_⟩) (h := ?_)
                    rotate_left
                    · (intro w hSw; (try dsimp only at hSw); go_simp; (try with_reducible rfl))
                    (try simp only [Act.put, tkA, tkB, tkC])
                    refine tkH (i := 39) (d := some 60) (v := ?_) (hy := Or.inl ⟨by rfl, ?_⟩) (h := ?_)
                    rotate_left
                    · (intro w hSw; (try dsimp only at hSw); go_simp; (try with_reducible rfl))
                    (try simp only [Act.put, tkA, tkB, tkC])
                    refine tkH (i := 40) (d := some 61) (v := ?_) (hy := Or.inl ⟨by rfl, ?_⟩) (h := ?_)
                    rotate_left
                    · (intro w hSw; (try dsimp only at hSw); go_simp; (try with_reducible rfl))
                    (try simp only [Act.put, tkA, tkB, tkC])
                    refine wpAnyH_ready (rs := [41]) (by kernel_rfl) (by simp) ?_
                    refine AllReadyH.cons (i := 41) rfl (fun K hK => ?_) AllReadyH.nil
                    go_simp
                    go_at_call 51
                    refine (fit_any z.needs.A z.needs.n z.needs.cap z.needs.l yh.A yh.n yh.cap yh.l _ (hznH.out.1.below (hbH.out.trans (hb54H.out.mono hbs))) (Nat.le_trans hznH.out.2.1 hznH.out.2.2.1) (hynH.out.1.below hb54H.out) (Nat.le_trans hynH.out.2.1 hynH.out.2.2.1) true hftH.out).mono ?_
                    rintro e w6 ⟨rfl, hb6⟩
                    have hHeld := keep10 hb6 hHeld
                    have hb56 := hb54H.out.trans (hb6.mono hb54H.out.size)
                    clear hb6
                    have hb56H := Lib.hid hb56
                    clear hb56
                    refine hK.out _ _ hHeld (fun hHeld => ?_)
                    clear hK K
                    (try simp only [Act.put, List.setIfInBounds_toArray, List.set_cons_zero, List.set_cons_succ])
                    refine tkH (i := 42) (d := some 63) (v := ?_) (hy := Or.inl ⟨by rfl, ?_⟩) (h := ?_)
                    rotate_left
                    · (intro w hSw; (try dsimp only at hSw); go_simp; (try with_reducible rfl))
                    (try simp only [Act.put, tkA, tkB, tkC])
                    refine tkH (i := 43) (d := some 64) (v := ?_) (hy := Or.inl ⟨by rfl, ?_⟩) (h := ?_)
                    rotate_left
                    · (intro w hSw; (try dsimp only at hSw); go_simp; (try with_reducible rfl))
                    (try simp only [Act.put, tkA, tkB, tkC])
                    refine wpAnyH_done (by kernel_rfl) ?_ _
                    clear hH0
                    obtain ⟨v0, v1, v2, v3, v4, v5, v6, v7, v8, v9⟩ := hHeld
                    have y3 := (cells_Worker (hwsH.out.below (hbH.out.trans (hb56H.out.mono hbs))) hybH.out).2.2.2.1
                    rw [hybvH.out] at y3
                    go_wp2_with fail
                    go_quiet (fail)
                    go_wp2
                    refine ⟨?rel, ?measure⟩
                    case measure => (simp [intOf]; omega)
                    case rel => first | exact (RH.out _ (bel_drewN hb56H.out _)) | exact ⟨rfl, (RH.out _ (bel_drewN hb56H.out _))⟩ | ((try refine ⟨rfl, ?_⟩); (repeat apply Exists.intro); refine ⟨(RH.out _ (bel_drewN hb56H.out _)), ?_⟩; ((repeat' apply And.intro) <;> rfl))
                  · rw [if_neg e5] at hstep
                    have R : ∀ w', Below wr.heap.size wr w' → BestRel X.F ok N w (.int .i64 (b0 : Int)) (.int .i64 ((j : Int) + 1)) w' := fun w' hw' =>
                      ⟨j + 1, hlt, by go_num, by rw [hstep]; rfl, hb.trans (hw'.mono hbs)⟩
                    have e5' : decide (ybv < yv) = false := by simpa using e5
                    have hbH := Lib.hid hb
                    clear hb
                    have hyH := Lib.hid hy
                    clear hy
                    have hyoH := Lib.hid hyo
                    clear hyo
                    have hbaH := Lib.hid hba
                    clear hba
                    have hb5H := Lib.hid hb5
                    clear hb5
                    have hH0H := Lib.hid hH0
                    clear hH0
                    have hws'H := Lib.hid hws'
                    clear hws'
                    have hbzH := Lib.hid hbz
                    clear hbz
                    have hznH := Lib.hid hzn
                    clear hzn
                    have hynH := Lib.hid hyn
                    clear hyn
                    have hftH := Lib.hid hft
                    clear hft
                    have hstepH := Lib.hid hstep
                    clear hstep
                    have RH := Lib.hid R
                    clear R
                    have hybH := Lib.hid hyb
                    clear hyb
                    have hybvH := Lib.hid hybv
                    clear hybv
                    have hH0 := hH0H.out
                    clear hH0H
                    go_wp2_with fail
                    refine wp_region_held_drew (S := fun w' => w'.cell? ⟨X.f, 7, none⟩ = some (.int .i64 s.now) ∧ w'.cell? ⟨wr.heap.size, 4, none⟩ = some (.int .i64 yf) ∧ w'.cell? ⟨wr.heap.size, 5, none⟩ = some (.int .i64 yt) ∧ w'.cell? ⟨wr.heap.size, 2, none⟩ = some (.int .i64 ys) ∧ w'.cell? ⟨X.f, 1, none⟩ = some (.slice (some ⟨bx, ox, none⟩) X.x.works.n X.x.works.cap) ∧ w'.cell? ⟨bx, ox + i * 4 + 1, none⟩ = some (.slice z.needs.A z.needs.n z.needs.cap) ∧ w'.cell? ⟨wr.heap.size, 1, none⟩ = some (.slice yh.A yh.n yh.cap) ∧ w'.cell? ⟨X.f, 8, none⟩ = some (.slice A n cap) ∧ w'.cell? ⟨wr.heap.size, 3, none⟩ = some (.int .i64 yv) ∧ w'.cell? ⟨X.f, 0, none⟩ = some (.slice (some ⟨by_, oy, none⟩) N X.x.workers.cap)) (by kernel_rfl) hH0 (fun hHeld => ?_)
                    refine tkH (i := 0) (d := some 21) (v := ?_) (hy := Or.inl ⟨by rfl, ?_⟩) (h := ?_)
                    rotate_left
                    · (intro w hSw; (try dsimp only at hSw); go_simp; (try with_reducible rfl))
                    (try simp only [Act.put, tkA, tkB, tkC])
                    refine tkH (i := 1) (d := some 22) (v := ?_) (hy := Or.inl ⟨by rfl, ?_⟩) (h := ?_)
                    rotate_left
                    · (intro w hSw; (try dsimp only at hSw); go_simp; (try with_reducible rfl))
                    (try simp only [Act.put, tkA, tkB, tkC])
                    refine tkH (i := 2) (d := some 23) (v := ?_) (hy := Or.inl ⟨by rfl, ?_⟩) (h := ?_)
                    rotate_left
                    · (intro w hSw; (try dsimp only at hSw); go_simp; (try with_reducible rfl))
                    (try simp only [Act.put, tkA, tkB, tkC])
                    refine tkH (i := 3) (d := some 24) (v := ?_) (hy := Or.inl ⟨by rfl, ?_⟩) (h := ?_)
                    rotate_left
                    · (intro w hSw; (try dsimp only at hSw); go_simp; (try with_reducible rfl))
                    (try simp only [Act.put, tkA, tkB, tkC])
                    refine tkH (i := 4) (d := some 25) (v := ?_) (hy := Or.inl ⟨by rfl, ?_⟩) (h := ?_)
                    rotate_left
                    · (intro w hSw; (try dsimp only at hSw); go_simp; (try with_reducible rfl))
                    (try simp only [Act.put, tkA, tkB, tkC])
                    refine tkH (i := 5) (d := some 26) (v := ?_) (hy := Or.inl ⟨by rfl, ?_⟩) (h := ?_)
                    rotate_left
                    · (intro w hSw; (try dsimp only at hSw); go_simp; (try with_reducible rfl))
                    (try simp only [Act.put, tkA, tkB, tkC])
                    refine tkH (i := 6) (d := some 27) (v := ?_) (hy := Or.inl ⟨by rfl, ?_⟩) (h := ?_)
                    rotate_left
                    · (intro w hSw; (try dsimp only at hSw); go_simp; (try with_reducible rfl))
                    (try simp only [Act.put, tkA, tkB, tkC])
                    refine tkH (i := 7) (d := some 28) (v := ?_) (hy := Or.inl ⟨by rfl, ?_⟩) (h := ?_)
                    rotate_left
                    · (intro w hSw; (try dsimp only at hSw); go_simp; (try with_reducible rfl))
                    (try simp only [Act.put, tkA, tkB, tkC])
                    refine tkH (i := 8) (d := some 29) (v := ?_) (hy := Or.inl ⟨by rfl, ?_⟩) (h := ?_)
                    rotate_left
                    · (intro w hSw; (try dsimp only at hSw); go_simp; (try with_reducible rfl))
                    (try simp only [Act.put, tkA, tkB, tkC])
                    refine tkH (i := 9) (d := some 30) (v := ?_) (hy := Or.inl ⟨by rfl, ?_⟩) (h := ?_)
                    rotate_left
                    · (intro w hSw; (try dsimp only at hSw); go_simp; (try with_reducible rfl))
                    (try simp only [Act.put, tkA, tkB, tkC])
                    refine tkH (i := 10) (d := some 31) (v := ?_) (hy := Or.inl ⟨by rfl, ?_⟩) (h := ?_)
                    rotate_left
                    · (intro w hSw; (try dsimp only at hSw); go_simp; (try with_reducible rfl))
                    (try simp only [Act.put, tkA, tkB, tkC])
                    refine tkH (i := 11) (d := some 32) (v := ?_) (hy := Or.inl ⟨by rfl, ?_⟩) (h := ?_)
                    rotate_left
                    · (intro w hSw; (try dsimp only at hSw); go_simp; (try with_reducible rfl))
                    (try simp only [Act.put, tkA, tkB, tkC])
                    refine tkH (i := 12) (d := some 33) (v := ?_) (hy := Or.inl ⟨by rfl, ?_⟩) (h := ?_)
                    rotate_left
                    · (intro w hSw; (try dsimp only at hSw); go_simp; (try with_reducible rfl))
                    (try simp only [Act.put, tkA, tkB, tkC])
                    refine tkH (i := 13) (d := some 34) (v := ?_) (hy := Or.inl ⟨by rfl, ?_⟩) (h := ?_)
                    rotate_left
                    · (intro w hSw; (try dsimp only at hSw); go_simp; (try with_reducible rfl))
                    (try simp only [Act.put, tkA, tkB, tkC])
                    refine tkH (i := 14) (d := some 35) (v := ?_) (hy := Or.inl ⟨by rfl, ?_⟩) (h := ?_)
                    rotate_left
                    · (intro w hSw; (try dsimp only at hSw); go_simp; (try with_reducible rfl))
                    (try simp only [Act.put, tkA, tkB, tkC])
                    refine tkH (i := 15) (d := some 36) (v := ?_) (hy := Or.inl ⟨by rfl, ?_⟩) (h := ?_)
                    rotate_left
                    · (intro w hSw; (try dsimp only at hSw); go_simp; (try with_reducible rfl))
                    (try simp only [Act.put, tkA, tkB, tkC])
                    refine tkH (i := 16) (d := some 37) (v := ?_) (hy := Or.inl ⟨by rfl, ?_⟩) (h := ?_)
                    rotate_left
                    · (intro w hSw; (try dsimp only at hSw); go_simp; (try with_reducible rfl))
                    (try simp only [Act.put, tkA, tkB, tkC])
                    refine tkH (i := 17) (d := some 38) (v := ?_) (hy := Or.inl ⟨by rfl, ?_⟩) (h := ?_)
                    rotate_left
                    · (intro w hSw; (try dsimp only at hSw); go_simp; (try with_reducible rfl))
                    (try simp only [Act.put, tkA, tkB, tkC])
                    refine tkH (i := 18) (d := some 39) (v := ?_) (hy := Or.inl ⟨by rfl, ?_⟩) (h := ?_)
                    rotate_left
                    · (intro w hSw; (try dsimp only at hSw); go_simp; (try with_reducible rfl))
                    (try simp only [Act.put, tkA, tkB, tkC])
                    refine tkH (i := 19) (d := some 40) (v := ?_) (hy := Or.inl ⟨by rfl, ?_⟩) (h := ?_)
                    rotate_left
                    · (intro w hSw; (try dsimp only at hSw); go_simp; (try with_reducible rfl))
                    (try simp only [Act.put, tkA, tkB, tkC])
                    refine tkH (i := 20) (d := some 41) (v := ?_) (hy := Or.inl ⟨by rfl, ?_⟩) (h := ?_)
                    rotate_left
                    · (intro w hSw; (try dsimp only at hSw); go_simp; (try with_reducible rfl))
                    (try simp only [Act.put, tkA, tkB, tkC])
                    refine tkH (i := 21) (d := some 42) (v := ?_) (hy := Or.inl ⟨by rfl, ?_⟩) (h := ?_)
                    rotate_left
                    · (intro w hSw; (try dsimp only at hSw); go_simp; (try with_reducible rfl))
                    (try simp only [Act.put, tkA, tkB, tkC])
                    refine tkH (i := 22) (d := some 43) (v := ?_) (hy := Or.inl ⟨by rfl, ?_⟩) (h := ?_)
                    rotate_left
                    · (intro w hSw; (try dsimp only at hSw); go_simp; (try with_reducible rfl))
                    (try simp only [Act.put, tkA, tkB, tkC])
                    refine tkH (i := 23) (d := some 44) (v := ?_) (hy := Or.inl ⟨by rfl, ?_⟩) (h := ?_)
                    rotate_left
                    · (intro w hSw; (try dsimp only at hSw); go_simp; (try with_reducible rfl))
                    (try simp only [Act.put, tkA, tkB, tkC])
                    refine tkH (i := 25) (d := some 46) (v := ?_) (hy := Or.inl ⟨by rfl, ?_⟩) (h := ?_)
                    rotate_left
                    · (intro w hSw; (try dsimp only at hSw); go_simp; (try with_reducible rfl))
                    (try simp only [Act.put, tkA, tkB, tkC])
                    refine tkH (i := 26) (d := some 47) (v := ?_) (hy := Or.inl ⟨by rfl, ?_⟩) (h := ?_)
                    rotate_left
                    · (intro w hSw; (try dsimp only at hSw); go_simp; (try with_reducible rfl))
                    (try simp only [Act.put, tkA, tkB, tkC])
                    refine wpAnyH_ready (rs := [24]) (by kernel_rfl) (by simp) ?_
                    refine AllReadyH.cons (i := 24) rfl (fun K hK => ?_) AllReadyH.nil
                    go_simp
                    go_at_call 205
                    refine (running_any X.f A n cap X.F s.runs j _ (hHeld.2.2.2.2.2.2.2.1) ((hslH.out.below (hb5H.out)).below (Below.refl _ _).drew) hn hgoH.out).mono ?_
                    rintro e w4 ⟨rfl, hb4⟩
                    rw [hbzH.out]
                    have hHeld := keep10 hb4 hHeld
                    have hb54 : Below wr.heap.size wr w4 := ((Below.refl wr.heap.size wr).alloc (Nat.le_refl _) _).drew.trans (hb4.mono (by simp))
                    clear hb4
                    have hb54H := Lib.hid hb54
                    clear hb54
                    refine hK.out _ _ hHeld (fun hHeld => ?_)
                    clear hK K
                    (try simp only [Act.put, List.setIfInBounds_toArray, List.set_cons_zero, List.set_cons_succ])
                    refine tkH (i := 27) (d := some 48) (v := ?_) (hy := Or.inl ⟨by rfl, ?_⟩) (h := ?_)
                    rotate_left
                    · (intro w hSw; (try dsimp only at hSw); go_simp; (try with_reducible rfl))
                    (try simp only [Act.put, tkA, tkB, tkC])
                    refine tkH (i := 28) (d := some 49) (v := ?_) (hy := Or.inl ⟨by rfl, ?_⟩) (h := ?_)
                    rotate_left
                    · (intro w hSw; (try dsimp only at hSw); go_simp; (try with_reducible rfl))
                    (try simp only [Act.put, tkA, tkB, tkC])
                    refine tkH (i := 29) (d := some 50) (v := ?_) (hy := Or.inl ⟨by rfl, ?_⟩) (h := ?_)
                    rotate_left
                    · (intro w hSw; (try dsimp only at hSw); go_simp; (try with_reducible rfl))
                    (try simp only [Act.put, tkA, tkB, tkC])
                    refine tkH (i := 30) (d := some 51) (v := ?_) (hy := Or.inl ⟨by rfl, ?_⟩) (h := ?_)
                    rotate_left
                    · (intro w hSw; (try dsimp only at hSw); go_simp; (try with_reducible rfl))
                    (try simp only [Act.put, tkA, tkB, tkC])
                    refine tkH (i := 31) (d := some 52) (v := ?_) (hy := Or.inl ⟨by rfl, ?_⟩) (h := ?_)
                    rotate_left
                    · (intro w hSw; (try dsimp only at hSw); go_simp; (try with_reducible rfl))
                    (try simp only [Act.put, tkA, tkB, tkC])
                    refine tkH (i := 32) (d := some 53) (v := ?_) (hy := Or.inl ⟨by rfl, ?_⟩) (h := ?_)
                    rotate_left
                    · (intro w hSw; (try dsimp only at hSw); go_simp; (try with_reducible rfl))
                    (try simp only [Act.put, tkA, tkB, tkC])
                    refine tkH (i := 33) (d := some 54) (v := ?_) (hy := Or.inl ⟨by rfl, ?_⟩) (h := ?_)
                    rotate_left
                    · (intro w hSw; (try dsimp only at hSw); go_simp; (try with_reducible rfl))
                    (try simp only [Act.put, tkA, tkB, tkC])
                    refine tkH (i := 34) (d := some 55) (v := ?_) (hy := Or.inl ⟨by rfl, ?_⟩) (h := ?_)
                    rotate_left
                    · (intro w hSw; (try dsimp only at hSw); go_simp; (try with_reducible rfl))
                    (try simp only [Act.put, tkA, tkB, tkC])
                    refine tkH (i := 35) (d := some 56) (v := ?_) (hy := Or.inl ⟨by rfl, ?_⟩) (h := ?_)
                    rotate_left
                    · (intro w hSw; (try dsimp only at hSw); go_simp; (try with_reducible rfl))
                    (try simp only [Act.put, tkA, tkB, tkC])
                    refine tkH (i := 36) (d := some 57) (v := ?_) (hy := Or.inl ⟨by rfl, ?_⟩) (h := ?_)
                    rotate_left
                    · (intro w hSw; (try dsimp only at hSw); go_simp; (try with_reducible rfl))
                    (try simp only [Act.put, tkA, tkB, tkC])
                    refine tkH (i := 37) (d := some 58) (v := ?_) (hy := Or.inl ⟨by rfl, ?_⟩) (h := ?_)
                    rotate_left
                    · (intro w hSw; (try dsimp only at hSw); go_simp; (try with_reducible rfl))
                    (try simp only [Act.put, tkA, tkB, tkC])
                    refine tkH (i := 38) (d := some 59) (v := ?_) (hy := Or.inl ⟨by rfl, ?_⟩) (h := ?_)
                    rotate_left
                    · (intro w hSw; (try dsimp only at hSw); go_simp; (try with_reducible rfl))
                    (try simp only [Act.put, tkA, tkB, tkC])
                    refine tkH (i := 39) (d := some 60) (v := ?_) (hy := Or.inl ⟨by rfl, ?_⟩) (h := ?_)
                    rotate_left
                    · (intro w hSw; (try dsimp only at hSw); go_simp; (try with_reducible rfl))
                    (try simp only [Act.put, tkA, tkB, tkC])
                    refine tkH (i := 40) (d := some 61) (v := ?_) (hy := Or.inl ⟨by rfl, ?_⟩) (h := ?_)
                    rotate_left
                    · (intro w hSw; (try dsimp only at hSw); go_simp; (try with_reducible rfl))
                    (try simp only [Act.put, tkA, tkB, tkC])
                    refine wpAnyH_ready (rs := [41]) (by kernel_rfl) (by simp) ?_
                    refine AllReadyH.cons (i := 41) rfl (fun K hK => ?_) AllReadyH.nil
                    go_simp
                    go_at_call 51
                    refine (fit_any z.needs.A z.needs.n z.needs.cap z.needs.l yh.A yh.n yh.cap yh.l _ (hznH.out.1.below (hbH.out.trans (hb54H.out.mono hbs))) (Nat.le_trans hznH.out.2.1 hznH.out.2.2.1) (hynH.out.1.below hb54H.out) (Nat.le_trans hynH.out.2.1 hynH.out.2.2.1) true hftH.out).mono ?_
                    rintro e w6 ⟨rfl, hb6⟩
                    have hHeld := keep10 hb6 hHeld
                    have hb56 := hb54H.out.trans (hb6.mono hb54H.out.size)
                    clear hb6
                    have hb56H := Lib.hid hb56
                    clear hb56
                    refine hK.out _ _ hHeld (fun hHeld => ?_)
                    clear hK K
                    (try simp only [Act.put, List.setIfInBounds_toArray, List.set_cons_zero, List.set_cons_succ])
                    refine tkH (i := 42) (d := some 63) (v := ?_) (hy := Or.inl ⟨by rfl, ?_⟩) (h := ?_)
                    rotate_left
                    · (intro w hSw; (try dsimp only at hSw); go_simp; (try with_reducible rfl))
                    (try simp only [Act.put, tkA, tkB, tkC])
                    refine tkH (i := 43) (d := some 64) (v := ?_) (hy := Or.inl ⟨by rfl, ?_⟩) (h := ?_)
                    rotate_left
                    · (intro w hSw; (try dsimp only at hSw); go_simp; (try with_reducible rfl))
                    (try simp only [Act.put, tkA, tkB, tkC])
                    refine wpAnyH_done (by kernel_rfl) ?_ _
                    clear hH0
                    obtain ⟨v0, v1, v2, v3, v4, v5, v6, v7, v8, v9⟩ := hHeld
                    have y3 := (cells_Worker (hwsH.out.below (hbH.out.trans (hb56H.out.mono hbs))) hybH.out).2.2.2.1
                    rw [hybvH.out] at y3
                    go_wp2_with fail
                    go_quiet (fail)
                    go_wp2
                    refine ⟨?rel, ?measure⟩
                    case measure => (simp [intOf]; omega)
                    case rel => first | exact (RH.out _ (bel_drewN hb56H.out _)) | exact ⟨rfl, (RH.out _ (bel_drewN hb56H.out _))⟩ | ((try refine ⟨rfl, ?_⟩); (repeat apply Exists.intro); refine ⟨(RH.out _ (bel_drewN hb56H.out _)), ?_⟩; ((repeat' apply And.intro) <;> rfl))
    · obtain rfl : j = N := by omega
      have hbH := Lib.hid hb
      clear hb
      go_wp2
      go_ret
      exact ⟨rfl, hbH.out⟩
end Go.Proofs.YtbnkoefljcekbaaGreatDoor.C9

namespace Go.Proofs.YtbnkoefljcekbaaGreatDoor.C9
open Go.RowKit
set_option linter.unusedVariables false

def sizeF (x : Worker) (sz : Int) : Int := if workerF x = 0 then (if inR 1 1000000 sz = true then 0 else 1) else workerF x
def secondsR (x : Worker) (sz : Int) : Int × Int := if sizeF x sz = 0 then (secsF x sz, 0) else (0, sizeF x sz)
theorem standsErr_in : ∀ (l : List Span) (p : Option Int), standsErr p l = 0 → SpansIn l
  | [], _, _ => fun s h => by cases h
  | s :: r, p, h => by
    rw [standsErr] at h
    by_cases h0 : inR 0 1000000000 s.from_ = true
    · by_cases h1 : inR 0 1000000000 s.to_ = true
      · rw [if_pos h0, if_pos h1] at h
        split at h
        · cases h
        · split at h
          · cases h
          · intro y hy
            rcases List.mem_cons.1 hy with rfl | hy
            · exact ⟨inR_true h0, inR_true h1⟩
            · exact standsErr_in r _ h y hy
      · rw [if_pos h0, if_neg h1] at h; cases h
    · rw [if_neg h0] at h; cases h
theorem worker_good {x : Worker} (h : workerF x = 0) : (1 ≤ x.speed ∧ x.speed ≤ 1000) ∧ (0 ≤ x.from_ ∧ x.from_ ≤ 1000000000) ∧ (0 ≤ x.to_ ∧ x.to_ ≤ 1000000000) ∧ SpansIn x.stands.l := by
  unfold workerF at h
  split at h
  · split at h
    · split at h
      · rename_i h3
        split at h
        · cases h
        · unfold standsF at h
          split at h
          · exact ⟨inR_true h3.2.1, inR_true h3.2.2.1, inR_true h3.2.2.2, standsErr_in _ _ h⟩
          · cases h
      · cases h
    · rename_i h2
      exact absurd h h2
  · cases h
theorem size_good {x : Worker} {sz : Int} (h : sizeF x sz = 0) : workerF x = 0 ∧ 1 ≤ sz ∧ sz ≤ 1000000 := by
  unfold sizeF at h
  split at h
  · rename_i h0
    split at h
    · rename_i h1
      exact ⟨h0, inR_true h1⟩
    · cases h
  · rename_i h0
    exact absurd h h0

theorem ok_below {w w' : World} {x : Worker} (hb : Below w.heap.size w w') (h : RWorker.ok w x) : RWorker.ok w' x := RWorker.mono _ _ _ hb h

theorem wcells {w w1 : World} (x : Worker) (hb : Below (w.alloc (.cells #[.string x.name, .slice x.has.A x.has.n x.has.cap, .int .i64 x.slots, .int .i64 x.speed, .int .i64 x.from_, .int .i64 x.to_, .slice x.stands.A x.stands.n x.stands.cap] 84)).heap.size (w.alloc (.cells #[.string x.name, .slice x.has.A x.has.n x.has.cap, .int .i64 x.slots, .int .i64 x.speed, .int .i64 x.from_, .int .i64 x.to_, .slice x.stands.A x.stands.n x.stands.cap] 84)) w1) :
    w1.cell? ⟨w.heap.size, 0, none⟩ = some (.string x.name) ∧ w1.cell? ⟨w.heap.size, 1, none⟩ = some (.slice x.has.A x.has.n x.has.cap) ∧ w1.cell? ⟨w.heap.size, 2, none⟩ = some (.int .i64 x.slots) ∧
    w1.cell? ⟨w.heap.size, 3, none⟩ = some (.int .i64 x.speed) ∧ w1.cell? ⟨w.heap.size, 4, none⟩ = some (.int .i64 x.from_) ∧ w1.cell? ⟨w.heap.size, 5, none⟩ = some (.int .i64 x.to_) ∧ w1.cell? ⟨w.heap.size, 6, none⟩ = some (.slice x.stands.A x.stands.n x.stands.cap) :=
  ⟨(hb.cell (by simp)).trans (cell_new w _ _ 0), (hb.cell (by simp)).trans (cell_new w _ _ 1), (hb.cell (by simp)).trans (cell_new w _ _ 2), (hb.cell (by simp)).trans (cell_new w _ _ 3), (hb.cell (by simp)).trans (cell_new w _ _ 4), (hb.cell (by simp)).trans (cell_new w _ _ 5), (hb.cell (by simp)).trans (cell_new w _ _ 6)⟩

set_option maxHeartbeats 1000000 in
theorem size_any (x : Worker) (sz : Int) (w : World) (hok : RWorker.ok w x) (c : Int) (hF : sizeF x sz = c) :
    Calls Tryz.prog 93 #[.agg #[.string x.name, .slice x.has.A x.has.n x.has.cap, .int .i64 x.slots, .int .i64 x.speed, .int .i64 x.from_, .int .i64 x.to_, .slice x.stands.A x.stands.n x.stands.cap], .int .i64 sz] w fun e w' => e = .returned (.int .i64 c) ∧ Below w.heap.size w w' := by
  unfold sizeF at hF
  obtain ⟨d, hd⟩ : ∃ d, workerF x = d := ⟨_, rfl⟩
  rw [hd] at hF
  have hba := (Below.refl w.heap.size w).alloc (Nat.le_refl _) (.cells #[.string x.name, .slice x.has.A x.has.n x.has.cap, .int .i64 x.slots, .int .i64 x.speed, .int .i64 x.from_, .int .i64 x.to_, .slice x.stands.A x.stands.n x.stands.cap] 84)
  have hok0 := ok_below hba hok
  have hokH := Lib.hid hok
  clear hok
  have hdH := Lib.hid hd
  clear hd
  have hFH := Lib.hid hF
  clear hF
  have hbaH := Lib.hid hba
  clear hba
  have hok0H := Lib.hid hok0
  clear hok0
  go_enter Tryz.func93, Tryz.ntmps93
  go_wp2_with fail
  refine (worker_any x _ hok0H.out d hdH.out).mono ?_
  rintro e w1 ⟨rfl, hw1⟩
  obtain ⟨q0, q1, q2, q3, q4, q5, q6⟩ := wcells x hw1
  have hb1 := hbaH.out.trans (hw1.mono hbaH.out.size)
  clear hw1
  have hb1H := Lib.hid hb1
  clear hb1
  by_cases e0 : d = 0
  · subst e0
    have hF := hFH.out
    clear hFH
    by_cases i0 : inR 1 1000000 sz = true
    · rw [if_pos rfl, if_pos i0] at hF
      subst hF
      go_wp2_with (go_at_call 43; refine (within_p _ _ _ _).mono ?_; rintro e wz ⟨rfl, rfl⟩)
      go_ret
      exact ⟨rfl, hb1H.out⟩
    · rw [if_pos rfl, if_neg i0] at hF
      subst hF
      have i0 : inR 1 1000000 sz = false := by simpa using i0
      go_wp2_with (go_at_call 43; refine (within_p _ _ _ _).mono ?_; rintro e wz ⟨rfl, rfl⟩)
      go_ret
      exact ⟨rfl, hb1H.out⟩
  · have hF := hFH.out
    clear hFH
    rw [if_neg e0] at hF
    subst hF
    have e1 : (d != 0) = true := by simpa using e0
    go_wp2
    go_ret
    exact ⟨rfl, hb1H.out⟩

set_option maxHeartbeats 1000000 in
theorem seconds_any (x : Worker) (sz : Int) (w : World) (hok : RWorker.ok w x) (a b : Int) (hF : secondsR x sz = (a, b)) :
    Calls Tryz.prog 48 #[.agg #[.string x.name, .slice x.has.A x.has.n x.has.cap, .int .i64 x.slots, .int .i64 x.speed, .int .i64 x.from_, .int .i64 x.to_, .slice x.stands.A x.stands.n x.stands.cap], .int .i64 sz] w fun e w' => e = .returned (.tuple #[.int .i64 a, .int .i64 b]) ∧ Below w.heap.size w w' := by
  unfold secondsR at hF
  obtain ⟨d, hd⟩ : ∃ d, sizeF x sz = d := ⟨_, rfl⟩
  rw [hd] at hF
  have hba := (Below.refl w.heap.size w).alloc (Nat.le_refl _) (.cells #[.string x.name, .slice x.has.A x.has.n x.has.cap, .int .i64 x.slots, .int .i64 x.speed, .int .i64 x.from_, .int .i64 x.to_, .slice x.stands.A x.stands.n x.stands.cap] 84)
  have hok0 := ok_below hba hok
  have hokH := Lib.hid hok
  clear hok
  have hdH := Lib.hid hd
  clear hd
  have hFH := Lib.hid hF
  clear hF
  have hbaH := Lib.hid hba
  clear hba
  have hok0H := Lib.hid hok0
  clear hok0
  go_enter Tryz.func48, Tryz.ntmps48
  go_wp2_with fail
  refine (size_any x sz _ hok0H.out d hdH.out).mono ?_
  rintro e w1 ⟨rfl, hw1⟩
  obtain ⟨q0, q1, q2, q3, q4, q5, q6⟩ := wcells x hw1
  have hb1 := hbaH.out.trans (hw1.mono hbaH.out.size)
  clear hw1
  have hb1H := Lib.hid hb1
  clear hb1
  have hF := hFH.out
  clear hFH
  by_cases e0 : d = 0
  · subst e0
    obtain ⟨g0, g1, g2⟩ := size_good hdH.out
    obtain ⟨⟨g3, g4⟩, _⟩ := worker_good g0
    rw [if_pos rfl, Prod.mk.injEq] at hF
    obtain ⟨hs, rfl⟩ := hF
    clear g0
    have hsH := Lib.hid hs
    clear hs
    go_wp2_with fail
    refine (secs x sz _ g1 g2 g3 g4 a hsH.out).mono ?_
    rintro e w2 ⟨rfl, hb2⟩
    have hbb := hb1H.out.trans (hb2.mono hb1H.out.size)
    have hb2H := Lib.hid hb2
    clear hb2
    have hbbH := Lib.hid hbb
    clear hbb
    go_wp2
    go_ret2
    exact ⟨rfl, hbbH.out⟩
  · rw [if_neg e0, Prod.mk.injEq] at hF
    obtain ⟨rfl, rfl⟩ := hF
    have e1 : (d != 0) = true := by simpa using e0
    go_wp2
    go_ret2
    exact ⟨rfl, hb1H.out⟩

def wAwake : Worker := ⟨⟨#[97]⟩, ⟨none, 0, 0, []⟩, 1, 2, 0, 1, ⟨none, 0, 0, []⟩⟩
theorem slAt_nil {α : Type} (R : Rd α) (w : World) : (RSl R).ok w ⟨none, 0, 0, []⟩ :=
  ⟨⟨rfl, fun h => absurd h (Nat.lt_irrefl 0), fun x hx => by cases hx⟩, Nat.le_refl _, Nat.zero_le _, fun _ => rfl⟩
theorem wAwake_ok (w : World) : RWorker.ok w wAwake := by
  refine ⟨?_, slAt_nil _ w, ?_, ?_, ?_, ?_, slAt_nil _ w⟩
  · show ByteArray.size ⟨#[97]⟩ ≤ maxLen
    decide +kernel
  all_goals exact ⟨by decide, by decide⟩
theorem wAwake_F : secondsR wAwake 3 = (2, 0) := by decide +kernel

theorem awake_any (w : World) : Calls Tryz.prog 15 #[] w fun e w' => e = .returned (.bool true) ∧ Below w.heap.size w w' := by
  go_enter Tryz.func15, Tryz.ntmps15
  go_wp2_with fail
  refine (seconds_any wAwake 3 _ (wAwake_ok _) 2 0 wAwake_F).mono ?_
  rintro e w' ⟨rfl, hb⟩
  go_wp2
  go_ret
  exact ⟨rfl, by first | exact hb | exact (Below.refl _ _).alloc (Nat.le_refl _) _ |>.trans (hb.mono (by simp))⟩
end Go.Proofs.YtbnkoefljcekbaaGreatDoor.C9
