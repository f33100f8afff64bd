/-
 Several texts of mine as one, without what is not wanted here: XInsI, XSymI.
-/
import Derived.Test.YtbnkoefljcekbaaGreatDoorRbGg
import Derived.Test.YtbnkoefljcekbaaGreatDoorShelf
import Derived.Test.YtbnkoefljcekbaaGreatDoorRbAC9
namespace Go.Proofs.YtbnkoefljcekbaaGreatDoor.C9
open Go.ChangeShapes Go.WideShapes Go.Deep Go.RowKit
set_option linter.unusedVariables false

theorem cmpI_lt {a b : Int} : Lib.compareInt a b < 0 ↔ a < b := by unfold Lib.compareInt; split <;> (try split) <;> omega
theorem crAt_val {C : CC} {w : World} (h : CrAt C w) {x : Int} (hx : InC C x) : w.cell? ⟨C.cb, x.toNat, none⟩ = some (.int .i64 (vC C x)) := by
 have hl : x.toNat < C.l.length := by have := hx.1; have := hx.2; omega
 refine h.at_ x.toNat _ ?_
 unfold vC
 rw [List.getD_eq_getElem?_getD, List.getElem?_eq_getElem hl]; rfl
set_option maxRecDepth 100000 in
set_option maxHeartbeats 4000000 in
theorem cmp_any (C : CC) (x y : Int) (w : World) (v : Int) (hc : CrAt C w) (hx : InC C x) (hy : InC C y) (hv : Lib.compareInt (vC C y) (vC C x) = v) :
  Calls Tryz.prog 159 #[.int .i64 x, .int .i64 y, .pointer (some ⟨C.pc, 0, none⟩)] w fun e w' => e = .returned (.int .i64 v) ∧ Below w.heap.size w w' := by
 have h0 := hc.hd
 obtain ⟨X, rfl⟩ : ∃ n : Nat, x = (n : Int) := ⟨x.toNat, by have := hx.1; omega⟩
 obtain ⟨Y, rfl⟩ : ∃ n : Nat, y = (n : Int) := ⟨y.toNat, by have := hy.1; omega⟩
 have h1 := crAt_val hc hx
 have h2 := crAt_val hc hy
 simp only [Int.toNat_natCast] at h1 h2
 have k1 : (0 : Int) ≤ (X : Int) := by omega
 have k2 : (X : Int) < (C.l.length : Int) := hx.2
 have k3 : (0 : Int) ≤ (Y : Int) := by omega
 have k4 : (Y : Int) < (C.l.length : Int) := hy.2
 obtain ⟨pc, hpc⟩ : ∃ a, C.pc = a := ⟨_, rfl⟩
 obtain ⟨cb, hcb⟩ : ∃ a, C.cb = a := ⟨_, rfl⟩
 obtain ⟨cn, hcn⟩ : ∃ a, C.l.length = a := ⟨_, rfl⟩
 obtain ⟨cc, hcc⟩ : ∃ a, C.cap = a := ⟨_, rfl⟩
 obtain ⟨vx, hvx⟩ : ∃ a, vC C (X : Int) = a := ⟨_, rfl⟩
 obtain ⟨vy, hvy⟩ : ∃ a, vC C (Y : Int) = a := ⟨_, rfl⟩
 rw [hpc, hcb, hcn, hcc] at h0
 rw [hcb, hvx] at h1
 rw [hcb, hvy] at h2
 rw [hcn] at k2 k4
 rw [hvx, hvy] at hv
 rw [hpc]
 clear hx hy hc hpc hcb hcn hcc hvx hvy
 have hvH := Lib.hid hv
 clear hv
 go_enter Tryz.func159, Tryz.ntmps159
 go_wp2_with fail
 go_region_held3 (fun w' => w'.cell? ⟨pc, 0, none⟩ = some (.slice (some ⟨cb, 0, none⟩) cn cc) ∧ w'.cell? ⟨cb, X, none⟩ = some (.int .i64 vx) ∧ w'.cell? ⟨cb, Y, none⟩ = some (.int .i64 vy)) (go_keep)
  (first | (go_at_call 41; refine (Tryz.cmp_Compare_int _ _ _).mono ?_; rw [hvH.out]; rintro e w1 ⟨rfl, hw1⟩; rw [hw1]; clear hw1))
 go_wp2
 go_ret
 exact ⟨rfl, (Below.refl _ _).drew⟩
theorem get_mid {P M S : List Int} {x : Int} {i : Nat} (h : P.length = i) : (P ++ x :: M)[i]? = some x := by
 subst h; rw [List.getElem?_append_right (Nat.le_refl _), Nat.sub_self]; rfl
def gI (C : CC) : Value := .func (.func 159) #[] #[.pointer (some ⟨C.pc, 0, none⟩)]
def InO (C : CC) (P M S : List Int) (a b off n : Nat) (w0 : World) (i : Value) (wr : World) : Prop :=
 ∃ (k : Nat) (M1 : List Int), 1 ≤ k ∧ k ≤ M.length ∧ i = .int .i64 ((a : Int) + (k : Int)) ∧ M1.length = k ∧ SortedBy (fI C) M1 ∧ SameCls (fI C) M1 (M.take k) ∧ RowI C wr b off n (P ++ M1 ++ M.drop k ++ S) ∧ Srt b w0 wr
def InI (C : CC) (P M1 D S : List Int) (x : Int) (a b off n : Nat) (w0 : World) (j : Value) (wr : World) : Prop :=
 ∃ (A B : List Int), j = .int .i64 ((a : Int) + (A.length : Int)) ∧ M1 = A ++ B ∧ (∀ y ∈ B, (fI C) x < (fI C) y) ∧ RowI C wr b off n (P ++ A ++ x :: B ++ D ++ S) ∧ Srt b w0 wr
theorem ins_step (C : CC) {A B : List Int} {x : Int} {T : List Int} (hs : SortedBy (fI C) (A ++ B)) (hA : ∀ y, A.getLast? = some y → (fI C) y ≤ (fI C) x) (hB : ∀ y ∈ B, (fI C) x < (fI C) y) (hT : SameCls (fI C) (A ++ B) T) : SortedBy (fI C) (A ++ x :: B) ∧ SameCls (fI C) (A ++ x :: B) (T ++ [x]) := by
 have hA2 : ∀ z ∈ A, (fI C) z ≤ (fI C) x := fun z hz => by
  obtain ⟨l, hl⟩ : ∃ l, A.getLast? = some l := by
   cases h : A.getLast? with
   | none => rw [List.getLast?_eq_none_iff] at h; subst h; cases hz
   | some l => exact ⟨l, rfl⟩
  obtain ⟨i, hi⟩ := List.getLast?_eq_some_iff.1 hl
  have := hA l hl
  rw [hi] at hz
  rcases List.mem_append.1 hz with hz | hz
  ·have hs2 := sorted_left hs
   rw [hi] at hs2
   have := sorted_cross hs2 z hz l (by simp)
   omega
  ·rw [List.mem_singleton.1 hz]; exact this
 refine ⟨sorted_app (sorted_left hs) (List.pairwise_cons.2 ⟨fun y hy => Int.le_of_lt (hB y hy), sorted_right hs⟩) fun u hu v hv => ?_, ?_⟩
 ·rcases List.mem_cons.1 hv with rfl | hv
  ·exact hA2 u hu
  ·exact sorted_cross hs u hu v hv
 ·have e1 : SameCls (fI C) ([x] ++ B) (B ++ [x]) := same_swap fun u hu y hy => by rw [List.mem_singleton.1 hu]; have := hB y hy; omega
  have e2 := (SameCls.refl (f := fI C) A).app e1
  have e3 := hT.app (SameCls.refl (f := fI C) [x])
  intro v
  have := e2 v
  have h3 := e3 v
  rw [show A ++ x :: B = A ++ ([x] ++ B) from rfl, this, ← h3, List.append_assoc]
set_option maxRecDepth 100000 in
set_option maxHeartbeats 8000000 in
theorem insertion_any (C : CC) (b off n cap : Nat) (P M S : List Int) (a e : Nat) (w : World) (hP : P.length = a) (he : e = a + M.length) (hn : n ≤ 1000000000) (hrow : RowI C w b off n (P ++ M ++ S)) :
  Calls Tryz.prog 222 #[.slice (some ⟨b, off, none⟩) n cap, .int .i64 a, .int .i64 e, (gI C)] w fun e w' => e = .returned (.tuple #[]) ∧ ∃ M', SortedBy (fI C) M' ∧ SameCls (fI C) M' M ∧ RowI C w' b off n (P ++ M' ++ S) ∧ Srt b w w' := by
 have hlen := hrow.sl.1
 simp only [List.length_append] at hlen
 have hen : e ≤ n := by omega
 have hae : a ≤ e := by omega
 unfold gI
 by_cases hM0 : M.length = 0
 ·obtain rfl : M = [] := List.eq_nil_of_length_eq_zero hM0
  have hea : e = a := by simpa using he
  subst hea
  clear hM0 he
  have hrowH := Lib.hid hrow
  clear hrow
  have hlenH := Lib.hid hlen
  clear hlen
  have hPH := Lib.hid hP
  clear hP
  go_enter Tryz.func222, Tryz.ntmps222
  go_wp2_with fail
  refine wp_loop_rounds 1 ?_
  rw [rounds_succ]
  go_wp2
  go_end0
  exact ⟨rfl, [], List.Pairwise.nil, SameCls.refl _, hrowH.out, World.grownBy.refl _ _⟩
 ·have hstart : InO C P M S a b off n w (.int .i64 ((a : Int) + 1)) w := by
   refine ⟨1, M.take 1, Nat.le_refl _, by omega, by go_num, by rw [List.length_take]; omega, ?_, SameCls.refl _, ?_, World.grownBy.refl _ _⟩
   ·cases M with
    | nil => exact absurd rfl hM0
    | cons z r => simp [SortedBy]
   ·rw [List.append_assoc P, List.take_append_drop]; exact hrow
  have hrowH := Lib.hid hrow
  clear hrow
  have hlenH := Lib.hid hlen
  clear hlen
  have hPH := Lib.hid hP
  clear hP
  have hstartH := Lib.hid hstart
  clear hstart
  have heH := Lib.hid he
  clear he
  go_enter Tryz.func222, Tryz.ntmps222
  go_wp2_with fail
  go_loopw [8] (fun i wr => InO C P M S a b off n w i wr) (fun i _ => e - (intOf i).toNat)
  case atStart => exact hstartH.out
  case round =>
   clear hstartH
   obtain ⟨k, M1, hk1, hkM, rfl, hMl, hso, hcl, hrw, hs⟩ := hrel
   have hake : a + k ≤ e := by have := heH.out; omega
   by_cases hlt : a + k < e
   ·have hkM2 : k + 1 ≤ M.length := by have := heH.out; omega
    have hltz : (a : Int) + (k : Int) < (e : Int) := by omega
    obtain ⟨x, hx⟩ : ∃ x, M[k]? = some x := ⟨M[k], List.getElem?_eq_getElem _⟩
    rw [drop_cons hx] at hrw
    have hin : InI C P M1 (M.drop (k + 1)) S x a b off n wr (.int .i64 ((a : Int) + (k : Int))) wr := ⟨M1, [], by rw [hMl], by simp, fun y hy => (by cases hy), by simpa using hrw, World.grownBy.refl _ _⟩
    obtain ⟨wa, rfl⟩ : ∃ W, W = wr := ⟨_, rfl⟩
    have hMlH := Lib.hid hMl
    clear hMl
    have hsoH := Lib.hid hso
    clear hso
    have hclH := Lib.hid hcl
    clear hcl
    have hrwH := Lib.hid hrw
    clear hrw
    have hsH := Lib.hid hs
    clear hs
    have hxH := Lib.hid hx
    clear hx
    have hinH := Lib.hid hin
    clear hin
    go_wp2_with fail
    go_loopw [9] (fun j wr => InI C P M1 (M.drop (k + 1)) S x a b off n wa j wr) (fun j _ => (intOf j).toNat)
    case atStart => exact hinH.out
    case round =>
     clear hinH hrwH
     obtain ⟨A, B, rfl, hM1, hBx, hrw2, hs2⟩ := hrel
     have hMl := hMlH.out
     have hso := hsoH.out
     have hcl := hclH.out
     have hs := hsH.out
     have hx := hxH.out
     rw [hM1] at hso hcl
     by_cases hA0 : A = []
     ·subst hA0
      have R1 : ∀ nq, InO C P M S a b off n w (.int .i64 ((a : Int) + (k : Int) + 1)) (wr.drewN nq) := by
       intro nq
       have hst := ins_step C (A := []) (B := B) (T := M.take k) hso (fun y hy => (by cases hy)) hBx hcl
       have R1 : InO C P M S a b off n w (.int .i64 ((a : Int) + (k : Int) + 1)) (wr.drewN nq) := by
        refine ⟨k + 1, [] ++ x :: B, by omega, hkM2, by go_num, by rw [hM1] at hMl; simp only [List.length_append, List.length_cons] at hMl ⊢; omega, hst.1, ?_, by simpa using (hrw2.below (bel_drewN (Below.refl _ _) nq)), (hs.trans hs2).trans (Srt.of_below (bel_drewN (Below.refl _ _) nq))⟩
        rw [List.take_add_one, hx]
        exact hst.2
       exact R1
      have j0 : (a : Int) + (([] : List Int).length : Int) = (a : Int) := by simp
      rw [j0]
      clear hso hcl hMl hs hx hM1
      have R1H := Lib.hid R1
      clear R1
      have hBxH := Lib.hid hBx
      clear hBx
      have hrw2H := Lib.hid hrw2
      clear hrw2
      have hs2H := Lib.hid hs2
      clear hs2
      have j0H := Lib.hid j0
      clear j0
      go_wp2_with fail
      go_quiet (fail)
      go_wp2
      refine ⟨?rel, ?measure⟩
      case measure => (simp [intOf]; omega)
      case rel => first | exact (R1H.out _) | exact ⟨rfl, (R1H.out _)⟩ | ((try refine ⟨rfl, ?_⟩); (repeat apply Exists.intro); refine ⟨(R1H.out _), ?_⟩; ((repeat' apply And.intro) <;> rfl))
     ·obtain ⟨A0, y, rfl⟩ : ∃ A0 y, A = A0 ++ [y] := ⟨A.dropLast, A.getLast hA0, (List.dropLast_concat_getLast hA0).symm⟩
      obtain ⟨jj, hjj⟩ : ∃ jj, a + A0.length = jj := ⟨_, rfl⟩
      have j0 : (a : Int) + ((A0 ++ [y]).length : Int) = (jj : Int) + 1 := by rw [List.length_append, List.length_singleton]; omega
      rw [j0]
      have hd : P ++ (A0 ++ [y]) ++ x :: B ++ M.drop (k + 1) ++ S = (P ++ A0) ++ y :: [] ++ x :: (B ++ M.drop (k + 1) ++ S) := by simp
      rw [hd] at hrw2
      have hgy : ((P ++ A0) ++ y :: [] ++ x :: (B ++ M.drop (k + 1) ++ S))[jj]? = some y := by rw [List.append_assoc]; exact get_mid (S := []) (by rw [List.length_append]; have := hPH.out; omega)
      have hgx : ((P ++ A0) ++ y :: [] ++ x :: (B ++ M.drop (k + 1) ++ S))[jj + 1]? = some x := get_mid (S := []) (by simp only [List.length_append, List.length_cons, List.length_nil]; have := hPH.out; omega)
      have hjn : jj + 1 < n := by
       have := hrw2.sl.1
       have h2 := (List.getElem?_eq_some_iff.1 hgx).1
       omega
      have x0 := hrw2.at_ hgx
      have y0 := hrw2.at_ hgy
      obtain ⟨v, hv⟩ : ∃ v, Lib.compareInt (vC C y) (vC C x) = v := ⟨_, rfl⟩
      have hvl : v < 0 ↔ (vC C y) < (vC C x) := by rw [← hv]; exact cmpI_lt
      have hw1 : IntKind.i64.wrap ((jj : Int) + 1 - 1) = (jj : Int) := by rw [IntKind.wrap_i64]; omega
      have haj : a ≤ jj := by omega
      have k0 : (0 : Int) ≤ (jj : Int) := by omega
      have k1 : (jj : Int) + 1 < (n : Int) := by omega
      have k2 : (jj : Int) < (n : Int) := by omega
      have k3 : (0 : Int) ≤ (jj : Int) + 1 := by omega
      have k4 : ((jj : Int) + 1).toNat = jj + 1 := by omega
      have k5 : (a : Int) < (jj : Int) + 1 := by omega
      have hw2 : IntKind.i64.wrap (jj : Int) = (jj : Int) := by rw [IntKind.wrap_i64]; omega
      have k6 : ¬ (jj : Int) < 0 := by omega
      clear hs hx
      have hMlH := Lib.hid hMl
      clear hMl
      have hsoH := Lib.hid hso
      clear hso
      have hclH := Lib.hid hcl
      clear hcl
      have hM1H := Lib.hid hM1
      clear hM1
      have hBxH := Lib.hid hBx
      clear hBx
      have hs2H := Lib.hid hs2
      clear hs2
      have j0H := Lib.hid j0
      clear j0
      have hdH := Lib.hid hd
      clear hd
      have hgyH := Lib.hid hgy
      clear hgy
      have hgxH := Lib.hid hgx
      clear hgx
      have hjjH := Lib.hid hjj
      clear hjj
      have hvlH := Lib.hid hvl
      clear hvl
      have hvH := Lib.hid hv
      clear hv
      have hrw2H := Lib.hid hrw2
      clear hrw2
      go_wp2_with fail
      refine wp_region_held_drew (S := (fun w' => w'.cell? ⟨b, off + (jj + 1), none⟩ = some (.int .i64 x) ∧ w'.cell? ⟨b, off + jj, none⟩ = some (.int .i64 y))) (by kernel_rfl) ⟨x0, y0⟩ (fun hHeld => ?_)
      clear x0 y0
      refine tkH (i := 0) (d := some 18) (v := ?_) (hy := Or.inl ⟨by rfl, ?_⟩) (h := ?_)
      rotate_left
      ·(intro w hSw; (try dsimp only at hSw); go_simp; (try with_reducible rfl))
      (try simp only [Act.put, tkA, tkB, tkC])
      refine tkH (i := 1) (d := some 19) (v := ?_) (hy := Or.inl ⟨by rfl, ?_⟩) (h := ?_)
      rotate_left
      ·(intro w hSw; (try dsimp only at hSw); go_simp; (try with_reducible rfl))
      (try simp only [Act.put, tkA, tkB, tkC])
      refine tkH (i := 2) (d := some 20) (v := ?_) (hy := Or.inl ⟨by rfl, ?_⟩) (h := ?_)
      rotate_left
      ·(intro w hSw; (try dsimp only at hSw); go_simp; (try with_reducible rfl))
      (try simp only [Act.put, tkA, tkB, tkC])
      refine tkH (i := 3) (d := some 21) (v := ?_) (hy := Or.inl ⟨by rfl, ?_⟩) (h := ?_)
      rotate_left
      ·(intro w hSw; (try dsimp only at hSw); go_simp; (try with_reducible rfl))
      (try simp only [Act.put, tkA, tkB, tkC])
      refine tkH (i := 4) (d := some 22) (v := ?_) (hy := Or.inl ⟨by rfl, ?_⟩) (h := ?_)
      rotate_left
      ·(intro w hSw; (try dsimp only at hSw); go_simp; (try with_reducible rfl))
      (try simp only [Act.put, tkA, tkB, tkC])
      refine tkH (i := 5) (d := some 23) (v := ?_) (hy := Or.inl ⟨by rfl, ?_⟩) (h := ?_)
      rotate_left
      ·(intro w hSw; (try dsimp only at hSw); go_simp; (try with_reducible rfl))
      (try simp only [Act.put, tkA, tkB, tkC])
      refine tkH (i := 6) (d := some 24) (v := ?_) (hy := Or.inl ⟨by rfl, ?_⟩) (h := ?_)
      rotate_left
      ·(intro w hSw; (try dsimp only at hSw); go_simp; (try with_reducible rfl))
      (try simp only [Act.put, tkA, tkB, tkC])
      refine tkH (i := 7) (d := some 25) (v := ?_) (hy := Or.inl ⟨by rfl, ?_⟩) (h := ?_)
      rotate_left
      ·(intro w hSw; (try dsimp only at hSw); go_simp; (try with_reducible rfl))
      (try simp only [Act.put, tkA, tkB, tkC])
      refine tkH (i := 8) (d := some 26) (v := ?_) (hy := Or.inl ⟨by rfl, ?_⟩) (h := ?_)
      rotate_left
      ·(intro w hSw; (try dsimp only at hSw); go_simp; (try with_reducible rfl))
      (try simp only [Act.put, tkA, tkB, tkC])
      refine tkH (i := 9) (d := some 27) (v := ?_) (hy := Or.inl ⟨by rfl, ?_⟩) (h := ?_)
      rotate_left
      ·(intro w hSw; (try dsimp only at hSw); go_simp; (try with_reducible rfl))
      (try simp only [Act.put, tkA, tkB, tkC])
      refine tkH (i := 10) (d := some 28) (v := ?_) (hy := Or.inl ⟨by rfl, ?_⟩) (h := ?_)
      rotate_left
      ·(intro w hSw; (try dsimp only at hSw); go_simp; (try with_reducible rfl))
      (try simp only [Act.put, tkA, tkB, tkC])
      refine tkH (i := 11) (d := some 29) (v := ?_) (hy := Or.inl ⟨by rfl, ?_⟩) (h := ?_)
      rotate_left
      ·(intro w hSw; (try dsimp only at hSw); go_simp; (try with_reducible rfl))
      (try simp only [Act.put, tkA, tkB, tkC])
      refine tkH (i := 12) (d := some 30) (v := ?_) (hy := Or.inl ⟨by rfl, ?_⟩) (h := ?_)
      rotate_left
      ·(intro w hSw; (try dsimp only at hSw); go_simp; (try with_reducible rfl))
      (try simp only [Act.put, tkA, tkB, tkC])
      refine tkH (i := 13) (d := some 31) (v := ?_) (hy := Or.inl ⟨by rfl, ?_⟩) (h := ?_)
      rotate_left
      ·(intro w hSw; (try dsimp only at hSw); go_simp; (try with_reducible rfl))
      (try simp only [Act.put, tkA, tkB, tkC])
      refine wpAnyH_ready (rs := [14]) (by kernel_rfl) (by simp) ?_
      refine AllReadyH.cons (i := 14) rfl (fun K hK => ?_) AllReadyH.nil
      go_simp
      go_at_call 159
      refine (cmp_any C x y _ v (hrw2H.out.cr.below (Below.refl _ _).drew) (hrw2H.out.in_ hgxH.out) (hrw2H.out.in_ hgyH.out) hvH.out).mono ?_
      rintro e w2 ⟨rfl, hb2⟩
      have hb2a : Below wr.heap.size wr w2 := by first | exact hb2 | exact (Below.refl _ _).drew.trans hb2
      replace hHeld := keep2i hb2 hHeld
      have hHeld2 := hHeld
      have hrw3 := hrw2H.out.below hb2a
      have hs3 := hs2H.out.trans (Srt.of_below hb2a)
      clear hb2 hb2a
      have hrw3H := Lib.hid hrw3
      clear hrw3
      have hs3H := Lib.hid hs3
      clear hs3
      have hHeld2H := Lib.hid hHeld2
      clear hHeld2
      refine hK.out _ _ hHeld (fun hHeld => ?_)
      clear hK K
      (try simp only [Act.put, List.setIfInBounds_toArray, List.set_cons_zero, List.set_cons_succ])
      clear hHeld
      refine tkH (i := 15) (d := some 33) (v := ?_) (hy := Or.inl ⟨by rfl, ?_⟩) (h := ?_)
      rotate_left
      ·(intro w hSw; (try dsimp only at hSw); go_simp; (try with_reducible rfl))
      (try simp only [Act.put, tkA, tkB, tkC])
      refine tkH (i := 16) (d := some 34) (v := ?_) (hy := Or.inl ⟨by rfl, ?_⟩) (h := ?_)
      rotate_left
      ·(intro w hSw; (try dsimp only at hSw); go_simp; (try with_reducible rfl))
      (try simp only [Act.put, tkA, tkB, tkC])
      refine wpAnyH_done (by kernel_rfl) ?_ _
      by_cases hc : v < 0
      ·have hA2 : (fI C) x < (fI C) y := by unfold fI; have := hvlH.out.1 hc; omega
       have R1 : InI C P M1 (M.drop (k + 1)) S x a b off n wa (.int .i64 (jj : Int)) (exW w2 b off (jj + 1) jj x y).drew := by
        have hsw := (hrw3H.out.swap2 (i := jj) (j := jj + 1) (by rw [List.length_append]; have := hPH.out; have := hjjH.out; omega) (by simp)).drew
        refine ⟨A0, y :: B, by have := hjjH.out; congr 1; omega, by rw [hM1H.out]; simp, fun z hz => ?_, by simpa using hsw, (hs3H.out.trans (exW_srt _ _ _ _ _ _ _)).trans Srt.drew⟩
        rcases List.mem_cons.1 hz with rfl | hz
        ·exact hA2
        ·exact hBxH.out z hz
       have fz := hrw3H.out.fz
       have f0 := fz jj
       have f2 := fz (jj + 1)
       obtain ⟨x0, y0⟩ := hHeld2H.out
       unfold exW at R1
       clear fz hHeld2H
       have R1H := Lib.hid R1
       clear R1
       have hA2H := Lib.hid hA2
       clear hA2
       go_wp2_with fail
       go_region
       go_wp2
       refine ⟨?rel, ?measure⟩
       case measure => exact (by simp [intOf] <;> omega)
       case rel => first | exact R1H.out | exact ⟨rfl, R1H.out⟩ | ((try refine ⟨rfl, ?_⟩); (repeat apply Exists.intro); refine ⟨R1H.out, ?_⟩; ((repeat' apply And.intro) <;> rfl))
      ·have hA2 : (fI C) y ≤ (fI C) x := by unfold fI; have : ¬ (vC C y) < (vC C x) := fun h => hc (hvlH.out.2 h); omega
       have hMl := hMlH.out
       have hso := hsoH.out
       have hcl := hclH.out
       have hM1 := hM1H.out
       have hBx := hBxH.out
       have hx := hxH.out
       have hrw4 : RowI C w2 b off n (P ++ (A0 ++ [y]) ++ x :: B ++ M.drop (k + 1) ++ S) := by rw [hdH.out]; exact hrw3H.out
       have hst := ins_step C (A := (A0 ++ [y])) (B := B) (T := M.take k) hso (fun z hz => by rw [List.getLast?_append] at hz; simp at hz; rw [← hz]; exact hA2) hBx hcl
       have R1 : InO C P M S a b off n w (.int .i64 ((a : Int) + (k : Int) + 1)) w2 := by
        refine ⟨k + 1, (A0 ++ [y]) ++ x :: B, by omega, hkM2, by go_num, by rw [hM1] at hMl; simp only [List.length_append, List.length_cons] at hMl ⊢; omega, hst.1, ?_, by simpa using hrw4, hsH.out.trans hs3H.out⟩
        rw [List.take_add_one, hx]
        exact hst.2
       clear hst hso hcl hMl hx hM1 hBx hrw4
       have R1H := Lib.hid R1
       clear R1
       have hA2H := Lib.hid hA2
       clear hA2
       go_wp2
       refine ⟨?rel, ?measure⟩
       case measure => (simp [intOf]; omega)
       case rel => first | exact R1H.out | exact ⟨rfl, R1H.out⟩ | ((try refine ⟨rfl, ?_⟩); (repeat apply Exists.intro); refine ⟨R1H.out, ?_⟩; ((repeat' apply And.intro) <;> rfl))
   ·have hka : a + k = e := by omega
    have hMk : M.drop k = [] := List.drop_eq_nil_of_le (by have := heH.out; omega)
    have hMt : M.take k = M := List.take_of_length_le (by have := heH.out; omega)
    rw [hMk, List.append_nil] at hrw
    rw [hMt] at hcl
    have hrwH := Lib.hid hrw
    clear hrw
    have hclH := Lib.hid hcl
    clear hcl
    have hsoH := Lib.hid hso
    clear hso
    have hsH := Lib.hid hs
    clear hs
    have hMlH := Lib.hid hMl
    clear hMl
    have hMkH := Lib.hid hMk
    clear hMk
    have hMtH := Lib.hid hMt
    clear hMt
    have hkaH := Lib.hid hka
    clear hka
    go_wp2
    go_end0
    exact ⟨rfl, M1, hsoH.out, hclH.out, hrwH.out, hsH.out⟩
end Go.Proofs.YtbnkoefljcekbaaGreatDoor.C9

namespace Go.Proofs.YtbnkoefljcekbaaGreatDoor.C9
open Go.ChangeShapes Go.WideShapes Go.Deep Go.RowKit
set_option linter.unusedVariables false

def MgAns (C : CC) (P M S : List Int) (b off n : Nat) (w0 : World) (e : Ending) (w' : World) : Prop :=
 e = .returned (.tuple #[]) ∧ ∃ M', SortedBy (fI C) M' ∧ SameCls (fI C) M' M ∧ RowI C w' b off n (P ++ M' ++ S) ∧ Srt b w0 w'
/-- the first search: behind which of R does x go -/
def B1Rel (C : CC) (D R : List Int) (x : Int) (m b off n : Nat) (w0 : World) (vi vj : Value) (wr : World) : Prop :=
 ∃ p q I J : Nat, p ≤ q ∧ q ≤ R.length ∧ I = m + p ∧ J = m + q ∧ vi = .int .i64 (I : Int) ∧ vj = .int .i64 (J : Int) ∧ (∀ y, 0 < p → R[p - 1]? = some y → (fI C) y < (fI C) x) ∧ (∀ y, R[q]? = some y → (fI C) x ≤ (fI C) y) ∧ RowI C wr b off n D ∧ Srt b w0 wr
def S1Rel (C : CC) (P R S : List Int) (x : Int) (a p b off n : Nat) (w0 : World) (vk : Value) (wr : World) : Prop :=
 ∃ t : Nat, t ≤ p ∧ vk = .int .i64 ((a : Int) + (t : Int)) ∧ RowI C wr b off n (P ++ R.take t ++ x :: R.drop t ++ S) ∧ Srt b w0 wr
theorem getLast_take {R : List Int} {p : Nat} (hp : p ≤ R.length) : (R.take p).getLast? = if p = 0 then none else R[p - 1]? := by
 rw [List.getLast?_eq_getElem?, List.length_take, Nat.min_eq_left hp]
 split
 ·subst_vars; simp
 ·rw [List.getElem?_take_of_lt (by omega)]
theorem head_drop {R : List Int} {p : Nat} : (R.drop p).head? = R[p]? := by rw [List.head?_drop]
theorem put_left (C : CC) {R : List Int} {x : Int} {p : Nat} (hs : SortedBy (fI C) R) (hp : p ≤ R.length) (h1 : ∀ y, 0 < p → R[p - 1]? = some y → (fI C) y < (fI C) x) (h2 : ∀ y, R[p]? = some y → (fI C) x ≤ (fI C) y) :
  SortedBy (fI C) (R.take p ++ x :: R.drop p) ∧ SameCls (fI C) (R.take p ++ x :: R.drop p) ([x] ++ R) := by
 have hR : SortedBy (fI C) (R.take p ++ R.drop p) := by rw [List.take_append_drop]; exact hs
 have := sym_step (f := fI C) (A := []) (X := [x]) (Y := R.take p) (B := R.drop p) (M1 := R.take p) (M2 := x :: R.drop p) (List.pairwise_singleton _ _) hR (fun y hy => by simp at hy)
  (fun u hu y hy => by
   simp only [List.head?_cons, Option.some.injEq] at hu
   subst hu
   rw [getLast_take hp] at hy
   split at hy
   ·cases hy
   ·exact h1 y (by omega) hy)
  (sorted_left hR) (List.pairwise_cons.2 ⟨fun y hy => by
   have hd := sorted_right hR
   cases hdr : R.drop p with
   | nil => rw [hdr] at hy; cases hy
   | cons z r =>
    have hz : R[p]? = some z := by rw [← head_drop, hdr]; rfl
    have hxz := h2 z hz
    rw [hdr] at hd hy
    rcases List.mem_cons.1 hy with rfl | hy
    ·exact hxz
    ·exact Int.le_trans hxz ((List.pairwise_cons.1 hd).1 y hy), sorted_right hR⟩) (SameCls.refl _) (SameCls.refl _)
 rw [List.nil_append, List.take_append_drop] at this
 exact this
theorem put_right (C : CC) {L : List Int} {y : Int} {p : Nat} (hs : SortedBy (fI C) L) (hp : p ≤ L.length) (h1 : ∀ x, 0 < p → L[p - 1]? = some x → (fI C) x ≤ (fI C) y) (h2 : ∀ x, L[p]? = some x → (fI C) y < (fI C) x) :
  SortedBy (fI C) (L.take p ++ y :: L.drop p) ∧ SameCls (fI C) (L.take p ++ y :: L.drop p) (L ++ [y]) := by
 have hL : SortedBy (fI C) (L.take p ++ L.drop p) := by rw [List.take_append_drop]; exact hs
 have := sym_step (f := fI C) (A := L.take p) (X := L.drop p) (Y := [y]) (B := []) (M1 := L.take p ++ [y]) (M2 := L.drop p) hL (List.pairwise_singleton _ _) (fun x hx u hu => by simp at hu)
  (fun x hx u hu => by
   simp only [List.getLast?_singleton, Option.some.injEq] at hu
   subst hu
   rw [head_drop] at hx
   exact h2 x hx)
  (sorted_app (sorted_left hL) (List.pairwise_singleton _ _) (fun x hx u hu => by
   rw [List.mem_singleton.1 hu]
   obtain ⟨l, hl⟩ : ∃ l, (L.take p).getLast? = some l := by
    cases h : (L.take p).getLast? with
    | none => rw [List.getLast?_eq_none_iff] at h; rw [h] at hx; cases hx
    | some l => exact ⟨l, rfl⟩
   have hly : (fI C) l ≤ (fI C) y := by
    have hl2 := hl
    rw [getLast_take hp] at hl2
    split at hl2
    ·cases hl2
    ·exact h1 l (by omega) hl2
   obtain ⟨i, hi⟩ := List.getLast?_eq_some_iff.1 hl
   have hs2 := sorted_left hL
   rw [hi] at hx hs2
   rcases List.mem_append.1 hx with hx | hx
   ·exact Int.le_trans (sorted_cross hs2 x hx l (by simp)) hly
   ·rw [List.mem_singleton.1 hx]; exact hly)) (sorted_right hL) (SameCls.refl _) (by simpa using SameCls.refl (f := fI C) (L.drop p))
 rw [List.take_append_drop, List.append_assoc (L.take p)] at this
 simpa using this
theorem get_at {P R S : List Int} {k i : Nat} {y : Int} (h : P.length = i) (hy : R[k]? = some y) : (P ++ R ++ S)[i + k]? = some y := by
 subst h
 have hk := (List.getElem?_eq_some_iff.1 hy).1
 rw [List.append_assoc, List.getElem?_append_right (by omega), Nat.add_sub_cancel_left, List.getElem?_append_left hk]
 exact hy
set_option maxRecDepth 100000 in
set_option maxHeartbeats 16000000 in
theorem merge1 (C : CC) (b off n cap : Nat) (P R S : List Int) (x : Int) (a m e : Nat) (w : World) (hP : P.length = a) (hm : m = a + 1) (he : e = m + R.length) (hn : n ≤ 1000000000) (hsR : SortedBy (fI C) R) (hrow : RowI C w b off n (P ++ [x] ++ R ++ S)) :
  Calls Tryz.prog 223 #[.slice (some ⟨b, off, none⟩) n cap, .int .i64 a, .int .i64 m, .int .i64 e, (gI C)] w (MgAns C P ([x] ++ R) S b off n w) := by
 have hlen := hrow.sl.1
 simp only [List.length_append, List.length_singleton] at hlen
 have hen : e ≤ n := by omega
 have hme : m ≤ e := by omega
 have ham : a < m := by omega
 have hma : (m : Int) - (a : Int) = 1 := by omega
 unfold gI
 have hstart : B1Rel C (P ++ [x] ++ R ++ S) R x m b off n w (.int .i64 (m : Int)) (.int .i64 (e : Int)) w := ⟨0, R.length, m, e, by omega, Nat.le_refl _, by omega, he, rfl, rfl, fun y h => by omega, fun y hy => by simp at hy, hrow, World.grownBy.refl _ _⟩
 have hrowH := Lib.hid hrow
 clear hrow
 have hlenH := Lib.hid hlen
 clear hlen
 have hPH := Lib.hid hP
 clear hP
 have hstartH := Lib.hid hstart
 clear hstart
 have heH := Lib.hid he
 clear he
 have hsRH := Lib.hid hsR
 clear hsR
 have hmH := Lib.hid hm
 clear hm
 go_enter Tryz.func223, Tryz.ntmps223
 go_wp2_with fail
 go_loopw [10, 11] (fun vi vj wr => B1Rel C (P ++ [x] ++ R ++ S) R x m b off n w vi vj wr) (fun vi vj _ => (intOf vj).toNat - (intOf vi).toNat)
 case atStart => exact hstartH.out
 case round =>
  clear hstartH
  obtain ⟨p, q, I, J, hpq, hqR, hI, hJ, rfl, rfl, hp1, hq1, hrw, hs⟩ := hrel
  have hJe : J ≤ e := by have := heH.out; omega
  have hmI : m ≤ I := by omega
  by_cases hlt : p < q
  ·have hIJ : I < J := by omega
   obtain ⟨H, hH⟩ : ∃ H, (I + J) / 2 = H := ⟨_, rfl⟩
   have hHi : ((I : Int) + (J : Int)) / 2 = (H : Int) := by omega
   have hH2 : H = m + (p + q) / 2 := by omega
   have hHI : I ≤ H := by omega
   have hHJ : H < J := by omega
   obtain ⟨y, hy⟩ : ∃ y, R[(p + q) / 2]? = some y := ⟨R[(p + q) / 2]'(by omega), List.getElem?_eq_getElem _⟩
   have hgy := get_at (P := P ++ [x]) (S := S) (i := m) (by rw [List.length_append]; have := hPH.out; have := hmH.out; simp; omega) hy
   rw [← hH2] at hgy
   have hgx : (P ++ [x] ++ R ++ S)[a]? = some x := by rw [List.append_assoc, List.append_assoc]; exact get_mid (S := []) hPH.out
   have v0 := hrw.at_ hgx
   have u0 := hrw.at_ hgy
   obtain ⟨v, hv⟩ : ∃ v, Lib.compareInt (vC C x) (vC C y) = v := ⟨_, rfl⟩
   have hvl : v < 0 ↔ (vC C x) < (vC C y) := by rw [← hv]; exact cmpI_lt
   have k0 : (0 : Int) ≤ (H : Int) := by omega
   have k1 : (H : Int) < (n : Int) := by omega
   have k2 : (0 : Int) ≤ (a : Int) := by omega
   have k3 : (a : Int) < (n : Int) := by omega
   have hp1H := Lib.hid hp1
   clear hp1
   have hq1H := Lib.hid hq1
   clear hq1
   have hrwH := Lib.hid hrw
   clear hrw
   have hsH := Lib.hid hs
   clear hs
   have hyH := Lib.hid hy
   clear hy
   have hgyH := Lib.hid hgy
   clear hgy
   have hgxH := Lib.hid hgx
   clear hgx
   have hvH := Lib.hid hv
   clear hv
   have hvlH := Lib.hid hvl
   clear hvl
   have hHH := Lib.hid hH
   clear hH
   have hH2H := Lib.hid hH2
   clear hH2
   have hIH := Lib.hid hI
   clear hI
   have hJH := Lib.hid hJ
   clear hJ
   go_wp2_with fail
   refine wp_region_held_drew (S := (fun w' => w'.cell? ⟨b, off + H, none⟩ = some (.int .i64 y) ∧ w'.cell? ⟨b, off + a, none⟩ = some (.int .i64 x))) (by kernel_rfl) ⟨u0, v0⟩ (fun hHeld => ?_)
   clear u0 v0
   refine tkH (i := 0) (d := some 40) (v := ?_) (hy := Or.inl ⟨by rfl, ?_⟩) (h := ?_)
   rotate_left
   ·(intro w hSw; (try dsimp only at hSw); go_simp; (try with_reducible rfl))
   (try simp only [Act.put, tkA, tkB, tkC])
   refine tkH (i := 1) (d := some 41) (v := ?_) (hy := Or.inl ⟨by rfl, ?_⟩) (h := ?_)
   rotate_left
   ·(intro w hSw; (try dsimp only at hSw); go_simp; (try with_reducible rfl))
   (try simp only [Act.put, tkA, tkB, tkC])
   refine tkH (i := 2) (d := some 42) (v := ?_) (hy := Or.inl ⟨by rfl, ?_⟩) (h := ?_)
   rotate_left
   ·(intro w hSw; (try dsimp only at hSw); go_simp; (try with_reducible rfl))
   (try simp only [Act.put, tkA, tkB, tkC])
   refine tkH (i := 3) (d := some 43) (v := ?_) (hy := Or.inl ⟨by rfl, ?_⟩) (h := ?_)
   rotate_left
   ·(intro w hSw; (try dsimp only at hSw); go_simp; (try with_reducible rfl))
   (try simp only [Act.put, tkA, tkB, tkC])
   refine tkH (i := 4) (d := some 44) (v := ?_) (hy := Or.inl ⟨by rfl, ?_⟩) (h := ?_)
   rotate_left
   ·(intro w hSw; (try dsimp only at hSw); go_simp; (try with_reducible rfl))
   (try simp only [Act.put, tkA, tkB, tkC])
   refine tkH (i := 5) (d := some 45) (v := ?_) (hy := Or.inl ⟨by rfl, ?_⟩) (h := ?_)
   rotate_left
   ·(intro w hSw; (try dsimp only at hSw); go_simp; (try with_reducible rfl))
   (try simp only [Act.put, tkA, tkB, tkC])
   refine tkH (i := 6) (d := some 46) (v := ?_) (hy := Or.inl ⟨by rfl, ?_⟩) (h := ?_)
   rotate_left
   ·(intro w hSw; (try dsimp only at hSw); go_simp; (try with_reducible rfl))
   (try simp only [Act.put, tkA, tkB, tkC])
   refine tkH (i := 7) (d := some 47) (v := ?_) (hy := Or.inl ⟨by rfl, ?_⟩) (h := ?_)
   rotate_left
   ·(intro w hSw; (try dsimp only at hSw); go_simp; (try with_reducible rfl))
   (try simp only [Act.put, tkA, tkB, tkC])
   refine tkH (i := 8) (d := some 48) (v := ?_) (hy := Or.inl ⟨by rfl, ?_⟩) (h := ?_)
   rotate_left
   ·(intro w hSw; (try dsimp only at hSw); go_simp; (try with_reducible rfl))
   (try simp only [Act.put, tkA, tkB, tkC])
   refine wpAnyH_ready (rs := [9]) (by kernel_rfl) (by simp) ?_
   refine AllReadyH.cons (i := 9) rfl (fun K hK => ?_) AllReadyH.nil
   go_simp
   go_at_call 159
   refine (cmp_any C y x _ v (hrwH.out.cr.below (Below.refl _ _).drew) (hrwH.out.in_ hgyH.out) (hrwH.out.in_ hgxH.out) hvH.out).mono ?_
   rintro e' w2 ⟨rfl, hb2⟩
   have hb2a : Below wr.heap.size wr w2 := by first | exact hb2 | exact (Below.refl _ _).drew.trans hb2
   replace hHeld := keep2i hb2 hHeld
   have hrw3 := hrwH.out.below hb2a
   have hs3 := hsH.out.trans (Srt.of_below hb2a)
   clear hb2 hb2a
   have hrw3H := Lib.hid hrw3
   clear hrw3
   have hs3H := Lib.hid hs3
   clear hs3
   refine hK.out _ _ hHeld (fun hHeld => ?_)
   clear hK K
   (try simp only [Act.put, List.setIfInBounds_toArray, List.set_cons_zero, List.set_cons_succ])
   clear hHeld
   refine tkH (i := 10) (d := some 50) (v := ?_) (hy := Or.inl ⟨by rfl, ?_⟩) (h := ?_)
   rotate_left
   ·(intro w hSw; (try dsimp only at hSw); go_simp; (try with_reducible rfl))
   (try simp only [Act.put, tkA, tkB, tkC])
   refine wpAnyH_done (by kernel_rfl) ?_ _
   by_cases hc : v < 0
   ·have R1 : B1Rel C (P ++ [x] ++ R ++ S) R x m b off n w (.int .i64 ((H : Int) + 1)) (.int .i64 (J : Int)) w2 := by
     refine ⟨(p + q) / 2 + 1, q, H + 1, J, by omega, hqR, by have := hH2H.out; omega, hJH.out, by go_num, rfl, fun z _ hz => ?_, hq1H.out, hrw3H.out, hs3H.out⟩
     rw [Nat.add_sub_cancel, hyH.out] at hz
     injection hz with hz
     subst hz
     have := hvlH.out.1 hc
     unfold fI; omega
    have R1H := Lib.hid R1
    clear R1
    go_wp2
    refine ⟨?rel, ?measure⟩
    case measure => (simp [intOf]; omega)
    case rel => first | exact R1H.out | exact ⟨rfl, R1H.out⟩ | ((try refine ⟨rfl, ?_⟩); (repeat apply Exists.intro); refine ⟨R1H.out, ?_⟩; ((repeat' apply And.intro) <;> rfl))
   ·have R1 : B1Rel C (P ++ [x] ++ R ++ S) R x m b off n w (.int .i64 (I : Int)) (.int .i64 (H : Int)) w2 := by
     refine ⟨p, (p + q) / 2, I, H, by omega, by omega, hIH.out, hH2H.out, rfl, rfl, hp1H.out, fun z hz => ?_, hrw3H.out, hs3H.out⟩
     rw [hyH.out] at hz
     injection hz with hz
     subst hz
     have : ¬ (vC C x) < (vC C y) := fun h => hc (hvlH.out.2 h)
     unfold fI; omega
    have R1H := Lib.hid R1
    clear R1
    go_wp2
    refine ⟨?rel, ?measure⟩
    case measure => (simp [intOf]; omega)
    case rel => first | exact R1H.out | exact ⟨rfl, R1H.out⟩ | ((try refine ⟨rfl, ?_⟩); (repeat apply Exists.intro); refine ⟨R1H.out, ?_⟩; ((repeat' apply And.intro) <;> rfl))
  ·obtain rfl : p = q := by omega
   obtain rfl : I = J := by omega
   have hpl := put_left C hsRH.out hqR hp1 hq1
   have hst : S1Rel C P R S x a p b off n w (.int .i64 (a : Int)) wr := ⟨0, Nat.zero_le _, by go_num, by simpa using hrw, hs⟩
   have hIa : (I : Int) - 1 = (a : Int) + (p : Int) := by have := hmH.out; omega
   clear hrw hs hp1 hq1
   have hplH := Lib.hid hpl
   clear hpl
   have hstH := Lib.hid hst
   clear hst
   have hIH := Lib.hid hI
   clear hI
   go_wp2_with fail
   go_loopw [13] (fun vk wr => S1Rel C P R S x a p b off n w vk wr) (fun vk _ => (I - 1) - (intOf vk).toNat)
   case atStart => exact hstH.out
   case round =>
    clear hstH
    obtain ⟨t, htp, rfl, hrw, hs⟩ := hrel
    by_cases hlt2 : t < p
    ·obtain ⟨y, hy⟩ : ∃ y, R[t]? = some y := ⟨R[t]'(by omega), List.getElem?_eq_getElem _⟩
     obtain ⟨K, hK⟩ : ∃ K, a + t = K := ⟨_, rfl⟩
     have hKi : (a : Int) + (t : Int) = (K : Int) := by omega
     have hd : P ++ R.take t ++ x :: R.drop t ++ S = (P ++ R.take t) ++ x :: [] ++ y :: (R.drop (t + 1) ++ S) := by rw [drop_cons hy]; simp
     rw [hd] at hrw
     rw [hKi]
     have hgx : ((P ++ R.take t) ++ x :: [] ++ y :: (R.drop (t + 1) ++ S))[K]? = some x := by rw [List.append_assoc]; exact get_mid (S := []) (by rw [List.length_append, List.length_take]; have := hPH.out; omega)
     have hgy : ((P ++ R.take t) ++ x :: [] ++ y :: (R.drop (t + 1) ++ S))[K + 1]? = some y := get_mid (S := []) (by simp only [List.length_append, List.length_cons, List.length_nil, List.length_take]; have := hPH.out; omega)
     have hKn : K + 1 < n := by have := heH.out; have := hmH.out; omega
     have R1 : S1Rel C P R S x a p b off n w (.int .i64 ((K : Int) + 1)) (exW wr b off K (K + 1) x y).drew := by
      have hsw := (hrw.swap (i := K) (j := K + 1) (by rw [List.length_append, List.length_take]; have := hPH.out; omega) (by simp)).drew
      refine ⟨t + 1, by omega, by go_num, ?_, (hs.trans (exW_srt _ _ _ _ _ _ _)).trans Srt.drew⟩
      rw [List.take_add_one, hy]
      simpa using hsw
     have x0 := hrw.at_ hgx
     have y0 := hrw.at_ hgy
     have fz := hrw.fz
     have f0 := fz K
     have f2 := fz (K + 1)
     have k0 : (0 : Int) ≤ (K : Int) := by omega
     have k1 : (K : Int) + 1 < (n : Int) := by omega
     have k2 : (K : Int) < (a : Int) + (p : Int) := by omega
     have hKI : K < I - 1 := by omega
     unfold exW at R1
     clear fz
     have hrwH := Lib.hid hrw
     clear hrw
     have hsH := Lib.hid hs
     clear hs
     have hyH := Lib.hid hy
     clear hy
     have hdH := Lib.hid hd
     clear hd
     have hgxH := Lib.hid hgx
     clear hgx
     have hgyH := Lib.hid hgy
     clear hgy
     have hKH := Lib.hid hK
     clear hK
     have hKiH := Lib.hid hKi
     clear hKi
     have R1H := Lib.hid R1
     clear R1
     go_wp2_with fail
     go_region
     go_wp2
     refine ⟨?rel, ?measure⟩
     case measure => exact (by simp [intOf]; omega)
     case rel => first | exact R1H.out | exact ⟨rfl, R1H.out⟩ | ((try refine ⟨rfl, ?_⟩); (repeat apply Exists.intro); refine ⟨R1H.out, ?_⟩; ((repeat' apply And.intro) <;> rfl))
    ·obtain rfl : t = p := by omega
     obtain ⟨q1, q2⟩ := hplH.out
     have hrwH := Lib.hid hrw
     clear hrw
     have hsH := Lib.hid hs
     clear hs
     have q1H := Lib.hid q1
     clear q1
     have q2H := Lib.hid q2
     clear q2
     go_wp2
     go_end0
     exact ⟨rfl, _, q1H.out, q2H.out, by simpa using hrwH.out, hsH.out⟩
/-- the second search: ahead of which of L does y go -/
def B2Rel (C : CC) (D L : List Int) (y : Int) (a b off n : Nat) (w0 : World) (vi vj : Value) (wr : World) : Prop :=
 ∃ p q I J : Nat, p ≤ q ∧ q ≤ L.length ∧ I = a + p ∧ J = a + q ∧ vi = .int .i64 (I : Int) ∧ vj = .int .i64 (J : Int) ∧ (∀ x, 0 < p → L[p - 1]? = some x → (fI C) x ≤ (fI C) y) ∧ (∀ x, L[q]? = some x → (fI C) y < (fI C) x) ∧ RowI C wr b off n D ∧ Srt b w0 wr
def S2Rel (C : CC) (P L S : List Int) (y : Int) (a p b off n : Nat) (w0 : World) (vk : Value) (wr : World) : Prop :=
 ∃ t : Nat, p ≤ t ∧ t ≤ L.length ∧ vk = .int .i64 ((a : Int) + (t : Int)) ∧ RowI C wr b off n (P ++ L.take t ++ y :: L.drop t ++ S) ∧ Srt b w0 wr
set_option maxRecDepth 100000 in
set_option maxHeartbeats 16000000 in
theorem merge2 (C : CC) (b off n cap : Nat) (P L S : List Int) (y : Int) (a m e : Nat) (w : World) (hP : P.length = a) (hm : m = a + L.length) (hL2 : 2 ≤ L.length) (he : e = m + 1) (hn : n ≤ 1000000000) (hsL : SortedBy (fI C) L) (hrow : RowI C w b off n (P ++ L ++ [y] ++ S)) :
  Calls Tryz.prog 223 #[.slice (some ⟨b, off, none⟩) n cap, .int .i64 a, .int .i64 m, .int .i64 e, (gI C)] w (MgAns C P (L ++ [y]) S b off n w) := by
 have hlen := hrow.sl.1
 simp only [List.length_append, List.length_singleton] at hlen
 have hen : e ≤ n := by omega
 have hme : m < e := by omega
 have ham : a + 1 < m := by omega
 have hma : ¬ (m : Int) - (a : Int) = 1 := by omega
 have hma2 : ((m : Int) - (a : Int) == 1) = false := by simpa using hma
 have hem : (e : Int) - (m : Int) = 1 := by omega
 unfold gI
 have hstart : B2Rel C (P ++ L ++ [y] ++ S) L y a b off n w (.int .i64 (a : Int)) (.int .i64 (m : Int)) w := ⟨0, L.length, a, m, by omega, Nat.le_refl _, by omega, hm, rfl, rfl, fun y h => by omega, fun x hx => by simp at hx, hrow, World.grownBy.refl _ _⟩
 have hrowH := Lib.hid hrow
 clear hrow
 have hlenH := Lib.hid hlen
 clear hlen
 have hPH := Lib.hid hP
 clear hP
 have hstartH := Lib.hid hstart
 clear hstart
 have heH := Lib.hid he
 clear he
 have hsLH := Lib.hid hsL
 clear hsL
 have hmH := Lib.hid hm
 clear hm
 go_enter Tryz.func223, Tryz.ntmps223
 go_wp2_with fail
 go_loopw [14, 15] (fun vi vj wr => B2Rel C (P ++ L ++ [y] ++ S) L y a b off n w vi vj wr) (fun vi vj _ => (intOf vj).toNat - (intOf vi).toNat)
 case atStart => exact hstartH.out
 case round =>
  clear hstartH
  obtain ⟨p, q, I, J, hpq, hqL, hI, hJ, rfl, rfl, hp1, hq1, hrw, hs⟩ := hrel
  have hJm : J ≤ m := by have := hmH.out; omega
  have haI : a ≤ I := by omega
  by_cases hlt : p < q
  ·have hIJ : I < J := by omega
   obtain ⟨H, hH⟩ : ∃ H, (I + J) / 2 = H := ⟨_, rfl⟩
   have hHi : ((I : Int) + (J : Int)) / 2 = (H : Int) := by omega
   have hH2 : H = a + (p + q) / 2 := by omega
   have hHI : I ≤ H := by omega
   have hHJ : H < J := by omega
   obtain ⟨x, hx⟩ : ∃ x, L[(p + q) / 2]? = some x := ⟨L[(p + q) / 2]'(by omega), List.getElem?_eq_getElem _⟩
   have hgx := get_at (P := P) (S := [y] ++ S) (i := a) hPH.out hx
   rw [← hH2, ← List.append_assoc] at hgx
   have hgy : (P ++ L ++ [y] ++ S)[m]? = some y := by rw [List.append_assoc]; exact get_mid (S := []) (by rw [List.length_append]; have := hPH.out; have := hmH.out; omega)
   have v0 := hrw.at_ hgx
   have u0 := hrw.at_ hgy
   obtain ⟨v, hv⟩ : ∃ v, Lib.compareInt (vC C x) (vC C y) = v := ⟨_, rfl⟩
   have hvl : v < 0 ↔ (vC C x) < (vC C y) := by rw [← hv]; exact cmpI_lt
   have k0 : (0 : Int) ≤ (H : Int) := by omega
   have k1 : (H : Int) < (n : Int) := by omega
   have k2 : (0 : Int) ≤ (m : Int) := by omega
   have k3 : (m : Int) < (n : Int) := by omega
   have hp1H := Lib.hid hp1
   clear hp1
   have hq1H := Lib.hid hq1
   clear hq1
   have hrwH := Lib.hid hrw
   clear hrw
   have hsH := Lib.hid hs
   clear hs
   have hxH := Lib.hid hx
   clear hx
   have hgyH := Lib.hid hgy
   clear hgy
   have hgxH := Lib.hid hgx
   clear hgx
   have hvH := Lib.hid hv
   clear hv
   have hvlH := Lib.hid hvl
   clear hvl
   have hHH := Lib.hid hH
   clear hH
   have hH2H := Lib.hid hH2
   clear hH2
   have hIH := Lib.hid hI
   clear hI
   have hJH := Lib.hid hJ
   clear hJ
   go_wp2_with fail
   refine wp_region_held_drew (S := (fun w' => w'.cell? ⟨b, off + m, none⟩ = some (.int .i64 y) ∧ w'.cell? ⟨b, off + H, none⟩ = some (.int .i64 x))) (by kernel_rfl) ⟨u0, v0⟩ (fun hHeld => ?_)
   clear u0 v0
   refine tkH (i := 0) (d := some 92) (v := ?_) (hy := Or.inl ⟨by rfl, ?_⟩) (h := ?_)
   rotate_left
   ·(intro w hSw; (try dsimp only at hSw); go_simp; (try with_reducible rfl))
   (try simp only [Act.put, tkA, tkB, tkC])
   refine tkH (i := 1) (d := some 93) (v := ?_) (hy := Or.inl ⟨by rfl, ?_⟩) (h := ?_)
   rotate_left
   ·(intro w hSw; (try dsimp only at hSw); go_simp; (try with_reducible rfl))
   (try simp only [Act.put, tkA, tkB, tkC])
   refine tkH (i := 2) (d := some 94) (v := ?_) (hy := Or.inl ⟨by rfl, ?_⟩) (h := ?_)
   rotate_left
   ·(intro w hSw; (try dsimp only at hSw); go_simp; (try with_reducible rfl))
   (try simp only [Act.put, tkA, tkB, tkC])
   refine tkH (i := 3) (d := some 95) (v := ?_) (hy := Or.inl ⟨by rfl, ?_⟩) (h := ?_)
   rotate_left
   ·(intro w hSw; (try dsimp only at hSw); go_simp; (try with_reducible rfl))
   (try simp only [Act.put, tkA, tkB, tkC])
   refine tkH (i := 4) (d := some 96) (v := ?_) (hy := Or.inl ⟨by rfl, ?_⟩) (h := ?_)
   rotate_left
   ·(intro w hSw; (try dsimp only at hSw); go_simp; (try with_reducible rfl))
   (try simp only [Act.put, tkA, tkB, tkC])
   refine tkH (i := 5) (d := some 97) (v := ?_) (hy := Or.inl ⟨by rfl, ?_⟩) (h := ?_)
   rotate_left
   ·(intro w hSw; (try dsimp only at hSw); go_simp; (try with_reducible rfl))
   (try simp only [Act.put, tkA, tkB, tkC])
   refine tkH (i := 6) (d := some 98) (v := ?_) (hy := Or.inl ⟨by rfl, ?_⟩) (h := ?_)
   rotate_left
   ·(intro w hSw; (try dsimp only at hSw); go_simp; (try with_reducible rfl))
   (try simp only [Act.put, tkA, tkB, tkC])
   refine tkH (i := 7) (d := some 99) (v := ?_) (hy := Or.inl ⟨by rfl, ?_⟩) (h := ?_)
   rotate_left
   ·(intro w hSw; (try dsimp only at hSw); go_simp; (try with_reducible rfl))
   (try simp only [Act.put, tkA, tkB, tkC])
   refine tkH (i := 8) (d := some 100) (v := ?_) (hy := Or.inl ⟨by rfl, ?_⟩) (h := ?_)
   rotate_left
   ·(intro w hSw; (try dsimp only at hSw); go_simp; (try with_reducible rfl))
   (try simp only [Act.put, tkA, tkB, tkC])
   refine wpAnyH_ready (rs := [9]) (by kernel_rfl) (by simp) ?_
   refine AllReadyH.cons (i := 9) rfl (fun K hK => ?_) AllReadyH.nil
   go_simp
   go_at_call 159
   refine (cmp_any C y x _ v (hrwH.out.cr.below (Below.refl _ _).drew) (hrwH.out.in_ hgyH.out) (hrwH.out.in_ hgxH.out) hvH.out).mono ?_
   rintro e' w2 ⟨rfl, hb2⟩
   have hb2a : Below wr.heap.size wr w2 := by first | exact hb2 | exact (Below.refl _ _).drew.trans hb2
   replace hHeld := keep2i hb2 hHeld
   have hrw3 := hrwH.out.below hb2a
   have hs3 := hsH.out.trans (Srt.of_below hb2a)
   clear hb2 hb2a
   have hrw3H := Lib.hid hrw3
   clear hrw3
   have hs3H := Lib.hid hs3
   clear hs3
   refine hK.out _ _ hHeld (fun hHeld => ?_)
   clear hK K
   (try simp only [Act.put, List.setIfInBounds_toArray, List.set_cons_zero, List.set_cons_succ])
   clear hHeld
   refine tkH (i := 10) (d := some 102) (v := ?_) (hy := Or.inl ⟨by rfl, ?_⟩) (h := ?_)
   rotate_left
   ·(intro w hSw; (try dsimp only at hSw); go_simp; (try with_reducible rfl))
   (try simp only [Act.put, tkA, tkB, tkC])
   refine tkH (i := 11) (d := some 103) (v := ?_) (hy := Or.inl ⟨by rfl, ?_⟩) (h := ?_)
   rotate_left
   ·(intro w hSw; (try dsimp only at hSw); go_simp; (try with_reducible rfl))
   (try simp only [Act.put, tkA, tkB, tkC])
   refine wpAnyH_done (by kernel_rfl) ?_ _
   by_cases hc : v < 0
   ·have R1 : B2Rel C (P ++ L ++ [y] ++ S) L y a b off n w (.int .i64 (I : Int)) (.int .i64 (H : Int)) w2 := by
     refine ⟨p, (p + q) / 2, I, H, by omega, by omega, hIH.out, hH2H.out, rfl, rfl, hp1H.out, fun z hz => ?_, hrw3H.out, hs3H.out⟩
     rw [hxH.out] at hz
     injection hz with hz
     subst hz
     have := hvlH.out.1 hc
     unfold fI; omega
    rw [show (!decide (v < 0)) = false by simp [hc]]
    have R1H := Lib.hid R1
    clear R1
    go_wp2
    refine ⟨?rel, ?measure⟩
    case measure => (simp [intOf]; omega)
    case rel => first | exact R1H.out | exact ⟨rfl, R1H.out⟩ | ((try refine ⟨rfl, ?_⟩); (repeat apply Exists.intro); refine ⟨R1H.out, ?_⟩; ((repeat' apply And.intro) <;> rfl))
   ·have R1 : B2Rel C (P ++ L ++ [y] ++ S) L y a b off n w (.int .i64 ((H : Int) + 1)) (.int .i64 (J : Int)) w2 := by
     refine ⟨(p + q) / 2 + 1, q, H + 1, J, by omega, hqL, by have := hH2H.out; omega, hJH.out, by go_num, rfl, fun z _ hz => ?_, hq1H.out, hrw3H.out, hs3H.out⟩
     rw [Nat.add_sub_cancel, hxH.out] at hz
     injection hz with hz
     subst hz
     have : ¬ (vC C x) < (vC C y) := fun h => hc (hvlH.out.2 h)
     unfold fI; omega
    rw [show (!decide (v < 0)) = true by simp; omega]
    have R1H := Lib.hid R1
    clear R1
    go_wp2
    refine ⟨?rel, ?measure⟩
    case measure => (simp [intOf]; omega)
    case rel => first | exact R1H.out | exact ⟨rfl, R1H.out⟩ | ((try refine ⟨rfl, ?_⟩); (repeat apply Exists.intro); refine ⟨R1H.out, ?_⟩; ((repeat' apply And.intro) <;> rfl))
  ·obtain rfl : p = q := by omega
   obtain rfl : I = J := by omega
   have hpl := put_right C hsLH.out hqL hp1 hq1
   have hst : S2Rel C P L S y a p b off n w (.int .i64 (m : Int)) wr := ⟨L.length, hqL, Nat.le_refl _, by have := hmH.out; congr 1; omega, by simpa using hrw, hs⟩
   have hIa : (I : Int) = (a : Int) + (p : Int) := by omega
   clear hrw hs hp1 hq1
   have hplH := Lib.hid hpl
   clear hpl
   have hstH := Lib.hid hst
   clear hst
   have hIH := Lib.hid hI
   clear hI
   have hIaH := Lib.hid hIa
   clear hIa
   go_wp2_with fail
   go_loopw [17] (fun vk wr => S2Rel C P L S y a p b off n w vk wr) (fun vk _ => (intOf vk).toNat)
   case atStart => exact hstH.out
   case round =>
    clear hstH
    obtain ⟨t, hpt, htL, rfl, hrw, hs⟩ := hrel
    have hIa := hIaH.out
    by_cases hlt2 : p < t
    ·obtain ⟨t, rfl⟩ : ∃ u, t = u + 1 := ⟨t - 1, by omega⟩
     obtain ⟨x, hx⟩ : ∃ x, L[t]? = some x := ⟨L[t]'(by omega), List.getElem?_eq_getElem _⟩
     obtain ⟨K, hK⟩ : ∃ K, a + t = K := ⟨_, rfl⟩
     have hKi : (a : Int) + ((t + 1 : Nat) : Int) = (K : Int) + 1 := by omega
     have hd : P ++ L.take (t + 1) ++ y :: L.drop (t + 1) ++ S = (P ++ L.take t) ++ x :: [] ++ y :: (L.drop (t + 1) ++ S) := by rw [List.take_add_one, hx]; simp
     rw [hd] at hrw
     rw [hKi]
     have hgx : ((P ++ L.take t) ++ x :: [] ++ y :: (L.drop (t + 1) ++ S))[K]? = some x := by rw [List.append_assoc]; exact get_mid (S := []) (by rw [List.length_append, List.length_take]; have := hPH.out; omega)
     have hgy : ((P ++ L.take t) ++ x :: [] ++ y :: (L.drop (t + 1) ++ S))[K + 1]? = some y := get_mid (S := []) (by simp only [List.length_append, List.length_cons, List.length_nil, List.length_take]; have := hPH.out; omega)
     have hKn : K + 1 < n := by have := hmH.out; omega
     have R1 : S2Rel C P L S y a p b off n w (.int .i64 (K : Int)) (exW wr b off (K + 1) K y x).drew := by
      have hsw := (hrw.swap2 (i := K) (j := K + 1) (by rw [List.length_append, List.length_take]; have := hPH.out; omega) (by simp)).drew
      refine ⟨t, by omega, by omega, by congr 1; omega, ?_, (hs.trans (exW_srt _ _ _ _ _ _ _)).trans Srt.drew⟩
      rw [drop_cons hx]
      simpa using hsw
     have x0 := hrw.at_ hgx
     have y0 := hrw.at_ hgy
     have fz := hrw.fz
     have f0 := fz K
     have f2 := fz (K + 1)
     have k0 : (0 : Int) ≤ (K : Int) := by omega
     have k1 : (K : Int) + 1 < (n : Int) := by omega
     have k2 : (I : Int) < (K : Int) + 1 := by omega
     have hw2 : IntKind.i64.wrap (K : Int) = (K : Int) := by rw [IntKind.wrap_i64]; omega
     unfold exW at R1
     clear fz hIa
     have hrwH := Lib.hid hrw
     clear hrw
     have hsH := Lib.hid hs
     clear hs
     have hxH := Lib.hid hx
     clear hx
     have hdH := Lib.hid hd
     clear hd
     have hgxH := Lib.hid hgx
     clear hgx
     have hgyH := Lib.hid hgy
     clear hgy
     have hKH := Lib.hid hK
     clear hK
     have hKiH := Lib.hid hKi
     clear hKi
     have R1H := Lib.hid R1
     clear R1
     go_wp2_with fail
     go_region
     go_wp2
     refine ⟨?rel, ?measure⟩
     case measure => exact (by simp [intOf] <;> omega)
     case rel => first | exact R1H.out | exact ⟨rfl, R1H.out⟩ | ((try refine ⟨rfl, ?_⟩); (repeat apply Exists.intro); refine ⟨R1H.out, ?_⟩; ((repeat' apply And.intro) <;> rfl))
    ·obtain rfl : t = p := by omega
     obtain ⟨q1, q2⟩ := hplH.out
     have hng : ¬ (I : Int) < (a : Int) + (t : Int) := by omega
     clear hIa
     have hrwH := Lib.hid hrw
     clear hrw
     have hsH := Lib.hid hs
     clear hs
     have q1H := Lib.hid q1
     clear q1
     have q2H := Lib.hid q2
     clear q2
     go_wp2
     go_end0
     exact ⟨rfl, _, q1H.out, q2H.out, by simpa using hrwH.out, hsH.out⟩
end Go.Proofs.YtbnkoefljcekbaaGreatDoor.C9
