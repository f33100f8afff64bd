/-
  The comparer of Shards; insertionSort of slices' stable sort.
-/
import Derived.Test.YtbapkhkklglbaaaDoorRotI
import Derived.Test.YtbapkhkklglbaaaDoorShelf
import Derived.Test.YtbapkhkklglbaaaDoorInC9
namespace Go.Proofs.YtbapkhkklglbaaaDoor.C9
open Go.ChangeShapes Go.WideShapes Go.Deep Go.RowKit
set_option linter.unusedVariables false

theorem cmpI_lt {a b : Int} : Lib.compareInt a b < 0 ↔ a < b := by unfold Lib.compareInt; split <;> (try split) <;> omega
theorem crAt_val {C : CC} {w : World} (h : CrAt C w) {x : Int} (hx : InC C x) : w.cell? ⟨C.cb, x.toNat, none⟩ = some (.int .i64 (vC C x)) := by
  have hl : x.toNat < C.l.length := by have := hx.1; have := hx.2; omega
  refine h.at_ x.toNat _ ?_
  unfold vC
  rw [List.getD_eq_getElem?_getD, List.getElem?_eq_getElem hl]; rfl
set_option maxRecDepth 100000 in
set_option maxHeartbeats 4000000 in
theorem cmp_any (C : CC) (x y : Int) (w : World) (v : Int) (hc : CrAt C w) (hx : InC C x) (hy : InC C y) (hv : Lib.compareInt (vC C y) (vC C x) = v) :
    Calls Tryd.prog 32 #[.int .i64 x, .int .i64 y, .pointer (some ⟨C.pc, 0, none⟩)] w fun e w' => e = .returned (.int .i64 v) ∧ Below w.heap.size w w' := by
  have h0 := hc.hd
  obtain ⟨X, rfl⟩ : ∃ n : Nat, x = (n : Int) := ⟨x.toNat, by have := hx.1; omega⟩
  obtain ⟨Y, rfl⟩ : ∃ n : Nat, y = (n : Int) := ⟨y.toNat, by have := hy.1; omega⟩
  have h1 := crAt_val hc hx
  have h2 := crAt_val hc hy
  simp only [Int.toNat_natCast] at h1 h2
  have k1 : (0 : Int) ≤ (X : Int) := by omega
  have k2 : (X : Int) < (C.l.length : Int) := hx.2
  have k3 : (0 : Int) ≤ (Y : Int) := by omega
  have k4 : (Y : Int) < (C.l.length : Int) := hy.2
  obtain ⟨pc, hpc⟩ : ∃ a, C.pc = a := ⟨_, rfl⟩
  obtain ⟨cb, hcb⟩ : ∃ a, C.cb = a := ⟨_, rfl⟩
  obtain ⟨cn, hcn⟩ : ∃ a, C.l.length = a := ⟨_, rfl⟩
  obtain ⟨cc, hcc⟩ : ∃ a, C.cap = a := ⟨_, rfl⟩
  obtain ⟨vx, hvx⟩ : ∃ a, vC C (X : Int) = a := ⟨_, rfl⟩
  obtain ⟨vy, hvy⟩ : ∃ a, vC C (Y : Int) = a := ⟨_, rfl⟩
  rw [hpc, hcb, hcn, hcc] at h0
  rw [hcb, hvx] at h1
  rw [hcb, hvy] at h2
  rw [hcn] at k2 k4
  rw [hvx, hvy] at hv
  rw [hpc]
  clear hx hy hc hpc hcb hcn hcc hvx hvy
  have hvH := Lib.hid hv
  clear hv
  go_enter Tryd.func32, Tryd.ntmps32
  go_wp2_with fail
  go_region_held3 (fun w' => w'.cell? ⟨pc, 0, none⟩ = some (.slice (some ⟨cb, 0, none⟩) cn cc) ∧ w'.cell? ⟨cb, X, none⟩ = some (.int .i64 vx) ∧ w'.cell? ⟨cb, Y, none⟩ = some (.int .i64 vy)) (go_keep)
    (first | (go_at_call 33; refine (Tryd.cmp_Compare_int _ _ _).mono ?_; rw [hvH.out]; rintro e w1 ⟨rfl, hw1⟩; rw [hw1]; clear hw1))
  go_wp2
  go_ret
  exact ⟨rfl, (Below.refl _ _).drew⟩
theorem get_mid {P M S : List Int} {x : Int} {i : Nat} (h : P.length = i) : (P ++ x :: M)[i]? = some x := by
  subst h; rw [List.getElem?_append_right (Nat.le_refl _), Nat.sub_self]; rfl
def gI (C : CC) : Value := .func (.func 32) #[] #[.pointer (some ⟨C.pc, 0, none⟩)]
def InO (C : CC) (P M S : List Int) (a b off n : Nat) (w0 : World) (i : Value) (wr : World) : Prop :=
  ∃ (k : Nat) (M1 : List Int), 1 ≤ k ∧ k ≤ M.length ∧ i = .int .i64 ((a : Int) + (k : Int)) ∧ M1.length = k ∧ SortedBy (fI C) M1 ∧ SameCls (fI C) M1 (M.take k) ∧ RowI C wr b off n (P ++ M1 ++ M.drop k ++ S) ∧ Srt b w0 wr
def InI (C : CC) (P M1 D S : List Int) (x : Int) (a b off n : Nat) (w0 : World) (j : Value) (wr : World) : Prop :=
  ∃ (A B : List Int), j = .int .i64 ((a : Int) + (A.length : Int)) ∧ M1 = A ++ B ∧ (∀ y ∈ B, (fI C) x < (fI C) y) ∧ RowI C wr b off n (P ++ A ++ x :: B ++ D ++ S) ∧ Srt b w0 wr
theorem ins_step (C : CC) {A B : List Int} {x : Int} {T : List Int} (hs : SortedBy (fI C) (A ++ B)) (hA : ∀ y, A.getLast? = some y → (fI C) y ≤ (fI C) x) (hB : ∀ y ∈ B, (fI C) x < (fI C) y) (hT : SameCls (fI C) (A ++ B) T) : SortedBy (fI C) (A ++ x :: B) ∧ SameCls (fI C) (A ++ x :: B) (T ++ [x]) := by
  have hA2 : ∀ z ∈ A, (fI C) z ≤ (fI C) x := fun z hz => by
    obtain ⟨l, hl⟩ : ∃ l, A.getLast? = some l := by
      cases h : A.getLast? with
      | none => rw [List.getLast?_eq_none_iff] at h; subst h; cases hz
      | some l => exact ⟨l, rfl⟩
    obtain ⟨i, hi⟩ := List.getLast?_eq_some_iff.1 hl
    have := hA l hl
    rw [hi] at hz
    rcases List.mem_append.1 hz with hz | hz
    · have hs2 := sorted_left hs
      rw [hi] at hs2
      have := sorted_cross hs2 z hz l (by simp)
      omega
    · rw [List.mem_singleton.1 hz]; exact this
  refine ⟨sorted_app (sorted_left hs) (List.pairwise_cons.2 ⟨fun y hy => Int.le_of_lt (hB y hy), sorted_right hs⟩) fun u hu v hv => ?_, ?_⟩
  · rcases List.mem_cons.1 hv with rfl | hv
    · exact hA2 u hu
    · exact sorted_cross hs u hu v hv
  · have e1 : SameCls (fI C) ([x] ++ B) (B ++ [x]) := same_swap fun u hu y hy => by rw [List.mem_singleton.1 hu]; have := hB y hy; omega
    have e2 := (SameCls.refl (f := fI C) A).app e1
    have e3 := hT.app (SameCls.refl (f := fI C) [x])
    intro v
    have := e2 v
    have h3 := e3 v
    rw [show A ++ x :: B = A ++ ([x] ++ B) from rfl, this, ← h3, List.append_assoc]
set_option maxRecDepth 100000 in
set_option maxHeartbeats 8000000 in
theorem insertion_any (C : CC) (b off n cap : Nat) (P M S : List Int) (a e : Nat) (w : World) (hP : P.length = a) (he : e = a + M.length) (hn : n ≤ 1000000000) (hrow : RowI C w b off n (P ++ M ++ S)) :
    Calls Tryd.prog 57 #[.slice (some ⟨b, off, none⟩) n cap, .int .i64 a, .int .i64 e, (gI C)] w fun e w' => e = .returned (.tuple #[]) ∧ ∃ M', SortedBy (fI C) M' ∧ SameCls (fI C) M' M ∧ RowI C w' b off n (P ++ M' ++ S) ∧ Srt b w w' := by
  have hlen := hrow.sl.1
  simp only [List.length_append] at hlen
  have hen : e ≤ n := by omega
  have hae : a ≤ e := by omega
  unfold gI
  by_cases hM0 : M.length = 0
  · obtain rfl : M = [] := List.eq_nil_of_length_eq_zero hM0
    have hea : e = a := by simpa using he
    subst hea
    clear hM0 he
    have hrowH := Lib.hid hrow
    clear hrow
    have hlenH := Lib.hid hlen
    clear hlen
    have hPH := Lib.hid hP
    clear hP
    go_enter Tryd.func57, Tryd.ntmps57
    go_wp2_with fail
    refine wp_loop_rounds 1 ?_
    rw [rounds_succ]
    go_wp2
    go_end0
    exact ⟨rfl, [], List.Pairwise.nil, SameCls.refl _, hrowH.out, World.grownBy.refl _ _⟩
  · have hstart : InO C P M S a b off n w (.int .i64 ((a : Int) + 1)) w := by
      refine ⟨1, M.take 1, Nat.le_refl _, by omega, by go_num, by rw [List.length_take]; omega, ?_, SameCls.refl _, ?_, World.grownBy.refl _ _⟩
      · cases M with
        | nil => exact absurd rfl hM0
        | cons z r => simp [SortedBy]
      · rw [List.append_assoc P, List.take_append_drop]; exact hrow
    have hrowH := Lib.hid hrow
    clear hrow
    have hlenH := Lib.hid hlen
    clear hlen
    have hPH := Lib.hid hP
    clear hP
    have hstartH := Lib.hid hstart
    clear hstart
    have heH := Lib.hid he
    clear he
    go_enter Tryd.func57, Tryd.ntmps57
    go_wp2_with fail
    go_loopw [8] (fun i wr => InO C P M S a b off n w i wr) (fun i _ => e - (intOf i).toNat)
    case atStart => exact hstartH.out
    case round =>
      clear hstartH
      obtain ⟨k, M1, hk1, hkM, rfl, hMl, hso, hcl, hrw, hs⟩ := hrel
      have hake : a + k ≤ e := by have := heH.out; omega
      by_cases hlt : a + k < e
      · have hkM2 : k + 1 ≤ M.length := by have := heH.out; omega
        have hltz : (a : Int) + (k : Int) < (e : Int) := by omega
        obtain ⟨x, hx⟩ : ∃ x, M[k]? = some x := ⟨M[k], List.getElem?_eq_getElem _⟩
        rw [drop_cons hx] at hrw
        have hin : InI C P M1 (M.drop (k + 1)) S x a b off n wr (.int .i64 ((a : Int) + (k : Int))) wr := ⟨M1, [], by rw [hMl], by simp, fun y hy => (by cases hy), by simpa using hrw, World.grownBy.refl _ _⟩
        obtain ⟨wa, rfl⟩ : ∃ W, W = wr := ⟨_, rfl⟩
        have hMlH := Lib.hid hMl
        clear hMl
        have hsoH := Lib.hid hso
        clear hso
        have hclH := Lib.hid hcl
        clear hcl
        have hrwH := Lib.hid hrw
        clear hrw
        have hsH := Lib.hid hs
        clear hs
        have hxH := Lib.hid hx
        clear hx
        have hinH := Lib.hid hin
        clear hin
        go_wp2_with fail
        go_loopw [9] (fun j wr => InI C P M1 (M.drop (k + 1)) S x a b off n wa j wr) (fun j _ => (intOf j).toNat)
        case atStart => exact hinH.out
        case round =>
          clear hinH hrwH
          obtain ⟨A, B, rfl, hM1, hBx, hrw2, hs2⟩ := hrel
          have hMl := hMlH.out
          have hso := hsoH.out
          have hcl := hclH.out
          have hs := hsH.out
          have hx := hxH.out
          rw [hM1] at hso hcl
          by_cases hA0 : A = []
          · subst hA0
            have R1 : ∀ nq, InO C P M S a b off n w (.int .i64 ((a : Int) + (k : Int) + 1)) (wr.drewN nq) := by
              intro nq
              have hst := ins_step C (A := []) (B := B) (T := M.take k) hso (fun y hy => (by cases hy)) hBx hcl
              have R1 : InO C P M S a b off n w (.int .i64 ((a : Int) + (k : Int) + 1)) (wr.drewN nq) := by
                refine ⟨k + 1, [] ++ x :: B, by omega, hkM2, by go_num, by rw [hM1] at hMl; simp only [List.length_append, List.length_cons] at hMl ⊢; omega, hst.1, ?_, by simpa using (hrw2.below (bel_drewN (Below.refl _ _) nq)), (hs.trans hs2).trans (Srt.of_below (bel_drewN (Below.refl _ _) nq))⟩
                rw [List.take_add_one, hx]
                exact hst.2
              exact R1
            have j0 : (a : Int) + (([] : List Int).length : Int) = (a : Int) := by simp
            rw [j0]
            clear hso hcl hMl hs hx hM1
            have R1H := Lib.hid R1
            clear R1
            have hBxH := Lib.hid hBx
            clear hBx
            have hrw2H := Lib.hid hrw2
            clear hrw2
            have hs2H := Lib.hid hs2
            clear hs2
            have j0H := Lib.hid j0
            clear j0
            go_wp2_with fail
            go_quiet (fail)
            go_wp2
            refine ⟨?rel, ?measure⟩
            case measure => (simp [intOf]; omega)
            case rel => first | exact (R1H.out _) | exact ⟨rfl, (R1H.out _)⟩ | ((try refine ⟨rfl, ?_⟩); (repeat apply Exists.intro); refine ⟨(R1H.out _), ?_⟩; ((repeat' apply And.intro) <;> rfl))
          · obtain ⟨A0, y, rfl⟩ : ∃ A0 y, A = A0 ++ [y] := ⟨A.dropLast, A.getLast hA0, (List.dropLast_concat_getLast hA0).symm⟩
            obtain ⟨jj, hjj⟩ : ∃ jj, a + A0.length = jj := ⟨_, rfl⟩
            have j0 : (a : Int) + ((A0 ++ [y]).length : Int) = (jj : Int) + 1 := by rw [List.length_append, List.length_singleton]; omega
            rw [j0]
            have hd : P ++ (A0 ++ [y]) ++ x :: B ++ M.drop (k + 1) ++ S = (P ++ A0) ++ y :: [] ++ x :: (B ++ M.drop (k + 1) ++ S) := by simp
            rw [hd] at hrw2
            have hgy : ((P ++ A0) ++ y :: [] ++ x :: (B ++ M.drop (k + 1) ++ S))[jj]? = some y := by rw [List.append_assoc]; exact get_mid (S := []) (by rw [List.length_append]; have := hPH.out; omega)
            have hgx : ((P ++ A0) ++ y :: [] ++ x :: (B ++ M.drop (k + 1) ++ S))[jj + 1]? = some x := get_mid (S := []) (by simp only [List.length_append, List.length_cons, List.length_nil]; have := hPH.out; omega)
            have hjn : jj + 1 < n := by
              have := hrw2.sl.1
              have h2 := (List.getElem?_eq_some_iff.1 hgx).1
              omega
            have x0 := hrw2.at_ hgx
            have y0 := hrw2.at_ hgy
            obtain ⟨v, hv⟩ : ∃ v, Lib.compareInt (vC C y) (vC C x) = v := ⟨_, rfl⟩
            have hvl : v < 0 ↔ (vC C y) < (vC C x) := by rw [← hv]; exact cmpI_lt
            have hw1 : IntKind.i64.wrap ((jj : Int) + 1 - 1) = (jj : Int) := by rw [IntKind.wrap_i64]; omega
            have haj : a ≤ jj := by omega
            have k0 : (0 : Int) ≤ (jj : Int) := by omega
            have k1 : (jj : Int) + 1 < (n : Int) := by omega
            have k2 : (jj : Int) < (n : Int) := by omega
            have k3 : (0 : Int) ≤ (jj : Int) + 1 := by omega
            have k4 : ((jj : Int) + 1).toNat = jj + 1 := by omega
            have k5 : (a : Int) < (jj : Int) + 1 := by omega
            have hw2 : IntKind.i64.wrap (jj : Int) = (jj : Int) := by rw [IntKind.wrap_i64]; omega
            have k6 : ¬ (jj : Int) < 0 := by omega
            clear hs hx
            have hMlH := Lib.hid hMl
            clear hMl
            have hsoH := Lib.hid hso
            clear hso
            have hclH := Lib.hid hcl
            clear hcl
            have hM1H := Lib.hid hM1
            clear hM1
            have hBxH := Lib.hid hBx
            clear hBx
            have hs2H := Lib.hid hs2
            clear hs2
            have j0H := Lib.hid j0
            clear j0
            have hdH := Lib.hid hd
            clear hd
            have hgyH := Lib.hid hgy
            clear hgy
            have hgxH := Lib.hid hgx
            clear hgx
            have hjjH := Lib.hid hjj
            clear hjj
            have hvlH := Lib.hid hvl
            clear hvl
            have hvH := Lib.hid hv
            clear hv
            have hrw2H := Lib.hid hrw2
            clear hrw2
            go_wp2_with fail
            refine wp_region_held_drew (S := (fun w' => w'.cell? ⟨b, off + (jj + 1), none⟩ = some (.int .i64 x) ∧ w'.cell? ⟨b, off + jj, none⟩ = some (.int .i64 y))) (by kernel_rfl) ⟨x0, y0⟩ (fun hHeld => ?_)
            clear x0 y0
            refine takeH (i := 0) (d := some 18) (v := ?_) rfl rfl (by kernel_rfl) (by kernel_rfl) (by kernel_rfl) (fun _ _ _ h => h) (Or.inl ⟨by rfl, ?_⟩) (by assumption) ?_
            rotate_left
            · (intro w hSw; (try dsimp only at hSw); go_simp; (try with_reducible rfl))
            (try simp only [Act.put, List.setIfInBounds_toArray, List.set_cons_zero, List.set_cons_succ])
            refine takeH (i := 1) (d := some 19) (v := ?_) rfl rfl (by kernel_rfl) (by kernel_rfl) (by kernel_rfl) (fun _ _ _ h => h) (Or.inl ⟨by rfl, ?_⟩) (by assumption) ?_
            rotate_left
            · (intro w hSw; (try dsimp only at hSw); go_simp; (try with_reducible rfl))
            (try simp only [Act.put, List.setIfInBounds_toArray, List.set_cons_zero, List.set_cons_succ])
            refine takeH (i := 2) (d := some 20) (v := ?_) rfl rfl (by kernel_rfl) (by kernel_rfl) (by kernel_rfl) (fun _ _ _ h => h) (Or.inl ⟨by rfl, ?_⟩) (by assumption) ?_
            rotate_left
            · (intro w hSw; (try dsimp only at hSw); go_simp; (try with_reducible rfl))
            (try simp only [Act.put, List.setIfInBounds_toArray, List.set_cons_zero, List.set_cons_succ])
            refine takeH (i := 3) (d := some 21) (v := ?_) rfl rfl (by kernel_rfl) (by kernel_rfl) (by kernel_rfl) (fun _ _ _ h => h) (Or.inl ⟨by rfl, ?_⟩) (by assumption) ?_
            rotate_left
            · (intro w hSw; (try dsimp only at hSw); go_simp; (try with_reducible rfl))
            (try simp only [Act.put, List.setIfInBounds_toArray, List.set_cons_zero, List.set_cons_succ])
            refine takeH (i := 4) (d := some 22) (v := ?_) rfl rfl (by kernel_rfl) (by kernel_rfl) (by kernel_rfl) (fun _ _ _ h => h) (Or.inl ⟨by rfl, ?_⟩) (by assumption) ?_
            rotate_left
            · (intro w hSw; (try dsimp only at hSw); go_simp; (try with_reducible rfl))
            (try simp only [Act.put, List.setIfInBounds_toArray, List.set_cons_zero, List.set_cons_succ])
            refine takeH (i := 5) (d := some 23) (v := ?_) rfl rfl (by kernel_rfl) (by kernel_rfl) (by kernel_rfl) (fun _ _ _ h => h) (Or.inl ⟨by rfl, ?_⟩) (by assumption) ?_
            rotate_left
            · (intro w hSw; (try dsimp only at hSw); go_simp; (try with_reducible rfl))
            (try simp only [Act.put, List.setIfInBounds_toArray, List.set_cons_zero, List.set_cons_succ])
            refine takeH (i := 6) (d := some 24) (v := ?_) rfl rfl (by kernel_rfl) (by kernel_rfl) (by kernel_rfl) (fun _ _ _ h => h) (Or.inl ⟨by rfl, ?_⟩) (by assumption) ?_
            rotate_left
            · (intro w hSw; (try dsimp only at hSw); go_simp; (try with_reducible rfl))
            (try simp only [Act.put, List.setIfInBounds_toArray, List.set_cons_zero, List.set_cons_succ])
            refine takeH (i := 7) (d := some 25) (v := ?_) rfl rfl (by kernel_rfl) (by kernel_rfl) (by kernel_rfl) (fun _ _ _ h => h) (Or.inl ⟨by rfl, ?_⟩) (by assumption) ?_
            rotate_left
            · (intro w hSw; (try dsimp only at hSw); go_simp; (try with_reducible rfl))
            (try simp only [Act.put, List.setIfInBounds_toArray, List.set_cons_zero, List.set_cons_succ])
            refine takeH (i := 8) (d := some 26) (v := ?_) rfl rfl (by kernel_rfl) (by kernel_rfl) (by kernel_rfl) (fun _ _ _ h => h) (Or.inl ⟨by rfl, ?_⟩) (by assumption) ?_
            rotate_left
            · (intro w hSw; (try dsimp only at hSw); go_simp; (try with_reducible rfl))
            (try simp only [Act.put, List.setIfInBounds_toArray, List.set_cons_zero, List.set_cons_succ])
            refine takeH (i := 9) (d := some 27) (v := ?_) rfl rfl (by kernel_rfl) (by kernel_rfl) (by kernel_rfl) (fun _ _ _ h => h) (Or.inl ⟨by rfl, ?_⟩) (by assumption) ?_
            rotate_left
            · (intro w hSw; (try dsimp only at hSw); go_simp; (try with_reducible rfl))
            (try simp only [Act.put, List.setIfInBounds_toArray, List.set_cons_zero, List.set_cons_succ])
            refine takeH (i := 10) (d := some 28) (v := ?_) rfl rfl (by kernel_rfl) (by kernel_rfl) (by kernel_rfl) (fun _ _ _ h => h) (Or.inl ⟨by rfl, ?_⟩) (by assumption) ?_
            rotate_left
            · (intro w hSw; (try dsimp only at hSw); go_simp; (try with_reducible rfl))
            (try simp only [Act.put, List.setIfInBounds_toArray, List.set_cons_zero, List.set_cons_succ])
            refine takeH (i := 11) (d := some 29) (v := ?_) rfl rfl (by kernel_rfl) (by kernel_rfl) (by kernel_rfl) (fun _ _ _ h => h) (Or.inl ⟨by rfl, ?_⟩) (by assumption) ?_
            rotate_left
            · (intro w hSw; (try dsimp only at hSw); go_simp; (try with_reducible rfl))
            (try simp only [Act.put, List.setIfInBounds_toArray, List.set_cons_zero, List.set_cons_succ])
            refine takeH (i := 12) (d := some 30) (v := ?_) rfl rfl (by kernel_rfl) (by kernel_rfl) (by kernel_rfl) (fun _ _ _ h => h) (Or.inl ⟨by rfl, ?_⟩) (by assumption) ?_
            rotate_left
            · (intro w hSw; (try dsimp only at hSw); go_simp; (try with_reducible rfl))
            (try simp only [Act.put, List.setIfInBounds_toArray, List.set_cons_zero, List.set_cons_succ])
            refine takeH (i := 13) (d := some 31) (v := ?_) rfl rfl (by kernel_rfl) (by kernel_rfl) (by kernel_rfl) (fun _ _ _ h => h) (Or.inl ⟨by rfl, ?_⟩) (by assumption) ?_
            rotate_left
            · (intro w hSw; (try dsimp only at hSw); go_simp; (try with_reducible rfl))
            (try simp only [Act.put, List.setIfInBounds_toArray, List.set_cons_zero, List.set_cons_succ])
            refine wpAnyH_ready (rs := [14]) (by kernel_rfl) (by simp) ?_
            refine AllReadyH.cons (i := 14) rfl (fun K hK => ?_) AllReadyH.nil
            go_simp
            go_at_call 32
            refine (cmp_any C x y _ v (hrw2H.out.cr.below (Below.refl _ _).drew) (hrw2H.out.in_ hgxH.out) (hrw2H.out.in_ hgyH.out) hvH.out).mono ?_
            rintro e w2 ⟨rfl, hb2⟩
            have hb2a : Below wr.heap.size wr w2 := by first | exact hb2 | exact (Below.refl _ _).drew.trans hb2
            replace hHeld := keep2i hb2 hHeld
            have hHeld2 := hHeld
            have hrw3 := hrw2H.out.below hb2a
            have hs3 := hs2H.out.trans (Srt.of_below hb2a)
            clear hb2 hb2a
            have hrw3H := Lib.hid hrw3
            clear hrw3
            have hs3H := Lib.hid hs3
            clear hs3
            have hHeld2H := Lib.hid hHeld2
            clear hHeld2
            refine hK.out _ _ hHeld (fun hHeld => ?_)
            clear hK K
            (try simp only [Act.put, List.setIfInBounds_toArray, List.set_cons_zero, List.set_cons_succ])
            clear hHeld
            refine takeH (i := 15) (d := some 33) (v := ?_) rfl rfl (by kernel_rfl) (by kernel_rfl) (by kernel_rfl) (fun _ _ _ h => h) (Or.inl ⟨by rfl, ?_⟩) (by assumption) ?_
            rotate_left
            · (intro w hSw; (try dsimp only at hSw); go_simp; (try with_reducible rfl))
            (try simp only [Act.put, List.setIfInBounds_toArray, List.set_cons_zero, List.set_cons_succ])
            refine takeH (i := 16) (d := some 34) (v := ?_) rfl rfl (by kernel_rfl) (by kernel_rfl) (by kernel_rfl) (fun _ _ _ h => h) (Or.inl ⟨by rfl, ?_⟩) (by assumption) ?_
            rotate_left
            · (intro w hSw; (try dsimp only at hSw); go_simp; (try with_reducible rfl))
            (try simp only [Act.put, List.setIfInBounds_toArray, List.set_cons_zero, List.set_cons_succ])
            refine wpAnyH_done (by kernel_rfl) ?_ _
            by_cases hc : v < 0
            · have hA2 : (fI C) x < (fI C) y := by unfold fI; have := hvlH.out.1 hc; omega
              have R1 : InI C P M1 (M.drop (k + 1)) S x a b off n wa (.int .i64 (jj : Int)) (exW w2 b off (jj + 1) jj x y).drew := by
                have hsw := (hrw3H.out.swap2 (i := jj) (j := jj + 1) (by rw [List.length_append]; have := hPH.out; have := hjjH.out; omega) (by simp)).drew
                refine ⟨A0, y :: B, by have := hjjH.out; congr 1; omega, by rw [hM1H.out]; simp, fun z hz => ?_, by simpa using hsw, (hs3H.out.trans (exW_srt _ _ _ _ _ _ _)).trans Srt.drew⟩
                rcases List.mem_cons.1 hz with rfl | hz
                · exact hA2
                · exact hBxH.out z hz
              have fz := hrw3H.out.fz
              have f0 := fz jj
              have f2 := fz (jj + 1)
              obtain ⟨x0, y0⟩ := hHeld2H.out
              unfold exW at R1
              clear fz hHeld2H
              have R1H := Lib.hid R1
              clear R1
              have hA2H := Lib.hid hA2
              clear hA2
              go_wp2_with fail
              go_region
              go_wp2
              refine ⟨?rel, ?measure⟩
              case measure => exact (by simp [intOf] <;> omega)
              case rel => first | exact R1H.out | exact ⟨rfl, R1H.out⟩ | ((try refine ⟨rfl, ?_⟩); (repeat apply Exists.intro); refine ⟨R1H.out, ?_⟩; ((repeat' apply And.intro) <;> rfl))
            · have hA2 : (fI C) y ≤ (fI C) x := by unfold fI; have : ¬ (vC C y) < (vC C x) := fun h => hc (hvlH.out.2 h); omega
              have hMl := hMlH.out
              have hso := hsoH.out
              have hcl := hclH.out
              have hM1 := hM1H.out
              have hBx := hBxH.out
              have hx := hxH.out
              have hrw4 : RowI C w2 b off n (P ++ (A0 ++ [y]) ++ x :: B ++ M.drop (k + 1) ++ S) := by rw [hdH.out]; exact hrw3H.out
              have hst := ins_step C (A := (A0 ++ [y])) (B := B) (T := M.take k) hso (fun z hz => by rw [List.getLast?_append] at hz; simp at hz; rw [← hz]; exact hA2) hBx hcl
              have R1 : InO C P M S a b off n w (.int .i64 ((a : Int) + (k : Int) + 1)) w2 := by
                refine ⟨k + 1, (A0 ++ [y]) ++ x :: B, by omega, hkM2, by go_num, by rw [hM1] at hMl; simp only [List.length_append, List.length_cons] at hMl ⊢; omega, hst.1, ?_, by simpa using hrw4, hsH.out.trans hs3H.out⟩
                rw [List.take_add_one, hx]
                exact hst.2
              clear hst hso hcl hMl hx hM1 hBx hrw4
              have R1H := Lib.hid R1
              clear R1
              have hA2H := Lib.hid hA2
              clear hA2
              go_wp2
              refine ⟨?rel, ?measure⟩
              case measure => (simp [intOf]; omega)
              case rel => first | exact R1H.out | exact ⟨rfl, R1H.out⟩ | ((try refine ⟨rfl, ?_⟩); (repeat apply Exists.intro); refine ⟨R1H.out, ?_⟩; ((repeat' apply And.intro) <;> rfl))
      · have hka : a + k = e := by omega
        have hMk : M.drop k = [] := List.drop_eq_nil_of_le (by have := heH.out; omega)
        have hMt : M.take k = M := List.take_of_length_le (by have := heH.out; omega)
        rw [hMk, List.append_nil] at hrw
        rw [hMt] at hcl
        have hrwH := Lib.hid hrw
        clear hrw
        have hclH := Lib.hid hcl
        clear hcl
        have hsoH := Lib.hid hso
        clear hso
        have hsH := Lib.hid hs
        clear hs
        have hMlH := Lib.hid hMl
        clear hMl
        have hMkH := Lib.hid hMk
        clear hMk
        have hMtH := Lib.hid hMt
        clear hMt
        have hkaH := Lib.hid hka
        clear hka
        go_wp2
        go_end0
        exact ⟨rfl, M1, hsoH.out, hclH.out, hrwH.out, hsH.out⟩
end Go.Proofs.YtbapkhkklglbaaaDoor.C9
