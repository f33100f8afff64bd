/-
  Text of histories, of the reference.
-/
import Derived.Test.YtpmnkhklfoknhaaGreatDoorTxtBC10
namespace Go.Proofs.YtpmnkhklfoknhaaGreatDoor.C10
open Go.ChangeShapes Go.WideShapes Go.Deep Go.RowKit
set_option linter.unusedVariables false

theorem rpass_any (b : Bool) (w : World) : Calls Tryz.prog 31 #[.bool b] w fun e w' => e = .returned (.string (passB b)) ∧ w = w' := by
  cases b
  · go_enter Tryz.func31, Tryz.ntmps31
    go_wp2
    go_ret
    exact ⟨rfl, rfl⟩
  · go_enter Tryz.func31, Tryz.ntmps31
    go_wp2
    go_ret
    exact ⟨rfl, rfl⟩
theorem bsL_snoc (a b : List UInt8) (t : ByteArray) (h : t.data.toList = b) : bsL (a ++ b) = bsL a ++ t := by
  subst h
  apply ByteArray.ext
  simp [bsL]
def RTxRel (l : List TestRun) (w1 : World) (v i : Value) (wr : World) : Prop :=
  ∃ k : Nat, k ≤ l.length ∧ i = .int .i64 k ∧ v = .string (bsL (textT (l.take k))) ∧ Below w1.heap.size w1 wr
set_option maxRecDepth 100000 in
set_option maxHeartbeats 8000000 in
theorem rtext_any (A : Option Addr) (n c : Nat) (l : List TestRun) (w : World) (hm : MaxLenAt w) (ht : PowJ w) (hl : SlAt RTestRun w A n l) (hsz : ∀ r ∈ l, r.test.size < 4294967281) (t : ByteArray) (cc : Int) (hF : textR l = (t, cc)) :
    Calls Tryz.prog 13 #[.slice A n c] w fun e w' => e = .returned (.tuple #[.string t, .int .i64 cc]) ∧ Below w.heap.size w w' := by
  unfold textR at hF
  obtain ⟨h, hh⟩ : ∃ h, histF l = h := ⟨_, rfl⟩
  rw [hh] at hF
  have hmH := Lib.hid hm
  clear hm
  have htH := Lib.hid ht
  clear ht
  have hlH := Lib.hid hl
  clear hl
  have hhH := Lib.hid hh
  clear hh
  have hszH := Lib.hid hsz
  clear hsz
  go_enter Tryz.func13, Tryz.ntmps13
  go_wp2_with fail
  refine (rhist_any A n c l _ hmH.out hlH.out hszH.out h hhH.out).mono ?_
  rintro e w1 ⟨rfl, hb1⟩
  have hb1H := Lib.hid hb1
  clear hb1
  by_cases e0 : h = 0
  · subst e0
    rw [if_pos rfl] at hF
    have hg := hist_good hhH.out
    have hll := hlH.out.1
    have hln : l.length ≤ 3000 := by
      have := hhH.out
      unfold histF at this
      split at this
      · assumption
      · cases this
    have hgH := Lib.hid hg
    clear hg
    have hllH := Lib.hid hll
    clear hll
    have hFH := Lib.hid hF
    clear hF
    go_wp2_with fail
    go_loopw [5, 15] (fun v i wr => RTxRel l w1 v i wr) (fun _ i _ => n - (intOf i).toNat)
    case atStart => exact ⟨0, Nat.zero_le _, rfl, rfl, Below.refl _ _⟩
    case round =>
      obtain ⟨k, hk, rfl, rfl, hb⟩ := hrel
      have hkn : k ≤ n := by have := hllH.out; omega
      have hts := textT_size (l.take k) (fun r hr => hgH.out r (List.mem_of_mem_take hr))
      rw [List.length_take] at hts
      by_cases hlt : k < n
      · obtain ⟨b, off, hA, _⟩ := hlH.out.2.1 (by omega)
        subst hA
        obtain ⟨r, hr⟩ : ∃ r, l[k]? = some r := ⟨l[k]'(by have := hllH.out; omega), List.getElem?_eq_getElem _⟩
        have hbr : Below w.heap.size w wr := hb1H.out.trans (hb.mono hb1H.out.size)
        obtain ⟨c0, c1, c2, c3, c4⟩ := cells_TestRun (hlH.out.below hbr) hr
        have hrg := hgH.out r (List.mem_of_getElem? hr)
        have hst := textT_step hr
        obtain ⟨jn, hjn⟩ : ∃ z : ByteArray, z = ⟨(Lib.join ((wordsT r).map (·.data.toList)) [32]).toArray⟩ := ⟨_, rfl⟩
        have hjz : jn.size + 1 ≤ 2021 := by
          have := lineT_size hrg
          unfold lineL at this
          rw [List.length_append, List.length_singleton] at this
          rw [hjn]
          show (Lib.join ((wordsT r).map (·.data.toList)) [32]).toArray.size + 1 ≤ 2021
          rw [List.size_toArray]; exact this
        obtain ⟨t1, et1⟩ : ∃ z, jn ++ ⟨#[10]⟩ = z := ⟨_, rfl⟩
        have z1 : t1.size = jn.size + 1 := by rw [← et1, ByteArray.size_append]; rfl
        have e1 : ∀ w : World, (Op.stringOp .add jn ⟨#[10]⟩).run Tryz.prog w = .ok (.string t1) w := fun w => by rw [← et1]; exact run_string_add_sum w _ _ (by show jn.size + 1 ≤ _; omega)
        have hd1 : t1.data.toList = lineL (wordsT r) := by rw [← et1, hjn]; simp [lineL]
        obtain ⟨pre, hpre⟩ : ∃ z, bsL (textT (l.take k)) = z := ⟨_, rfl⟩
        have hpz : pre.size = (textT (l.take k)).length := by rw [← hpre, bsL_size]
        obtain ⟨t2, et2⟩ : ∃ z, pre ++ t1 = z := ⟨_, rfl⟩
        have e2 : ∀ w : World, (Op.stringOp .add pre t1).run Tryz.prog w = .ok (.string t2) w := fun w => by rw [← et2]; exact run_string_add_sum w _ _ (by omega)
        have hst2 : bsL (textT (l.take (k + 1))) = t2 := by rw [hst, bsL_snoc _ _ _ hd1, hpre, et2]
        rw [hpre]
        clear hst et2 hpz
        have hws : wordsT r = [itoJ r.at_, r.test, r.key, passB r.pass, itoJ r.seconds] := rfl
        have hwz := wordsT_size hrg
        have hI1 : I64 r.at_ := ⟨by have := hrg.at0; omega, by have := hrg.at0; omega⟩
        have hI2 : I64 r.seconds := ⟨by have := hrg.sec; omega, by have := hrg.sec; omega⟩
        obtain ⟨ps, hps⟩ : ∃ p, passB r.pass = p := ⟨_, rfl⟩
        rw [hps] at hws
        obtain ⟨i1, hi1⟩ : ∃ z, itoJ r.at_ = z := ⟨_, rfl⟩
        obtain ⟨i2, hi2⟩ : ∃ z, itoJ r.seconds = z := ⟨_, rfl⟩
        rw [hi1, hi2] at hws
        have hJ1 := fun (W : World) (h : PowJ W) => itoJ_any r.at_ hI1 W h
        have hJ2 := fun (W : World) (h : PowJ W) => itoJ_any r.seconds hI2 W h
        rw [hi1] at hJ1
        rw [hi2] at hJ2
        rw [hws] at hjn hwz
        have hz5 : ∀ y ∈ [i1, r.test, r.key, ps, i2], y.size ≤ maxLen := fun y hy => by have := hwz y hy; unfold maxLen; omega
        obtain ⟨x0, x1, x2, x3, x4⟩ := newJ5 wr (.string r.test) (.string r.key) (.int .i64 r.at_) (.bool r.pass) (.int .i64 r.seconds) 40
        have hal := hb.alloc hb.size (.cells #[.string r.test, .string r.key, .int .i64 r.at_, .bool r.pass, .int .i64 r.seconds] 40)
        have hpa := (htH.out.below hbr).below (allocBel wr (.cells #[.string r.test, .string r.key, .int .i64 r.at_, .bool r.pass, .int .i64 r.seconds] 40))
        have hkl : k + 1 ≤ l.length := by have := hllH.out; omega
        obtain ⟨wa, hwa⟩ : ∃ W, W = wr.alloc (.cells #[.string r.test, .string r.key, .int .i64 r.at_, .bool r.pass, .int .i64 r.seconds] 40) := ⟨_, rfl⟩
        rw [← hwa] at x0 x1 x2 x3 x4 hal hpa
        clear hws hi1 hi2 hd1 et1 hI1 hI2 hrg
        have hrH := Lib.hid hr
        clear hr
        have hbH := Lib.hid hb
        clear hb
        have hbrH := Lib.hid hbr
        clear hbr
        have hst2H := Lib.hid hst2
        clear hst2
        have hjnH := Lib.hid hjn
        clear hjn
        have hjzH := Lib.hid hjz
        clear hjz
        have z1H := Lib.hid z1
        clear z1
        have hwzH := Lib.hid hwz
        clear hwz
        have hJ1H := Lib.hid hJ1
        clear hJ1
        have hJ2H := Lib.hid hJ2
        clear hJ2
        have hz5H := Lib.hid hz5
        clear hz5
        have halH := Lib.hid hal
        clear hal
        have hpaH := Lib.hid hpa
        clear hpa
        have hklH := Lib.hid hkl
        clear hkl
        have hwaH := Lib.hid hwa
        clear hwa
        have htsH := Lib.hid hts
        clear hts
        have hpsH := Lib.hid hps
        clear hps
        have hpreH := Lib.hid hpre
        clear hpre
        go_wp2_with fail
        rw [← hwaH.out]
        refine wp_region_held_drew (S := (fun w' => w'.cell? ⟨wr.heap.size, 0, none⟩ = some (.string r.test) ∧ w'.cell? ⟨wr.heap.size, 1, none⟩ = some (.string r.key) ∧ w'.cell? ⟨wr.heap.size, 2, none⟩ = some (.int .i64 r.at_) ∧ w'.cell? ⟨wr.heap.size, 3, none⟩ = some (.bool r.pass) ∧ w'.cell? ⟨wr.heap.size, 4, none⟩ = some (.int .i64 r.seconds))) (by kernel_rfl) ⟨x0, x1, x2, x3, x4⟩ (fun hHeld => ?_)
        clear x0 x1 x2 x3 x4
        refine takeH (i := 0) (d := some 19) (v := ?_) rfl rfl (by kernel_rfl) (by kernel_rfl) (by kernel_rfl) (fun _ _ _ h => h) (Or.inl ⟨by rfl, ?_⟩) (by assumption) ?_
        rotate_left
        · (intro w hSw; (try dsimp only at hSw); go_simp; (try with_reducible rfl))
        (try simp only [Act.put, List.setIfInBounds_toArray, List.set_cons_zero, List.set_cons_succ])
        refine takeH (i := 1) (d := some 20) (v := ?_) rfl rfl (by kernel_rfl) (by kernel_rfl) (by kernel_rfl) (fun _ _ _ h => h) (Or.inl ⟨by rfl, ?_⟩) (by assumption) ?_
        rotate_left
        · (intro w hSw; (try dsimp only at hSw); go_simp; (try with_reducible rfl))
        (try simp only [Act.put, List.setIfInBounds_toArray, List.set_cons_zero, List.set_cons_succ])
        refine takeH (i := 2) (d := some 21) (v := ?_) rfl rfl (by kernel_rfl) (by kernel_rfl) (by kernel_rfl) (fun _ _ _ h => h) (Or.inl ⟨by rfl, ?_⟩) (by assumption) ?_
        rotate_left
        · (intro w hSw; (try dsimp only at hSw); go_simp; (try with_reducible rfl))
        (try simp only [Act.put, List.setIfInBounds_toArray, List.set_cons_zero, List.set_cons_succ])
        refine takeH (i := 4) (d := some 23) (v := ?_) rfl rfl (by kernel_rfl) (by kernel_rfl) (by kernel_rfl) (fun _ _ _ h => h) (Or.inl ⟨by rfl, ?_⟩) (by assumption) ?_
        rotate_left
        · (intro w hSw; (try dsimp only at hSw); go_simp; (try with_reducible rfl))
        (try simp only [Act.put, List.setIfInBounds_toArray, List.set_cons_zero, List.set_cons_succ])
        refine takeH (i := 5) (d := some 24) (v := ?_) rfl rfl (by kernel_rfl) (by kernel_rfl) (by kernel_rfl) (fun _ _ _ h => h) (Or.inl ⟨by rfl, ?_⟩) (by assumption) ?_
        rotate_left
        · (intro w hSw; (try dsimp only at hSw); go_simp; (try with_reducible rfl))
        (try simp only [Act.put, List.setIfInBounds_toArray, List.set_cons_zero, List.set_cons_succ])
        refine takeH (i := 6) (d := some 25) (v := ?_) rfl rfl (by kernel_rfl) (by kernel_rfl) (by kernel_rfl) (fun _ _ _ h => h) (Or.inl ⟨by rfl, ?_⟩) (by assumption) ?_
        rotate_left
        · (intro w hSw; (try dsimp only at hSw); go_simp; (try with_reducible rfl))
        (try simp only [Act.put, List.setIfInBounds_toArray, List.set_cons_zero, List.set_cons_succ])
        refine takeH (i := 7) (d := some 26) (v := ?_) rfl rfl (by kernel_rfl) (by kernel_rfl) (by kernel_rfl) (fun _ _ _ h => h) (Or.inl ⟨by rfl, ?_⟩) (by assumption) ?_
        rotate_left
        · (intro w hSw; (try dsimp only at hSw); go_simp; (try with_reducible rfl))
        (try simp only [Act.put, List.setIfInBounds_toArray, List.set_cons_zero, List.set_cons_succ])
        refine takeH (i := 8) (d := some 27) (v := ?_) rfl rfl (by kernel_rfl) (by kernel_rfl) (by kernel_rfl) (fun _ _ _ h => h) (Or.inl ⟨by rfl, ?_⟩) (by assumption) ?_
        rotate_left
        · (intro w hSw; (try dsimp only at hSw); go_simp; (try with_reducible rfl))
        (try simp only [Act.put, List.setIfInBounds_toArray, List.set_cons_zero, List.set_cons_succ])
        refine takeH (i := 9) (d := some 28) (v := ?_) rfl rfl (by kernel_rfl) (by kernel_rfl) (by kernel_rfl) (fun _ _ _ h => h) (Or.inl ⟨by rfl, ?_⟩) (by assumption) ?_
        rotate_left
        · (intro w hSw; (try dsimp only at hSw); go_simp; (try with_reducible rfl))
        (try simp only [Act.put, List.setIfInBounds_toArray, List.set_cons_zero, List.set_cons_succ])
        refine takeH (i := 11) (d := some 30) (v := ?_) rfl rfl (by kernel_rfl) (by kernel_rfl) (by kernel_rfl) (fun _ _ _ h => h) (Or.inl ⟨by rfl, ?_⟩) (by assumption) ?_
        rotate_left
        · (intro w hSw; (try dsimp only at hSw); go_simp; (try with_reducible rfl))
        (try simp only [Act.put, List.setIfInBounds_toArray, List.set_cons_zero, List.set_cons_succ])
        refine takeH (i := 12) (d := some 31) (v := ?_) rfl rfl (by kernel_rfl) (by kernel_rfl) (by kernel_rfl) (fun _ _ _ h => h) (Or.inl ⟨by rfl, ?_⟩) (by assumption) ?_
        rotate_left
        · (intro w hSw; (try dsimp only at hSw); go_simp; (try with_reducible rfl))
        (try simp only [Act.put, List.setIfInBounds_toArray, List.set_cons_zero, List.set_cons_succ])
        refine wpAnyH_ready (rs := [3]) (by kernel_rfl) (by simp) ?_
        refine AllReadyH.cons (i := 3) rfl (fun K hK => ?_) AllReadyH.nil
        go_simp
        go_at_call 25
        refine (hJ1H.out _ (hpaH.out.below (by first | exact Below.refl _ _ | exact (Below.refl _ _).drew))).mono ?_
        rintro e w2 ⟨rfl, hb2⟩
        have hb2a : Below wa.heap.size wa w2 := by first | exact hb2 | exact (Below.refl _ _).drew.trans hb2
        replace hHeld := keepJ5 hb2 hHeld
        clear hb2
        refine hK.out _ _ hHeld (fun hHeld => ?_)
        clear hK K
        (try simp only [Act.put, List.setIfInBounds_toArray, List.set_cons_zero, List.set_cons_succ])
        refine wpAnyH_ready (rs := [10]) (by kernel_rfl) (by simp) ?_
        refine AllReadyH.cons (i := 10) rfl (fun K hK => ?_) AllReadyH.nil
        go_simp
        go_at_call 31
        refine (rpass_any r.pass _).mono ?_
        rw [hpsH.out]
        rintro e w2b ⟨rfl, rfl⟩
        refine hK.out _ _ hHeld (fun hHeld => ?_)
        clear hK K
        (try simp only [Act.put, List.setIfInBounds_toArray, List.set_cons_zero, List.set_cons_succ])
        refine wpAnyH_ready (rs := [13]) (by kernel_rfl) (by simp) ?_
        refine AllReadyH.cons (i := 13) rfl (fun K hK => ?_) AllReadyH.nil
        go_simp
        go_at_call 25
        refine (hJ2H.out _ (hpaH.out.below hb2a)).mono ?_
        rintro e w3 ⟨rfl, hb3⟩
        replace hHeld := keepJ5 hb3 hHeld
        have hb3a := hb2a.trans (hb3.mono hb2a.size)
        clear hb2a hb3
        refine hK.out _ _ hHeld (fun hHeld => ?_)
        clear hK K
        (try simp only [Act.put, List.setIfInBounds_toArray, List.set_cons_zero, List.set_cons_succ])
        refine wpAnyH_ready (rs := [14]) (by kernel_rfl) (by simp) ?_
        refine AllReadyH.cons (i := 14) rfl (fun K hK => ?_) AllReadyH.nil
        go_simp
        replace hHeld := keepJ5 (allocBel w3 (.cells #[.string i1, .string r.test, .string r.key, .string ps, .string i2] 9)) hHeld
        refine hK.out _ _ hHeld (fun hHeld => ?_)
        clear hK K
        (try simp only [Act.put, List.setIfInBounds_toArray, List.set_cons_zero, List.set_cons_succ])
        refine wpAnyH_ready (rs := [15]) (by kernel_rfl) (by simp) ?_
        refine AllReadyH.cons (i := 15) rfl (fun K hK => ?_) AllReadyH.nil
        go_simp
        go_at_call 24
        refine (joinJ_own _ [i1, r.test, r.key, ps, i2] _ w3.heap.size (ownJ_five w3 i1 r.test r.key ps i2 hz5H.out) (by simp) (by simp) (fun y hy => by have := hwzH.out y hy; omega)).mono ?_
        rw [← hjnH.out]
        rintro e w4 ⟨rfl, hb4⟩
        replace hHeld := keepJ5 hb4 hHeld
        have hb4a := (hb3a.alloc hb3a.size _).trans (hb4.mono (by have := hb3a.size; simp; omega))
        have R : RTxRel l w1 (.string t2) (.int .i64 (k + 1)) w4 := ⟨k + 1, hklH.out, by go_num, by rw [hst2H.out], halH.out.trans (hb4a.mono halH.out.size)⟩
        have RH := Lib.hid R
        clear R
        clear hb3a hb4 hb4a
        refine hK.out _ _ hHeld (fun hHeld => ?_)
        clear hK K
        (try simp only [Act.put, List.setIfInBounds_toArray, List.set_cons_zero, List.set_cons_succ])
        refine takeH (i := 16) (d := some 35) (v := ?_) rfl rfl (by kernel_rfl) (by kernel_rfl) (by kernel_rfl) (fun _ _ _ h => h) (Or.inl ⟨by rfl, ?_⟩) (by assumption) ?_
        rotate_left
        · (intro w hSw; (try dsimp only at hSw); go_simp; (try with_reducible rfl))
        (try simp only [Act.put, List.setIfInBounds_toArray, List.set_cons_zero, List.set_cons_succ])
        refine takeH (i := 17) (d := some 36) (v := ?_) rfl rfl (by kernel_rfl) (by kernel_rfl) (by kernel_rfl) (fun _ _ _ h => h) (Or.inl ⟨by rfl, ?_⟩) (by assumption) ?_
        rotate_left
        · (intro w hSw; (try dsimp only at hSw); go_simp; (try with_reducible rfl))
        (try simp only [Act.put, List.setIfInBounds_toArray, List.set_cons_zero, List.set_cons_succ])
        refine takeH (i := 18) (d := some 5) (v := ?_) rfl rfl (by kernel_rfl) (by kernel_rfl) (by kernel_rfl) (fun _ _ _ h => h) (Or.inl ⟨by rfl, ?_⟩) (by assumption) ?_
        rotate_left
        · (intro w hSw; (try dsimp only at hSw); go_simp; (try with_reducible rfl))
        (try simp only [Act.put, List.setIfInBounds_toArray, List.set_cons_zero, List.set_cons_succ])
        refine wpAnyH_done (by kernel_rfl) ?_ _
        go_wp2
        refine ⟨?rel, ?measure⟩
        case measure => (simp [intOf]; omega)
        case rel => first | exact RH.out | exact ⟨rfl, RH.out⟩ | ((try refine ⟨rfl, ?_⟩); (repeat apply Exists.intro); refine ⟨RH.out, ?_⟩; ((repeat' apply And.intro) <;> rfl))
      · obtain rfl : k = n := by omega
        have e : l.take k = l := List.take_of_length_le (by have := hllH.out; omega)
        rw [e] at hts ⊢
        have hbr : Below w.heap.size w wr := hb1H.out.trans (hb.mono hb1H.out.size)
        have hF := hFH.out
        clear hFH
        have hbz := bsL_size (textT l)
        have hbH := Lib.hid hb
        clear hb
        have hbrH := Lib.hid hbr
        clear hbr
        have eH := Lib.hid e
        clear e
        by_cases h9 : (textT l).length ≤ 900000
        · obtain ⟨rfl, rfl⟩ : bsL (textT l) = t ∧ 0 = cc := by rw [if_pos h9] at hF; exact Prod.mk.inj hF
          have h9n : ¬ (900000 : Int) < ((bsL (textT l)).size : Int) := by omega
          obtain ⟨L, hL⟩ : ∃ L, bsL (textT l) = L := ⟨_, rfl⟩
          rw [hL] at h9n ⊢
          clear hF hts hbz
          go_wp2
          go_ret2
          exact ⟨by first | rfl | rw [hL], hbrH.out⟩
        · obtain ⟨rfl, rfl⟩ : ⟨#[]⟩ = t ∧ 2 = cc := by rw [if_neg h9] at hF; exact Prod.mk.inj hF
          have h9n : (900000 : Int) < ((bsL (textT l)).size : Int) := by omega
          obtain ⟨L, hL⟩ : ∃ L, bsL (textT l) = L := ⟨_, rfl⟩
          rw [hL] at h9n ⊢
          clear hF hts hbz
          go_wp2
          go_ret2
          exact ⟨rfl, hbrH.out⟩
  · obtain ⟨rfl, rfl⟩ : ⟨#[]⟩ = t ∧ h = cc := by rw [if_neg e0] at hF; exact Prod.mk.inj hF
    have e1 : (h != 0) = true := by simpa using e0
    clear e0 hF
    go_wp2
    go_ret2
    exact ⟨rfl, hb1H.out⟩
end Go.Proofs.YtpmnkhklfoknhaaGreatDoor.C10
