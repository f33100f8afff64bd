/-
  Text of runs, of the reference.
-/
import Derived.Test.YtpmnkhklfoknhaaGreatDoorTxtCC9
import Derived.Test.YtpmnkhklfoknhaaGreatDoorLineRWC9
namespace Go.Proofs.YtpmnkhklfoknhaaGreatDoor.C9
open Go.ChangeShapes Go.WideShapes Go.Deep Go.RowKit
set_option linter.unusedVariables false

theorem bsL_snoc (a b : List UInt8) (t : ByteArray) (h : t.data.toList = b) : bsL (a ++ b) = bsL a ++ t := by
  subst h
  apply ByteArray.ext
  simp [bsL]
def RTxRel (l : List Run) (w1 : World) (v i : Value) (wr : World) : Prop :=
  ∃ k : Nat, k ≤ l.length ∧ i = .int .i64 k ∧ v = .string (bsL (textT (l.take k))) ∧ Below w1.heap.size w1 wr
theorem ENDS_small : ENDS.size < 4294967281 := by decide +kernel
set_option maxRecDepth 100000 in
set_option maxHeartbeats 8000000 in
theorem rtext_any (A : Option Addr) (n c : Nat) (l : List Run) (w : World) (hm : MaxLenAt w) (ht : PowJ w) (hl : SlAt RRun w A n l) (t : ByteArray) (cc : Int) (hF : textR l = (t, cc)) :
    Calls Tryz.prog 11 #[.slice A n c] w fun e w' => e = .returned (.tuple #[.string t, .int .i64 cc]) ∧ Below w.heap.size w w' := by
  unfold textR at hF
  obtain ⟨h, hh⟩ : ∃ h, runsF l = h := ⟨_, rfl⟩
  rw [hh] at hF
  have hmH := Lib.hid hm
  clear hm
  have htH := Lib.hid ht
  clear ht
  have hlH := Lib.hid hl
  clear hl
  have hhH := Lib.hid hh
  clear hh
  go_enter Tryz.func11, Tryz.ntmps11
  go_wp2_with fail
  refine (rruns_any A n c l _ hlH.out h hhH.out).mono ?_
  rintro e w1 ⟨rfl, hb1⟩
  have hb1H := Lib.hid hb1
  clear hb1
  by_cases e0 : h = 0
  · subst e0
    rw [if_pos rfl] at hF
    have hg := runs_good hhH.out
    have hll := hlH.out.1
    have hln : l.length ≤ 4000 := by
      have := hhH.out
      unfold runsF at this
      split at this
      · assumption
      · cases this
    have hgH := Lib.hid hg
    clear hg
    have hllH := Lib.hid hll
    clear hll
    have hFH := Lib.hid hF
    clear hF
    go_wp2_with fail
    go_loopw [5, 15] (fun v i wr => RTxRel l w1 v i wr) (fun _ i _ => n - (intOf i).toNat)
    case atStart => exact ⟨0, Nat.zero_le _, rfl, rfl, Below.refl _ _⟩
    case round =>
      obtain ⟨k, hk, rfl, rfl, hb⟩ := hrel
      have hkn : k ≤ n := by have := hllH.out; omega
      have hts := textT_size (l.take k) (fun r hr => hgH.out r (List.mem_of_mem_take hr))
      rw [List.length_take] at hts
      by_cases hlt : k < n
      · obtain ⟨b, off, hA, _⟩ := hlH.out.2.1 (by omega)
        subst hA
        obtain ⟨r, hr⟩ : ∃ r, l[k]? = some r := ⟨l[k]'(by have := hllH.out; omega), List.getElem?_eq_getElem _⟩
        have hbr : Below w.heap.size w wr := hb1H.out.trans (hb.mono hb1H.out.size)
        obtain ⟨c0, c1, c2, c3, c4⟩ := cells_Run (hlH.out.below hbr) hr
        have hrg := hgH.out r (List.mem_of_getElem? hr)
        have hst := textT_step hr
        obtain ⟨jn, hjn⟩ : ∃ z : ByteArray, z = ⟨(Lib.join ((wordsT r).map (·.data.toList)) [32]).toArray⟩ := ⟨_, rfl⟩
        have hjz : jn.size + 1 ≤ 2021 := by
          have := lineT_size hrg
          unfold lineL at this
          rw [List.length_append, List.length_singleton] at this
          rw [hjn]
          show (Lib.join ((wordsT r).map (·.data.toList)) [32]).toArray.size + 1 ≤ 2021
          rw [List.size_toArray]; exact this
        obtain ⟨t1, et1⟩ : ∃ z, jn ++ ⟨#[10]⟩ = z := ⟨_, rfl⟩
        have z1 : t1.size = jn.size + 1 := by rw [← et1, ByteArray.size_append]; rfl
        have e1 : ∀ w : World, (Op.stringOp .add jn ⟨#[10]⟩).run Tryz.prog w = .ok (.string t1) w := fun w => by rw [← et1]; exact run_string_add_sum w _ _ (by show jn.size + 1 ≤ _; omega)
        have hd1 : t1.data.toList = lineL (wordsT r) := by rw [← et1, hjn]; simp [lineL]
        obtain ⟨pre, hpre⟩ : ∃ z, bsL (textT (l.take k)) = z := ⟨_, rfl⟩
        have hpz : pre.size = (textT (l.take k)).length := by rw [← hpre, bsL_size]
        obtain ⟨t2, et2⟩ : ∃ z, pre ++ t1 = z := ⟨_, rfl⟩
        have e2 : ∀ w : World, (Op.stringOp .add pre t1).run Tryz.prog w = .ok (.string t2) w := fun w => by rw [← et2]; exact run_string_add_sum w _ _ (by omega)
        have hst2 : bsL (textT (l.take (k + 1))) = t2 := by rw [hst, bsL_snoc _ _ _ hd1, hpre, et2]
        rw [hpre]
        clear hst et2 hpz
        have hwz := wordsT_size hrg
        have hws : wordsT r = [itoJ r.from_, itoJ r.to_, endB r.end_, r.id_, r.worker] := rfl
        have hI1 : I64 r.from_ := ⟨by have := hrg.from_; omega, by have := hrg.from_; omega⟩
        have hI2 : I64 r.to_ := ⟨by have := hrg.to_; omega, by have := hrg.to_; omega⟩
        have hen := hrg.end_
        obtain ⟨rid, rwk, rfr, rto, rend⟩ := r
        simp only at c0 c1 c2 c3 c4 hws hI1 hI2 hen
        obtain ⟨en, rfl⟩ : ∃ en : Nat, rend = (en : Int) + 1 := ⟨(rend - 1).toNat, by omega⟩
        have hen2 : en < 3 := by omega
        have hsub : IntKind.i64.wrap ((en : Int) + 1 - 1) = (en : Int) := by rw [IntWalk.i64_in _ (by omega)]; omega
        have hsub3 : IntKind.i64.wrap (en : Int) = (en : Int) := IntWalk.i64_in _ (by omega)
        have hix0 : (0 : Int) ≤ (en : Int) := by omega
        have hix : (en : Int) < 3 := by omega
        obtain ⟨i1, hi1⟩ : ∃ z, itoJ rfr = z := ⟨_, rfl⟩
        obtain ⟨i2, hi2⟩ : ∃ z, itoJ rto = z := ⟨_, rfl⟩
        obtain ⟨ps, hps⟩ : ∃ p, endB ((en : Int) + 1) = p := ⟨_, rfl⟩
        rw [hi1, hi2, hps] at hws
        have hwd : ([DONE, LOST, STOP] : List ByteArray)[en]? = some ps := by
          rw [← hps]
          obtain rfl | rfl | rfl : en = 0 ∨ en = 1 ∨ en = 2 := by omega
          · rfl
          · rfl
          · rfl
        have hJ1 := fun (W : World) (h : PowJ W) => itoJ_any rfr hI1 W h
        have hJ2 := fun (W : World) (h : PowJ W) => itoJ_any rto hI2 W h
        rw [hi1] at hJ1
        rw [hi2] at hJ2
        rw [hws] at hjn hwz
        have hz5 : ∀ y ∈ [i1, i2, ps, rid, rwk], y.size ≤ maxLen := fun y hy => by have := hwz y hy; unfold maxLen; omega
        obtain ⟨x0, x1, x2, x3, x4⟩ := newJ5 wr (.string rid) (.string rwk) (.int .i64 rfr) (.int .i64 rto) (.int .i64 ((en : Int) + 1)) 28
        have hal := hb.alloc hb.size (.cells #[.string rid, .string rwk, .int .i64 rfr, .int .i64 rto, .int .i64 ((en : Int) + 1)] 28)
        have hpa := (htH.out.below hbr).below (allocBel wr (.cells #[.string rid, .string rwk, .int .i64 rfr, .int .i64 rto, .int .i64 ((en : Int) + 1)] 28))
        have hma := (hmH.out.below hbr).below (allocBel wr (.cells #[.string rid, .string rwk, .int .i64 rfr, .int .i64 rto, .int .i64 ((en : Int) + 1)] 28))
        have hkl : k + 1 ≤ l.length := by have := hllH.out; omega
        obtain ⟨wa, hwa⟩ : ∃ W, W = wr.alloc (.cells #[.string rid, .string rwk, .int .i64 rfr, .int .i64 rto, .int .i64 ((en : Int) + 1)] 28) := ⟨_, rfl⟩
        rw [← hwa] at x0 x1 x2 x3 x4 hal hpa hma
        clear hws hi1 hi2 hd1 et1 hI1 hI2 hrg hen
        have hrH := Lib.hid hr
        clear hr
        have hbH := Lib.hid hb
        clear hb
        have hbrH := Lib.hid hbr
        clear hbr
        have hst2H := Lib.hid hst2
        clear hst2
        have hjnH := Lib.hid hjn
        clear hjn
        have hjzH := Lib.hid hjz
        clear hjz
        have z1H := Lib.hid z1
        clear z1
        have hwzH := Lib.hid hwz
        clear hwz
        have hJ1H := Lib.hid hJ1
        clear hJ1
        have hJ2H := Lib.hid hJ2
        clear hJ2
        have hz5H := Lib.hid hz5
        clear hz5
        have halH := Lib.hid hal
        clear hal
        have hpaH := Lib.hid hpa
        clear hpa
        have hmaH := Lib.hid hma
        clear hma
        have hklH := Lib.hid hkl
        clear hkl
        have hwaH := Lib.hid hwa
        clear hwa
        have htsH := Lib.hid hts
        clear hts
        have hpsH := Lib.hid hps
        clear hps
        have hpreH := Lib.hid hpre
        clear hpre
        have hwdH := Lib.hid hwd
        clear hwd
        go_wp2_with fail
        rw [← hwaH.out]
        refine wp_region_held_drew (S := (fun w' => w'.cell? ⟨wr.heap.size, 0, none⟩ = some (.string rid) ∧ w'.cell? ⟨wr.heap.size, 1, none⟩ = some (.string rwk) ∧ w'.cell? ⟨wr.heap.size, 2, none⟩ = some (.int .i64 rfr) ∧ w'.cell? ⟨wr.heap.size, 3, none⟩ = some (.int .i64 rto) ∧ w'.cell? ⟨wr.heap.size, 4, none⟩ = some (.int .i64 ((en : Int) + 1)))) (by kernel_rfl) ⟨x0, x1, x2, x3, x4⟩ (fun hHeld => ?_)
        clear x0 x1 x2 x3 x4
        refine takeH (i := 0) (d := some 19) (v := ?_) rfl rfl (by kernel_rfl) (by kernel_rfl) (by kernel_rfl) (fun _ _ _ h => h) (Or.inl ⟨by rfl, ?_⟩) (by assumption) ?_
        rotate_left
        · (intro w hSw; (try dsimp only at hSw); go_simp; (try with_reducible rfl))
        (try simp only [Act.put, List.setIfInBounds_toArray, List.set_cons_zero, List.set_cons_succ])
        refine takeH (i := 1) (d := some 20) (v := ?_) rfl rfl (by kernel_rfl) (by kernel_rfl) (by kernel_rfl) (fun _ _ _ h => h) (Or.inl ⟨by rfl, ?_⟩) (by assumption) ?_
        rotate_left
        · (intro w hSw; (try dsimp only at hSw); go_simp; (try with_reducible rfl))
        (try simp only [Act.put, List.setIfInBounds_toArray, List.set_cons_zero, List.set_cons_succ])
        refine takeH (i := 2) (d := some 21) (v := ?_) rfl rfl (by kernel_rfl) (by kernel_rfl) (by kernel_rfl) (fun _ _ _ h => h) (Or.inl ⟨by rfl, ?_⟩) (by assumption) ?_
        rotate_left
        · (intro w hSw; (try dsimp only at hSw); go_simp; (try with_reducible rfl))
        (try simp only [Act.put, List.setIfInBounds_toArray, List.set_cons_zero, List.set_cons_succ])
        refine takeH (i := 4) (d := some 23) (v := ?_) rfl rfl (by kernel_rfl) (by kernel_rfl) (by kernel_rfl) (fun _ _ _ h => h) (Or.inl ⟨by rfl, ?_⟩) (by assumption) ?_
        rotate_left
        · (intro w hSw; (try dsimp only at hSw); go_simp; (try with_reducible rfl))
        (try simp only [Act.put, List.setIfInBounds_toArray, List.set_cons_zero, List.set_cons_succ])
        refine takeH (i := 5) (d := some 24) (v := ?_) rfl rfl (by kernel_rfl) (by kernel_rfl) (by kernel_rfl) (fun _ _ _ h => h) (Or.inl ⟨by rfl, ?_⟩) (by assumption) ?_
        rotate_left
        · (intro w hSw; (try dsimp only at hSw); go_simp; (try with_reducible rfl))
        (try simp only [Act.put, List.setIfInBounds_toArray, List.set_cons_zero, List.set_cons_succ])
        refine takeH (i := 8) (d := some 27) (v := ?_) rfl rfl (by kernel_rfl) (by kernel_rfl) (by kernel_rfl) (fun _ _ _ h => h) (Or.inl ⟨by rfl, ?_⟩) (by assumption) ?_
        rotate_left
        · (intro w hSw; (try dsimp only at hSw); go_simp; (try with_reducible rfl))
        (try simp only [Act.put, List.setIfInBounds_toArray, List.set_cons_zero, List.set_cons_succ])
        refine takeH (i := 9) (d := some 28) (v := ?_) rfl rfl (by kernel_rfl) (by kernel_rfl) (by kernel_rfl) (fun _ _ _ h => h) (Or.inl ⟨by rfl, ?_⟩) (by assumption) ?_
        rotate_left
        · (intro w hSw; (try dsimp only at hSw); go_simp; (try with_reducible rfl))
        (try simp only [Act.put, List.setIfInBounds_toArray, List.set_cons_zero, List.set_cons_succ])
        refine takeH (i := 10) (d := some 29) (v := ?_) rfl rfl (by kernel_rfl) (by kernel_rfl) (by kernel_rfl) (fun _ _ _ h => h) (Or.inl ⟨by rfl, ?_⟩) (by assumption) ?_
        rotate_left
        · (intro w hSw; (try dsimp only at hSw); go_simp; (try with_reducible rfl))
        (try simp only [Act.put, List.setIfInBounds_toArray, List.set_cons_zero, List.set_cons_succ])
        refine takeH (i := 13) (d := some 32) (v := ?_) rfl rfl (by kernel_rfl) (by kernel_rfl) (by kernel_rfl) (fun _ _ _ h => h) (Or.inl ⟨by rfl, ?_⟩) (by assumption) ?_
        rotate_left
        · (intro w hSw; (try dsimp only at hSw); go_simp; (try with_reducible rfl))
        (try simp only [Act.put, List.setIfInBounds_toArray, List.set_cons_zero, List.set_cons_succ])
        refine takeH (i := 14) (d := some 33) (v := ?_) rfl rfl (by kernel_rfl) (by kernel_rfl) (by kernel_rfl) (fun _ _ _ h => h) (Or.inl ⟨by rfl, ?_⟩) (by assumption) ?_
        rotate_left
        · (intro w hSw; (try dsimp only at hSw); go_simp; (try with_reducible rfl))
        (try simp only [Act.put, List.setIfInBounds_toArray, List.set_cons_zero, List.set_cons_succ])
        refine takeH (i := 15) (d := some 34) (v := ?_) rfl rfl (by kernel_rfl) (by kernel_rfl) (by kernel_rfl) (fun _ _ _ h => h) (Or.inl ⟨by rfl, ?_⟩) (by assumption) ?_
        rotate_left
        · (intro w hSw; (try dsimp only at hSw); go_simp; (try with_reducible rfl))
        (try simp only [Act.put, List.setIfInBounds_toArray, List.set_cons_zero, List.set_cons_succ])
        refine takeH (i := 16) (d := some 35) (v := ?_) rfl rfl (by kernel_rfl) (by kernel_rfl) (by kernel_rfl) (fun _ _ _ h => h) (Or.inl ⟨by rfl, ?_⟩) (by assumption) ?_
        rotate_left
        · (intro w hSw; (try dsimp only at hSw); go_simp; (try with_reducible rfl))
        (try simp only [Act.put, List.setIfInBounds_toArray, List.set_cons_zero, List.set_cons_succ])
        refine wpAnyH_ready (rs := [3]) (by kernel_rfl) (by simp) ?_
        refine AllReadyH.cons (i := 3) rfl (fun K hK => ?_) AllReadyH.nil
        go_simp
        go_at_call 25
        refine (hJ1H.out _ (hpaH.out.below (by first | exact Below.refl _ _ | exact (Below.refl _ _).drew))).mono ?_
        rintro e w2 ⟨rfl, hb2⟩
        have hb2a : Below wa.heap.size wa w2 := by first | exact hb2 | exact (Below.refl _ _).drew.trans hb2
        replace hHeld := keepJ5 hb2 hHeld
        clear hb2
        refine hK.out _ _ hHeld (fun hHeld => ?_)
        clear hK K
        (try simp only [Act.put, List.setIfInBounds_toArray, List.set_cons_zero, List.set_cons_succ])
        refine wpAnyH_ready (rs := [6]) (by kernel_rfl) (by simp) ?_
        refine AllReadyH.cons (i := 6) rfl (fun K hK => ?_) AllReadyH.nil
        go_simp
        go_at_call 25
        refine (hJ2H.out _ (hpaH.out.below hb2a)).mono ?_
        rintro e w3 ⟨rfl, hb3⟩
        replace hHeld := keepJ5 hb3 hHeld
        have hb3a := hb2a.trans (hb3.mono hb2a.size)
        clear hb2a hb3
        refine hK.out _ _ hHeld (fun hHeld => ?_)
        clear hK K
        (try simp only [Act.put, List.setIfInBounds_toArray, List.set_cons_zero, List.set_cons_succ])
        refine wpAnyH_ready (rs := [7]) (by kernel_rfl) (by simp) ?_
        refine AllReadyH.cons (i := 7) rfl (fun K hK => ?_) AllReadyH.nil
        go_simp
        go_at_call 28
        refine (split_sp ENDS _ (hmaH.out.below hb3a) ENDS_small).mono ?_
        rintro e w3b ⟨n3, rfl, hl3, hb3b⟩
        rw [words_ENDS] at hl3
        obtain rfl : n3 = 3 := hl3.1.symm
        have hcE := cell_Str hl3 hwdH.out
        rw [Nat.zero_add] at hcE
        replace hHeld := keepJ5 hb3b hHeld
        have hb3c := hb3a.trans (hb3b.mono hb3a.size)
        clear hb3a hb3b hl3
        refine hK.out _ _ hHeld (fun hHeld => ?_)
        clear hK K
        (try simp only [Act.put, List.setIfInBounds_toArray, List.set_cons_zero, List.set_cons_succ])
        refine takeH (i := 11) (d := some 30) (v := ?_) rfl rfl (by kernel_rfl) (by kernel_rfl) (by kernel_rfl) (fun _ _ _ h => h) (Or.inl ⟨by rfl, ?_⟩) (by assumption) ?_
        rotate_left
        · (intro w hSw; (try dsimp only at hSw); go_simp; (try with_reducible rfl))
        (try simp only [Act.put, List.setIfInBounds_toArray, List.set_cons_zero, List.set_cons_succ])
        refine wpAnyH_ready (rs := [12]) (by kernel_rfl) (by simp) ?_
        refine AllReadyH.cons (i := 12) rfl (fun K hK => ?_) AllReadyH.nil
        go_simp
        refine hK.out _ _ hHeld (fun hHeld => ?_)
        clear hK K
        (try simp only [Act.put, List.setIfInBounds_toArray, List.set_cons_zero, List.set_cons_succ])
        clear hcE
        refine wpAnyH_ready (rs := [17]) (by kernel_rfl) (by simp) ?_
        refine AllReadyH.cons (i := 17) rfl (fun K hK => ?_) AllReadyH.nil
        go_simp
        replace hHeld := keepJ5 (allocBel w3b (.cells #[.string i1, .string i2, .string ps, .string rid, .string rwk] 9)) hHeld
        refine hK.out _ _ hHeld (fun hHeld => ?_)
        clear hK K
        (try simp only [Act.put, List.setIfInBounds_toArray, List.set_cons_zero, List.set_cons_succ])
        refine wpAnyH_ready (rs := [18]) (by kernel_rfl) (by simp) ?_
        refine AllReadyH.cons (i := 18) rfl (fun K hK => ?_) AllReadyH.nil
        go_simp
        go_at_call 24
        refine (joinJ_own _ [i1, i2, ps, rid, rwk] _ w3b.heap.size (ownJ_five w3b i1 i2 ps rid rwk hz5H.out) (by simp) (by simp) (fun y hy => by have := hwzH.out y hy; omega)).mono ?_
        rw [← hjnH.out]
        rintro e w4 ⟨rfl, hb4⟩
        replace hHeld := keepJ5 hb4 hHeld
        have hb4a := (hb3c.alloc hb3c.size _).trans (hb4.mono (by have := hb3c.size; simp; omega))
        have R : RTxRel l w1 (.string t2) (.int .i64 (k + 1)) w4 := ⟨k + 1, hklH.out, by go_num, by rw [hst2H.out], halH.out.trans (hb4a.mono halH.out.size)⟩
        have RH := Lib.hid R
        clear R
        clear hb3c hb4 hb4a
        refine hK.out _ _ hHeld (fun hHeld => ?_)
        clear hK K
        (try simp only [Act.put, List.setIfInBounds_toArray, List.set_cons_zero, List.set_cons_succ])
        refine takeH (i := 19) (d := some 38) (v := ?_) rfl rfl (by kernel_rfl) (by kernel_rfl) (by kernel_rfl) (fun _ _ _ h => h) (Or.inl ⟨by rfl, ?_⟩) (by assumption) ?_
        rotate_left
        · (intro w hSw; (try dsimp only at hSw); go_simp; (try with_reducible rfl))
        (try simp only [Act.put, List.setIfInBounds_toArray, List.set_cons_zero, List.set_cons_succ])
        refine takeH (i := 20) (d := some 39) (v := ?_) rfl rfl (by kernel_rfl) (by kernel_rfl) (by kernel_rfl) (fun _ _ _ h => h) (Or.inl ⟨by rfl, ?_⟩) (by assumption) ?_
        rotate_left
        · (intro w hSw; (try dsimp only at hSw); go_simp; (try with_reducible rfl))
        (try simp only [Act.put, List.setIfInBounds_toArray, List.set_cons_zero, List.set_cons_succ])
        refine takeH (i := 21) (d := some 5) (v := ?_) rfl rfl (by kernel_rfl) (by kernel_rfl) (by kernel_rfl) (fun _ _ _ h => h) (Or.inl ⟨by rfl, ?_⟩) (by assumption) ?_
        rotate_left
        · (intro w hSw; (try dsimp only at hSw); go_simp; (try with_reducible rfl))
        (try simp only [Act.put, List.setIfInBounds_toArray, List.set_cons_zero, List.set_cons_succ])
        refine wpAnyH_done (by kernel_rfl) ?_ _
        go_wp2
        refine ⟨?rel, ?measure⟩
        case measure => (simp [intOf]; omega)
        case rel => first | exact RH.out | exact ⟨rfl, RH.out⟩ | ((try refine ⟨rfl, ?_⟩); (repeat apply Exists.intro); refine ⟨RH.out, ?_⟩; ((repeat' apply And.intro) <;> rfl))
      · obtain rfl : k = n := by omega
        have e : l.take k = l := List.take_of_length_le (by have := hllH.out; omega)
        rw [e] at hts ⊢
        have hbr : Below w.heap.size w wr := hb1H.out.trans (hb.mono hb1H.out.size)
        have hF := hFH.out
        clear hFH
        have hbz := bsL_size (textT l)
        have hbH := Lib.hid hb
        clear hb
        have hbrH := Lib.hid hbr
        clear hbr
        have eH := Lib.hid e
        clear e
        by_cases h9 : (textT l).length ≤ 600000
        · obtain ⟨rfl, rfl⟩ : bsL (textT l) = t ∧ 0 = cc := by rw [if_pos h9] at hF; exact Prod.mk.inj hF
          have h9n : ¬ (600000 : Int) < ((bsL (textT l)).size : Int) := by omega
          obtain ⟨L, hL⟩ : ∃ L, bsL (textT l) = L := ⟨_, rfl⟩
          rw [hL] at h9n ⊢
          clear hF hts hbz
          go_wp2
          go_ret2
          exact ⟨by first | rfl | rw [hL], hbrH.out⟩
        · obtain ⟨rfl, rfl⟩ : ⟨#[]⟩ = t ∧ 2 = cc := by rw [if_neg h9] at hF; exact Prod.mk.inj hF
          have h9n : (600000 : Int) < ((bsL (textT l)).size : Int) := by omega
          obtain ⟨L, hL⟩ : ∃ L, bsL (textT l) = L := ⟨_, rfl⟩
          rw [hL] at h9n ⊢
          clear hF hts hbz
          go_wp2
          go_ret2
          exact ⟨rfl, hbrH.out⟩
  · obtain ⟨rfl, rfl⟩ : ⟨#[]⟩ = t ∧ h = cc := by rw [if_neg e0] at hF; exact Prod.mk.inj hF
    have e1 : (h != 0) = true := by simpa using e0
    clear e0 hF
    go_wp2
    go_ret2
    exact ⟨rfl, hb1H.out⟩
end Go.Proofs.YtpmnkhklfoknhaaGreatDoor.C9
