/-
  Text of histories, of the program and of the reference.
-/
import Derived.Test.YtpmnkhklfoknhaaGreatDoorTxtTC10
import Derived.Test.YtpmnkhklfoknhaaGreatDoorBuild
import Derived.Test.YtpmnkhklfoknhaaGreatDoorJoin
import Derived.Test.YtpmnkhklfoknhaaGreatDoorHistC10
namespace Go.Proofs.YtpmnkhklfoknhaaGreatDoor.C10
open Go.ChangeShapes Go.WideShapes Go.Deep Go.RowKit
set_option linter.unusedVariables false

theorem textT_step {l : List TestRun} {k : Nat} {r : TestRun} (h : l[k]? = some r) : textT (l.take (k + 1)) = textT (l.take k) ++ lineL (wordsT r) := by
  unfold textT
  rw [List.take_add_one, h, Option.toList, List.flatMap_append, List.flatMap_cons, List.flatMap_nil, List.append_nil]
theorem wordsT_size {r : TestRun} (h : RunGood r) : ∀ w ∈ wordsT r, w.size ≤ 200 := by
  intro w hw
  simp only [wordsT, List.mem_cons, List.not_mem_nil, or_false] at hw
  rcases hw with rfl | rfl | rfl | rfl | rfl
  · have := (itoaB_size h.at0.1 (by have := h.at0.2; omega)).2; omega
  · exact h.tsz
  · have := h.ksz; omega
  · have : ∀ b, (passB b).size ≤ 200 := by intro b; cases b <;> decide
    exact this _
  · have := (itoaB_size h.sec.1 (by have := h.sec.2; omega)).2; omega
theorem lineT_size {r : TestRun} (h : RunGood r) : (lineL (wordsT r)).length ≤ 2021 := by
  have := joinJ_size (l := wordsT r) (by simp [wordsT]) (fun w hw => by have := wordsT_size h w hw; omega)
  unfold lineL
  rw [List.length_append, List.length_singleton]
  simp only [wordsT, List.length_cons, List.length_nil] at this
  simp only [wordsT]
  omega
theorem textT_size : ∀ (l : List TestRun), (∀ r ∈ l, RunGood r) → (textT l).length ≤ 2021 * l.length
  | [], _ => by simp [textT]
  | r :: s, h => by
    have e : textT (r :: s) = lineL (wordsT r) ++ textT s := rfl
    have h1 := lineT_size (h r List.mem_cons_self)
    have h2 := textT_size s (fun x hx => h x (List.mem_cons_of_mem _ hx))
    rw [e, List.length_append, List.length_cons]
    omega
def TxRel (l : List TestRun) (w1 : World) (i : Value) (wr : World) : Prop :=
  ∃ k : Nat, k ≤ l.length ∧ i = .int .i64 k ∧ BldAt w1.heap.size w1.heap.size (textT (l.take k)) wr ∧ Below w1.heap.size w1 wr

set_option maxRecDepth 100000 in
set_option maxHeartbeats 8000000 in
theorem text_any (A : Option Addr) (n c : Nat) (l : List TestRun) (w : World) (hm : MaxLenAt w) (ht : PowJ w) (hl : SlAt RTestRun w A n l) (t : ByteArray) (cc : Int) (hF : textR l = (t, cc)) :
    Calls Tryz.prog 12 #[.slice A n c] w fun e w' => e = .returned (.tuple #[.string t, .int .i64 cc]) ∧ Below w.heap.size w w' := by
  unfold textR at hF
  obtain ⟨h, hh⟩ : ∃ h, histF l = h := ⟨_, rfl⟩
  rw [hh] at hF
  have hmH := Lib.hid hm
  clear hm
  have htH := Lib.hid ht
  clear ht
  have hlH := Lib.hid hl
  clear hl
  have hhH := Lib.hid hh
  clear hh
  go_enter Tryz.func12, Tryz.ntmps12
  go_wp2_with fail
  refine (hist_any A n c l _ hmH.out hlH.out h hhH.out).mono ?_
  rintro e w1 ⟨rfl, hb1⟩
  have hb1H := Lib.hid hb1
  clear hb1
  by_cases e0 : h = 0
  · subst e0
    rw [if_pos rfl] at hF
    have hg := hist_good hhH.out
    have hll := hlH.out.1
    have hln : l.length ≤ 3000 := by
      have := hhH.out
      unfold histF at this
      split at this
      · assumption
      · cases this
    have hmade := BldAt.made w1
    have hgH := Lib.hid hg
    clear hg
    have hllH := Lib.hid hll
    clear hll
    have hFH := Lib.hid hF
    clear hF
    have hmadeH := Lib.hid hmade
    clear hmade
    go_wp2_with fail
    go_loopw [16] (fun i wr => TxRel l w1 i wr) (fun i _ => n - (intOf i).toNat)
    case atStart => exact ⟨0, Nat.zero_le _, rfl, hmadeH.out, (Below.refl _ _).alloc (Nat.le_refl _) _⟩
    case round =>
      obtain ⟨k, hk, rfl, hbld, hb⟩ := hrel
      have hkn : k ≤ n := by have := hllH.out; omega
      have hts := textT_size (l.take k) (fun r hr => hgH.out r (List.mem_of_mem_take hr))
      rw [List.length_take] at hts
      by_cases hlt : k < n
      · obtain ⟨b, off, hA, _⟩ := hlH.out.2.1 (by omega)
        subst hA
        obtain ⟨r, hr⟩ : ∃ r, l[k]? = some r := ⟨l[k]'(by have := hllH.out; omega), List.getElem?_eq_getElem _⟩
        have hbr : Below w.heap.size w wr := hb1H.out.trans (hb.mono hb1H.out.size)
        obtain ⟨c0, c1, c2, c3, c4⟩ := cells_TestRun (hlH.out.below hbr) hr
        have hrg := hgH.out r (List.mem_of_getElem? hr)
        have hst := textT_step hr
        obtain ⟨jn, hjn⟩ : ∃ z : ByteArray, z = ⟨(Lib.join ((wordsT r).map (·.data.toList)) [32]).toArray⟩ := ⟨_, rfl⟩
        have hjz : jn.size + 1 ≤ 2021 := by
          have := lineT_size hrg
          unfold lineL at this
          rw [List.length_append, List.length_singleton] at this
          rw [hjn]
          show (Lib.join ((wordsT r).map (·.data.toList)) [32]).toArray.size + 1 ≤ 2021
          rw [List.size_toArray]; exact this
        obtain ⟨t1, et1⟩ : ∃ z, jn ++ ⟨#[10]⟩ = z := ⟨_, rfl⟩
        have z1 : t1.size = jn.size + 1 := by rw [← et1, ByteArray.size_append]; rfl
        have e1 : ∀ w : World, (Op.stringOp .add jn ⟨#[10]⟩).run Tryz.prog w = .ok (.string t1) w := fun w => by rw [← et1]; exact run_string_add_sum w _ _ (by show jn.size + 1 ≤ _; omega)
        have hd1 : t1.data.toList = lineL (wordsT r) := by rw [← et1, hjn]; simp [lineL]
        rw [← hd1] at hst
        have hws : wordsT r = [itoJ r.at_, r.test, r.key, passB r.pass, itoJ r.seconds] := rfl
        have hwz := wordsT_size hrg
        have hI1 : I64 r.at_ := ⟨by have := hrg.at0; omega, by have := hrg.at0; omega⟩
        have hI2 : I64 r.seconds := ⟨by have := hrg.sec; omega, by have := hrg.sec; omega⟩
        obtain ⟨ps, hps⟩ : ∃ p, passB r.pass = p := ⟨_, rfl⟩
        rw [hps] at hws
        obtain ⟨i1, hi1⟩ : ∃ z, itoJ r.at_ = z := ⟨_, rfl⟩
        obtain ⟨i2, hi2⟩ : ∃ z, itoJ r.seconds = z := ⟨_, rfl⟩
        rw [hi1, hi2] at hws
        have hJ1 := fun (W : World) (h : PowJ W) => itoJ_any r.at_ hI1 W h
        have hJ2 := fun (W : World) (h : PowJ W) => itoJ_any r.seconds hI2 W h
        rw [hi1] at hJ1
        rw [hi2] at hJ2
        rw [hws] at hjn hwz
        have hz5 : ∀ y ∈ [i1, r.test, r.key, ps, i2], y.size ≤ maxLen := fun y hy => by have := hwz y hy; unfold maxLen; omega
        obtain ⟨x0, x1, x2, x3, x4⟩ := newJ5 wr (.string r.test) (.string r.key) (.int .i64 r.at_) (.bool r.pass) (.int .i64 r.seconds) 40
        have hal := hb.alloc hb.size (.cells #[.string r.test, .string r.key, .int .i64 r.at_, .bool r.pass, .int .i64 r.seconds] 40)
        have hblda := hbld.below (allocBel wr (.cells #[.string r.test, .string r.key, .int .i64 r.at_, .bool r.pass, .int .i64 r.seconds] 40))
        have hpa := (htH.out.below hbr).below (allocBel wr (.cells #[.string r.test, .string r.key, .int .i64 r.at_, .bool r.pass, .int .i64 r.seconds] 40))
        have hkl : k + 1 ≤ l.length := by have := hllH.out; omega
        obtain ⟨wa, hwa⟩ : ∃ W, W = wr.alloc (.cells #[.string r.test, .string r.key, .int .i64 r.at_, .bool r.pass, .int .i64 r.seconds] 40) := ⟨_, rfl⟩
        rw [← hwa] at x0 x1 x2 x3 x4 hal hblda hpa
        have hcp : wa.heap[wr.heap.size]? = some (.cells #[.string r.test, .string r.key, .int .i64 r.at_, .bool r.pass, .int .i64 r.seconds] 40 (0, 0)) := by rw [hwa]; exact heap_alloc_new wr _
        have hltb := hbld.lt
        clear hws hi1 hi2 hd1 et1 hI1 hI2 hrg
        cases hpb : r.pass
        · rw [hpb] at hps x3 hcp
          obtain rfl : FAIL = ps := hps
          rw [hpb] at hwa c3
          have hrH := Lib.hid hr
          clear hr
          have hbldH := Lib.hid hbld
          clear hbld
          have hbH := Lib.hid hb
          clear hb
          have hbrH := Lib.hid hbr
          clear hbr
          have hstH := Lib.hid hst
          clear hst
          have hjnH := Lib.hid hjn
          clear hjn
          have hjzH := Lib.hid hjz
          clear hjz
          have z1H := Lib.hid z1
          clear z1
          have hwzH := Lib.hid hwz
          clear hwz
          have hJ1H := Lib.hid hJ1
          clear hJ1
          have hJ2H := Lib.hid hJ2
          clear hJ2
          have hz5H := Lib.hid hz5
          clear hz5
          have halH := Lib.hid hal
          clear hal
          have hbldaH := Lib.hid hblda
          clear hblda
          have hpaH := Lib.hid hpa
          clear hpa
          have hklH := Lib.hid hkl
          clear hkl
          have hwaH := Lib.hid hwa
          clear hwa
          have htsH := Lib.hid hts
          clear hts
          have hcpH := Lib.hid hcp
          clear hcp
          have hltbH := Lib.hid hltb
          clear hltb
          have hpbH := Lib.hid hpb
          clear hpb
          go_wp2_with fail
          rw [← hwaH.out]
          refine wp_region_held_drew (S := (fun w' => w'.cell? ⟨wr.heap.size, 0, none⟩ = some (.string r.test) ∧ w'.cell? ⟨wr.heap.size, 1, none⟩ = some (.string r.key) ∧ w'.cell? ⟨wr.heap.size, 2, none⟩ = some (.int .i64 r.at_) ∧ w'.cell? ⟨wr.heap.size, 3, none⟩ = some (.bool false) ∧ w'.cell? ⟨wr.heap.size, 4, none⟩ = some (.int .i64 r.seconds))) (by kernel_rfl) ⟨x0, x1, x2, x3, x4⟩ (fun hHeld => ?_)
          clear x0 x1 x2 x3 x4
          refine takeH (i := 0) (d := some 22) (v := ?_) rfl rfl (by kernel_rfl) (by kernel_rfl) (by kernel_rfl) (fun _ _ _ h => h) (Or.inl ⟨by rfl, ?_⟩) (by assumption) ?_
          rotate_left
          · (intro w hSw; (try dsimp only at hSw); go_simp; (try with_reducible rfl))
          (try simp only [Act.put, List.setIfInBounds_toArray, List.set_cons_zero, List.set_cons_succ])
          refine takeH (i := 1) (d := some 23) (v := ?_) rfl rfl (by kernel_rfl) (by kernel_rfl) (by kernel_rfl) (fun _ _ _ h => h) (Or.inl ⟨by rfl, ?_⟩) (by assumption) ?_
          rotate_left
          · (intro w hSw; (try dsimp only at hSw); go_simp; (try with_reducible rfl))
          (try simp only [Act.put, List.setIfInBounds_toArray, List.set_cons_zero, List.set_cons_succ])
          refine takeH (i := 3) (d := some 25) (v := ?_) rfl rfl (by kernel_rfl) (by kernel_rfl) (by kernel_rfl) (fun _ _ _ h => h) (Or.inl ⟨by rfl, ?_⟩) (by assumption) ?_
          rotate_left
          · (intro w hSw; (try dsimp only at hSw); go_simp; (try with_reducible rfl))
          (try simp only [Act.put, List.setIfInBounds_toArray, List.set_cons_zero, List.set_cons_succ])
          refine takeH (i := 4) (d := some 26) (v := ?_) rfl rfl (by kernel_rfl) (by kernel_rfl) (by kernel_rfl) (fun _ _ _ h => h) (Or.inl ⟨by rfl, ?_⟩) (by assumption) ?_
          rotate_left
          · (intro w hSw; (try dsimp only at hSw); go_simp; (try with_reducible rfl))
          (try simp only [Act.put, List.setIfInBounds_toArray, List.set_cons_zero, List.set_cons_succ])
          refine takeH (i := 5) (d := some 27) (v := ?_) rfl rfl (by kernel_rfl) (by kernel_rfl) (by kernel_rfl) (fun _ _ _ h => h) (Or.inl ⟨by rfl, ?_⟩) (by assumption) ?_
          rotate_left
          · (intro w hSw; (try dsimp only at hSw); go_simp; (try with_reducible rfl))
          (try simp only [Act.put, List.setIfInBounds_toArray, List.set_cons_zero, List.set_cons_succ])
          refine takeH (i := 6) (d := some 28) (v := ?_) rfl rfl (by kernel_rfl) (by kernel_rfl) (by kernel_rfl) (fun _ _ _ h => h) (Or.inl ⟨by rfl, ?_⟩) (by assumption) ?_
          rotate_left
          · (intro w hSw; (try dsimp only at hSw); go_simp; (try with_reducible rfl))
          (try simp only [Act.put, List.setIfInBounds_toArray, List.set_cons_zero, List.set_cons_succ])
          refine takeH (i := 7) (d := some 29) (v := ?_) rfl rfl (by kernel_rfl) (by kernel_rfl) (by kernel_rfl) (fun _ _ _ h => h) (Or.inl ⟨by rfl, ?_⟩) (by assumption) ?_
          rotate_left
          · (intro w hSw; (try dsimp only at hSw); go_simp; (try with_reducible rfl))
          (try simp only [Act.put, List.setIfInBounds_toArray, List.set_cons_zero, List.set_cons_succ])
          refine takeH (i := 8) (d := some 30) (v := ?_) rfl rfl (by kernel_rfl) (by kernel_rfl) (by kernel_rfl) (fun _ _ _ h => h) (Or.inl ⟨by rfl, ?_⟩) (by assumption) ?_
          rotate_left
          · (intro w hSw; (try dsimp only at hSw); go_simp; (try with_reducible rfl))
          (try simp only [Act.put, List.setIfInBounds_toArray, List.set_cons_zero, List.set_cons_succ])
          refine takeH (i := 9) (d := some 31) (v := ?_) rfl rfl (by kernel_rfl) (by kernel_rfl) (by kernel_rfl) (fun _ _ _ h => h) (Or.inl ⟨by rfl, ?_⟩) (by assumption) ?_
          rotate_left
          · (intro w hSw; (try dsimp only at hSw); go_simp; (try with_reducible rfl))
          (try simp only [Act.put, List.setIfInBounds_toArray, List.set_cons_zero, List.set_cons_succ])
          refine wpAnyH_ready (rs := [2]) (by kernel_rfl) (by simp) ?_
          refine AllReadyH.cons (i := 2) rfl (fun K hK => ?_) AllReadyH.nil
          go_simp
          go_at_call 25
          refine (hJ1H.out _ (hpaH.out.below (by first | exact Below.refl _ _ | exact (Below.refl _ _).drew))).mono ?_
          rintro e w2 ⟨rfl, hb2⟩
          have hb2a : Below wa.heap.size wa w2 := by first | exact hb2 | exact (Below.refl _ _).drew.trans hb2
          replace hHeld := keepJ5 hb2 hHeld
          clear hb2
          refine hK.out _ _ hHeld (fun hHeld => ?_)
          clear hK K
          (try simp only [Act.put, List.setIfInBounds_toArray, List.set_cons_zero, List.set_cons_succ])
          refine wpAnyH_ready (rs := [10]) (by kernel_rfl) (by simp) ?_
          refine AllReadyH.cons (i := 10) rfl (fun K hK => ?_) AllReadyH.nil
          go_simp
          go_at_call 25
          refine (hJ2H.out _ (hpaH.out.below hb2a)).mono ?_
          rintro e w3 ⟨rfl, hb3⟩
          replace hHeld := keepJ5 hb3 hHeld
          have hb3a := hb2a.trans (hb3.mono hb2a.size)
          clear hb2a hb3
          refine hK.out _ _ hHeld (fun hHeld => ?_)
          clear hK K
          (try simp only [Act.put, List.setIfInBounds_toArray, List.set_cons_zero, List.set_cons_succ])
          refine wpAnyH_ready (rs := [11]) (by kernel_rfl) (by simp) ?_
          refine AllReadyH.cons (i := 11) rfl (fun K hK => ?_) AllReadyH.nil
          go_simp
          replace hHeld := keepJ5 (allocBel w3 (.cells #[.string i1, .string r.test, .string r.key, .string FAIL, .string i2] 9)) hHeld
          refine hK.out _ _ hHeld (fun hHeld => ?_)
          clear hK K
          (try simp only [Act.put, List.setIfInBounds_toArray, List.set_cons_zero, List.set_cons_succ])
          refine wpAnyH_ready (rs := [12]) (by kernel_rfl) (by simp) ?_
          refine AllReadyH.cons (i := 12) rfl (fun K hK => ?_) AllReadyH.nil
          go_simp
          go_at_call 24
          refine (joinJ_own _ [i1, r.test, r.key, FAIL, i2] _ w3.heap.size (ownJ_five w3 i1 r.test r.key FAIL i2 hz5H.out) (by simp) (by simp) (fun y hy => by have := hwzH.out y hy; omega)).mono ?_
          rw [← hjnH.out]
          rintro e w4 ⟨rfl, hb4⟩
          replace hHeld := keepJ5 hb4 hHeld
          have hb4a := (hb3a.alloc hb3a.size _).trans (hb4.mono (by have := hb3a.size; simp; omega))
          clear hb3a hb4
          refine hK.out _ _ hHeld (fun hHeld => ?_)
          clear hK K
          (try simp only [Act.put, List.setIfInBounds_toArray, List.set_cons_zero, List.set_cons_succ])
          refine takeH (i := 13) (d := some 35) (v := ?_) rfl rfl (by kernel_rfl) (by kernel_rfl) (by kernel_rfl) (fun _ _ _ h => h) (Or.inl ⟨by rfl, ?_⟩) (by assumption) ?_
          rotate_left
          · (intro w hSw; (try dsimp only at hSw); go_simp; (try with_reducible rfl))
          (try simp only [Act.put, List.setIfInBounds_toArray, List.set_cons_zero, List.set_cons_succ])
          refine wpAnyH_ready (rs := [14]) (by kernel_rfl) (by simp) ?_
          refine AllReadyH.cons (i := 14) rfl (fun K hK => ?_) AllReadyH.nil
          go_simp
          go_at_call 23
          have hcp4 := (hb4a.block wr.heap.size (by have := hcpH.out; rcases Nat.lt_or_ge wr.heap.size wa.heap.size with h' | h'; exact h'; simp [Array.getElem?_eq_none h'] at this)).trans hcpH.out
          refine (bld_write w1.heap.size w1.heap.size (textT (l.take k)) t1 _ (hbldaH.out.below hb4a) (by rw [z1H.out]; have := hjzH.out; have := htsH.out; omega) (by have := halH.out.size; have := hb4a.size; omega)).mono ?_
          rintro e w5 ⟨rfl, hbld5, hb5, hoth⟩
          have hcp5 := hoth _ _ _ _ hcp4 (by decide) (by have := hltbH.out; omega)
          have hc5 := fun j => Lib.cell_of_heap hcp5 j
          have hh5 : w5.cell? ⟨wr.heap.size, 0, none⟩ = some (.string r.test) ∧ w5.cell? ⟨wr.heap.size, 1, none⟩ = some (.string r.key) ∧ w5.cell? ⟨wr.heap.size, 2, none⟩ = some (.int .i64 r.at_) ∧ w5.cell? ⟨wr.heap.size, 3, none⟩ = some (.bool false) ∧ w5.cell? ⟨wr.heap.size, 4, none⟩ = some (.int .i64 r.seconds) := ⟨hc5 0, hc5 1, hc5 2, hc5 3, hc5 4⟩
          have R : TxRel l w1 (.int .i64 (k + 1)) w5 := ⟨k + 1, hklH.out, by go_num, by rw [hstH.out]; exact hbld5, (halH.out.trans (hb4a.mono halH.out.size)).trans hb5⟩
          have RH := Lib.hid R
          clear R
          clear hbld5 hb4a hb5 hoth hcp4 hcp5 hc5 hHeld
          refine hK.out _ _ hh5 (fun hHeld => ?_)
          clear hK K
          (try simp only [Act.put, List.setIfInBounds_toArray, List.set_cons_zero, List.set_cons_succ])
          refine wpAnyH_done (by kernel_rfl) ?_ _
          go_wp2
          refine ⟨?rel, ?measure⟩
          case measure => (simp [intOf]; omega)
          case rel => first | exact RH.out | exact ⟨rfl, RH.out⟩ | ((try refine ⟨rfl, ?_⟩); (repeat apply Exists.intro); refine ⟨RH.out, ?_⟩; ((repeat' apply And.intro) <;> rfl))
        · rw [hpb] at hps x3 hcp
          obtain rfl : PASS = ps := hps
          rw [hpb] at hwa c3
          have hrH := Lib.hid hr
          clear hr
          have hbldH := Lib.hid hbld
          clear hbld
          have hbH := Lib.hid hb
          clear hb
          have hbrH := Lib.hid hbr
          clear hbr
          have hstH := Lib.hid hst
          clear hst
          have hjnH := Lib.hid hjn
          clear hjn
          have hjzH := Lib.hid hjz
          clear hjz
          have z1H := Lib.hid z1
          clear z1
          have hwzH := Lib.hid hwz
          clear hwz
          have hJ1H := Lib.hid hJ1
          clear hJ1
          have hJ2H := Lib.hid hJ2
          clear hJ2
          have hz5H := Lib.hid hz5
          clear hz5
          have halH := Lib.hid hal
          clear hal
          have hbldaH := Lib.hid hblda
          clear hblda
          have hpaH := Lib.hid hpa
          clear hpa
          have hklH := Lib.hid hkl
          clear hkl
          have hwaH := Lib.hid hwa
          clear hwa
          have htsH := Lib.hid hts
          clear hts
          have hcpH := Lib.hid hcp
          clear hcp
          have hltbH := Lib.hid hltb
          clear hltb
          have hpbH := Lib.hid hpb
          clear hpb
          go_wp2_with fail
          rw [← hwaH.out]
          refine wp_region_held_drew (S := (fun w' => w'.cell? ⟨wr.heap.size, 0, none⟩ = some (.string r.test) ∧ w'.cell? ⟨wr.heap.size, 1, none⟩ = some (.string r.key) ∧ w'.cell? ⟨wr.heap.size, 2, none⟩ = some (.int .i64 r.at_) ∧ w'.cell? ⟨wr.heap.size, 3, none⟩ = some (.bool true) ∧ w'.cell? ⟨wr.heap.size, 4, none⟩ = some (.int .i64 r.seconds))) (by kernel_rfl) ⟨x0, x1, x2, x3, x4⟩ (fun hHeld => ?_)
          clear x0 x1 x2 x3 x4
          refine takeH (i := 0) (d := some 22) (v := ?_) rfl rfl (by kernel_rfl) (by kernel_rfl) (by kernel_rfl) (fun _ _ _ h => h) (Or.inl ⟨by rfl, ?_⟩) (by assumption) ?_
          rotate_left
          · (intro w hSw; (try dsimp only at hSw); go_simp; (try with_reducible rfl))
          (try simp only [Act.put, List.setIfInBounds_toArray, List.set_cons_zero, List.set_cons_succ])
          refine takeH (i := 1) (d := some 23) (v := ?_) rfl rfl (by kernel_rfl) (by kernel_rfl) (by kernel_rfl) (fun _ _ _ h => h) (Or.inl ⟨by rfl, ?_⟩) (by assumption) ?_
          rotate_left
          · (intro w hSw; (try dsimp only at hSw); go_simp; (try with_reducible rfl))
          (try simp only [Act.put, List.setIfInBounds_toArray, List.set_cons_zero, List.set_cons_succ])
          refine takeH (i := 3) (d := some 25) (v := ?_) rfl rfl (by kernel_rfl) (by kernel_rfl) (by kernel_rfl) (fun _ _ _ h => h) (Or.inl ⟨by rfl, ?_⟩) (by assumption) ?_
          rotate_left
          · (intro w hSw; (try dsimp only at hSw); go_simp; (try with_reducible rfl))
          (try simp only [Act.put, List.setIfInBounds_toArray, List.set_cons_zero, List.set_cons_succ])
          refine takeH (i := 4) (d := some 26) (v := ?_) rfl rfl (by kernel_rfl) (by kernel_rfl) (by kernel_rfl) (fun _ _ _ h => h) (Or.inl ⟨by rfl, ?_⟩) (by assumption) ?_
          rotate_left
          · (intro w hSw; (try dsimp only at hSw); go_simp; (try with_reducible rfl))
          (try simp only [Act.put, List.setIfInBounds_toArray, List.set_cons_zero, List.set_cons_succ])
          refine takeH (i := 5) (d := some 27) (v := ?_) rfl rfl (by kernel_rfl) (by kernel_rfl) (by kernel_rfl) (fun _ _ _ h => h) (Or.inl ⟨by rfl, ?_⟩) (by assumption) ?_
          rotate_left
          · (intro w hSw; (try dsimp only at hSw); go_simp; (try with_reducible rfl))
          (try simp only [Act.put, List.setIfInBounds_toArray, List.set_cons_zero, List.set_cons_succ])
          refine takeH (i := 6) (d := some 28) (v := ?_) rfl rfl (by kernel_rfl) (by kernel_rfl) (by kernel_rfl) (fun _ _ _ h => h) (Or.inl ⟨by rfl, ?_⟩) (by assumption) ?_
          rotate_left
          · (intro w hSw; (try dsimp only at hSw); go_simp; (try with_reducible rfl))
          (try simp only [Act.put, List.setIfInBounds_toArray, List.set_cons_zero, List.set_cons_succ])
          refine takeH (i := 7) (d := some 29) (v := ?_) rfl rfl (by kernel_rfl) (by kernel_rfl) (by kernel_rfl) (fun _ _ _ h => h) (Or.inl ⟨by rfl, ?_⟩) (by assumption) ?_
          rotate_left
          · (intro w hSw; (try dsimp only at hSw); go_simp; (try with_reducible rfl))
          (try simp only [Act.put, List.setIfInBounds_toArray, List.set_cons_zero, List.set_cons_succ])
          refine takeH (i := 8) (d := some 30) (v := ?_) rfl rfl (by kernel_rfl) (by kernel_rfl) (by kernel_rfl) (fun _ _ _ h => h) (Or.inl ⟨by rfl, ?_⟩) (by assumption) ?_
          rotate_left
          · (intro w hSw; (try dsimp only at hSw); go_simp; (try with_reducible rfl))
          (try simp only [Act.put, List.setIfInBounds_toArray, List.set_cons_zero, List.set_cons_succ])
          refine takeH (i := 9) (d := some 31) (v := ?_) rfl rfl (by kernel_rfl) (by kernel_rfl) (by kernel_rfl) (fun _ _ _ h => h) (Or.inl ⟨by rfl, ?_⟩) (by assumption) ?_
          rotate_left
          · (intro w hSw; (try dsimp only at hSw); go_simp; (try with_reducible rfl))
          (try simp only [Act.put, List.setIfInBounds_toArray, List.set_cons_zero, List.set_cons_succ])
          refine wpAnyH_ready (rs := [2]) (by kernel_rfl) (by simp) ?_
          refine AllReadyH.cons (i := 2) rfl (fun K hK => ?_) AllReadyH.nil
          go_simp
          go_at_call 25
          refine (hJ1H.out _ (hpaH.out.below (by first | exact Below.refl _ _ | exact (Below.refl _ _).drew))).mono ?_
          rintro e w2 ⟨rfl, hb2⟩
          have hb2a : Below wa.heap.size wa w2 := by first | exact hb2 | exact (Below.refl _ _).drew.trans hb2
          replace hHeld := keepJ5 hb2 hHeld
          clear hb2
          refine hK.out _ _ hHeld (fun hHeld => ?_)
          clear hK K
          (try simp only [Act.put, List.setIfInBounds_toArray, List.set_cons_zero, List.set_cons_succ])
          refine wpAnyH_ready (rs := [10]) (by kernel_rfl) (by simp) ?_
          refine AllReadyH.cons (i := 10) rfl (fun K hK => ?_) AllReadyH.nil
          go_simp
          go_at_call 25
          refine (hJ2H.out _ (hpaH.out.below hb2a)).mono ?_
          rintro e w3 ⟨rfl, hb3⟩
          replace hHeld := keepJ5 hb3 hHeld
          have hb3a := hb2a.trans (hb3.mono hb2a.size)
          clear hb2a hb3
          refine hK.out _ _ hHeld (fun hHeld => ?_)
          clear hK K
          (try simp only [Act.put, List.setIfInBounds_toArray, List.set_cons_zero, List.set_cons_succ])
          refine wpAnyH_ready (rs := [11]) (by kernel_rfl) (by simp) ?_
          refine AllReadyH.cons (i := 11) rfl (fun K hK => ?_) AllReadyH.nil
          go_simp
          replace hHeld := keepJ5 (allocBel w3 (.cells #[.string i1, .string r.test, .string r.key, .string PASS, .string i2] 9)) hHeld
          refine hK.out _ _ hHeld (fun hHeld => ?_)
          clear hK K
          (try simp only [Act.put, List.setIfInBounds_toArray, List.set_cons_zero, List.set_cons_succ])
          refine wpAnyH_ready (rs := [12]) (by kernel_rfl) (by simp) ?_
          refine AllReadyH.cons (i := 12) rfl (fun K hK => ?_) AllReadyH.nil
          go_simp
          go_at_call 24
          refine (joinJ_own _ [i1, r.test, r.key, PASS, i2] _ w3.heap.size (ownJ_five w3 i1 r.test r.key PASS i2 hz5H.out) (by simp) (by simp) (fun y hy => by have := hwzH.out y hy; omega)).mono ?_
          rw [← hjnH.out]
          rintro e w4 ⟨rfl, hb4⟩
          replace hHeld := keepJ5 hb4 hHeld
          have hb4a := (hb3a.alloc hb3a.size _).trans (hb4.mono (by have := hb3a.size; simp; omega))
          clear hb3a hb4
          refine hK.out _ _ hHeld (fun hHeld => ?_)
          clear hK K
          (try simp only [Act.put, List.setIfInBounds_toArray, List.set_cons_zero, List.set_cons_succ])
          refine takeH (i := 13) (d := some 35) (v := ?_) rfl rfl (by kernel_rfl) (by kernel_rfl) (by kernel_rfl) (fun _ _ _ h => h) (Or.inl ⟨by rfl, ?_⟩) (by assumption) ?_
          rotate_left
          · (intro w hSw; (try dsimp only at hSw); go_simp; (try with_reducible rfl))
          (try simp only [Act.put, List.setIfInBounds_toArray, List.set_cons_zero, List.set_cons_succ])
          refine wpAnyH_ready (rs := [14]) (by kernel_rfl) (by simp) ?_
          refine AllReadyH.cons (i := 14) rfl (fun K hK => ?_) AllReadyH.nil
          go_simp
          go_at_call 23
          have hcp4 := (hb4a.block wr.heap.size (by have := hcpH.out; rcases Nat.lt_or_ge wr.heap.size wa.heap.size with h' | h'; exact h'; simp [Array.getElem?_eq_none h'] at this)).trans hcpH.out
          refine (bld_write w1.heap.size w1.heap.size (textT (l.take k)) t1 _ (hbldaH.out.below hb4a) (by rw [z1H.out]; have := hjzH.out; have := htsH.out; omega) (by have := halH.out.size; have := hb4a.size; omega)).mono ?_
          rintro e w5 ⟨rfl, hbld5, hb5, hoth⟩
          have hcp5 := hoth _ _ _ _ hcp4 (by decide) (by have := hltbH.out; omega)
          have hc5 := fun j => Lib.cell_of_heap hcp5 j
          have hh5 : w5.cell? ⟨wr.heap.size, 0, none⟩ = some (.string r.test) ∧ w5.cell? ⟨wr.heap.size, 1, none⟩ = some (.string r.key) ∧ w5.cell? ⟨wr.heap.size, 2, none⟩ = some (.int .i64 r.at_) ∧ w5.cell? ⟨wr.heap.size, 3, none⟩ = some (.bool true) ∧ w5.cell? ⟨wr.heap.size, 4, none⟩ = some (.int .i64 r.seconds) := ⟨hc5 0, hc5 1, hc5 2, hc5 3, hc5 4⟩
          have R : TxRel l w1 (.int .i64 (k + 1)) w5 := ⟨k + 1, hklH.out, by go_num, by rw [hstH.out]; exact hbld5, (halH.out.trans (hb4a.mono halH.out.size)).trans hb5⟩
          have RH := Lib.hid R
          clear R
          clear hbld5 hb4a hb5 hoth hcp4 hcp5 hc5 hHeld
          refine hK.out _ _ hh5 (fun hHeld => ?_)
          clear hK K
          (try simp only [Act.put, List.setIfInBounds_toArray, List.set_cons_zero, List.set_cons_succ])
          refine wpAnyH_done (by kernel_rfl) ?_ _
          go_wp2
          refine ⟨?rel, ?measure⟩
          case measure => (simp [intOf]; omega)
          case rel => first | exact RH.out | exact ⟨rfl, RH.out⟩ | ((try refine ⟨rfl, ?_⟩); (repeat apply Exists.intro); refine ⟨RH.out, ?_⟩; ((repeat' apply And.intro) <;> rfl))
      · obtain rfl : k = n := by omega
        have e : l.take k = l := List.take_of_length_le (by have := hllH.out; omega)
        rw [e] at hbld hts
        have hbr : Below w.heap.size w wr := hb1H.out.trans (hb.mono hb1H.out.size)
        have hF := hFH.out
        clear hFH
        have hbH := Lib.hid hb
        clear hb
        have hbrH := Lib.hid hbr
        clear hbr
        have hbldH := Lib.hid hbld
        clear hbld
        have eH := Lib.hid e
        clear e
        go_wp2_with fail
        refine (bld_len w1.heap.size w1.heap.size (textT l) _ hbldH.out).mono ?_
        rintro e w5 ⟨rfl, rfl⟩
        by_cases h9 : (textT l).length ≤ 900000
        · obtain ⟨rfl, rfl⟩ : bsL (textT l) = t ∧ 0 = cc := by rw [if_pos h9] at hF; exact Prod.mk.inj hF
          have h9n : ¬ (900000 : Int) < ((textT l).length : Int) := by omega
          obtain ⟨L, hL⟩ : ∃ L, textT l = L := ⟨_, rfl⟩
          rw [hL] at hbldH h9n ⊢
          clear hF hts
          go_wp2_with fail
          refine (bld_str w1.heap.size w1.heap.size L _ hbldH.out hbH.out.size).mono ?_
          rintro e w6 ⟨rfl, hb6⟩
          have hb7 := hb1H.out.trans ((hbH.out.trans hb6).mono hb1H.out.size)
          clear hb6
          have hb7H := Lib.hid hb7
          clear hb7
          go_wp2
          go_ret2
          exact ⟨by rw [hL]; rfl, hb7H.out⟩
        · obtain ⟨rfl, rfl⟩ : ⟨#[]⟩ = t ∧ 2 = cc := by rw [if_neg h9] at hF; exact Prod.mk.inj hF
          have h9n : (900000 : Int) < ((textT l).length : Int) := by omega
          obtain ⟨L, hL⟩ : ∃ L, (textT l).length = L := ⟨_, rfl⟩
          rw [hL] at h9n ⊢
          clear hF hts
          go_wp2
          go_ret2
          exact ⟨rfl, hbrH.out⟩
  · obtain ⟨rfl, rfl⟩ : ⟨#[]⟩ = t ∧ h = cc := by rw [if_neg e0] at hF; exact Prod.mk.inj hF
    have e1 : (h != 0) = true := by simpa using e0
    clear e0 hF
    go_wp2
    go_ret2
    exact ⟨rfl, hb1H.out⟩
end Go.Proofs.YtpmnkhklfoknhaaGreatDoor.C10
