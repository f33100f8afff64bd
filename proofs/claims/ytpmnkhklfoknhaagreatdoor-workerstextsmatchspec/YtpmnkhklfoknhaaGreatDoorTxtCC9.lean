/-
  Text of runs, of the program.
-/
import Derived.Test.YtpmnkhklfoknhaaGreatDoorTxtWC9
import Derived.Test.YtpmnkhklfoknhaaGreatDoorBuild
import Derived.Test.YtpmnkhklfoknhaaGreatDoorJoin
import Derived.Test.YtpmnkhklfoknhaaGreatDoorRCheckRunsC9
namespace Go.Proofs.YtpmnkhklfoknhaaGreatDoor.C9
open Go.ChangeShapes Go.WideShapes Go.Deep Go.RowKit
set_option linter.unusedVariables false

theorem textT_step {l : List Run} {k : Nat} {r : Run} (h : l[k]? = some r) : textT (l.take (k + 1)) = textT (l.take k) ++ lineL (wordsT r) := by
  unfold textT
  rw [List.take_add_one, h, Option.toList, List.flatMap_append, List.flatMap_cons, List.flatMap_nil, List.append_nil]
theorem wordsT_size {r : Run} (h : RunGood r) : ∀ w ∈ wordsT r, w.size ≤ 200 := by
  intro w hw
  simp only [wordsT, List.mem_cons, List.not_mem_nil, or_false] at hw
  rcases hw with rfl | rfl | rfl | rfl | rfl
  · have := (itoaB_size h.from_.1 (by have := h.from_.2; omega)).2; omega
  · have := (itoaB_size h.to_.1 (by have := h.to_.2; omega)).2; omega
  · unfold endB
    split
    · decide
    · split <;> decide
  · have := h.isz; omega
  · have := h.wsz; omega
theorem lineT_size {r : Run} (h : RunGood r) : (lineL (wordsT r)).length ≤ 2021 := by
  have := joinJ_size (l := wordsT r) (by simp [wordsT]) (fun w hw => by have := wordsT_size h w hw; omega)
  unfold lineL
  rw [List.length_append, List.length_singleton]
  simp only [wordsT, List.length_cons, List.length_nil] at this
  simp only [wordsT]
  omega
theorem textT_size : ∀ (l : List Run), (∀ r ∈ l, RunGood r) → (textT l).length ≤ 2021 * l.length
  | [], _ => by simp [textT]
  | r :: s, h => by
    have e : textT (r :: s) = lineL (wordsT r) ++ textT s := rfl
    have h1 := lineT_size (h r List.mem_cons_self)
    have h2 := textT_size s (fun x hx => h x (List.mem_cons_of_mem _ hx))
    rw [e, List.length_append, List.length_cons]
    omega
def arrE : Array Value := #[.string ⟨#[]⟩, .string DONE, .string LOST, .string STOP]
theorem arrE_get {n : Nat} (h : 1 ≤ n ∧ n ≤ 3) : arrE[n]? = some (.string (endB (n : Int))) := by
  obtain rfl | rfl | rfl : n = 1 ∨ n = 2 ∨ n = 3 := by omega
  · rfl
  · rfl
  · rfl
def TxRel (l : List Run) (w1 : World) (i : Value) (wr : World) : Prop :=
  ∃ k : Nat, k ≤ l.length ∧ i = .int .i64 k ∧ BldAt w1.heap.size w1.heap.size (textT (l.take k)) wr ∧ wr.heap[w1.heap.size + 1]? = some (.cells arrE 57 (0, 0)) ∧ Below w1.heap.size w1 wr

theorem keepJ6 {W w' : World} {a0 a1 a2 a3 a4 a5 : Addr} {v0 v1 v2 v3 v4 v5 : Value} (hb : Below W.heap.size W w') (h : (W.cell? a0 = some v0 ∧ W.cell? a1 = some v1 ∧ W.cell? a2 = some v2 ∧ W.cell? a3 = some v3 ∧ W.cell? a4 = some v4) ∧ W.cell? a5 = some v5) : (w'.cell? a0 = some v0 ∧ w'.cell? a1 = some v1 ∧ w'.cell? a2 = some v2 ∧ w'.cell? a3 = some v3 ∧ w'.cell? a4 = some v4) ∧ w'.cell? a5 = some v5 :=
  ⟨keepJ5 hb h.1, (hb.cell (cell?_lt h.2)).trans h.2⟩
set_option maxRecDepth 100000 in
set_option maxHeartbeats 8000000 in
theorem text_any (A : Option Addr) (n c : Nat) (l : List Run) (w : World) (hm : MaxLenAt w) (ht : PowJ w) (hl : SlAt RRun w A n l) (t : ByteArray) (cc : Int) (hF : textR l = (t, cc)) :
    Calls Tryz.prog 10 #[.slice A n c] w fun e w' => e = .returned (.tuple #[.string t, .int .i64 cc]) ∧ Below w.heap.size w w' := by
  unfold textR at hF
  obtain ⟨h, hh⟩ : ∃ h, runsF l = h := ⟨_, rfl⟩
  rw [hh] at hF
  have hmH := Lib.hid hm
  clear hm
  have htH := Lib.hid ht
  clear ht
  have hlH := Lib.hid hl
  clear hl
  have hhH := Lib.hid hh
  clear hh
  go_enter Tryz.func10, Tryz.ntmps10
  go_wp2_with fail
  refine (runs_any A n c l _ hlH.out h hhH.out).mono ?_
  rintro e w1 ⟨rfl, hb1⟩
  have hb1H := Lib.hid hb1
  clear hb1
  by_cases e0 : h = 0
  · subst e0
    rw [if_pos rfl] at hF
    have hg := runs_good hhH.out
    have hll := hlH.out.1
    have hln : l.length ≤ 4000 := by
      have := hhH.out
      unfold runsF at this
      split at this
      · assumption
      · cases this
    have hmade := BldAt.made w1
    have hgH := Lib.hid hg
    clear hg
    have hllH := Lib.hid hll
    clear hll
    have hFH := Lib.hid hF
    clear hF
    have hmadeH := Lib.hid hmade
    clear hmade
    go_wp2_with fail
    go_loopw [17] (fun i wr => TxRel l w1 i wr) (fun i _ => n - (intOf i).toNat)
    case atStart =>
      refine ⟨0, Nat.zero_le _, rfl, hmadeH.out.below (allocBel _ _), ?_, ((Below.refl _ _).alloc (Nat.le_refl _) _).alloc (by simp) _⟩
      have := heap_alloc_new (w1.alloc (.cells #[.pointer none, .slice none 0 0] 56)) (.cells arrE 57)
      simp only [World.size_alloc] at this
      exact this
    case round =>
      obtain ⟨k, hk, rfl, hbld, harr, hb⟩ := hrel
      have hkn : k ≤ n := by have := hllH.out; omega
      have hts := textT_size (l.take k) (fun r hr => hgH.out r (List.mem_of_mem_take hr))
      rw [List.length_take] at hts
      by_cases hlt : k < n
      · obtain ⟨b, off, hA, _⟩ := hlH.out.2.1 (by omega)
        subst hA
        obtain ⟨r, hr⟩ : ∃ r, l[k]? = some r := ⟨l[k]'(by have := hllH.out; omega), List.getElem?_eq_getElem _⟩
        have hbr : Below w.heap.size w wr := hb1H.out.trans (hb.mono hb1H.out.size)
        obtain ⟨c0, c1, c2, c3, c4⟩ := cells_Run (hlH.out.below hbr) hr
        have hrg := hgH.out r (List.mem_of_getElem? hr)
        have hst := textT_step hr
        obtain ⟨jn, hjn⟩ : ∃ z : ByteArray, z = ⟨(Lib.join ((wordsT r).map (·.data.toList)) [32]).toArray⟩ := ⟨_, rfl⟩
        have hjz : jn.size + 1 ≤ 2021 := by
          have := lineT_size hrg
          unfold lineL at this
          rw [List.length_append, List.length_singleton] at this
          rw [hjn]
          show (Lib.join ((wordsT r).map (·.data.toList)) [32]).toArray.size + 1 ≤ 2021
          rw [List.size_toArray]; exact this
        obtain ⟨t1, et1⟩ : ∃ z, jn ++ ⟨#[10]⟩ = z := ⟨_, rfl⟩
        have z1 : t1.size = jn.size + 1 := by rw [← et1, ByteArray.size_append]; rfl
        have e1 : ∀ w : World, (Op.stringOp .add jn ⟨#[10]⟩).run Tryz.prog w = .ok (.string t1) w := fun w => by rw [← et1]; exact run_string_add_sum w _ _ (by show jn.size + 1 ≤ _; omega)
        have hd1 : t1.data.toList = lineL (wordsT r) := by rw [← et1, hjn]; simp [lineL]
        rw [← hd1] at hst
        have hwz := wordsT_size hrg
        have hws : wordsT r = [itoJ r.from_, itoJ r.to_, endB r.end_, r.id_, r.worker] := rfl
        have hI1 : I64 r.from_ := ⟨by have := hrg.from_; omega, by have := hrg.from_; omega⟩
        have hI2 : I64 r.to_ := ⟨by have := hrg.to_; omega, by have := hrg.to_; omega⟩
        have hen := hrg.end_
        obtain ⟨rid, rwk, rfr, rto, rend⟩ := r
        simp only at c0 c1 c2 c3 c4 hws hI1 hI2 hen
        obtain ⟨en, rfl⟩ : ∃ en : Nat, rend = en := ⟨rend.toNat, by omega⟩
        have hen2 : 1 ≤ en ∧ en ≤ 3 := by omega
        obtain ⟨i1, hi1⟩ : ∃ z, itoJ rfr = z := ⟨_, rfl⟩
        obtain ⟨i2, hi2⟩ : ∃ z, itoJ rto = z := ⟨_, rfl⟩
        obtain ⟨ps, hps⟩ : ∃ p, endB (en : Int) = p := ⟨_, rfl⟩
        rw [hi1, hi2, hps] at hws
        have hJ1 := fun (W : World) (h : PowJ W) => itoJ_any rfr hI1 W h
        have hJ2 := fun (W : World) (h : PowJ W) => itoJ_any rto hI2 W h
        rw [hi1] at hJ1
        rw [hi2] at hJ2
        rw [hws] at hjn hwz
        have hz5 : ∀ y ∈ [i1, i2, ps, rid, rwk], y.size ≤ maxLen := fun y hy => by have := hwz y hy; unfold maxLen; omega
        obtain ⟨x0, x1, x2, x3, x4⟩ := newJ5 wr (.string rid) (.string rwk) (.int .i64 rfr) (.int .i64 rto) (.int .i64 (en : Int)) 28
        have hal := hb.alloc hb.size (.cells #[.string rid, .string rwk, .int .i64 rfr, .int .i64 rto, .int .i64 (en : Int)] 28)
        have hblda := hbld.below (allocBel wr (.cells #[.string rid, .string rwk, .int .i64 rfr, .int .i64 rto, .int .i64 (en : Int)] 28))
        have hpa := (htH.out.below hbr).below (allocBel wr (.cells #[.string rid, .string rwk, .int .i64 rfr, .int .i64 rto, .int .i64 (en : Int)] 28))
        have hkl : k + 1 ≤ l.length := by have := hllH.out; omega
        have harrl : w1.heap.size + 1 < wr.heap.size := by
          rcases Nat.lt_or_ge (w1.heap.size + 1) wr.heap.size with h' | h'
          · exact h'
          · simp [Array.getElem?_eq_none h'] at harr
        obtain ⟨wa, hwa⟩ : ∃ W, W = wr.alloc (.cells #[.string rid, .string rwk, .int .i64 rfr, .int .i64 rto, .int .i64 (en : Int)] 28) := ⟨_, rfl⟩
        have harra : wa.heap[w1.heap.size + 1]? = some (.cells arrE 57 (0, 0)) := by rw [hwa]; exact ((allocBel wr _).block _ harrl).trans harr
        have xa : wa.cell? ⟨w1.heap.size + 1, en, none⟩ = some (.string ps) := by rw [Lib.cell_of_heap harra, arrE_get hen2, hps]
        rw [← hwa] at x0 x1 x2 x3 x4 hal hblda hpa
        have hcp : wa.heap[wr.heap.size]? = some (.cells #[.string rid, .string rwk, .int .i64 rfr, .int .i64 rto, .int .i64 (en : Int)] 28 (0, 0)) := by rw [hwa]; exact heap_alloc_new wr _
        have hltb := hbld.lt
        have hix : (en : Int) < 4 := by omega
        clear hws hi1 hi2 hd1 et1 hI1 hI2 hrg hen
        have hrH := Lib.hid hr
        clear hr
        have hbldH := Lib.hid hbld
        clear hbld
        have hbH := Lib.hid hb
        clear hb
        have hbrH := Lib.hid hbr
        clear hbr
        have hstH := Lib.hid hst
        clear hst
        have hjnH := Lib.hid hjn
        clear hjn
        have hjzH := Lib.hid hjz
        clear hjz
        have z1H := Lib.hid z1
        clear z1
        have hwzH := Lib.hid hwz
        clear hwz
        have hJ1H := Lib.hid hJ1
        clear hJ1
        have hJ2H := Lib.hid hJ2
        clear hJ2
        have hz5H := Lib.hid hz5
        clear hz5
        have halH := Lib.hid hal
        clear hal
        have hbldaH := Lib.hid hblda
        clear hblda
        have hpaH := Lib.hid hpa
        clear hpa
        have hklH := Lib.hid hkl
        clear hkl
        have hwaH := Lib.hid hwa
        clear hwa
        have htsH := Lib.hid hts
        clear hts
        have hcpH := Lib.hid hcp
        clear hcp
        have hltbH := Lib.hid hltb
        clear hltb
        have hpsH := Lib.hid hps
        clear hps
        have harrH := Lib.hid harr
        clear harr
        have harraH := Lib.hid harra
        clear harra
        have harrlH := Lib.hid harrl
        clear harrl
        have hen2H := Lib.hid hen2
        clear hen2
        go_wp2_with fail
        rw [← hwaH.out]
        refine wp_region_held_drew (S := (fun w' => (w'.cell? ⟨wr.heap.size, 0, none⟩ = some (.string rid) ∧ w'.cell? ⟨wr.heap.size, 1, none⟩ = some (.string rwk) ∧ w'.cell? ⟨wr.heap.size, 2, none⟩ = some (.int .i64 rfr) ∧ w'.cell? ⟨wr.heap.size, 3, none⟩ = some (.int .i64 rto) ∧ w'.cell? ⟨wr.heap.size, 4, none⟩ = some (.int .i64 (en : Int))) ∧ w'.cell? ⟨w1.heap.size + 1, en, none⟩ = some (.string ps))) (by kernel_rfl) ⟨⟨x0, x1, x2, x3, x4⟩, xa⟩ (fun hHeld => ?_)
        clear x0 x1 x2 x3 x4 xa
        refine takeH (i := 0) (d := some 21) (v := ?_) rfl rfl (by kernel_rfl) (by kernel_rfl) (by kernel_rfl) (fun _ _ _ h => h) (Or.inl ⟨by rfl, ?_⟩) (by assumption) ?_
        rotate_left
        · (intro w hSw; (try dsimp only at hSw); go_simp; (try with_reducible rfl))
        (try simp only [Act.put, List.setIfInBounds_toArray, List.set_cons_zero, List.set_cons_succ])
        refine takeH (i := 1) (d := some 22) (v := ?_) rfl rfl (by kernel_rfl) (by kernel_rfl) (by kernel_rfl) (fun _ _ _ h => h) (Or.inl ⟨by rfl, ?_⟩) (by assumption) ?_
        rotate_left
        · (intro w hSw; (try dsimp only at hSw); go_simp; (try with_reducible rfl))
        (try simp only [Act.put, List.setIfInBounds_toArray, List.set_cons_zero, List.set_cons_succ])
        refine takeH (i := 3) (d := some 24) (v := ?_) rfl rfl (by kernel_rfl) (by kernel_rfl) (by kernel_rfl) (fun _ _ _ h => h) (Or.inl ⟨by rfl, ?_⟩) (by assumption) ?_
        rotate_left
        · (intro w hSw; (try dsimp only at hSw); go_simp; (try with_reducible rfl))
        (try simp only [Act.put, List.setIfInBounds_toArray, List.set_cons_zero, List.set_cons_succ])
        refine takeH (i := 4) (d := some 25) (v := ?_) rfl rfl (by kernel_rfl) (by kernel_rfl) (by kernel_rfl) (fun _ _ _ h => h) (Or.inl ⟨by rfl, ?_⟩) (by assumption) ?_
        rotate_left
        · (intro w hSw; (try dsimp only at hSw); go_simp; (try with_reducible rfl))
        (try simp only [Act.put, List.setIfInBounds_toArray, List.set_cons_zero, List.set_cons_succ])
        refine takeH (i := 6) (d := some 27) (v := ?_) rfl rfl (by kernel_rfl) (by kernel_rfl) (by kernel_rfl) (fun _ _ _ h => h) (Or.inl ⟨by rfl, ?_⟩) (by assumption) ?_
        rotate_left
        · (intro w hSw; (try dsimp only at hSw); go_simp; (try with_reducible rfl))
        (try simp only [Act.put, List.setIfInBounds_toArray, List.set_cons_zero, List.set_cons_succ])
        refine takeH (i := 7) (d := some 28) (v := ?_) rfl rfl (by kernel_rfl) (by kernel_rfl) (by kernel_rfl) (fun _ _ _ h => h) (Or.inl ⟨by rfl, ?_⟩) (by assumption) ?_
        rotate_left
        · (intro w hSw; (try dsimp only at hSw); go_simp; (try with_reducible rfl))
        (try simp only [Act.put, List.setIfInBounds_toArray, List.set_cons_zero, List.set_cons_succ])
        refine takeH (i := 8) (d := some 29) (v := ?_) rfl rfl (by kernel_rfl) (by kernel_rfl) (by kernel_rfl) (fun _ _ _ h => h) (Or.inl ⟨by rfl, ?_⟩) (by assumption) ?_
        rotate_left
        · (intro w hSw; (try dsimp only at hSw); go_simp; (try with_reducible rfl))
        (try simp only [Act.put, List.setIfInBounds_toArray, List.set_cons_zero, List.set_cons_succ])
        refine takeH (i := 9) (d := some 30) (v := ?_) rfl rfl (by kernel_rfl) (by kernel_rfl) (by kernel_rfl) (fun _ _ _ h => h) (Or.inl ⟨by rfl, ?_⟩) (by assumption) ?_
        rotate_left
        · (intro w hSw; (try dsimp only at hSw); go_simp; (try with_reducible rfl))
        (try simp only [Act.put, List.setIfInBounds_toArray, List.set_cons_zero, List.set_cons_succ])
        refine takeH (i := 10) (d := some 31) (v := ?_) rfl rfl (by kernel_rfl) (by kernel_rfl) (by kernel_rfl) (fun _ _ _ h => h) (Or.inl ⟨by rfl, ?_⟩) (by assumption) ?_
        rotate_left
        · (intro w hSw; (try dsimp only at hSw); go_simp; (try with_reducible rfl))
        (try simp only [Act.put, List.setIfInBounds_toArray, List.set_cons_zero, List.set_cons_succ])
        refine takeH (i := 11) (d := some 32) (v := ?_) rfl rfl (by kernel_rfl) (by kernel_rfl) (by kernel_rfl) (fun _ _ _ h => h) (Or.inl ⟨by rfl, ?_⟩) (by assumption) ?_
        rotate_left
        · (intro w hSw; (try dsimp only at hSw); go_simp; (try with_reducible rfl))
        (try simp only [Act.put, List.setIfInBounds_toArray, List.set_cons_zero, List.set_cons_succ])
        refine takeH (i := 12) (d := some 33) (v := ?_) rfl rfl (by kernel_rfl) (by kernel_rfl) (by kernel_rfl) (fun _ _ _ h => h) (Or.inl ⟨by rfl, ?_⟩) (by assumption) ?_
        rotate_left
        · (intro w hSw; (try dsimp only at hSw); go_simp; (try with_reducible rfl))
        (try simp only [Act.put, List.setIfInBounds_toArray, List.set_cons_zero, List.set_cons_succ])
        refine takeH (i := 13) (d := some 34) (v := ?_) rfl rfl (by kernel_rfl) (by kernel_rfl) (by kernel_rfl) (fun _ _ _ h => h) (Or.inl ⟨by rfl, ?_⟩) (by assumption) ?_
        rotate_left
        · (intro w hSw; (try dsimp only at hSw); go_simp; (try with_reducible rfl))
        (try simp only [Act.put, List.setIfInBounds_toArray, List.set_cons_zero, List.set_cons_succ])
        refine wpAnyH_ready (rs := [2]) (by kernel_rfl) (by simp) ?_
        refine AllReadyH.cons (i := 2) rfl (fun K hK => ?_) AllReadyH.nil
        go_simp
        go_at_call 25
        refine (hJ1H.out _ (hpaH.out.below (by first | exact Below.refl _ _ | exact (Below.refl _ _).drew))).mono ?_
        rintro e w2 ⟨rfl, hb2⟩
        have hb2a : Below wa.heap.size wa w2 := by first | exact hb2 | exact (Below.refl _ _).drew.trans hb2
        replace hHeld := keepJ6 hb2 hHeld
        clear hb2
        refine hK.out _ _ hHeld (fun hHeld => ?_)
        clear hK K
        (try simp only [Act.put, List.setIfInBounds_toArray, List.set_cons_zero, List.set_cons_succ])
        refine wpAnyH_ready (rs := [5]) (by kernel_rfl) (by simp) ?_
        refine AllReadyH.cons (i := 5) rfl (fun K hK => ?_) AllReadyH.nil
        go_simp
        go_at_call 25
        refine (hJ2H.out _ (hpaH.out.below hb2a)).mono ?_
        rintro e w3 ⟨rfl, hb3⟩
        replace hHeld := keepJ6 hb3 hHeld
        have hb3a := hb2a.trans (hb3.mono hb2a.size)
        clear hb2a hb3
        refine hK.out _ _ hHeld (fun hHeld => ?_)
        clear hK K
        (try simp only [Act.put, List.setIfInBounds_toArray, List.set_cons_zero, List.set_cons_succ])
        refine wpAnyH_ready (rs := [14]) (by kernel_rfl) (by simp) ?_
        refine AllReadyH.cons (i := 14) rfl (fun K hK => ?_) AllReadyH.nil
        go_simp
        replace hHeld := keepJ6 (allocBel w3 (.cells #[.string i1, .string i2, .string ps, .string rid, .string rwk] 9)) hHeld
        refine hK.out _ _ hHeld (fun hHeld => ?_)
        clear hK K
        (try simp only [Act.put, List.setIfInBounds_toArray, List.set_cons_zero, List.set_cons_succ])
        refine wpAnyH_ready (rs := [15]) (by kernel_rfl) (by simp) ?_
        refine AllReadyH.cons (i := 15) rfl (fun K hK => ?_) AllReadyH.nil
        go_simp
        go_at_call 24
        refine (joinJ_own _ [i1, i2, ps, rid, rwk] _ w3.heap.size (ownJ_five w3 i1 i2 ps rid rwk hz5H.out) (by simp) (by simp) (fun y hy => by have := hwzH.out y hy; omega)).mono ?_
        rw [← hjnH.out]
        rintro e w4 ⟨rfl, hb4⟩
        replace hHeld := keepJ6 hb4 hHeld
        have hb4a := (hb3a.alloc hb3a.size _).trans (hb4.mono (by have := hb3a.size; simp; omega))
        clear hb3a hb4
        refine hK.out _ _ hHeld (fun hHeld => ?_)
        clear hK K
        (try simp only [Act.put, List.setIfInBounds_toArray, List.set_cons_zero, List.set_cons_succ])
        refine takeH (i := 16) (d := some 37) (v := ?_) rfl rfl (by kernel_rfl) (by kernel_rfl) (by kernel_rfl) (fun _ _ _ h => h) (Or.inl ⟨by rfl, ?_⟩) (by assumption) ?_
        rotate_left
        · (intro w hSw; (try dsimp only at hSw); go_simp; (try with_reducible rfl))
        (try simp only [Act.put, List.setIfInBounds_toArray, List.set_cons_zero, List.set_cons_succ])
        refine wpAnyH_ready (rs := [17]) (by kernel_rfl) (by simp) ?_
        refine AllReadyH.cons (i := 17) rfl (fun K hK => ?_) AllReadyH.nil
        go_simp
        go_at_call 23
        have hwl : wr.heap.size < wa.heap.size := by have := hcpH.out; rcases Nat.lt_or_ge wr.heap.size wa.heap.size with h' | h'; exact h'; simp [Array.getElem?_eq_none h'] at this
        have hcp4 := (hb4a.block wr.heap.size hwl).trans hcpH.out
        have har4 := (hb4a.block (w1.heap.size + 1) (by have := harrlH.out; omega)).trans harraH.out
        refine (bld_write w1.heap.size w1.heap.size (textT (l.take k)) t1 _ (hbldaH.out.below hb4a) (by rw [z1H.out]; have := hjzH.out; have := htsH.out; omega) (by have := halH.out.size; have := hb4a.size; omega)).mono ?_
        rintro e w5 ⟨rfl, hbld5, hb5, hoth⟩
        have hcp5 := hoth _ _ _ _ hcp4 (by decide) (by have := hltbH.out; omega)
        have har5 := hoth _ _ _ _ har4 (by decide) (by omega)
        have hc5 := fun j => Lib.cell_of_heap hcp5 j
        have hxa5 : w5.cell? ⟨w1.heap.size + 1, en, none⟩ = some (.string ps) := by rw [Lib.cell_of_heap har5, arrE_get hen2H.out, hpsH.out]
        have hh5 : (w5.cell? ⟨wr.heap.size, 0, none⟩ = some (.string rid) ∧ w5.cell? ⟨wr.heap.size, 1, none⟩ = some (.string rwk) ∧ w5.cell? ⟨wr.heap.size, 2, none⟩ = some (.int .i64 rfr) ∧ w5.cell? ⟨wr.heap.size, 3, none⟩ = some (.int .i64 rto) ∧ w5.cell? ⟨wr.heap.size, 4, none⟩ = some (.int .i64 (en : Int))) ∧ w5.cell? ⟨w1.heap.size + 1, en, none⟩ = some (.string ps) := ⟨⟨hc5 0, hc5 1, hc5 2, hc5 3, hc5 4⟩, hxa5⟩
        have R : TxRel l w1 (.int .i64 (k + 1)) w5 := ⟨k + 1, hklH.out, by go_num, by rw [hstH.out]; exact hbld5, har5, (halH.out.trans (hb4a.mono halH.out.size)).trans hb5⟩
        have RH := Lib.hid R
        clear R
        clear hbld5 hb4a hb5 hoth hcp4 hcp5 hc5 hHeld har4 har5 hxa5 hwl
        refine hK.out _ _ hh5 (fun hHeld => ?_)
        clear hK K
        (try simp only [Act.put, List.setIfInBounds_toArray, List.set_cons_zero, List.set_cons_succ])
        refine wpAnyH_done (by kernel_rfl) ?_ _
        go_wp2
        refine ⟨?rel, ?measure⟩
        case measure => (simp [intOf]; omega)
        case rel => first | exact RH.out | exact ⟨rfl, RH.out⟩ | ((try refine ⟨rfl, ?_⟩); (repeat apply Exists.intro); refine ⟨RH.out, ?_⟩; ((repeat' apply And.intro) <;> rfl))
      · obtain rfl : k = n := by omega
        have e : l.take k = l := List.take_of_length_le (by have := hllH.out; omega)
        rw [e] at hbld hts
        have hbr : Below w.heap.size w wr := hb1H.out.trans (hb.mono hb1H.out.size)
        have hF := hFH.out
        clear hFH
        have hbH := Lib.hid hb
        clear hb
        have hbrH := Lib.hid hbr
        clear hbr
        have hbldH := Lib.hid hbld
        clear hbld
        have eH := Lib.hid e
        clear e
        go_wp2_with fail
        refine (bld_len w1.heap.size w1.heap.size (textT l) _ hbldH.out).mono ?_
        rintro e w5 ⟨rfl, rfl⟩
        by_cases h9 : (textT l).length ≤ 600000
        · obtain ⟨rfl, rfl⟩ : bsL (textT l) = t ∧ 0 = cc := by rw [if_pos h9] at hF; exact Prod.mk.inj hF
          have h9n : ¬ (600000 : Int) < ((textT l).length : Int) := by omega
          obtain ⟨L, hL⟩ : ∃ L, textT l = L := ⟨_, rfl⟩
          rw [hL] at hbldH h9n ⊢
          clear hF hts
          go_wp2_with fail
          refine (bld_str w1.heap.size w1.heap.size L _ hbldH.out hbH.out.size).mono ?_
          rintro e w6 ⟨rfl, hb6⟩
          have hb7 := hb1H.out.trans ((hbH.out.trans hb6).mono hb1H.out.size)
          clear hb6
          have hb7H := Lib.hid hb7
          clear hb7
          go_wp2
          go_ret2
          exact ⟨by rw [hL]; rfl, hb7H.out⟩
        · obtain ⟨rfl, rfl⟩ : ⟨#[]⟩ = t ∧ 2 = cc := by rw [if_neg h9] at hF; exact Prod.mk.inj hF
          have h9n : (600000 : Int) < ((textT l).length : Int) := by omega
          obtain ⟨L, hL⟩ : ∃ L, (textT l).length = L := ⟨_, rfl⟩
          rw [hL] at h9n ⊢
          clear hF hts
          go_wp2
          go_ret2
          exact ⟨rfl, hbrH.out⟩
  · obtain ⟨rfl, rfl⟩ : ⟨#[]⟩ = t ∧ h = cc := by rw [if_neg e0] at hF; exact Prod.mk.inj hF
    have e1 : (h != 0) = true := by simpa using e0
    clear e0 hF
    go_wp2
    go_ret2
    exact ⟨rfl, hb1H.out⟩
end Go.Proofs.YtpmnkhklfoknhaaGreatDoor.C9
