/-
  Failing, of the program and of the reference.
-/
import Derived.Test.YtgalaeeppalljaaDoorRFlaky
import Derived.Test.YtgalaeeppalljaaDoorPartQ
namespace Go.Proofs.YtgalaeeppalljaaDoor
open Go.RowKit Go.Maps
set_option linter.unusedVariables false

/-- failed runs and all runs of a test among m, of the keys that are no longer to come and with which it does not always fail -/
def failS (l : List TestRun) (te : ByteArray) (left : ByteArray × ByteArray → Bool) : List TestRun → Int × Int
  | [] => (0, 0)
  | r :: s => if r.test = te ∧ left (r.test, r.key) = false ∧ verdF (tal l (r.test, r.key)) ≠ 3 then ((failS l te left s).1 + (if r.pass = true then 0 else 1), (failS l te left s).2 + 1) else failS l te left s
theorem failS_bd (l : List TestRun) (te : ByteArray) (left : ByteArray × ByteArray → Bool) : ∀ m : List TestRun, 0 ≤ (failS l te left m).1 ∧ (failS l te left m).1 ≤ (failS l te left m).2 ∧ (failS l te left m).2 ≤ m.length
  | [] => by simp [failS]
  | r :: s => by
    have ih := failS_bd l te left s
    rw [failS]
    simp only [List.length_cons]
    split
    · simp only
      split <;> omega
    · omega
theorem failS_step (l : List TestRun) (te t k : ByteArray) (left : ByteArray × ByteArray → Bool) (hl : left (t, k) = true) : ∀ m : List TestRun,
    failS l te (fun z => left z && !decide (z = (t, k))) m = if t = te ∧ verdF (tal l (t, k)) ≠ 3 then ((failS l te left m).1 + (tal m (t, k)).2, (failS l te left m).2 + (tal m (t, k)).1 + (tal m (t, k)).2) else failS l te left m
  | [] => by simp [failS, tal]
  | r :: s => by
    have ih := failS_step l te t k left hl s
    rw [failS, failS, ih, tal]
    obtain ⟨u, hu⟩ : ∃ u : Int, (if r.pass = true then 0 else 1) = u := ⟨_, rfl⟩
    by_cases e : (r.test, r.key) = (t, k)
    · simp only [Prod.mk.injEq] at e
      obtain ⟨e1, e2⟩ := e
      simp only [e1, e2, hl, decide_true, Bool.not_true, Bool.and_false, Bool.true_eq_false, false_and, and_false, if_false, if_true, true_and]
      by_cases h : t = te ∧ verdF (tal l (t, k)) ≠ 3
      · rw [if_pos h, if_pos h, if_pos h]
        cases hp : r.pass
        · rw [hp] at hu
          simp only [Bool.false_eq_true, if_false]
          refine Prod.ext ?_ ?_ <;> simp only [] <;> omega
        · simp only [if_true]
          refine Prod.ext ?_ ?_ <;> simp only [] <;> omega
      · rw [if_neg h, if_neg h, if_neg h]
    · have e2 : (left (r.test, r.key) && !decide ((r.test, r.key) = (t, k))) = left (r.test, r.key) := by rw [decide_eq_false e]; simp
      rw [e2, if_neg e, hu]
      by_cases h : t = te ∧ verdF (tal l (t, k)) ≠ 3
      · rw [if_pos h, if_pos h]
        by_cases g : r.test = te ∧ left (r.test, r.key) = false ∧ verdF (tal l (r.test, r.key)) ≠ 3
        · rw [if_pos g, if_pos g]
          refine Prod.ext ?_ ?_ <;> simp only [] <;> omega
        · rw [if_neg g, if_neg g]
      · rw [if_neg h, if_neg h]
theorem tal_of_mem : ∀ (l : List TestRun) (r : TestRun), r ∈ l → tal l (r.test, r.key) ≠ (0, 0)
  | y :: s, r, h => by
    rw [tal]
    obtain ⟨h0, h1, _⟩ := tal_nonneg s (r.test, r.key)
    by_cases e : (y.test, y.key) = (r.test, r.key)
    · rw [if_pos e]
      split <;> (intro e2; have a := congrArg Prod.fst e2; have b := congrArg Prod.snd e2; simp only at a b; omega)
    · rw [if_neg e]
      rcases List.mem_cons.1 h with rfl | h
      · exact absurd rfl e
      · exact tal_of_mem s r h
theorem failS_start (l : List TestRun) (te : ByteArray) : ∀ m : List TestRun, (∀ r ∈ m, r ∈ l) → failS l te (fun x => (talF l x).isSome) m = (0, 0)
  | [], _ => rfl
  | r :: s, h => by
    have ih := failS_start l te s (fun y hy => h y (List.mem_cons_of_mem _ hy))
    have hr : (talF l (r.test, r.key)).isSome = true := by
      unfold talF
      rw [if_neg (tal_of_mem l r (h r (List.mem_cons_self ..)))]; rfl
    rw [failS, if_neg (by rw [hr]; simp), ih]
theorem failS_end (l : List TestRun) (te : ByteArray) (left : ByteArray × ByteArray → Bool) : ∀ m : List TestRun, (∀ r ∈ m, left (r.test, r.key) = false) → failS l te left m = failS l te (fun _ => false) m
  | [], _ => rfl
  | r :: s, h => by
    have ih := failS_end l te left s (fun y hy => h y (List.mem_cons_of_mem _ hy))
    rw [failS, failS, ih, h r (List.mem_cons_self ..)]
theorem failS_snoc (l : List TestRun) (te : ByteArray) (r : TestRun) : ∀ m : List TestRun, failS l te (fun _ => false) (m ++ [r]) =
    if r.test = te ∧ verdF (tal l (r.test, r.key)) ≠ 3 then ((failS l te (fun _ => false) m).1 + (if r.pass = true then 0 else 1), (failS l te (fun _ => false) m).2 + 1) else failS l te (fun _ => false) m
  | [] => by simp [failS]
  | y :: s => by
    have ih := failS_snoc l te r s
    rw [List.cons_append, failS, ih, failS]
    obtain ⟨u, hu⟩ : ∃ u : Int, (if r.pass = true then 0 else 1) = u := ⟨_, rfl⟩
    obtain ⟨v, hv⟩ : ∃ u : Int, (if y.pass = true then 0 else 1) = u := ⟨_, rfl⟩
    rw [hu, hv]
    by_cases g : y.test = te ∧ (false : Bool) = false ∧ verdF (tal l (y.test, y.key)) ≠ 3
    · rw [if_pos g, if_pos g]
      by_cases h : r.test = te ∧ verdF (tal l (r.test, r.key)) ≠ 3
      · rw [if_pos h, if_pos h]
        refine Prod.ext ?_ ?_ <;> simp only [] <;> omega
      · rw [if_neg h, if_neg h]
    · rw [if_neg g, if_neg g]

/-- Failing's answer: a part, and the error -/
def failR (l : List TestRun) (te : ByteArray) : Nat × Nat × Int :=
  if histF l = 0 then (if pathB te = true then ((partF (failS l te (fun _ => false) l).1.toNat (failS l te (fun _ => false) l).2.toNat).1, (partF (failS l te (fun _ => false) l).1.toNat (failS l te (fun _ => false) l).2.toNat).2, 0) else (0, 0, 5)) else (0, 0, histF l)

theorem res_cells {w wr : World} {v0 v1 : Value} {T : TypeId} (hb : Below (w.alloc (.cells #[v0, v1] T)).heap.size (w.alloc (.cells #[v0, v1] T)) wr) :
    wr.cell? ⟨w.heap.size, 0, none⟩ = some v0 ∧ wr.cell? ⟨w.heap.size, 1, none⟩ = some v1 ∧ wr.frozen? ⟨w.heap.size, 0, none⟩ = false ∧ wr.frozen? ⟨w.heap.size, 1, none⟩ = false :=
  ⟨(hb.cell (by simp)).trans (by simp [go_sem]), (hb.cell (by simp)).trans (by simp [go_sem]), (hb.frozen (by simp)).trans (by simp only [World.frozen?, (MapKept.heap_alloc w (.cells #[v0, v1] T)).1]; rfl), (hb.frozen (by simp)).trans (by simp only [World.frozen?, (MapKept.heap_alloc w (.cells #[v0, v1] T)).1]; rfl)⟩

def FaRel (l : List TestRun) (te : ByteArray) (b r ct : Nat) (w0 : World) (fs al : Value) (wr : World) : Prop :=
  ∃ (left : ByteArray × ByteArray → Bool) (cnt : Nat), TRange KId valT wr b r ct (talF l) left cnt ∧ fs = .int .i64 (failS l te left l).1 ∧ al = .int .i64 (failS l te left l).2 ∧ Below w0.heap.size w0 wr

theorem two_cells {w : World} {b : Nat} {u0 u1 : Value} (v0 v1 : Value) (h0 : w.cell? ⟨b, 0, none⟩ = some u0) (h1 : w.cell? ⟨b, 1, none⟩ = some u1) :
    (w.setCell ⟨b, 0, none⟩ v0).cell? ⟨b, 0, none⟩ = some v0 ∧ ((w.setCell ⟨b, 0, none⟩ v0).setCell ⟨b, 1, none⟩ v1).cell? ⟨b, 0, none⟩ = some v0 ∧ ((w.setCell ⟨b, 0, none⟩ v0).setCell ⟨b, 1, none⟩ v1).cell? ⟨b, 1, none⟩ = some v1 := by
  have e0 : (w.setCell ⟨b, 0, none⟩ v0).cell? ⟨b, 0, none⟩ = some v0 := World.cell?_setCell_same' _ _ _ (by rw [h0]; rfl)
  have e1 : (w.setCell ⟨b, 0, none⟩ v0).cell? ⟨b, 1, none⟩ = some u1 := by rw [World.cell?_setCell_other _ _ _ _ (by simp)]; exact h1
  exact ⟨e0, by rw [World.cell?_setCell_other _ _ _ _ (by simp)]; exact e0, World.cell?_setCell_same' _ _ _ (by rw [e1]; rfl)⟩

set_option maxRecDepth 100000 in
set_option maxHeartbeats 2000000 in
theorem failing_any (A : Option Addr) (len cap : Nat) (l : List TestRun) (te : ByteArray) (w : World) (hm : MaxLenAt w) (hl : SlAt RTestRun w A len l) (hte : te.size ≤ maxLen) (p q : Nat) (c : Int) (hF : failR l te = (p, q, c)) :
    Calls Tryd.prog 32 #[.slice A len cap, .string te] w fun e w' => e = .returned (.tuple #[.agg #[.int .i64 p, .int .i64 q], .int .i64 c]) ∧ Below w.heap.size w w' := by
  have hll := hl.1
  have hok : ∀ r ∈ l, r.test.size ≤ maxLen ∧ r.key.size ≤ maxLen := fun r hr => ⟨(hl.2.2 r hr).1, (hl.2.2 r hr).2.1⟩
  have hba := (Below.refl w.heap.size w).alloc (Nat.le_refl _) (.cells #[.int .i64 0, .int .i64 0] 50)
  unfold failR at hF
  obtain ⟨h, hh⟩ : ∃ h, histF l = h := ⟨_, rfl⟩
  obtain ⟨bp, hbp⟩ : ∃ b, pathB te = b := ⟨_, rfl⟩
  rw [hh, hbp] at hF
  by_cases h0 : h = 0
  · subst h0
    rw [if_pos rfl] at hF
    have hlen : len ≤ 3000 := by
      have := hh
      unfold histF at this
      split at this
      · omega
      · cases this
    cases bp
    · rw [if_neg (by simp), Prod.mk.injEq, Prod.mk.injEq] at hF
      obtain ⟨rfl, rfl, rfl⟩ := hF
      have hmH := Lib.hid hm
      clear hm
      have hlH := Lib.hid hl
      clear hl
      have hteH := Lib.hid hte
      clear hte
      have hllH := Lib.hid hll
      clear hll
      have hokH := Lib.hid hok
      clear hok
      have hbaH := Lib.hid hba
      clear hba
      have hhH := Lib.hid hh
      clear hh
      have hbpH := Lib.hid hbp
      clear hbp
      go_enter Tryd.func32, Tryd.ntmps32
      go_wp2_with fail
      refine (hist_any A len cap l _ (hmH.out.below hbaH.out) (hlH.out.below hbaH.out) 0 hhH.out).mono ?_
      rintro e w1 ⟨rfl, hw1⟩
      have hmb := (hmH.out.below hbaH.out).below hw1
      have hw1H := Lib.hid hw1
      clear hw1
      have hmbH := Lib.hid hmb
      clear hmb
      go_wp2_with fail
      refine (isPath_any te _ hmbH.out false hbpH.out).mono ?_
      rintro e w2 ⟨rfl, hw2⟩
      have hw := hw1H.out.trans (hw2.mono hw1H.out.size)
      obtain ⟨q0, q1, f0, f1⟩ := res_cells hw
      have hb2 := hbaH.out.trans (hw.mono hbaH.out.size)
      clear hw hw2
      have hb2H := Lib.hid hb2
      clear hb2
      go_wp2
      obtain ⟨_, d1, d2⟩ := two_cells (.int .i64 0) (.int .i64 0) q0 q1
      exact bodyPost_ret (v := .tuple #[.agg #[.int .i64 0, .int .i64 0], .int .i64 5]) (by simp [results, Tryd.results32, go_sem, d1, d2]) rfl ⟨rfl, ((hb2H.out).setCell (Nat.le_refl _) _).setCell (Nat.le_refl _) _⟩
    · rw [if_pos rfl, Prod.mk.injEq, Prod.mk.injEq] at hF
      obtain ⟨hp, hq, rfl⟩ := hF
      obtain ⟨⟨F, S⟩, hS⟩ : ∃ x, failS l te (fun _ => false) l = x := ⟨_, rfl⟩
      have hSb := failS_bd l te (fun _ => false) l
      rw [hS] at hp hq hSb
      simp only at hp hq hSb
      rw [hll] at hSb
      have hmk := @run_makeMap Tryd.prog
      have hmH := Lib.hid hm
      clear hm
      have hlH := Lib.hid hl
      clear hl
      have hteH := Lib.hid hte
      clear hte
      have hllH := Lib.hid hll
      clear hll
      have hokH := Lib.hid hok
      clear hok
      have hbaH := Lib.hid hba
      clear hba
      have hhH := Lib.hid hh
      clear hh
      have hbpH := Lib.hid hbp
      clear hbp
      have hpH := Lib.hid hp
      clear hp
      have hqH := Lib.hid hq
      clear hq
      have hSH := Lib.hid hS
      clear hS
      go_enter Tryd.func32, Tryd.ntmps32
      go_wp2_with fail
      refine (hist_any A len cap l _ (hmH.out.below hbaH.out) (hlH.out.below hbaH.out) 0 hhH.out).mono ?_
      rintro e w1 ⟨rfl, hw1⟩
      have hmb := (hmH.out.below hbaH.out).below hw1
      have hw1H := Lib.hid hw1
      clear hw1
      have hmbH := Lib.hid hmb
      clear hmb
      go_wp2_with fail
      refine (isPath_any te _ hmbH.out true hbpH.out).mono ?_
      rintro e w2 ⟨rfl, hw2⟩
      have hw := hw1H.out.trans (hw2.mono hw1H.out.size)
      have hb2 := hbaH.out.trans (hw.mono hbaH.out.size)
      clear hw2
      have hb2H := Lib.hid hb2
      clear hb2
      have hwH := Lib.hid hw
      clear hw
      go_wp2_with fail
      refine (tallies_any A len cap l _ (by omega) (hlH.out.below hb2H.out)).mono ?_
      rintro e w3 ⟨b, ct, rfl, hbb, hct, hmp, hw3⟩
      have hw30 := hwH.out.trans (hw3.mono hwH.out.size)
      have hs3 := hw30.size
      clear hw3 hbb
      have hw30H := Lib.hid hw30
      clear hw30
      have hmpH := Lib.hid hmp
      clear hmp
      go_wp2_with (at_range; go_loud (refine wpList_trange rfl (.tmp 22) 96 rfl Tryd.underlying96 rfl hmpH.out ?_); intro w4 hr4 hg4 hs4; have hr4H := Lib.hid hr4; clear hr4; have hg4H := Lib.hid hg4; clear hg4)
      go_frame
      go_loopw [7, 8] (fun fs al wr => FaRel l te b w3.heap.size ct (w.alloc (.cells #[.int .i64 0, .int .i64 0] 50)) fs al wr) (fun _ _ wr => wr.rangeLeft b w3.heap.size)
      case atStart =>
        refine ⟨_, ct, hr4H.out, ?_, ?_, hw30H.out.grown hg4H.out hs3 (fun k hk => by cases hk)⟩
        · rw [failS_start l te l (fun r h => h)]
        · rw [failS_start l te l (fun r h => h)]
      case round =>
        obtain ⟨left, cnt, hr, rfl, rfl, hb⟩ := hrel
        have hrl := hr.left_eq
        have hbs := hb.size
        obtain ⟨fb0, fb1, fb2⟩ := failS_bd l te left l
        rw [hllH.out] at fb2
        obtain ⟨⟨fs, al⟩, hfs⟩ : ∃ x, failS l te left l = x := ⟨_, rfl⟩
        rw [hfs] at fb0 fb1 fb2
        simp only at fb0 fb1 fb2
        rw [hfs]
        have hrH := Lib.hid hr
        clear hr
        have hbH := Lib.hid hb
        clear hb
        have hrlH := Lib.hid hrl
        clear hrl
        have hfsH := Lib.hid hfs
        clear hfs
        go_wp2_with (at_next; go_loud (refine wpList_tnext rfl (.tmp 23) rfl rfl injT hrH.out ?_ ?_))
        · intro hc0 hl0
          have hend : failS l te left l = failS l te (fun _ => false) l := failS_end l te left l (fun r hr => by first | exact hl0 (r.test, r.key) (hokH.out r hr) | exact hl0 r.test r.key (hokH.out r hr))
          clear hl0
          rw [hfsH.out, hSH.out] at hend
          simp only [Prod.mk.injEq] at hend
          obtain ⟨rfl, rfl⟩ := hend
          obtain ⟨q0, q1, f0, f1⟩ := res_cells hbH.out
          have hb7 := hbaH.out.trans (hbH.out.mono hbaH.out.size)
          have hp := hpH.out
          have hq := hqH.out
          obtain ⟨F, rfl⟩ : ∃ x : Nat, fs = x := ⟨fs.toNat, by omega⟩
          obtain ⟨S, rfl⟩ : ∃ x : Nat, al = x := ⟨al.toNat, by omega⟩
          rw [Int.toNat_natCast, Int.toNat_natCast] at hp hq
          clear hpH hqH
          have hb7H := Lib.hid hb7
          clear hb7
          have hpH := Lib.hid hp
          clear hp
          have hqH := Lib.hid hq
          clear hq
          by_cases hS0 : S = 0
          · subst hS0
            obtain rfl : 0 = p := by have := hpH.out; rw [partF, if_pos rfl] at this; exact this
            obtain rfl : 1 = q := by have := hqH.out; rw [partF, if_pos rfl] at this; exact this
            go_wp2
            obtain ⟨_, d1, d2⟩ := two_cells (.int .i64 0) (.int .i64 1) q0 q1
            exact bodyPost_ret (v := .tuple #[.agg #[.int .i64 0, .int .i64 1], .int .i64 0]) (by simp [results, Tryd.results32, go_sem, d1, d2]) rfl ⟨rfl, ((hb7H.out).setCell (Nat.le_refl _) _).setCell (Nat.le_refl _) _⟩
          · have hS1 : ((S : Int) == 0) = false := by simpa using hS0
            go_wp2_with fail
            refine (lowest_any F S (by omega) (by omega) (by omega) _ p q (Prod.ext hpH.out hqH.out)).mono ?_
            rintro e w8 ⟨rfl, hw8⟩
            obtain ⟨q0, q1, f0, f1⟩ := res_cells (hbH.out.trans (hw8.mono hbs))
            have hb8 := hb7H.out.trans (hw8.mono hb7H.out.size)
            clear hw8
            have hb8H := Lib.hid hb8
            clear hb8
            go_wp2
            obtain ⟨_, d1, d2⟩ := two_cells (.int .i64 p) (.int .i64 q) q0 q1
            exact bodyPost_ret (v := .tuple #[.agg #[.int .i64 p, .int .i64 q], .int .i64 0]) (by simp [results, Tryd.results32, go_sem, d1, d2]) rfl ⟨rfl, ((hb8H.out).setCell (Nat.le_refl _) _).setCell (Nat.le_refl _) _⟩
        · intro t k p2 f2 w5 cnt5 hgood hleft hf hr5 hlt5 hg5 hs5 hen
          simp only [KId_val, valT_mk]
          replace hen : (Instr.entry (.pointer (some ⟨w3.heap.size, 0, none⟩))).run Tryd.prog w5 = .ok (.tuple #[.agg #[.string t, .string k], .agg #[.int .i64 p2, .int .i64 f2]]) w5 := hen
          have htal : tal l (t, k) = (p2, f2) := by
            unfold talF at hf
            split at hf
            · cases hf
            · injection hf
          obtain ⟨n0, n1, n2⟩ := tal_nonneg l (t, k)
          rw [htal] at n0 n1 n2
          simp only at n0 n1 n2
          have hll2 := hllH.out
          have n3 : p2 + f2 ≤ 3001 := by omega
          clear n2 hll2
          obtain ⟨v, hv⟩ : ∃ v, verdF (p2, f2) = v := ⟨_, rfl⟩
          have hst := failS_step l te t k left hleft l
          rw [htal, hv, hfsH.out] at hst
          simp only at hst
          have hb5 := hbH.out.trans (grown_below hg5 hs3 hbs)
          have hg6 := (hr5.alloc (.cells #[.string t, .string k] 99)).alloc (.cells #[.int .i64 p2, .int .i64 f2] 95)
          have hb6 := (hb5.alloc hb5.size (.cells #[.string t, .string k] 99)).alloc (hb5.alloc hb5.size (.cells #[.string t, .string k] 99)).size (.cells #[.int .i64 p2, .int .i64 f2] 95)
          have hme : ∀ w6, TRange KId valT w6 b w3.heap.size ct (talF l) (fun z => left z && !decide (z = (t, k))) cnt5 → w6.rangeLeft b w3.heap.size < wr.rangeLeft b w3.heap.size := fun w6 h => by rw [h.left_eq, hrlH.out]; exact hlt5
          clear hgood hleft hg5 hb5 hr5 hf htal
          have hvH := Lib.hid hv
          clear hv
          have hstH := Lib.hid hst
          clear hst
          have hg6H := Lib.hid hg6
          clear hg6
          have hb6H := Lib.hid hb6
          clear hb6
          have hmeH := Lib.hid hme
          clear hme
          by_cases ht : t = te
          · have ht' : (t.toList == te.toList) = true := by rw [beq_data, decide_eq_true ht]
            have htH := Lib.hid ht
            clear ht
            go_wp2_with fail
            refine (verdict_any p2 f2 _ n0 n1 n3 v hvH.out).mono ?_
            rintro e w8 ⟨rfl, hw8⟩
            have q0 : w8.cell? ⟨wr.heap.size + 1, 0, none⟩ = some (.int .i64 p2) := by rw [← hs5]; exact (hw8.cell (by simp)).trans (by simp [go_sem])
            have q1 : w8.cell? ⟨wr.heap.size + 1, 1, none⟩ = some (.int .i64 f2) := by rw [← hs5]; exact (hw8.cell (by simp)).trans (by simp [go_sem])
            have hr8 := hg6H.out.below hw8
            have hb8 := hb6H.out.trans (hw8.mono hb6H.out.size)
            have hst := hstH.out
            clear hw8 hstH
            by_cases h3 : v = 3
            · have h3' : (v != 3) = false := by simpa using h3
              rw [if_neg (fun h => h.2 h3)] at hst
              have R : FaRel l te b w3.heap.size ct (w.alloc (.cells #[.int .i64 0, .int .i64 0] 50)) (.int .i64 fs) (.int .i64 al) w8 :=
                ⟨_, cnt5, hr8, by rw [hst], by rw [hst], hb8⟩
              have hm := hmeH.out _ hr8
              clear h3 hst q0 q1
              have RH := Lib.hid R
              clear R
              have hmH := Lib.hid hm
              clear hm
              have hr8H := Lib.hid hr8
              clear hr8
              have hb8H := Lib.hid hb8
              clear hb8
              go_wp2
              refine ⟨?rel, ?measure⟩
              case measure => exact hmH.out
              case rel => first | exact RH.out | exact ⟨rfl, RH.out⟩ | ((try refine ⟨rfl, ?_⟩); (repeat apply Exists.intro); refine ⟨RH.out, ?_⟩; ((repeat' apply And.intro) <;> rfl))
            · have h3' : (v != 3) = true := by simpa using h3
              rw [if_pos ⟨htH.out, h3⟩] at hst
              have R : ∀ nq, FaRel l te b w3.heap.size ct (w.alloc (.cells #[.int .i64 0, .int .i64 0] 50)) (.int .i64 (fs + f2)) (.int .i64 (al + p2 + f2)) (w8.drewN nq) := fun nq =>
                ⟨_, cnt5, hr8.kept (below_grown (bel_drewN (Below.refl _ _) nq) rfl) (by simp) (by simp), by rw [hst], by rw [hst], bel_drewN hb8 nq⟩
              have hm : ∀ nq, (w8.drewN nq).rangeLeft b w3.heap.size < wr.rangeLeft b w3.heap.size := fun nq => hmeH.out _ (hr8.kept (below_grown (bel_drewN (Below.refl _ _) nq) rfl) (by simp) (by simp))
              clear h3 hst
              have s0 : IntKind.i64.wrap (fs + f2) = fs + f2 := IntWalk.i64_in _ (by omega)
              have s1 : IntKind.i64.wrap (al + p2) = al + p2 := IntWalk.i64_in _ (by omega)
              have s2 : IntKind.i64.wrap (al + p2 + f2) = al + p2 + f2 := IntWalk.i64_in _ (by omega)
              have RH := Lib.hid R
              clear R
              have hmH := Lib.hid hm
              clear hm
              have hr8H := Lib.hid hr8
              clear hr8
              have hb8H := Lib.hid hb8
              clear hb8
              go_wp2_with fail
              go_quiet (fail)
              go_wp2
              refine ⟨?rel, ?measure⟩
              case measure => exact (hmH.out _)
              case rel => first | exact (RH.out _) | exact ⟨rfl, (RH.out _)⟩ | ((try refine ⟨rfl, ?_⟩); (repeat apply Exists.intro); refine ⟨(RH.out _), ?_⟩; ((repeat' apply And.intro) <;> rfl))
          · have ht' : (t.toList == te.toList) = false := by rw [beq_data, decide_eq_false ht]
            have hst := hstH.out
            rw [if_neg (fun h => ht h.1)] at hst
            have R : FaRel l te b w3.heap.size ct (w.alloc (.cells #[.int .i64 0, .int .i64 0] 50)) (.int .i64 fs) (.int .i64 al) ((w5.alloc (.cells #[.string t, .string k] 99)).alloc (.cells #[.int .i64 p2, .int .i64 f2] 95)) :=
              ⟨_, cnt5, hg6H.out, by rw [hst], by rw [hst], hb6H.out⟩
            have hm := hmeH.out _ hg6H.out
            clear ht hst
            have RH := Lib.hid R
            clear R
            have hmH := Lib.hid hm
            clear hm
            go_wp2
            refine ⟨?rel, ?measure⟩
            case measure => exact hmH.out
            case rel => first | exact RH.out | exact ⟨rfl, RH.out⟩ | ((try refine ⟨rfl, ?_⟩); (repeat apply Exists.intro); refine ⟨RH.out, ?_⟩; ((repeat' apply And.intro) <;> rfl))
  · rw [if_neg h0, Prod.mk.injEq, Prod.mk.injEq] at hF
    obtain ⟨rfl, rfl, rfl⟩ := hF
    have h1 : (h != 0) = true := by simpa using h0
    have hmH := Lib.hid hm
    clear hm
    have hlH := Lib.hid hl
    clear hl
    have hteH := Lib.hid hte
    clear hte
    have hllH := Lib.hid hll
    clear hll
    have hokH := Lib.hid hok
    clear hok
    have hbaH := Lib.hid hba
    clear hba
    have hhH := Lib.hid hh
    clear hh
    have hbpH := Lib.hid hbp
    clear hbp
    go_enter Tryd.func32, Tryd.ntmps32
    go_wp2_with fail
    refine (hist_any A len cap l _ (hmH.out.below hbaH.out) (hlH.out.below hbaH.out) h hhH.out).mono ?_
    rintro e w1 ⟨rfl, hw1⟩
    obtain ⟨q0, q1, f0, f1⟩ := res_cells hw1
    have hb1 := hbaH.out.trans (hw1.mono hbaH.out.size)
    have hw1H := Lib.hid hw1
    clear hw1
    have hb1H := Lib.hid hb1
    clear hb1
    go_wp2
    obtain ⟨_, d1, d2⟩ := two_cells (.int .i64 0) (.int .i64 0) q0 q1
    exact bodyPost_ret (v := .tuple #[.agg #[.int .i64 0, .int .i64 0], .int .i64 h]) (by simp [results, Tryd.results32, go_sem, d1, d2]) rfl ⟨rfl, ((hb1H.out).setCell (Nat.le_refl _) _).setCell (Nat.le_refl _) _⟩
end Go.Proofs.YtgalaeeppalljaaDoor
