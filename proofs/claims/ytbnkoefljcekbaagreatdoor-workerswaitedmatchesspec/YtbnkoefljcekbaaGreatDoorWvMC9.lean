/-
 Several texts of mine as one, without what is not wanted here: XVf, XWtC, XWtP.
-/
import Derived.Test.YtbnkoefljcekbaaGreatDoorWvLC9
import Derived.Test.YtbnkoefljcekbaaGreatDoorWvKC9
import Derived.Test.YtbnkoefljcekbaaGreatDoorWvFC9
namespace Go.Proofs.YtbnkoefljcekbaaGreatDoor.C9
open Go.ChangeShapes Go.WideShapes Go.Deep Go.RowKit Go.Maps
set_option linter.unusedVariables false
set_option linter.unusedSimpArgs false

def RfAns (x : Farm) (l : List Run) (t : Int) (w : World) (e : Ending) (w' : World) : Prop :=
 ∃ (A : Option Addr) (n c : Nat), e = .returned (.slice A n c) ∧ Own RWorker 84 w' w.heap.size (.slice A n c) (x.workers.l.filter (frB l t)) ∧ n ≤ 50 ∧ Below w.heap.size w w'
set_option maxRecDepth 100000 in
set_option maxHeartbeats 8000000 in
theorem rfree_any (x : Farm) (A : Option Addr) (n cap : Nat) (l : List Run) (t : Int) (w : World) (hx : RFarm.ok w x) (hl : SlAt RRun w A n l) (hn : n ≤ 4000) (hM2 : x.workers.n ≤ 50) :
  Calls Tryz.prog 67 #[farmV x, .slice A n cap, .int .i64 t] w (RfAns x l t w) := by
 unfold farmV
 have hM : x.workers.n = x.workers.l.length := hx.1.1.1.symm
 have hws := hx.1.1
 obtain ⟨M, hMe⟩ : ∃ m, x.workers.n = m := ⟨_, rfl⟩
 obtain ⟨wA, hwA⟩ : ∃ m, x.workers.A = m := ⟨_, rfl⟩
 obtain ⟨wc, hwc⟩ : ∃ m, x.workers.cap = m := ⟨_, rfl⟩
 obtain ⟨Z, hZ⟩ : ∃ Z, RfAns x l t w = Z := ⟨_, rfl⟩
 rw [hZ]
 rw [hMe] at hM2 hws hM ⊢
 rw [hwA] at hws ⊢
 rw [hwc]
 obtain ⟨W1, hW1⟩ : ∃ Y, w.alloc (.cells #[.slice wA M wc, .slice x.works.A x.works.n x.works.cap, .slice x.lost.A x.lost.n x.lost.cap, .int .i64 x.tries, .bool x.doubles] 26) = Y := ⟨_, rfl⟩
 obtain ⟨xb, hxb⟩ : ∃ b, w.heap.size = b := ⟨_, rfl⟩
 have hba : Below w.heap.size w W1 := by rw [← hW1]; exact (Below.refl _ _).alloc (Nat.le_refl _) _
 have c0 : W1.cell? ⟨xb, 0, none⟩ = some (.slice wA M wc) := by rw [← hW1, ← hxb]; exact cell_new _ _ _ 0
 have hws := hws.below hba
 have hl1 := hl.below hba
 have hll := hl1.1
 have hwl : x.workers.l.length = M := hM.symm
 have hst : F3 x l t M W1 (.slice none 0 0) (.int .i64 0) W1 := ⟨0, 0, 0, none, Nat.zero_le _, rfl, rfl, by rw [List.take_zero, List.filter_nil]; exact Own.nil _ _, Nat.le_refl _, Below.refl _ _⟩
 have hRZ : ∀ (A : Option Addr) (n c : Nat) (W : World), Own RWorker 84 W W1.heap.size (.slice A n c) (x.workers.l.filter (frB l t)) → n ≤ M → Below W1.heap.size W1 W → Z (.returned (.slice A n c)) W := fun A n c W h1 h2 h3 => by
  rw [← hZ]
  exact ⟨A, n, c, rfl, own_base h1 hba.size, by omega, hba.trans (h3.mono hba.size)⟩
 have hZH := Lib.hid hZ
 clear hZ
 have hxH := Lib.hid hx
 clear hx
 have hW1H := Lib.hid hW1
 clear hW1
 have hxbH := Lib.hid hxb
 clear hxb
 have hbaH := Lib.hid hba
 clear hba
 have hwsH := Lib.hid hws
 clear hws
 have hl1H := Lib.hid hl1
 clear hl1
 have hlH := Lib.hid hl
 clear hl
 have hllH := Lib.hid hll
 clear hll
 have hMH := Lib.hid hM
 clear hM
 have hMeH := Lib.hid hMe
 clear hMe
 have hwAH := Lib.hid hwA
 clear hwA
 have hwcH := Lib.hid hwc
 clear hwc
 have hwlH := Lib.hid hwl
 clear hwl
 have hstH := Lib.hid hst
 clear hst
 have hRZH := Lib.hid hRZ
 clear hRZ
 go_enter Tryz.func67, Tryz.ntmps67
 go_wp2_with fail
 simp only [hW1H.out, hxbH.out]
 go_wp2_with fail
 clear c0
 go_loopw [7, 16] (fun v i wr => F3 x l t M W1 v i wr) (fun _ i _ => M - (intOf i).toNat)
 case atStart => exact hstH.out
 case round =>
  clear hstH
  obtain ⟨q, n3, c3, A3, hq, rfl, rfl, hown, hn3, hbq⟩ := hrel
  have hbqs := hbq.size
  by_cases hlt2 : q < M
  ·have hwsq := hwsH.out.below hbq
   obtain ⟨bw, ow, hA8, _⟩ := hwsq.2.1 (by omega)
   subst hA8
   obtain ⟨y, hy⟩ : ∃ y, x.workers.l[q]? = some y := ⟨x.workers.l[q]'(by have := hwlH.out; omega), List.getElem?_eq_getElem _⟩
   obtain ⟨e0, e1, e2, e3, e4, e5, e6⟩ := cells_Worker hwsq hy
   have hfl : (x.workers.l.take (q + 1)).filter (frB l t) = (x.workers.l.take q).filter (frB l t) ++ (if frB l t y = true then [y] else []) := by
    rw [List.take_add_one, hy, Option.toList_some, List.filter_append]
    congr 1
    by_cases h : frB l t y = true
    ·rw [if_pos h, List.filter_cons_of_pos h]; rfl
    ·rw [if_neg h, List.filter_cons_of_neg h]; rfl
   have hmem : ∀ z ∈ (x.workers.l.take q).filter (frB l t) ++ [y], z ∈ x.workers.l := fun z hz => by
    rcases List.mem_append.1 hz with hz | hz
    ·exact List.mem_of_mem_take (List.mem_filter.1 hz).1
    ·rw [List.mem_singleton.1 hz]; exact List.mem_of_getElem? hy
   have hwok : ∀ W, Below W1.heap.size W1 W → ∀ z ∈ x.workers.l, RWorker.ok W z := fun W h z hz => RWorker.mono _ _ _ h (hwsH.out.2.2 z hz)
   obtain ⟨l3, hl3⟩ : ∃ l', (x.workers.l.take q).filter (frB l t) = l' := ⟨_, rfl⟩
   rw [hl3] at hown hfl hmem
   have hl3n : l3.length = n3 := hown.len
   have hfr : ∀ bv : Nat, bsN l y.name t = bv → frB l t y = (decide (y.from_ ≤ t) && (decide (t < y.to_) && decide ((bv : Int) < y.slots))) := fun bv hbv => by unfold frB; rw [hbv]
   have hno : frB l t y = false → ∀ W, Below W1.heap.size W1 W → Own RWorker 84 W W1.heap.size (.slice A3 n3 c3) l3 → F3 x l t M W1 (.slice A3 n3 c3) (.int .i64 ((q : Int) + 1)) W := fun h W hW ho =>
    ⟨q + 1, n3, c3, A3, hlt2, by go_num, rfl, by rw [hfl, h, if_neg (by decide), List.append_nil]; exact ho, by omega, hW⟩
   have hyes : frB l t y = true → ∀ (A' : Option Addr) (c' : Nat) (W : World), Below W1.heap.size W1 W → Own RWorker 84 W W1.heap.size (.slice A' (n3 + 1) c') (l3 ++ [y]) → F3 x l t M W1 (.slice A' (n3 + 1) c') (.int .i64 ((q : Int) + 1)) W := fun h A' c' W hW ho =>
    ⟨q + 1, n3 + 1, c', A', hlt2, by go_num, rfl, by rw [hfl, if_pos h]; exact ho, by omega, hW⟩
   obtain ⟨ynm, yh, ysl, ysp, yfr, yto, yst⟩ := y
   simp only at e0 e1 e2 e3 e4 e5 e6 hfr
   obtain ⟨W5, hW5⟩ : ∃ Y, wr.alloc (.cells #[.string ynm, .slice yh.A yh.n yh.cap, .int .i64 ysl, .int .i64 ysp, .int .i64 yfr, .int .i64 yto, .slice yst.A yst.n yst.cap] 84) = Y := ⟨_, rfl⟩
   obtain ⟨wb, hwb⟩ : ∃ b, wr.heap.size = b := ⟨_, rfl⟩
   have hbl : Below W1.heap.size W1 W5 := by rw [← hW5]; exact hbq.alloc hbqs _
   have hB5 : Blk W5 wb [.string ynm, .slice yh.A yh.n yh.cap, .int .i64 ysl, .int .i64 ysp, .int .i64 yfr, .int .i64 yto, .slice yst.A yst.n yst.cap] := by rw [← hW5, ← hwb]; exact blk_new wr [.string ynm, .slice yh.A yh.n yh.cap, .int .i64 ysl, .int .i64 ysp, .int .i64 yfr, .int .i64 yto, .slice yst.A yst.n yst.cap] _
   have hown5 : Own RWorker 84 W5 W1.heap.size (.slice A3 n3 c3) l3 := by rw [← hW5]; exact hown.alloc _
   have hl5 := hl1H.out.below hbl
   have hst2 : RgIn l ynm t n W5 (.int .i64 0) (.int .i64 0) W5 := ⟨0, 0, Nat.zero_le _, rfl, rfl, rfl, Nat.le_refl _, Below.refl _ _⟩
   have hYk : ∀ W, Below W5.heap.size W5 W → W.cell? ⟨wb, 0, none⟩ = some (.string ynm) := fun W h => keepC h (hB5 0 _ rfl).1
   clear hown
   have hbqH := Lib.hid hbq
   clear hbq
   have hyH := Lib.hid hy
   clear hy
   have hflH := Lib.hid hfl
   clear hfl
   have hmemH := Lib.hid hmem
   clear hmem
   have hwokH := Lib.hid hwok
   clear hwok
   have hblH := Lib.hid hbl
   clear hbl
   have hl3H := Lib.hid hl3
   clear hl3
   have hl3nH := Lib.hid hl3n
   clear hl3n
   have hnoH := Lib.hid hno
   clear hno
   have hyesH := Lib.hid hyes
   clear hyes
   have hW5H := Lib.hid hW5
   clear hW5
   have hwbH := Lib.hid hwb
   clear hwb
   have hB5H := Lib.hid hB5
   clear hB5
   have hown5H := Lib.hid hown5
   clear hown5
   have hwsqH := Lib.hid hwsq
   clear hwsq
   have hfrH := Lib.hid hfr
   clear hfr
   have hl5H := Lib.hid hl5
   clear hl5
   have hst2H := Lib.hid hst2
   clear hst2
   have hYkH := Lib.hid hYk
   clear hYk
   go_wp2_with fail
   simp only [hW5H.out, hwbH.out]
   clear e0 e1 e2 e3 e4 e5 e6
   go_wp2_with fail
   go_loopw [10, 22] (fun c i wq => RgIn l ynm t n W5 c i wq) (fun _ i _ => n - (intOf i).toNat)
   case atStart => exact hst2H.out
   case round =>
    clear hst2H
    obtain ⟨j, k0, hj, rfl, rfl, hc0, hcj, hbi⟩ := hrel
    have hbis := hbi.size
    by_cases hlt3 : j < n
    ·have hsli := hl5H.out.below hbi
     obtain ⟨bl, ol, hA9, _⟩ := hsli.2.1 (by omega)
     subst hA9
     obtain ⟨s, hs⟩ : ∃ s, l[j]? = some s := ⟨l[j]'(by have := hllH.out; omega), List.getElem?_eq_getElem _⟩
     obtain ⟨e0, e1, e2, e3, e4⟩ := cells_Run hsli hs
     have hct := bsN_take hs ynm t
     rw [hc0] at hct
     obtain ⟨sid, swk, sfm, sto, sen⟩ := s
     simp only at e0 e1 e2 e3 e4 hct
     have hbl2 := hbi.alloc hbis (.cells #[.string sid, .string swk, .int .i64 sfm, .int .i64 sto, .int .i64 sen] 34)
     have u1 := hYkH.out _ hbl2
     have hbe : (swk.toList == ynm.toList) = decide (swk = ynm) := beq_data _ _
     by_cases hA : swk = ynm
     ·rw [decide_eq_true hA] at hbe hct
      by_cases hB : sfm ≤ t
      ·by_cases hC : t < sto
       ·have hct2 : bsN (l.take (j + 1)) ynm t = k0 + 1 := by rw [hct, decide_eq_true hB, decide_eq_true hC]; rfl
        have R : RgIn l ynm t n W5 (.int .i64 ((k0 : Int) + 1)) (.int .i64 ((j : Int) + 1)) _ := ⟨j + 1, k0 + 1, hlt3, by go_num, by go_num, hct2, by omega, hbl2⟩
        clear hct hct2 hA
        have RH := Lib.hid R
        clear R
        have hbl2H := Lib.hid hbl2
        clear hbl2
        have hsH := Lib.hid hs
        clear hs
        have hsliH := Lib.hid hsli
        clear hsli
        have hbiH := Lib.hid hbi
        clear hbi
        have hc0H := Lib.hid hc0
        clear hc0
        go_wp2
        refine ⟨?rel, ?measure⟩
        case measure => (simp [intOf]; omega)
        case rel => first | exact RH.out | exact ⟨rfl, RH.out⟩ | ((try refine ⟨rfl, ?_⟩); (repeat apply Exists.intro); refine ⟨RH.out, ?_⟩; ((repeat' apply And.intro) <;> rfl))
       ·have hct2 : bsN (l.take (j + 1)) ynm t = k0 := by rw [hct, decide_eq_false hC]; simp
        have R : RgIn l ynm t n W5 (.int .i64 k0) (.int .i64 ((j : Int) + 1)) _ := ⟨j + 1, k0, hlt3, by go_num, rfl, hct2, by omega, hbl2⟩
        clear hct hct2 hA
        have RH := Lib.hid R
        clear R
        have hbl2H := Lib.hid hbl2
        clear hbl2
        have hsH := Lib.hid hs
        clear hs
        have hsliH := Lib.hid hsli
        clear hsli
        have hbiH := Lib.hid hbi
        clear hbi
        have hc0H := Lib.hid hc0
        clear hc0
        go_wp2
        refine ⟨?rel, ?measure⟩
        case measure => (simp [intOf]; omega)
        case rel => first | exact RH.out | exact ⟨rfl, RH.out⟩ | ((try refine ⟨rfl, ?_⟩); (repeat apply Exists.intro); refine ⟨RH.out, ?_⟩; ((repeat' apply And.intro) <;> rfl))
      ·have hct2 : bsN (l.take (j + 1)) ynm t = k0 := by rw [hct, decide_eq_false hB]; simp
       have R : RgIn l ynm t n W5 (.int .i64 k0) (.int .i64 ((j : Int) + 1)) _ := ⟨j + 1, k0, hlt3, by go_num, rfl, hct2, by omega, hbl2⟩
       clear hct hct2 hA
       have RH := Lib.hid R
       clear R
       have hbl2H := Lib.hid hbl2
       clear hbl2
       have hsH := Lib.hid hs
       clear hs
       have hsliH := Lib.hid hsli
       clear hsli
       have hbiH := Lib.hid hbi
       clear hbi
       have hc0H := Lib.hid hc0
       clear hc0
       go_wp2
       refine ⟨?rel, ?measure⟩
       case measure => (simp [intOf]; omega)
       case rel => first | exact RH.out | exact ⟨rfl, RH.out⟩ | ((try refine ⟨rfl, ?_⟩); (repeat apply Exists.intro); refine ⟨RH.out, ?_⟩; ((repeat' apply And.intro) <;> rfl))
     ·rw [decide_eq_false hA] at hbe hct
      have hct2 : bsN (l.take (j + 1)) ynm t = k0 := by rw [hct]; simp
      have R : RgIn l ynm t n W5 (.int .i64 k0) (.int .i64 ((j : Int) + 1)) _ := ⟨j + 1, k0, hlt3, by go_num, rfl, hct2, by omega, hbl2⟩
      clear hct hct2 hA
      have RH := Lib.hid R
      clear R
      have hbl2H := Lib.hid hbl2
      clear hbl2
      have hsH := Lib.hid hs
      clear hs
      have hsliH := Lib.hid hsli
      clear hsli
      have hbiH := Lib.hid hbi
      clear hbi
      have hc0H := Lib.hid hc0
      clear hc0
      go_wp2
      refine ⟨?rel, ?measure⟩
      case measure => (simp [intOf]; omega)
      case rel => first | exact RH.out | exact ⟨rfl, RH.out⟩ | ((try refine ⟨rfl, ?_⟩); (repeat apply Exists.intro); refine ⟨RH.out, ?_⟩; ((repeat' apply And.intro) <;> rfl))
    ·obtain rfl : j = n := by omega
     have e : l.take j = l := List.take_of_length_le (by have := hllH.out; omega)
     rw [e] at hc0
     have hfr := hfrH.out k0 hc0
     have hB6 := hB5H.out.bel (by simp) hbi
     have v0 := (hB6 0 _ rfl).1
     have v1 := (hB6 1 _ rfl).1
     have v2 := (hB6 2 _ rfl).1
     have v3 := (hB6 3 _ rfl).1
     have v4 := (hB6 4 _ rfl).1
     have v5 := (hB6 5 _ rfl).1
     have v6 := (hB6 6 _ rfl).1
     have hbw := hblH.out.trans (hbi.mono hblH.out.size)
     have hno := fun h => hnoH.out h wr hbw (hown5H.out.below hbi)
     have hyes := hyesH.out
     clear hnoH hyesH hfrH e hc0 hB6
     by_cases hA : yfr ≤ t
     ·have dA : decide (yfr ≤ t) = true := decide_eq_true hA
      by_cases hB : t < yto
      ·have dB : decide (t < yto) = true := decide_eq_true hB
       by_cases hC : (k0 : Int) < ysl
       ·have dC : decide ((k0 : Int) < ysl) = true := decide_eq_true hC
        rw [decide_eq_true hA, decide_eq_true hB, decide_eq_true hC] at hfr
        replace hyes := hyes hfr
        clear hno hfr
        have hown6 := hown5H.out.below hbi
        have hyok := hwokH.out wr hbw _ (List.mem_of_getElem? hyH.out)
        have hnw := slAt_new (R := RWorker) wr 84 (⟨ynm, yh, ysl, ysp, yfr, yto, yst⟩ : Worker) hyok
        have hszw := hbw.size
        clear hyok
        have hyesH := Lib.hid hyes
        clear hyes
        have hown6H := Lib.hid hown6
        clear hown6
        have hnwH := Lib.hid hnw
        clear hnw
        have hbwH := Lib.hid hbw
        clear hbw
        have hszwH := Lib.hid hszw
        clear hszw
        have hbiH := Lib.hid hbi
        clear hbi
        go_wp2_with (at_builtin; go_loud (refine wpList_app rfl (.tmp 62) (.tmp 64) 22 rfl Tryz.underlying22 elem_Wk (by decide) rfl (hown6H.out.alloc _) (some ⟨wr.heap.size, 0, none⟩) 1 1 [(⟨ynm, yh, ysl, ysp, yfr, yto, yst⟩ : Worker)] rfl hnwH.out ?nn ?ok ?c1 ?c2 ?c3 (n3 + 1) ?c4 ?_))
        case nn => intro h; cases h
        case ok =>
         intro w' hg z hz _
         have hba := (hbwH.out.alloc hszwH.out (.cells #[.string ynm, .slice yh.A yh.n yh.cap, .int .i64 ysl, .int .i64 ysp, .int .i64 yfr, .int .i64 yto, .slice yst.A yst.n yst.cap] 84))
         exact hwokH.out w' (hba.grown hg hba.size (fun b hb => (hown6H.out.1.lt b hb).1)) z (hmemH.out z hz)
        case c1 => rw [hl3nH.out]; simp [maxLen]; omega
        case c2 => rw [hl3nH.out]; omega
        case c3 => have := hszwH.out; simp; omega
        case c4 => rw [hl3nH.out]
        intro A' c' w9 hown9 hg9 hat9 hb9
        have R := hyesH.out A' c' w9 ((hbwH.out.alloc hszwH.out _).trans hb9) hown9
        clear hg9 hat9 hb9 hown9
        have RH := Lib.hid R
        clear R
        go_wp2
        refine ⟨?rel, ?measure⟩
        case measure => (simp [intOf]; omega)
        case rel => first | exact RH.out | exact ⟨rfl, RH.out⟩ | ((try refine ⟨rfl, ?_⟩); (repeat apply Exists.intro); refine ⟨RH.out, ?_⟩; ((repeat' apply And.intro) <;> rfl))
       ·have dC : decide ((k0 : Int) < ysl) = false := decide_eq_false hC
        rw [decide_eq_false hC, Bool.and_false, Bool.and_false] at hfr
        have R := hno hfr
        clear hno hyes hfr
        have RH := Lib.hid R
        clear R
        have hbiH := Lib.hid hbi
        clear hbi
        have hbwH := Lib.hid hbw
        clear hbw
        go_wp2
        refine ⟨?rel, ?measure⟩
        case measure => (simp [intOf]; omega)
        case rel => first | exact RH.out | exact ⟨rfl, RH.out⟩ | ((try refine ⟨rfl, ?_⟩); (repeat apply Exists.intro); refine ⟨RH.out, ?_⟩; ((repeat' apply And.intro) <;> rfl))
      ·have dB : decide (t < yto) = false := decide_eq_false hB
       rw [decide_eq_false hB, Bool.false_and, Bool.and_false] at hfr
       have R := hno hfr
       clear hno hyes hfr
       have RH := Lib.hid R
       clear R
       have hbiH := Lib.hid hbi
       clear hbi
       have hbwH := Lib.hid hbw
       clear hbw
       go_wp2
       refine ⟨?rel, ?measure⟩
       case measure => (simp [intOf]; omega)
       case rel => first | exact RH.out | exact ⟨rfl, RH.out⟩ | ((try refine ⟨rfl, ?_⟩); (repeat apply Exists.intro); refine ⟨RH.out, ?_⟩; ((repeat' apply And.intro) <;> rfl))
     ·have dA : decide (yfr ≤ t) = false := decide_eq_false hA
      rw [decide_eq_false hA, Bool.false_and] at hfr
      have R := hno hfr
      clear hno hyes hfr
      have RH := Lib.hid R
      clear R
      have hbiH := Lib.hid hbi
      clear hbi
      have hbwH := Lib.hid hbw
      clear hbw
      go_wp2
      refine ⟨?rel, ?measure⟩
      case measure => (simp [intOf]; omega)
      case rel => first | exact RH.out | exact ⟨rfl, RH.out⟩ | ((try refine ⟨rfl, ?_⟩); (repeat apply Exists.intro); refine ⟨RH.out, ?_⟩; ((repeat' apply And.intro) <;> rfl))
  ·obtain rfl : q = M := by omega
   have e : x.workers.l.take q = x.workers.l := List.take_of_length_le (by have := hwlH.out; omega)
   rw [e] at hown
   have R := hRZH.out A3 n3 c3 wr hown hn3 hbq
   clear e hown
   have RH := Lib.hid R
   clear R
   have hbqH := Lib.hid hbq
   clear hbq
   go_wp2
   exact RH.out
end Go.Proofs.YtbnkoefljcekbaaGreatDoor.C9

namespace Go.Proofs.YtbnkoefljcekbaaGreatDoor.C9
open Go.ChangeShapes Go.WideShapes Go.Deep Go.RowKit Go.Maps
set_option linter.unusedVariables false

/-- what is asked of the predicate -/
def PredW (g : Nat) (lb : Array Value) (p : Worker → Bool) (l : List Worker) (w : World) : Prop :=
 ∀ (W : World) (x : Worker), x ∈ l → Below w.heap.size w W → Calls Tryz.prog g (#[.agg #[.string x.name, .slice x.has.A x.has.n x.has.cap, .int .i64 x.slots, .int .i64 x.speed, .int .i64 x.from_, .int .i64 x.to_, .slice x.stands.A x.stands.n x.stands.cap]] ++ lb) W fun e w' => e = .returned (.bool (p x)) ∧ Below W.heap.size W w'
def AnyRelW (p : Worker → Bool) (l : List Worker) (b : Bool) (w0 : World) (i : Value) (wr : World) : Prop := ∃ k : Nat, k ≤ l.length ∧ i = .int .i64 k ∧ (l.drop k).any p = b ∧ Below w0.heap.size w0 wr

set_option maxHeartbeats 2000000 in
theorem indexFuncW_any (g : Nat) (lb : Array Value) (eg : ∀ args w, (callFunc g args).run Tryz.prog w = .ok (.enter g args) w) (p : Worker → Bool) (A : Option Addr) (n c : Nat) (l : List Worker) (w : World)
  (hl : SlAt RWorker w A n l) (hn : n ≤ 9223372036854775807) (hp : PredW g lb p l w) (b : Bool) (hb : l.any p = b) :
  Calls Tryz.prog 95 #[.slice A n c, .func (.func g) #[] lb] w fun e w' => ∃ i : Int, e = .returned (.int .i64 i) ∧ (if b = true then 0 ≤ i else i = -1) ∧ Below w.heap.size w w' := by
 have hll := hl.1
 have hlH := Lib.hid hl
 clear hl
 have hbH := Lib.hid hb
 clear hb
 have hpH := Lib.hid hp
 clear hp
 have hllH := Lib.hid hll
 clear hll
 go_enter Tryz.func95, Tryz.ntmps95
 go_wp2
 go_loopw [5, 8] (fun s5 i wr => AnyRelW p l b w i wr) (fun _ i _ => n - (intOf i).toNat)
 case atStart => exact ⟨0, Nat.zero_le _, rfl, hbH.out, Below.refl _ _⟩
 case round =>
  obtain ⟨k, hk, rfl, hr, hbw⟩ := hrel
  have hkl : k ≤ n := by have := hllH.out; omega
  by_cases hlt : k < n
  ·obtain ⟨b0, off, hA, _⟩ := hlH.out.2.1 (by omega)
   subst hA
   obtain ⟨x, hx⟩ : ∃ x, l[k]? = some x := ⟨l[k]'(by have := hllH.out; omega), List.getElem?_eq_getElem _⟩
   obtain ⟨c0, c1, c2, c3, c4, c5, c6⟩ := cells_Worker (hlH.out.below hbw) hx
   have hcall := hpH.out wr x (List.mem_of_getElem? hx) hbw
   rw [drop_cons hx, List.any_cons] at hr
   have hkl2 : k + 1 ≤ l.length := by have := hllH.out; omega
   cases hq : p x
   ·rw [hq] at hcall hr
    rw [Bool.false_or] at hr
    have R : ∀ w', Below wr.heap.size wr w' → AnyRelW p l b w (.int .i64 (k + 1)) w' := fun w' h => ⟨k + 1, hkl2, by go_num, hr, hbw.trans (h.mono hbw.size)⟩
    clear hr
    have RH := Lib.hid R
    clear R
    have hxH := Lib.hid hx
    clear hx
    have hbwH := Lib.hid hbw
    clear hbw
    have hqH := Lib.hid hq
    clear hq
    have hcallH := Lib.hid hcall
    clear hcall
    go_wp2_with (go_at_fn g; refine hcallH.out.mono ?_; rintro e w' ⟨rfl, hb'⟩; have hb'H := Lib.hid hb'; clear hb')
    refine ⟨?rel, ?measure⟩
    case measure => (simp [intOf]; omega)
    case rel => first | exact (RH.out _ hb'H.out) | exact ⟨rfl, (RH.out _ hb'H.out)⟩ | ((try refine ⟨rfl, ?_⟩); (repeat apply Exists.intro); refine ⟨(RH.out _ hb'H.out), ?_⟩; ((repeat' apply And.intro) <;> rfl))
   ·rw [hq] at hcall hr
    rw [Bool.true_or] at hr
    subst hr
    have hxH := Lib.hid hx
    clear hx
    have hbwH := Lib.hid hbw
    clear hbw
    have hqH := Lib.hid hq
    clear hq
    have hcallH := Lib.hid hcall
    clear hcall
    go_wp2_with (go_at_fn g; refine hcallH.out.mono ?_; rintro e w' ⟨rfl, hb'⟩; have hb'H := Lib.hid hb'; clear hb')
    go_ret
    exact ⟨k, rfl, by first | omega | (rw [if_pos rfl]; omega), hbwH.out.trans (hb'H.out.mono hbwH.out.size)⟩
  ·have e : l.drop k = [] := List.drop_eq_nil_of_le (by have := hllH.out; omega)
   rw [e] at hr
   subst hr
   have hbwH := Lib.hid hbw
   clear hbw
   have eH := Lib.hid e
   clear e
   go_wp2
   go_ret
   exact ⟨-1, rfl, by simp, hbwH.out⟩

set_option maxHeartbeats 1000000 in
theorem containsFuncW_any (g : Nat) (lb : Array Value) (eg : ∀ args w, (callFunc g args).run Tryz.prog w = .ok (.enter g args) w) (p : Worker → Bool) (A : Option Addr) (n c : Nat) (l : List Worker) (w : World)
  (hl : SlAt RWorker w A n l) (hn : n ≤ 9223372036854775807) (hp : PredW g lb p l w) (b : Bool) (hb : l.any p = b) :
  Calls Tryz.prog 49 #[.slice A n c, .func (.func g) #[] lb] w fun e w' => e = .returned (.bool b) ∧ Below w.heap.size w w' := by
 have hlH := Lib.hid hl
 clear hl
 have hbH := Lib.hid hb
 clear hb
 have hpH := Lib.hid hp
 clear hp
 go_enter Tryz.func49, Tryz.ntmps49
 go_wp2_with fail
 refine (indexFuncW_any g lb eg p A n c l _ hlH.out hn hpH.out b hbH.out).mono ?_
 rintro e w1 ⟨i, rfl, hi, hw1⟩
 have hw1H := Lib.hid hw1
 clear hw1
 cases b
 ·rw [if_neg (by simp)] at hi
  subst hi
  go_wp2
  go_ret
  exact ⟨rfl, hw1H.out⟩
 ·rw [if_pos rfl] at hi
  go_wp2
  go_ret
  exact ⟨rfl, hw1H.out⟩

set_option maxRecDepth 100000 in
set_option maxHeartbeats 4000000 in
theorem see1_any {x : Farm} {wtb rb N : Nat} {Rs : List (List Run)} (y : Worker) (W : World) (hH : WtH x wtb rb N Rs W) (hy : RWorker.ok W y) (vb ib i : Nat) (z : Work) (hz : x.works.l[i]? = some z) (h1 : W.cell? ⟨vb, 0, none⟩ = some (.pointer (some ⟨wtb, 0, none⟩))) (h2 : W.cell? ⟨ib, 0, none⟩ = some (.int .i64 i)) (hN : x.works.n ≤ 1000) (b : Bool) (hb : fitF z.needs.l y.has.l = b) :
  Calls Tryz.prog 107 #[.agg #[.string y.name, .slice y.has.A y.has.n y.has.cap, .int .i64 y.slots, .int .i64 y.speed, .int .i64 y.from_, .int .i64 y.to_, .slice y.stands.A y.stands.n y.stands.cap], .pointer (some ⟨vb, 0, none⟩), .pointer (some ⟨ib, 0, none⟩)] W fun e w' => e = .returned (.bool b) ∧ Below W.heap.size W w' := by
 have hxl : x.works.l.length = x.works.n := hH.xs.1
 have hil := (List.getElem?_eq_some_iff.1 hz).1
 have c1 := hH.c1
 have hxs := hH.xs
 obtain ⟨M, hMe⟩ : ∃ m, x.works.n = m := ⟨_, rfl⟩
 obtain ⟨xA, hxA⟩ : ∃ m, x.works.A = m := ⟨_, rfl⟩
 obtain ⟨xc, hxc⟩ : ∃ m, x.works.cap = m := ⟨_, rfl⟩
 rw [hMe] at c1 hxs hxl hN
 rw [hxA] at c1 hxs
 rw [hxc] at c1
 obtain ⟨bx, ox, hA, _⟩ := hxs.2.1 (by omega)
 subst hA
 have hc := (cells_Work hxs hz).2.1
 obtain ⟨W1, hW1⟩ : ∃ Y, W.alloc (.cells #[.string y.name, .slice y.has.A y.has.n y.has.cap, .int .i64 y.slots, .int .i64 y.speed, .int .i64 y.from_, .int .i64 y.to_, .slice y.stands.A y.stands.n y.stands.cap] 84) = Y := ⟨_, rfl⟩
 obtain ⟨yb, hyb⟩ : ∃ b, W.heap.size = b := ⟨_, rfl⟩
 have hb1 : Below W.heap.size W W1 := by rw [← hW1]; exact (Below.refl _ _).alloc (Nat.le_refl _) _
 have y1 : W1.cell? ⟨yb, 1, none⟩ = some (.slice y.has.A y.has.n y.has.cap) := by rw [← hW1, ← hyb]; exact cell_new _ _ _ 1
 have c1 := keepC hb1 c1
 have hc := keepC hb1 hc
 have h1 := keepC hb1 h1
 have h2 := keepC hb1 h2
 have hzok := RWork.mono _ _ _ hb1 (hxs.2.2 z (List.mem_of_getElem? hz))
 have hyok := RWorker.mono _ _ _ hb1 hy
 have hnd : SlAt RPair W1 z.needs.A z.needs.n z.needs.l ∧ z.needs.n ≤ 9223372036854775807 := ⟨hzok.2.1.1, by have h1 : z.needs.n ≤ z.needs.cap := hzok.2.1.2.1; have h2 : z.needs.cap ≤ maxLen := hzok.2.1.2.2.1; unfold maxLen at h2; omega⟩
 have hhas : SlAt RPair W1 y.has.A y.has.n y.has.l ∧ y.has.n ≤ 9223372036854775807 := ⟨hyok.2.1.1, by have h1 : y.has.n ≤ y.has.cap := hyok.2.1.2.1; have h2 : y.has.cap ≤ maxLen := hyok.2.1.2.2.1; unfold maxLen at h2; omega⟩
 obtain ⟨nd, hnde⟩ : ∃ q, z.needs = q := ⟨_, rfl⟩
 obtain ⟨hs, hhse⟩ : ∃ q, y.has = q := ⟨_, rfl⟩
 rw [hnde] at hc hnd hb
 rw [hhse] at y1 hhas hb hW1 ⊢
 obtain ⟨Z, hZ⟩ : ∃ Z, (fun (e : Ending) (w' : World) => e = .returned (.bool b) ∧ Below W.heap.size W w') = Z := ⟨_, rfl⟩
 rw [hZ]
 have hi0 : (0 : Int) ≤ (i : Int) := by omega
 have hi1 : (i : Int) < (M : Int) := by omega
 have hS0 : (fun w' : World => Below W1.heap.size W1 w' ∧ w'.cell? ⟨vb, 0, none⟩ = some (.pointer (some ⟨wtb, 0, none⟩)) ∧ w'.cell? ⟨wtb, 1, none⟩ = some (.slice (some ⟨bx, ox, none⟩) M xc) ∧ w'.cell? ⟨ib, 0, none⟩ = some (.int .i64 i) ∧ w'.cell? ⟨bx, ox + i * 4 + 1, none⟩ = some (.slice nd.A nd.n nd.cap) ∧ w'.cell? ⟨yb, 1, none⟩ = some (.slice hs.A hs.n hs.cap)) W1.drew :=
  ⟨(Below.refl _ _).drew, h1, c1, h2, hc, y1⟩
 clear h1 h2 hc c1 y1
 have hHH := Lib.hid hH
 clear hH
 have hyH := Lib.hid hy
 clear hy
 have hzH := Lib.hid hz
 clear hz
 have hbH := Lib.hid hb
 clear hb
 have hxlH := Lib.hid hxl
 clear hxl
 have hilH := Lib.hid hil
 clear hil
 have hxsH := Lib.hid hxs
 clear hxs
 have hMeH := Lib.hid hMe
 clear hMe
 have hxAH := Lib.hid hxA
 clear hxA
 have hxcH := Lib.hid hxc
 clear hxc
 have hW1H := Lib.hid hW1
 clear hW1
 have hybH := Lib.hid hyb
 clear hyb
 have hb1H := Lib.hid hb1
 clear hb1
 have hzokH := Lib.hid hzok
 clear hzok
 have hyokH := Lib.hid hyok
 clear hyok
 have hndH := Lib.hid hnd
 clear hnd
 have hhasH := Lib.hid hhas
 clear hhas
 have hndeH := Lib.hid hnde
 clear hnde
 have hhseH := Lib.hid hhse
 clear hhse
 have hZH := Lib.hid hZ
 clear hZ
 go_enter Tryz.func107, Tryz.ntmps107
 go_wp2_with fail
 rw [hW1H.out, hybH.out]
 refine wp_region_held_drew (S := fun w' : World => Below W1.heap.size W1 w' ∧ w'.cell? ⟨vb, 0, none⟩ = some (.pointer (some ⟨wtb, 0, none⟩)) ∧ w'.cell? ⟨wtb, 1, none⟩ = some (.slice (some ⟨bx, ox, none⟩) M xc) ∧ w'.cell? ⟨ib, 0, none⟩ = some (.int .i64 i) ∧ w'.cell? ⟨bx, ox + i * 4 + 1, none⟩ = some (.slice nd.A nd.n nd.cap) ∧ w'.cell? ⟨yb, 1, none⟩ = some (.slice hs.A hs.n hs.cap)) (by kernel_rfl) hS0 (fun hHeld => ?_)
 refine tkH (i := 0) (d := some 5) (v := ?_) (hy := Or.inl ⟨by rfl, ?_⟩) (h := ?_)
 rotate_left
 ·(intro w hSw; (try dsimp only at hSw); go_simp; (try with_reducible rfl))
 (try simp only [Act.put, tkA, tkB, tkC])
 refine tkH (i := 1) (d := some 6) (v := ?_) (hy := Or.inl ⟨by rfl, ?_⟩) (h := ?_)
 rotate_left
 ·(intro w hSw; (try dsimp only at hSw); go_simp; (try with_reducible rfl))
 (try simp only [Act.put, tkA, tkB, tkC])
 refine tkH (i := 2) (d := some 7) (v := ?_) (hy := Or.inl ⟨by rfl, ?_⟩) (h := ?_)
 rotate_left
 ·(intro w hSw; (try dsimp only at hSw); go_simp; (try with_reducible rfl))
 (try simp only [Act.put, tkA, tkB, tkC])
 refine tkH (i := 3) (d := some 8) (v := ?_) (hy := Or.inl ⟨by rfl, ?_⟩) (h := ?_)
 rotate_left
 ·(intro w hSw; (try dsimp only at hSw); go_simp; (try with_reducible rfl))
 (try simp only [Act.put, tkA, tkB, tkC])
 refine tkH (i := 4) (d := some 9) (v := ?_) (hy := Or.inl ⟨by rfl, ?_⟩) (h := ?_)
 rotate_left
 ·(intro w hSw; (try dsimp only at hSw); go_simp; (try with_reducible rfl))
 (try simp only [Act.put, tkA, tkB, tkC])
 refine tkH (i := 5) (d := some 10) (v := ?_) (hy := Or.inl ⟨by rfl, ?_⟩) (h := ?_)
 rotate_left
 ·(intro w hSw; (try dsimp only at hSw); go_simp; (try with_reducible rfl))
 (try simp only [Act.put, tkA, tkB, tkC])
 refine tkH (i := 6) (d := some 11) (v := ?_) (hy := Or.inl ⟨by rfl, ?_⟩) (h := ?_)
 rotate_left
 ·(intro w hSw; (try dsimp only at hSw); go_simp; (try with_reducible rfl))
 (try simp only [Act.put, tkA, tkB, tkC])
 refine tkH (i := 7) (d := some 12) (v := ?_) (hy := Or.inl ⟨by rfl, ?_⟩) (h := ?_)
 rotate_left
 ·(intro w hSw; (try dsimp only at hSw); go_simp; (try with_reducible rfl))
 (try simp only [Act.put, tkA, tkB, tkC])
 refine tkH (i := 8) (d := some 13) (v := ?_) (hy := Or.inl ⟨by rfl, ?_⟩) (h := ?_)
 rotate_left
 ·(intro w hSw; (try dsimp only at hSw); go_simp; (try with_reducible rfl))
 (try simp only [Act.put, tkA, tkB, tkC])
 refine tkH (i := 9) (d := some 14) (v := ?_) (hy := Or.inl ⟨by rfl, ?_⟩) (h := ?_)
 rotate_left
 ·(intro w hSw; (try dsimp only at hSw); go_simp; (try with_reducible rfl))
 (try simp only [Act.put, tkA, tkB, tkC])
 refine tkH (i := 10) (d := some 15) (v := ?_) (hy := Or.inl ⟨by rfl, ?_⟩) (h := ?_)
 rotate_left
 ·(intro w hSw; (try dsimp only at hSw); go_simp; (try with_reducible rfl))
 (try simp only [Act.put, tkA, tkB, tkC])
 refine wpAnyH_ready (rs := [11]) (by kernel_rfl) (by simp) ?_
 refine AllReadyH.cons (i := 11) rfl (fun K hK => ?_) AllReadyH.nil
 go_simp
 go_at_call 51
 refine (fit_any nd.A nd.n nd.cap nd.l hs.A hs.n hs.cap hs.l _ (hndH.out.1.below hHeld.1) hndH.out.2 (hhasH.out.1.below hHeld.1) hhasH.out.2 b hbH.out).mono ?_
 rintro e w6 ⟨rfl, hb6⟩
 have hS6 : (fun w' : World => Below W1.heap.size W1 w' ∧ w'.cell? ⟨vb, 0, none⟩ = some (.pointer (some ⟨wtb, 0, none⟩)) ∧ w'.cell? ⟨wtb, 1, none⟩ = some (.slice (some ⟨bx, ox, none⟩) M xc) ∧ w'.cell? ⟨ib, 0, none⟩ = some (.int .i64 i) ∧ w'.cell? ⟨bx, ox + i * 4 + 1, none⟩ = some (.slice nd.A nd.n nd.cap) ∧ w'.cell? ⟨yb, 1, none⟩ = some (.slice hs.A hs.n hs.cap)) w6 :=
  ⟨hHeld.1.trans (hb6.mono hHeld.1.size), keepC hb6 hHeld.2.1, keepC hb6 hHeld.2.2.1, keepC hb6 hHeld.2.2.2.1, keepC hb6 hHeld.2.2.2.2.1, keepC hb6 hHeld.2.2.2.2.2⟩
 clear hb6
 refine hK.out _ _ hS6 (fun hHeld => ?_)
 clear hK K
 (try simp only [Act.put, List.setIfInBounds_toArray, List.set_cons_zero, List.set_cons_succ])
 refine tkH (i := 12) (d := some 4) (v := ?_) (hy := Or.inl ⟨by rfl, ?_⟩) (h := ?_)
 rotate_left
 ·(intro w hSw; (try dsimp only at hSw); go_simp; (try with_reducible rfl))
 (try simp only [Act.put, tkA, tkB, tkC])
 refine wpAnyH_done (by kernel_rfl) ?_ _
 have R : Z (.returned (.bool b)) w6 := by rw [← hZH.out]; exact ⟨rfl, hb1H.out.trans (hHeld.1.mono hb1H.out.size)⟩
 clear hHeld hS0
 have RH := Lib.hid R
 clear R
 go_wp2
 exact RH.out
end Go.Proofs.YtbnkoefljcekbaaGreatDoor.C9

namespace Go.Proofs.YtbnkoefljcekbaaGreatDoor.C9
open Go.ChangeShapes Go.WideShapes Go.Deep Go.RowKit Go.Maps
set_option linter.unusedVariables false
set_option linter.unusedSimpArgs false

def PR (W : World) (b n : Nat) (D R : Nat → Bool) (L : Nat → Int) : Prop := ∀ j, j < n →
 (W.cell? ⟨b, j * 3, none⟩ = some (.bool (D j)) ∧ W.frozen? ⟨b, j * 3, none⟩ = false) ∧ (W.cell? ⟨b, j * 3 + 1, none⟩ = some (.bool (R j)) ∧ W.frozen? ⟨b, j * 3 + 1, none⟩ = false) ∧ (W.cell? ⟨b, j * 3 + 2, none⟩ = some (.int .i64 (L j)) ∧ W.frozen? ⟨b, j * 3 + 2, none⟩ = false)
section
variable {W W' : World} {b n : Nat} {D R : Nat → Bool} {L : Nat → Int}
theorem PR.keep (h : PR W b n D R L) (hb : W'.heap[b]? = W.heap[b]?) : PR W' b n D R L := fun j hj => by
 obtain ⟨⟨a1, a2⟩, ⟨b1, b2⟩, c1, c2⟩ := h j hj
 exact ⟨⟨(World.cell?_of_block (a := ⟨b, j * 3, none⟩) hb).trans a1, (World.frozen?_of_block (a := ⟨b, j * 3, none⟩) hb).trans a2⟩,
  ⟨(World.cell?_of_block (a := ⟨b, j * 3 + 1, none⟩) hb).trans b1, (World.frozen?_of_block (a := ⟨b, j * 3 + 1, none⟩) hb).trans b2⟩,
  (World.cell?_of_block (a := ⟨b, j * 3 + 2, none⟩) hb).trans c1, (World.frozen?_of_block (a := ⟨b, j * 3 + 2, none⟩) hb).trans c2⟩
theorem PR.below (h : PR W b n D R L) (hb : Below W.heap.size W W') : PR W' b n D R L := by
 rcases Nat.eq_zero_or_pos n with h0 | h0
 ·intro j hj; omega
 ·exact h.keep (hb.block b (cell?_lt (h 0 h0).1.1))
theorem PR.congr {D' R' : Nat → Bool} {L' : Nat → Int} (h : PR W b n D R L) (e : ∀ j, j < n → D j = D' j ∧ R j = R' j ∧ L j = L' j) : PR W b n D' R' L' := fun j hj => by
 obtain ⟨e1, e2, e3⟩ := e j hj
 rw [← e1, ← e2, ← e3]; exact h j hj
def set3 (W : World) (b k : Nat) (d r : Bool) (l : Int) : World := ((W.setCell ⟨b, k * 3, none⟩ (.bool d)).setCell ⟨b, k * 3 + 1, none⟩ (.bool r)).setCell ⟨b, k * 3 + 2, none⟩ (.int .i64 l)
theorem set3_other (W : World) (b k o : Nat) (d r : Bool) (l : Int) (h : o < k * 3 ∨ k * 3 + 3 ≤ o) : (set3 W b k d r l).cell? ⟨b, o, none⟩ = W.cell? ⟨b, o, none⟩ ∧ (set3 W b k d r l).frozen? ⟨b, o, none⟩ = W.frozen? ⟨b, o, none⟩ := by
 unfold set3
 rw [World.cell?_setCell_other _ _ _ _ (by simp <;> omega), World.cell?_setCell_other _ _ _ _ (by simp <;> omega), World.cell?_setCell_other _ _ _ _ (by simp <;> omega), World.frozen?_setCell, World.frozen?_setCell, World.frozen?_setCell]
 exact ⟨rfl, rfl⟩
theorem PR.set (h : PR W b n D R L) {k : Nat} (hk : k < n) (d r : Bool) (l : Int) : PR (set3 W b k d r l) b n (fun j => if j = k then d else D j) (fun j => if j = k then r else R j) (fun j => if j = k then l else L j) := fun j hj => by
 by_cases e : j = k
 ·subst e
  obtain ⟨⟨a1, a2⟩, ⟨b1, b2⟩, c1, c2⟩ := h j hj
  simp only [if_true]
  unfold set3
  refine ⟨⟨?_, ?_⟩, ⟨?_, ?_⟩, ?_, ?_⟩
  ·rw [World.cell?_setCell_other _ _ _ _ (by simp), World.cell?_setCell_other _ _ _ _ (by simp)]
   exact World.cell?_setCell_same' _ _ _ (by rw [a1]; rfl)
  ·rw [World.frozen?_setCell, World.frozen?_setCell, World.frozen?_setCell]; exact a2
  ·rw [World.cell?_setCell_other _ _ _ _ (by simp)]
   exact World.cell?_setCell_same' _ _ _ (by rw [World.cell?_setCell_other _ _ _ _ (by simp), b1]; rfl)
  ·rw [World.frozen?_setCell, World.frozen?_setCell, World.frozen?_setCell]; exact b2
  ·exact World.cell?_setCell_same' _ _ _ (by rw [World.cell?_setCell_other _ _ _ _ (by simp), World.cell?_setCell_other _ _ _ _ (by simp), c1]; rfl)
  ·rw [World.frozen?_setCell, World.frozen?_setCell, World.frozen?_setCell]; exact c2
 ·simp only [if_neg e]
  obtain ⟨⟨a1, a2⟩, ⟨b1, b2⟩, c1, c2⟩ := h j hj
  obtain ⟨p1, p2⟩ := set3_other W b k (j * 3) d r l (by omega)
  obtain ⟨p3, p4⟩ := set3_other W b k (j * 3 + 1) d r l (by omega)
  obtain ⟨p5, p6⟩ := set3_other W b k (j * 3 + 2) d r l (by omega)
  exact ⟨⟨p1.trans a1, p2.trans a2⟩, ⟨p3.trans b1, p4.trans b2⟩, p5.trans c1, p6.trans c2⟩
theorem set3_below {B : Nat} {w0 : World} (h : Below B w0 W) (hb : B ≤ b) (k : Nat) (d r : Bool) (l : Int) : Below B w0 (set3 W b k d r l) :=
 ((h.setCell (p := ⟨b, k * 3, none⟩) hb _).setCell (p := ⟨b, k * 3 + 1, none⟩) hb _).setCell (p := ⟨b, k * 3 + 2, none⟩) hb _
theorem set3_grown (W : World) (b k : Nat) (d r : Bool) (l : Int) : W.grownBy (set3 W b k d r l) (some b) :=
 grown_trans (grown_trans (grown_setc W ⟨b, k * 3, none⟩ (.bool d)) (grown_setc _ ⟨b, k * 3 + 1, none⟩ (.bool r))) (grown_setc _ ⟨b, k * 3 + 2, none⟩ (.int .i64 l))
end
def madeP (n : Nat) : Array Value := madeCells (Value.agg #[.bool false, .bool false, .int .i64 0]).cells (n * 3)
theorem run_makeP (n : Nat) (hn : n ≤ 1000000) (W : World) : (Instr.makeSlice 135 (.int .i64 (n : Int)) (.int .i64 (n : Int))).run Tryz.prog W = .ok (.slice (some ⟨W.heap.size, 0, none⟩) n n) (W.alloc (.cells (madeP n) 137)) := by
 obtain ⟨i, z, hi, hz, hz1, hz2, hz3⟩ : ∃ i z, Tryz.prog.info? 137 = some i ∧ i.zero = some z ∧ i.size = 3 ∧ i.bytes = 16 ∧ z = .agg #[.bool false, .bool false, .int .i64 0] := by
  obtain ⟨i, h1, h2, h3, h4⟩ := info_parts (z := .agg #[.bool false, .bool false, .int .i64 0]) (size := 3) (bytes := 16) (show (Tryz.prog.info? 137).map (fun i => (i.zero, i.size, i.bytes)) = some (some (.agg #[.bool false, .bool false, .int .i64 0]), 3, 16) by kernel_rfl)
  exact ⟨i, _, h1, h2, h3, h4, rfl⟩
 subst hz3
 have := run_make (P := Tryz.prog) W 135 137 i (.agg #[.bool false, .bool false, .int .i64 0]) Tryz.underlying135 hi hz .i64 .i64 (n : Int) (n : Int) (by omega) (Int.le_refl _) (by rw [hz2]; omega) (by omega)
 rw [this, hz1]
 simp only [Int.toNat_natCast]
 rfl
theorem PR.made (w : World) (n : Nat) : PR (w.alloc (.cells (madeP n) 137)) w.heap.size n (fun _ => false) (fun _ => false) (fun _ => 0) := fun j hj => by
 have key : ∀ o, (w.alloc (.cells (madeP n) 137)).cell? ⟨w.heap.size, o, none⟩ = (madeP n)[o]? := fun o => by simp [go_sem]
 have fz : ∀ o, (w.alloc (.cells (madeP n) 137)).frozen? ⟨w.heap.size, o, none⟩ = false := fun o => by simp [go_sem]
 have g : ∀ o, o < n * 3 → (madeP n)[o]? = some ((#[Value.bool false, .bool false, .int .i64 0] : Array Value)[o % 3]!) := fun o ho => by
  unfold madeP madeCells
  simp [Value.cells, ho]
 refine ⟨⟨?_, fz _⟩, ⟨?_, fz _⟩, ?_, fz _⟩
 ·rw [key, g _ (by omega), show j * 3 % 3 = 0 by omega]; rfl
 ·rw [key, g _ (by omega), show (j * 3 + 1) % 3 = 1 by omega]; rfl
 ·rw [key, g _ (by omega), show (j * 3 + 2) % 3 = 2 by omega]; rfl
end Go.Proofs.YtbnkoefljcekbaaGreatDoor.C9
