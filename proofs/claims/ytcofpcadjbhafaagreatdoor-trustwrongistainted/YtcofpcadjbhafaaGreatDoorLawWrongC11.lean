/-
  The walk of TrustWrongIsTainted.
-/
import Derived.Test.YtcofpcadjbhafaaGreatDoorWrongC11
import Derived.Test.YtcofpcadjbhafaaGreatDoorAwake11C11
import Derived.Test.YtcofpcadjbhafaaGreatDoorStr
import Derived.Test.YtcofpcadjbhafaaGreatDoorContI
namespace Go.Proofs.YtcofpcadjbhafaaGreatDoor.C11
open Go.RowKit
set_option linter.unusedVariables false

theorem elem_Str : Elem Tryz.prog 9 RStr.size 16 := elem_of (z := .string ByteArray.empty) (by kernel_rfl) (by decide)
def namesOf (l : List Claimed) (L : List Int) : List ByteArray := L.map (wriOf l)
theorem names_mem {l : List Claimed} {m : List Audit} (hr : ∀ a ∈ m, 0 ≤ a.number ∧ a.number < l.length) (s : ByteArray) : s ∈ namesOf l (numsN (wrB l m) l.length) ↔ suB l m s = true := by
  unfold namesOf
  rw [List.mem_map, suB_end hr, endB_iff]
  constructor
  · rintro ⟨z, hz, rfl⟩
    obtain ⟨i, h1, h2, rfl⟩ := numsN_mem.1 hz
    exact ⟨i, h1, h2, rfl⟩
  · rintro ⟨k, h1, h2, h3⟩
    exact ⟨(k : Int), numsN_mem.2 ⟨k, h1, h2, rfl⟩, h3⟩
def WnRel (l : List Claimed) (L : List Int) (w0 : World) (v i : Value) (wr : World) : Prop :=
  ∃ (j n cap : Nat) (A : Option Addr), j ≤ L.length ∧ i = .int .i64 j ∧ v = .slice A n cap ∧ Own RStr 9 wr w0.heap.size v (namesOf l (L.take j)) ∧ Below w0.heap.size w0 wr

set_option maxRecDepth 100000 in
set_option maxHeartbeats 4000000 in
theorem law_wrong (l : SlD Claimed) (m : SlD Audit) (w : World) (hl : (RSl RClaimed).ok w l) (hma : (RSl RAudit).ok w m) (hm : MaxLenAt w) :
    Calls Tryz.prog 3 #[.slice l.A l.n l.cap, .slice m.A m.n m.cap] w fun e w' => e = .returned (.bool true) ∧ Below w.heap.size w w' := by
  obtain ⟨A, n, cap, l⟩ := l
  obtain ⟨B, mn, mcap, m⟩ := m
  obtain ⟨hl, hd1, hd2, hd3⟩ := hl
  clear hd1 hd2 hd3
  obtain ⟨hma, hd1, hd2, hd3⟩ := hma
  clear hd1 hd2 hd3
  simp only at hl hma ⊢
  have hll := hl.1
  have hml := hma.1
  obtain ⟨c, hc⟩ : ∃ c, auditsF l m = c := ⟨_, rfl⟩
  obtain ⟨Lw, hw⟩ : ∃ L, wrongR l m = (L, c) := by
    unfold wrongR
    rw [hc]
    by_cases h : c = 0
    · rw [if_pos h, h]; exact ⟨_, rfl⟩
    · rw [if_neg h]; exact ⟨_, rfl⟩
  obtain ⟨Lt, ht⟩ : ∃ L, taintR l m = (L, c) := by
    unfold taintR
    rw [hc]
    by_cases h : c = 0
    · rw [if_pos h, h]; exact ⟨_, rfl⟩
    · rw [if_neg h]; exact ⟨_, rfl⟩
  have hlH := Lib.hid hl
  clear hl
  have hmaH := Lib.hid hma
  clear hma
  have hmH := Lib.hid hm
  clear hm
  have hllH := Lib.hid hll
  clear hll
  have hmlH := Lib.hid hml
  clear hml
  have hcH := Lib.hid hc
  clear hc
  have hwH := Lib.hid hw
  clear hw
  have htH := Lib.hid ht
  clear ht
  go_enter Tryz.func3, Tryz.ntmps3
  go_wp2_with fail
  refine (Wrong_any A n cap l B mn mcap m _ hmH.out hlH.out hmaH.out Lw c hwH.out).mono ?_
  rintro e w1 ⟨A1, n1, c1, rfl, hs1, hn1, hb1⟩
  have hs1H := Lib.hid hs1
  clear hs1
  have hb1H := Lib.hid hb1
  clear hb1
  go_wp2_with fail
  refine (Tainted_any A n cap l B mn mcap m _ (hmH.out.below hb1H.out) (hlH.out.below hb1H.out) (hmaH.out.below hb1H.out) Lt c htH.out).mono ?_
  rintro e w2 ⟨A2, n2, c2, rfl, hs2, hn2, hb2⟩
  have hs12 := hs1H.out.below hb2
  have hb12 := hb1H.out.trans (hb2.mono hb1H.out.size)
  clear hb2
  have hs2H := Lib.hid hs2
  clear hs2
  have hs12H := Lib.hid hs12
  clear hs12
  have hb12H := Lib.hid hb12
  clear hb12
  go_wp2_with fail
  refine (Susp_any A n cap l B mn mcap m _ (hmH.out.below hb12H.out) (hlH.out.below hb12H.out) (hmaH.out.below hb12H.out) c hcH.out).mono ?_
  rintro e w3 ⟨A3, n3, c3, Ls, rfl, hs3, hans, hn3, hb3⟩
  have hs13 := hs12H.out.below hb3
  have hs23 := hs2H.out.below hb3
  have hb13 := hb12H.out.trans (hb3.mono hb12H.out.size)
  have hm3 := hmH.out.below hb13
  clear hb3
  have hs3H := Lib.hid hs3
  clear hs3
  have hs13H := Lib.hid hs13
  clear hs13
  have hs23H := Lib.hid hs23
  clear hs23
  have hb13H := Lib.hid hb13
  clear hb13
  have hansH := Lib.hid hans
  clear hans
  have hm3H := Lib.hid hm3
  clear hm3
  by_cases e0 : c = 0
  · subst e0
    obtain ⟨hn, hmn, hr⟩ := audits_range hcH.out
    have hLw : Lw = numsN (wrB l m) l.length := by
      have := hwH.out
      unfold wrongR at this
      rw [if_pos hcH.out, Prod.mk.injEq] at this
      exact this.1.symm
    have hLt : Lt = numsN (tntB l m) l.length := by
      have := htH.out
      unfold taintR at this
      rw [if_pos hcH.out, Prod.mk.injEq] at this
      exact this.1.symm
    rw [show l.length = n from hllH.out] at hn
    have hrH := Lib.hid hr
    clear hr
    have hLwH := Lib.hid hLw
    clear hLw
    have hLtH := Lib.hid hLt
    clear hLt
    go_wp2_with fail
    go_loopw [11, 55] (fun v i wr => WnRel l Lw w3 v i wr) (fun _ i _ => n1 - (intOf i).toNat)
    case atStart => exact ⟨0, 0, 0, none, Nat.zero_le _, rfl, rfl, Own.nil _ _, Below.refl _ _⟩
    case round =>
      obtain ⟨j, nn, cc, AA, hj, rfl, rfl, hown, hbj⟩ := hrel
      have hjn : j ≤ n1 := by have := hs13H.out.1; omega
      have hbs := hbj.size
      have hbw := hb13H.out.trans (hbj.mono hb13H.out.size)
      have hnn := hown.len
      rw [namesOf, List.length_map, List.length_take] at hnn
      have hnj : nn = j := by omega
      subst hnj
      by_cases hlt : nn < n1
      · obtain ⟨b1, o1, hA1, hdrop⟩ := hs13H.out.2.1 (by omega)
        subst hA1
        obtain ⟨z, hz⟩ : ∃ z, Lw[nn]? = some z := ⟨Lw[nn]'(by have := hs13H.out.1; omega), List.getElem?_eq_getElem _⟩
        have cz : wr.cell? ⟨b1, o1 + nn, none⟩ = some (.int .i64 z) := by
          have h1 := hdrop nn z hz 0 (.int .i64 z) rfl
          have := (hbj.cell (cell?_lt h1)).trans h1
          simpa [RInt] using this
        clear hdrop
        have hzm : z ∈ Lw := List.mem_of_getElem? hz
        have hzt : z ∈ Lt := by rw [hLtH.out]; rw [hLwH.out] at hzm; exact wrong_tainted hzm
        rw [hLwH.out] at hzm
        obtain ⟨zi, hzi, _, rfl⟩ := numsN_mem.1 hzm
        rw [show l.length = n from hllH.out] at hzi
        obtain ⟨b, off, hA, hdrop⟩ := hlH.out.2.1 (by omega)
        subst hA
        clear hdrop
        obtain ⟨x, hx⟩ : ∃ x, l[zi]? = some x := ⟨l[zi]'(by have := hllH.out; omega), List.getElem?_eq_getElem _⟩
        obtain ⟨_, _, _, d3, _, _, _⟩ := cells_Claimed (hlH.out.below hbw) hx
        have hwz : RStr.ok wr x.writer := (hlH.out.2.2 x (List.mem_of_getElem? hx)).2.2.2.1
        have hge : decide (n ≤ zi) = false := decide_eq_false (by omega)
        have hge2 : ¬ n ≤ zi := by omega
        have hnm : namesOf l (Lw.take (nn + 1)) = namesOf l (Lw.take nn) ++ [x.writer] := by
          unfold namesOf
          rw [List.take_add_one, hz, Option.toList, List.map_append, List.map_cons, List.map_nil, wriOf_get hx]
        have hj1 : nn + 1 ≤ Lw.length := by have := hs13H.out.1; omega
        clear hnn hzm
        have hownH := Lib.hid hown
        clear hown
        have hbjH := Lib.hid hbj
        clear hbj
        have hbwH := Lib.hid hbw
        clear hbw
        have hzH := Lib.hid hz
        clear hz
        have hztH := Lib.hid hzt
        clear hzt
        have hxH := Lib.hid hx
        clear hx
        have hwzH := Lib.hid hwz
        clear hwz
        have hnmH := Lib.hid hnm
        clear hnm
        have hj1H := Lib.hid hj1
        clear hj1
        go_wp2_with fail
        refine (cont_int A2 n2 c2 Lt zi wr (by omega) (hs23H.out.below hbjH.out) hztH.out).mono ?_
        rintro e w5 ⟨rfl, rfl⟩
        go_wp2_with (at_builtin; go_loud (refine wpList_app rfl (.tmp 73) (.tmp 79) 28 rfl Tryz.underlying28 elem_Str (by decide) rfl (hownH.out.alloc _) (some ⟨w5.heap.size, 0, none⟩) 1 1 [x.writer] rfl (slAt_new _ _ _ hwzH.out) ?nn ?ok ?c1 ?c2 ?c3 (nn + 1) ?c4 ?_))
        case nn => intro h; cases h
        case ok => exact fun _ _ _ _ h => h
        case c1 => have := hownH.out.len; simp [maxLen] <;> omega
        case c2 => have := hownH.out.len; omega
        case c3 => simp <;> omega
        case c4 => have := hownH.out.len; omega
        intro A' c' w7 hown7 hg7 hat7 hb7
        have R : WnRel l Lw w3 (.slice A' (nn + 1) c') (.int .i64 (nn + 1)) w7 := by
          refine ⟨nn + 1, nn + 1, c', A', hj1H.out, by go_num, rfl, ?_, (hbjH.out.alloc hbs _).trans hb7⟩
          rw [hnmH.out]
          exact hown7
        clear hg7 hat7 hb7 hown7
        have RH := Lib.hid R
        clear R
        go_wp2
        refine ⟨?rel, ?measure⟩
        case measure => (simp [intOf]; omega)
        case rel => first | exact RH.out | exact ⟨rfl, RH.out⟩ | ((try refine ⟨rfl, ?_⟩); (repeat apply Exists.intro); refine ⟨RH.out, ?_⟩; ((repeat' apply And.intro) <;> rfl))
      · obtain rfl : nn = n1 := by omega
        have htk : Lw.take nn = Lw := List.take_of_length_le (by have := hs13H.out.1; omega)
        rw [htk] at hown
        obtain ⟨wa, rfl⟩ : ∃ W, W = wr := ⟨_, rfl⟩
        have hem : n2 = 0 ∨ 0 < nn := by
          rcases Nat.eq_zero_or_pos nn with h0 | h0
          · left
            subst h0
            have h1 : Lw = [] := List.eq_nil_of_length_eq_zero hs13H.out.1
            rw [hLwH.out] at h1
            have h2 := none_tainted hrH.out h1
            have h3 := hs23H.out.1
            rw [hLtH.out, h2] at h3
            exact h3.symm
          · exact .inr h0
        clear hnn htk
        have hbjH := Lib.hid hbj
        clear hbj
        have hbwH := Lib.hid hbw
        clear hbw
        go_wp2_with fail
        refine (sort_own AA nn cc _ _ _ hown (by omega)).mono ?_
        rintro e w5 ⟨rfl, hown5, hg5⟩
        have hb5 := hbjH.out.grown hg5 hbs (fun q hq => (hown.1.lt q hq).1)
        have hs5 := hb5.size
        clear hg5 hown
        have hb5H := Lib.hid hb5
        clear hb5
        have hown5H := Lib.hid hown5
        clear hown5
        go_wp2_with fail
        refine (comp_own AA nn cc _ _ _ hown5H.out (by omega) hs5).mono ?_
        rintro e w6 ⟨k6, hk6, rfl, hown6, hb6⟩
        have hb36 := hb5H.out.trans hb6
        have hsl := hown6.slAt
        have hLs : compB (sortB (namesOf l Lw)) = Ls := by
          have h1 := rising_comp (namesOf l Lw)
          have h2 := hansH.out
          rw [SuspAns, if_pos rfl] at h2
          refine h1.1.eq h2.1 fun s => ?_
          rw [h1.2 s, h2.2 s, hLwH.out]
          exact names_mem hrH.out s
        rw [hLs] at hsl
        have hs36 := hs3H.out.below hb36
        have hb06 := hb13H.out.trans (hb36.mono hb13H.out.size)
        clear hown6 hb6 hLs
        have hb36H := Lib.hid hb36
        clear hb36
        have hslH := Lib.hid hsl
        clear hsl
        have hs36H := Lib.hid hs36
        clear hs36
        have hb06H := Lib.hid hb06
        clear hb06
        go_wp2_with fail
        refine (equal_same AA A3 k6 cc n3 c3 Ls _ hslH.out hs36H.out (by omega)).mono ?_
        rintro e w7 ⟨rfl, hb7⟩
        have hb07 := hb06H.out.trans (hb7.mono hb06H.out.size)
        clear hb7
        have hb07H := Lib.hid hb07
        clear hb07
        rcases hem with rfl | hpos
        · by_cases hz0 : 0 < nn
          · have hz1 : decide (0 < nn) = true := decide_eq_true hz0
            go_wp2_with fail
            refine (awake_any _ (hmH.out.below hb07H.out)).mono ?_
            rintro e w8 ⟨rfl, hb8⟩
            have hb9 := hb07H.out.trans (hb8.mono hb07H.out.size)
            clear hb8
            have hb9H := Lib.hid hb9
            clear hb9
            go_wp2
            go_ret
            exact ⟨rfl, hb9H.out⟩
          · have hz1 : decide (0 < nn) = false := decide_eq_false hz0
            go_wp2_with fail
            refine (awake_any _ (hmH.out.below hb07H.out)).mono ?_
            rintro e w8 ⟨rfl, hb8⟩
            have hb9 := hb07H.out.trans (hb8.mono hb07H.out.size)
            clear hb8
            have hb9H := Lib.hid hb9
            clear hb9
            go_wp2
            go_ret
            exact ⟨rfl, hb9H.out⟩
        · have hz1 : decide (0 < nn) = true := decide_eq_true hpos
          go_wp2_with fail
          refine (awake_any _ (hmH.out.below hb07H.out)).mono ?_
          rintro e w8 ⟨rfl, hb8⟩
          have hb9 := hb07H.out.trans (hb8.mono hb07H.out.size)
          clear hb8
          have hb9H := Lib.hid hb9
          clear hb9
          go_wp2
          go_ret
          exact ⟨rfl, hb9H.out⟩
  · have e1 : (c != 0) = true := by simpa using e0
    clear e0
    go_wp2_with fail
    refine (awake_any _ hm3H.out).mono ?_
    rintro e w5 ⟨rfl, hb5⟩
    have hb6 := hb13H.out.trans (hb5.mono hb13H.out.size)
    clear hb5
    have hb6H := Lib.hid hb6
    clear hb6
    go_wp2
    go_ret
    exact ⟨rfl, hb6H.out⟩
end Go.Proofs.YtcofpcadjbhafaaGreatDoor.C11
