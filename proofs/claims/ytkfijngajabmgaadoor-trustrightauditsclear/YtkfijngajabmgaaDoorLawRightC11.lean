/-
  The walk of TrustRightAuditsClear.
-/
import Derived.Test.YtkfijngajabmgaaDoorTaintedC11
import Derived.Test.YtkfijngajabmgaaDoorAwake11C11
import Derived.Test.YtkfijngajabmgaaDoorBelowC11
import Derived.Test.YtkfijngajabmgaaDoorStepApp
import Derived.Lib.SliceRun
import Derived.WalkSpells
namespace Go.Proofs.YtkfijngajabmgaaDoor.C11
open Go.RowKit
set_option linter.unusedVariables false

theorem elem_Audit : Elem Tryd.prog 41 RAudit.size 32 := elem_of (z := .agg #[.int .i64 0, .string ByteArray.empty, .int .i64 0]) (by kernel_rfl) (by decide)
theorem clone_audits (A : Option Addr) (m c : Nat) (l : List Audit) (w : World) (h : SlAt RAudit w A m l) (hn : A = none → c = 0) (hm : m ≤ 3001) :
    Calls Tryd.prog 18 #[.slice A m c] w fun e w' =>
      ∃ A' c', e = .returned (.slice A' m c') ∧ Own RAudit 41 w' w.heap.size (.slice A' m c') l ∧ Below w.heap.size w w' := by
  have he := fun W : World => Lib.run_eql_slice_nil (P := Tryd.prog) W 35 41 A m c 0 0 Tryd.underlying35
  cases A with
  | none =>
    obtain rfl := hn rfl
    obtain rfl : m = 0 := by
      rcases Nat.eq_zero_or_pos m with h0 | h0
      · exact h0
      · obtain ⟨_, _, h, _⟩ := h.2.1 h0
        cases h
    obtain rfl : l = [] := List.eq_nil_of_length_eq_zero h.1
    clear h hn
    go_enter Tryd.func18, Tryd.ntmps18
    go_wp2
    go_ret
    exact ⟨none, 0, rfl, Own.nil _ _, Below.refl _ _⟩
  | some ad =>
    obtain ⟨b, off, sp⟩ := ad
    clear hn
    have hH := Lib.hid h
    clear h
    go_enter Tryd.func18, Tryd.ntmps18
    go_wp2_with (at_builtin; go_loud (refine wpList_app rfl (.tmp 5) (.tmp 6) 35 rfl Tryd.underlying35 elem_Audit (by decide) rfl (Own.empty w) (some ⟨b, off, sp⟩) m c l rfl ?rd ?nn ?ok ?c1 ?c2 ?c3 m ?c4 ?_))
    case rd => exact hH.out.below ((Below.refl _ _).alloc (Nat.le_refl _) _)
    case nn => intro _ h; cases h
    case ok => exact fun _ _ _ _ h => h
    case c1 => simp [maxLen]; omega
    case c2 => simp; omega
    case c3 => simp
    case c4 => simp
    intro A' c' w1 hown hg hat hb
    go_wp2
    go_ret
    exact ⟨A', c', rfl, hown, ((Below.refl _ _).alloc (Nat.le_refl _) _).trans hb⟩
theorem cont_int (A : Option Addr) (n c : Nat) (l : List Int) (x : Int) (w : World) (hn : n ≤ 9223372036854775807) (hl : SlAt RInt w A n l) (hx : x ∈ l) :
    Calls Tryd.prog 19 #[.slice A n c, .int .i64 x] w fun e w' => e = .returned (.bool true) ∧ w' = w := by
  by_cases h0 : n = 0
  · subst h0
    obtain rfl : l = [] := List.eq_nil_of_length_eq_zero hl.1
    cases hx
  · obtain ⟨b, off, rfl, hc⟩ := hl.2.1 (by omega)
    have hll := hl.1
    refine (Tryd.slices_Contains_int b off n c l x w (by omega) hn (fun j hj => ?_)).mono ?_
    · have := hc j l[j] (List.getElem?_eq_getElem hj) 0 (.int .i64 l[j]) rfl
      rw [List.getD_eq_getElem?_getD, List.getElem?_eq_getElem hj]
      simpa [RInt] using this
    · rintro e w' ⟨rfl, rfl⟩
      rw [List.take_of_length_le (by omega), List.contains_iff_mem.2 hx]
      exact ⟨rfl, rfl⟩
def MxRel (m : List Audit) (k : Nat) (t : Int) (w0 : World) (v i : Value) (wr : World) : Prop :=
  ∃ j : Nat, j ≤ m.length ∧ i = .int .i64 j ∧ v = .int .i64 (maxAt t (m.take j)) ∧ (∀ a ∈ m.take j, a.number ≠ (k : Int)) ∧ Below w0.heap.size w0 wr
def InRel (n : Nat) (w0 : World) (i : Value) (wr : World) : Prop := ∃ j : Nat, j ≤ n ∧ i = .int .i64 j ∧ Below w0.heap.size w0 wr
theorem taintR_ok {l : List Claimed} {m : List Audit} {L : List Int} (h : taintR l m = (L, 0)) : auditsF l m = 0 ∧ L = numsN (tntB l m) l.length := by
  unfold taintR at h
  by_cases hk : auditsF l m = 0
  · rw [if_pos hk, Prod.mk.injEq] at h
    exact ⟨hk, h.1.symm⟩
  · rw [if_neg hk, Prod.mk.injEq] at h
    exact absurd h.2 hk
theorem taintR_bad {l : List Claimed} {m : List Audit} {L : List Int} {c : Int} (h : taintR l m = (L, c)) (hc : ¬ c = 0) : L = [] := by
  unfold taintR at h
  by_cases hk : auditsF l m = 0
  · rw [if_pos hk, Prod.mk.injEq] at h
    exact absurd h.2.symm hc
  · rw [if_neg hk, Prod.mk.injEq] at h
    exact h.1.symm
theorem right_case {l : List Claimed} {m m2 : List Audit} {k : Nat} {x : Claimed} {L L2 : List Int} {c2 : Int} (h : taintR l m = (L, 0)) (hx : l[k]? = some x) (h2 : m ++ [⟨(k : Int), x.result, maxAt x.at_ m⟩] = m2) (h3 : taintR l m2 = (L2, c2)) :
    (c2 = 2 ∧ L2 = []) ∨ (c2 = 0 ∧ ∀ z ∈ L2, z ∈ L) := by
  subst h2
  obtain ⟨h0, rfl⟩ := taintR_ok h
  have ha := audits_right h0 hx
  by_cases hl : m.length + 1 ≤ 1000
  · rw [if_pos hl] at ha
    unfold taintR at h3
    rw [if_pos ha, Prod.mk.injEq] at h3
    obtain ⟨rfl, rfl⟩ := h3
    exact .inr ⟨rfl, fun z hz => nums_right (badA_right hx _) hz⟩
  · rw [if_neg hl] at ha
    unfold taintR at h3
    rw [if_neg (by rw [ha]; decide), Prod.mk.injEq, ha] at h3
    exact .inl ⟨h3.2.symm, h3.1.symm⟩

theorem keep1 {W w' : World} {a : Addr} {v : Value} (hb : Below W.heap.size W w') (h : W.cell? a = some v) : w'.cell? a = some v := (hb.cell (cell?_lt h)).trans h
theorem keep2 {B : Nat} {W w' : World} {a : Addr} {v : Value} (hb : Below B W w') (hlt : a.block < B) (h : W.cell? a = some v) : w'.cell? a = some v := (hb.cell hlt).trans h
theorem right_range {l : List Claimed} {m : List Audit} {k : Nat} {x : Claimed} (h : auditsF l m = 0) (hx : l[k]? = some x) : 0 ≤ maxAt x.at_ m ∧ maxAt x.at_ m ≤ 1000000000 := by
  obtain ⟨h1, h2, h3⟩ := auditsF_zero h
  obtain ⟨_, h5⟩ := logF_zero h1
  have hok := claimed_ok (logErr_each l none h5 x (List.mem_of_getElem? hx)).1
  have h6 := maxAt_ge m x.at_
  have h7 := maxAt_le m x.at_ 1000000000 hok.at1 (fun a ha => (auditsErr_each l m none h3 a ha).2.2.2)
  have h8 := hok.at0
  omega
set_option maxRecDepth 100000 in
set_option maxHeartbeats 4000000 in
theorem law_right (l : SlD Claimed) (m : SlD Audit) (k : Int) (w : World) (hl : (RSl RClaimed).ok w l) (hma : (RSl RAudit).ok w m) (hk : RInt.ok w k) (hm : MaxLenAt w) :
    Calls Tryd.prog 4 #[.slice l.A l.n l.cap, .slice m.A m.n m.cap, .int .i64 k] w fun e w' => e = .returned (.bool true) ∧ Below w.heap.size w w' := by
  obtain ⟨A, n, cap, l⟩ := l
  obtain ⟨B, mn, mcap, m⟩ := m
  obtain ⟨hl, hd1, hd2, hd3⟩ := hl
  clear hd1 hd2 hd3
  obtain ⟨hma, _, _, hmnil⟩ := hma
  simp only at hl hma hmnil ⊢
  have hk : I64 k := hk
  have hll := hl.1
  have hml := hma.1
  obtain ⟨L, c, hLc⟩ : ∃ L c, taintR l m = (L, c) := ⟨_, _, rfl⟩
  by_cases e0 : c = 0
  · subst e0
    obtain ⟨hau, hLL⟩ := taintR_ok hLc
    obtain ⟨hn1, hm1, hdrop⟩ := audits_range hau
    clear hdrop
    rw [hll] at hn1
    rw [hml] at hm1
    by_cases hn0 : n = 0
    · subst hn0
      obtain rfl : L = [] := by rw [hLL, hll]; rfl
      clear hau hLL hmnil
      have hlH := Lib.hid hl
      clear hl
      have hmaH := Lib.hid hma
      clear hma
      have hmH := Lib.hid hm
      clear hm
      have hllH := Lib.hid hll
      clear hll
      have hmlH := Lib.hid hml
      clear hml
      have hLcH := Lib.hid hLc
      clear hLc
      go_enter Tryd.func4, Tryd.ntmps4
      go_wp2_with fail
      refine (Tainted_any A 0 cap l B mn mcap m _ hmH.out hlH.out hmaH.out [] 0 hLcH.out).mono ?_
      rintro e w1 ⟨A1, n1, c1, rfl, hs1, hn1, hb1⟩
      obtain rfl : n1 = 0 := hs1.1.symm
      clear hs1
      have hb1H := Lib.hid hb1
      clear hb1
      go_wp2_with fail
      refine (awake_any _ (hmH.out.below hb1H.out)).mono ?_
      rintro e w2 ⟨rfl, hb2⟩
      have hb3 := hb1H.out.trans (hb2.mono hb1H.out.size)
      clear hb2
      have hb3H := Lib.hid hb3
      clear hb3
      go_wp2
      go_ret
      exact ⟨rfl, hb3H.out⟩
    · have hn2 : ((n : Int) == 0) = false := by simp; omega
      clear hLL
      have hlH := Lib.hid hl
      clear hl
      have hmaH := Lib.hid hma
      clear hma
      have hmH := Lib.hid hm
      clear hm
      have hllH := Lib.hid hll
      clear hll
      have hmlH := Lib.hid hml
      clear hml
      have hLcH := Lib.hid hLc
      clear hLc
      have hauH := Lib.hid hau
      clear hau
      have hmnilH := Lib.hid hmnil
      clear hmnil
      go_enter Tryd.func4, Tryd.ntmps4
      go_wp2_with fail
      refine (Tainted_any A n cap l B mn mcap m _ hmH.out hlH.out hmaH.out L 0 hLcH.out).mono ?_
      rintro e w1 ⟨A1, n1, c1, rfl, hs1, hn3, hb1⟩
      have hs1H := Lib.hid hs1
      clear hs1
      have hb1H := Lib.hid hb1
      clear hb1
      go_wp2_with fail
      refine (below_any k n _ hk (by omega) (by omega)).mono ?_
      rintro e w2 ⟨⟨r, rfl, r0, r1⟩, rfl⟩
      obtain ⟨rn, rfl⟩ : ∃ rn : Nat, r = rn := ⟨r.toNat, by omega⟩
      obtain ⟨b, off, hA, hdrop⟩ := hlH.out.2.1 (by omega)
      subst hA
      clear hdrop
      obtain ⟨x, hx⟩ : ∃ x, l[rn]? = some x := ⟨l[rn]'(by have := hllH.out; omega), List.getElem?_eq_getElem _⟩
      obtain ⟨_, _, _, _, d4, _, _⟩ := cells_Claimed (hlH.out.below hb1H.out) hx
      have hxH := Lib.hid hx
      clear hx
      go_wp2_with fail
      go_loopw [9, 45] (fun v i wr => MxRel m rn x.at_ w1 v i wr) (fun _ i _ => mn - (intOf i).toNat)
      case atStart => exact ⟨0, Nat.zero_le _, rfl, rfl, fun a ha => (by cases ha), Below.refl _ _⟩
      case round =>
        obtain ⟨j, hj, rfl, rfl, hnum, hbj⟩ := hrel
        have hjm : j ≤ mn := by have := hmlH.out; omega
        have hbw := hb1H.out.trans (hbj.mono hb1H.out.size)
        by_cases hlt : j < mn
        · obtain ⟨bm, offm, hB, hdrop⟩ := hmaH.out.2.1 (by omega)
          subst hB
          clear hdrop
          obtain ⟨a, ha⟩ : ∃ a, m[j]? = some a := ⟨m[j]'(by have := hmlH.out; omega), List.getElem?_eq_getElem _⟩
          obtain ⟨q0, q1, q2⟩ := cells_Audit (hmaH.out.below hbw) ha
          obtain ⟨an, ar, aat⟩ := a
          simp only at q0 q1 q2
          have htk : m.take (j + 1) = m.take j ++ [⟨an, ar, aat⟩] := by rw [List.take_add_one, ha]; rfl
          have hmx := maxAt_snoc (m.take j) x.at_ ⟨an, ar, aat⟩
          rw [← htk] at hmx
          simp only at hmx
          obtain ⟨t, ht⟩ : ∃ t, maxAt x.at_ (m.take j) = t := ⟨_, rfl⟩
          rw [ht] at hmx ⊢
          have hj1 : j + 1 ≤ m.length := by have := hmlH.out; omega
          have hba := hbw.alloc hbw.size (.cells #[.int .i64 an, .string ar, .int .i64 aat] 41)
          by_cases heq : an = rn
          · have heq2 : (an == (rn : Int)) = true := by simpa using heq
            clear hmx
            have haH := Lib.hid ha
            clear ha
            have hnumH := Lib.hid hnum
            clear hnum
            have hbjH := Lib.hid hbj
            clear hbj
            have hbwH := Lib.hid hbw
            clear hbw
            have htkH := Lib.hid htk
            clear htk
            have htH := Lib.hid ht
            clear ht
            have hbaH := Lib.hid hba
            clear hba
            have heqH := Lib.hid heq
            clear heq
            go_wp2_with fail
            refine (awake_any _ (hmH.out.below hbaH.out)).mono ?_
            rintro e w3 ⟨rfl, hb3⟩
            have hb4 := hbaH.out.trans (hb3.mono hbaH.out.size)
            clear hb3
            have hb4H := Lib.hid hb4
            clear hb4
            go_wp2
            go_ret
            exact ⟨rfl, hb4H.out⟩
          · have heq2 : (an == (rn : Int)) = false := by simpa using heq
            have R : MxRel m rn x.at_ w1 (.int .i64 (max t aat)) (.int .i64 (j + 1)) (wr.alloc (.cells #[.int .i64 an, .string ar, .int .i64 aat] 41)) := by
              refine ⟨j + 1, hj1, by go_num, by rw [hmx], fun z hz => ?_, hbj.alloc hbj.size _⟩
              rw [htk] at hz
              rcases List.mem_append.1 hz with hz | hz
              · exact hnum z hz
              · rw [List.mem_singleton.1 hz]; exact heq
            clear hmx
            have haH := Lib.hid ha
            clear ha
            have hnumH := Lib.hid hnum
            clear hnum
            have hbjH := Lib.hid hbj
            clear hbj
            have hbwH := Lib.hid hbw
            clear hbw
            have htkH := Lib.hid htk
            clear htk
            have htH := Lib.hid ht
            clear ht
            have hbaH := Lib.hid hba
            clear hba
            have heqH := Lib.hid heq
            clear heq
            have RH := Lib.hid R
            clear R
            go_wp2
            refine ⟨?rel, ?measure⟩
            case measure => (simp [intOf]; omega)
            case rel => first | exact RH.out | exact ⟨rfl, RH.out⟩ | ((try refine ⟨rfl, ?_⟩); (repeat apply Exists.intro); refine ⟨RH.out, ?_⟩; ((repeat' apply And.intro) <;> rfl))
        · obtain rfl : j = mn := by omega
          have htk : m.take j = m := List.take_of_length_le (by have := hmlH.out; omega)
          rw [htk] at hnum ⊢
          obtain ⟨t, ht⟩ : ∃ t, maxAt x.at_ m = t := ⟨_, rfl⟩
          obtain ⟨m2, hm2⟩ : ∃ z, m ++ [⟨(rn : Int), x.result, t⟩] = z := ⟨_, rfl⟩
          obtain ⟨L2, c2, hL2⟩ : ∃ L2 c2, taintR l m2 = (L2, c2) := ⟨_, _, rfl⟩
          have hcase := right_case hLcH.out hxH.out (by rw [ht]; exact hm2) hL2
          obtain ⟨_, _, d2, _, _, _, _⟩ := cells_Claimed (hlH.out.below hbw) hxH.out
          have htr := right_range hauH.out hxH.out
          rw [ht] at htr ⊢
          have hmaw := hmaH.out.below hbw
          have hlw := hlH.out.below hbw
          have hs1w := hs1H.out.below hbj
          have hmw := hmH.out.below hbw
          have hxz : x.result.size ≤ maxLen := (hlH.out.2.2 x (List.mem_of_getElem? hxH.out)).2.2.1
          have hok : ∀ W : World, RAudit.ok W ⟨(rn : Int), x.result, t⟩ := fun W => ⟨by show I64 (rn : Int); unfold I64; omega, hxz, by show I64 t; unfold I64; omega⟩
          obtain ⟨wa, rfl⟩ : ∃ W, W = wr := ⟨_, rfl⟩
          have hblt : b < wa.heap.size := cell?_lt d2
          clear d4
          have hokH := Lib.hid hok
          clear hok
          have hnumH := Lib.hid hnum
          clear hnum
          have htkH := Lib.hid htk
          clear htk
          have htH := Lib.hid ht
          clear ht
          have hm2H := Lib.hid hm2
          clear hm2
          have hL2H := Lib.hid hL2
          clear hL2
          have hcaseH := Lib.hid hcase
          clear hcase
          have hbwH := Lib.hid hbw
          clear hbw
          have hbjH := Lib.hid hbj
          clear hbj
          have hmawH := Lib.hid hmaw
          clear hmaw
          have hlwH := Lib.hid hlw
          clear hlw
          have hs1wH := Lib.hid hs1w
          clear hs1w
          have hmwH := Lib.hid hmw
          clear hmw
          have hxzH := Lib.hid hxz
          clear hxz
          go_wp2_with fail
          go_region_held3 (fun w' => w'.cell? ⟨b, off + rn * 7 + 2, none⟩ = some (.string x.result)) (first | go_keep | exact keep2 hb5 hblt (by assumption) | exact keep1 (by assumption) (by assumption))
            (first
              | (go_at_call 18; refine (clone_audits B j mcap m _ (hmaH.out.below (by first | exact hbwH.out.drew | exact (hbwH.out.alloc hbwH.out.size _).drew | exact (hbwH.out.drew.alloc hbwH.out.size _))) hmnilH.out (by omega)).mono ?_; rintro e w3 ⟨A3, c3, rfl, hown, hb3⟩)
              | (refine step_app1 (R := RAudit) ?g1 (.tmp 62) (.tmp 71) 35 ?g2 Tryd.underlying35 elem_Audit (by decide) ?g3 (hown.alloc _) w3.heap.size ⟨(rn : Int), x.result, t⟩ ?g4 (slAt_new _ _ _ (hokH.out _)) (fun _ _ _ _ h => h) ?a4 ?a5 ?a6 (j + 1) ?a7 ?_
                 case g1 => rfl
                 case g2 => rfl
                 case g3 => rfl
                 case g4 => rfl
                 case a4 => have := hmlH.out; unfold maxLen; omega
                 case a5 => have := hmlH.out; omega
                 case a6 => have := hb3.size; simp at this ⊢; omega
                 case a7 => have := hmlH.out; omega
                 intro A5 c5 w5 hown5 hb5
                 have hs5 := hown5.slAt
                 rw [hm2H.out] at hs5
                 have hbw5 : Below wa.heap.size wa w5 := (((Below.refl wa.heap.size wa).drew.trans hb3).alloc hb3.size _).trans hb5
                 have hs5H := Lib.hid hs5
                 clear hs5 hown5)
              | (refine step_app1 (R := RAudit) ?g1 (.tmp 62) (.tmp 71) 35 ?g2 Tryd.underlying35 elem_Audit (by decide) ?g3 hown wa.heap.size ⟨(rn : Int), x.result, t⟩ ?g4 ?g5 (fun _ _ _ _ h => h) ?a4 ?a5 ?a6 (j + 1) ?a7 ?_
                 case g1 => rfl
                 case g2 => rfl
                 case g3 => rfl
                 case g4 => rfl
                 case g5 => first | exact (slAt_new wa _ _ (hokH.out _)).below hb3 | exact ((slAt_new wa _ _ (hokH.out _)).below (Below.refl _ _).drew).below hb3
                 case a4 => have := hmlH.out; unfold maxLen; omega
                 case a5 => have := hmlH.out; omega
                 case a6 => have := hb3.size; simp at this ⊢; omega
                 case a7 => have := hmlH.out; omega
                 intro A5 c5 w5 hown5 hb5
                 have hs5 := hown5.slAt
                 rw [hm2H.out] at hs5
                 have hbw5 : Below wa.heap.size wa w5 := by
                   have h1 := hb3.size
                   simp only [World.size_alloc, World.size_drew] at h1
                   first
                     | exact ((((Below.refl wa.heap.size wa).alloc (Nat.le_refl _) _).drew.trans (hb3.mono (by simp))).trans (hb5.mono (by simp)))
                     | exact ((((Below.refl wa.heap.size wa).drew.alloc (Nat.le_refl _) _).trans (hb3.mono (by simp))).trans (hb5.mono (by simp)))
                 have hs5H := Lib.hid hs5
                 clear hs5 hown5)
              | (go_at_call 15; refine (Tainted_any (some ⟨b, off, none⟩) n cap l A5 (j + 1) c5 m2 _ (hmwH.out.below hbw5) (hlwH.out.below hbw5) hs5H.out L2 c2 hL2H.out).mono ?_; rintro e w6 ⟨A6, n6, c6, rfl, hs6, hn6, hb6⟩))
          all_goals
            have hb67 := hbw5.trans (hb6.mono hbw5.size)
            have hb7 := hbwH.out.trans (hb67.mono hbwH.out.size)
            have hs7 := hs1wH.out.below hb67
            have hb7H := Lib.hid hb7
            have hs7H := Lib.hid hs7
            have hs6H := Lib.hid hs6
            have hcase := hcaseH.out
            clear hb67 hb7 hs7 hs6 hb6 hbw5 hs5H hcaseH hL2H hown hb3 hb5 d2
            obtain ⟨wb, rfl⟩ : ∃ W, W = w6 := ⟨_, rfl⟩
            rcases hcase with ⟨rfl, _⟩ | ⟨rfl, hsub⟩
            · go_wp2_with fail
              refine (awake_any _ (hmH.out.below hb7H.out)).mono ?_
              rintro e w8 ⟨rfl, hb8⟩
              have hb9 := hb7H.out.trans (hb8.mono hb7H.out.size)
              clear hb8
              have hb9H := Lib.hid hb9
              clear hb9
              go_wp2
              go_ret
              exact ⟨rfl, hb9H.out⟩
            · have hsubH := Lib.hid hsub
              clear hsub
              go_wp2_with fail
              go_loopw [85] (fun i wr => InRel n6 wb i wr) (fun i _ => n6 - (intOf i).toNat)
              case atStart => exact ⟨0, Nat.zero_le _, rfl, Below.refl _ _⟩
              case round =>
                obtain ⟨q, hq, rfl, hbq⟩ := hrel
                obtain ⟨wc, rfl⟩ : ∃ W, W = wr := ⟨_, rfl⟩
                by_cases hlt2 : q < n6
                · obtain ⟨b6, o6, hA6, hdrop⟩ := hs6H.out.2.1 (by omega)
                  subst hA6
                  obtain ⟨z, hz⟩ : ∃ z, L2[q]? = some z := ⟨L2[q]'(by have := hs6H.out.1; omega), List.getElem?_eq_getElem _⟩
                  have cz : wc.cell? ⟨b6, o6 + q, none⟩ = some (.int .i64 z) := by
                    have := hdrop q z hz 0 (.int .i64 z) rfl
                    have := keep1 hbq this
                    simpa [RInt] using this
                  have hin := hsubH.out z (List.mem_of_getElem? hz)
                  have R : InRel n6 wb (.int .i64 (q + 1)) wc := ⟨q + 1, by omega, by go_num, hbq⟩
                  clear hdrop
                  have hbqH := Lib.hid hbq
                  have hzH := Lib.hid hz
                  have hinH := Lib.hid hin
                  have RH := Lib.hid R
                  clear hbq hz hin R
                  go_wp2_with fail
                  refine (cont_int A1 n1 c1 L z wc (by omega) (hs7H.out.below hbqH.out) hinH.out).mono ?_
                  rintro e w8 ⟨rfl, rfl⟩
                  go_wp2
                  refine ⟨?rel, ?measure⟩
                  case measure => (simp [intOf]; omega)
                  case rel => first | exact RH.out | exact ⟨rfl, RH.out⟩ | ((try refine ⟨rfl, ?_⟩); (repeat apply Exists.intro); refine ⟨RH.out, ?_⟩; ((repeat' apply And.intro) <;> rfl))
                · have hbw8 := hb7H.out.trans (hbq.mono hb7H.out.size)
                  have hbw8H := Lib.hid hbw8
                  clear hbw8 hbq
                  go_wp2_with fail
                  refine (awake_any _ (hmH.out.below hbw8H.out)).mono ?_
                  rintro e w8 ⟨rfl, hb8⟩
                  have hb9 := hbw8H.out.trans (hb8.mono hbw8H.out.size)
                  clear hb8
                  have hb9H := Lib.hid hb9
                  clear hb9
                  go_wp2
                  go_ret
                  exact ⟨rfl, hb9H.out⟩
  · obtain rfl := taintR_bad hLc e0
    have e1 : (c != 0) = true := by simpa using e0
    clear e0 hmnil
    have hlH := Lib.hid hl
    clear hl
    have hmaH := Lib.hid hma
    clear hma
    have hmH := Lib.hid hm
    clear hm
    have hllH := Lib.hid hll
    clear hll
    have hmlH := Lib.hid hml
    clear hml
    have hLcH := Lib.hid hLc
    clear hLc
    go_enter Tryd.func4, Tryd.ntmps4
    go_wp2_with fail
    refine (Tainted_any A n cap l B mn mcap m _ hmH.out hlH.out hmaH.out [] c hLcH.out).mono ?_
    rintro e w1 ⟨A1, n1, c1, rfl, hs1, hn1, hb1⟩
    obtain rfl : n1 = 0 := hs1.1.symm
    clear hs1
    have hb1H := Lib.hid hb1
    clear hb1
    go_wp2_with fail
    refine (awake_any _ (hmH.out.below hb1H.out)).mono ?_
    rintro e w2 ⟨rfl, hb2⟩
    have hb3 := hb1H.out.trans (hb2.mono hb1H.out.size)
    clear hb2
    have hb3H := Lib.hid hb3
    clear hb3
    go_wp2
    go_ret
    exact ⟨rfl, hb3H.out⟩
end Go.Proofs.YtkfijngajabmgaaDoor.C11
