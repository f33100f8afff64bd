/-
  Longest of the reference.
-/
import Derived.Test.YtpcgfodiikljdaaDoorLoPC10
import Derived.Test.YtpcgfodiikljdaaDoorCaseOfC10
import Derived.Test.YtpcgfodiikljdaaDoorBRow
import Derived.Test.YtpcgfodiikljdaaDoorShelfB
namespace Go.Proofs.YtpcgfodiikljdaaDoor.C10
open Go.ChangeShapes Go.WideShapes Go.Deep Go.RowKit
set_option linter.unusedVariables false
set_option linter.unusedSimpArgs false

theorem atOf_spec : ∀ (l : List TestCase) (s : ByteArray) (i : Nat), (secOf l s = none ∧ atOf l s i = -1) ∨ ∃ (j : Nat) (c : TestCase), l[j]? = some c ∧ c.name = s ∧ secOf l s = some c.seconds ∧ atOf l s i = ((i + j : Nat) : Int)
  | [], s, i => .inl ⟨rfl, rfl⟩
  | c :: r, s, i => by
    by_cases h : c.name = s
    · refine .inr ⟨0, c, rfl, h, ?_, ?_⟩
      · unfold secOf; rw [List.find?_cons]; simp [h]
      · unfold atOf; rw [if_pos h]; rfl
    · have e : secOf (c :: r) s = secOf r s := by unfold secOf; rw [List.find?_cons]; simp [h]
      have e2 : atOf (c :: r) s i = atOf r s (i + 1) := by rw [atOf, if_neg h]
      rw [e, e2]
      rcases atOf_spec r s (i + 1) with ⟨h1, h2⟩ | ⟨j, x, h1, h2, h3, h4⟩
      · exact .inl ⟨h1, h2⟩
      · exact .inr ⟨j + 1, x, by simpa using h1, h2, h3, by rw [h4]; congr 1; omega⟩
open Classical in
noncomputable def seenB (cs : List TestCase) (seen : List ByteArray) (j : Nat) : Bool := match cs[j]? with
  | some c => decide (c.name ∈ seen)
  | none => false
structure LrS (cs : List TestCase) (B T N : Nat) (tv sv : Value) (w0 wr : World) (seen : List ByteArray) : Prop where
  row : BRow wr B N (seenB cs seen)
  nd : seen.Nodup
  mem : ∀ s ∈ seen, s ∈ cs.map (·.name)
  c0 : wr.cell? ⟨T, 0, none⟩ = some tv
  c1 : wr.cell? ⟨T, 1, none⟩ = some sv
  be : Below w0.heap.size w0 wr
  lt : B < wr.heap.size
def LrO (cs : List TestCase) (rows : List (List ByteArray)) (B T N : Nat) (tv sv : Value) (ans : Int × Int) (w0 : World) (vm vj : Value) (wr : World) : Prop :=
  ∃ (j : Nat) (seen : List ByteArray) (most : Int), j ≤ rows.length ∧ vj = .int .i64 j ∧ vm = .int .i64 most ∧ LrS cs B T N tv sv w0 wr seen ∧ longO cs (rows.drop j) seen most = ans ∧ 0 ≤ most ∧ most ≤ 50000000
def LrI (cs : List TestCase) (row : List ByteArray) (rest : List (List ByteArray)) (most : Int) (B T N : Nat) (tv sv : Value) (ans : Int × Int) (w0 : World) (vs vi : Value) (wr : World) : Prop :=
  ∃ (i : Nat) (seen : List ByteArray) (sum : Int), i ≤ row.length ∧ vi = .int .i64 i ∧ vs = .int .i64 sum ∧ LrS cs B T N tv sv w0 wr seen ∧ goOn cs rest most (longI cs (row.drop i) seen sum) = ans ∧ 0 ≤ sum ∧ sum ≤ 100000 * (seen.length : Int)
theorem LrS.seen_le {cs : List TestCase} {B T N : Nat} {tv sv : Value} {w0 wr : World} {seen : List ByteArray} (h : LrS cs B T N tv sv w0 wr seen) : seen.length ≤ cs.length := by
  have := nodup_len h.nd h.mem
  rwa [List.length_map] at this
theorem LrS.below {cs : List TestCase} {B T N : Nat} {tv sv : Value} {w0 wr w' : World} {seen : List ByteArray} (h : LrS cs B T N tv sv w0 wr seen) (hb : Below wr.heap.size wr w') : LrS cs B T N tv sv w0 w' seen :=
  ⟨h.row.below hb h.lt, h.nd, h.mem, (hb.cell (cell?_lt h.c0)).trans h.c0, (hb.cell (cell?_lt h.c1)).trans h.c1, h.be.trans (hb.mono h.be.size), Nat.lt_of_lt_of_le h.lt hb.size⟩
/-- one more is seen -/
theorem seenB_put {cs : List TestCase} (hn : Names cs) {seen : List ByteArray} {j : Nat} {c : TestCase} (hc : cs[j]? = some c) : (fun k => if k = j then true else seenB cs seen k) = seenB cs (c.name :: seen) := by
  funext k
  by_cases e : k = j
  · subst e
    rw [if_pos rfl]
    unfold seenB
    rw [hc]
    simp
  · rw [if_neg e]
    unfold seenB
    cases hk : cs[k]? with
    | none => rfl
    | some x =>
      have hne : x.name ≠ c.name := fun h => by
        have h1 : (cs.map (·.name))[k]? = some x.name := by rw [List.getElem?_map, hk]; rfl
        have h2 : (cs.map (·.name))[j]? = some x.name := by rw [List.getElem?_map, hc, h]; rfl
        exact e ((List.getElem?_inj (List.getElem?_eq_some_iff.1 h1).1 hn).1 (h1.trans h2.symm))
      simp [hne]
/-- slices.Contains at []bool -/
theorem has_false (B N cap : Nat) (f : Nat → Bool) (w : World) (h : BRow w B N f) (hN : N ≤ 1000000) (b : Bool) (hb : b = true ↔ ∃ j, j < N ∧ f j = false) :
    Calls Tryd.prog 31 #[.slice (some ⟨B, 0, none⟩) N cap, .bool false] w fun e w' => e = .returned (.bool b) ∧ w' = w := by
  have heq : EqlAt Tryd.prog 4 (fun b : Bool => Value.bool b) (fun a b => a == b)  := EqlAt.bool 4 Tryd.underlying4
  refine (Tryd.slices_Contains (α := Bool) (fun b => .bool b) (fun a b => a == b) heq B 0 N cap ((List.range N).map f) false w (by simp) (by omega) (fun j hj => ?_)).mono ?_
  · simp at hj
    have := (h j hj).1
    rw [Nat.zero_add, this]
    simp [hj]
  · rintro e w' ⟨rfl, rfl⟩
    refine ⟨?_, rfl⟩
    congr 2
    rw [Bool.eq_iff_iff, hb]
    rw [List.take_of_length_le (by simp), List.any_eq_true]
    constructor
    · rintro ⟨x, hx, h2⟩
      obtain ⟨j, hj, rfl⟩ := List.mem_map.1 hx
      exact ⟨j, by simpa using hj, by simpa using h2⟩
    · rintro ⟨j, hj, h2⟩
      exact ⟨f j, List.mem_map.2 ⟨j, by simpa using hj, rfl⟩, by simp [h2]⟩
set_option maxRecDepth 100000 in
set_option maxHeartbeats 16000000 in
theorem rlongest_any (t : Test) (rs : SlD (SlD ByteArray)) (w : World) (hm : MaxLenAt w) (hl : (RSl RTestCase).ok w t.cases) (hnm : t.name.size < 4294967281) (hr : SlAt (RSl RStr) w rs.A rs.n rs.l) (hrn : rs.n ≤ maxLen) (ans : Int × Int) (hans : longF t (rs.l.map (·.l)) = ans) :
    Calls Tryd.prog 13 #[.agg #[.string t.name, .slice t.cases.A t.cases.n t.cases.cap], .slice rs.A rs.n rs.cap] w fun e w' => e = .returned (.tuple #[.int .i64 ans.1, .int .i64 ans.2]) ∧ Below w.heap.size w w' := by
  obtain ⟨c, hF⟩ : ∃ c, testF t = c := ⟨_, rfl⟩
  have hcon := fun w => rcheckTest_any t w
  have hcas := fun s w => caseOf_any t s w
  have hok := @testF_ok t
  unfold longF at hans
  rw [hF] at hans hok
  obtain ⟨nm, A, N1, cap, cs⟩ := t
  obtain ⟨rA, rn, rcap, l⟩ := rs
  simp only at hl hnm hcon hok hans hr hrn hcas ⊢
  have hsl := hl.1
  have hll := hsl.1
  have hrl := hr.1
  rw [List.length_map, hrl] at hans
  have hrn2 : rn ≤ 9223372036854775807 := hrn
  have hba := (Below.refl w.heap.size w).alloc (Nat.le_refl _) (.cells #[.string nm, .slice A N1 cap] 24)
  have hconH := Lib.hid hcon
  clear hcon
  have hokH := Lib.hid hok
  clear hok
  have hlH := Lib.hid hl
  clear hl
  have hslH := Lib.hid hsl
  clear hsl
  have hllH := Lib.hid hll
  clear hll
  have hmH := Lib.hid hm
  clear hm
  have hFH := Lib.hid hF
  clear hF
  have hbaH := Lib.hid hba
  clear hba
  have hrH := Lib.hid hr
  clear hr
  have hrlH := Lib.hid hrl
  clear hrl
  have hcasH := Lib.hid hcas
  clear hcas
  go_enter Tryd.func13, Tryd.ntmps13
  go_wp2_with fail
  refine (hconH.out _ (hmH.out.below hbaH.out) ⟨hslH.out.below hbaH.out, hlH.out.2⟩ hnm c hFH.out).mono ?_
  rintro e w1 ⟨rfl, hw1⟩
  have q0 : w1.cell? ⟨w.heap.size, 0, none⟩ = some (.string nm) := (hw1.cell (by simp)).trans (cell_new _ _ _ 0)
  have q1 : w1.cell? ⟨w.heap.size, 1, none⟩ = some (.slice A N1 cap) := (hw1.cell (by simp)).trans (cell_new _ _ _ 1)
  have hb1 := hbaH.out.trans (hw1.mono hbaH.out.size)
  have hs1 : w.heap.size + 1 ≤ w1.heap.size := by have := hw1.size; simp at this; omega
  clear hw1
  by_cases hc : c = 0
  · subst hc
    obtain ⟨h1, h2, h3, h4⟩ := hokH.out rfl
    rw [if_pos rfl] at hans
    by_cases h100 : rn ≤ 100
    · rw [if_pos h100] at hans
      obtain ⟨b0, off, hA, _⟩ := hslH.out.2.1 (by have := hllH.out; omega)
      subst hA
      have hN3 : N1 ≤ 500 := by have := hllH.out; omega
      have hmk := run_makeB N1 (by omega)
      obtain ⟨B, hB⟩ : ∃ b, w1.heap.size = b := ⟨_, rfl⟩
      obtain ⟨W2, hW2⟩ : ∃ X, w1.alloc (.cells (madeB N1) 4) = X := ⟨_, rfl⟩
      have hwW : Below w1.heap.size w1 W2 := by rw [← hW2]; exact (Below.refl _ _).alloc (Nat.le_refl _) _
      have hS0 : LrS cs B w.heap.size N1 (.string nm) (.slice (some ⟨b0, off, none⟩) N1 cap) w W2 [] := by
        refine ⟨?_, List.nodup_nil, (fun s hs => (by cases hs)), (hwW.cell (by show w.heap.size < _; omega)).trans q0, (hwW.cell (by show w.heap.size < _; omega)).trans q1, hb1.trans (hwW.mono hb1.size), by rw [← hW2]; simp; omega⟩
        have h := BRow.made w1 N1
        rw [hW2, hB] at h
        have e : seenB cs [] = fun _ => false := by funext j; unfold seenB; cases cs[j]? <;> simp
        rw [e]; exact h
      have hst : LrO cs (l.map (·.l)) B w.heap.size N1 (.string nm) (.slice (some ⟨b0, off, none⟩) N1 cap) ans w (.int .i64 0) (.int .i64 0) W2 := ⟨0, [], 0, Nat.zero_le _, rfl, rfl, hS0, by rw [List.drop_zero]; exact hans, by omega, by omega⟩
      have hBw : w.heap.size < B := by omega
      clear hokH hwW hS0 hans
      have h1H := Lib.hid h1
      clear h1
      have h2H := Lib.hid h2
      clear h2
      have h3H := Lib.hid h3
      clear h3
      have h4H := Lib.hid h4
      clear h4
      have hstH := Lib.hid hst
      clear hst
      have hb1H := Lib.hid hb1
      clear hb1
      go_wp2_with fail
      clear hW2 hmk q0 q1
      go_loopw [8, 29] (fun vm vj wr => LrO cs (l.map (·.l)) B w.heap.size N1 (.string nm) (.slice (some ⟨b0, off, none⟩) N1 cap) ans w vm vj wr) (fun _ vj _ => rn - (intOf vj).toNat)
      case atStart => exact hstH.out
      case round =>
        clear hstH
        obtain ⟨j, seen, most, hj, rfl, rfl, hS, ha, hm0, hm1⟩ := hrel
        rw [List.length_map] at hj
        have hrl := hrlH.out
        by_cases hltj : j < rn
        · obtain ⟨y, hy⟩ : ∃ y, l[j]? = some y := ⟨l[j]'(by omega), List.getElem?_eq_getElem _⟩
          obtain ⟨rb, ro, hrA, hrc⟩ := hrH.out.2.1 (by omega)
          subst hrA
          have hyk := hrH.out.2.2 y (List.mem_of_getElem? hy)
          have u0 : w.cell? ⟨rb, ro + j, none⟩ = some (.slice y.A y.n y.cap) := by have := hrc j y hy 0 _ rfl; simpa [RSl] using this
          have u1 := (hS.be.cell (cell?_lt u0)).trans u0
          have hym : (l.map (·.l))[j]? = some y.l := by rw [List.getElem?_map, hy]; rfl
          rw [drop_cons hym] at ha
          have hyl := hyk.1.1
          have hst2 : LrI cs y.l ((l.map (·.l)).drop (j + 1)) most B w.heap.size N1 (.string nm) (.slice (some ⟨b0, off, none⟩) N1 cap) ans w (.int .i64 0) (.int .i64 0) wr := by
            refine ⟨0, seen, 0, Nat.zero_le _, rfl, rfl, hS, ?_, by omega, by omega⟩
            rw [List.drop_zero, ← ha]
            unfold goOn
            rw [longO]
            cases longI cs y.l seen 0 <;> rfl
          have hyn : y.n ≤ 9223372036854775807 := Nat.le_trans hyk.2.1 hyk.2.2.1
          clear u0
          obtain ⟨wa, rfl⟩ : ∃ W, W = wr := ⟨_, rfl⟩
          have hykH := Lib.hid hyk
          clear hyk
          have hyH := Lib.hid hy
          clear hy
          have hymH := Lib.hid hym
          clear hym
          have hylH := Lib.hid hyl
          clear hyl
          have hst2H := Lib.hid hst2
          clear hst2
          have haH := Lib.hid ha
          clear ha
          have hSH := Lib.hid hS
          clear hS
          have hrcH := Lib.hid hrc
          clear hrc
          have hrlH := Lib.hid hrl
          clear hrl
          have hjH := Lib.hid hj
          clear hj
          go_wp2_with fail
          go_loopw [11, 35] (fun vs vi wr => LrI cs y.l ((l.map (·.l)).drop (j + 1)) most B w.heap.size N1 (.string nm) (.slice (some ⟨b0, off, none⟩) N1 cap) ans w vs vi wr) (fun _ vi _ => y.n - (intOf vi).toNat)
          case atStart => exact hst2H.out
          case round =>
            clear hst2H
            obtain ⟨i, seen2, sum, hi, rfl, rfl, hS2, ha2, hs0, hs1⟩ := hrel
            have hyl := hylH.out
            have hle := hS2.seen_le
            have hcl := hllH.out
            by_cases hlti : i < y.n
            · obtain ⟨s, hs⟩ : ∃ s, y.l[i]? = some s := ⟨y.l[i]'(by omega), List.getElem?_eq_getElem _⟩
              obtain ⟨yb, yo, hyA, _⟩ := hykH.out.1.2.1 (by omega)
              have v0 : w.cell? ⟨yb, yo + i, none⟩ = some (.string s) := cell_StrL (by rw [← hyA]; exact hykH.out.1) hs
              have v1 := (hS2.be.cell (cell?_lt v0)).trans v0
              rw [drop_cons hs, longI] at ha2
              have w1 : (0 : Int) ≤ (i : Int) := by omega
              have t0 := hS2.c0
              have t1 := hS2.c1
              have hok2 : (RSl RTestCase).ok wr ⟨some ⟨b0, off, none⟩, N1, cap, cs⟩ := (RSl RTestCase).mono _ _ _ hS2.be hlH.out
              clear v0
              rw [hyA]
              rcases atOf_spec cs s 0 with ⟨hso, hat⟩ | ⟨jj, cx, hjj, hcn, hso, hat⟩
              · rw [hso] at ha2
                have hans2 : ans = (0, 9) := ha2.symm
                have hbe := hS2.be
                clear hyl hle hcl ha2
                have hS2H := Lib.hid hS2
                clear hS2
                have hsH := Lib.hid hs
                clear hs
                have hyAH := Lib.hid hyA
                clear hyA
                have hsoH := Lib.hid hso
                clear hso
                have hatH := Lib.hid hat
                clear hat
                have hans2H := Lib.hid hans2
                clear hans2
                have hbeH := Lib.hid hbe
                clear hbe
                have hs0H := Lib.hid hs0
                clear hs0
                have hs1H := Lib.hid hs1
                clear hs1
                have hiH := Lib.hid hi
                clear hi
                have hok2H := Lib.hid hok2
                clear hok2
                go_wp2_with fail
                refine (hcasH.out s _ hok2H.out (by omega) (-1) hatH.out).mono ?_
                rintro e w5 ⟨rfl, hw5⟩
                have hb5 := hbeH.out.trans (hw5.mono hbeH.out.size)
                clear hw5
                have hb5H := Lib.hid hb5
                clear hb5
                go_wp2
                go_ret2
                rw [hans2H.out]
                exact ⟨rfl, hb5H.out⟩
              · rw [hso] at ha2
                rw [Nat.zero_add] at hat
                have hjl : jj < N1 := by have := (List.getElem?_eq_some_iff.1 hjj).1; omega
                obtain ⟨z0, z1⟩ := h3H.out cx (List.mem_of_getElem? hjj)
                have hdec : seenB cs seen2 jj = true ↔ s ∈ seen2 := by unfold seenB; rw [hjj]; simp [hcn]
                have x1 : (0 : Int) ≤ (jj : Int) := by omega
                have x2 : (jj : Int) < (N1 : Int) := by omega
                by_cases hsn : s ∈ seen2
                · simp only [if_pos hsn] at ha2
                  have hans2 : ans = (0, 7) := ha2.symm
                  have hbe := hS2.be
                  have hsb1 : seenB cs seen2 jj = true := hdec.2 hsn
                  clear hyl hle hcl ha2
                  have hS2H := Lib.hid hS2
                  clear hS2
                  have hsH := Lib.hid hs
                  clear hs
                  have hyAH := Lib.hid hyA
                  clear hyA
                  have hsoH := Lib.hid hso
                  clear hso
                  have hatH := Lib.hid hat
                  clear hat
                  have hans2H := Lib.hid hans2
                  clear hans2
                  have hbeH := Lib.hid hbe
                  clear hbe
                  have hs0H := Lib.hid hs0
                  clear hs0
                  have hs1H := Lib.hid hs1
                  clear hs1
                  have hiH := Lib.hid hi
                  clear hi
                  have hok2H := Lib.hid hok2
                  clear hok2
                  have hjjH := Lib.hid hjj
                  clear hjj
                  have hcnH := Lib.hid hcn
                  clear hcn
                  have hdecH := Lib.hid hdec
                  clear hdec
                  have hsnH := Lib.hid hsn
                  clear hsn
                  have hsb1H := Lib.hid hsb1
                  clear hsb1
                  go_wp2_with fail
                  refine (hcasH.out s _ hok2H.out (by omega) jj hatH.out).mono ?_
                  rintro e w5 ⟨rfl, hw5⟩
                  have hb5 := hbeH.out.trans (hw5.mono hbeH.out.size)
                  have y0 := ((hS2H.out.below hw5).row jj hjl).1
                  rw [hsb1H.out] at y0
                  clear hw5
                  have hb5H := Lib.hid hb5
                  clear hb5
                  go_wp2
                  go_ret2
                  rw [hans2H.out]
                  exact ⟨rfl, hb5H.out⟩
                · simp only [if_neg hsn] at ha2
                  have hsb1 : seenB cs seen2 jj = false := by
                    cases h : seenB cs seen2 jj with
                    | false => rfl
                    | true => exact absurd (hdec.1 h) hsn
                  have hsm : s ∈ cs.map (·.name) := by rw [← hcn]; exact List.mem_map_of_mem (List.mem_of_getElem? hjj)
                  have hslt : seen2.length < 500 := by
                    have := nodup_len (l := s :: seen2) (m := cs.map (·.name)) (List.nodup_cons.2 ⟨hsn, hS2.nd⟩) (fun q hq => by
                      rcases List.mem_cons.1 hq with rfl | hq
                      · exact hsm
                      · exact hS2.mem q hq)
                    rw [List.length_map, List.length_cons] at this
                    omega
                  have hsb : sum ≤ 50000000 := by omega
                  have R0 : ∀ w5, Below wr.heap.size wr w5 → LrI cs y.l ((l.map (·.l)).drop (j + 1)) most B w.heap.size N1 (.string nm) (.slice (some ⟨b0, off, none⟩) N1 cap) ans w (.int .i64 (sum + cx.seconds)) (.int .i64 ((i : Int) + 1)) (w5.setCell ⟨B, jj, none⟩ (.bool true)) := fun w5 h5 => by
                    have h6 := hS2.below h5
                    have hrow := h6.row.set (k := jj) true
                    rw [seenB_put h4H.out hjj, hcn] at hrow
                    refine ⟨i + 1, s :: seen2, sum + cx.seconds, by omega, by go_num, rfl, ⟨hrow, List.nodup_cons.2 ⟨hsn, h6.nd⟩, fun q hq => ?_, (World.cell?_setCell_other _ _ _ _ (by simp <;> omega)).trans h6.c0, (World.cell?_setCell_other _ _ _ _ (by simp <;> omega)).trans h6.c1, h6.be.setCell (p := ⟨B, jj, none⟩) (by show w.heap.size ≤ B; omega) _, by have := h6.lt; simpa using this⟩, ha2, by omega, by rw [List.length_cons]; omega⟩
                    rcases List.mem_cons.1 hq with rfl | hq
                    · exact hsm
                    · exact hS2.mem q hq
                  clear hyl hle hcl ha2
                  have hS2H := Lib.hid hS2
                  clear hS2
                  have hsH := Lib.hid hs
                  clear hs
                  have hyAH := Lib.hid hyA
                  clear hyA
                  have hsoH := Lib.hid hso
                  clear hso
                  have hatH := Lib.hid hat
                  clear hat
                  have hs1H := Lib.hid hs1
                  clear hs1
                  have hiH := Lib.hid hi
                  clear hi
                  have hok2H := Lib.hid hok2
                  clear hok2
                  have hjjH := Lib.hid hjj
                  clear hjj
                  have hcnH := Lib.hid hcn
                  clear hcn
                  have hdecH := Lib.hid hdec
                  clear hdec
                  have hsnH := Lib.hid hsn
                  clear hsn
                  have hsb1H := Lib.hid hsb1
                  clear hsb1
                  have R0H := Lib.hid R0
                  clear R0
                  have hsmH := Lib.hid hsm
                  clear hsm
                  go_wp2_with fail
                  refine (hcasH.out s _ hok2H.out (by omega) jj hatH.out).mono ?_
                  rintro e w5 ⟨rfl, hw5⟩
                  have h6 := hS2H.out.below hw5
                  have y0 := (h6.row jj hjl).1
                  have y1 := (h6.row jj hjl).2
                  rw [hsb1H.out] at y0
                  have t3 := h6.c1
                  obtain ⟨_, y2⟩ := cells_TestCase (hslH.out.below h6.be) hjjH.out
                  have R1 := R0H.out w5 hw5
                  clear hw5 h6 t0 t1 v1
                  have R1H := Lib.hid R1
                  clear R1
                  go_wp2
                  refine ⟨?rel, ?measure⟩
                  case measure => (simp [intOf]; omega)
                  case rel => first | exact R1H.out | exact ⟨rfl, R1H.out⟩ | ((try refine ⟨rfl, ?_⟩); (repeat apply Exists.intro); refine ⟨R1H.out, ?_⟩; ((repeat' apply And.intro) <;> rfl))
            · obtain rfl : i = y.n := by omega
              rw [show y.l.drop y.n = [] from List.drop_eq_nil_of_le (by omega), longI] at ha2
              have hsb : sum ≤ 50000000 := by omega
              have R1 : LrO cs (l.map (·.l)) B w.heap.size N1 (.string nm) (.slice (some ⟨b0, off, none⟩) N1 cap) ans w (.int .i64 (max most sum)) (.int .i64 ((j : Int) + 1)) wr := ⟨j + 1, seen2, max most sum, by rw [List.length_map]; have := hrlH.out; omega, by go_num, rfl, hS2, (by
                have e : (if most < sum then sum else most) = max most sum := by split <;> omega
                rw [← e]; exact ha2), by omega, by omega⟩
              clear hyl hle hcl ha2
              have hS2H := Lib.hid hS2
              clear hS2
              have hs0H := Lib.hid hs0
              clear hs0
              have hs1H := Lib.hid hs1
              clear hs1
              have hiH := Lib.hid hi
              clear hi
              have R1H := Lib.hid R1
              clear R1
              go_wp2
              refine ⟨?rel, ?measure⟩
              case measure => (simp [intOf]; omega)
              case rel => first | exact R1H.out | exact ⟨rfl, R1H.out⟩ | ((try refine ⟨rfl, ?_⟩); (repeat apply Exists.intro); refine ⟨R1H.out, ?_⟩; ((repeat' apply And.intro) <;> rfl))
        · obtain rfl : j = rn := by omega
          rw [List.drop_eq_nil_of_le (by rw [List.length_map]; omega), longO] at ha
          have hbe := hS.be
          have hcl := hllH.out
          have hall := seen_all (cs := cs) h4H.out hS.nd hS.mem
          have hex : (∃ k, k < N1 ∧ seenB cs seen k = false) ↔ seen.length < cs.length := by
            rw [hall]
            constructor
            · rintro ⟨k, hk, h⟩
              obtain ⟨x, hx⟩ : ∃ x, cs[k]? = some x := ⟨cs[k]'(by omega), List.getElem?_eq_getElem _⟩
              refine ⟨x, List.mem_of_getElem? hx, ?_⟩
              unfold seenB at h; rw [hx] at h; simpa using h
            · rintro ⟨x, hx, h⟩
              obtain ⟨k, hk⟩ := List.getElem?_of_mem hx
              refine ⟨k, by have := (List.getElem?_eq_some_iff.1 hk).1; omega, ?_⟩
              unfold seenB; rw [hk]; simpa using h
          by_cases hfew : seen.length < cs.length
          · rw [if_pos hfew] at ha
            have hhas := has_false B N1 N1 (seenB cs seen) wr hS.row (by omega) true ⟨fun _ => hex.2 hfew, fun _ => rfl⟩
            subst ha
            clear hrl hj
            have hSH := Lib.hid hS
            clear hS
            have hbeH := Lib.hid hbe
            clear hbe
            have hclH := Lib.hid hcl
            clear hcl
            have hfewH := Lib.hid hfew
            clear hfew
            have hallH := Lib.hid hall
            clear hall
            have hexH := Lib.hid hex
            clear hex
            have hhasH := Lib.hid hhas
            clear hhas
            go_wp2_with fail
            refine hhasH.out.mono ?_
            rintro e w5 ⟨rfl, hw5⟩
            rw [hw5]
            clear hw5
            go_wp2
            go_ret2
            exact ⟨rfl, hbeH.out⟩
          · rw [if_neg hfew] at ha
            have hhas := has_false B N1 N1 (seenB cs seen) wr hS.row (by omega) false ⟨(fun h => (by cases h)), fun h => absurd (hex.1 h) hfew⟩
            subst ha
            clear hrl hj
            have hSH := Lib.hid hS
            clear hS
            have hbeH := Lib.hid hbe
            clear hbe
            have hclH := Lib.hid hcl
            clear hcl
            have hfewH := Lib.hid hfew
            clear hfew
            have hallH := Lib.hid hall
            clear hall
            have hexH := Lib.hid hex
            clear hex
            have hhasH := Lib.hid hhas
            clear hhas
            go_wp2_with fail
            refine hhasH.out.mono ?_
            rintro e w5 ⟨rfl, hw5⟩
            rw [hw5]
            clear hw5
            go_wp2
            go_ret2
            exact ⟨rfl, hbeH.out⟩
    · rw [if_neg h100] at hans
      subst hans
      clear hokH h1 h2 h3 h4 q0 q1
      have hb1H := Lib.hid hb1
      clear hb1
      go_wp2
      go_ret2
      exact ⟨rfl, hb1H.out⟩
  · have hcb : (c != 0) = true := by simpa using hc
    rw [if_neg hc] at hans
    subst hans
    clear hokH q0 q1
    have hb1H := Lib.hid hb1
    clear hb1
    go_wp2
    go_ret2
    exact ⟨rfl, hb1H.out⟩
end Go.Proofs.YtpcgfodiikljdaaDoor.C10
