/-
  Longest of the program.
-/
import Derived.Test.YtpcgfodiikljdaaDoorChkTC10
import Derived.Test.YtpcgfodiikljdaaDoorLoD
import Derived.Test.YtpcgfodiikljdaaDoorRange
import Derived.Test.YtpcgfodiikljdaaDoorRws
import Derived.Test.YtpcgfodiikljdaaDoorShE
namespace Go.Proofs.YtpcgfodiikljdaaDoor.C10
open Go.ChangeShapes Go.WideShapes Go.Deep Go.RowKit Go.Maps
set_option linter.unusedVariables false
set_option linter.unusedSimpArgs false

theorem cell_StrL {w : World} {b off m k : Nat} {l : List ByteArray} {x : ByteArray} (h : SlAt RStr w (some ⟨b, off, none⟩) m l) (hx : l[k]? = some x) : w.cell? ⟨b, off + k, none⟩ = some (.string x) := by
  have hk := (List.getElem?_eq_some_iff.1 hx).1
  obtain ⟨b', off', hA, hc⟩ := h.2.1 (by have := h.1; omega)
  obtain ⟨rfl, rfl⟩ : b = b' ∧ off = off' := by simpa using hA
  have := hc k x hx 0 _ rfl
  simpa [RStr] using this
theorem secOf_case {cs : List TestCase} {s : ByteArray} {z : Int} (h : secOf cs s = some z) : ∃ c ∈ cs, c.name = s ∧ c.seconds = z := by
  unfold secOf at h
  cases hf : cs.find? (fun c => decide (c.name = s)) with
  | none => rw [hf] at h; cases h
  | some c =>
    rw [hf] at h
    have h1 := List.find?_some hf
    simp only [decide_eq_true_eq] at h1
    exact ⟨c, List.mem_of_find?_eq_some hf, h1, by simpa using h⟩
noncomputable def KS : KD Tryd.prog 9 ByteArray := KStr Tryd.underlying9
def vI (n : Int) : Value := .int .i64 n
def vB (b : Bool) : Value := .bool b
theorem zI (w : World) : (zeroValue 3).run Tryd.prog w = .ok (vI 0) w := by kernel_rfl
theorem zB (w : World) : (zeroValue 4).run Tryd.prog w = .ok (vB false) w := by kernel_rfl
/-- the greatest sum and the fault -/
noncomputable def longF (t : Test) (rows : List (List ByteArray)) : Int × Int :=
  if testF t = 0 then (if rows.length ≤ 100 then longO t.cases.l rows [] 0 else (0, 2)) else (0, testF t)
noncomputable def goOn (cs : List TestCase) (rest : List (List ByteArray)) (most : Int) : Except Int (List ByteArray × Int) → Int × Int
  | .error e => (0, e)
  | .ok q => longO cs rest q.1 (if most < q.2 then q.2 else most)
open Classical in
noncomputable def seenF (seen : List ByteArray) (s : ByteArray) : Option Bool := if s ∈ seen then some true else none
def TkRel (cs : List TestCase) (bt bn T : Nat) (sv : Value) (w0 : World) (i : Value) (wr : World) : Prop :=
  ∃ k : Nat, k ≤ cs.length ∧ i = .int .i64 k ∧ TMap KS vI wr bt (secOf (cs.take k)) k ∧ TMap KS vB wr bn (fun _ => none) 0 ∧ wr.cell? ⟨T, 1, none⟩ = some sv ∧ Below w0.heap.size w0 wr ∧ bt < wr.heap.size ∧ bn < wr.heap.size
structure LgS (cs : List TestCase) (bt bn T : Nat) (sv : Value) (w0 wr : World) (seen : List ByteArray) : Prop where
  tk : TMap KS vI wr bt (secOf cs) cs.length
  sn : TMap KS vB wr bn (seenF seen) seen.length
  nd : seen.Nodup
  mem : ∀ s ∈ seen, s ∈ cs.map (·.name)
  cell : wr.cell? ⟨T, 1, none⟩ = some sv
  be : Below w0.heap.size w0 wr
def LgO (cs : List TestCase) (rows : List (List ByteArray)) (bt bn T : Nat) (sv : Value) (ans : Int × Int) (w0 : World) (vm vj : Value) (wr : World) : Prop :=
  ∃ (j : Nat) (seen : List ByteArray) (most : Int), j ≤ rows.length ∧ vj = .int .i64 j ∧ vm = .int .i64 most ∧ LgS cs bt bn T sv w0 wr seen ∧ longO cs (rows.drop j) seen most = ans ∧ 0 ≤ most ∧ most ≤ 50000000
def LgI (cs : List TestCase) (row : List ByteArray) (rest : List (List ByteArray)) (most : Int) (bt bn T : Nat) (sv : Value) (ans : Int × Int) (w0 : World) (vs vi : Value) (wr : World) : Prop :=
  ∃ (i : Nat) (seen : List ByteArray) (sum : Int), i ≤ row.length ∧ vi = .int .i64 i ∧ vs = .int .i64 sum ∧ LgS cs bt bn T sv w0 wr seen ∧ goOn cs rest most (longI cs (row.drop i) seen sum) = ans ∧ 0 ≤ sum ∧ sum ≤ 100000 * (seen.length : Int)
theorem LgS.look {cs : List TestCase} {bt bn T : Nat} {sv : Value} {w0 wr : World} {seen : List ByteArray} (h : LgS cs bt bn T sv w0 wr seen) {s : ByteArray} (hs : s.size ≤ maxLen) :
    (Instr.lookup 53 (.map (some bt)) (.string s) true).run Tryd.prog wr = .ok (.tuple #[.int .i64 ((secOf cs s).getD 0), .bool (secOf cs s).isSome]) wr ∧
    (Instr.lookup 54 (.map (some bn)) (.string s) false).run Tryd.prog wr = .ok (.bool ((seenF seen s).getD false)) wr :=
  ⟨(h.tk.look (t := 53) Tryd.underlying53 (zI wr) injInt (x := s) hs).2, (h.sn.look (t := 54) Tryd.underlying54 (zB wr) injBool (x := s) hs).1⟩
theorem LgS.seen_le {cs : List TestCase} {bt bn T : Nat} {sv : Value} {w0 wr : World} {seen : List ByteArray} (h : LgS cs bt bn T sv w0 wr seen) : seen.length ≤ cs.length := by
  have := nodup_len h.nd h.mem
  rwa [List.length_map] at this
theorem seenF_put (seen : List ByteArray) (s : ByteArray) : upd (seenF seen) s true = seenF (s :: seen) := by
  funext x
  unfold upd seenF
  by_cases e : x = s
  · subst e; rw [if_pos rfl, if_pos List.mem_cons_self]
  · rw [if_neg e]
    by_cases h : x ∈ seen
    · rw [if_pos h, if_pos (List.mem_cons_of_mem _ h)]
    · rw [if_neg h, if_neg (fun h2 => by rcases List.mem_cons.1 h2 with h3 | h3; exact e h3; exact h h3)]
set_option maxRecDepth 100000 in
set_option maxHeartbeats 16000000 in
theorem longest_any (t : Test) (rs : SlD (SlD ByteArray)) (w : World) (hm : MaxLenAt w) (hl : (RSl RTestCase).ok w t.cases) (hnm : t.name.size ≤ maxLen) (hr : SlAt (RSl RStr) w rs.A rs.n rs.l) (hrn : rs.n ≤ maxLen) (ans : Int × Int) (hans : longF t (rs.l.map (·.l)) = ans) :
    Calls Tryd.prog 7 #[.agg #[.string t.name, .slice t.cases.A t.cases.n t.cases.cap], .slice rs.A rs.n rs.cap] w fun e w' => e = .returned (.tuple #[.int .i64 ans.1, .int .i64 ans.2]) ∧ Below w.heap.size w w' := by
  obtain ⟨c, hF⟩ : ∃ c, testF t = c := ⟨_, rfl⟩
  have hcon := fun w => checkTest_any t w
  have hok := @testF_ok t
  unfold longF at hans
  rw [hF] at hans hok
  obtain ⟨nm, A, N1, cap, cs⟩ := t
  obtain ⟨rA, rn, rcap, l⟩ := rs
  simp only at hl hnm hcon hok hans hr hrn ⊢
  have hsl := hl.1
  have hll := hsl.1
  have hrl := hr.1
  rw [List.length_map, hrl] at hans
  have hrn2 : rn ≤ 9223372036854775807 := hrn
  have hba := (Below.refl w.heap.size w).alloc (Nat.le_refl _) (.cells #[.string nm, .slice A N1 cap] 24)
  have hconH := Lib.hid hcon
  clear hcon
  have hokH := Lib.hid hok
  clear hok
  have hlH := Lib.hid hl
  clear hl
  have hslH := Lib.hid hsl
  clear hsl
  have hllH := Lib.hid hll
  clear hll
  have hmH := Lib.hid hm
  clear hm
  have hFH := Lib.hid hF
  clear hF
  have hbaH := Lib.hid hba
  clear hba
  have hrH := Lib.hid hr
  clear hr
  have hrlH := Lib.hid hrl
  clear hrl
  have hmk := @run_makeMap Tryd.prog
  go_enter Tryd.func7, Tryd.ntmps7
  go_wp2_with fail
  refine (hconH.out _ (hmH.out.below hbaH.out) ⟨hslH.out.below hbaH.out, hlH.out.2⟩ hnm c hFH.out).mono ?_
  rintro e w1 ⟨rfl, hw1⟩
  have q0 : w1.cell? ⟨w.heap.size, 0, none⟩ = some (.string nm) := (hw1.cell (by simp)).trans (cell_new _ _ _ 0)
  have q1 : w1.cell? ⟨w.heap.size, 1, none⟩ = some (.slice A N1 cap) := (hw1.cell (by simp)).trans (cell_new _ _ _ 1)
  have hb1 := hbaH.out.trans (hw1.mono hbaH.out.size)
  have hs1 : w.heap.size + 1 ≤ w1.heap.size := by have := hw1.size; simp at this; omega
  clear hw1 q0
  by_cases hc : c = 0
  · subst hc
    obtain ⟨h1, h2, h3, h4⟩ := hokH.out rfl
    rw [if_pos rfl] at hans
    by_cases h100 : rn ≤ 100
    · rw [if_pos h100] at hans
      obtain ⟨b0, off, hA, _⟩ := hslH.out.2.1 (by have := hllH.out; omega)
      subst hA
      have hN3 : N1 ≤ 500 := by have := hllH.out; omega
      obtain ⟨bt, hbt⟩ : ∃ b, w1.heap.size = b := ⟨_, rfl⟩
      obtain ⟨bn, hbn⟩ : ∃ b, bt + 1 = b := ⟨_, rfl⟩
      obtain ⟨W2, hW2⟩ : ∃ X, (w1.alloc (.map #[] 0)).alloc (.map #[] 0) = X := ⟨_, rfl⟩
      have hwW : Below w1.heap.size w1 W2 := by rw [← hW2]; exact ((Below.refl _ _).alloc (Nat.le_refl _) _).alloc (by simp) _
      have htk : TkRel cs bt bn w.heap.size (.slice (some ⟨b0, off, none⟩) N1 cap) w (.int .i64 0) W2 := by
        refine ⟨0, Nat.zero_le _, rfl, ?_, ?_, (hwW.cell (by show w.heap.size < _; omega)).trans q1, hb1.trans (hwW.mono hb1.size), by rw [← hW2]; simp; omega, by rw [← hW2]; simp; omega⟩
        · have := (TMap.made w1 KS vI).alloc (.map #[] 0)
          rw [hW2, hbt] at this
          exact this
        · have := TMap.made (w1.alloc (.map #[] 0)) KS vB
          rw [hW2, World.size_alloc, hbt, hbn] at this
          exact this
      have hq2 : W2.cell? ⟨w.heap.size, 1, none⟩ = some (.slice (some ⟨b0, off, none⟩) N1 cap) := htk.choose_spec.2.2.2.2.1
      clear hokH hwW q1 hb1
      have h1H := Lib.hid h1
      clear h1
      have h2H := Lib.hid h2
      clear h2
      have h3H := Lib.hid h3
      clear h3
      have h4H := Lib.hid h4
      clear h4
      have hansH := Lib.hid hans
      clear hans
      have htkH := Lib.hid htk
      clear htk
      go_wp2_with fail
      clear hW2 hmk
      go_loopw [32] (fun i wr => TkRel cs bt bn w.heap.size (.slice (some ⟨b0, off, none⟩) N1 cap) w i wr) (fun i _ => N1 - (intOf i).toNat)
      case atStart => exact htkH.out
      case round =>
        clear htkH hq2
        obtain ⟨k, hk, rfl, hT1, hT2, hce, hb, hlt1, hlt2⟩ := hrel
        have hkl : k ≤ N1 := by have := hllH.out; omega
        have hbs := hb.size
        by_cases hlt : k < N1
        · obtain ⟨x, hx⟩ : ∃ x, cs[k]? = some x := ⟨cs[k]'(by have := hllH.out; omega), List.getElem?_eq_getElem _⟩
          obtain ⟨c0, c1⟩ := cells_TestCase (hslH.out.below hb) hx
          have hxz : x.name.size ≤ maxLen := (hslH.out.2.2 x (List.mem_of_getElem? hx)).1
          have hba2 := (Below.refl wr.heap.size wr).alloc (Nat.le_refl _) (.cells #[.string x.name, .int .i64 x.seconds] 41)
          have hT1a := hT1.alloc (.cells #[.string x.name, .int .i64 x.seconds] 41)
          have hT2a := hT2.alloc (.cells #[.string x.name, .int .i64 x.seconds] 41)
          have hcea := (hba2.cell (cell?_lt hce)).trans hce
          have hba3 := hb.trans (hba2.mono hbs)
          have hnt : Names (cs.take k ++ [x]) := by rw [← take_snoc hx]; exact Names.take h4H.out _
          have hupd : upd (secOf (cs.take k)) x.name x.seconds = secOf (cs.take (k + 1)) := by
            rw [take_snoc hx]
            funext s
            rw [secOf_snoc hnt s]
            unfold upd
            rfl
          have hnone : secOf (cs.take k) x.name = none := secOf_snoc_new hnt
          have hbw : w.heap.size ≠ bt := by omega
          have R0 : ∀ w', TMap KS vI w' bt (upd (secOf (cs.take k)) x.name x.seconds) (if (secOf (cs.take k) x.name).isSome then k else k + 1) → (wr.alloc (.cells #[.string x.name, .int .i64 x.seconds] 41)).grownBy w' (some bt) →
              TkRel cs bt bn w.heap.size (.slice (some ⟨b0, off, none⟩) N1 cap) w (.int .i64 ((k : Int) + 1)) w' := fun w' h1 h2 => by
            rw [hupd, hnone] at h1
            exact ⟨k + 1, by have := hllH.out; omega, by go_num, h1, hT2a.kept h2 (fun e => by simp at e; omega), h2.cell hcea (fun e => by simp at e; omega), hba3.grown h2 hba3.size (fun b hb2 => by simp at hb2; omega), by have := h2.size; simp at this; omega, by have := h2.size; simp at this; omega⟩
          clear hce
          have hxH := Lib.hid hx
          clear hx
          have hbH := Lib.hid hb
          clear hb
          have hT1H := Lib.hid hT1
          clear hT1
          have hT2H := Lib.hid hT2
          clear hT2
          have hT1aH := Lib.hid hT1a
          clear hT1a
          have hT2aH := Lib.hid hT2a
          clear hT2a
          have hceaH := Lib.hid hcea
          clear hcea
          have hba2H := Lib.hid hba2
          clear hba2
          have hba3H := Lib.hid hba3
          clear hba3
          have hntH := Lib.hid hnt
          clear hnt
          have hupdH := Lib.hid hupd
          clear hupd
          have hnoneH := Lib.hid hnone
          clear hnone
          have R0H := Lib.hid R0
          clear R0
          go_wp2_with (at_mapUpdate; go_loud (refine wpList_tstore rfl (.tmp 36) (.tmp 38) (.tmp 40) 53 rfl Tryd.underlying53 injInt rfl hT1aH.out (by simp only [maxLen]; omega) x.name rfl hxz x.seconds rfl ?_); intro w6 hm6 hg6; have R1 := R0H.out w6 hm6 hg6; have R1H := Lib.hid R1; clear R1 hm6 hg6)
          refine ⟨?rel, ?measure⟩
          case measure => (simp [intOf]; omega)
          case rel => first | exact R1H.out | exact ⟨rfl, R1H.out⟩ | ((try refine ⟨rfl, ?_⟩); (repeat apply Exists.intro); refine ⟨R1H.out, ?_⟩; ((repeat' apply And.intro) <;> rfl))
        · obtain rfl : k = N1 := by omega
          obtain ⟨N1, rfl⟩ : ∃ n, n = k := ⟨_, rfl⟩
          have htk0 : cs.take N1 = cs := List.take_of_length_le (by have := hllH.out; omega)
          rw [htk0] at hT1
          have hS0 : LgS cs bt bn w.heap.size (.slice (some ⟨b0, off, none⟩) N1 cap) w wr [] := ⟨by rw [hllH.out]; exact hT1, hT2.congr (fun s _ => by simp [seenF]), List.nodup_nil, (fun s hs => (by cases hs)), hce, hb⟩
          have hst : LgO cs (l.map (·.l)) bt bn w.heap.size (.slice (some ⟨b0, off, none⟩) N1 cap) ans w (.int .i64 0) (.int .i64 0) wr := ⟨0, [], 0, Nat.zero_le _, rfl, rfl, hS0, by rw [List.drop_zero]; exact hansH.out, by omega, by omega⟩
          clear hT1 hT2 hce hb hS0 hansH
          have hstH := Lib.hid hst
          clear hst
          have htk0H := Lib.hid htk0
          clear htk0
          go_wp2_with fail
          go_loopw [11, 44] (fun vm vj wr => LgO cs (l.map (·.l)) bt bn w.heap.size (.slice (some ⟨b0, off, none⟩) N1 cap) ans w vm vj wr) (fun _ vj _ => rn - (intOf vj).toNat)
          case atStart => exact hstH.out
          case round =>
            clear hstH
            obtain ⟨j, seen, most, hj, rfl, rfl, hS, ha, hm0, hm1⟩ := hrel
            rw [List.length_map] at hj
            have hrl := hrlH.out
            by_cases hltj : j < rn
            · obtain ⟨y, hy⟩ : ∃ y, l[j]? = some y := ⟨l[j]'(by omega), List.getElem?_eq_getElem _⟩
              obtain ⟨rb, ro, hrA, hrc⟩ := hrH.out.2.1 (by omega)
              subst hrA
              have hyk := hrH.out.2.2 y (List.mem_of_getElem? hy)
              have u0 : w.cell? ⟨rb, ro + j, none⟩ = some (.slice y.A y.n y.cap) := by have := hrc j y hy 0 _ rfl; simpa [RSl] using this
              have u1 := (hS.be.cell (cell?_lt u0)).trans u0
              have hym : (l.map (·.l))[j]? = some y.l := by rw [List.getElem?_map, hy]; rfl
              rw [drop_cons hym] at ha
              have hyl := hyk.1.1
              have hst2 : LgI cs y.l ((l.map (·.l)).drop (j + 1)) most bt bn w.heap.size (.slice (some ⟨b0, off, none⟩) N1 cap) ans w (.int .i64 0) (.int .i64 0) wr := by
                refine ⟨0, seen, 0, Nat.zero_le _, rfl, rfl, hS, ?_, by omega, by omega⟩
                rw [List.drop_zero, ← ha]
                unfold goOn
                rw [longO]
                cases longI cs y.l seen 0 <;> rfl
              have hyn : y.n ≤ 9223372036854775807 := Nat.le_trans hyk.2.1 hyk.2.2.1
              clear u0
              obtain ⟨wa, rfl⟩ : ∃ W, W = wr := ⟨_, rfl⟩
              have hykH := Lib.hid hyk
              clear hyk
              have hyH := Lib.hid hy
              clear hy
              have hymH := Lib.hid hym
              clear hym
              have hylH := Lib.hid hyl
              clear hyl
              have hst2H := Lib.hid hst2
              clear hst2
              have haH := Lib.hid ha
              clear ha
              have hSH := Lib.hid hS
              clear hS
              have hrcH := Lib.hid hrc
              clear hrc
              have hrlH := Lib.hid hrl
              clear hrl
              have hjH := Lib.hid hj
              clear hj
              go_wp2_with fail
              go_loopw [14, 50] (fun vs vi wr => LgI cs y.l ((l.map (·.l)).drop (j + 1)) most bt bn w.heap.size (.slice (some ⟨b0, off, none⟩) N1 cap) ans w vs vi wr) (fun _ vi _ => y.n - (intOf vi).toNat)
              case atStart => exact hst2H.out
              case round =>
                clear hst2H
                obtain ⟨i, seen2, sum, hi, rfl, rfl, hS2, ha2, hs0, hs1⟩ := hrel
                have hyl := hylH.out
                have hle := hS2.seen_le
                have hcl := hllH.out
                by_cases hlti : i < y.n
                · obtain ⟨s, hs⟩ : ∃ s, y.l[i]? = some s := ⟨y.l[i]'(by omega), List.getElem?_eq_getElem _⟩
                  obtain ⟨yb, yo, hyA, _⟩ := hykH.out.1.2.1 (by omega)
                  have v0 : w.cell? ⟨yb, yo + i, none⟩ = some (.string s) := cell_StrL (by rw [← hyA]; exact hykH.out.1) hs
                  have v1 := (hS2.be.cell (cell?_lt v0)).trans v0
                  have hsz : s.size ≤ maxLen := hykH.out.1.2.2 s (List.mem_of_getElem? hs)
                  obtain ⟨lk1, lk2⟩ := hS2.look hsz
                  rw [drop_cons hs, longI] at ha2
                  have w1 : (0 : Int) ≤ (i : Int) := by omega
                  clear v0
                  rw [hyA]
                  cases hso : secOf cs s with
                  | none =>
                    rw [hso] at lk1 ha2
                    have hans2 : ans = (0, 9) := ha2.symm
                    have hbe := hS2.be
                    clear hyl hle hcl ha2 lk2
                    have hS2H := Lib.hid hS2
                    clear hS2
                    have hsH := Lib.hid hs
                    clear hs
                    have hyAH := Lib.hid hyA
                    clear hyA
                    have hsoH := Lib.hid hso
                    clear hso
                    have hans2H := Lib.hid hans2
                    clear hans2
                    have hbeH := Lib.hid hbe
                    clear hbe
                    have hs0H := Lib.hid hs0
                    clear hs0
                    have hs1H := Lib.hid hs1
                    clear hs1
                    have hiH := Lib.hid hi
                    clear hi
                    go_wp2
                    go_ret2
                    rw [hans2H.out]
                    exact ⟨rfl, hbeH.out⟩
                  | some z =>
                    rw [hso] at lk1 ha2
                    simp only [Option.getD_some, Option.isSome_some] at lk1
                    obtain ⟨cx, hcx, hcn, hcz⟩ : ∃ c ∈ cs, c.name = s ∧ c.seconds = z := secOf_case hso
                    obtain ⟨z0, z1⟩ := h3H.out cx hcx
                    rw [hcz] at z0 z1
                    by_cases hsn : s ∈ seen2
                    · have hsf : (seenF seen2 s).getD false = true := by simp [seenF, hsn]
                      rw [hsf] at lk2
                      simp only [if_pos hsn] at ha2
                      have hans2 : ans = (0, 7) := ha2.symm
                      have hbe := hS2.be
                      clear hyl hle hcl ha2 hsf
                      have hS2H := Lib.hid hS2
                      clear hS2
                      have hsH := Lib.hid hs
                      clear hs
                      have hyAH := Lib.hid hyA
                      clear hyA
                      have hsoH := Lib.hid hso
                      clear hso
                      have hans2H := Lib.hid hans2
                      clear hans2
                      have hbeH := Lib.hid hbe
                      clear hbe
                      have hs0H := Lib.hid hs0
                      clear hs0
                      have hs1H := Lib.hid hs1
                      clear hs1
                      have hiH := Lib.hid hi
                      clear hi
                      have hsnH := Lib.hid hsn
                      clear hsn
                      have hcxH := Lib.hid hcx
                      clear hcx
                      have hcnH := Lib.hid hcn
                      clear hcn
                      have hczH := Lib.hid hcz
                      clear hcz
                      go_wp2
                      go_ret2
                      rw [hans2H.out]
                      exact ⟨rfl, hbeH.out⟩
                    · have hsf : (seenF seen2 s).getD false = false := by simp [seenF, hsn]
                      rw [hsf] at lk2
                      simp only [if_neg hsn] at ha2
                      have hsm : s ∈ cs.map (·.name) := by rw [← hcn]; exact List.mem_map_of_mem hcx
                      have hslt : seen2.length < 500 := by
                        have := nodup_len (l := s :: seen2) (m := cs.map (·.name)) (List.nodup_cons.2 ⟨hsn, hS2.nd⟩) (fun q hq => by
                          rcases List.mem_cons.1 hq with rfl | hq
                          · exact hsm
                          · exact hS2.mem q hq)
                        rw [List.length_map, List.length_cons] at this
                        omega
                      have hsb : sum ≤ 50000000 := by omega
                      have R0 : ∀ w', TMap KS vB w' bn (upd (seenF seen2) s true) (if (seenF seen2 s).isSome then seen2.length else seen2.length + 1) → wr.grownBy w' (some bn) →
                          LgI cs y.l ((l.map (·.l)).drop (j + 1)) most bt bn w.heap.size (.slice (some ⟨b0, off, none⟩) N1 cap) ans w (.int .i64 (sum + z)) (.int .i64 ((i : Int) + 1)) w' := fun w' h1 h2 => by
                        have e1 : (seenF seen2 s).isSome = false := by simp [seenF, hsn]
                        rw [seenF_put, e1] at h1
                        refine ⟨i + 1, s :: seen2, sum + z, by omega, by go_num, rfl, ⟨hS2.tk.kept h2 (fun e => by simp at e; omega), h1, List.nodup_cons.2 ⟨hsn, hS2.nd⟩, fun q hq => ?_, h2.cell hS2.cell (fun e => by simp at e; omega), hS2.be.grown h2 hS2.be.size (fun b hb2 => by simp at hb2; omega)⟩, ha2, by omega, by rw [List.length_cons]; omega⟩
                        rcases List.mem_cons.1 hq with rfl | hq
                        · exact hsm
                        · exact hS2.mem q hq
                      have hsn2 := hS2.sn
                      clear hyl hle hcl hsf ha2
                      have hS2H := Lib.hid hS2
                      clear hS2
                      have hsH := Lib.hid hs
                      clear hs
                      have hyAH := Lib.hid hyA
                      clear hyA
                      have hsoH := Lib.hid hso
                      clear hso
                      have hs1H := Lib.hid hs1
                      clear hs1
                      have hiH := Lib.hid hi
                      clear hi
                      have hsnH := Lib.hid hsn
                      clear hsn
                      have hcxH := Lib.hid hcx
                      clear hcx
                      have hcnH := Lib.hid hcn
                      clear hcn
                      have hczH := Lib.hid hcz
                      clear hcz
                      have R0H := Lib.hid R0
                      clear R0
                      have hsmH := Lib.hid hsm
                      clear hsm
                      have hsn2H := Lib.hid hsn2
                      clear hsn2
                      go_wp2_with (at_mapUpdate; go_loud (refine wpList_tstore rfl (.tmp 65) (.tmp 66) (.const (.bool true)) 54 rfl Tryd.underlying54 injBool rfl hsn2H.out (by simp only [maxLen]; omega) s rfl hsz true rfl ?_); intro w6 hm6 hg6; have R1 := R0H.out w6 hm6 hg6; have R1H := Lib.hid R1; clear R1 hm6 hg6 lk1 lk2 v1)
                      refine ⟨?rel, ?measure⟩
                      case measure => (simp [intOf]; omega)
                      case rel => first | exact R1H.out | exact ⟨rfl, R1H.out⟩ | ((try refine ⟨rfl, ?_⟩); (repeat apply Exists.intro); refine ⟨R1H.out, ?_⟩; ((repeat' apply And.intro) <;> rfl))
                · obtain rfl : i = y.n := by omega
                  rw [show y.l.drop y.n = [] from List.drop_eq_nil_of_le (by omega), longI] at ha2
                  have hsb : sum ≤ 50000000 := by omega
                  have R1 : LgO cs (l.map (·.l)) bt bn w.heap.size (.slice (some ⟨b0, off, none⟩) N1 cap) ans w (.int .i64 (max most sum)) (.int .i64 ((j : Int) + 1)) wr := ⟨j + 1, seen2, max most sum, by rw [List.length_map]; have := hrlH.out; omega, by go_num, rfl, hS2, (by
                    have e : (if most < sum then sum else most) = max most sum := by split <;> omega
                    rw [← e]; exact ha2), by omega, by omega⟩
                  clear hyl hle hcl ha2
                  have hS2H := Lib.hid hS2
                  clear hS2
                  have hs0H := Lib.hid hs0
                  clear hs0
                  have hs1H := Lib.hid hs1
                  clear hs1
                  have hiH := Lib.hid hi
                  clear hi
                  have R1H := Lib.hid R1
                  clear R1
                  go_wp2
                  refine ⟨?rel, ?measure⟩
                  case measure => (simp [intOf]; omega)
                  case rel => first | exact R1H.out | exact ⟨rfl, R1H.out⟩ | ((try refine ⟨rfl, ?_⟩); (repeat apply Exists.intro); refine ⟨R1H.out, ?_⟩; ((repeat' apply And.intro) <;> rfl))
            · obtain rfl : j = rn := by omega
              rw [List.drop_eq_nil_of_le (by rw [List.length_map]; omega), longO] at ha
              have hsl2 := hS.seen_le
              have hce := hS.cell
              have hbe := hS.be
              have hsn := hS.sn
              have hcl := hllH.out
              by_cases hfew : seen.length < cs.length
              · rw [if_pos hfew] at ha
                have hf2 : (seen.length : Int) < (N1 : Int) := by omega
                subst ha
                clear hrl hj
                have hSH := Lib.hid hS
                clear hS
                have hsl2H := Lib.hid hsl2
                clear hsl2
                have hbeH := Lib.hid hbe
                clear hbe
                have hsnH := Lib.hid hsn
                clear hsn
                have hclH := Lib.hid hcl
                clear hcl
                have hfewH := Lib.hid hfew
                clear hfew
                go_wp2_with (at_len; refine wpList_tlen rfl (.tmp 75) 54 rfl Tryd.underlying54 rfl hsnH.out ?_)
                go_ret2
                exact ⟨rfl, hbeH.out⟩
              · rw [if_neg hfew] at ha
                have hf2 : ¬ (seen.length : Int) < (N1 : Int) := by omega
                subst ha
                clear hrl hj
                have hSH := Lib.hid hS
                clear hS
                have hsl2H := Lib.hid hsl2
                clear hsl2
                have hbeH := Lib.hid hbe
                clear hbe
                have hsnH := Lib.hid hsn
                clear hsn
                have hclH := Lib.hid hcl
                clear hcl
                have hfewH := Lib.hid hfew
                clear hfew
                go_wp2_with (at_len; refine wpList_tlen rfl (.tmp 75) 54 rfl Tryd.underlying54 rfl hsnH.out ?_)
                go_ret2
                exact ⟨rfl, hbeH.out⟩
    · rw [if_neg h100] at hans
      subst hans
      clear hokH h1 h2 h3 h4
      have hb1H := Lib.hid hb1
      clear hb1
      go_wp2
      go_ret2
      exact ⟨rfl, hb1H.out⟩
  · have hcb : (c != 0) = true := by simpa using hc
    rw [if_neg hc] at hans
    subst hans
    clear hokH
    have hb1H := Lib.hid hb1
    clear hb1
    go_wp2
    go_ret2
    exact ⟨rfl, hb1H.out⟩
end Go.Proofs.YtpcgfodiikljdaaDoor.C10
