/-
  Shards of the program.
-/
import Derived.Test.YtpcgfodiikljdaaDoorStbC10
import Derived.Test.YtpcgfodiikljdaaDoorRws
import Derived.Test.YtpcgfodiikljdaaDoorWkH
import Derived.Test.YtpcgfodiikljdaaDoorShE
import Derived.Test.YtpcgfodiikljdaaDoorChkTC10
import Derived.Test.YtpcgfodiikljdaaDoorInsT
import Derived.Test.YtpcgfodiikljdaaDoorSortSC10
namespace Go.Proofs.YtpcgfodiikljdaaDoor.C10
open Go.ChangeShapes Go.WideShapes Go.Deep Go.RowKit
set_option linter.unusedVariables false
set_option linter.unusedSimpArgs false

def shF (t : Test) (n : Int) : Int := if testF t = 0 then (if inR 1 100 n = true then 0 else 1) else testF t
def shRows (n : Nat) (M : List TestCase) : List (List ByteArray) := (dealt n M).map fun r => sortB (nms r)
def ShAns (t : Test) (n : Int) (w : World) (e : Ending) (w' : World) : Prop :=
  Below w.heap.size w w' ∧ ((shF t n ≠ 0 ∧ e = .returned (.tuple #[.slice none 0 0, .int .i64 (shF t n)])) ∨
    (shF t n = 0 ∧ ∃ (N bo base : Nat) (vs : Nat → Value) (M : List TestCase), n = N ∧ e = .returned (.tuple #[.slice (some ⟨bo, 0, none⟩) N N, .int .i64 0]) ∧ SortedBy fS M ∧ SameCls fS M t.cases.l ∧ Rws w' base bo N vs (shRows N M)))
set_option maxRecDepth 100000 in
set_option maxHeartbeats 4000000 in
/-- slices.Clone of test cases -/
theorem clone_TC (b off n cap : Nat) (l : List TestCase) (w : World) (h : SlAt RTestCase w (some ⟨b, off, none⟩) n l) (h0 : 0 < n) (hn : n ≤ 1000000) :
    Calls Tryd.prog 15 #[.slice (some ⟨b, off, none⟩) n cap] w fun e w' => ∃ g c', e = .returned (.slice (some ⟨g, 0, none⟩) n c') ∧ w.heap.size ≤ g ∧ RowT w' g 0 n l ∧ Below w.heap.size w w' := by
  have hl := h.1
  have q22 : ∀ (w : World) (a : Option Addr) (n c n' c' : Nat), (binOp .eql 22 (.slice a n c) (.slice none n' c')).run Tryd.prog w = .ok (.bool a.isNone) w := fun w a n c n' c' => Lib.run_eql_slice_nil w _ _ a n c n' c' Tryd.underlying22
  have hH := Lib.hid h
  clear h
  have hlH := Lib.hid hl
  clear hl
  go_enter Tryd.func15, Tryd.ntmps15
  go_wp2_with (at_builtin; go_loud (refine wpList_app (R := RTestCase) (base := w.heap.size) rfl (.tmp 5) (.tmp 6) 22 rfl Tryd.underlying22 elem_TestCase (by decide) rfl (Own.empty w) (some ⟨b, off, none⟩) n cap l rfl (hH.out.below ((Below.refl _ _).alloc (Nat.le_refl _) _)) (fun h => by omega) (fun _ _ _ _ h => h) (by simp only [List.length_nil]; unfold maxLen; omega) (by simp only [List.length_nil]; omega) (by simp) n (by simp) ?_); intro A' c' w' hq hg hat hbl)
  go_ret
  rw [List.nil_append] at hq
  obtain ⟨g, cur, rfl, hbg, hcur, _⟩ := own_block hq h0
  have hb0 := ((Below.refl w.heap.size w).alloc (Nat.le_refl _) (.cells #[] 41)).trans hbl
  exact ⟨g, c', rfl, hbg, ⟨hq.slAt, fun j => frozen_of_row w' g _ cur _ hcur, (Array.getElem?_eq_some_iff.1 hcur).1⟩, hb0⟩
/-- dealing: what is so at its rounds -/
def DlRel (M : List TestCase) (base bo bs N g : Nat) (w0 : World) (i : Value) (wr : World) : Prop :=
  ∃ (k : Nat) (vs : Nat → Value), k ≤ M.length ∧ i = .int .i64 k ∧ Rws wr base bo N vs ((dealt N (M.take k)).map nms) ∧ Sms wr bs N ((dealt N (M.take k)).map sec) ∧ SlAt RTestCase wr (some ⟨g, 0, none⟩) M.length M ∧ Below w0.heap.size w0 wr
def SoRel (Rs : List (List ByteArray)) (base bo N : Nat) (w0 : World) (i : Value) (wr : World) : Prop :=
  ∃ (k : Nat) (vs : Nat → Value), k ≤ N ∧ i = .int .i64 k ∧ Rws wr base bo N vs ((Rs.take k).map sortB ++ Rs.drop k) ∧ Below w0.heap.size w0 wr
theorem rws_swap {w w' : World} {base bo n k : Nat} {vs : Nat → Value} {Rs : List (List ByteArray)} {r' : List ByteArray} (h : Rws w base bo n vs Rs) (hk : k < n) (hg : w.grownBy w' (vs k).ownBlock) (ho : Own RStr 9 w' base (vs k) r') : Rws w' base bo n vs (Rs.set k r') := by
  have hkb : ∀ b, (vs k).ownBlock = some b → base ≤ b := fun b hb => (ho.1.lt b hb).1
  have hbo := hg.block bo h.lt_heap (fun e => by have := hkb bo e.symm; have := h.lt; omega)
  refine ⟨by rw [List.length_set]; exact h.len, fun j hj => ⟨(World.cell?_of_block (a := ⟨bo, j, none⟩) hbo).trans (h.cells j hj).1, (World.frozen?_of_block (a := ⟨bo, j, none⟩) hbo).trans (h.cells j hj).2⟩, fun j r hr => ?_, h.dis, h.lt, Nat.le_trans h.le hg.size⟩
  rw [List.getElem?_set] at hr
  by_cases e : k = j
  · subst e
    rw [if_pos rfl, if_pos (by rw [h.len]; exact hk)] at hr
    injection hr with hr
    subst hr
    exact ho
  · rw [if_neg e] at hr
    have hjn : j < n := by have := (List.getElem?_eq_some_iff.1 hr).1; rw [h.len] at this; exact this
    exact (h.own j r hr).kept hg (by
      cases hv : (vs j).ownBlock with
      | none => exact .inl rfl
      | some b => exact .inr (fun e2 => h.dis j k b hjn hk (fun e3 => e e3.symm) hv e2.symm)) (fun _ _ h => h)
theorem so_step {Rs : List (List ByteArray)} {k : Nat} {r : List ByteArray} (h : Rs[k]? = some r) : ((Rs.take k).map sortB ++ Rs.drop k)[k]? = some r ∧ ((Rs.take k).map sortB ++ Rs.drop k).set k (sortB r) = (Rs.take (k + 1)).map sortB ++ Rs.drop (k + 1) := by
  have hk := (List.getElem?_eq_some_iff.1 h).1
  have hl : ((Rs.take k).map sortB).length = k := by simp; omega
  constructor
  · rw [List.getElem?_append_right (by omega), hl, Nat.sub_self, List.getElem?_drop]; exact h
  · rw [List.set_append_right _ _ (by omega), hl, Nat.sub_self, drop_cons h, List.set_cons_zero, take_snoc h]; simp
theorem own_val {base : Nat} {w : World} {v : Value} {l : List ByteArray} (h : Own RStr 9 w base v l) : ∃ A c, v = .slice A l.length c := h.form
theorem slT_keep {w w' : World} {g n : Nat} {l : List TestCase} (h : SlAt RTestCase w (some ⟨g, 0, none⟩) n l) (hg : w'.heap[g]? = w.heap[g]?) : SlAt RTestCase w' (some ⟨g, 0, none⟩) n l := by
  refine ⟨h.1, fun hn => ?_, fun x hx => h.2.2 x hx⟩
  obtain ⟨b, off, hA, hc⟩ := h.2.1 hn
  obtain ⟨rfl, rfl⟩ : g = b ∧ 0 = off := by simpa using hA
  exact ⟨g, 0, rfl, fun i x hx j v hv => (World.cell?_of_block (a := ⟨g, 0 + i * RTestCase.size + j, none⟩) hg).trans (hc i x hx j v hv)⟩
/-- one case dealt -/
theorem dl_step {M : List TestCase} {base bo bs N g k q nr : Nat} {vs : Nat → Value} {r : List TestCase} {x : TestCase} {w0 W4 W5 w6 : World} {v : Value} {A6 : Option Addr} {c6 : Nat}
    (hR : Rws W4 base bo N vs ((dealt N (M.take k)).map nms)) (hS : Sms W4 bs N ((dealt N (M.take k)).map sec)) (hM : SlAt RTestCase W4 (some ⟨g, 0, none⟩) M.length M) (hb : Below w0.heap.size w0 W4)
    (hk : k < M.length) (hqN : q < N) (hst : dealt N (M.take (k + 1)) = (dealt N (M.take k)).set q (r ++ [x])) (hv : vs q = v)
    (l1 : bs < base) (l2 : bs ≠ bo) (l3 : g < base) (l4 : w0.heap.size ≤ bo) (l5 : w0.heap.size ≤ bs) (l6 : g ≠ bo) (l7 : g ≠ bs)
    (h5 : Below W4.heap.size W4 W5) (h6 : Own RStr 9 w6 base (.slice A6 (nr + 1) c6) (nms r ++ [x.name])) (hg6 : W5.grownBy w6 v.ownBlock) (hob : ∀ b, v.ownBlock = some b → base ≤ b)
    (hat6 : ∀ b, (Value.slice A6 (nr + 1) c6).ownBlock = some b → v.ownBlock = some b ∨ W5.heap.size ≤ b) :
    DlRel M base bo bs N g w0 (.int .i64 ((k : Int) + 1)) ((w6.setCell ⟨bo, q, none⟩ (.slice A6 (nr + 1) c6)).setCell ⟨bs, q, none⟩ (.int .i64 (sec r + x.seconds))) := by
  subst hv
  have hle := hR.le
  have hlt := hR.lt
  have n1 : some bs ≠ (vs q).ownBlock := fun e => by have := hob bs e.symm; omega
  have n3 : some g ≠ (vs q).ownBlock := fun e => by have := hob g e.symm; omega
  have hR6 := (hR.below h5).put (v' := .slice A6 (nr + 1) c6) (r' := nms r ++ [x.name]) (w' := w6) hqN hg6 h6 hat6
  have hR7 := hR6.cell ⟨bs, q, none⟩ (.int .i64 (sec r + x.seconds)) l1 l2
  have hsz := h5.size
  have hsz6 := hg6.size
  have hS7 := (hS.keep (h5.block bs (by omega))).keep (hg6.block bs (by omega) n1)
  have hS8 := (hS7.keep (w' := w6.setCell ⟨bo, q, none⟩ (.slice A6 (nr + 1) c6)) ((grown_setc w6 ⟨bo, q, none⟩ _).block bs (by omega) (by simp; omega))).put hqN (sec r + x.seconds)
  have hM7 := slT_keep (slT_keep hM (h5.block g (by omega))) (hg6.block g (by omega) n3)
  have hM8 := slT_keep (w' := w6.setCell ⟨bo, q, none⟩ (.slice A6 (nr + 1) c6)) hM7 ((grown_setc w6 ⟨bo, q, none⟩ _).block g (by omega) (by simp; omega))
  have hM9 := slT_keep (w' := (w6.setCell ⟨bo, q, none⟩ (.slice A6 (nr + 1) c6)).setCell ⟨bs, q, none⟩ (.int .i64 (sec r + x.seconds))) hM8 ((grown_setc _ ⟨bs, q, none⟩ _).block g (by simp; omega) (by simp; omega))
  have hb5 := hb.trans (h5.mono hb.size)
  have hb6 := hb5.grown hg6 hb5.size (fun b hb2 => by have := hob b hb2; omega)
  have hb8 : Below w0.heap.size w0 ((w6.setCell ⟨bo, q, none⟩ (.slice A6 (nr + 1) c6)).setCell ⟨bs, q, none⟩ (.int .i64 (sec r + x.seconds))) := (hb6.setCell (p := ⟨bo, q, none⟩) l4 _).setCell (p := ⟨bs, q, none⟩) l5 _
  refine ⟨k + 1, (fun j => if j = q then Value.slice A6 (nr + 1) c6 else vs j), hk, by go_num, ?_, ?_, hM9, hb8⟩
  · rw [hst, List.map_set]
    have e : nms (r ++ [x]) = nms r ++ [x.name] := by simp [nms]
    rw [e]
    exact hR7
  · rw [hst, List.map_set, sec_app, sec_one]
    exact hS8
theorem keep4g {W w' : World} {ob : Option Nat} {a0 a1 a2 a3 : Addr} {v0 v1 v2 v3 : Value} (hg : W.grownBy w' ob) (n0 : some a0.block ≠ ob) (n1 : some a1.block ≠ ob) (n2 : some a2.block ≠ ob) (n3 : some a3.block ≠ ob)
    (h : W.cell? a0 = some v0 ∧ W.cell? a1 = some v1 ∧ W.cell? a2 = some v2 ∧ W.cell? a3 = some v3) : w'.cell? a0 = some v0 ∧ w'.cell? a1 = some v1 ∧ w'.cell? a2 = some v2 ∧ w'.cell? a3 = some v3 :=
  ⟨hg.cell h.1 n0, hg.cell h.2.1 n1, hg.cell h.2.2.1 n2, hg.cell h.2.2.2 n3⟩
set_option maxRecDepth 100000 in
set_option maxHeartbeats 16000000 in
theorem shards_any (t : Test) (n : Int) (w : World) (hm : MaxLenAt w) (hl : (RSl RTestCase).ok w t.cases) (hnm : t.name.size ≤ maxLen) :
    Calls Tryd.prog 5 #[.agg #[.string t.name, .slice t.cases.A t.cases.n t.cases.cap], .int .i64 n] w (ShAns t n w) := by
  obtain ⟨c, hF⟩ : ∃ c, testF t = c := ⟨_, rfl⟩
  have hcon := fun w => checkTest_any t w
  have hok := @testF_ok t
  obtain ⟨ans, hans⟩ : ∃ ans, ShAns t n w = ans := ⟨_, rfl⟩
  have hans2 : ∀ e w', ans e w' ↔ ShAns t n w e w' := fun e w' => by rw [← hans]
  rw [hans]
  clear hans
  unfold ShAns shF at hans2
  rw [hF] at hans2 hok
  obtain ⟨nm, A, N1, cap, l⟩ := t
  simp only at hl hnm hcon hok hans2 ⊢
  have hsl := hl.1
  have hll := hsl.1
  have hba := (Below.refl w.heap.size w).alloc (Nat.le_refl _) (.cells #[.string nm, .slice A N1 cap] 24)
  have hconH := Lib.hid hcon
  clear hcon
  have hokH := Lib.hid hok
  clear hok
  have hlH := Lib.hid hl
  clear hl
  have hslH := Lib.hid hsl
  clear hsl
  have hllH := Lib.hid hll
  clear hll
  have hmH := Lib.hid hm
  clear hm
  have hFH := Lib.hid hF
  clear hF
  have hbaH := Lib.hid hba
  clear hba
  have hans2H := Lib.hid hans2
  clear hans2
  go_enter Tryd.func5, Tryd.ntmps5
  go_wp2_with fail
  refine (hconH.out _ (hmH.out.below hbaH.out) ⟨hslH.out.below hbaH.out, hlH.out.2⟩ hnm c hFH.out).mono ?_
  rintro e w1 ⟨rfl, hw1⟩
  have q0 : w1.cell? ⟨w.heap.size, 0, none⟩ = some (.string nm) := (hw1.cell (by simp)).trans (cell_new _ _ _ 0)
  have q1 : w1.cell? ⟨w.heap.size, 1, none⟩ = some (.slice A N1 cap) := (hw1.cell (by simp)).trans (cell_new _ _ _ 1)
  have hb1 := hbaH.out.trans (hw1.mono hbaH.out.size)
  clear hw1
  have hb1H := Lib.hid hb1
  clear hb1
  by_cases hc : c = 0
  · subst hc
    obtain ⟨h1, h2, h3, h4⟩ := hokH.out rfl
    by_cases i3 : inR 1 100 n = true
    · obtain ⟨N, rfl⟩ : ∃ N : Nat, n = (N : Int) := ⟨n.toNat, by have := inR_true i3; omega⟩
      have hN1 : 1 ≤ N := by have := inR_true i3; omega
      have hN2 : N ≤ 100 := by have := inR_true i3; omega
      obtain ⟨b0, off, hA, _⟩ := hslH.out.2.1 (by have := hllH.out; omega)
      subst hA
      have hN3 : N1 ≤ 500 := by have := hllH.out; omega
      have hN4 : 0 < N1 := by have := hllH.out; omega
      clear hokH
      have h1H := Lib.hid h1
      clear h1
      have h2H := Lib.hid h2
      clear h2
      have h3H := Lib.hid h3
      clear h3
      have h4H := Lib.hid h4
      clear h4
      go_wp2_with (go_at_call 14; refine (within_p _ _ _ _).mono ?_; rintro e wz ⟨rfl, rfl⟩)
      refine (clone_TC b0 off N1 cap l _ (hslH.out.below hb1H.out) hN4 (by omega)).mono ?_
      rintro e w2 ⟨g, c2, rfl, hg2, hrow, hb2⟩
      have hgw : w.heap.size ≤ g := Nat.le_trans hb1H.out.size hg2
      have hb2 := hb1H.out.trans (hb2.mono hb1H.out.size)
      clear q0 q1
      have hrowH := Lib.hid hrow
      clear hrow
      have hb2H := Lib.hid hb2
      clear hb2
      go_wp2_with fail
      refine (stable_any g 0 N1 c2 l _ (by omega) hrowH.out).mono ?_
      rintro e w3 ⟨rfl, M, hM1, hM2, hM3, hM4⟩
      have hb3 := hb2H.out.grown hM4 hb2H.out.size (fun k hk => by injection hk with hk; omega)
      have hlM : M.length = N1 := by have := hM2.len; have := hllH.out; omega
      have hcs : ∀ c ∈ M, 0 ≤ c.seconds ∧ c.seconds ≤ 100000 := fun c hc => h3H.out c (hM2.mem hc)
      have hsM := hM3.sl
      have hgl := hM3.lt
      have hmk1 := run_makeRows N (by omega)
      have hmk2 := run_makeInts N (by omega)
      have hs3 := hb3.size
      clear hM3 hM4
      have hM1H := Lib.hid hM1
      clear hM1
      have hM2H := Lib.hid hM2
      clear hM2
      have hb3H := Lib.hid hb3
      clear hb3
      have hcsH := Lib.hid hcs
      clear hcs
      have hlMH := Lib.hid hlM
      clear hlM
      have hsMH := Lib.hid hsM
      clear hsM
      go_wp2_with fail
      go_region
      · obtain ⟨bo, hbo⟩ : ∃ b, w3.heap.size = b := ⟨_, rfl⟩
        obtain ⟨bs, hbs⟩ : ∃ b, w3.heap.size + 1 = b := ⟨_, rfl⟩
        obtain ⟨base, hbase⟩ : ∃ b, w3.heap.size + 2 = b := ⟨_, rfl⟩
        have hbx := (Below.refl w3.heap.size w3).alloc (Nat.le_refl _) (.cells (madeS N) 48)
        have hby := (Below.refl (w3.heap.size + 1) (w3.alloc (.cells (madeS N) 48))).alloc (by simp) (.cells (madeI N) 3)
        have hbz : Below w3.heap.size w3 ((w3.alloc (.cells (madeS N) 48)).alloc (.cells (madeI N) 3)).drew := (hbx.alloc (by simp) _).drew
        have hk0 : Rws ((w3.alloc (.cells (madeS N) 48)).alloc (.cells (madeI N) 3)).drew base bo N (fun _ => .slice none 0 0) (List.replicate N []) := by
          have h0 := (Rws.made w3 N).below (((Below.refl _ _).alloc (Nat.le_refl _) (.cells (madeI N) 3)).drew)
          rw [hbo] at h0
          exact h0.up (by omega) (by simp; omega) rfl
        have hk1 : Sms ((w3.alloc (.cells (madeS N) 48)).alloc (.cells (madeI N) 3)).drew bs N (List.replicate N 0) := by
          have h0 := Sms.made (w3.alloc (.cells (madeS N) 48)) N
          rw [World.size_alloc, hbs] at h0
          exact h0.keep rfl
        have hk2 := hsMH.out.below hbz
        rw [← hlMH.out] at hk2
        have hk3 := hb3H.out.trans (hbz.mono hs3)
        obtain ⟨W3, hW3⟩ : ∃ X, ((w3.alloc (.cells (madeS N) 48)).alloc (.cells (madeI N) 3)).drew = X := ⟨_, rfl⟩
        rw [hW3] at hk0 hk1 hk2 hk3 ⊢
        rw [hbo]
        rw [hbo] at hbs hbase
        rw [hbs]
        have hgo : g < bo := by omega
        have hlo : w.heap.size ≤ bo := by omega
        clear hbx hby hbz hW3
        have hSec : ∀ k, ∀ r ∈ dealt N (M.take k), 0 ≤ sec r ∧ sec r ≤ 50000000 ∧ r.length ≤ 500 := fun k r hr => by
          have := dealt_sec (n := N) (M.take k) (fun c hc => hcsH.out c (List.mem_of_mem_take hc)) r hr
          have h5 : (M.take k).length ≤ 500 := by rw [List.length_take]; have := hlMH.out; omega
          omega
        have hk0H := Lib.hid hk0
        clear hk0
        have hk1H := Lib.hid hk1
        clear hk1
        have hk2H := Lib.hid hk2
        clear hk2
        have hk3H := Lib.hid hk3
        clear hk3
        have hSecH := Lib.hid hSec
        clear hSec
        go_wp2_with fail
        go_loopw [34] (fun i wr => DlRel M base bo bs N g w i wr) (fun i _ => N1 - (intOf i).toNat)
        case atStart =>
          refine ⟨0, fun _ => .slice none 0 0, Nat.zero_le _, rfl, ?_, ?_, hk2H.out, hk3H.out⟩
          · have : (dealt N (M.take 0)).map nms = List.replicate N [] := by simp [dealt, nms]
            rw [this]; exact hk0H.out
          · have : (dealt N (M.take 0)).map sec = List.replicate N 0 := by simp [dealt, sec]
            rw [this]; exact hk1H.out
        case round =>
          clear hk0H hk1H hk2H hk3H
          obtain ⟨k, vs, hk, rfl, hR, hS, hM, hb⟩ := hrel
          have hbs := hb.size
          have hkl : k ≤ N1 := by have := hlMH.out; omega
          by_cases hlt : k < N1
          · obtain ⟨x, hx⟩ : ∃ x, M[k]? = some x := ⟨M[k]'(by have := hlMH.out; omega), List.getElem?_eq_getElem _⟩
            obtain ⟨c0, c1⟩ := cells_TestCase hM hx
            rw [Nat.zero_add] at c0 c1
            obtain ⟨x0, x1⟩ := hcsH.out x (List.mem_of_getElem? hx)
            have hxz : RStr.ok w x.name := (hM.2.2 x (List.mem_of_getElem? hx)).1
            obtain ⟨q, r, hq, hqN, hr, hst⟩ := dealt_step (n := N) hx hN1
            have hsr : ((dealt N (M.take k)).map sec)[q]? = some (sec r) := by rw [List.getElem?_map, hr]; rfl
            have hnr : ((dealt N (M.take k)).map nms)[q]? = some (nms r) := by rw [List.getElem?_map, hr]; rfl
            obtain ⟨s0, s1, s2⟩ := hSecH.out k r (List.mem_of_getElem? hr)
            have hba := (Below.refl wr.heap.size wr).alloc (Nat.le_refl _) (.cells #[.string x.name, .int .i64 x.seconds] 41)
            have hR0 := hR
            have hbw : bo < wr.heap.size := hR.lt_heap
            have hR := hR.below hba
            have hS := hS.keep (hba.block bs (cell?_lt (hS.cells q _ hsr).1))
            have hM := hM.below hba
            have hb := hb.trans (hba.mono hbs)
            obtain ⟨W4, hW4⟩ : ∃ X, wr.alloc (.cells #[.string x.name, .int .i64 x.seconds] 41) = X := ⟨_, rfl⟩
            have d0 : W4.cell? ⟨wr.heap.size, 0, none⟩ = some (.string x.name) := by rw [← hW4]; exact cell_new _ _ _ 0
            have d1 : W4.cell? ⟨wr.heap.size, 1, none⟩ = some (.int .i64 x.seconds) := by rw [← hW4]; exact cell_new _ _ _ 1
            have e0 := hR.cells q hqN
            have e1 := hS.cells q _ hsr
            have hltW : ∀ b, (vs q).ownBlock = some b → b < wr.heap.size := fun b hb2 => (hR0.own q _ hnr).1.lt b hb2 |>.2
            have hown := hR.own q _ hnr
            obtain ⟨Av, cv, hvs⟩ := own_val hown
            have hidx : Lib.idxOf (((dealt N (M.take k)).map sec).take N) (Lib.minOf (((dealt N (M.take k)).map sec).take N)) = ((q : Nat) : Int) := by
              rw [idx_min (by intro e; rw [e] at hsr; cases hsr) (by rw [List.length_map, dealt_len]), hq]
            obtain ⟨Sm, hSm⟩ : ∃ S, (dealt N (M.take k)).map sec = S := ⟨_, rfl⟩
            have hz : N ≤ Sm.length := by rw [← hSm, List.length_map, dealt_len]; exact Nat.le_refl _
            have hcz : ∀ W : World, W.heap[bs]? = W4.heap[bs]? → ∀ j, j < Sm.length → W.cell? ⟨bs, 0 + j, none⟩ = some (.int .i64 (Sm.getD j 0)) := fun W hW j hj => by
              have h1 : ((dealt N (M.take k)).map sec)[j]? = some (Sm.getD j 0) := by rw [hSm, List.getD_eq_getElem?_getD, List.getElem?_eq_getElem hj]; rfl
              have h2 := (hS.cells j _ h1).1
              rw [Nat.zero_add, World.cell?_of_block (a := ⟨bs, j, none⟩) hW, ← hW4]
              exact h2
            rw [hSm] at hidx
            rw [hW4] at hR hS hM hb e0 e1 hown hba
            obtain ⟨nr, hnrl⟩ : ∃ m, (nms r).length = m := ⟨_, rfl⟩
            have hnr5 : nr ≤ 500 := by rw [← hnrl]; unfold nms; rw [List.length_map]; exact s2
            rw [hnrl] at hvs
            have hob : ∀ b, (vs q).ownBlock = some b → base ≤ b ∧ b < wr.heap.size := fun b hb2 => ⟨(hown.1.lt b hb2).1, hltW b hb2⟩
            rw [hvs] at e0 hown hob
            have hbo1 := hR.lt
            have n0 : some bo ≠ (Value.slice Av nr cv).ownBlock := fun e => by have := (hob bo e.symm).1; omega
            have n1 : some bs ≠ (Value.slice Av nr cv).ownBlock := fun e => by have := (hob bs e.symm).1; omega
            have n2 : some wr.heap.size ≠ (Value.slice Av nr cv).ownBlock := fun e => by have := (hob _ e.symm).2; omega
            have hbs4 := hR.le
            have w1 : (0 : Int) ≤ (q : Int) := by omega
            have w2 : (q : Int) < (N : Int) := by omega
            have d3 : W4.cell? ⟨bo, q, none⟩ = some (.slice Av nr cv) := e0.1
            have f3 : W4.frozen? ⟨bo, q, none⟩ = false := e0.2
            have d4 : W4.cell? ⟨bs, q, none⟩ = some (.int .i64 (sec r)) := e1.1
            have f4 : W4.frozen? ⟨bs, q, none⟩ = false := e1.2
            have hstep := fun W5 w6 A6 c6 (h5 : Below W4.heap.size W4 W5) h6 hg6 hat6 => dl_step (A6 := A6) (c6 := c6) (nr := nr) (W5 := W5) (w6 := w6) hR hS hM hb (by have := hlMH.out; omega) hqN hst hvs (by omega) (by omega) (by omega) (by omega) (by omega) (by omega) (by omega) h5 h6 hg6 (fun b hb2 => (hob b hb2).1) hat6
            have hRH := Lib.hid hR
            clear hR
            have hSH := Lib.hid hS
            clear hS
            have hMH := Lib.hid hM
            clear hM
            have hbH := Lib.hid hb
            clear hb
            have hR0H := Lib.hid hR0
            clear hR0
            have hltWH := Lib.hid hltW
            clear hltW
            have hobH := Lib.hid hob
            clear hob
            have hstH := Lib.hid hst
            clear hst
            have hrH := Lib.hid hr
            clear hr
            have hsrH := Lib.hid hsr
            clear hsr
            have hnrH := Lib.hid hnr
            clear hnr
            have hxH := Lib.hid hx
            clear hx
            have hownH := Lib.hid hown
            clear hown
            have hbaH := Lib.hid hba
            clear hba
            have hqH := Lib.hid hq
            clear hq
            have hnrlH := Lib.hid hnrl
            clear hnrl
            have hvsH := Lib.hid hvs
            clear hvs
            have hSmH := Lib.hid hSm
            clear hSm
            have hstepH := Lib.hid hstep
            clear hstep
            have e0H := Lib.hid e0
            clear e0
            have e1H := Lib.hid e1
            clear e1
            go_wp2_with fail
            refine (Tryd.slices_Min_int bs 0 N N Sm _ hN1 hz (by omega) (hcz _ rfl)).mono ?_
            rintro e w5 ⟨rfl, hw5⟩
            rw [hw5]
            clear hw5
            go_wp2_with fail
            refine (Tryd.slices_Index_int bs 0 N N Sm _ _ hz (by omega) (hcz _ rfl)).mono ?_
            rintro e w5 ⟨rfl, hw5⟩
            rw [hw5, hidx]
            clear hw5
            clear hcz hidx hW4 c0 c1
            have n0H := Lib.hid n0
            clear n0
            have n1H := Lib.hid n1
            clear n1
            have n2H := Lib.hid n2
            clear n2
            go_wp2_with fail
            refine startR (R := Rk (fun w' => w'.cell? ⟨bo, q, none⟩ = some (.slice Av nr cv) ∧ w'.cell? ⟨bs, q, none⟩ = some (.int .i64 (sec r))) (fun w' => w'.cell? ⟨wr.heap.size, 0, none⟩ = some (.string x.name) ∧ w'.cell? ⟨wr.heap.size, 1, none⟩ = some (.int .i64 x.seconds)) 20 22) (by kernel_rfl) ?_
            have hF : W4.drew.cell? ⟨bo, q, none⟩ = some (.slice Av nr cv) ∧ W4.drew.cell? ⟨bs, q, none⟩ = some (.int .i64 (sec r)) := ⟨d3, d4⟩
            have hC : W4.drew.cell? ⟨wr.heap.size, 0, none⟩ = some (.string x.name) ∧ W4.drew.cell? ⟨wr.heap.size, 1, none⟩ = some (.int .i64 x.seconds) := ⟨d0, d1⟩
            refine takeC (i := 0) (d := some 42) (v := ?_) rfl rfl (by kernel_rfl) (by kernel_rfl) (by kernel_rfl) (by kernel_rfl) (fun _ _ _ h => h) (Or.inl ⟨by rfl, ?_⟩) hC ?_
            rotate_left
            · (intro w hSw; (try dsimp only at hSw); go_simp; (try with_reducible rfl))
            (try simp only [Act.put, List.setIfInBounds_toArray, List.set_cons_zero, List.set_cons_succ])
            refine takeC (i := 1) (d := some 43) (v := ?_) rfl rfl (by kernel_rfl) (by kernel_rfl) (by kernel_rfl) (by kernel_rfl) (fun _ _ _ h => h) (Or.inl ⟨by rfl, ?_⟩) hC ?_
            rotate_left
            · (intro w hSw; (try dsimp only at hSw); go_simp; (try with_reducible rfl))
            (try simp only [Act.put, List.setIfInBounds_toArray, List.set_cons_zero, List.set_cons_succ])
            refine takeC (i := 2) (d := some 44) (v := ?_) rfl rfl (by kernel_rfl) (by kernel_rfl) (by kernel_rfl) (by kernel_rfl) (fun _ _ _ h => h) (Or.inl ⟨by rfl, ?_⟩) hC ?_
            rotate_left
            · (intro w hSw; (try dsimp only at hSw); go_simp; (try with_reducible rfl))
            (try simp only [Act.put, List.setIfInBounds_toArray, List.set_cons_zero, List.set_cons_succ])
            refine takeC (i := 3) (d := some 45) (v := ?_) rfl rfl (by kernel_rfl) (by kernel_rfl) (by kernel_rfl) (by kernel_rfl) (fun _ _ _ h => h) (Or.inl ⟨by rfl, ?_⟩) hC ?_
            rotate_left
            · (intro w hSw; (try dsimp only at hSw); go_simp; (try with_reducible rfl))
            (try simp only [Act.put, List.setIfInBounds_toArray, List.set_cons_zero, List.set_cons_succ])
            refine takeC (i := 4) (d := some 46) (v := ?_) rfl rfl (by kernel_rfl) (by kernel_rfl) (by kernel_rfl) (by kernel_rfl) (fun _ _ _ h => h) (Or.inl ⟨by rfl, ?_⟩) hC ?_
            rotate_left
            · (intro w hSw; (try dsimp only at hSw); go_simp; (try with_reducible rfl))
            (try simp only [Act.put, List.setIfInBounds_toArray, List.set_cons_zero, List.set_cons_succ])
            refine takeC (i := 5) (d := some 47) (v := ?_) rfl rfl (by kernel_rfl) (by kernel_rfl) (by kernel_rfl) (by kernel_rfl) (fun _ _ _ h => h) (Or.inl ⟨by rfl, ?_⟩) hC ?_
            rotate_left
            · (intro w hSw; (try dsimp only at hSw); go_simp; (try with_reducible rfl))
            (try simp only [Act.put, List.setIfInBounds_toArray, List.set_cons_zero, List.set_cons_succ])
            refine takeC (i := 6) (d := some 48) (v := ?_) rfl rfl (by kernel_rfl) (by kernel_rfl) (by kernel_rfl) (by kernel_rfl) (fun _ _ _ h => h) (Or.inl ⟨by rfl, ?_⟩) hC ?_
            rotate_left
            · (intro w hSw; (try dsimp only at hSw); go_simp; (try with_reducible rfl))
            (try simp only [Act.put, List.setIfInBounds_toArray, List.set_cons_zero, List.set_cons_succ])
            refine takeF (i := 7) (d := some 49) (v := ?_) rfl rfl (by kernel_rfl) (by kernel_rfl) (by kernel_rfl) (by kernel_rfl) (by kernel_rfl) (fun _ _ _ h => h) (Or.inl ⟨by rfl, ?_⟩) hF ?_
            rotate_left
            · (intro w hSw; (try dsimp only at hSw); go_simp; (try with_reducible rfl))
            (try simp only [Act.put, List.setIfInBounds_toArray, List.set_cons_zero, List.set_cons_succ])
            refine takeC (i := 8) (d := some 50) (v := ?_) rfl rfl (by kernel_rfl) (by kernel_rfl) (by kernel_rfl) (by kernel_rfl) (fun _ _ _ h => h) (Or.inl ⟨by rfl, ?_⟩) hC ?_
            rotate_left
            · (intro w hSw; (try dsimp only at hSw); go_simp; (try with_reducible rfl))
            (try simp only [Act.put, List.setIfInBounds_toArray, List.set_cons_zero, List.set_cons_succ])
            refine takeC (i := 9) (d := some 51) (v := ?_) rfl rfl (by kernel_rfl) (by kernel_rfl) (by kernel_rfl) (by kernel_rfl) (fun _ _ _ h => h) (Or.inl ⟨by rfl, ?_⟩) hC ?_
            rotate_left
            · (intro w hSw; (try dsimp only at hSw); go_simp; (try with_reducible rfl))
            (try simp only [Act.put, List.setIfInBounds_toArray, List.set_cons_zero, List.set_cons_succ])
            refine takeC (i := 12) (d := some 54) (v := ?_) rfl rfl (by kernel_rfl) (by kernel_rfl) (by kernel_rfl) (by kernel_rfl) (fun _ _ _ h => h) (Or.inl ⟨by rfl, ?_⟩) hC ?_
            rotate_left
            · (intro w hSw; (try dsimp only at hSw); go_simp; (try with_reducible rfl))
            (try simp only [Act.put, List.setIfInBounds_toArray, List.set_cons_zero, List.set_cons_succ])
            refine takeC (i := 13) (d := some 55) (v := ?_) rfl rfl (by kernel_rfl) (by kernel_rfl) (by kernel_rfl) (by kernel_rfl) (fun _ _ _ h => h) (Or.inl ⟨by rfl, ?_⟩) hC ?_
            rotate_left
            · (intro w hSw; (try dsimp only at hSw); go_simp; (try with_reducible rfl))
            (try simp only [Act.put, List.setIfInBounds_toArray, List.set_cons_zero, List.set_cons_succ])
            refine takeC (i := 14) (d := some 56) (v := ?_) rfl rfl (by kernel_rfl) (by kernel_rfl) (by kernel_rfl) (by kernel_rfl) (fun _ _ _ h => h) (Or.inl ⟨by rfl, ?_⟩) hC ?_
            rotate_left
            · (intro w hSw; (try dsimp only at hSw); go_simp; (try with_reducible rfl))
            (try simp only [Act.put, List.setIfInBounds_toArray, List.set_cons_zero, List.set_cons_succ])
            refine takeF (i := 15) (d := some 57) (v := ?_) rfl rfl (by kernel_rfl) (by kernel_rfl) (by kernel_rfl) (by kernel_rfl) (by kernel_rfl) (fun _ _ _ h => h) (Or.inl ⟨by rfl, ?_⟩) hF ?_
            rotate_left
            · (intro w hSw; (try dsimp only at hSw); go_simp; (try with_reducible rfl))
            (try simp only [Act.put, List.setIfInBounds_toArray, List.set_cons_zero, List.set_cons_succ])
            refine takeC (i := 16) (d := some 58) (v := ?_) rfl rfl (by kernel_rfl) (by kernel_rfl) (by kernel_rfl) (by kernel_rfl) (fun _ _ _ h => h) (Or.inl ⟨by rfl, ?_⟩) hC ?_
            rotate_left
            · (intro w hSw; (try dsimp only at hSw); go_simp; (try with_reducible rfl))
            (try simp only [Act.put, List.setIfInBounds_toArray, List.set_cons_zero, List.set_cons_succ])
            refine takeC (i := 17) (d := some 59) (v := ?_) rfl rfl (by kernel_rfl) (by kernel_rfl) (by kernel_rfl) (by kernel_rfl) (fun _ _ _ h => h) (Or.inl ⟨by rfl, ?_⟩) hC ?_
            rotate_left
            · (intro w hSw; (try dsimp only at hSw); go_simp; (try with_reducible rfl))
            (try simp only [Act.put, List.setIfInBounds_toArray, List.set_cons_zero, List.set_cons_succ])
            refine takeC (i := 18) (d := some 60) (v := ?_) rfl rfl (by kernel_rfl) (by kernel_rfl) (by kernel_rfl) (by kernel_rfl) (fun _ _ _ h => h) (Or.inl ⟨by rfl, ?_⟩) hC ?_
            rotate_left
            · (intro w hSw; (try dsimp only at hSw); go_simp; (try with_reducible rfl))
            (try simp only [Act.put, List.setIfInBounds_toArray, List.set_cons_zero, List.set_cons_succ])
            refine oneR (i := 10) (by kernel_rfl) rfl (fun K hK => ?_)
            go_simp
            have h5 : Below W4.heap.size W4 (W4.alloc (.cells #[.string x.name] 9)).drew := ((Below.refl _ _).alloc (Nat.le_refl _) _).drew
            have hF2 := two_below h5 hF
            have hC2 := two_below h5 hC
            clear hF hC
            refine hK.out _ _ ⟨fun _ _ _ => hF2, fun _ _ => hC2⟩ ?_
            clear hK K
            (try simp only [Act.put, List.setIfInBounds_toArray, List.set_cons_zero, List.set_cons_succ])
            refine oneR (i := 11) (by kernel_rfl) rfl (fun K hK => ?_)
            refine step_app1g (R := RStr) (base := base) (v := .slice Av nr cv) (l := nms r) ?g1 (.tmp 49) (.tmp 52) 48 ?g2 Tryd.underlying48 elem_StrR (by decide) ?g3 ?own W4.heap.size x.name ?g4 ?g5 (fun _ _ _ _ h => h) ?a4 ?a5 ?a6 (nr + 1) ?a7 ?_
            case g1 => rfl
            case g2 => rfl
            case g3 => rfl
            case g4 => rfl
            case own => exact (hownH.out.alloc _).below (Below.refl _ _).drew
            case g5 => exact (slAt_new W4 _ _ hxz).below (Below.refl _ _).drew
            case a4 => have := hnrlH.out; unfold maxLen; omega
            case a5 => have := hnrlH.out; omega
            case a6 => simp; omega
            case a7 => rw [hnrlH.out]
            intro A6 c6 w6 hq6 hg6 hat6
            have f5 : w6.frozen? ⟨bo, q, none⟩ = false := (hg6.frozen_far ⟨bo, q, none⟩ (by simp; omega) n0H.out).trans ((h5.frozen (p := ⟨bo, q, none⟩) (by show bo < W4.heap.size; omega)).trans f3)
            have f6 : w6.frozen? ⟨bs, q, none⟩ = false := (hg6.frozen_far ⟨bs, q, none⟩ (by simp; omega) n1H.out).trans ((h5.frozen (p := ⟨bs, q, none⟩) (by show bs < W4.heap.size; omega)).trans f4)
            have R1 := hstepH.out _ w6 A6 c6 h5 hq6 hg6 hat6
            have hF3 : w6.cell? ⟨bo, q, none⟩ = some (.slice Av nr cv) ∧ w6.cell? ⟨bs, q, none⟩ = some (.int .i64 (sec r)) := ⟨hg6.cell hF2.1 n0H.out, hg6.cell hF2.2 n1H.out⟩
            have hC3 : w6.cell? ⟨wr.heap.size, 0, none⟩ = some (.string x.name) ∧ w6.cell? ⟨wr.heap.size, 1, none⟩ = some (.int .i64 x.seconds) := ⟨hg6.cell hC2.1 n2H.out, hg6.cell hC2.2 n2H.out⟩
            clear hF2 hC2 hq6 hg6 hat6
            have R1H := Lib.hid R1
            clear R1
            have h5H := Lib.hid h5
            clear h5
            refine hK.out _ _ ⟨fun _ _ _ => hF3, fun _ _ => hC3⟩ ?_
            clear hK K
            (try simp only [Act.put, List.setIfInBounds_toArray, List.set_cons_zero, List.set_cons_succ])
            have hC := hC3
            have e5 := hF3.1
            have e6 := hF3.2
            refine takeC (i := 19) (d := some 61) (v := ?_) rfl rfl (by kernel_rfl) (by kernel_rfl) (by kernel_rfl) (by kernel_rfl) (fun _ _ _ h => h) (Or.inl ⟨by rfl, ?_⟩) hC ?_
            rotate_left
            · (intro w hSw; (try dsimp only at hSw); go_simp; (try with_reducible rfl))
            (try simp only [Act.put, List.setIfInBounds_toArray, List.set_cons_zero, List.set_cons_succ])
            refine oneR (i := 20) (by kernel_rfl) rfl (fun K hK => ?_)
            go_simp
            have ne1 : ¬ wr.heap.size = bo := by omega
            have hC4 : (w6.setCell ⟨bo, q, none⟩ (.slice A6 (nr + 1) c6)).cell? ⟨wr.heap.size, 0, none⟩ = some (.string x.name) ∧ (w6.setCell ⟨bo, q, none⟩ (.slice A6 (nr + 1) c6)).cell? ⟨wr.heap.size, 1, none⟩ = some (.int .i64 x.seconds) :=
              ⟨(World.cell?_setCell_other _ _ _ _ (by simp <;> omega)).trans hC3.1, (World.cell?_setCell_other _ _ _ _ (by simp <;> omega)).trans hC3.2⟩
            have e7 : (w6.setCell ⟨bo, q, none⟩ (.slice A6 (nr + 1) c6)).cell? ⟨bs, q, none⟩ = some (.int .i64 (sec r)) := (World.cell?_setCell_other _ _ _ _ (by simp <;> omega)).trans hF3.2
            have f7 : (w6.setCell ⟨bo, q, none⟩ (.slice A6 (nr + 1) c6)).frozen? ⟨bs, q, none⟩ = false := by rw [World.frozen?_setCell]; exact f6
            clear hC hC3 hF3
            refine hK.out _ _ ⟨fun _ h => absurd rfl h, fun _ _ => hC4⟩ ?_
            clear hK K
            (try simp only [Act.put, List.setIfInBounds_toArray, List.set_cons_zero, List.set_cons_succ])
            have hC := hC4
            refine takeC (i := 21) (d := some 62) (v := ?_) rfl rfl (by kernel_rfl) (by kernel_rfl) (by kernel_rfl) (by kernel_rfl) (fun _ _ _ h => h) (Or.inl ⟨by rfl, ?_⟩) hC ?_
            rotate_left
            · (intro w hSw; (try dsimp only at hSw); go_simp; (try with_reducible rfl))
            (try simp only [Act.put, List.setIfInBounds_toArray, List.set_cons_zero, List.set_cons_succ])
            refine oneR (i := 22) (by kernel_rfl) rfl (fun K hK => ?_)
            go_simp
            refine hK.out _ _ ⟨fun h => absurd rfl h, fun h => absurd rfl h⟩ ?_
            clear hK K
            (try simp only [Act.put, List.setIfInBounds_toArray, List.set_cons_zero, List.set_cons_succ])
            refine doneR (by kernel_rfl) ?_ _
            clear hC hC4 e5 e6 e7 f5 f6 f7 d0 d1 d3 d4 f3 f4
            go_wp2
            refine ⟨?rel, ?measure⟩
            case measure => (simp [intOf]; omega)
            case rel => first | exact R1H.out | exact ⟨rfl, R1H.out⟩ | ((try refine ⟨rfl, ?_⟩); (repeat apply Exists.intro); refine ⟨R1H.out, ?_⟩; ((repeat' apply And.intro) <;> rfl))
          · obtain rfl : k = N1 := by omega
            have hMt : M.take k = M := List.take_of_length_le (by have := hlMH.out; omega)
            rw [hMt] at hR
            obtain ⟨Rs, hRs⟩ : ∃ Rs, (dealt N M).map nms = Rs := ⟨_, rfl⟩
            have hRl : Rs.length = N := by rw [← hRs, List.length_map, dealt_len]
            have hRb : ∀ r ∈ Rs, r.length ≤ 500 := fun r hr => by
              rw [← hRs] at hr
              obtain ⟨y, hy, rfl⟩ := List.mem_map.1 hr
              have := (hSecH.out M.length y (by rw [List.take_length]; exact hy)).2.2
              unfold nms; rw [List.length_map]; exact this
            rw [hRs] at hR
            have hso : SoRel Rs base bo N w (.int .i64 0) wr := ⟨0, vs, Nat.zero_le _, rfl, by simpa using hR, hb⟩
            have hRl2 : Rs.length = N := hRl
            clear hS hM hR hb
            have hsoH := Lib.hid hso
            clear hso
            have hRsH := Lib.hid hRs
            clear hRs
            have hRlH := Lib.hid hRl
            clear hRl
            have hRbH := Lib.hid hRb
            clear hRb
            go_wp2_with fail
            go_loopw [66] (fun i wr => SoRel Rs base bo N w i wr) (fun i _ => N - (intOf i).toNat)
            case atStart => exact hsoH.out
            case round =>
              clear hsoH
              obtain ⟨k2, vs2, hk2, rfl, hR2, hb2⟩ := hrel
              by_cases hlt2 : k2 < N
              · obtain ⟨r, hr⟩ : ∃ r, Rs[k2]? = some r := ⟨Rs[k2]'(by omega), List.getElem?_eq_getElem _⟩
                obtain ⟨hr2, hr3⟩ := so_step hr
                have hown := hR2.own k2 _ hr2
                obtain ⟨Av, cv, hvs⟩ := own_val hown
                have e0 := (hR2.cells k2 hlt2).1
                have hrb := hRbH.out r (List.mem_of_getElem? hr)
                obtain ⟨nr, hnr⟩ : ∃ m, r.length = m := ⟨_, rfl⟩
                rw [hnr] at hvs hrb
                rw [hvs] at e0
                have hown2 : Own RStr 9 wr base (.slice Av nr cv) r := by rw [← hvs]; exact hown
                have w1 : (0 : Int) ≤ (k2 : Int) := by omega
                have hR2H := Lib.hid hR2
                clear hR2
                have hb2H := Lib.hid hb2
                clear hb2
                have hrH := Lib.hid hr
                clear hr
                have hr2H := Lib.hid hr2
                clear hr2
                have hr3H := Lib.hid hr3
                clear hr3
                have hownH := Lib.hid hown
                clear hown
                have hvsH := Lib.hid hvs
                clear hvs
                have hown2H := Lib.hid hown2
                clear hown2
                have hnrH := Lib.hid hnr
                clear hnr
                go_wp2_with fail
                refine (sort_own Av nr cv r wr base hown2H.out (by omega)).mono ?_
                rintro e w5 ⟨rfl, hs5, hg5⟩
                have hle5 := hR2H.out.le
                have hlt5 := hR2H.out.lt
                have hb5 := hb2H.out.grown hg5 hb2H.out.size (fun b hb => by have := (hown2H.out.1.lt b hb).1; omega)
                have R1 : SoRel Rs base bo N w (.int .i64 ((k2 : Int) + 1)) w5 := by
                  refine ⟨k2 + 1, vs2, by omega, by go_num, ?_, hb5⟩
                  rw [← hr3H.out]
                  exact rws_swap hR2H.out hlt2 (by rw [hvsH.out]; exact hg5) (by rw [hvsH.out]; exact hs5)
                clear hs5 hg5 hb5
                have R1H := Lib.hid R1
                clear R1
                go_wp2
                refine ⟨?rel, ?measure⟩
                case measure => (simp [intOf]; omega)
                case rel => first | exact R1H.out | exact ⟨rfl, R1H.out⟩ | ((try refine ⟨rfl, ?_⟩); (repeat apply Exists.intro); refine ⟨R1H.out, ?_⟩; ((repeat' apply And.intro) <;> rfl))
              · obtain rfl : k2 = N := by omega
                have hall : (Rs.take k2).map sortB ++ Rs.drop k2 = shRows k2 M := by
                  rw [List.take_of_length_le (by omega), List.drop_eq_nil_of_le (by omega), List.append_nil, ← hRsH.out, List.map_map]; rfl
                rw [hall] at hR2
                have hR2H := Lib.hid hR2
                clear hR2
                have hb2H := Lib.hid hb2
                clear hb2
                have hallH := Lib.hid hall
                clear hall
                go_wp2
                refine (hans2H.out _ _).2 ⟨hb2H.out, .inr ⟨by rw [i3]; rfl, k2, bo, base, vs2, M, rfl, rfl, hM1H.out, hM2H.out, hR2H.out⟩⟩
      · obtain ⟨bs, hbs⟩ : ∃ b, w3.heap.size = b := ⟨_, rfl⟩
        obtain ⟨bo, hbo⟩ : ∃ b, w3.heap.size + 1 = b := ⟨_, rfl⟩
        obtain ⟨base, hbase⟩ : ∃ b, w3.heap.size + 2 = b := ⟨_, rfl⟩
        have hbx := (Below.refl w3.heap.size w3).alloc (Nat.le_refl _) (.cells (madeI N) 3)
        have hbz : Below w3.heap.size w3 ((w3.alloc (.cells (madeI N) 3)).alloc (.cells (madeS N) 48)).drew := (hbx.alloc (by simp) _).drew
        have hk0 : Rws ((w3.alloc (.cells (madeI N) 3)).alloc (.cells (madeS N) 48)).drew base bo N (fun _ => .slice none 0 0) (List.replicate N []) := by
          have h0 := (Rws.made (w3.alloc (.cells (madeI N) 3)) N).below ((Below.refl _ _).drew)
          rw [World.size_alloc, hbo] at h0
          exact h0.up (by omega) (by simp; omega) rfl
        have hk1 : Sms ((w3.alloc (.cells (madeI N) 3)).alloc (.cells (madeS N) 48)).drew bs N (List.replicate N 0) := by
          have h0 := Sms.made w3 N
          have hw := (((Below.refl (w3.alloc (.cells (madeI N) 3)).heap.size _).alloc (Nat.le_refl _) (.cells (madeS N) 48)).drew).block w3.heap.size (by simp)
          have h1 := h0.keep hw
          rw [hbs] at h1
          exact h1
        have hk2 := hsMH.out.below hbz
        rw [← hlMH.out] at hk2
        have hk3 := hb3H.out.trans (hbz.mono hs3)
        obtain ⟨W3, hW3⟩ : ∃ X, ((w3.alloc (.cells (madeI N) 3)).alloc (.cells (madeS N) 48)).drew = X := ⟨_, rfl⟩
        rw [hW3] at hk0 hk1 hk2 hk3 ⊢
        rw [hbo, hbs]
        have hgo : g < bs := by omega
        have hlo : w.heap.size ≤ bs := by omega
        clear hbx hbz hW3
        have hSec : ∀ k, ∀ r ∈ dealt N (M.take k), 0 ≤ sec r ∧ sec r ≤ 50000000 ∧ r.length ≤ 500 := fun k r hr => by
          have := dealt_sec (n := N) (M.take k) (fun c hc => hcsH.out c (List.mem_of_mem_take hc)) r hr
          have h5 : (M.take k).length ≤ 500 := by rw [List.length_take]; have := hlMH.out; omega
          omega
        have hk0H := Lib.hid hk0
        clear hk0
        have hk1H := Lib.hid hk1
        clear hk1
        have hk2H := Lib.hid hk2
        clear hk2
        have hk3H := Lib.hid hk3
        clear hk3
        have hSecH := Lib.hid hSec
        clear hSec
        go_wp2_with fail
        go_loopw [34] (fun i wr => DlRel M base bo bs N g w i wr) (fun i _ => N1 - (intOf i).toNat)
        case atStart =>
          refine ⟨0, fun _ => .slice none 0 0, Nat.zero_le _, rfl, ?_, ?_, hk2H.out, hk3H.out⟩
          · have : (dealt N (M.take 0)).map nms = List.replicate N [] := by simp [dealt, nms]
            rw [this]; exact hk0H.out
          · have : (dealt N (M.take 0)).map sec = List.replicate N 0 := by simp [dealt, sec]
            rw [this]; exact hk1H.out
        case round =>
          clear hk0H hk1H hk2H hk3H
          obtain ⟨k, vs, hk, rfl, hR, hS, hM, hb⟩ := hrel
          have hbs := hb.size
          have hkl : k ≤ N1 := by have := hlMH.out; omega
          by_cases hlt : k < N1
          · obtain ⟨x, hx⟩ : ∃ x, M[k]? = some x := ⟨M[k]'(by have := hlMH.out; omega), List.getElem?_eq_getElem _⟩
            obtain ⟨c0, c1⟩ := cells_TestCase hM hx
            rw [Nat.zero_add] at c0 c1
            obtain ⟨x0, x1⟩ := hcsH.out x (List.mem_of_getElem? hx)
            have hxz : RStr.ok w x.name := (hM.2.2 x (List.mem_of_getElem? hx)).1
            obtain ⟨q, r, hq, hqN, hr, hst⟩ := dealt_step (n := N) hx hN1
            have hsr : ((dealt N (M.take k)).map sec)[q]? = some (sec r) := by rw [List.getElem?_map, hr]; rfl
            have hnr : ((dealt N (M.take k)).map nms)[q]? = some (nms r) := by rw [List.getElem?_map, hr]; rfl
            obtain ⟨s0, s1, s2⟩ := hSecH.out k r (List.mem_of_getElem? hr)
            have hba := (Below.refl wr.heap.size wr).alloc (Nat.le_refl _) (.cells #[.string x.name, .int .i64 x.seconds] 41)
            have hR0 := hR
            have hbw : bo < wr.heap.size := hR.lt_heap
            have hR := hR.below hba
            have hS := hS.keep (hba.block bs (cell?_lt (hS.cells q _ hsr).1))
            have hM := hM.below hba
            have hb := hb.trans (hba.mono hbs)
            obtain ⟨W4, hW4⟩ : ∃ X, wr.alloc (.cells #[.string x.name, .int .i64 x.seconds] 41) = X := ⟨_, rfl⟩
            have d0 : W4.cell? ⟨wr.heap.size, 0, none⟩ = some (.string x.name) := by rw [← hW4]; exact cell_new _ _ _ 0
            have d1 : W4.cell? ⟨wr.heap.size, 1, none⟩ = some (.int .i64 x.seconds) := by rw [← hW4]; exact cell_new _ _ _ 1
            have e0 := hR.cells q hqN
            have e1 := hS.cells q _ hsr
            have hltW : ∀ b, (vs q).ownBlock = some b → b < wr.heap.size := fun b hb2 => (hR0.own q _ hnr).1.lt b hb2 |>.2
            have hown := hR.own q _ hnr
            obtain ⟨Av, cv, hvs⟩ := own_val hown
            have hidx : Lib.idxOf (((dealt N (M.take k)).map sec).take N) (Lib.minOf (((dealt N (M.take k)).map sec).take N)) = ((q : Nat) : Int) := by
              rw [idx_min (by intro e; rw [e] at hsr; cases hsr) (by rw [List.length_map, dealt_len]), hq]
            obtain ⟨Sm, hSm⟩ : ∃ S, (dealt N (M.take k)).map sec = S := ⟨_, rfl⟩
            have hz : N ≤ Sm.length := by rw [← hSm, List.length_map, dealt_len]; exact Nat.le_refl _
            have hcz : ∀ W : World, W.heap[bs]? = W4.heap[bs]? → ∀ j, j < Sm.length → W.cell? ⟨bs, 0 + j, none⟩ = some (.int .i64 (Sm.getD j 0)) := fun W hW j hj => by
              have h1 : ((dealt N (M.take k)).map sec)[j]? = some (Sm.getD j 0) := by rw [hSm, List.getD_eq_getElem?_getD, List.getElem?_eq_getElem hj]; rfl
              have h2 := (hS.cells j _ h1).1
              rw [Nat.zero_add, World.cell?_of_block (a := ⟨bs, j, none⟩) hW, ← hW4]
              exact h2
            rw [hSm] at hidx
            rw [hW4] at hR hS hM hb e0 e1 hown hba
            obtain ⟨nr, hnrl⟩ : ∃ m, (nms r).length = m := ⟨_, rfl⟩
            have hnr5 : nr ≤ 500 := by rw [← hnrl]; unfold nms; rw [List.length_map]; exact s2
            rw [hnrl] at hvs
            have hob : ∀ b, (vs q).ownBlock = some b → base ≤ b ∧ b < wr.heap.size := fun b hb2 => ⟨(hown.1.lt b hb2).1, hltW b hb2⟩
            rw [hvs] at e0 hown hob
            have hbo1 := hR.lt
            have n0 : some bo ≠ (Value.slice Av nr cv).ownBlock := fun e => by have := (hob bo e.symm).1; omega
            have n1 : some bs ≠ (Value.slice Av nr cv).ownBlock := fun e => by have := (hob bs e.symm).1; omega
            have n2 : some wr.heap.size ≠ (Value.slice Av nr cv).ownBlock := fun e => by have := (hob _ e.symm).2; omega
            have hbs4 := hR.le
            have w1 : (0 : Int) ≤ (q : Int) := by omega
            have w2 : (q : Int) < (N : Int) := by omega
            have d3 : W4.cell? ⟨bo, q, none⟩ = some (.slice Av nr cv) := e0.1
            have f3 : W4.frozen? ⟨bo, q, none⟩ = false := e0.2
            have d4 : W4.cell? ⟨bs, q, none⟩ = some (.int .i64 (sec r)) := e1.1
            have f4 : W4.frozen? ⟨bs, q, none⟩ = false := e1.2
            have hstep := fun W5 w6 A6 c6 (h5 : Below W4.heap.size W4 W5) h6 hg6 hat6 => dl_step (A6 := A6) (c6 := c6) (nr := nr) (W5 := W5) (w6 := w6) hR hS hM hb (by have := hlMH.out; omega) hqN hst hvs (by omega) (by omega) (by omega) (by omega) (by omega) (by omega) (by omega) h5 h6 hg6 (fun b hb2 => (hob b hb2).1) hat6
            have hRH := Lib.hid hR
            clear hR
            have hSH := Lib.hid hS
            clear hS
            have hMH := Lib.hid hM
            clear hM
            have hbH := Lib.hid hb
            clear hb
            have hR0H := Lib.hid hR0
            clear hR0
            have hltWH := Lib.hid hltW
            clear hltW
            have hobH := Lib.hid hob
            clear hob
            have hstH := Lib.hid hst
            clear hst
            have hrH := Lib.hid hr
            clear hr
            have hsrH := Lib.hid hsr
            clear hsr
            have hnrH := Lib.hid hnr
            clear hnr
            have hxH := Lib.hid hx
            clear hx
            have hownH := Lib.hid hown
            clear hown
            have hbaH := Lib.hid hba
            clear hba
            have hqH := Lib.hid hq
            clear hq
            have hnrlH := Lib.hid hnrl
            clear hnrl
            have hvsH := Lib.hid hvs
            clear hvs
            have hSmH := Lib.hid hSm
            clear hSm
            have hstepH := Lib.hid hstep
            clear hstep
            have e0H := Lib.hid e0
            clear e0
            have e1H := Lib.hid e1
            clear e1
            go_wp2_with fail
            refine (Tryd.slices_Min_int bs 0 N N Sm _ hN1 hz (by omega) (hcz _ rfl)).mono ?_
            rintro e w5 ⟨rfl, hw5⟩
            rw [hw5]
            clear hw5
            go_wp2_with fail
            refine (Tryd.slices_Index_int bs 0 N N Sm _ _ hz (by omega) (hcz _ rfl)).mono ?_
            rintro e w5 ⟨rfl, hw5⟩
            rw [hw5, hidx]
            clear hw5
            clear hcz hidx hW4 c0 c1
            have n0H := Lib.hid n0
            clear n0
            have n1H := Lib.hid n1
            clear n1
            have n2H := Lib.hid n2
            clear n2
            go_wp2_with fail
            refine startR (R := Rk (fun w' => w'.cell? ⟨bo, q, none⟩ = some (.slice Av nr cv) ∧ w'.cell? ⟨bs, q, none⟩ = some (.int .i64 (sec r))) (fun w' => w'.cell? ⟨wr.heap.size, 0, none⟩ = some (.string x.name) ∧ w'.cell? ⟨wr.heap.size, 1, none⟩ = some (.int .i64 x.seconds)) 20 22) (by kernel_rfl) ?_
            have hF : W4.drew.cell? ⟨bo, q, none⟩ = some (.slice Av nr cv) ∧ W4.drew.cell? ⟨bs, q, none⟩ = some (.int .i64 (sec r)) := ⟨d3, d4⟩
            have hC : W4.drew.cell? ⟨wr.heap.size, 0, none⟩ = some (.string x.name) ∧ W4.drew.cell? ⟨wr.heap.size, 1, none⟩ = some (.int .i64 x.seconds) := ⟨d0, d1⟩
            refine takeC (i := 0) (d := some 42) (v := ?_) rfl rfl (by kernel_rfl) (by kernel_rfl) (by kernel_rfl) (by kernel_rfl) (fun _ _ _ h => h) (Or.inl ⟨by rfl, ?_⟩) hC ?_
            rotate_left
            · (intro w hSw; (try dsimp only at hSw); go_simp; (try with_reducible rfl))
            (try simp only [Act.put, List.setIfInBounds_toArray, List.set_cons_zero, List.set_cons_succ])
            refine takeC (i := 1) (d := some 43) (v := ?_) rfl rfl (by kernel_rfl) (by kernel_rfl) (by kernel_rfl) (by kernel_rfl) (fun _ _ _ h => h) (Or.inl ⟨by rfl, ?_⟩) hC ?_
            rotate_left
            · (intro w hSw; (try dsimp only at hSw); go_simp; (try with_reducible rfl))
            (try simp only [Act.put, List.setIfInBounds_toArray, List.set_cons_zero, List.set_cons_succ])
            refine takeC (i := 2) (d := some 44) (v := ?_) rfl rfl (by kernel_rfl) (by kernel_rfl) (by kernel_rfl) (by kernel_rfl) (fun _ _ _ h => h) (Or.inl ⟨by rfl, ?_⟩) hC ?_
            rotate_left
            · (intro w hSw; (try dsimp only at hSw); go_simp; (try with_reducible rfl))
            (try simp only [Act.put, List.setIfInBounds_toArray, List.set_cons_zero, List.set_cons_succ])
            refine takeC (i := 3) (d := some 45) (v := ?_) rfl rfl (by kernel_rfl) (by kernel_rfl) (by kernel_rfl) (by kernel_rfl) (fun _ _ _ h => h) (Or.inl ⟨by rfl, ?_⟩) hC ?_
            rotate_left
            · (intro w hSw; (try dsimp only at hSw); go_simp; (try with_reducible rfl))
            (try simp only [Act.put, List.setIfInBounds_toArray, List.set_cons_zero, List.set_cons_succ])
            refine takeC (i := 4) (d := some 46) (v := ?_) rfl rfl (by kernel_rfl) (by kernel_rfl) (by kernel_rfl) (by kernel_rfl) (fun _ _ _ h => h) (Or.inl ⟨by rfl, ?_⟩) hC ?_
            rotate_left
            · (intro w hSw; (try dsimp only at hSw); go_simp; (try with_reducible rfl))
            (try simp only [Act.put, List.setIfInBounds_toArray, List.set_cons_zero, List.set_cons_succ])
            refine takeC (i := 5) (d := some 47) (v := ?_) rfl rfl (by kernel_rfl) (by kernel_rfl) (by kernel_rfl) (by kernel_rfl) (fun _ _ _ h => h) (Or.inl ⟨by rfl, ?_⟩) hC ?_
            rotate_left
            · (intro w hSw; (try dsimp only at hSw); go_simp; (try with_reducible rfl))
            (try simp only [Act.put, List.setIfInBounds_toArray, List.set_cons_zero, List.set_cons_succ])
            refine takeC (i := 6) (d := some 48) (v := ?_) rfl rfl (by kernel_rfl) (by kernel_rfl) (by kernel_rfl) (by kernel_rfl) (fun _ _ _ h => h) (Or.inl ⟨by rfl, ?_⟩) hC ?_
            rotate_left
            · (intro w hSw; (try dsimp only at hSw); go_simp; (try with_reducible rfl))
            (try simp only [Act.put, List.setIfInBounds_toArray, List.set_cons_zero, List.set_cons_succ])
            refine takeF (i := 7) (d := some 49) (v := ?_) rfl rfl (by kernel_rfl) (by kernel_rfl) (by kernel_rfl) (by kernel_rfl) (by kernel_rfl) (fun _ _ _ h => h) (Or.inl ⟨by rfl, ?_⟩) hF ?_
            rotate_left
            · (intro w hSw; (try dsimp only at hSw); go_simp; (try with_reducible rfl))
            (try simp only [Act.put, List.setIfInBounds_toArray, List.set_cons_zero, List.set_cons_succ])
            refine takeC (i := 8) (d := some 50) (v := ?_) rfl rfl (by kernel_rfl) (by kernel_rfl) (by kernel_rfl) (by kernel_rfl) (fun _ _ _ h => h) (Or.inl ⟨by rfl, ?_⟩) hC ?_
            rotate_left
            · (intro w hSw; (try dsimp only at hSw); go_simp; (try with_reducible rfl))
            (try simp only [Act.put, List.setIfInBounds_toArray, List.set_cons_zero, List.set_cons_succ])
            refine takeC (i := 9) (d := some 51) (v := ?_) rfl rfl (by kernel_rfl) (by kernel_rfl) (by kernel_rfl) (by kernel_rfl) (fun _ _ _ h => h) (Or.inl ⟨by rfl, ?_⟩) hC ?_
            rotate_left
            · (intro w hSw; (try dsimp only at hSw); go_simp; (try with_reducible rfl))
            (try simp only [Act.put, List.setIfInBounds_toArray, List.set_cons_zero, List.set_cons_succ])
            refine takeC (i := 12) (d := some 54) (v := ?_) rfl rfl (by kernel_rfl) (by kernel_rfl) (by kernel_rfl) (by kernel_rfl) (fun _ _ _ h => h) (Or.inl ⟨by rfl, ?_⟩) hC ?_
            rotate_left
            · (intro w hSw; (try dsimp only at hSw); go_simp; (try with_reducible rfl))
            (try simp only [Act.put, List.setIfInBounds_toArray, List.set_cons_zero, List.set_cons_succ])
            refine takeC (i := 13) (d := some 55) (v := ?_) rfl rfl (by kernel_rfl) (by kernel_rfl) (by kernel_rfl) (by kernel_rfl) (fun _ _ _ h => h) (Or.inl ⟨by rfl, ?_⟩) hC ?_
            rotate_left
            · (intro w hSw; (try dsimp only at hSw); go_simp; (try with_reducible rfl))
            (try simp only [Act.put, List.setIfInBounds_toArray, List.set_cons_zero, List.set_cons_succ])
            refine takeC (i := 14) (d := some 56) (v := ?_) rfl rfl (by kernel_rfl) (by kernel_rfl) (by kernel_rfl) (by kernel_rfl) (fun _ _ _ h => h) (Or.inl ⟨by rfl, ?_⟩) hC ?_
            rotate_left
            · (intro w hSw; (try dsimp only at hSw); go_simp; (try with_reducible rfl))
            (try simp only [Act.put, List.setIfInBounds_toArray, List.set_cons_zero, List.set_cons_succ])
            refine takeF (i := 15) (d := some 57) (v := ?_) rfl rfl (by kernel_rfl) (by kernel_rfl) (by kernel_rfl) (by kernel_rfl) (by kernel_rfl) (fun _ _ _ h => h) (Or.inl ⟨by rfl, ?_⟩) hF ?_
            rotate_left
            · (intro w hSw; (try dsimp only at hSw); go_simp; (try with_reducible rfl))
            (try simp only [Act.put, List.setIfInBounds_toArray, List.set_cons_zero, List.set_cons_succ])
            refine takeC (i := 16) (d := some 58) (v := ?_) rfl rfl (by kernel_rfl) (by kernel_rfl) (by kernel_rfl) (by kernel_rfl) (fun _ _ _ h => h) (Or.inl ⟨by rfl, ?_⟩) hC ?_
            rotate_left
            · (intro w hSw; (try dsimp only at hSw); go_simp; (try with_reducible rfl))
            (try simp only [Act.put, List.setIfInBounds_toArray, List.set_cons_zero, List.set_cons_succ])
            refine takeC (i := 17) (d := some 59) (v := ?_) rfl rfl (by kernel_rfl) (by kernel_rfl) (by kernel_rfl) (by kernel_rfl) (fun _ _ _ h => h) (Or.inl ⟨by rfl, ?_⟩) hC ?_
            rotate_left
            · (intro w hSw; (try dsimp only at hSw); go_simp; (try with_reducible rfl))
            (try simp only [Act.put, List.setIfInBounds_toArray, List.set_cons_zero, List.set_cons_succ])
            refine takeC (i := 18) (d := some 60) (v := ?_) rfl rfl (by kernel_rfl) (by kernel_rfl) (by kernel_rfl) (by kernel_rfl) (fun _ _ _ h => h) (Or.inl ⟨by rfl, ?_⟩) hC ?_
            rotate_left
            · (intro w hSw; (try dsimp only at hSw); go_simp; (try with_reducible rfl))
            (try simp only [Act.put, List.setIfInBounds_toArray, List.set_cons_zero, List.set_cons_succ])
            refine oneR (i := 10) (by kernel_rfl) rfl (fun K hK => ?_)
            go_simp
            have h5 : Below W4.heap.size W4 (W4.alloc (.cells #[.string x.name] 9)).drew := ((Below.refl _ _).alloc (Nat.le_refl _) _).drew
            have hF2 := two_below h5 hF
            have hC2 := two_below h5 hC
            clear hF hC
            refine hK.out _ _ ⟨fun _ _ _ => hF2, fun _ _ => hC2⟩ ?_
            clear hK K
            (try simp only [Act.put, List.setIfInBounds_toArray, List.set_cons_zero, List.set_cons_succ])
            refine oneR (i := 11) (by kernel_rfl) rfl (fun K hK => ?_)
            refine step_app1g (R := RStr) (base := base) (v := .slice Av nr cv) (l := nms r) ?g1 (.tmp 49) (.tmp 52) 48 ?g2 Tryd.underlying48 elem_StrR (by decide) ?g3 ?own W4.heap.size x.name ?g4 ?g5 (fun _ _ _ _ h => h) ?a4 ?a5 ?a6 (nr + 1) ?a7 ?_
            case g1 => rfl
            case g2 => rfl
            case g3 => rfl
            case g4 => rfl
            case own => exact (hownH.out.alloc _).below (Below.refl _ _).drew
            case g5 => exact (slAt_new W4 _ _ hxz).below (Below.refl _ _).drew
            case a4 => have := hnrlH.out; unfold maxLen; omega
            case a5 => have := hnrlH.out; omega
            case a6 => simp; omega
            case a7 => rw [hnrlH.out]
            intro A6 c6 w6 hq6 hg6 hat6
            have f5 : w6.frozen? ⟨bo, q, none⟩ = false := (hg6.frozen_far ⟨bo, q, none⟩ (by simp; omega) n0H.out).trans ((h5.frozen (p := ⟨bo, q, none⟩) (by show bo < W4.heap.size; omega)).trans f3)
            have f6 : w6.frozen? ⟨bs, q, none⟩ = false := (hg6.frozen_far ⟨bs, q, none⟩ (by simp; omega) n1H.out).trans ((h5.frozen (p := ⟨bs, q, none⟩) (by show bs < W4.heap.size; omega)).trans f4)
            have R1 := hstepH.out _ w6 A6 c6 h5 hq6 hg6 hat6
            have hF3 : w6.cell? ⟨bo, q, none⟩ = some (.slice Av nr cv) ∧ w6.cell? ⟨bs, q, none⟩ = some (.int .i64 (sec r)) := ⟨hg6.cell hF2.1 n0H.out, hg6.cell hF2.2 n1H.out⟩
            have hC3 : w6.cell? ⟨wr.heap.size, 0, none⟩ = some (.string x.name) ∧ w6.cell? ⟨wr.heap.size, 1, none⟩ = some (.int .i64 x.seconds) := ⟨hg6.cell hC2.1 n2H.out, hg6.cell hC2.2 n2H.out⟩
            clear hF2 hC2 hq6 hg6 hat6
            have R1H := Lib.hid R1
            clear R1
            have h5H := Lib.hid h5
            clear h5
            refine hK.out _ _ ⟨fun _ _ _ => hF3, fun _ _ => hC3⟩ ?_
            clear hK K
            (try simp only [Act.put, List.setIfInBounds_toArray, List.set_cons_zero, List.set_cons_succ])
            have hC := hC3
            have e5 := hF3.1
            have e6 := hF3.2
            refine takeC (i := 19) (d := some 61) (v := ?_) rfl rfl (by kernel_rfl) (by kernel_rfl) (by kernel_rfl) (by kernel_rfl) (fun _ _ _ h => h) (Or.inl ⟨by rfl, ?_⟩) hC ?_
            rotate_left
            · (intro w hSw; (try dsimp only at hSw); go_simp; (try with_reducible rfl))
            (try simp only [Act.put, List.setIfInBounds_toArray, List.set_cons_zero, List.set_cons_succ])
            refine oneR (i := 20) (by kernel_rfl) rfl (fun K hK => ?_)
            go_simp
            have ne1 : ¬ wr.heap.size = bo := by omega
            have hC4 : (w6.setCell ⟨bo, q, none⟩ (.slice A6 (nr + 1) c6)).cell? ⟨wr.heap.size, 0, none⟩ = some (.string x.name) ∧ (w6.setCell ⟨bo, q, none⟩ (.slice A6 (nr + 1) c6)).cell? ⟨wr.heap.size, 1, none⟩ = some (.int .i64 x.seconds) :=
              ⟨(World.cell?_setCell_other _ _ _ _ (by simp <;> omega)).trans hC3.1, (World.cell?_setCell_other _ _ _ _ (by simp <;> omega)).trans hC3.2⟩
            have e7 : (w6.setCell ⟨bo, q, none⟩ (.slice A6 (nr + 1) c6)).cell? ⟨bs, q, none⟩ = some (.int .i64 (sec r)) := (World.cell?_setCell_other _ _ _ _ (by simp <;> omega)).trans hF3.2
            have f7 : (w6.setCell ⟨bo, q, none⟩ (.slice A6 (nr + 1) c6)).frozen? ⟨bs, q, none⟩ = false := by rw [World.frozen?_setCell]; exact f6
            clear hC hC3 hF3
            refine hK.out _ _ ⟨fun _ h => absurd rfl h, fun _ _ => hC4⟩ ?_
            clear hK K
            (try simp only [Act.put, List.setIfInBounds_toArray, List.set_cons_zero, List.set_cons_succ])
            have hC := hC4
            refine takeC (i := 21) (d := some 62) (v := ?_) rfl rfl (by kernel_rfl) (by kernel_rfl) (by kernel_rfl) (by kernel_rfl) (fun _ _ _ h => h) (Or.inl ⟨by rfl, ?_⟩) hC ?_
            rotate_left
            · (intro w hSw; (try dsimp only at hSw); go_simp; (try with_reducible rfl))
            (try simp only [Act.put, List.setIfInBounds_toArray, List.set_cons_zero, List.set_cons_succ])
            refine oneR (i := 22) (by kernel_rfl) rfl (fun K hK => ?_)
            go_simp
            refine hK.out _ _ ⟨fun h => absurd rfl h, fun h => absurd rfl h⟩ ?_
            clear hK K
            (try simp only [Act.put, List.setIfInBounds_toArray, List.set_cons_zero, List.set_cons_succ])
            refine doneR (by kernel_rfl) ?_ _
            clear hC hC4 e5 e6 e7 f5 f6 f7 d0 d1 d3 d4 f3 f4
            go_wp2
            refine ⟨?rel, ?measure⟩
            case measure => (simp [intOf]; omega)
            case rel => first | exact R1H.out | exact ⟨rfl, R1H.out⟩ | ((try refine ⟨rfl, ?_⟩); (repeat apply Exists.intro); refine ⟨R1H.out, ?_⟩; ((repeat' apply And.intro) <;> rfl))
          · obtain rfl : k = N1 := by omega
            have hMt : M.take k = M := List.take_of_length_le (by have := hlMH.out; omega)
            rw [hMt] at hR
            obtain ⟨Rs, hRs⟩ : ∃ Rs, (dealt N M).map nms = Rs := ⟨_, rfl⟩
            have hRl : Rs.length = N := by rw [← hRs, List.length_map, dealt_len]
            have hRb : ∀ r ∈ Rs, r.length ≤ 500 := fun r hr => by
              rw [← hRs] at hr
              obtain ⟨y, hy, rfl⟩ := List.mem_map.1 hr
              have := (hSecH.out M.length y (by rw [List.take_length]; exact hy)).2.2
              unfold nms; rw [List.length_map]; exact this
            rw [hRs] at hR
            have hso : SoRel Rs base bo N w (.int .i64 0) wr := ⟨0, vs, Nat.zero_le _, rfl, by simpa using hR, hb⟩
            have hRl2 : Rs.length = N := hRl
            clear hS hM hR hb
            have hsoH := Lib.hid hso
            clear hso
            have hRsH := Lib.hid hRs
            clear hRs
            have hRlH := Lib.hid hRl
            clear hRl
            have hRbH := Lib.hid hRb
            clear hRb
            go_wp2_with fail
            go_loopw [66] (fun i wr => SoRel Rs base bo N w i wr) (fun i _ => N - (intOf i).toNat)
            case atStart => exact hsoH.out
            case round =>
              clear hsoH
              obtain ⟨k2, vs2, hk2, rfl, hR2, hb2⟩ := hrel
              by_cases hlt2 : k2 < N
              · obtain ⟨r, hr⟩ : ∃ r, Rs[k2]? = some r := ⟨Rs[k2]'(by omega), List.getElem?_eq_getElem _⟩
                obtain ⟨hr2, hr3⟩ := so_step hr
                have hown := hR2.own k2 _ hr2
                obtain ⟨Av, cv, hvs⟩ := own_val hown
                have e0 := (hR2.cells k2 hlt2).1
                have hrb := hRbH.out r (List.mem_of_getElem? hr)
                obtain ⟨nr, hnr⟩ : ∃ m, r.length = m := ⟨_, rfl⟩
                rw [hnr] at hvs hrb
                rw [hvs] at e0
                have hown2 : Own RStr 9 wr base (.slice Av nr cv) r := by rw [← hvs]; exact hown
                have w1 : (0 : Int) ≤ (k2 : Int) := by omega
                have hR2H := Lib.hid hR2
                clear hR2
                have hb2H := Lib.hid hb2
                clear hb2
                have hrH := Lib.hid hr
                clear hr
                have hr2H := Lib.hid hr2
                clear hr2
                have hr3H := Lib.hid hr3
                clear hr3
                have hownH := Lib.hid hown
                clear hown
                have hvsH := Lib.hid hvs
                clear hvs
                have hown2H := Lib.hid hown2
                clear hown2
                have hnrH := Lib.hid hnr
                clear hnr
                go_wp2_with fail
                refine (sort_own Av nr cv r wr base hown2H.out (by omega)).mono ?_
                rintro e w5 ⟨rfl, hs5, hg5⟩
                have hle5 := hR2H.out.le
                have hlt5 := hR2H.out.lt
                have hb5 := hb2H.out.grown hg5 hb2H.out.size (fun b hb => by have := (hown2H.out.1.lt b hb).1; omega)
                have R1 : SoRel Rs base bo N w (.int .i64 ((k2 : Int) + 1)) w5 := by
                  refine ⟨k2 + 1, vs2, by omega, by go_num, ?_, hb5⟩
                  rw [← hr3H.out]
                  exact rws_swap hR2H.out hlt2 (by rw [hvsH.out]; exact hg5) (by rw [hvsH.out]; exact hs5)
                clear hs5 hg5 hb5
                have R1H := Lib.hid R1
                clear R1
                go_wp2
                refine ⟨?rel, ?measure⟩
                case measure => (simp [intOf]; omega)
                case rel => first | exact R1H.out | exact ⟨rfl, R1H.out⟩ | ((try refine ⟨rfl, ?_⟩); (repeat apply Exists.intro); refine ⟨R1H.out, ?_⟩; ((repeat' apply And.intro) <;> rfl))
              · obtain rfl : k2 = N := by omega
                have hall : (Rs.take k2).map sortB ++ Rs.drop k2 = shRows k2 M := by
                  rw [List.take_of_length_le (by omega), List.drop_eq_nil_of_le (by omega), List.append_nil, ← hRsH.out, List.map_map]; rfl
                rw [hall] at hR2
                have hR2H := Lib.hid hR2
                clear hR2
                have hb2H := Lib.hid hb2
                clear hb2
                have hallH := Lib.hid hall
                clear hall
                go_wp2
                refine (hans2H.out _ _).2 ⟨hb2H.out, .inr ⟨by rw [i3]; rfl, k2, bo, base, vs2, M, rfl, rfl, hM1H.out, hM2H.out, hR2H.out⟩⟩
    · have i3 : inR 1 100 n = false := by simpa using i3
      clear hokH q0 q1 h1 h2 h3 h4
      go_wp2_with (go_at_call 14; refine (within_p _ _ _ _).mono ?_; rintro e wz ⟨rfl, rfl⟩)
      refine (hans2H.out _ _).2 ⟨hb1H.out, .inl ⟨?_, ?_⟩⟩
      · rw [i3]; decide
      · rw [i3]; rfl
  · have hcb : (c != 0) = true := by simpa using hc
    clear hokH q0 q1
    go_wp2
    refine (hans2H.out _ _).2 ⟨hb1H.out, .inl ⟨by rw [if_neg hc]; exact hc, by rw [if_neg hc]; rfl⟩⟩
end Go.Proofs.YtpcgfodiikljdaaDoor.C10
