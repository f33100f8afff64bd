/-
  critical of the reference.
-/
import Derived.Test.YtbapkhkklglbaaaDoorCrM
import Derived.Test.YtbapkhkklglbaaaDoorCWorksC9
import Derived.Test.YtbapkhkklglbaaaDoorRws
import Derived.Test.YtbapkhkklglbaaaDoorShE
namespace Go.Proofs.YtbapkhkklglbaaaDoor.C9
open Go.ChangeShapes Go.WideShapes Go.Deep Go.RowKit
set_option linter.unusedVariables false
set_option linter.unusedSimpArgs false

theorem topo_ex {g : Nat → List Nat} {N : Nat} (hg : ∀ i, i < N → ∀ k ∈ g i, k < N) (hno : ¬ Cyc g N) : ∃ out, Topo g N out ∧ out.length = N := by
  have key : ∀ (d : Nat) (out : List Nat), Topo g N out → N - out.length = d → ∃ out, Topo g N out ∧ out.length = N := by
    intro d
    induction d with
    | zero =>
      intro out h e
      exact ⟨out, h, by have := nodup_lt h.nodup h.lt; omega⟩
    | succ d ih =>
      intro out h e
      by_cases hm : Most g N out
      · exact ⟨out, h, (topo_iff hg h hm).2 hno⟩
      · have : ∃ i, i < N ∧ i ∉ out ∧ ∀ k ∈ g i, k ∈ out := by
          refine Classical.byContradiction fun hx => hm fun i hi hio => Classical.byContradiction fun hy => hx ⟨i, hi, hio, fun k hk => Classical.byContradiction fun hz => hy ⟨k, hk, hz⟩⟩
        obtain ⟨i, hi, hio, hk⟩ := this
        exact ih (out ++ [i]) (h.snoc hi hio hk) (by rw [List.length_append, List.length_singleton]; omega)
  exact key _ [] (Topo.nil g N) rfl
structure WOk (l : List Work) : Prop where
  len : l.length ≤ 200
  rise : l.Pairwise fun a b => cmpS a.id_ b.id_ = -1
  all : allThere l l.length = true
  size : ∀ x ∈ l, 1 ≤ x.size ∧ x.size ≤ 1000000
  nocyc : ¬ Cyc (gOf l) l.length
theorem wok_of {l : List Work} (h : worksF l = 0) : WOk l := by
  unfold worksF at h
  by_cases h1 : l.length ≤ 200
  · rw [if_pos h1] at h
    by_cases h2 : worksErr none l = 0
    · rw [if_pos h2] at h
      by_cases h3 : allThere l l.length = true
      · rw [if_pos h3] at h
        by_cases h4 : loopB l = true
        · rw [if_pos h4] at h; cases h
        · refine ⟨h1, (works_rise l none h2).1, h3, fun x hx => ?_, fun hc => h4 (loopB_true.2 hc)⟩
          have h5 := works_each l none h2 x hx
          unfold workF at h5
          by_cases a1 : wordB x.id_ = true
          · rw [if_pos a1] at h5
            by_cases a2 : pairsF x.needs.l = 0
            · rw [if_pos a2] at h5
              by_cases a3 : inR 1 1000000 x.size = true
              · exact inR_true a3
              · rw [if_neg a3] at h5; cases h5
            · rw [if_neg a2] at h5; exact absurd h5 a2
          · rw [if_neg a1] at h5; cases h5
      · rw [if_neg h3] at h; cases h
    · rw [if_neg h2] at h; exact absurd h h2
  · rw [if_neg h1] at h; cases h
def szOf (l : List Work) (i : Nat) : Int := ((l[i]?).map (·.size)).getD 0
theorem szOf_get {l : List Work} {i : Nat} {x : Work} (h : l[i]? = some x) : szOf l i = x.size := by unfold szOf; rw [h]; rfl
theorem szOf_b {l : List Work} (h : WOk l) (i : Nat) (hi : i < l.length) : 0 ≤ szOf l i ∧ szOf l i ≤ 1000000 := by
  have e := szOf_get (List.getElem?_eq_getElem hi)
  have := h.size l[i] (List.getElem_mem hi)
  omega
theorem WOk.order {l : List Work} (h : WOk l) : ∃ out, Topo (gOf l) l.length out ∧ out.length = l.length := topo_ex (gOf_lt h.all) h.nocyc
theorem WOk.crit {l : List Work} (h : WOk l) : ∃ C, Crit (gOf l) (szOf l) l.length C ∧ ∀ j, j < l.length → 0 ≤ C j ∧ C j ≤ 200000000 := by
  obtain ⟨out, h1, h2⟩ := h.order
  obtain ⟨C, h3, h4⟩ := crit_ex (B := 1000000) h1 h2 (fun i hi => szOf_b h i hi) (by omega)
  refine ⟨C, h3, fun j hj => ?_⟩
  have a := h4 j hj
  have b := h.len
  have c : (1000000 : Int) * (l.length : Int) ≤ 1000000 * 200 := Int.mul_le_mul_of_nonneg_left (by omega) (by omega)
  omega
theorem WOk.uniq {l : List Work} (h : WOk l) {C D : Nat → Int} (hC : Crit (gOf l) (szOf l) l.length C) (hD : Crit (gOf l) (szOf l) l.length D) : ∀ j, j < l.length → C j = D j := by
  obtain ⟨out, h1, h2⟩ := h.order
  exact crit_uniq h1 h2 hC hD
/-- by whom a work is named -/
theorem after_iff {l : List Work} (h : WOk l) {i k : Nat} {x y : Work} (hx : l[i]? = some x) (hy : l[k]? = some y) : i ∈ gOf l k ↔ x.id_ ∈ y.after.l := by
  rw [gOf_get hy]
  obtain ⟨e1, e2⟩ := ixOf_eq h.rise hx
  constructor
  · intro hi
    obtain ⟨s, hs, he⟩ := List.mem_map.1 hi
    obtain ⟨z, hz1, hz2⟩ := ixOf_get (allThere_get h.all hy hs)
    rw [he, hx] at hz1
    injection hz1 with hz1
    rw [hz1, hz2]; exact hs
  · intro hi
    exact List.mem_map.2 ⟨_, hi, e1⟩
open Classical in
theorem has_any (A : Option Addr) (n c : Nat) (l : List ByteArray) (x : ByteArray) (w : World) (hn : n ≤ 9223372036854775807) (hl : SlAt RStr w A n l) :
    Calls Tryd.prog 21 #[.slice A n c, .string x] w fun e w' => e = .returned (.bool (decide (x ∈ l))) ∧ w' = w := by
  have hi : ∀ l : List ByteArray, Lib.containsS l x = decide (x ∈ l) := fun l => by
    rw [Bool.eq_iff_iff, Lib.containsS_iff, decide_eq_true_iff]
  by_cases h0 : n = 0
  · subst h0
    obtain rfl : l = [] := List.eq_nil_of_length_eq_zero hl.1
    have := Tryd.slices_Contains_string_empty A c x w
    simpa using this
  · obtain ⟨b, off, rfl, _⟩ := hl.2.1 (by omega)
    have hll := hl.1
    refine (Tryd.slices_Contains_string b off n c l x w (by omega) hn (fun j hj => ?_)).mono ?_
    · have := cell_StrW hl (List.getElem?_eq_getElem hj)
      rw [this, List.getD_eq_getElem?_getD, List.getElem?_eq_getElem hj]
      rfl
    · rintro e w' ⟨rfl, rfl⟩
      rw [List.take_of_length_le (by omega), hi]
      exact ⟨rfl, rfl⟩
/-- the row of numbers as the world holds it -/
noncomputable def rdI (w : World) (B N : Nat) : List Int := (List.range N).map fun j => match w.cell? ⟨B, j, none⟩ with
  | some (.int _ x) => x
  | _ => 0
theorem rdI_eq {w : World} {B N : Nat} {S : List Int} (h : Sms w B N S) : rdI w B N = S := by
  refine List.ext_getElem? fun i => ?_
  unfold rdI
  rw [List.getElem?_map]
  by_cases hi : i < N
  · obtain ⟨x, hx⟩ : ∃ x, S[i]? = some x := ⟨S[i]'(by rw [h.len]; exact hi), List.getElem?_eq_getElem _⟩
    rw [List.getElem?_range hi, hx, Option.map_some, (h.cells i x hx).1]
  · rw [List.getElem?_eq_none (by simp; omega), List.getElem?_eq_none (by rw [h.len]; omega)]; rfl
theorem gt_get {S : List Int} {k : Nat} {x : Int} (h : S[k]? = some x) : gt S k = x := by unfold gt; rw [List.getD_eq_getElem?_getD, h]; rfl
def CrO (l : List Work) (C : Nat → Int) (B N : Nat) (w0 : World) (v : Value) (wr : World) : Prop :=
  ∃ (S : List Int) (b : Bool), v = .bool b ∧ Sms wr B N S ∧ Pass (gOf l) (szOf l) N C S ∧ (b = false → ∀ i, i < N → nS (gOf l) (szOf l) S i N = gt S i) ∧ Below w0.heap.size w0 wr ∧ B < wr.heap.size
def CrMd (l : List Work) (C : Nat → Int) (B N M : Nat) (w0 : World) (v vi : Value) (wr : World) : Prop :=
  ∃ (S : List Int) (b : Bool) (i : Nat), i ≤ N ∧ v = .bool b ∧ vi = .int .i64 i ∧ Sms wr B N S ∧ Pass (gOf l) (szOf l) N C S ∧ (b = false → ∀ j, j < i → nS (gOf l) (szOf l) S j N = gt S j) ∧ gap C S N ≤ M ∧ (b = true → gap C S N < M) ∧ Below w0.heap.size w0 wr ∧ B < wr.heap.size
def CrIn (l : List Work) (S : List Int) (i N : Nat) (wb : World) (vn vk : Value) (wr : World) : Prop :=
  ∃ k : Nat, k ≤ N ∧ vk = .int .i64 k ∧ vn = .int .i64 (nS (gOf l) (szOf l) S i k) ∧ Below wb.heap.size wb wr
theorem nS_b {l : List Work} {S : List Int} {N : Nat} {C : Nat → Int} (h : Pass (gOf l) (szOf l) N C S) (hC : Crit (gOf l) (szOf l) N C) (hb : ∀ j, j < N → 0 ≤ C j ∧ C j ≤ 200000000) {i : Nat} (hi : i < N) (hs : 0 ≤ szOf l i) : ∀ k, k ≤ N → 0 ≤ nS (gOf l) (szOf l) S i k ∧ nS (gOf l) (szOf l) S i k ≤ 200000000 := fun k hk => by
  have a := nS_ge (g := gOf l) (sz := szOf l) S i k
  have up : ∀ n m, n ≤ m → nS (gOf l) (szOf l) S i n ≤ nS (gOf l) (szOf l) S i m := by
    intro n m
    induction m with
    | zero => intro h; obtain rfl : n = 0 := (by omega); exact Int.le_refl _
    | succ m ih =>
      intro h
      by_cases e : n = m + 1
      · subst e; exact Int.le_refl _
      · have := ih (by omega)
        have e2 : nS (gOf l) (szOf l) S i m ≤ nS (gOf l) (szOf l) S i (m + 1) := by
          rw [nS]
          split <;> omega
        omega
  have b := up k N hk
  have c := h.nS_le hC hi
  have d := hb i hi
  omega
open Classical in
set_option maxRecDepth 100000 in
set_option maxHeartbeats 16000000 in
theorem rcrit_any (A : Option Addr) (N c : Nat) (l : List Work) (w : World) (hl : SlAt RWork w A N l) (hok : WOk l) :
    Calls Tryd.prog 14 #[.slice A N c] w fun e w' => ∃ (B : Nat) (S : List Int), e = .returned (.slice (some ⟨B, 0, none⟩) N N) ∧ Sms w' B N S ∧ Crit (gOf l) (szOf l) N (gt S) ∧ (∀ k, k < N → 0 ≤ gt S k ∧ gt S k ≤ 200000000) ∧ w.heap.size ≤ B ∧ B < w'.heap.size ∧ Below w.heap.size w w' := by
  have hll := hl.1
  have hN2 : N ≤ 200 := by have := hok.len; omega
  obtain ⟨C, hC, hCb⟩ := hok.crit
  rw [hll] at hC hCb
  have hsz : ∀ i, i < N → 0 ≤ szOf l i ∧ szOf l i ≤ 1000000 := fun i hi => szOf_b hok i (by omega)
  have hmk := run_makeInts N (by omega)
  obtain ⟨B, hB⟩ : ∃ b, w.heap.size = b := ⟨_, rfl⟩
  obtain ⟨W1, hW1⟩ : ∃ X, w.alloc (.cells (madeI N) 3) = X := ⟨_, rfl⟩
  have hst : CrO l C B N w (.bool true) W1 := by
    refine ⟨List.replicate N 0, true, rfl, ?_, Pass.zero hC (fun i hi => (hsz i hi).1), (fun h => by cases h), ?_, ?_⟩
    · have := Sms.made w N
      rw [hW1, hB] at this
      exact this
    · rw [← hW1]; exact (Below.refl _ _).alloc (Nat.le_refl _) _
    · rw [← hW1]; simp; omega
  have hlH := Lib.hid hl
  clear hl
  have hllH := Lib.hid hll
  clear hll
  have hokH := Lib.hid hok
  clear hok
  have hCH := Lib.hid hC
  clear hC
  have hCbH := Lib.hid hCb
  clear hCb
  have hstH := Lib.hid hst
  clear hst
  go_enter Tryd.func14, Tryd.ntmps14
  go_wp2_with fail
  clear hW1 hmk
  go_loopw [4] (fun v wr => CrO l C B N w v wr) (fun v wr => 2 * gap C (rdI wr B N) N + bN v)
  case atStart => exact hstH.out
  case round =>
    clear hstH
    obtain ⟨S, b, rfl, hS, hP, hf, hb, hlt⟩ := hrel
    have hrd := rdI_eq hS
    cases b
    · have hcr := hP.fix (hf rfl)
      have hbd : ∀ k, k < N → 0 ≤ gt S k ∧ gt S k ≤ 200000000 := fun k hk => ⟨hP.nn k, Int.le_trans (hP.le k hk) (hCbH.out k hk).2⟩
      clear hP hf
      have hSH := Lib.hid hS
      clear hS
      have hbH := Lib.hid hb
      clear hb
      have hrdH := Lib.hid hrd
      clear hrd
      have hcrH := Lib.hid hcr
      clear hcr
      have hbdH := Lib.hid hbd
      clear hbd
      go_wp2
      go_ret
      exact ⟨B, S, rfl, hSH.out, hcrH.out, hbdH.out, by omega, hlt, hbH.out⟩
    · obtain ⟨M, hM⟩ : ∃ m, gap C S N = m := ⟨_, rfl⟩
      have hst : CrMd l C B N M w (.bool false) (.int .i64 0) wr := ⟨S, false, 0, Nat.zero_le _, rfl, rfl, hS, hP, (fun _ j hj => by omega), by omega, (fun h => by cases h), hb, hlt⟩
      have hM0 : 2 * gap C (rdI wr B N) N + bN (.bool true) = 2 * M + 1 := by rw [hrd, hM]; rfl
      clear hS hP hf hb hrd
      obtain ⟨wa, rfl⟩ : ∃ W, W = wr := ⟨_, rfl⟩
      have hstH := Lib.hid hst
      clear hst
      have hMH := Lib.hid hM
      clear hM
      have hM0H := Lib.hid hM0
      clear hM0
      go_wp2_with fail
      go_loopw [4, 16] (fun v vi wr => CrMd l C B N M w v vi wr) (fun _ vi _ => N - (intOf vi).toNat)
      case atStart => exact hstH.out
      case round =>
        clear hstH
        obtain ⟨S, b, i, hi, rfl, rfl, hS, hP, hf, hg1, hg2, hb, hlt⟩ := hrel
        have hll := hllH.out
        by_cases hli : i < N
        · obtain ⟨ab, off, hA, _⟩ := hlH.out.2.1 (by omega)
          subst hA
          obtain ⟨x, hx⟩ : ∃ x, l[i]? = some x := ⟨l[i]'(by omega), List.getElem?_eq_getElem _⟩
          obtain ⟨c0, c1, c2, c3⟩ := cells_Work (hlH.out.below hb) hx
          have hsx := szOf_get hx
          have hsxb := hsz i hli
          have hba := (Below.refl wr.heap.size wr).alloc (Nat.le_refl _) (.cells #[.string x.id_, .slice x.needs.A x.needs.n x.needs.cap, .int .i64 x.size, .slice x.after.A x.after.n x.after.cap] 44)
          obtain ⟨W2, hW2⟩ : ∃ Z, wr.alloc (.cells #[.string x.id_, .slice x.needs.A x.needs.n x.needs.cap, .int .i64 x.size, .slice x.after.A x.after.n x.after.cap] 44) = Z := ⟨_, rfl⟩
          have d0 : W2.cell? ⟨wr.heap.size, 0, none⟩ = some (.string x.id_) := by rw [← hW2]; exact cell_new _ _ _ 0
          have d2 : W2.cell? ⟨wr.heap.size, 2, none⟩ = some (.int .i64 x.size) := by rw [← hW2]; exact cell_new _ _ _ 2
          have hwc : wr.heap.size < W2.heap.size := by rw [← hW2]; simp
          rw [hW2] at hba
          have hin : CrIn l S i N W2 (.int .i64 x.size) (.int .i64 0) W2 := ⟨0, Nat.zero_le _, rfl, by rw [← hsx]; rfl, Below.refl _ _⟩
          have hnb := nS_b hP hCH.out hCbH.out hli hsxb.1
          obtain ⟨wc, rfl⟩ : ∃ W, W = wr := ⟨_, rfl⟩
          have hSH := Lib.hid hS
          clear hS
          have hPH := Lib.hid hP
          clear hP
          have hfH := Lib.hid hf
          clear hf
          have hbH := Lib.hid hb
          clear hb
          have hbaH := Lib.hid hba
          clear hba
          have hxH := Lib.hid hx
          clear hx
          have hsxH := Lib.hid hsx
          clear hsx
          have hinH := Lib.hid hin
          clear hin
          have hnbH := Lib.hid hnb
          clear hnb
          have hg1H := Lib.hid hg1
          clear hg1
          have hg2H := Lib.hid hg2
          clear hg2
          have hllH := Lib.hid hll
          clear hll
          go_wp2_with fail
          clear hW2
          go_loopw [7, 25] (fun vn vk wr => CrIn l S i N W2 vn vk wr) (fun _ vk _ => N - (intOf vk).toNat)
          case atStart => exact hinH.out
          case round =>
            clear hinH
            obtain ⟨k, hk, rfl, rfl, hbk⟩ := hrel
            have hbW := hbH.out.trans ((hbaH.out.trans (hbk.mono hbaH.out.size)).mono hbH.out.size)
            have hnk := hnbH.out k hk
            by_cases hlk : k < N
            · obtain ⟨y, hy⟩ : ∃ y, l[k]? = some y := ⟨l[k]'(by have := hllH.out; omega), List.getElem?_eq_getElem _⟩
              obtain ⟨e0, e1, e2, e3⟩ := cells_Work (hlH.out.below hbW) hy
              have hya := (hlH.out.2.2 y (List.mem_of_getElem? hy)).2.2.2
              have hyn : y.after.n ≤ 9223372036854775807 := Nat.le_trans hya.2.1 hya.2.2.1
              have hb4 := hbk.alloc hbk.size (.cells #[.string y.id_, .slice y.needs.A y.needs.n y.needs.cap, .int .i64 y.size, .slice y.after.A y.after.n y.after.cap] 44)
              have hn2 := hnbH.out (k + 1) (by omega)
              have hai := after_iff hokH.out hxH.out hy
              have hg := hSH.out.keep (w' := wr) (by rw [hbk.block _ (by have := hbaH.out.size; omega), hbaH.out.block _ hlt])
              obtain ⟨z, hz⟩ : ∃ z, S[k]? = some z := ⟨S[k]'(by rw [hSH.out.len]; exact hlk), List.getElem?_eq_getElem _⟩
              have hzb := hPH.out.nn k
              have hze := gt_get hz
              have hzl := hPH.out.le k hlk
              have hzc := hCbH.out k hlk
              rw [hze] at hzb hzl
              have hbks := hbk.size
              have hwr : wr.heap.size < (wr.alloc (.cells #[.string y.id_, .slice y.needs.A y.needs.n y.needs.cap, .int .i64 y.size, .slice y.after.A y.after.n y.after.cap] 44)).heap.size := by simp
              have f0 : (wr.alloc (.cells #[.string y.id_, .slice y.needs.A y.needs.n y.needs.cap, .int .i64 y.size, .slice y.after.A y.after.n y.after.cap] 44)).cell? ⟨B, k, none⟩ = some (.int .i64 z) := by
                exact (((Below.refl wr.heap.size wr).alloc (Nat.le_refl _) _).cell (p := ⟨B, k, none⟩) (by show B < _; omega)).trans (hg.cells k z hz).1
              have f1 : (wr.alloc (.cells #[.string y.id_, .slice y.needs.A y.needs.n y.needs.cap, .int .i64 y.size, .slice y.after.A y.after.n y.after.cap] 44)).cell? ⟨wc.heap.size, 0, none⟩ = some (.string x.id_) := (hb4.cell hwc).trans d0
              have f2 : (wr.alloc (.cells #[.string y.id_, .slice y.needs.A y.needs.n y.needs.cap, .int .i64 y.size, .slice y.after.A y.after.n y.after.cap] 44)).cell? ⟨wc.heap.size, 2, none⟩ = some (.int .i64 x.size) := (hb4.cell hwc).trans d2
              have hyw := ((RSl RStr).mono _ _ _ (hbH.out.trans ((hbaH.out.trans (hb4.mono hbaH.out.size)).mono hbH.out.size)) hya).1
              have hns : nS (gOf l) (szOf l) S i (k + 1) = if i ∈ gOf l k then max (nS (gOf l) (szOf l) S i k) (x.size + z) else nS (gOf l) (szOf l) S i k := by
                rw [nS, ← hze, ← hsxH.out]
              obtain ⟨nk, hnke⟩ : ∃ q, nS (gOf l) (szOf l) S i k = q := ⟨_, rfl⟩
              obtain ⟨nl, hnle⟩ : ∃ q, nS (gOf l) (szOf l) S i (k + 1) = q := ⟨_, rfl⟩
              rw [hnke] at hns hnk
              rw [hnle] at hns hn2
              have hsxc := hsxb
              have hynH := Lib.hid hyn
              clear hyn
              have hb4H := Lib.hid hb4
              clear hb4
              have hgH := Lib.hid hg
              clear hg
              have haiH := Lib.hid hai
              clear hai
              have hywH := Lib.hid hyw
              clear hyw
              have hyaH := Lib.hid hya
              clear hya
              have hbWH := Lib.hid hbW
              clear hbW
              have hnkeH := Lib.hid hnke
              clear hnke
              have hnleH := Lib.hid hnle
              clear hnle
              go_wp2_with fail
              refine (has_any y.after.A y.after.n y.after.cap y.after.l x.id_ _ hynH.out hywH.out).mono ?_
              rintro e w1 ⟨rfl, rfl⟩
              by_cases hm : x.id_ ∈ y.after.l
              · rw [if_pos (haiH.out.2 hm)] at hns
                rw [decide_eq_true hm]
                clear hm
                go_wp2_with fail
                have hw6 : wrap64 (x.size + z) = x.size + z := IntWalk.wrap64_in _ (by have := hsxH.out; omega)
                have R : ∀ nq, CrIn l S i N W2 (.int .i64 (max (nS (gOf l) (szOf l) S i k) (wrap64 (x.size + z)))) (.int .i64 ((k : Int) + 1)) ((wr.alloc (.cells #[.string y.id_, .slice y.needs.A y.needs.n y.needs.cap, .int .i64 y.size, .slice y.after.A y.after.n y.after.cap] 44)).drewN nq) := by
                  refine fun nq => ⟨k + 1, by omega, by go_num, congrArg (Value.int .i64) ?_, bel_drewN hb4H.out nq⟩
                  rw [hw6, hnleH.out, hns, hnkeH.out]
                clear hns hnk hn2 hw6
                have RH := Lib.hid R
                clear R
                go_quiet (fail)
                go_wp2
                exact ⟨RH.out _, by simp [intOf]; omega⟩
              · rw [if_neg (fun h => hm (haiH.out.1 h))] at hns
                rw [decide_eq_false hm]
                have R : CrIn l S i N W2 (.int .i64 (nS (gOf l) (szOf l) S i k)) (.int .i64 ((k : Int) + 1)) (wr.alloc (.cells #[.string y.id_, .slice y.needs.A y.needs.n y.needs.cap, .int .i64 y.size, .slice y.after.A y.after.n y.after.cap] 44)) := by
                  refine ⟨k + 1, by omega, by go_num, congrArg (Value.int .i64) ?_, hb4H.out⟩
                  rw [hnleH.out, hns, hnkeH.out]
                clear hm hns hnk hn2
                have RH := Lib.hid R
                clear R
                go_wp2_with fail
                exact ⟨RH.out, by simp [intOf]; omega⟩
            · obtain rfl : k = N := by omega
              have hS2 := hSH.out.keep (w' := wr) (by rw [hbk.block _ (by have := hbaH.out.size; omega), hbaH.out.block _ hlt])
              obtain ⟨z, hz⟩ : ∃ z, S[i]? = some z := ⟨S[i]'(by rw [hSH.out.len]; exact hli), List.getElem?_eq_getElem _⟩
              have hze := gt_get hz
              obtain ⟨f0, f1⟩ := hS2.cells i z hz
              have hpre := hPH.out.pre i hli
              have hle := hPH.out.nS_le hCH.out hli
              have hlS : i < S.length := by rw [hSH.out.len]; exact hli
              by_cases hne : nS (gOf l) (szOf l) S i k = z
              · have R : CrMd l C B k M w (.bool b) (.int .i64 ((i : Int) + 1)) wr := by
                  refine ⟨S, b, i + 1, by omega, rfl, by go_num, hS2, hPH.out, fun hb j hj => ?_, hg1H.out, hg2H.out, hbW, by have := hbaH.out.size; have := hbk.size; omega⟩
                  by_cases e : j = i
                  · subst e; rw [hne, hze]
                  · exact hfH.out hb j (by omega)
                rw [hne]
                clear hne hS2 hpre hle
                have RH := Lib.hid R
                clear R
                go_wp2_with fail
                exact ⟨RH.out, by simp [intOf]; omega⟩
              · obtain ⟨g1, g2⟩ := gap_set hlS (x := nS (gOf l) (szOf l) S i k) (by omega) hle k
                have R : CrMd l C B k M w (.bool true) (.int .i64 ((i : Int) + 1)) (wr.setCell ⟨B, i, none⟩ (.int .i64 (nS (gOf l) (szOf l) S i k))) := by
                  have := g2 hli
                  have := hg1H.out
                  refine ⟨_, true, i + 1, by omega, rfl, by go_num, hS2.put hli _, hPH.out.put hCH.out (fun i hi => (hsz i hi).1) hli, (fun h => by cases h), by omega, fun _ => by omega, hbW.setCell (by show w.heap.size ≤ B; omega) _, by have := hbaH.out.size; have := hbk.size; simp; omega⟩
                clear hS2 hpre hle g1 g2
                have hne2 : decide (nS (gOf l) (szOf l) S i k = z) = false := decide_eq_false hne
                have RH := Lib.hid R
                clear R
                go_wp2_with fail
                exact ⟨RH.out, by simp [intOf]; omega⟩
        · obtain rfl : i = N := by omega
          have R : CrO l C B i w (.bool b) wr := ⟨S, b, rfl, hS, hP, hf, hb, hlt⟩
          have R2 : 2 * gap C (rdI wr B i) i + bN (.bool b) < 2 * M + 1 := by
            rw [rdI_eq hS]
            cases b
            · show 2 * _ + 0 < _; omega
            · have := hg2 rfl; show 2 * _ + 1 < _; omega
          clear hS hP hf hg1 hg2 hb
          have RH := Lib.hid R
          clear R
          have R2H := Lib.hid R2
          clear R2
          go_wp2
          rw [hM0H.out]
          exact ⟨RH.out, R2H.out⟩
end Go.Proofs.YtbapkhkklglbaaaDoor.C9
