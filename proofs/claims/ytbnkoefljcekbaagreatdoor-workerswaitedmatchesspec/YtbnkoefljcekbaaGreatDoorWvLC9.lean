/-
 Several texts of mine as one, without what is not wanted here: XVm, XVw.
-/
import Derived.Test.YtbnkoefljcekbaaGreatDoorWvKC9
import Derived.Sort.OwnSortedInts
import Derived.Lib.SlicesCompact
namespace Go.Proofs.YtbnkoefljcekbaaGreatDoor.C9
open Go.ChangeShapes Go.WideShapes Go.Deep Go.RowKit Go.Maps
set_option linter.unusedVariables false
set_option linter.unusedSimpArgs false

theorem mem_compact_iff {zs : List Int} {x : Int} : x ∈ Lib.compact zs ↔ x ∈ zs := by
 constructor
 ·intro h
  unfold Lib.compact Lib.compactUpTo at h
  obtain ⟨i, hi, rfl⟩ := List.mem_map.1 h
  have hi' : i < zs.length := List.mem_range.1 (List.mem_filter.1 hi).1
  simp [getElem!_pos, hi']
 ·intro h
  obtain ⟨i, hi⟩ := List.getElem?_of_mem h
  have key : ∀ i, i < zs.length → zs.toArray[i]! ∈ Lib.compact zs := by
   intro i
   induction i with
   | zero => intro hi; exact List.mem_map.2 ⟨0, List.mem_filter.2 ⟨List.mem_range.2 hi, Lib.keeps_lt_one _ _ (by omega)⟩, rfl⟩
   | succ i ih =>
    intro hi
    by_cases e : zs.toArray[i + 1]! = zs.toArray[i]!
    ·rw [e]; exact ih (by omega)
    ·exact List.mem_map.2 ⟨i + 1, List.mem_filter.2 ⟨List.mem_range.2 hi, Lib.keeps_pos (by simpa using e)⟩, rfl⟩
  obtain ⟨h1, h2⟩ := List.getElem?_eq_some_iff.1 hi
  have h3 := key i h1
  have h4 : zs.toArray[i]! = x := by rw [← h2]; simp [getElem!_pos, h1]
  rwa [h4] at h3
theorem compact_len (zs : List Int) : (Lib.compact zs).length ≤ zs.length := by
 unfold Lib.compact Lib.compactUpTo
 rw [List.length_map]
 exact Nat.le_trans (List.length_filter_le _ _) (by rw [List.length_range]; exact Nat.le_refl _)
theorem flat_int (L : List Int) : L.flatMap RInt.vals = L.map (Value.int .i64) := by
 induction L with
 | nil => rfl
 | cons x L ih => rw [List.flatMap_cons, ih]; rfl
theorem grow_none (w : World) : Go.Sort.grow w #[] = w := by
 unfold Go.Sort.grow
 simp
theorem sortI_own (g n cap base : Nat) (L : List Int) (w : World) (hO : Own RInt 3 w base (.slice (some ⟨g, 0, none⟩) n cap) L) (hn : n ≤ 1000000) :
  Calls Tryz.prog 109 #[.slice (some ⟨g, 0, none⟩) n cap] w fun e w' => e = .returned (.tuple #[]) ∧ Own RInt 3 w' base (.slice (some ⟨g, 0, none⟩) n cap) (L.mergeSort fun a b => decide (a ≤ b)) ∧ w.grownBy w' (some g) := by
 obtain ⟨cur, a, b, c, d, e1, f, hl⟩ := own_open hO
 rw [flat_int] at f
 have e1' : cur.size = cap * 1 := e1
 have f' : cur.toList.take L.length = L.map (Value.int .i64) := by rw [hl, ← f]; show _ = cur.toList.take (n * 1); rw [Nat.mul_one]
 have hH := holds_of_blockI b f'
 have hlt : g < w.heap.size := (hO.1.lt g rfl).2
 subst hl
 refine (Tryz.slices_Sort_int g 0 cap L w hH hlt (by omega)).mono ?_
 rintro e w' ⟨rfl, n', os, rfl⟩
 refine ⟨rfl, ⟨?_, fun z hz => hO.2 z ((List.mergeSort_perm _ _).mem_iff.1 hz)⟩, grownBy_sortedI _⟩
 have h1 := ownsRow_sortedI (n := n') (os := os) (ts := L.mergeSort fun a b => decide (a ≤ b)) (List.length_mergeSort _) a b c d e1'
 rw [flat_int, List.length_mergeSort]
 exact h1
theorem compactI_own (g n cap base : Nat) (L : List Int) (w : World) (hO : Own RInt 3 w base (.slice (some ⟨g, 0, none⟩) n cap) L) (hn : n ≤ 1000000) (hz : ∀ x ∈ L, I64 x) :
  Calls Tryz.prog 110 #[.slice (some ⟨g, 0, none⟩) n cap] w fun e w' => e = .returned (.slice (some ⟨g, 0, none⟩) (Lib.compact L).length cap) ∧ Own RInt 3 w' base (.slice (some ⟨g, 0, none⟩) (Lib.compact L).length cap) (Lib.compact L) ∧ w.grownBy w' (some g) := by
 obtain ⟨cur, a, b, c, d, e1, f, hl⟩ := own_open hO
 rw [flat_int] at f
 have e1' : cur.size = cap * 1 := e1
 have f' : cur.toList.take L.length = L.map (Value.int .i64) := by rw [hl, ← f]; show _ = cur.toList.take (n * 1); rw [Nat.mul_one]
 have hH := holds_of_blockI b f'
 have hlc := compact_len L
 subst hl
 refine (Tryz.slices_Compact_int g 0 cap L w hH (by omega) c).mono ?_
 rintro e w' ⟨rfl, q, rfl⟩
 have hts : (Lib.compact L ++ List.replicate (L.length - (Lib.compact L).length) (0 : Int)).length = L.length := by rw [List.length_append, List.length_replicate]; omega
 have h1 := ownsRow_sortedI (n := q) (os := #[]) (ts := Lib.compact L ++ List.replicate (L.length - (Lib.compact L).length) (0 : Int)) hts a b c d e1'
 have h2 := grownBy_sortedI (w := w) (g := g) (n := q) (os := #[]) (Lib.compact L ++ List.replicate (L.length - (Lib.compact L).length) (0 : Int)).toArray
 rw [grow_none] at h1 h2
 refine ⟨rfl, ?_, h2⟩
 have h3 : Own RInt 3 (Go.Sort.putRow (Value.int .i64) (Go.Sort.ahead w q) g 0 (Lib.compact L ++ List.replicate (L.length - (Lib.compact L).length) (0 : Int)).toArray) base (.slice (some ⟨g, 0, none⟩) L.length cap) (Lib.compact L ++ List.replicate (L.length - (Lib.compact L).length) (0 : Int)) := by
  refine ⟨by rw [flat_int, hts]; exact h1, fun z hz' => ?_⟩
  rcases List.mem_append.1 hz' with hz' | hz'
  ·exact hz z (mem_compact_iff.1 hz')
  ·rw [(List.mem_replicate.1 hz').2]; show I64 0; unfold I64; omega
 have h4 := own_cut h3 hlc
 rwa [List.take_left] at h4
def Rm1 (x : Farm) (M : Nat) (W1 : World) (v i : Value) (wr : World) : Prop :=
 ∃ (k : Nat) (A : Option Addr) (c : Nat), k ≤ M ∧ i = .int .i64 k ∧ v = .slice A (k + 1) c ∧ Own RInt 3 wr W1.heap.size v (0 :: (x.workers.l.take k).map (·.from_)) ∧ Below W1.heap.size W1 wr
def Rm2 (x : Farm) (l : List Run) (M n : Nat) (W1 : World) (v i : Value) (wr : World) : Prop :=
 ∃ (k m : Nat) (A : Option Addr) (c : Nat), k ≤ n ∧ i = .int .i64 k ∧ v = .slice A m c ∧ m = M + 1 + k ∧ Own RInt 3 wr W1.heap.size v (0 :: x.workers.l.map (·.from_) ++ (l.take k).map (·.to_)) ∧ Below W1.heap.size W1 wr
def RmAns (x : Farm) (l : List Run) (w : World) (e : Ending) (w' : World) : Prop :=
 ∃ (A : Option Addr) (m c : Nat) (L : List Int), e = .returned (.slice A m c) ∧ Own RInt 3 w' w.heap.size (.slice A m c) L ∧ (∀ z, z ∈ L ↔ z ∈ momR x l) ∧ m ≤ 10000 ∧ Below w.heap.size w w'
theorem slAt_newH {α : Type} {R : Rd α} (w : World) (e : TypeId) (x : α) (hok : R.ok w x) (b : Nat) (hb : w.heap.size = b) : SlAt R (w.alloc (.cells (R.vals x).toArray e)) (some ⟨b, 0, none⟩) 1 [x] := by
 subst hb; exact slAt_new w e x hok
theorem elem_IntV : Elem Tryz.prog 3 RInt.size 8 := elem_of (z := .int .i64 0) (by kernel_rfl) (by decide)
set_option maxRecDepth 100000 in
set_option maxHeartbeats 8000000 in
theorem rmoments_any (x : Farm) (A : Option Addr) (n cap : Nat) (l : List Run) (w : World) (hx : RFarm.ok w x) (hl : SlAt RRun w A n l) (hn : n ≤ 4000) (hM2 : x.workers.n ≤ 50) :
  Calls Tryz.prog 66 #[farmV x, .slice A n cap] w (RmAns x l w) := by
 unfold farmV
 have hM : x.workers.n = x.workers.l.length := hx.1.1.1.symm
 have hws := hx.1.1
 obtain ⟨M, hMe⟩ : ∃ m, x.workers.n = m := ⟨_, rfl⟩
 obtain ⟨wA, hwA⟩ : ∃ m, x.workers.A = m := ⟨_, rfl⟩
 obtain ⟨wc, hwc⟩ : ∃ m, x.workers.cap = m := ⟨_, rfl⟩
 obtain ⟨Z, hZ⟩ : ∃ Z, RmAns x l w = Z := ⟨_, rfl⟩
 rw [hZ]
 rw [hMe] at hM2 hws hM ⊢
 rw [hwA] at hws ⊢
 rw [hwc]
 obtain ⟨W1, hW1⟩ : ∃ Y, w.alloc (.cells #[.slice wA M wc, .slice x.works.A x.works.n x.works.cap, .slice x.lost.A x.lost.n x.lost.cap, .int .i64 x.tries, .bool x.doubles] 26) = Y := ⟨_, rfl⟩
 obtain ⟨xb, hxb⟩ : ∃ b, w.heap.size = b := ⟨_, rfl⟩
 have hba : Below w.heap.size w W1 := by rw [← hW1]; exact (Below.refl _ _).alloc (Nat.le_refl _) _
 have c0 : W1.cell? ⟨xb, 0, none⟩ = some (.slice wA M wc) := by rw [← hW1, ← hxb]; exact cell_new _ _ _ 0
 have hws := hws.below hba
 have hl1 := hl.below hba
 have hll := hl1.1
 obtain ⟨W2, hW2⟩ : ∃ Y, W1.alloc (.cells #[.int .i64 0] 3) = Y := ⟨_, rfl⟩
 have hob : W1.heap.size = xb + 1 := by rw [← hW1, ← hxb]; simp
 have hb2 : Below W1.heap.size W1 W2 := by rw [← hW2]; exact (Below.refl _ _).alloc (Nat.le_refl _) _
 have hown0 : Own RInt 3 W2 W1.heap.size (.slice (some ⟨xb + 1, 0, none⟩) 1 1) [0] := by
  refine own_make (cur := #[.int .i64 0]) (Nat.le_of_eq hob) ?_ (by omega) (by unfold maxLen; omega) rfl rfl rfl (fun z hz => ?_)
  ·rw [← hW2, ← hob]; exact heap_alloc_new W1 _
  ·rw [List.mem_singleton.1 hz]; show I64 0; unfold I64; omega
 have hst : Rm1 x M W1 (.slice (some ⟨xb + 1, 0, none⟩) 1 1) (.int .i64 0) W2 := ⟨0, _, _, Nat.zero_le _, rfl, rfl, by rw [List.take_zero]; exact hown0, hb2⟩
 have c0 := keepC hb2 c0
 have hZH := Lib.hid hZ
 clear hZ
 have hxH := Lib.hid hx
 clear hx
 have hW1H := Lib.hid hW1
 clear hW1
 have hxbH := Lib.hid hxb
 clear hxb
 have hbaH := Lib.hid hba
 clear hba
 have hwsH := Lib.hid hws
 clear hws
 have hl1H := Lib.hid hl1
 clear hl1
 have hlH := Lib.hid hl
 clear hl
 have hllH := Lib.hid hll
 clear hll
 have hMH := Lib.hid hM
 clear hM
 have hMeH := Lib.hid hMe
 clear hMe
 have hwAH := Lib.hid hwA
 clear hwA
 have hwcH := Lib.hid hwc
 clear hwc
 have hW2H := Lib.hid hW2
 clear hW2
 have hobH := Lib.hid hob
 clear hob
 have hb2H := Lib.hid hb2
 clear hb2
 have hstH := Lib.hid hst
 clear hst
 have hown0H := Lib.hid hown0
 clear hown0
 go_enter Tryz.func66, Tryz.ntmps66
 go_wp2_with fail
 simp only [hW1H.out, hxbH.out, hW2H.out, hobH.out]
 go_wp2_with fail
 clear c0
 go_loopw [5, 14] (fun v i wr => Rm1 x M W1 v i wr) (fun _ i _ => M - (intOf i).toNat)
 case atStart => exact hstH.out
 case round =>
  clear hstH
  obtain ⟨k, A1, c1, hk, rfl, rfl, hown, hb⟩ := hrel
  have hbs := hb.size
  by_cases hlt : k < M
  ·have hwsk := hwsH.out.below hb
   obtain ⟨bw, ow, hA8, _⟩ := hwsk.2.1 (by omega)
   subst hA8
   obtain ⟨y, hy⟩ : ∃ y, x.workers.l[k]? = some y := ⟨x.workers.l[k]'(by have := hMH.out; omega), List.getElem?_eq_getElem _⟩
   obtain ⟨e0, e1, e2, e3, e4, e5, e6⟩ := cells_Worker hwsk hy
   have hyo := hwsk.2.2 y (List.mem_of_getElem? hy)
   have hfm : I64 y.from_ := hyo.2.2.2.2.1
   have htk : (0 : Int) :: (x.workers.l.take (k + 1)).map (·.from_) = (0 :: (x.workers.l.take k).map (·.from_)) ++ [y.from_] := by rw [List.take_add_one, hy, Option.toList_some, List.map_append]; rfl
   obtain ⟨l3, hl3⟩ : ∃ l3, (0 : Int) :: (x.workers.l.take k).map (·.from_) = l3 := ⟨_, rfl⟩
   rw [hl3] at hown htk
   have hl3n : l3.length = k + 1 := hown.len
   have hend : ∀ (A' : Option Addr) (c' : Nat) (W : World), Own RInt 3 W W1.heap.size (.slice A' (k + 2) c') (l3 ++ [y.from_]) → Below W1.heap.size W1 W → Rm1 x M W1 (.slice A' (k + 2) c') (.int .i64 ((k : Int) + 1)) W := fun A' c' W h1 h2 => ⟨k + 1, A', c', hlt, by go_num, rfl, by rw [htk]; exact h1, h2⟩
   obtain ⟨ynm, yh, ysl, ysp, yfr, yto, yst⟩ := y
   simp only at e0 e1 e2 e3 e4 e5 e6 hfm hend
   have hb5 := hb.alloc hbs (.cells #[.string ynm, .slice yh.A yh.n yh.cap, .int .i64 ysl, .int .i64 ysp, .int .i64 yfr, .int .i64 yto, .slice yst.A yst.n yst.cap] 84)
   have hown5 := hown.alloc (.cells #[.string ynm, .slice yh.A yh.n yh.cap, .int .i64 ysl, .int .i64 ysp, .int .i64 yfr, .int .i64 yto, .slice yst.A yst.n yst.cap] 84)
   have hnw := slAt_newH (R := RInt) (wr.alloc (.cells #[.string ynm, .slice yh.A yh.n yh.cap, .int .i64 ysl, .int .i64 ysp, .int .i64 yfr, .int .i64 yto, .slice yst.A yst.n yst.cap] 84)) 3 yfr hfm (wr.heap.size + 1) (by simp)
   have hsz5 := hb5.size
   clear hown
   have hbH := Lib.hid hb
   clear hb
   have hyH := Lib.hid hy
   clear hy
   have hyoH := Lib.hid hyo
   clear hyo
   have htkH := Lib.hid htk
   clear htk
   have hl3H := Lib.hid hl3
   clear hl3
   have hl3nH := Lib.hid hl3n
   clear hl3n
   have hendH := Lib.hid hend
   clear hend
   have hb5H := Lib.hid hb5
   clear hb5
   have hown5H := Lib.hid hown5
   clear hown5
   have hnwH := Lib.hid hnw
   clear hnw
   have hsz5H := Lib.hid hsz5
   clear hsz5
   have hfmH := Lib.hid hfm
   clear hfm
   have hwskH := Lib.hid hwsk
   clear hwsk
   go_wp2_with (at_builtin; go_loud (refine wpList_app rfl (.tmp 18) (.tmp 21) 56 rfl Tryz.underlying56 elem_IntV (by decide) rfl (hown5H.out.alloc _) (some ⟨wr.heap.size + 1, 0, none⟩) 1 1 [yfr] rfl hnwH.out ?nn ?ok ?c1 ?c2 ?c3 (k + 2) ?c4 ?_))
   try (case nn => (intro h; cases h))
   case ok => exact fun _ _ _ _ h => h
   case c1 => rw [hl3nH.out]; simp [maxLen] <;> omega
   case c2 => rw [hl3nH.out]; omega
   case c3 => have := hsz5H.out; simp at this ⊢; omega
   case c4 => rw [hl3nH.out]
   intro A' c' w9 hown9 hg9 hat9 hb9
   have R := hendH.out A' c' w9 hown9 ((hb5H.out.alloc hsz5H.out _).trans hb9)
   clear hg9 hat9 hb9 hown9
   have RH := Lib.hid R
   clear R
   go_wp2
   refine ⟨?rel, ?measure⟩
   case measure => (simp [intOf]; omega)
   case rel => first | exact RH.out | exact ⟨rfl, RH.out⟩ | ((try refine ⟨rfl, ?_⟩); (repeat apply Exists.intro); refine ⟨RH.out, ?_⟩; ((repeat' apply And.intro) <;> rfl))
  ·obtain rfl : k = M := by omega
   have e : x.workers.l.take k = x.workers.l := List.take_of_length_le (by have := hMH.out; omega)
   rw [e] at hown
   have hst2 : Rm2 x l k n W1 (.slice A1 (k + 1) c1) (.int .i64 0) wr := ⟨0, k + 1, A1, c1, Nat.zero_le _, rfl, rfl, rfl, by rw [List.take_zero, List.map_nil, List.append_nil]; exact hown, hb⟩
   clear e hown
   have hbH := Lib.hid hb
   clear hb
   have hst2H := Lib.hid hst2
   clear hst2
   go_wp2_with fail
   obtain ⟨wa, rfl⟩ : ∃ W, W = wr := ⟨_, rfl⟩
   go_loopw [5, 26] (fun v i wq => Rm2 x l k n W1 v i wq) (fun _ i _ => n - (intOf i).toNat)
   case atStart => exact hst2H.out
   case round =>
    clear hst2H
    obtain ⟨q, m, A3, c3, hq, rfl, rfl, hm, hown, hbq⟩ := hrel
    have hbqs := hbq.size
    by_cases hlt2 : q < n
    ·have hslq := hl1H.out.below hbq
     obtain ⟨bl, ol, hA8, _⟩ := hslq.2.1 (by omega)
     subst hA8
     obtain ⟨r, hr⟩ : ∃ r, l[q]? = some r := ⟨l[q]'(by have := hllH.out; omega), List.getElem?_eq_getElem _⟩
     obtain ⟨e0, e1, e2, e3, e4⟩ := cells_Run hslq hr
     have hro := hslq.2.2 r (List.mem_of_getElem? hr)
     have hto : I64 r.to_ := hro.2.2.2.1
     have htk : (0 : Int) :: x.workers.l.map (·.from_) ++ (l.take (q + 1)).map (·.to_) = (0 :: x.workers.l.map (·.from_) ++ (l.take q).map (·.to_)) ++ [r.to_] := by rw [List.take_add_one, hr, Option.toList_some, List.map_append, ← List.append_assoc]; rfl
     obtain ⟨l3, hl3⟩ : ∃ l3, (0 : Int) :: x.workers.l.map (·.from_) ++ (l.take q).map (·.to_) = l3 := ⟨_, rfl⟩
     rw [hl3] at hown htk
     have hl3n : l3.length = m := hown.len
     have hend : ∀ (A' : Option Addr) (c' : Nat) (W : World), Own RInt 3 W W1.heap.size (.slice A' (m + 1) c') (l3 ++ [r.to_]) → Below W1.heap.size W1 W → Rm2 x l k n W1 (.slice A' (m + 1) c') (.int .i64 ((q : Int) + 1)) W := fun A' c' W h1 h2 => ⟨q + 1, m + 1, A', c', hlt2, by go_num, rfl, by omega, by rw [htk]; exact h1, h2⟩
     have hm6 : m ≤ 6000 := by omega
     clear hm
     obtain ⟨rid, rwk, rfm, rto, ren⟩ := r
     simp only at e0 e1 e2 e3 e4 hto hend
     have hb5 := hbq.alloc hbqs (.cells #[.string rid, .string rwk, .int .i64 rfm, .int .i64 rto, .int .i64 ren] 34)
     have hown5 := hown.alloc (.cells #[.string rid, .string rwk, .int .i64 rfm, .int .i64 rto, .int .i64 ren] 34)
     have hnw := slAt_newH (R := RInt) (wr.alloc (.cells #[.string rid, .string rwk, .int .i64 rfm, .int .i64 rto, .int .i64 ren] 34)) 3 rto hto (wr.heap.size + 1) (by simp)
     have hsz5 := hb5.size
     clear hown
     have hbqH := Lib.hid hbq
     clear hbq
     have hrH := Lib.hid hr
     clear hr
     have hroH := Lib.hid hro
     clear hro
     have htkH := Lib.hid htk
     clear htk
     have hl3H := Lib.hid hl3
     clear hl3
     have hl3nH := Lib.hid hl3n
     clear hl3n
     have hendH := Lib.hid hend
     clear hend
     have hb5H := Lib.hid hb5
     clear hb5
     have hown5H := Lib.hid hown5
     clear hown5
     have hnwH := Lib.hid hnw
     clear hnw
     have hsz5H := Lib.hid hsz5
     clear hsz5
     have htoH := Lib.hid hto
     clear hto
     have hslqH := Lib.hid hslq
     clear hslq
     go_wp2_with (at_builtin; go_loud (refine wpList_app rfl (.tmp 30) (.tmp 33) 56 rfl Tryz.underlying56 elem_IntV (by decide) rfl (hown5H.out.alloc _) (some ⟨wr.heap.size + 1, 0, none⟩) 1 1 [rto] rfl hnwH.out ?mm ?ok2 ?d1 ?d2 ?d3 (m + 1) ?d4 ?_))
     try (case mm => (intro h; cases h))
     case ok2 => exact fun _ _ _ _ h => h
     case d1 => rw [hl3nH.out]; simp [maxLen] <;> omega
     case d2 => rw [hl3nH.out]; omega
     case d3 => have := hsz5H.out; simp at this ⊢; omega
     case d4 => rw [hl3nH.out]
     intro A' c' w9 hown9 hg9 hat9 hb9
     have R := hendH.out A' c' w9 hown9 ((hb5H.out.alloc hsz5H.out _).trans hb9)
     clear hg9 hat9 hb9 hown9
     have RH := Lib.hid R
     clear R
     go_wp2
     refine ⟨?rel, ?measure⟩
     case measure => (simp [intOf]; omega)
     case rel => first | exact RH.out | exact ⟨rfl, RH.out⟩ | ((try refine ⟨rfl, ?_⟩); (repeat apply Exists.intro); refine ⟨RH.out, ?_⟩; ((repeat' apply And.intro) <;> rfl))
    ·obtain rfl : q = n := by omega
     have e : l.take q = l := List.take_of_length_le (by have := hllH.out; omega)
     rw [e] at hown
     have hm6 : m ≤ 6000 := by omega
     have hm0 : 0 < m := by omega
     obtain ⟨L0, hL0⟩ : ∃ L0, (0 : Int) :: x.workers.l.map (·.from_) ++ l.map (·.to_) = L0 := ⟨_, rfl⟩
     rw [hL0] at hown
     have hown' := own_base hown hbaH.out.size
     obtain ⟨g, rfl⟩ : ∃ g, A3 = some ⟨g, 0, none⟩ := by
      rcases hown'.1.2 with ⟨h1, _⟩ | ⟨g, cp, cur, h1, _⟩
      ·injection h1 with _ h2 _
       omega
      ·injection h1 with h1 _ _
       exact ⟨g, h1⟩
     have hgb : w.heap.size ≤ g := (hown'.1.lt g rfl).1
     clear e hm hown
     have hbqH := Lib.hid hbq
     clear hbq
     have hown'H := Lib.hid hown'
     clear hown'
     have hL0H := Lib.hid hL0
     clear hL0
     have hgbH := Lib.hid hgb
     clear hgb
     go_wp2_with fail
     refine (sortI_own g m c3 w.heap.size L0 wr hown'H.out (by omega)).mono ?_
     rintro e w6 ⟨rfl, ho6, hg6⟩
     have ho6H := Lib.hid ho6
     clear ho6
     have hg6H := Lib.hid hg6
     clear hg6
     go_wp2_with fail
     refine (compactI_own g m c3 w.heap.size _ w6 ho6H.out (by omega) (fun z hz => ho6H.out.2 z hz)).mono ?_
     rintro e w7 ⟨rfl, ho7, hg7⟩
     have hl7 := compact_len (L0.mergeSort fun a b => decide (a ≤ b))
     rw [List.length_mergeSort, hown'H.out.len] at hl7
     have hbw := hbaH.out.trans (hbqH.out.mono hbaH.out.size)
     have hb6 : Below w.heap.size w w6 := hbw.grown hg6H.out hbw.size (fun b hb => by injection hb with hb; rw [← hb]; exact hgbH.out)
     have hb7 : Below w.heap.size w w7 := hb6.grown hg7 hb6.size (fun b hb => by injection hb with hb; rw [← hb]; exact hgbH.out)
     obtain ⟨L7, hL7⟩ : ∃ L7, Lib.compact (L0.mergeSort fun a b => decide (a ≤ b)) = L7 := ⟨_, rfl⟩
     rw [hL7] at ho7 hl7 ⊢
     have R : Z (.returned (.slice (some ⟨g, 0, none⟩) L7.length c3)) w7 := by
      rw [← hZH.out]
      refine ⟨_, _, _, L7, rfl, ho7, fun z => ?_, by omega, hb7⟩
      rw [← hL7, mem_compact_iff, (List.mergeSort_perm _ _).mem_iff, ← hL0H.out]
      unfold momR
      exact Iff.rfl
     clear hL7 ho7 hg7 hb6 hb7 hbw
     have RH := Lib.hid R
     clear R
     have hl7H := Lib.hid hl7
     clear hl7
     go_wp2
     exact RH.out
end Go.Proofs.YtbnkoefljcekbaaGreatDoor.C9

namespace Go.Proofs.YtbnkoefljcekbaaGreatDoor.C9
open Go.ChangeShapes Go.WideShapes Go.Deep Go.RowKit Go.Maps
set_option linter.unusedVariables false
set_option linter.unusedSimpArgs false

def YnAns (b : Bool) (w : World) (e : Ending) (w' : World) : Prop := e = .returned (.bool b) ∧ Below w.heap.size w w'
def Vw1 (l : List Run) (af : List ByteArray) (t : Int) (W2 : World) (i : Value) (wr : World) : Prop := ∃ k : Nat, k ≤ af.length ∧ i = .int .i64 k ∧ (af.take k).all (fun s => dnB l s t) = true ∧ Below W2.heap.size W2 wr
def rnT (t : Int) (r : Run) : Bool := decide (r.from_ ≤ t) && decide (t < r.to_)
def lsT (t : Int) (r : Run) : Bool := decide (r.end_ = 2) && decide (r.to_ ≤ t)
def Vw2 (R : List Run) (t : Int) (n : Nat) (W2 : World) (lo i : Value) (wr : World) : Prop := ∃ k c : Nat, k ≤ n ∧ i = .int .i64 k ∧ lo = .int .i64 c ∧ c ≤ k ∧ (R.take k).countP (lsT t) = c ∧ (R.take k).any (rnT t) = false ∧ Below W2.heap.size W2 wr
theorem wtB_rows {tries : Int} {l R : List Run} {z : Work} {t : Int} (hR : R = l.filter fun r => decide (r.id_ = z.id_)) : wtB tries l z t = (z.after.l.all (fun s => dnB l s t) && (!dnB l z.id_ t && (!R.any (rnT t) && decide ((R.countP (lsT t) : Int) < tries)))) := by
 have h1 : rnB l z.id_ t = R.any (rnT t) := by
  rw [hR, List.any_filter]; rfl
 have h2 : lsN l z.id_ t = R.countP (lsT t) := by
  rw [hR, List.countP_filter]
  unfold lsN lsT
  refine countP_eq_of fun r _ => ?_
  cases decide (r.id_ = z.id_) <;> cases decide (r.end_ = 2) <;> cases decide (r.to_ ≤ t) <;> rfl
 unfold wtB
 rw [h1, h2]
 cases z.after.l.all (fun s => dnB l s t) <;> cases dnB l z.id_ t <;> cases R.any (rnT t) <;> simp
set_option maxRecDepth 100000 in
set_option maxHeartbeats 8000000 in
theorem rwaits_any (x : Farm) (z : Work) (ix : Nat) (A : Option Addr) (n cap : Nat) (l R : List Run) (B : Nat) (t : Int) (w : World) (hx : RFarm.ok w x) (hz : x.works.l[ix]? = some z) (hl : SlAt RRun w A n R) (hn : n ≤ 4000)
  (hok : FarmOk x) (hR : R = l.filter fun r => decide (r.id_ = z.id_)) (hto : ∀ r ∈ l, 0 ≤ r.to_) (hD : IRow w B x.works.n (fun k => dmL l (woOf x k).id_)) (b : Bool) (hb : wtB x.tries l z t = b) :
  Calls Tryz.prog 68 #[farmV x, .agg #[.string z.id_, .slice z.needs.A z.needs.n z.needs.cap, .int .i64 z.size, .slice z.after.A z.after.n z.after.cap], .slice A n cap, .slice (some ⟨B, 0, none⟩) x.works.n x.works.n, .int .i64 t] w (YnAns b w) := by
 unfold farmV
 rw [wtB_rows hR] at hb
 have hN : x.works.n = x.works.l.length := hx.2.1.1.1.symm
 have hN2 : x.works.n ≤ 200 := by have := hok.wo.len; omega
 have hxs := hx.2.1.1
 have hzok := hxs.2.2 z (List.mem_of_getElem? hz)
 have hzl := (List.getElem?_eq_some_iff.1 hz).1
 have hzid : (woOf x ix).id_ = z.id_ := by rw [woOf_get hz]
 have hzix := wo_ix hok hzl
 rw [hzid] at hzix
 have hall : ∀ s ∈ z.after.l, hasId x.works.l s = true := fun s hs => allThere_get hok.wo.all hz hs
 have hDD : ∀ k, k < x.works.n → ((dmL l (woOf x k).id_ < 0 ∨ t < dmL l (woOf x k).id_) ↔ dnB l (woOf x k).id_ t = false) := fun k hk => by
  have h1 := dm_ok hto (woOf x k).id_ t
  constructor
  ·intro h2
   cases h3 : dnB l (woOf x k).id_ t
   ·rfl
   ·have := h1.2 h3; omega
  ·intro h2
   apply Classical.byContradiction
   intro h3
   have := h1.1 (by omega)
   rw [h2] at this; cases this
 obtain ⟨N, hNe⟩ : ∃ m, x.works.n = m := ⟨_, rfl⟩
 obtain ⟨xA, hxA⟩ : ∃ m, x.works.A = m := ⟨_, rfl⟩
 obtain ⟨xc, hxc⟩ : ∃ m, x.works.cap = m := ⟨_, rfl⟩
 obtain ⟨Z, hZ⟩ : ∃ Z, YnAns b w = Z := ⟨_, rfl⟩
 have RZ : ∀ W, Below w.heap.size w W → Z (.returned (.bool b)) W := fun W h => by rw [← hZ]; exact ⟨rfl, h⟩
 rw [hZ]
 clear hZ
 rw [hNe] at hN2 hxs hN hD hDD ⊢
 rw [hxA] at hxs ⊢
 rw [hxc]
 obtain ⟨W0, hW0⟩ : ∃ Y, w.alloc (.cells #[.slice x.workers.A x.workers.n x.workers.cap, .slice xA N xc, .slice x.lost.A x.lost.n x.lost.cap, .int .i64 x.tries, .bool x.doubles] 26) = Y := ⟨_, rfl⟩
 obtain ⟨xb, hxb⟩ : ∃ b, w.heap.size = b := ⟨_, rfl⟩
 have hb0 : Below w.heap.size w W0 := by rw [← hW0]; exact (Below.refl _ _).alloc (Nat.le_refl _) _
 have c1 : W0.cell? ⟨xb, 1, none⟩ = some (.slice xA N xc) := by rw [← hW0, ← hxb]; exact cell_new _ _ _ 1
 have c3 : W0.cell? ⟨xb, 3, none⟩ = some (.int .i64 x.tries) := by rw [← hW0, ← hxb]; exact cell_new _ _ _ 3
 obtain ⟨zid, znd, zsz, zaf⟩ := z
 simp only at hb hzok hzid hzix hall hR
 obtain ⟨W2, hW2⟩ : ∃ Y, W0.alloc (.cells #[.string zid, .slice znd.A znd.n znd.cap, .int .i64 zsz, .slice zaf.A zaf.n zaf.cap] 86) = Y := ⟨_, rfl⟩
 have hzb : W0.heap.size = xb + 1 := by rw [← hW0, ← hxb]; simp
 have hb1 : Below W0.heap.size W0 W2 := by rw [← hW2]; exact (Below.refl _ _).alloc (Nat.le_refl _) _
 have d0 : W2.cell? ⟨xb + 1, 0, none⟩ = some (.string zid) := by rw [← hW2, ← hzb]; exact cell_new _ _ _ 0
 have d3 : W2.cell? ⟨xb + 1, 3, none⟩ = some (.slice zaf.A zaf.n zaf.cap) := by rw [← hW2, ← hzb]; exact cell_new _ _ _ 3
 have c1 := keepC hb1 c1
 have c3 := keepC hb1 c3
 have hb2 := hb0.trans (hb1.mono hb0.size)
 have hxs2 := hxs.below hb2
 have hl2 := hl.below hb2
 have hD2 := hD.bel hb2
 have haf : SlAt RStr W2 zaf.A zaf.n zaf.l := hzok.2.2.2.1.below hb2
 have hafn : zaf.n ≤ 9223372036854775807 := Nat.le_trans hzok.2.2.2.2.1 hzok.2.2.2.2.2.1
 have hafl := haf.1
 have hll := hl2.1
 have hC : ∀ W, Below W2.heap.size W2 W → (W.cell? ⟨xb, 1, none⟩ = some (.slice xA N xc) ∧ W.cell? ⟨xb, 3, none⟩ = some (.int .i64 x.tries)) ∧ W.cell? ⟨xb + 1, 0, none⟩ = some (.string zid) := fun W h => ⟨⟨keepC h c1, keepC h c3⟩, keepC h d0⟩
 replace RZ : ∀ W, Below W2.heap.size W2 W → Z (.returned (.bool b)) W := fun W h => RZ W (hb2.trans (h.mono hb2.size))
 have hst : Vw1 l zaf.l t W2 (.int .i64 0) W2 := ⟨0, Nat.zero_le _, rfl, by simp, Below.refl _ _⟩
 clear c1 c3 d0
 have RZH := Lib.hid RZ
 clear RZ
 have hxH := Lib.hid hx
 clear hx
 have hW0H := Lib.hid hW0
 clear hW0
 have hxbH := Lib.hid hxb
 clear hxb
 have hb0H := Lib.hid hb0
 clear hb0
 have hb1H := Lib.hid hb1
 clear hb1
 have hb2H := Lib.hid hb2
 clear hb2
 have hW2H := Lib.hid hW2
 clear hW2
 have hzbH := Lib.hid hzb
 clear hzb
 have hxsH := Lib.hid hxs
 clear hxs
 have hxs2H := Lib.hid hxs2
 clear hxs2
 have hlH := Lib.hid hl
 clear hl
 have hl2H := Lib.hid hl2
 clear hl2
 have hDH := Lib.hid hD
 clear hD
 have hD2H := Lib.hid hD2
 clear hD2
 have hafH := Lib.hid haf
 clear haf
 have haflH := Lib.hid hafl
 clear hafl
 have hllH := Lib.hid hll
 clear hll
 have hCH := Lib.hid hC
 clear hC
 have hstH := Lib.hid hst
 clear hst
 have hNH := Lib.hid hN
 clear hN
 have hNeH := Lib.hid hNe
 clear hNe
 have hxAH := Lib.hid hxA
 clear hxA
 have hxcH := Lib.hid hxc
 clear hxc
 have hzokH := Lib.hid hzok
 clear hzok
 have hzidH := Lib.hid hzid
 clear hzid
 have hzixH := Lib.hid hzix
 clear hzix
 have hallH := Lib.hid hall
 clear hall
 have hDDH := Lib.hid hDD
 clear hDD
 have hokH := Lib.hid hok
 clear hok
 have hRH := Lib.hid hR
 clear hR
 have htoH := Lib.hid hto
 clear hto
 have hbH := Lib.hid hb
 clear hb
 have hzH := Lib.hid hz
 clear hz
 have hzlH := Lib.hid hzl
 clear hzl
 go_enter Tryz.func68, Tryz.ntmps68
 go_wp2_with fail
 simp only [hW0H.out, hxbH.out, hW2H.out, hzbH.out]
 go_wp2_with fail
 clear d3
 go_loopw [21] (fun i wr => Vw1 l zaf.l t W2 i wr) (fun i _ => zaf.n - (intOf i).toNat)
 case atStart => exact hstH.out
 case round =>
  clear hstH
  obtain ⟨k, hk, rfl, hdn, hbr⟩ := hrel
  have hkl : k ≤ zaf.n := by have := haflH.out; omega
  obtain ⟨⟨c1, c3⟩, d0⟩ := hCH.out wr hbr
  by_cases hlt : k < zaf.n
  ·obtain ⟨b5, o5, hA8, _⟩ := hafH.out.2.1 (by omega)
   obtain ⟨s, hs⟩ : ∃ s, zaf.l[k]? = some s := ⟨zaf.l[k]'(by have := haflH.out; omega), List.getElem?_eq_getElem _⟩
   have hq := hafH.out.below hbr
   rw [hA8] at hq ⊢
   have e0 := cell_StrW hq hs
   have hsm := List.mem_of_getElem? hs
   have hid := hallH.out s hsm
   obtain ⟨y, hy, hyi⟩ := ixOf_get hid
   obtain ⟨ix2, hix2⟩ : ∃ j, ixOf x.works.l s = j := ⟨_, rfl⟩
   rw [hix2] at hy
   have hixl : ix2 < N := by have := (List.getElem?_eq_some_iff.1 hy).1; have := hNH.out; omega
   have hixi : (ix2 : Int) < (N : Int) := by omega
   have hixw : (woOf x ix2).id_ = s := by rw [woOf_get hy, hyi]
   have hwo : woF x.works.l s = ((ix2 : Nat) : Int) := by unfold woF; rw [if_pos hid, hix2]
   have htk : (zaf.l.take (k + 1)).all (fun s => dnB l s t) = ((zaf.l.take k).all (fun s => dnB l s t) && dnB l s t) := by
    rw [List.take_add_one, hs, Option.toList_some, List.all_append]; simp
   have hDk := hDDH.out ix2 hixl
   rw [hixw] at hDk
   have hxsr := hxs2H.out.below hbr
   have hno : dnB l s t = false → b = false := fun h => by
    rw [← hbH.out]
    have : zaf.l.all (fun s => dnB l s t) = false := by
     rw [List.all_eq_false]
     exact ⟨s, hsm, by rw [h]; decide⟩
    rw [this]; rfl
   have hNN : N ≤ 1000 := by omega
   have hbrH := Lib.hid hbr
   clear hbr
   have hdnH := Lib.hid hdn
   clear hdn
   have hqH := Lib.hid hq
   clear hq
   have hsH := Lib.hid hs
   clear hs
   have hsmH := Lib.hid hsm
   clear hsm
   have hidH := Lib.hid hid
   clear hid
   have hyH := Lib.hid hy
   clear hy
   have hyiH := Lib.hid hyi
   clear hyi
   have hix2H := Lib.hid hix2
   clear hix2
   have hixwH := Lib.hid hixw
   clear hixw
   have hwoH := Lib.hid hwo
   clear hwo
   have htkH := Lib.hid htk
   clear htk
   have hDkH := Lib.hid hDk
   clear hDk
   have hxsrH := Lib.hid hxsr
   clear hxsr
   have hnoH := Lib.hid hno
   clear hno
   have hNNH := Lib.hid hNN
   clear hNN
   have hA8H := Lib.hid hA8
   clear hA8
   go_wp2_with fail
   go_at_call 60
   refine (workOf_any xA N xc x.works.l s _ hNNH.out hxsrH.out).mono ?_
   rintro e w6 ⟨rfl, hb6⟩
   rw [hwoH.out]
   have hb7 := hbrH.out.trans (hb6.mono hbrH.out.size)
   have hrow6 := hD2H.out.bel hb7
   have g0 := (hrow6 ix2 hixl).1
   dsimp only at g0
   rw [hixwH.out] at g0
   have hDk := hDkH.out
   obtain ⟨dm, hdm⟩ : ∃ v, dmL l s = v := ⟨_, rfl⟩
   rw [hdm] at hDk g0
   clear c1 c3 d0 e0
   by_cases h1 : dm < 0
   ·have hd : decide (dm < 0) = true := decide_eq_true h1
    have hb0 := hnoH.out (hDk.1 (.inl h1))
    have R := RZH.out w6 hb7
    rw [hb0] at R
    clear hDk hb0
    have RH := Lib.hid R
    clear R
    have hb6H := Lib.hid hb6
    clear hb6
    have hb7H := Lib.hid hb7
    clear hb7
    have hrow6H := Lib.hid hrow6
    clear hrow6
    have hdmH := Lib.hid hdm
    clear hdm
    go_wp2
    exact RH.out
   ·have hd : decide (dm < 0) = false := decide_eq_false h1
    by_cases h2 : t < dm
    ·have hd2 : decide (dm > t) = true := decide_eq_true h2
     have hb0 := hnoH.out (hDk.1 (.inr h2))
     have R := RZH.out w6 hb7
     rw [hb0] at R
     clear hDk hb0
     have RH := Lib.hid R
     clear R
     have hb6H := Lib.hid hb6
     clear hb6
     have hb7H := Lib.hid hb7
     clear hb7
     have hrow6H := Lib.hid hrow6
     clear hrow6
     have hdmH := Lib.hid hdm
     clear hdm
     go_wp2
     exact RH.out
    ·have hd2 : decide (dm > t) = false := decide_eq_false h2
     have hyes : dnB l s t = true := by
      cases h3 : dnB l s t
      ·have := hDk.2 h3; omega
      ·rfl
     have R : Vw1 l zaf.l t W2 (.int .i64 ((k : Int) + 1)) w6 := ⟨k + 1, by have := haflH.out; omega, by go_num, by rw [htkH.out, hdnH.out, hyes]; rfl, hb7⟩
     clear hDk hyes
     have RH := Lib.hid R
     clear R
     have hb6H := Lib.hid hb6
     clear hb6
     have hb7H := Lib.hid hb7
     clear hb7
     have hrow6H := Lib.hid hrow6
     clear hrow6
     have hdmH := Lib.hid hdm
     clear hdm
     go_wp2
     refine ⟨?rel, ?measure⟩
     case measure => (simp [intOf]; omega)
     case rel => first | exact RH.out | exact ⟨rfl, RH.out⟩ | ((try refine ⟨rfl, ?_⟩); (repeat apply Exists.intro); refine ⟨RH.out, ?_⟩; ((repeat' apply And.intro) <;> rfl))
  ·obtain rfl : k = zaf.n := by omega
   have e : zaf.l.take zaf.n = zaf.l := List.take_of_length_le (by have := haflH.out; omega)
   rw [e] at hdn
   have hb9 := hbH.out
   rw [hdn, Bool.true_and] at hb9
   have hixl : ix < N := by have := hzlH.out; have := hNH.out; omega
   have hixi : (ix : Int) < (N : Int) := by omega
   have hwo : woF x.works.l zid = ((ix : Nat) : Int) := by unfold woF; rw [if_pos hzixH.out.2, hzixH.out.1]
   have hDk := hDDH.out ix hixl
   rw [hzidH.out] at hDk
   have hxsr := hxs2H.out.below hbr
   have hNN : N ≤ 1000 := by omega
   clear e
   have hbrH := Lib.hid hbr
   clear hbr
   have hdnH := Lib.hid hdn
   clear hdn
   have hwoH := Lib.hid hwo
   clear hwo
   have hDkH := Lib.hid hDk
   clear hDk
   have hxsrH := Lib.hid hxsr
   clear hxsr
   have hNNH := Lib.hid hNN
   clear hNN
   have hb9H := Lib.hid hb9
   clear hb9
   go_wp2_with fail
   go_at_call 60
   refine (workOf_any xA N xc x.works.l zid _ hNNH.out hxsrH.out).mono ?_
   rintro e w6 ⟨rfl, hb6⟩
   rw [hwoH.out]
   have hb7 := hbrH.out.trans (hb6.mono hbrH.out.size)
   have hrow6 := hD2H.out.bel hb7
   have g0 := (hrow6 ix hixl).1
   dsimp only at g0
   rw [hzidH.out] at g0
   have hDk := hDkH.out
   obtain ⟨dm, hdm⟩ : ∃ v, dmL l zid = v := ⟨_, rfl⟩
   rw [hdm] at hDk g0
   have hb9 := hb9H.out
   clear c1 c3 d0
   by_cases h1 : 0 ≤ dm ∧ dm ≤ t
   ·have hd : decide (dm ≥ 0) = true := decide_eq_true h1.1
    have hd2 : decide (dm ≤ t) = true := decide_eq_true h1.2
    have hyes : dnB l zid t = true := by
     cases h3 : dnB l zid t
     ·have := hDk.2 h3; omega
     ·rfl
    rw [hyes, Bool.not_true, Bool.false_and] at hb9
    have R0 := RZH.out w6 hb7
    rw [← hb9] at R0
    clear hDk hyes hb9
    have R0H := Lib.hid R0
    clear R0
    have hb6H := Lib.hid hb6
    clear hb6
    have hb7H := Lib.hid hb7
    clear hb7
    have hrow6H := Lib.hid hrow6
    clear hrow6
    have hdmH := Lib.hid hdm
    clear hdm
    go_wp2
    exact R0H.out
   ·have hno : dnB l zid t = false := hDk.1 (by omega)
    rw [hno, Bool.not_false, Bool.true_and] at hb9
    have hst2 : Vw2 R t n W2 (.int .i64 0) (.int .i64 0) w6 := ⟨0, 0, Nat.zero_le _, rfl, rfl, Nat.le_refl _, rfl, rfl, hb7⟩
    clear hDk hno
    by_cases h0 : 0 ≤ dm
    ·have hd : decide (dm ≥ 0) = true := decide_eq_true h0
     have hd2 : decide (dm ≤ t) = false := decide_eq_false (by omega)
     clear h1
     have hb9H := Lib.hid hb9
     clear hb9
     have hst2H := Lib.hid hst2
     clear hst2
     have hb6H := Lib.hid hb6
     clear hb6
     have hb7H := Lib.hid hb7
     clear hb7
     have hrow6H := Lib.hid hrow6
     clear hrow6
     have hdmH := Lib.hid hdm
     clear hdm
     go_wp2_with fail
     clear g0
     go_loopw [15, 57] (fun lo i wq => Vw2 R t n W2 lo i wq) (fun _ i _ => n - (intOf i).toNat)
     case atStart => exact hst2H.out
     case round =>
      clear hst2H
      obtain ⟨q, c, hq, rfl, rfl, hcq, hc, hany, hbq⟩ := hrel
      have hbqs := hbq.size
      by_cases hlt2 : q < n
      ·have hslq := hl2H.out.below hbq
       obtain ⟨bl, ol, hA8, _⟩ := hslq.2.1 (by omega)
       subst hA8
       obtain ⟨r, hr⟩ : ∃ r, R[q]? = some r := ⟨R[q]'(by have := hllH.out; omega), List.getElem?_eq_getElem _⟩
       obtain ⟨e0, e1, e2, e3, e4⟩ := cells_Run hslq hr
       have hc2 : (R.take (q + 1)).countP (lsT t) = c + (if lsT t r = true then 1 else 0) := by
        rw [List.take_add_one, hr, Option.toList_some, List.countP_append, hc, List.countP_singleton]
       have ha2 : (R.take (q + 1)).any (rnT t) = rnT t r := by
        rw [List.take_add_one, hr, Option.toList_some, List.any_append, hany]; simp
       have hrun : rnT t r = true → b = false := fun h => by
        rw [← hb9H.out]
        have : R.any (rnT t) = true := List.any_eq_true.2 ⟨r, List.mem_of_getElem? hr, h⟩
        rw [this]; rfl
       unfold rnT at ha2 hrun
       unfold lsT at hc2
       obtain ⟨rid, rwk, rfm, rto, ren⟩ := r
       simp only at e0 e1 e2 e3 e4 hc2 ha2 hrun
       obtain ⟨W5, hW5⟩ : ∃ Y, wr.alloc (.cells #[.string rid, .string rwk, .int .i64 rfm, .int .i64 rto, .int .i64 ren] 34) = Y := ⟨_, rfl⟩
       obtain ⟨wb, hwb⟩ : ∃ b, wr.heap.size = b := ⟨_, rfl⟩
       have v2 : W5.cell? ⟨wb, 2, none⟩ = some (.int .i64 rfm) := by rw [← hW5, ← hwb]; exact cell_new _ _ _ 2
       have v3 : W5.cell? ⟨wb, 3, none⟩ = some (.int .i64 rto) := by rw [← hW5, ← hwb]; exact cell_new _ _ _ 3
       have v4 : W5.cell? ⟨wb, 4, none⟩ = some (.int .i64 ren) := by rw [← hW5, ← hwb]; exact cell_new _ _ _ 4
       have hb5 : Below W2.heap.size W2 W5 := by rw [← hW5]; exact hbq.alloc hbqs _
       have hgo : ∀ c' : Nat, c + (if (decide (ren = 2) && decide (rto ≤ t)) = true then 1 else 0) = c' → c' ≤ q + 1 → (decide (rfm ≤ t) && decide (t < rto)) = false → Vw2 R t n W2 (.int .i64 (c' : Int)) (.int .i64 ((q : Int) + 1)) W5 := fun c' h1 h2 h3 =>
        ⟨q + 1, c', hlt2, by go_num, rfl, h2, by rw [← h1, ← hc2]; rfl, by rw [← h3, ← ha2]; rfl, hb5⟩
       clear hc2 ha2 hc hany
       by_cases hE : ren = 2
       ·subst hE
        by_cases hF : rfm ≤ t
        ·have dF : decide (rfm ≤ t) = true := decide_eq_true hF
         by_cases hT : t < rto
         ·have dT : decide (t < rto) = true := decide_eq_true hT
          have hb0 := hrun (by rw [dF, dT]; rfl)
          have R0 := RZH.out W5 hb5
          rw [hb0] at R0
          clear hgo hrun hb0
          subst hW5 hwb
          have R0H := Lib.hid R0
          clear R0
          have hbqH := Lib.hid hbq
          clear hbq
          have hrH := Lib.hid hr
          clear hr
          have hb5H := Lib.hid hb5
          clear hb5
          have hslqH := Lib.hid hslq
          clear hslq
          go_wp2
          exact R0H.out
         ·have dT : decide (t < rto) = false := decide_eq_false hT
          have dL : decide (rto ≤ t) = true := decide_eq_true (by omega)
          have R0 := hgo (c + 1) (by rw [dL]; rfl) (by omega) (by rw [dT, Bool.and_false])
          clear hgo hrun
          subst hW5 hwb
          have R0H := Lib.hid R0
          clear R0
          have hbqH := Lib.hid hbq
          clear hbq
          have hrH := Lib.hid hr
          clear hr
          have hb5H := Lib.hid hb5
          clear hb5
          have hslqH := Lib.hid hslq
          clear hslq
          go_wp2
          refine ⟨?rel, ?measure⟩
          case measure => (simp [intOf]; omega)
          case rel => first | exact R0H.out | exact ⟨rfl, R0H.out⟩ | ((try refine ⟨rfl, ?_⟩); (repeat apply Exists.intro); refine ⟨R0H.out, ?_⟩; ((repeat' apply And.intro) <;> rfl))
        ·have dF : decide (rfm ≤ t) = false := decide_eq_false hF
         by_cases hL : rto ≤ t
         ·have dL : decide (rto ≤ t) = true := decide_eq_true hL
          have R0 := hgo (c + 1) (by rw [dL]; rfl) (by omega) (by rw [dF, Bool.false_and])
          clear hgo hrun
          subst hW5 hwb
          have R0H := Lib.hid R0
          clear R0
          have hbqH := Lib.hid hbq
          clear hbq
          have hrH := Lib.hid hr
          clear hr
          have hb5H := Lib.hid hb5
          clear hb5
          have hslqH := Lib.hid hslq
          clear hslq
          go_wp2
          refine ⟨?rel, ?measure⟩
          case measure => (simp [intOf]; omega)
          case rel => first | exact R0H.out | exact ⟨rfl, R0H.out⟩ | ((try refine ⟨rfl, ?_⟩); (repeat apply Exists.intro); refine ⟨R0H.out, ?_⟩; ((repeat' apply And.intro) <;> rfl))
         ·have dL : decide (rto ≤ t) = false := decide_eq_false hL
          have R0 := hgo c (by rw [dL]; rfl) (by omega) (by rw [dF, Bool.false_and])
          clear hgo hrun
          subst hW5 hwb
          have R0H := Lib.hid R0
          clear R0
          have hbqH := Lib.hid hbq
          clear hbq
          have hrH := Lib.hid hr
          clear hr
          have hb5H := Lib.hid hb5
          clear hb5
          have hslqH := Lib.hid hslq
          clear hslq
          go_wp2
          refine ⟨?rel, ?measure⟩
          case measure => (simp [intOf]; omega)
          case rel => first | exact R0H.out | exact ⟨rfl, R0H.out⟩ | ((try refine ⟨rfl, ?_⟩); (repeat apply Exists.intro); refine ⟨R0H.out, ?_⟩; ((repeat' apply And.intro) <;> rfl))
       ·have hE' : (ren == 2) = false := by simpa using hE
        have hgo2 : (decide (rfm ≤ t) && decide (t < rto)) = false → Vw2 R t n W2 (.int .i64 (c : Int)) (.int .i64 ((q : Int) + 1)) W5 := fun h => hgo c (by rw [decide_eq_false hE, Bool.false_and, if_neg (by decide)]; rfl) (by omega) h
        clear hgo hE
        by_cases hF : rfm ≤ t
        ·have dF : decide (rfm ≤ t) = true := decide_eq_true hF
         by_cases hT : t < rto
         ·have dT : decide (t < rto) = true := decide_eq_true hT
          have hb0 := hrun (by rw [dF, dT]; rfl)
          have R0 := RZH.out W5 hb5
          rw [hb0] at R0
          clear hgo2 hrun hb0
          subst hW5 hwb
          have R0H := Lib.hid R0
          clear R0
          have hbqH := Lib.hid hbq
          clear hbq
          have hrH := Lib.hid hr
          clear hr
          have hb5H := Lib.hid hb5
          clear hb5
          have hslqH := Lib.hid hslq
          clear hslq
          go_wp2
          exact R0H.out
         ·have dT : decide (t < rto) = false := decide_eq_false hT
          have R0 := hgo2 (by rw [dT, Bool.and_false])
          clear hgo2 hrun
          subst hW5 hwb
          have R0H := Lib.hid R0
          clear R0
          have hbqH := Lib.hid hbq
          clear hbq
          have hrH := Lib.hid hr
          clear hr
          have hb5H := Lib.hid hb5
          clear hb5
          have hslqH := Lib.hid hslq
          clear hslq
          go_wp2
          refine ⟨?rel, ?measure⟩
          case measure => (simp [intOf]; omega)
          case rel => first | exact R0H.out | exact ⟨rfl, R0H.out⟩ | ((try refine ⟨rfl, ?_⟩); (repeat apply Exists.intro); refine ⟨R0H.out, ?_⟩; ((repeat' apply And.intro) <;> rfl))
        ·have dF : decide (rfm ≤ t) = false := decide_eq_false hF
         have R0 := hgo2 (by rw [dF, Bool.false_and])
         clear hgo2 hrun
         subst hW5 hwb
         have R0H := Lib.hid R0
         clear R0
         have hbqH := Lib.hid hbq
         clear hbq
         have hrH := Lib.hid hr
         clear hr
         have hb5H := Lib.hid hb5
         clear hb5
         have hslqH := Lib.hid hslq
         clear hslq
         go_wp2
         refine ⟨?rel, ?measure⟩
         case measure => (simp [intOf]; omega)
         case rel => first | exact R0H.out | exact ⟨rfl, R0H.out⟩ | ((try refine ⟨rfl, ?_⟩); (repeat apply Exists.intro); refine ⟨R0H.out, ?_⟩; ((repeat' apply And.intro) <;> rfl))
      ·obtain rfl : q = n := by omega
       have e : R.take q = R := List.take_of_length_le (by have := hllH.out; omega)
       rw [e] at hc hany
       have hb0 := hb9H.out
       rw [hany, hc, Bool.not_false, Bool.true_and] at hb0
       have R0 := RZH.out _ hbq
       rw [← hb0] at R0
       obtain ⟨⟨_, c3⟩, _⟩ := hCH.out _ hbq
       clear e hc hany hb0
       have R0H := Lib.hid R0
       clear R0
       have hbqH := Lib.hid hbq
       clear hbq
       go_wp2
       exact R0H.out
    ·have hd : decide (dm ≥ 0) = false := decide_eq_false h0
     clear h1
     have hb9H := Lib.hid hb9
     clear hb9
     have hst2H := Lib.hid hst2
     clear hst2
     have hb6H := Lib.hid hb6
     clear hb6
     have hb7H := Lib.hid hb7
     clear hb7
     have hrow6H := Lib.hid hrow6
     clear hrow6
     have hdmH := Lib.hid hdm
     clear hdm
     go_wp2_with fail
     clear g0
     go_loopw [15, 57] (fun lo i wq => Vw2 R t n W2 lo i wq) (fun _ i _ => n - (intOf i).toNat)
     case atStart => exact hst2H.out
     case round =>
      clear hst2H
      obtain ⟨q, c, hq, rfl, rfl, hcq, hc, hany, hbq⟩ := hrel
      have hbqs := hbq.size
      by_cases hlt2 : q < n
      ·have hslq := hl2H.out.below hbq
       obtain ⟨bl, ol, hA8, _⟩ := hslq.2.1 (by omega)
       subst hA8
       obtain ⟨r, hr⟩ : ∃ r, R[q]? = some r := ⟨R[q]'(by have := hllH.out; omega), List.getElem?_eq_getElem _⟩
       obtain ⟨e0, e1, e2, e3, e4⟩ := cells_Run hslq hr
       have hc2 : (R.take (q + 1)).countP (lsT t) = c + (if lsT t r = true then 1 else 0) := by
        rw [List.take_add_one, hr, Option.toList_some, List.countP_append, hc, List.countP_singleton]
       have ha2 : (R.take (q + 1)).any (rnT t) = rnT t r := by
        rw [List.take_add_one, hr, Option.toList_some, List.any_append, hany]; simp
       have hrun : rnT t r = true → b = false := fun h => by
        rw [← hb9H.out]
        have : R.any (rnT t) = true := List.any_eq_true.2 ⟨r, List.mem_of_getElem? hr, h⟩
        rw [this]; rfl
       unfold rnT at ha2 hrun
       unfold lsT at hc2
       obtain ⟨rid, rwk, rfm, rto, ren⟩ := r
       simp only at e0 e1 e2 e3 e4 hc2 ha2 hrun
       obtain ⟨W5, hW5⟩ : ∃ Y, wr.alloc (.cells #[.string rid, .string rwk, .int .i64 rfm, .int .i64 rto, .int .i64 ren] 34) = Y := ⟨_, rfl⟩
       obtain ⟨wb, hwb⟩ : ∃ b, wr.heap.size = b := ⟨_, rfl⟩
       have v2 : W5.cell? ⟨wb, 2, none⟩ = some (.int .i64 rfm) := by rw [← hW5, ← hwb]; exact cell_new _ _ _ 2
       have v3 : W5.cell? ⟨wb, 3, none⟩ = some (.int .i64 rto) := by rw [← hW5, ← hwb]; exact cell_new _ _ _ 3
       have v4 : W5.cell? ⟨wb, 4, none⟩ = some (.int .i64 ren) := by rw [← hW5, ← hwb]; exact cell_new _ _ _ 4
       have hb5 : Below W2.heap.size W2 W5 := by rw [← hW5]; exact hbq.alloc hbqs _
       have hgo : ∀ c' : Nat, c + (if (decide (ren = 2) && decide (rto ≤ t)) = true then 1 else 0) = c' → c' ≤ q + 1 → (decide (rfm ≤ t) && decide (t < rto)) = false → Vw2 R t n W2 (.int .i64 (c' : Int)) (.int .i64 ((q : Int) + 1)) W5 := fun c' h1 h2 h3 =>
        ⟨q + 1, c', hlt2, by go_num, rfl, h2, by rw [← h1, ← hc2]; rfl, by rw [← h3, ← ha2]; rfl, hb5⟩
       clear hc2 ha2 hc hany
       by_cases hE : ren = 2
       ·subst hE
        by_cases hF : rfm ≤ t
        ·have dF : decide (rfm ≤ t) = true := decide_eq_true hF
         by_cases hT : t < rto
         ·have dT : decide (t < rto) = true := decide_eq_true hT
          have hb0 := hrun (by rw [dF, dT]; rfl)
          have R0 := RZH.out W5 hb5
          rw [hb0] at R0
          clear hgo hrun hb0
          subst hW5 hwb
          have R0H := Lib.hid R0
          clear R0
          have hbqH := Lib.hid hbq
          clear hbq
          have hrH := Lib.hid hr
          clear hr
          have hb5H := Lib.hid hb5
          clear hb5
          have hslqH := Lib.hid hslq
          clear hslq
          go_wp2
          exact R0H.out
         ·have dT : decide (t < rto) = false := decide_eq_false hT
          have dL : decide (rto ≤ t) = true := decide_eq_true (by omega)
          have R0 := hgo (c + 1) (by rw [dL]; rfl) (by omega) (by rw [dT, Bool.and_false])
          clear hgo hrun
          subst hW5 hwb
          have R0H := Lib.hid R0
          clear R0
          have hbqH := Lib.hid hbq
          clear hbq
          have hrH := Lib.hid hr
          clear hr
          have hb5H := Lib.hid hb5
          clear hb5
          have hslqH := Lib.hid hslq
          clear hslq
          go_wp2
          refine ⟨?rel, ?measure⟩
          case measure => (simp [intOf]; omega)
          case rel => first | exact R0H.out | exact ⟨rfl, R0H.out⟩ | ((try refine ⟨rfl, ?_⟩); (repeat apply Exists.intro); refine ⟨R0H.out, ?_⟩; ((repeat' apply And.intro) <;> rfl))
        ·have dF : decide (rfm ≤ t) = false := decide_eq_false hF
         by_cases hL : rto ≤ t
         ·have dL : decide (rto ≤ t) = true := decide_eq_true hL
          have R0 := hgo (c + 1) (by rw [dL]; rfl) (by omega) (by rw [dF, Bool.false_and])
          clear hgo hrun
          subst hW5 hwb
          have R0H := Lib.hid R0
          clear R0
          have hbqH := Lib.hid hbq
          clear hbq
          have hrH := Lib.hid hr
          clear hr
          have hb5H := Lib.hid hb5
          clear hb5
          have hslqH := Lib.hid hslq
          clear hslq
          go_wp2
          refine ⟨?rel, ?measure⟩
          case measure => (simp [intOf]; omega)
          case rel => first | exact R0H.out | exact ⟨rfl, R0H.out⟩ | ((try refine ⟨rfl, ?_⟩); (repeat apply Exists.intro); refine ⟨R0H.out, ?_⟩; ((repeat' apply And.intro) <;> rfl))
         ·have dL : decide (rto ≤ t) = false := decide_eq_false hL
          have R0 := hgo c (by rw [dL]; rfl) (by omega) (by rw [dF, Bool.false_and])
          clear hgo hrun
          subst hW5 hwb
          have R0H := Lib.hid R0
          clear R0
          have hbqH := Lib.hid hbq
          clear hbq
          have hrH := Lib.hid hr
          clear hr
          have hb5H := Lib.hid hb5
          clear hb5
          have hslqH := Lib.hid hslq
          clear hslq
          go_wp2
          refine ⟨?rel, ?measure⟩
          case measure => (simp [intOf]; omega)
          case rel => first | exact R0H.out | exact ⟨rfl, R0H.out⟩ | ((try refine ⟨rfl, ?_⟩); (repeat apply Exists.intro); refine ⟨R0H.out, ?_⟩; ((repeat' apply And.intro) <;> rfl))
       ·have hE' : (ren == 2) = false := by simpa using hE
        have hgo2 : (decide (rfm ≤ t) && decide (t < rto)) = false → Vw2 R t n W2 (.int .i64 (c : Int)) (.int .i64 ((q : Int) + 1)) W5 := fun h => hgo c (by rw [decide_eq_false hE, Bool.false_and, if_neg (by decide)]; rfl) (by omega) h
        clear hgo hE
        by_cases hF : rfm ≤ t
        ·have dF : decide (rfm ≤ t) = true := decide_eq_true hF
         by_cases hT : t < rto
         ·have dT : decide (t < rto) = true := decide_eq_true hT
          have hb0 := hrun (by rw [dF, dT]; rfl)
          have R0 := RZH.out W5 hb5
          rw [hb0] at R0
          clear hgo2 hrun hb0
          subst hW5 hwb
          have R0H := Lib.hid R0
          clear R0
          have hbqH := Lib.hid hbq
          clear hbq
          have hrH := Lib.hid hr
          clear hr
          have hb5H := Lib.hid hb5
          clear hb5
          have hslqH := Lib.hid hslq
          clear hslq
          go_wp2
          exact R0H.out
         ·have dT : decide (t < rto) = false := decide_eq_false hT
          have R0 := hgo2 (by rw [dT, Bool.and_false])
          clear hgo2 hrun
          subst hW5 hwb
          have R0H := Lib.hid R0
          clear R0
          have hbqH := Lib.hid hbq
          clear hbq
          have hrH := Lib.hid hr
          clear hr
          have hb5H := Lib.hid hb5
          clear hb5
          have hslqH := Lib.hid hslq
          clear hslq
          go_wp2
          refine ⟨?rel, ?measure⟩
          case measure => (simp [intOf]; omega)
          case rel => first | exact R0H.out | exact ⟨rfl, R0H.out⟩ | ((try refine ⟨rfl, ?_⟩); (repeat apply Exists.intro); refine ⟨R0H.out, ?_⟩; ((repeat' apply And.intro) <;> rfl))
        ·have dF : decide (rfm ≤ t) = false := decide_eq_false hF
         have R0 := hgo2 (by rw [dF, Bool.false_and])
         clear hgo2 hrun
         subst hW5 hwb
         have R0H := Lib.hid R0
         clear R0
         have hbqH := Lib.hid hbq
         clear hbq
         have hrH := Lib.hid hr
         clear hr
         have hb5H := Lib.hid hb5
         clear hb5
         have hslqH := Lib.hid hslq
         clear hslq
         go_wp2
         refine ⟨?rel, ?measure⟩
         case measure => (simp [intOf]; omega)
         case rel => first | exact R0H.out | exact ⟨rfl, R0H.out⟩ | ((try refine ⟨rfl, ?_⟩); (repeat apply Exists.intro); refine ⟨R0H.out, ?_⟩; ((repeat' apply And.intro) <;> rfl))
      ·obtain rfl : q = n := by omega
       have e : R.take q = R := List.take_of_length_le (by have := hllH.out; omega)
       rw [e] at hc hany
       have hb0 := hb9H.out
       rw [hany, hc, Bool.not_false, Bool.true_and] at hb0
       have R0 := RZH.out _ hbq
       rw [← hb0] at R0
       obtain ⟨⟨_, c3⟩, _⟩ := hCH.out _ hbq
       clear e hc hany hb0
       have R0H := Lib.hid R0
       clear R0
       have hbqH := Lib.hid hbq
       clear hbq
       go_wp2
       exact R0H.out
end Go.Proofs.YtbnkoefljcekbaaGreatDoor.C9
