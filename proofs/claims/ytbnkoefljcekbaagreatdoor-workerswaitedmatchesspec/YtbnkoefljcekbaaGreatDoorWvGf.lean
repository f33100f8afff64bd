/-
 Several texts of mine as one, without what is not wanted here: XQue, XLoD, XInsN, XCrB, XTake, XSwpI, XPlP, XPlW.
-/
import Derived.Test.YtbnkoefljcekbaaGreatDoorWvGb
import Derived.Laws.CopyRow
import Derived.Shelf.Spec.SlicesInsertGrow
import Derived.Test.YtbnkoefljcekbaaGreatDoorWvGe
import Derived.Test.YtbnkoefljcekbaaGreatDoorWvGa
import Derived.Deep.RegionHeld3
namespace Go.Proofs.YtbnkoefljcekbaaGreatDoor
open Go.ChangeShapes Go.WideShapes Go.Deep Go.RowKit
set_option linter.unusedVariables false

theorem elem_IntQ : Elem Tryz.prog 3 1 8 := elem_of (z := .int .i64 0) (by kernel_rfl) (by decide)

/-- from place off on of block g, made from block 'base' on, there are the numbers l -/
def Que (w : World) (base g off n cap : Nat) (l : List Int) : Prop :=
 l.length = n ∧ base ≤ g ∧ n ≤ cap ∧ cap ≤ maxLen ∧ (∀ x ∈ l, I64 x) ∧ ∃ cur : Array Value, w.heap[g]? = some (.cells cur 3 (0, 0)) ∧ off + cap ≤ cur.size ∧ ∀ i x, l[i]? = some x → cur[off + i]? = some (.int .i64 x)

section
variable {w w' : World} {base g off n cap : Nat} {l : List Int}
theorem Que.lt (h : Que w base g off n cap l) : g < w.heap.size := by
 obtain ⟨_, _, _, _, _, cur, hg, _⟩ := h
 rcases Nat.lt_or_ge g w.heap.size with h | h
 ·exact h
 ·rw [Array.getElem?_eq_none h] at hg; cases hg
theorem Que.cell (h : Que w base g off n cap l) {i : Nat} {x : Int} (hx : l[i]? = some x) : w.cell? ⟨g, off + i, none⟩ = some (.int .i64 x) := by
 obtain ⟨_, _, _, _, _, cur, hg, _, hc⟩ := h
 rw [cell_of_row w g _ cur 3 (0, 0) hg]
 exact hc i x hx
theorem Que.kept {row : Option Nat} (h : Que w base g off n cap l) (hg : w.grownBy w' row) (hne : some g ≠ row) : Que w' base g off n cap l := by
 have hlt := h.lt
 obtain ⟨h1, h2, h3, h4, h5, cur, h6, h7⟩ := h
 exact ⟨h1, h2, h3, h4, h5, cur, (hg.block g hlt hne).trans h6, h7⟩
theorem Que.below (h : Que w base g off n cap l) (hb : Below w.heap.size w w') : Que w' base g off n cap l := by
 have hlt := h.lt
 obtain ⟨h1, h2, h3, h4, h5, cur, h6, h7⟩ := h
 exact ⟨h1, h2, h3, h4, h5, cur, (hb.block g hlt).trans h6, h7⟩
theorem Que.set (h : Que w base g off n cap l) {a : Addr} (hne : g ≠ a.block) (u : Value) : Que (w.setCell a u) base g off n cap l := by
 obtain ⟨h1, h2, h3, h4, h5, cur, h6, h7⟩ := h
 exact ⟨h1, h2, h3, h4, h5, cur, (heap_setCell_other w a g u hne).trans h6, h7⟩
theorem Que.tail {x : Int} {r : List Int} (h : Que w base g off n cap (x :: r)) : Que w base g (off + 1) (n - 1) (cap - 1) r := by
 obtain ⟨h1, h2, h3, h4, h5, cur, h6, h7, h8⟩ := h
 rw [List.length_cons] at h1
 refine ⟨by omega, h2, by omega, by omega, fun y hy => h5 y (List.mem_cons_of_mem _ hy), cur, h6, by omega, fun i y hy => ?_⟩
 have := h8 (i + 1) y (by simpa using hy)
 rwa [show off + 1 + i = off + (i + 1) by omega]
theorem Que.last {x : Int} {r : List Int} (h : Que w base g off n cap (x :: r)) (hc : cap = 1) : r = [] ∧ n = 1 ∧ Que w base g off 0 0 [] := by
 obtain ⟨h1, h2, h3, h4, h5, cur, h6, h7, h8⟩ := h
 rw [List.length_cons] at h1
 have hr : r = [] := List.eq_nil_of_length_eq_zero (by omega)
 subst hr
 exact ⟨rfl, by omega, rfl, h2, Nat.le_refl _, Nat.zero_le _, (fun _ h => nomatch h), cur, h6, by omega, fun i y hy => by cases hy⟩
/-- a new row of one number -/
theorem Que.one (w : World) (x : Int) (hx : I64 x) : Que (w.alloc (.cells #[.int .i64 x] 3)) w.heap.size w.heap.size 0 1 1 [x] :=
 ⟨rfl, Nat.le_refl _, Nat.le_refl _, by simp only [maxLen]; omega, fun y hy => by rw [List.mem_singleton] at hy; subst hy; exact hx, _, heap_alloc_new w _, Nat.le_refl _, fun i y hy => by
  cases i with
  | zero => simp at hy; subst hy; rfl
  | succ i => simp at hy⟩

theorem run_que_app {ty t : TypeId} (ht : Tryz.prog.underlying t = some (.slice 3)) (hq : Que w base g off n cap l) (ad : Addr) (c : Nat) (y : Int) (hy : w.cell? ad = some (.int .i64 y)) (hI : I64 y) (h63 : n + 1 ≤ 1000000) (hbase : base ≤ w.heap.size) :
  ∃ g' off' cap' w', (Builtin.append_ #[t, t] ty #[.slice (some ⟨g, off, none⟩) n cap, .slice (some ad) 1 c]).run Tryz.prog w = .ok (.slice (some ⟨g', off', none⟩) (n + 1) cap') w' ∧ Que w' base g' off' (n + 1) cap' (l ++ [y]) ∧ w.grownBy w' (some g) ∧ (g' = g ∨ g' = w.heap.size) := by
 have hlt := hq.lt
 have hcell := fun i x => hq.cell (i := i) (x := x)
 obtain ⟨h1, h2, h3, h4, h5, cur, h6, h7, h8⟩ := hq
 obtain ⟨i, z, hi, hz, hz1, hz2, hz3⟩ := elem_IntQ
 have hnews : ∀ j u, [Value.int .i64 y][j]? = some u → w.cell? (ad.add j) = some u := fun j u hu => by
  cases j with
  | zero =>
   have : ad.add 0 = ad := by simp [Addr.add]
   rw [this]; simp at hu; subst hu; exact hy
  | succ j => simp at hu
 have hone : ∀ u ∈ [Value.int .i64 y], u.oneCell' = true := fun u hu => by simp at hu; subst hu; rfl
 have hI' : ∀ x ∈ l ++ [y], I64 x := fun x hx => by
  rcases List.mem_append.1 hx with hx | hx
  ·exact h5 x hx
  ·rw [List.mem_singleton] at hx; subst hx; exact hI
 by_cases hroom : n + 1 ≤ cap
 ·have hf := run_firstCells_some (P := Tryz.prog) w 1 1 ad 1 c [.int .i64 y] rfl hnews
  have hst := run_storeCells_at Tryz.prog g (off + n) 3 [.int .i64 y] 0 cur w h6 (by simp only [List.length_singleton]; omega) hone
  simp only [Nat.add_zero, List.length_singleton] at hst
  obtain ⟨arr, harr⟩ : ∃ arr, (cur.toList.take (off + n) ++ [Value.int .i64 y] ++ cur.toList.drop (off + n + 1)).toArray = arr := ⟨_, rfl⟩
  rw [harr] at hst
  refine ⟨g, off, cap, w.setRow g arr, ?_, ⟨by simp [h1], h2, hroom, h4, hI', arr, setRow_heap w g cur arr 3 _ h6, ?_, fun j x hx => ?_⟩, ⟨rfl, rfl, rfl, by simp, fun k _ hk => setRow_other w g k _ (fun e => hk (by rw [e]))⟩, .inl rfl⟩
  ·simp [Builtin.append_, run_underlying ht, sizeOf, typeInfo, hi, hz1, Builtin.lenOf, hroom, hf, Addr.add_lit, hst]
  ·rw [← harr]
   simp only [List.size_toArray, List.length_append, List.length_take, List.length_drop, Array.length_toList, List.length_singleton]
   omega
  ·rw [← harr]
   simp only [List.getElem?_toArray]
   have hle : off + n < cur.toList.length := by simp; omega
   have htl : (cur.toList.take (off + n)).length = off + n := by rw [List.length_take]; omega
   by_cases hj : j < n
   ·rw [List.append_assoc, List.getElem?_append_left (by omega), List.getElem?_take, if_pos (by omega)]
    rw [List.getElem?_append_left (by omega)] at hx
    have := h8 j x hx
    simpa using this
   ·have hjn : j = n := by
     have := (List.getElem?_eq_some_iff.1 hx).1
     simp at this
     omega
    subst hjn
    rw [List.append_assoc, List.getElem?_append_right (by omega), htl, Nat.sub_self]
    rw [List.getElem?_append_right (by omega), h1, Nat.sub_self] at hx
    simp at hx
    subst hx
    rfl
 ·have hnc : n = cap := by omega
  have holds : ∀ j u, (l.map (Value.int .i64))[j]? = some u → w.cell? ((⟨g, off, none⟩ : Addr).add j) = some u := fun j u hu => by
   rw [List.getElem?_map] at hu
   obtain ⟨x, hx, rfl⟩ := Option.map_eq_some_iff.1 hu
   rw [Addr.add_lit]
   exact hcell j x hx
  have hr := run_append_grow (P := Tryz.prog) w t ty 3 i z ht hi hz ⟨g, off, none⟩ n cap (l.map (Value.int .i64)) (by rw [hz1]; simp [h1]) holds ad 1 c [.int .i64 y] (by rw [hz1]; rfl) hnews (by omega) (by omega) (growslice_fits (by omega) (by rw [hz2]; omega))
  have hge := grownCap_ge w (n + 1) cap 3
  have hcm := grownCap_le_maxLen w (n + 1) cap 3 (by simp only [maxLen]; omega)
  refine ⟨w.heap.size, 0, _, _, hr, ⟨by simp [h1], hbase, hge, hcm, hI', _, heap_alloc_new w.drew _, ?_, fun j x hx => ?_⟩, ⟨rfl, rfl, rfl, by simp, fun k hk hne => (World.grownBy_alloc w.drew _ (some g)).block k hk hne⟩, .inr rfl⟩
  ·simp only [Array.size_append, List.size_toArray, size_zeroCells, hz3, List.length_map, List.length_singleton, h1]
   omega
  ·rw [Nat.zero_add]
   have hjl := (List.getElem?_eq_some_iff.1 hx).1
   rw [List.length_append, List.length_singleton] at hjl
   rw [← Array.getElem?_toList, Array.toList_append, Array.toList_append, List.getElem?_append_left (by simp; omega), ← List.map_singleton (f := Value.int .i64), ← List.map_append, List.getElem?_map, hx]
   rfl

theorem wpList_que_app {ops : Array Oper} {rest : List Oper} {o : Oper} {a : Act} {Q : Exit → Act → World → Prop} (hgd : o.guard = none) (s x : Operand) (t : TypeId)
  (ho : o.op = .call { callee := .builtin .append, args := #[s, x], argTypes := #[t, t] }) (ht : Tryz.prog.underlying t = some (.slice 3)) (hs : a.eval s = .slice (some ⟨g, off, none⟩) n cap) (hq : Que w base g off n cap l)
  (ad : Addr) (c : Nat) (y : Int) (hx : a.eval x = .slice (some ad) 1 c) (hy : w.cell? ad = some (.int .i64 y)) (hI : I64 y) (h63 : n + 1 ≤ 1000000) (hbase : base ≤ w.heap.size)
  (h : ∀ g' off' cap' w', Que w' base g' off' (n + 1) cap' (l ++ [y]) → w.grownBy w' (some g) → (g' = g ∨ g' = w.heap.size) → wpList Tryz.prog ops Q rest (a.put o.dst (.slice (some ⟨g', off', none⟩) (n + 1) cap')) w') :
  wpList Tryz.prog ops Q (o :: rest) a w := by
 refine wpList_plain hgd fun K hK => ?_
 obtain ⟨g', off', cap', w', hr, h2, h3, h4⟩ := run_que_app (ty := o.type) ht hq ad c y hy hI h63 hbase
 unfold Oper.wp execOp
 simp only [ho, resolve, invoke, builtin, Sem.run_bind, Sem.run_pure, Result.andThen_ok, List.map_toArray, List.map_cons, List.map_nil, hs, hx, hr]
 exact hK _ _ (h g' off' cap' w' h2 h3 h4)
end
end Go.Proofs.YtbnkoefljcekbaaGreatDoor

namespace Go.Proofs.YtbnkoefljcekbaaGreatDoor
set_option linter.unusedVariables false

def secOf (cs : List TestCase) (s : ByteArray) : Option Int := (cs.find? fun c => decide (c.name = s)).map (·.seconds)
def Names (cs : List TestCase) : Prop := (cs.map (·.name)).Nodup
theorem Names.take {cs : List TestCase} (h : Names cs) (k : Nat) : Names (cs.take k) := by unfold Names; rw [List.map_take]; exact List.Sublist.nodup (List.take_sublist _ _) h
def val (cs : List TestCase) (s : ByteArray) : Int := (secOf cs s).getD 0
end Go.Proofs.YtbnkoefljcekbaaGreatDoor

namespace Go.Proofs.YtbnkoefljcekbaaGreatDoor
open Go.ChangeShapes Go.WideShapes Go.Deep Go.RowKit
set_option linter.unusedVariables false

theorem grown_trans {a b c : World} {row : Option Nat} (h : a.grownBy b row) (h2 : b.grownBy c row) : a.grownBy c row :=
 ⟨h2.os.trans h.os, h2.tape.trans h.tape, h2.output.trans h.output, Nat.le_trans h.size h2.size, fun k hk hne => (h2.block k (Nat.lt_of_lt_of_le hk h.size) hne).trans (h.block k hk hne)⟩
end Go.Proofs.YtbnkoefljcekbaaGreatDoor

namespace Go.Proofs.YtbnkoefljcekbaaGreatDoor
set_option linter.unusedVariables false

section
variable {g : Nat → List Nat} {sz : Nat → Int} {N : Nat} {C : Nat → Int} {out : List Nat}
/-- behind k rounds from the end -/
structure Bk (g : Nat → List Nat) (sz : Nat → Int) (N : Nat) (C : Nat → Int) (out : List Nat) (k : Nat) (S : List Int) : Prop where
 len : S.length = N
 done : ∀ j, j < N → j ∈ out.drop (N - k) → gt S j = C j
 left : ∀ j, j < N → j ∉ out.drop (N - k) → MaxOf g (· ∈ out.drop (N - k)) C j (gt S j)
/-- amid the works that i waits for -/
structure Bi (S1 : List Int) (c : Int) (pre : List Nat) (S : List Int) : Prop where
 len : S.length = S1.length
 at_ : ∀ j, gt S j = if j ∈ pre then max (gt S1 j) c else gt S1 j
theorem Bi.nil (S1 : List Int) (c : Int) : Bi S1 c [] S1 := ⟨rfl, fun j => by simp⟩
theorem Bi.step {S1 S : List Int} {c : Int} {pre : List Nat} (h : Bi S1 c pre S) {k : Nat} (hk : k < S.length) : Bi S1 c (pre ++ [k]) (S.set k (max (gt S k) c)) := by
 refine ⟨by rw [List.length_set]; exact h.len, fun j => ?_⟩
 rw [gt_set hk]
 have := h.at_ j
 by_cases e : j = k
 ·subst e
  rw [if_pos rfl, if_pos (by simp), this]
  split <;> omega
 ·rw [if_neg e, this]
  by_cases hj : j ∈ pre
  ·rw [if_pos hj, if_pos (by simp [hj])]
  ·rw [if_neg hj, if_neg (by simp [hj, e])]
theorem zero_gt (N k : Nat) : gt (List.replicate N (0 : Int)) k = 0 := by
 unfold gt
 rw [List.getD_eq_getElem?_getD]
 by_cases h : k < N
 ·rw [List.getElem?_replicate, if_pos h]; rfl
 ·rw [List.getElem?_eq_none (by simp; omega)]; rfl
theorem Bk.nil (hl : out.length = N) : Bk g sz N C out 0 (List.replicate N 0) := by
 have e : out.drop (N - 0) = [] := List.drop_eq_nil_of_le (by omega)
 refine ⟨by simp, fun j _ hj => (by rw [e] at hj; cases hj), fun j _ _ => ?_⟩
 rw [e, zero_gt]
 exact ⟨Int.le_refl _, fun k hk => (by cases hk), .inl rfl⟩
theorem Bk.all {S : List Int} (ht : Topo g N out) (hl : out.length = N) (h : Bk g sz N C out N S) : ∀ j, j < N → gt S j = C j := fun j hj => h.done j hj (by rw [Nat.sub_self, List.drop_zero]; exact ht.all hl hj)
/-- the work whose turn it is -/
theorem Bk.turn {S : List Int} {k i : Nat} (ht : Topo g N out) (hl : out.length = N) (hC : Crit g sz N C) (h : Bk g sz N C out k S) (hk : k < N) (hi : out[N - 1 - k]? = some i) :
  i < N ∧ gt S i + sz i = C i ∧ i ∉ g i ∧ out.drop (N - (k + 1)) = i :: out.drop (N - k) ∧ ∀ j ∈ g i, j < N ∧ j ∉ out.drop (N - k) := by
 have hd : out.drop (N - (k + 1)) = i :: out.drop (N - k) := by
  obtain ⟨h1, h2⟩ := List.getElem?_eq_some_iff.1 hi
  rw [show N - (k + 1) = N - 1 - k by omega, List.drop_eq_getElem_cons h1, h2, show N - 1 - k + 1 = N - k by omega]
 have e : out = out.take (N - (k + 1)) ++ i :: out.drop (N - k) := by rw [← hd, List.take_append_drop]
 obtain ⟨a, ha⟩ : ∃ a, out.take (N - (k + 1)) = a := ⟨_, rfl⟩
 obtain ⟨b, hb⟩ : ∃ b, out.drop (N - k) = b := ⟨_, rfl⟩
 rw [ha, hb] at e
 have hiN : i < N := ht.lt i (by rw [e]; simp)
 have hnd := ht.nodup
 have hpre : ∀ j ∈ g i, j ∈ a := fun j hj => ht.pre a b i e j hj
 rw [e] at hnd
 have hib : i ∉ b := fun h => (List.nodup_cons.1 (List.nodup_append.1 hnd).2.1).1 h
 have hig : i ∉ g i := fun h => (List.nodup_append.1 hnd).2.2 i (hpre i h) i (by simp) rfl
 refine ⟨hiN, ?_, hig, by rw [hd], fun j hj => ⟨ht.lt j (by rw [e]; simp [hpre j hj]), fun h => ?_⟩⟩
 ·obtain ⟨m, h1, h2⟩ := hC i hiN
  have h3 := h.left i hiN (by rw [hb]; exact hib)
  rw [hb] at h3
  have := h3.uniq (h1.congr (fun q hq => ⟨fun hqN => topo_behind ht hl e hqN hq, fun hqb => ht.lt q (by rw [e]; simp [hqb])⟩) (fun _ _ _ => rfl))
  omega
 ·rw [hb] at h
  exact (List.nodup_append.1 hnd).2.2 j (hpre j hj) j (by simp [h]) rfl
theorem Bk.step {S S2 : List Int} {k i : Nat} (ht : Topo g N out) (hl : out.length = N) (hC : Crit g sz N C) (hC0 : ∀ j, j < N → 0 ≤ C j) (h : Bk g sz N C out k S) (hk : k < N) (hi : out[N - 1 - k]? = some i)
  (h2 : Bi (S.set i (C i)) (C i) (g i) S2) : Bk g sz N C out (k + 1) S2 := by
 obtain ⟨hiN, t1, t2, t3, t4⟩ := h.turn ht hl hC hk hi
 have hlt : i < S.length := by rw [h.len]; exact hiN
 have hat : ∀ j, gt S2 j = if j ∈ g i then max (gt S j) (C i) else if j = i then C i else gt S j := fun j => by
  rw [h2.at_, gt_set hlt]
  by_cases hj : j ∈ g i
  ·rw [if_pos hj, if_pos hj, if_neg (fun e => by subst e; exact t2 hj)]
  ·rw [if_neg hj, if_neg hj]
 refine ⟨by rw [h2.len, List.length_set]; exact h.len, fun j hj hm => ?_, fun j hj hm => ?_⟩
 ·rw [t3] at hm
  rw [hat]
  rcases List.mem_cons.1 hm with rfl | hm
  ·rw [if_neg t2, if_pos rfl]
  ·rw [if_neg (fun hg => (t4 j hg).2 hm)]
   split
   ·rename_i e; rw [e]
   ·exact h.done j hj hm
 ·rw [t3] at hm ⊢
  have hji : j ≠ i := fun e => hm (by rw [e]; simp)
  have hjb : j ∉ out.drop (N - k) := fun h => hm (by simp [h])
  have h3 := h.left j hj hjb
  rw [hat]
  by_cases hg : j ∈ g i
  ·rw [if_pos hg]
   refine ⟨by have := h3.nn; omega, fun q hq hjq => ?_, ?_⟩
   ·rcases List.mem_cons.1 hq with rfl | hq
    ·omega
    ·have := h3.up q hq hjq; omega
   ·by_cases hm : gt S j ≤ C i
    ·exact .inr ⟨i, by simp, hg, by omega⟩
    ·rcases h3.at_ with e | ⟨q, a, b, e⟩
     ·have := hC0 i hiN; omega
     ·exact .inr ⟨q, List.mem_cons_of_mem _ a, b, by omega⟩
  ·rw [if_neg hg, if_neg hji]
   exact h3.congr (fun q hq => ⟨fun h => List.mem_cons_of_mem _ h, fun h => by
    rcases List.mem_cons.1 h with rfl | h
    ·exact absurd hq hg
    ·exact h⟩) (fun _ _ _ => rfl)
/-- all numbers stay within bounds -/
theorem Bk.b {S : List Int} {k : Nat} {B : Int} (h : Bk g sz N C out k S) (ht : Topo g N out) (hB : 0 ≤ B) (hb : ∀ j, j < N → 0 ≤ C j ∧ C j ≤ B) : ∀ j, j < N → 0 ≤ gt S j ∧ gt S j ≤ B := fun j hj => by
 by_cases hm : j ∈ out.drop (N - k)
 ·rw [h.done j hj hm]; exact hb j hj
 ·have h3 := h.left j hj hm
  refine ⟨h3.nn, ?_⟩
  rcases h3.at_ with e | ⟨q, a, b, e⟩
  ·omega
  ·rw [e]; exact (hb q (ht.lt q (List.mem_of_mem_drop a))).2
end
end Go.Proofs.YtbnkoefljcekbaaGreatDoor

namespace Go.Proofs.YtbnkoefljcekbaaGreatDoor
open Go.RowKit
set_option linter.unusedVariables false

theorem takeH {P : Program} {md : Region.Mode} {ops : Array Oper} {Q : Exit → Act → World → Prop} {S : World → Prop} {i : Nat} {d : Option Tmp} {oi : Oper} {v : Value} {fuel : Nat} {listed : Array Bool} {a : Act} {w : World} (hi : ops[i]? = some oi) (hd : oi.dst = d)
  (hs : Region.noSelect ops = true) (hf : Region.free md ops listed i = true) (hr : (Region.ready md ops listed).contains i = true)
  (hQ : ∀ c a w, Q (.panic c) (a.put d v) w → Q (.panic c) a w) (hy : YieldsIf P ops S oi v a) (hS : S w)
  (h : wpAnyH P md ops Q S fuel (listed.setIfInBounds i true) (a.put d v) w) : wpAnyH P md ops Q S (fuel + 1) listed a w := by
 subst hd
 exact wpAnyH_take hi hs hf hr hQ hy hS h
theorem tkH {P : Program} {md : Region.Mode} {ops : Array Oper} {Q : Exit → Act → World → Prop} {S : World → Prop} {i : Nat} {d : Option Tmp} {oi : Oper} {v : Value} {fuel : Nat} {listed : Array Bool} {a : Act} {w : World}
  (hi : ops[i]? = some oi := by rfl) (hd : oi.dst = d := by rfl) (hs : Region.noSelect ops = true := by kernel_rfl) (hf : Region.free md ops listed i = true := by kernel_rfl) (hr : (Region.ready md ops listed).contains i = true := by kernel_rfl)
  (hQ : ∀ c a w, Q (.panic c) (a.put d v) w → Q (.panic c) a w := by exact fun _ _ _ h => h) (hy : YieldsIf P ops S oi v a) (hS : S w := by assumption) (h : wpAnyH P md ops Q S fuel (listed.setIfInBounds i true) (a.put d v) w) : wpAnyH P md ops Q S (fuel + 1) listed a w :=
 takeH hi hd hs hf hr hQ hy hS h
theorem tkA {α : Type} (l : List α) (i : Nat) (x : α) : l.toArray.setIfInBounds i x = (l.set i x).toArray := List.setIfInBounds_toArray ..
theorem tkB {α : Type} (x y : α) (l : List α) : (x :: l).set 0 y = y :: l := List.set_cons_zero
theorem tkC {α : Type} (x y : α) (n : Nat) (l : List α) : (x :: l).set (n + 1) y = x :: l.set n y := List.set_cons_succ
end Go.Proofs.YtbnkoefljcekbaaGreatDoor

namespace Go.Proofs.YtbnkoefljcekbaaGreatDoor
open Go.ChangeShapes Go.WideShapes Go.Deep Go.RowKit
set_option linter.unusedVariables false

/-- the numbers that a closure sorts by: in block cb, their header in block pc -/
structure CC where
 l : List Int
 pc : Nat
 cb : Nat
 cap : Nat
def vC (C : CC) (x : Int) : Int := C.l.getD x.toNat 0
def fI (C : CC) (x : Int) : Int := - vC C x
structure CrAt (C : CC) (w : World) : Prop where
 hd : w.cell? ⟨C.pc, 0, none⟩ = some (.slice (some ⟨C.cb, 0, none⟩) C.l.length C.cap)
 at_ : ∀ (j : Nat) (x : Int), C.l[j]? = some x → w.cell? ⟨C.cb, j, none⟩ = some (.int .i64 x)
theorem CrAt.below {C : CC} {w w' : World} (h : CrAt C w) (hb : Below w.heap.size w w') : CrAt C w' :=
 ⟨(hb.cell (cell?_lt h.hd)).trans h.hd, fun j x hj => (hb.cell (cell?_lt (h.at_ j x hj))).trans (h.at_ j x hj)⟩
def InC (C : CC) (x : Int) : Prop := 0 ≤ x ∧ x < (C.l.length : Int)
/-- the row of n ints at block b, from off on, holds d; it may be written to -/
structure RowI (C : CC) (w : World) (b off n : Nat) (d : List Int) : Prop where
 sl : SlAt RInt w (some ⟨b, off, none⟩) n d
 fz : ∀ j, w.frozen? ⟨b, off + j, none⟩ = false
 lt : b < w.heap.size
 cr : CrAt C w
 bd : ∀ x ∈ d, InC C x
 n1 : b ≠ C.pc
 n2 : b ≠ C.cb
section
variable {C : CC}
theorem RowI.below {w w' : World} {b off n : Nat} {d : List Int} (h : RowI C w b off n d) (hb : Below w.heap.size w w') : RowI C w' b off n d :=
 ⟨h.sl.below hb, fun j => (hb.frozen (p := ⟨b, off + j, none⟩) h.lt).trans (h.fz j), Nat.lt_of_lt_of_le h.lt hb.size, h.cr.below hb, h.bd, h.n1, h.n2⟩
theorem RowI.at_ {w : World} {b off n k : Nat} {d : List Int} {x : Int} (h : RowI C w b off n d) (hx : d[k]? = some x) : w.cell? ⟨b, off + k, none⟩ = some (.int .i64 x) := by
 have hk := (List.getElem?_eq_some_iff.1 hx).1
 obtain ⟨b', off', hA, hc⟩ := h.sl.2.1 (by have := h.sl.1; omega)
 obtain ⟨rfl, rfl⟩ : b = b' ∧ off = off' := by simpa using hA
 have := hc k x hx 0 _ rfl
 simpa [RInt] using this
theorem RowI.put {w : World} {b off n k : Nat} {d : List Int} {x : Int} (h : RowI C w b off n d) (hk : k < n) (hx : I64 x) (hi : InC C x) : RowI C (w.setCell ⟨b, off + k, none⟩ (.int .i64 x)) b off n (d.set k x) := by
 have hl := h.sl.1
 obtain ⟨y, hy⟩ : ∃ y, d[k]? = some y := ⟨d[k]'(by omega), List.getElem?_eq_getElem _⟩
 have e0 := h.at_ hy
 have hn1 := h.n1
 have hn2 := h.n2
 refine ⟨⟨by rw [List.length_set]; exact hl, fun hn => ⟨b, off, rfl, fun i z hz j v hv => ?_⟩, fun z hz => ?_⟩, fun j => by rw [World.frozen?_setCell]; exact h.fz j, by simpa using h.lt,
  ⟨(World.cell?_setCell_other _ _ _ _ (by simp <;> omega)).trans h.cr.hd, fun j x hj => (World.cell?_setCell_other _ _ _ _ (by simp <;> omega)).trans (h.cr.at_ j x hj)⟩, fun z hz => ?_, h.n1, h.n2⟩
 ·match j, hv with
  | 0, hv =>
   simp only [RInt, List.getElem?_cons_zero, Option.some.injEq] at hv
   subst hv
   simp only [RInt, Nat.mul_one, Nat.add_zero]
   rw [List.getElem?_set] at hz
   by_cases hki : k = i
   ·subst hki
    rw [if_pos rfl, if_pos (by omega)] at hz
    injection hz with hz
    subst hz
    exact World.cell?_setCell_same' _ _ _ (by rw [e0]; rfl)
   ·rw [if_neg hki] at hz
    rw [World.cell?_setCell_other _ _ _ _ (by simp <;> omega)]
    exact h.at_ hz
  | j + 1, hv => simp [RInt] at hv
 ·rcases List.mem_or_eq_of_mem_set hz with hz | hz
  ·exact h.sl.2.2 z hz
  ·rw [hz]; exact hx
 ·rcases List.mem_or_eq_of_mem_set hz with hz | hz
  ·exact h.bd z hz
  ·rw [hz]; exact hi
/-- how the world goes on while the row in block b is sorted -/
def Srt (b : Nat) (w w' : World) : Prop := w.grownBy w' (some b)
theorem Srt.trans {b : Nat} {w w' w'' : World} (h : Srt b w w') (h2 : Srt b w' w'') : Srt b w w'' :=
 ⟨h2.os.trans h.os, h2.tape.trans h.tape, h2.output.trans h.output, Nat.le_trans h.size h2.size, fun k hk hne => (h2.block k (Nat.lt_of_lt_of_le hk h.size) hne).trans (h.block k hk hne)⟩
theorem Srt.put {b o : Nat} {w : World} (u : Value) : Srt b w (w.setCell ⟨b, o, none⟩ u) := grown_setc w ⟨b, o, none⟩ u
theorem Srt.drew {b : Nat} {w : World} : Srt b w w.drew := ⟨rfl, rfl, rfl, Nat.le_refl _, fun _ _ _ => rfl⟩
theorem RowI.drew {w : World} {b off n : Nat} {d : List Int} (h : RowI C w b off n d) : RowI C w.drew b off n d := h.below ((Below.refl _ _).drew)
end
end Go.Proofs.YtbnkoefljcekbaaGreatDoor

namespace Go.Proofs.YtbnkoefljcekbaaGreatDoor
set_option linter.unusedVariables false
set_option linter.unusedSimpArgs false

theorem Sim.len {p : PS} {q : QS} (h : Sim p q) : p.runs.length + p.out.length = q.runs.length := by
 have a : p.runs.length = (q.runs.filter going).length := h.runs.length_eq
 have b := h.out.length_eq
 rw [a, b]
 clear a b h
 induction q.runs with
 | nil => rfl
 | cons r R ih =>
  cases hg : going r
  ·rw [List.filter_cons_of_neg (by simp [hg]), List.filter_cons_of_pos (by simp [hg]), List.length_cons, List.length_cons]; omega
  ·rw [List.filter_cons_of_pos hg, List.filter_cons_of_neg (by simp [hg]), List.length_cons, List.length_cons]; omega
theorem len_filter {α : Type} (p : α → Bool) : ∀ l : List α, l.length = (l.filter p).length + (l.filter fun x => !p x).length
 | [] => rfl
 | r :: R => by
  have ih := len_filter p R
  cases hg : p r
  ·rw [List.filter_cons_of_neg (by simp [hg]), List.filter_cons_of_pos (by simp [hg]), List.length_cons, List.length_cons]; omega
  ·rw [List.filter_cons_of_pos hg, List.filter_cons_of_neg (by simp [hg]), List.length_cons, List.length_cons]; omega
theorem cnt_len {m : Nat} : ∀ (n : Nat) (R : List RR), (∀ r ∈ R, r.work < n) → (∀ k, R.countP (onWork k) ≤ m) → R.length ≤ n * m
 | 0, [], _, _ => Nat.zero_le _
 | 0, r :: R, h, _ => absurd (h r List.mem_cons_self) (Nat.not_lt_zero _)
 | n + 1, R, h, hc => by
  have e := len_filter (onWork n) R
  have h1 : (R.filter (onWork n)).length ≤ m := by rw [← List.countP_eq_length_filter]; exact hc n
  have h2 := cnt_len n (R.filter fun x => !onWork n x) (fun r hr => by
    obtain ⟨a, b⟩ := List.mem_filter.1 hr
    have := h r a
    simp [onWork] at b
    omega) (fun k => by
    rw [List.countP_filter]
    exact Nat.le_trans (countP_le_of fun x _ hx => by simp only [Bool.and_eq_true] at hx; exact hx.1) (hc k))
  rw [Nat.succ_mul]
  omega
/-- all that the walk wants to know of a state -/
structure Room (F : FP) (p : PS) : Prop where
 len : ((p.runs.length + p.out.length : Nat) : Int) ≤ F.nX * (F.tries + 1)
 beg : ∀ k, 0 ≤ p.begun k ∧ p.begun k ≤ F.tries + 1
 los : ∀ k, 0 ≤ p.lost k ∧ p.lost k ≤ F.tries + 1
 two : p.runs.Pairwise fun a b => a.work = b.work → a.worker ≠ b.worker
 rn : ∀ r ∈ p.runs, going r = true ∧ r.to_ = 0 ∧ r.worker < F.nW ∧ r.work < F.nX ∧ 0 ≤ r.from_
theorem two_of {Q : List RR} (h : ∀ i, (goingOf Q i).Pairwise fun a b => a.worker ≠ b.worker) : (Q.filter going).Pairwise fun a b => a.work = b.work → a.worker ≠ b.worker := by
 induction Q with
 | nil => exact List.Pairwise.nil
 | cons r R ih =>
  have ht : ∀ i, (goingOf R i).Pairwise fun a b => a.worker ≠ b.worker := fun i => by
   have := h i
   unfold goingOf at this ⊢
   rw [List.filter_cons] at this
   split at this
   ·exact (List.pairwise_cons.1 this).2
   ·exact this
  cases hg : going r
  ·rw [List.filter_cons_of_neg (by simp [hg])]; exact ih ht
  ·rw [List.filter_cons_of_pos hg]
   refine List.Pairwise.cons (fun b hb e => ?_) (ih ht)
   have := h r.work
   unfold goingOf at this
   rw [List.filter_cons_of_pos (by simp [hg])] at this
   obtain ⟨b1, b2⟩ := List.mem_filter.1 hb
   exact (List.pairwise_cons.1 this).1 b (List.mem_filter.2 ⟨b1, by simp [b2, e]⟩)
theorem room_of {F : FP} {p : PS} {q : QS} {lo hi : Int} (hS : Sim p q) (hI : Inv F lo hi q) (hF : FFine F) : Room F p := by
 have htr := hF.tri
 obtain ⟨m, hm⟩ : ∃ m : Nat, F.tries + 1 = m := ⟨(F.tries + 1).toNat, by omega⟩
 have hle : ∀ k e, q.runs.countP (isEnd e k) ≤ q.runs.countP (onWork k) := fun k e => countP_le_of fun x _ hx => by
  simp only [isEnd, Bool.and_eq_true] at hx; exact hx.1
 refine ⟨?_, fun k => ?_, fun k => ?_, ?_, fun r hr => ?_⟩
 ·rw [hS.len, hm]
  have := cnt_len (m := m) F.nX q.runs (fun r hr => (hI.named r hr).2) (fun k => by have := hI.cnt k; omega)
  have h2 : ((q.runs.length : Nat) : Int) ≤ ((F.nX * m : Nat) : Int) := Int.ofNat_le.2 this
  rw [Int.natCast_mul] at h2
  exact h2
 ·rw [hS.begun]
  have : q.runs.countP (fun r => r.work == k) = q.runs.countP (onWork k) := rfl
  rw [this]
  have := hI.cnt k
  exact ⟨by omega, this⟩
 ·rw [hS.lost, hI.los]
  have := hI.cnt k
  have := hle k 2
  exact ⟨by omega, by omega⟩
 ·have := two_of fun i => (hI.two i).2
  exact (hS.runs.pairwise_iff (fun {a b} h e => (h e.symm).symm)).2 this
 ·have hq := hS.runs.mem_iff.1 hr
  obtain ⟨a, b⟩ := List.mem_filter.1 hq
  exact ⟨b, (hI.go r a b).2.2, (hI.named r a).1, (hI.named r a).2, (hI.fr r a).2.1⟩
theorem run_from {F : FP} {p : PS} {q : QS} {lo hi : Int} (hS : Sim p q) (hI : Inv F lo hi q) : ∀ r ∈ p.runs, r.from_ ≤ lo := fun r hr => by
 obtain ⟨a, b⟩ := List.mem_filter.1 (hS.runs.mem_iff.1 hr)
 exact (hI.go r a b).1
/-- a later moment, not beyond the ways of those that work -/
theorem Inv.to {F : FP} {q : QS} (h : Inv F q.at_ (q.at_ + 1) q) {n : Int} (h1 : q.at_ < n) (h2 : ∀ r ∈ q.runs, going r = true → n ≤ F.wto r.worker) : Inv F (n - 1) n { q with at_ := n } := by
 have h0 := h.t0
 refine ⟨h.named, by show 0 ≤ n; omega, h.fr, fun r hr hg => ?_, fun r hr hg => ?_, h.e1, h.two, h.don, h.don1, h.dong, h.doni, h.los, h.cnt, h.cnt0, h.ord, h.dis, fun t ht k hk => ?_, h.bus⟩
 ·obtain ⟨a, b, c⟩ := h.go r hr hg
  exact ⟨by omega, h2 r hr hg, c⟩
 ·obtain ⟨a, b, c⟩ := h.en r hr hg
  exact ⟨a, by show r.to_ ≤ n; omega, c⟩
 ·rcases Int.lt_or_le q.at_ t with hlt | hle
  ·have := cnt_busy h (t := t) (by omega) k
   have := h.bus k hk
   show (cntAt q.runs t k : Int) ≤ _
   omega
  ·exact h.hist t hle k hk
theorem next_to {F : FP} {p : PS} {q : QS} (hS : Sim p q) (ht : p.now = q.at_) (hI : Inv F q.at_ (q.at_ + 1) q) {n : Int} (hn : nextP F p = some n) {B : Int}
  (hw : ∀ k, k < F.nW → F.wfrom k ≤ B ∧ F.wto k ≤ B) (hl : ∀ t ∈ F.lossAt, t ≤ B) : q.at_ < n ∧ n ≤ B ∧ Inv F (n - 1) n { q with at_ := n } := by
 obtain ⟨a, b, c⟩ := above_some hn
 rw [ht] at b c
 have hto : ∀ r ∈ q.runs, going r = true → n ≤ F.wto r.worker := fun r hr hg => by
  have hp : r ∈ p.runs := hS.runs.mem_iff.2 (List.mem_filter.2 ⟨hr, hg⟩)
  exact c _ (mem_candsP.2 (.inr (.inl ⟨r, hp, .inr (.inl rfl)⟩))) (by have := (hI.go r hr hg).2.1; omega)
 refine ⟨b, ?_, hI.to b hto⟩
 rcases mem_candsP.1 a with ⟨k, hk, e⟩ | ⟨r, hr, _⟩ | e
 ·rw [e]; exact (hw k hk).1
 ·obtain ⟨r1, r2⟩ := List.mem_filter.1 (hS.runs.mem_iff.1 hr)
  exact Int.le_trans (hto r r1 r2) (hw _ (hI.named r r1).1).2
 ·exact hl n e
/-- a state on the way, and the reference's beside it -/
structure WayP (F : FP) (p : PS) (q : QS) : Prop where
 sim : Sim p q
 at_ : p.now = q.at_
 inv : Inv F (q.at_ - 1) q.at_ q
section
variable {F : FP} {p : PS} {q : QS} (hF : FFine F) (h : WayP F p q)
include hF h
theorem WayP.r0 : Room F p ∧ ∀ r ∈ p.runs, r.from_ ≤ p.now := ⟨room_of h.sim h.inv hF, fun r hr => by have := run_from h.sim h.inv r hr; have := h.at_; omega⟩
theorem WayP.perm {rs : List RR} (hp : rs.Perm p.runs) : WayP F { p with runs := rs } q := have _ := hF; ⟨⟨h.sim.runs.perm hp, h.sim.out, h.sim.done, h.sim.lost, h.sim.begun⟩, h.at_, h.inv⟩
theorem WayP.r1 : Room F (finP F p) ∧ ∀ r ∈ (finP F p).runs, r.from_ ≤ p.now := by
 have h1 := h.inv.fin hF (by omega) (Int.le_refl _)
 have s1 := h.sim.fin (F := F) h.at_
 exact ⟨room_of s1 h1 hF, fun r hr => by have := run_from s1 h1 r hr; have := h.at_; omega⟩
theorem WayP.i2 : Inv F q.at_ (q.at_ + 1) (loseQ F (finQ F q)) := by
 have h1 := h.inv.fin hF (by omega) (Int.le_refl _)
 have h2 : Inv F (q.at_ - 1) (q.at_ + 1) (loseQ F (finQ F q)) := Inv.lose hF (q := finQ F q) h1 (by show q.at_ - 1 < q.at_; omega)
 exact Inv.now (q := loseQ F (finQ F q)) h2
theorem WayP.r2 : Room F (loseP F (finP F p)) ∧ ∀ r ∈ (loseP F (finP F p)).runs, r.from_ ≤ p.now := by
 have h1 := h.i2 hF
 have s1 := (h.sim.fin (F := F) h.at_).lose (F := F) h.at_
 exact ⟨room_of s1 h1 hF, fun r hr => by have := run_from s1 h1 r hr; have := h.at_; omega⟩
theorem WayP.i3 : Inv F q.at_ (q.at_ + 1) (startQ F (loseQ F (finQ F q))) := Inv.starts hF (q := loseQ F (finQ F q)) F.order hF.lt _ (h.i2 hF)
theorem WayP.s3 : Sim (startP F (loseP F (finP F p))) (startQ F (loseQ F (finQ F q))) := ((h.sim.fin (F := F) h.at_).lose (F := F) h.at_).start h.at_ hF.nodup
theorem WayP.s4 : Sim (dblP F (startP F (loseP F (finP F p)))) (stepQ F q) := (h.s3 hF).dbl h.at_
theorem WayP.next {n B : Int} (hn : nextP F (dblP F (startP F (loseP F (finP F p)))) = some n) (hw : ∀ k, k < F.nW → F.wfrom k ≤ B ∧ F.wto k ≤ B) (hl : ∀ t ∈ F.lossAt, t ≤ B) :
  p.now < n ∧ n ≤ B ∧ WayP F { dblP F (startP F (loseP F (finP F p))) with now := n } { stepQ F q with at_ := n } := by
 have hnow : (dblP F (startP F (loseP F (finP F p)))).now = p.now := by unfold dblP; split <;> rfl
 have hat := h.at_
 have e := stepQ_at F q
 obtain ⟨a, b, c⟩ := next_to (q := stepQ F q) (h.s4 hF) (by rw [hnow, e]; exact hat) (by rw [e]; exact h.inv.step hF) hn hw hl
 exact ⟨by omega, b, ⟨(h.s4 hF).at n n, rfl, c⟩⟩
end
end Go.Proofs.YtbnkoefljcekbaaGreatDoor

namespace Go.Proofs.YtbnkoefljcekbaaGreatDoor
set_option linter.unusedVariables false

/-- nobody waited, at all moments up to t -/
def NA (F : FP) (t : Int) (R : List RR) : Prop := ∀ s, 0 ≤ s → s ≤ t → NoneWaits F R s
theorem NA.step {F : FP} (hF : FFine F) (hcov : ∀ i, i < F.nX → i ∈ F.order) {q : QS} (hI : Inv F (q.at_ - 1) q.at_ q) (h : NA F (q.at_ - 1) q.runs) : NA F q.at_ (stepQ F q).runs := by
 intro s h0 hs
 rcases Int.lt_or_le s q.at_ with hlt | hle
 ·obtain ⟨X, e, hX⟩ := step_form F q
  rw [e]
  have hT1 := fin_turn F q.at_ q.runs
  have hT2 := lose_turn F q.at_
  exact none_app hX hlt (hT2.none hlt (hT1.none hlt (h s h0 (by omega))))
 ·have : s = q.at_ := by omega
  subst this
  have := none_now hcov (q := stepQ F q) (by rw [stepQ_at]; exact hI.step hF) (quiet_step F q)
  rw [stepQ_at] at this
  exact this
/-- what a moment is like does not change up to the next one -/
theorem none_between {F : FP} {q : QS} (hI : Inv F q.at_ (q.at_ + 1) q) {s : Int} (hs : q.at_ ≤ s) (hw : ∀ k, k < F.nW → F.wfrom k ≤ s → F.wfrom k ≤ q.at_) (h : NoneWaits F q.runs q.at_) : NoneWaits F q.runs s := by
 intro i hi ⟨a, b, c, d⟩ k hk ⟨e1, e2, e3⟩
 refine h i hi ⟨fun x hx => ?_, fun hd => ?_, fun hr => ?_, ?_⟩ k hk ⟨hw k hk e1, by omega, ?_⟩
 ·obtain ⟨r, hr, h1, h2, _⟩ := a x hx
  exact ⟨r, hr, h1, h2, (hI.en r hr (end1_not_going h2)).2.1⟩
 ·obtain ⟨r, hr, h1, h2, h3⟩ := hd
  exact b ⟨r, hr, h1, h2, by omega⟩
 ·obtain ⟨r, hr, h1, h2, h3⟩ := hr
  refine c ⟨r, hr, h1, by omega, ?_⟩
  cases hg : going r
  ·rcases h3 with h3 | h3
   ·rw [hg] at h3; cases h3
   ·have := (hI.en r hr hg).2.1; omega
  ·exact .inl rfl
 ·have : LostBy q.runs q.at_ i = LostBy q.runs s i := countP_eq_of fun r hr => by
   cases he : isEnd 2 i r
   ·rfl
   ·simp only [isEnd, Bool.and_eq_true, beq_iff_eq] at he
    have h2 := (hI.en r hr (end2_not_going he.2)).2.1
    have h3 : r.to_ ≤ s := by omega
    simp [h2, h3]
  rw [this]; exact d
 ·have : cntAt q.runs q.at_ k = cntAt q.runs s k := countP_eq_of fun r hr => by
   cases hg : going r
   ·have h2 := (hI.en r hr hg).2.1
    have h3 : ¬ q.at_ < r.to_ := by omega
    have h4 : ¬ s < r.to_ := by omega
    simp [h3, h4]
   ·have h2 := (hI.go r hr hg).1
    have h3 : r.from_ ≤ s := by omega
    simp [h2, h3]
  rw [this]; exact e3
theorem NA.at {F : FP} {q : QS} (hI : Inv F q.at_ (q.at_ + 1) q) (h : NA F q.at_ q.runs) {n : Int} (hn : nextQ F q = some n) : NA F (n - 1) q.runs := by
 obtain ⟨n1, n2, n3⟩ := above_some hn
 intro s h0 hs
 rcases Int.lt_or_le q.at_ s with hlt | hle
 ·refine none_between hI (by omega) (fun k hk e => ?_) (h q.at_ hI.t0 (Int.le_refl _))
  rcases Int.lt_or_le q.at_ (F.wfrom k) with h1 | h1
  ·have := n3 _ (mem_candsQ.2 (.inl ⟨k, hk, .inl rfl⟩)) h1
   omega
  ·exact h1
 ·exact h s h0 hle
theorem QTrace.uniq {F : FP} {q a b : QS} (h : QTrace F q a) : QTrace F q b → a = b := by
 induction h with
 | last q hn =>
  intro h2
  cases h2 with
  | last _ _ => rfl
  | more _ n _ h3 _ => rw [hn] at h3; cases h3
 | more q n q' hn _ ih =>
  intro h2
  cases h2 with
  | last _ h3 => rw [hn] at h3; cases h3
  | more _ m _ h3 h4 =>
   rw [hn] at h3
   injection h3 with h3
   subst h3
   exact ih h4
end Go.Proofs.YtbnkoefljcekbaaGreatDoor
