/-
  A queue: a row of numbers that a call itself made, of which the first ones were cut off.
-/
import Derived.Test.YtbapkhkklglbaaaDoorOwn
import Derived.Laws.CopyRow
namespace Go.Proofs.YtbapkhkklglbaaaDoor
open Go.ChangeShapes Go.WideShapes Go.Deep Go.RowKit
set_option linter.unusedVariables false

theorem elem_IntQ : Elem Tryd.prog 3 1 8 := elem_of (z := .int .i64 0) (by kernel_rfl) (by decide)

/-- from place off on of block g, made from block 'base' on, there are the numbers l -/
def Que (w : World) (base g off n cap : Nat) (l : List Int) : Prop :=
  l.length = n ∧ base ≤ g ∧ n ≤ cap ∧ cap ≤ maxLen ∧ (∀ x ∈ l, I64 x) ∧ ∃ cur : Array Value, w.heap[g]? = some (.cells cur 3 (0, 0)) ∧ off + cap ≤ cur.size ∧ ∀ i x, l[i]? = some x → cur[off + i]? = some (.int .i64 x)

section
variable {w w' : World} {base g off n cap : Nat} {l : List Int}
theorem Que.lt (h : Que w base g off n cap l) : g < w.heap.size := by
  obtain ⟨_, _, _, _, _, cur, hg, _⟩ := h
  rcases Nat.lt_or_ge g w.heap.size with h | h
  · exact h
  · rw [Array.getElem?_eq_none h] at hg; cases hg
theorem Que.cell (h : Que w base g off n cap l) {i : Nat} {x : Int} (hx : l[i]? = some x) : w.cell? ⟨g, off + i, none⟩ = some (.int .i64 x) := by
  obtain ⟨_, _, _, _, _, cur, hg, _, hc⟩ := h
  rw [cell_of_row w g _ cur 3 (0, 0) hg]
  exact hc i x hx
theorem Que.kept {row : Option Nat} (h : Que w base g off n cap l) (hg : w.grownBy w' row) (hne : some g ≠ row) : Que w' base g off n cap l := by
  have hlt := h.lt
  obtain ⟨h1, h2, h3, h4, h5, cur, h6, h7⟩ := h
  exact ⟨h1, h2, h3, h4, h5, cur, (hg.block g hlt hne).trans h6, h7⟩
theorem Que.below (h : Que w base g off n cap l) (hb : Below w.heap.size w w') : Que w' base g off n cap l := by
  have hlt := h.lt
  obtain ⟨h1, h2, h3, h4, h5, cur, h6, h7⟩ := h
  exact ⟨h1, h2, h3, h4, h5, cur, (hb.block g hlt).trans h6, h7⟩
theorem Que.set (h : Que w base g off n cap l) {a : Addr} (hne : g ≠ a.block) (u : Value) : Que (w.setCell a u) base g off n cap l := by
  obtain ⟨h1, h2, h3, h4, h5, cur, h6, h7⟩ := h
  exact ⟨h1, h2, h3, h4, h5, cur, (heap_setCell_other w a g u hne).trans h6, h7⟩
theorem Que.tail {x : Int} {r : List Int} (h : Que w base g off n cap (x :: r)) : Que w base g (off + 1) (n - 1) (cap - 1) r := by
  obtain ⟨h1, h2, h3, h4, h5, cur, h6, h7, h8⟩ := h
  rw [List.length_cons] at h1
  refine ⟨by omega, h2, by omega, by omega, fun y hy => h5 y (List.mem_cons_of_mem _ hy), cur, h6, by omega, fun i y hy => ?_⟩
  have := h8 (i + 1) y (by simpa using hy)
  rwa [show off + 1 + i = off + (i + 1) by omega]
theorem Que.last {x : Int} {r : List Int} (h : Que w base g off n cap (x :: r)) (hc : cap = 1) : r = [] ∧ n = 1 ∧ Que w base g off 0 0 [] := by
  obtain ⟨h1, h2, h3, h4, h5, cur, h6, h7, h8⟩ := h
  rw [List.length_cons] at h1
  have hr : r = [] := List.eq_nil_of_length_eq_zero (by omega)
  subst hr
  exact ⟨rfl, by omega, rfl, h2, Nat.le_refl _, Nat.zero_le _, (fun _ h => nomatch h), cur, h6, by omega, fun i y hy => by cases hy⟩
/-- a new row of one number -/
theorem Que.one (w : World) (x : Int) (hx : I64 x) : Que (w.alloc (.cells #[.int .i64 x] 3)) w.heap.size w.heap.size 0 1 1 [x] :=
  ⟨rfl, Nat.le_refl _, Nat.le_refl _, by simp only [maxLen]; omega, fun y hy => by rw [List.mem_singleton] at hy; subst hy; exact hx, _, heap_alloc_new w _, Nat.le_refl _, fun i y hy => by
    cases i with
    | zero => simp at hy; subst hy; rfl
    | succ i => simp at hy⟩

theorem run_que_app {ty t : TypeId} (ht : Tryd.prog.underlying t = some (.slice 3)) (hq : Que w base g off n cap l) (ad : Addr) (c : Nat) (y : Int) (hy : w.cell? ad = some (.int .i64 y)) (hI : I64 y) (h63 : n + 1 ≤ 1000000) (hbase : base ≤ w.heap.size) :
    ∃ g' off' cap' w', (Builtin.append_ #[t, t] ty #[.slice (some ⟨g, off, none⟩) n cap, .slice (some ad) 1 c]).run Tryd.prog w = .ok (.slice (some ⟨g', off', none⟩) (n + 1) cap') w' ∧ Que w' base g' off' (n + 1) cap' (l ++ [y]) ∧ w.grownBy w' (some g) ∧ (g' = g ∨ g' = w.heap.size) := by
  have hlt := hq.lt
  have hcell := fun i x => hq.cell (i := i) (x := x)
  obtain ⟨h1, h2, h3, h4, h5, cur, h6, h7, h8⟩ := hq
  obtain ⟨i, z, hi, hz, hz1, hz2, hz3⟩ := elem_IntQ
  have hnews : ∀ j u, [Value.int .i64 y][j]? = some u → w.cell? (ad.add j) = some u := fun j u hu => by
    cases j with
    | zero =>
      have : ad.add 0 = ad := by simp [Addr.add]
      rw [this]; simp at hu; subst hu; exact hy
    | succ j => simp at hu
  have hone : ∀ u ∈ [Value.int .i64 y], u.oneCell' = true := fun u hu => by simp at hu; subst hu; rfl
  have hI' : ∀ x ∈ l ++ [y], I64 x := fun x hx => by
    rcases List.mem_append.1 hx with hx | hx
    · exact h5 x hx
    · rw [List.mem_singleton] at hx; subst hx; exact hI
  by_cases hroom : n + 1 ≤ cap
  · have hf := run_firstCells_some (P := Tryd.prog) w 1 1 ad 1 c [.int .i64 y] rfl hnews
    have hst := run_storeCells_at Tryd.prog g (off + n) 3 [.int .i64 y] 0 cur w h6 (by simp only [List.length_singleton]; omega) hone
    simp only [Nat.add_zero, List.length_singleton] at hst
    obtain ⟨arr, harr⟩ : ∃ arr, (cur.toList.take (off + n) ++ [Value.int .i64 y] ++ cur.toList.drop (off + n + 1)).toArray = arr := ⟨_, rfl⟩
    rw [harr] at hst
    refine ⟨g, off, cap, w.setRow g arr, ?_, ⟨by simp [h1], h2, hroom, h4, hI', arr, setRow_heap w g cur arr 3 _ h6, ?_, fun j x hx => ?_⟩, ⟨rfl, rfl, rfl, by simp, fun k _ hk => setRow_other w g k _ (fun e => hk (by rw [e]))⟩, .inl rfl⟩
    · simp [Builtin.append_, run_underlying ht, sizeOf, typeInfo, hi, hz1, Builtin.lenOf, hroom, hf, Addr.add_lit, hst]
    · rw [← harr]
      simp only [List.size_toArray, List.length_append, List.length_take, List.length_drop, Array.length_toList, List.length_singleton]
      omega
    · rw [← harr]
      simp only [List.getElem?_toArray]
      have hle : off + n < cur.toList.length := by simp; omega
      have htl : (cur.toList.take (off + n)).length = off + n := by rw [List.length_take]; omega
      by_cases hj : j < n
      · rw [List.append_assoc, List.getElem?_append_left (by omega), List.getElem?_take, if_pos (by omega)]
        rw [List.getElem?_append_left (by omega)] at hx
        have := h8 j x hx
        simpa using this
      · have hjn : j = n := by
          have := (List.getElem?_eq_some_iff.1 hx).1
          simp at this
          omega
        subst hjn
        rw [List.append_assoc, List.getElem?_append_right (by omega), htl, Nat.sub_self]
        rw [List.getElem?_append_right (by omega), h1, Nat.sub_self] at hx
        simp at hx
        subst hx
        rfl
  · have hnc : n = cap := by omega
    have holds : ∀ j u, (l.map (Value.int .i64))[j]? = some u → w.cell? ((⟨g, off, none⟩ : Addr).add j) = some u := fun j u hu => by
      rw [List.getElem?_map] at hu
      obtain ⟨x, hx, rfl⟩ := Option.map_eq_some_iff.1 hu
      rw [Addr.add_lit]
      exact hcell j x hx
    have hr := run_append_grow (P := Tryd.prog) w t ty 3 i z ht hi hz ⟨g, off, none⟩ n cap (l.map (Value.int .i64)) (by rw [hz1]; simp [h1]) holds ad 1 c [.int .i64 y] (by rw [hz1]; rfl) hnews (by omega) (by omega) (growslice_fits (by omega) (by rw [hz2]; omega))
    have hge := grownCap_ge w (n + 1) cap 3
    have hcm := grownCap_le_maxLen w (n + 1) cap 3 (by simp only [maxLen]; omega)
    refine ⟨w.heap.size, 0, _, _, hr, ⟨by simp [h1], hbase, hge, hcm, hI', _, heap_alloc_new w.drew _, ?_, fun j x hx => ?_⟩, ⟨rfl, rfl, rfl, by simp, fun k hk hne => (World.grownBy_alloc w.drew _ (some g)).block k hk hne⟩, .inr rfl⟩
    · simp only [Array.size_append, List.size_toArray, size_zeroCells, hz3, List.length_map, List.length_singleton, h1]
      omega
    · rw [Nat.zero_add]
      have hjl := (List.getElem?_eq_some_iff.1 hx).1
      rw [List.length_append, List.length_singleton] at hjl
      rw [← Array.getElem?_toList, Array.toList_append, Array.toList_append, List.getElem?_append_left (by simp; omega), ← List.map_singleton (f := Value.int .i64), ← List.map_append, List.getElem?_map, hx]
      rfl

theorem wpList_que_app {ops : Array Oper} {rest : List Oper} {o : Oper} {a : Act} {Q : Exit → Act → World → Prop} (hgd : o.guard = none) (s x : Operand) (t : TypeId)
    (ho : o.op = .call { callee := .builtin .append, args := #[s, x], argTypes := #[t, t] }) (ht : Tryd.prog.underlying t = some (.slice 3)) (hs : a.eval s = .slice (some ⟨g, off, none⟩) n cap) (hq : Que w base g off n cap l)
    (ad : Addr) (c : Nat) (y : Int) (hx : a.eval x = .slice (some ad) 1 c) (hy : w.cell? ad = some (.int .i64 y)) (hI : I64 y) (h63 : n + 1 ≤ 1000000) (hbase : base ≤ w.heap.size)
    (h : ∀ g' off' cap' w', Que w' base g' off' (n + 1) cap' (l ++ [y]) → w.grownBy w' (some g) → (g' = g ∨ g' = w.heap.size) → wpList Tryd.prog ops Q rest (a.put o.dst (.slice (some ⟨g', off', none⟩) (n + 1) cap')) w') :
    wpList Tryd.prog ops Q (o :: rest) a w := by
  refine wpList_plain hgd fun K hK => ?_
  obtain ⟨g', off', cap', w', hr, h2, h3, h4⟩ := run_que_app (ty := o.type) ht hq ad c y hy hI h63 hbase
  unfold Oper.wp execOp
  simp only [ho, resolve, invoke, builtin, Sem.run_bind, Sem.run_pure, Result.andThen_ok, List.map_toArray, List.map_cons, List.map_nil, hs, hx, hr]
  exact hK _ _ (h g' off' cap' w' h2 h3 h4)
end
end Go.Proofs.YtbapkhkklglbaaaDoor
