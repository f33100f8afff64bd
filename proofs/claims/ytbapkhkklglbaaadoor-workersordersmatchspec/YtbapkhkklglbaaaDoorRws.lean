/-
  Rows of strings, and a row of sums, that a call itself makes: what stands where, and one step of the dealing.
-/
import Derived.Test.YtbapkhkklglbaaaDoorStepApp
import Derived.Test.YtbapkhkklglbaaaDoorBRow
import Derived.Test.YtbapkhkklglbaaaDoorTypesM
import Derived.Test.YtbapkhkklglbaaaDoorShD
namespace Go.Proofs.YtbapkhkklglbaaaDoor
open Go.ChangeShapes Go.WideShapes Go.Deep Go.RowKit
set_option linter.unusedVariables false

theorem elem_StrR : Elem Tryd.prog 9 RStr.size 16 := elem_of (z := .string ByteArray.empty) (by kernel_rfl) (by decide)
/-- n rows of strings: their headers in block bo, each row in a block of its own from base on -/
structure Rws (w : World) (base bo n : Nat) (vs : Nat → Value) (Rs : List (List ByteArray)) : Prop where
  len : Rs.length = n
  cells : ∀ j, j < n → w.cell? ⟨bo, j, none⟩ = some (vs j) ∧ w.frozen? ⟨bo, j, none⟩ = false
  own : ∀ j r, Rs[j]? = some r → Own RStr 9 w base (vs j) r
  dis : ∀ i j k, i < n → j < n → i ≠ j → (vs i).ownBlock = some k → (vs j).ownBlock ≠ some k
  lt : bo < base
  le : base ≤ w.heap.size
structure Sms (w : World) (bs n : Nat) (S : List Int) : Prop where
  len : S.length = n
  cells : ∀ (j : Nat) (x : Int), S[j]? = some x → w.cell? ⟨bs, j, none⟩ = some (.int .i64 x) ∧ w.frozen? ⟨bs, j, none⟩ = false
theorem Sms.keep {w w' : World} {bs n : Nat} {S : List Int} (h : Sms w bs n S) (hb : w'.heap[bs]? = w.heap[bs]?) : Sms w' bs n S :=
  ⟨h.len, fun j x hj => ⟨(World.cell?_of_block (a := ⟨bs, j, none⟩) hb).trans (h.cells j x hj).1, (World.frozen?_of_block (a := ⟨bs, j, none⟩) hb).trans (h.cells j x hj).2⟩⟩
theorem Sms.put {w : World} {bs n k : Nat} {S : List Int} (h : Sms w bs n S) (hk : k < n) (x : Int) : Sms (w.setCell ⟨bs, k, none⟩ (.int .i64 x)) bs n (S.set k x) := by
  refine ⟨by rw [List.length_set]; exact h.len, fun j y hj => ?_⟩
  rw [List.getElem?_set] at hj
  by_cases e : k = j
  · subst e
    rw [if_pos rfl, if_pos (by rw [h.len]; exact hk)] at hj
    injection hj with hj
    subst hj
    obtain ⟨z, hz⟩ : ∃ z, S[k]? = some z := ⟨S[k]'(by rw [h.len]; exact hk), List.getElem?_eq_getElem _⟩
    obtain ⟨c, f⟩ := h.cells k z hz
    exact ⟨World.cell?_setCell_same' _ _ _ (by rw [c]; rfl), by rw [World.frozen?_setCell]; exact f⟩
  · rw [if_neg e] at hj
    obtain ⟨c, f⟩ := h.cells j y hj
    exact ⟨by rw [World.cell?_setCell_other _ _ _ _ (by simp <;> omega)]; exact c, by rw [World.frozen?_setCell]; exact f⟩
theorem Sms.sl {w : World} {bs n : Nat} {S : List Int} (h : Sms w bs n S) (hS : ∀ x ∈ S, I64 x) : SlAt RInt w (some ⟨bs, 0, none⟩) n S := by
  refine ⟨h.len, fun _ => ⟨bs, 0, rfl, fun i x hx j v hv => ?_⟩, hS⟩
  match j, hv with
  | 0, hv =>
    simp only [RInt, List.getElem?_cons_zero, Option.some.injEq] at hv
    subst hv
    have := (h.cells i x hx).1
    simpa [RInt] using this
  | j + 1, hv => simp [RInt] at hv
theorem Rws.lt_heap {w : World} {base bo n : Nat} {vs : Nat → Value} {Rs : List (List ByteArray)} (h : Rws w base bo n vs Rs) : bo < w.heap.size := Nat.lt_of_lt_of_le h.lt h.le
theorem Rws.below {w w' : World} {base bo n : Nat} {vs : Nat → Value} {Rs : List (List ByteArray)} (h : Rws w base bo n vs Rs) (hb : Below w.heap.size w w') : Rws w' base bo n vs Rs := by
  have hbo := hb.block bo h.lt_heap
  exact ⟨h.len, fun j hj => ⟨(World.cell?_of_block (a := ⟨bo, j, none⟩) hbo).trans (h.cells j hj).1, (World.frozen?_of_block (a := ⟨bo, j, none⟩) hbo).trans (h.cells j hj).2⟩,
    fun j r hr => (h.own j r hr).below hb, h.dis, h.lt, Nat.le_trans h.le hb.size⟩
/-- a cell of another block below the rows -/
theorem Rws.cell {w : World} {base bo n : Nat} {vs : Nat → Value} {Rs : List (List ByteArray)} (h : Rws w base bo n vs Rs) (a : Addr) (u : Value) (ha : a.block < base) (hne : a.block ≠ bo) : Rws (w.setCell a u) base bo n vs Rs := by
  have hg := grown_setc w a u
  have hbo := hg.block bo h.lt_heap (fun e => hne (by injection e with e; exact e.symm))
  refine ⟨h.len, fun j hj => ⟨(World.cell?_of_block (a := ⟨bo, j, none⟩) hbo).trans (h.cells j hj).1, (World.frozen?_of_block (a := ⟨bo, j, none⟩) hbo).trans (h.cells j hj).2⟩,
    fun j r hr => (h.own j r hr).kept hg ?_ (fun _ _ h => h), h.dis, h.lt, by simpa using h.le⟩
  cases hv : (vs j).ownBlock with
  | none => exact .inl rfl
  | some k => exact .inr (by have := ((h.own j r hr).1.lt k hv).1; intro hc; injection hc with hc; omega)
/-- a row was written to or made anew: its header goes in -/
theorem Rws.put {w w' : World} {base bo n k : Nat} {vs : Nat → Value} {Rs : List (List ByteArray)} {v' : Value} {r' : List ByteArray} (h : Rws w base bo n vs Rs) (hk : k < n) (hg : w.grownBy w' (vs k).ownBlock) (ho : Own RStr 9 w' base v' r')
    (hat : ∀ g, v'.ownBlock = some g → (vs k).ownBlock = some g ∨ w.heap.size ≤ g) : Rws (w'.setCell ⟨bo, k, none⟩ v') base bo n (fun j => if j = k then v' else vs j) (Rs.set k r') := by
  have hkb : ∀ b, (vs k).ownBlock = some b → base ≤ b := fun b hb => by
    obtain ⟨r, hr⟩ : ∃ r, Rs[k]? = some r := ⟨Rs[k]'(by rw [h.len]; exact hk), List.getElem?_eq_getElem _⟩
    exact ((h.own k r hr).1.lt b hb).1
  have hbo := hg.block bo h.lt_heap (fun e => by have := hkb bo e.symm; have := h.lt; omega)
  have hc : ∀ j, j < n → w'.cell? ⟨bo, j, none⟩ = some (vs j) ∧ w'.frozen? ⟨bo, j, none⟩ = false := fun j hj =>
    ⟨(World.cell?_of_block (a := ⟨bo, j, none⟩) hbo).trans (h.cells j hj).1, (World.frozen?_of_block (a := ⟨bo, j, none⟩) hbo).trans (h.cells j hj).2⟩
  have hg2 := grown_setc w' ⟨bo, k, none⟩ v'
  have hlt := h.lt
  have ne_bo : ∀ (v : Value) (l : List ByteArray), Own RStr 9 w' base v l → v.ownBlock = none ∨ v.ownBlock ≠ some bo := fun v l hv => by
    cases e : v.ownBlock with
    | none => exact .inl rfl
    | some b => exact .inr (by have := (hv.1.lt b e).1; intro hc; injection hc with hc; omega)
  refine ⟨by rw [List.length_set]; exact h.len, fun j hj => ?_, fun j r hr => ?_, fun i j b hi hj hne hb => ?_, h.lt, by have := hg.size; have := h.le; simp; omega⟩
  · obtain ⟨c, f⟩ := hc j hj
    by_cases e : j = k
    · subst e
      rw [if_pos rfl]
      exact ⟨World.cell?_setCell_same' _ _ _ (by rw [c]; rfl), by rw [World.frozen?_setCell]; exact f⟩
    · rw [if_neg e]
      exact ⟨by rw [World.cell?_setCell_other _ _ _ _ (by simp <;> omega)]; exact c, by rw [World.frozen?_setCell]; exact f⟩
  · rw [List.getElem?_set] at hr
    by_cases e : k = j
    · subst e
      rw [if_pos rfl, if_pos (by rw [h.len]; exact hk)] at hr
      injection hr with hr
      subst hr
      simp only [if_true]
      exact ho.kept hg2 (ne_bo _ _ ho) (fun _ _ h => h)
    · rw [if_neg e] at hr
      have hjn : j < n := by have := (List.getElem?_eq_some_iff.1 hr).1; rw [h.len] at this; exact this
      have h1 := h.own j r hr
      have h2 : Own RStr 9 w' base (vs j) r := h1.kept hg (by
        cases hv : (vs j).ownBlock with
        | none => exact .inl rfl
        | some b => exact .inr (fun e2 => h.dis j k b hjn hk (fun e3 => e e3.symm) hv e2.symm)) (fun _ _ h => h)
      simp only [if_neg (fun e2 => e e2.symm : ¬ j = k)]
      exact h2.kept hg2 (ne_bo _ _ h2) (fun _ _ h => h)
  · have hlt2 : ∀ j, j < n → ∀ b, (vs j).ownBlock = some b → b < w.heap.size := fun j hj b hb => by
      obtain ⟨r, hr⟩ : ∃ r, Rs[j]? = some r := ⟨Rs[j]'(by rw [h.len]; exact hj), List.getElem?_eq_getElem _⟩
      exact ((h.own j r hr).1.lt b hb).2
    by_cases ei : i = k
    · subst ei
      simp only [if_true] at hb
      simp only [if_neg (fun e2 => hne e2.symm : ¬ j = i)]
      intro hb2
      rcases hat b hb with h3 | h3
      · exact h.dis i j b hi hj hne h3 hb2
      · have := hlt2 j hj b hb2; omega
    · simp only [if_neg ei] at hb
      by_cases ej : j = k
      · subst ej
        simp only [if_true]
        intro hb2
        rcases hat b hb2 with h3 | h3
        · exact h.dis i j b hi hj hne hb h3
        · have := hlt2 i hi b hb; omega
      · simp only [if_neg ej]
        exact h.dis i j b hi hj hne hb
section
variable {α : Type} {R : Rd α} {e : TypeId} {w : World} {base : Nat} {v : Value} {l : List α} {P : Program}
theorem step_app1g {ops : Array Oper} {o : Oper} {a : Act} {K : Act → World → Prop} {Q : Exit → Act → World → Prop} {E : Prop} (hgd : o.guard = none) (s x : Operand) (t : TypeId)
    (ho : o.op = .call { callee := .builtin .append, args := #[s, x], argTypes := #[t, t] })
    {bytes : Nat} (ht : P.underlying t = some (.slice e)) (hE : Elem P e R.size bytes) (hsz : 0 < R.size)
    (hs : a.eval s = v) (hown : Own R e w base v l) (g : Nat) (y : α) (hx : a.eval x = .slice (some ⟨g, 0, none⟩) 1 1) (hy : SlAt R w (some ⟨g, 0, none⟩) 1 [y])
    (hok : ∀ w', w.grownBy w' v.ownBlock → ∀ z, z ∈ l ++ [y] → R.ok w z → R.ok w' z)
    (h63 : l.length + 1 ≤ maxLen) (hbytes : (l.length + 1) * bytes ≤ 140737488355328) (hbase : base ≤ w.heap.size) (N : Nat) (hN : l.length + 1 = N)
    (h : ∀ A' c' w', Own R e w' base (.slice A' N c') (l ++ [y]) → w.grownBy w' v.ownBlock → (∀ g, (Value.slice A' N c').ownBlock = some g → v.ownBlock = some g ∨ w.heap.size ≤ g) → K (a.put o.dst (.slice A' N c')) w') :
    if Region.wanted o (yielded ops a.tmps) = true then Oper.wp P o a w K Q else E := by
  subst hN
  obtain ⟨i, z, hi, hz, hz1, hz2, hz3⟩ := hE
  have hnews : ∀ j u, (R.vals y)[j]? = some u → w.cell? ((⟨g, 0, none⟩ : Addr).add j) = some u := fun j u hu => by
    obtain ⟨b, off, hA, hc⟩ := hy.2.1 (by omega)
    obtain ⟨rfl, rfl⟩ : g = b ∧ 0 = off := by simpa using hA
    have := hc 0 y rfl j u hu
    rw [Addr.add_lit]
    simpa using this
  refine step_append_lies w hgd s x t ho base e i z R.size bytes ht hi hz hz1 hz2 hz3 hsz v l.length (l.flatMap R.vals) hs hown.1 ⟨g, 0, none⟩ 1 1 (R.vals y) hx (by rw [R.len]; omega) hnews
    (fun u hu => R.one y u hu) (by omega) (by omega) hbytes hbase w.heap.size rfl ?_
  intro g' cap w' h3 hg hat _
  refine h _ _ w' ⟨?_, fun q hq => ?_⟩ hg (fun b hb => ?_)
  · rw [List.length_append, List.length_singleton, List.flatMap_append]
    simpa using h3
  · rcases List.mem_append.1 hq with hq' | hq'
    · exact hok w' hg q hq (hown.2 q hq')
    · exact hok w' hg q hq (hy.2.2 q hq')
  · have : g' = b := by simpa [Value.ownBlock] using hb
    subst this
    rcases hat with h4 | h4
    · exact .inl h4
    · exact .inr (by omega)
end
def madeS (n : Nat) : Array Value := madeCells (Value.slice none 0 0).cells (n * 1)
def madeI (n : Nat) : Array Value := madeCells (Value.int .i64 0).cells (n * 1)
theorem run_makeInts (n : Nat) (hn : n ≤ 1000000) (W : World) : (Instr.makeSlice 24 (.int .i64 (n : Int)) (.int .i64 (n : Int))).run Tryd.prog W = .ok (.slice (some ⟨W.heap.size, 0, none⟩) n n) (W.alloc (.cells (madeI n) 3)) := by
  obtain ⟨i, z, hi, hz, hz1, hz2, hz3⟩ : ∃ i z, Tryd.prog.info? 3 = some i ∧ i.zero = some z ∧ i.size = 1 ∧ i.bytes = 8 ∧ z = .int .i64 0 := by
    obtain ⟨i, h1, h2, h3, h4⟩ := info_parts (z := .int .i64 0) (size := 1) (bytes := 8) (show (Tryd.prog.info? 3).map (fun i => (i.zero, i.size, i.bytes)) = some (some (.int .i64 0), 1, 8) by kernel_rfl)
    exact ⟨i, _, h1, h2, h3, h4, rfl⟩
  subst hz3
  have := run_make (P := Tryd.prog) W 24 3 i (.int .i64 0) Tryd.underlying24 hi hz .i64 .i64 (n : Int) (n : Int) (by omega) (Int.le_refl _) (by rw [hz2]; omega) (by omega)
  rw [this, hz1]
  simp only [Int.toNat_natCast]
  rfl
theorem madeS_get (n j : Nat) (hj : j < n) : (madeS n)[j]? = some (.slice none 0 0) := by
  unfold madeS madeCells
  simp [Value.cells, hj, Nat.mod_one]
theorem madeI_get (n j : Nat) (hj : j < n) : (madeI n)[j]? = some (.int .i64 0) := by
  unfold madeI madeCells
  simp [Value.cells, hj, Nat.mod_one]
theorem Rws.made (w : World) (n : Nat) : Rws (w.alloc (.cells (madeS n) 23)) (w.heap.size + 1) w.heap.size n (fun _ => .slice none 0 0) (List.replicate n []) := by
  refine ⟨by simp, fun j hj => ⟨?_, ?_⟩, fun j r hr => ?_, fun i j k _ _ _ h => by simp [Value.ownBlock] at h, by omega, by simp⟩
  · have : (w.alloc (.cells (madeS n) 23)).cell? ⟨w.heap.size, j, none⟩ = (madeS n)[j]? := by simp [go_sem]
    rw [this]; exact madeS_get n j hj
  · simp [go_sem]
  · have : r = [] := (List.mem_replicate.1 (List.mem_of_getElem? hr)).2
    subst this
    exact Own.nil _ _
theorem Rws.up {w : World} {base base' bo n : Nat} {Rs : List (List ByteArray)} (h : Rws w base bo n (fun _ => .slice none 0 0) Rs) (h1 : bo < base') (h2 : base' ≤ w.heap.size) (hR : Rs = List.replicate n []) : Rws w base' bo n (fun _ => .slice none 0 0) Rs :=
  ⟨h.len, h.cells, fun j r hr => by subst hR; have : r = [] := (List.mem_replicate.1 (List.mem_of_getElem? hr)).2; subst this; exact Own.nil _ _, fun i j k _ _ _ h => by simp [Value.ownBlock] at h, h1, h2⟩
theorem Sms.made (w : World) (n : Nat) : Sms (w.alloc (.cells (madeI n) 3)) w.heap.size n (List.replicate n 0) := by
  refine ⟨by simp, fun j x hj => ?_⟩
  have hjn : j < n := by have := (List.getElem?_eq_some_iff.1 hj).1; simpa using this
  have : x = 0 := (List.mem_replicate.1 (List.mem_of_getElem? hj)).2
  subst this
  refine ⟨?_, by simp [go_sem]⟩
  have : (w.alloc (.cells (madeI n) 3)).cell? ⟨w.heap.size, j, none⟩ = (madeI n)[j]? := by simp [go_sem]
  rw [this]; exact madeI_get n j hjn
end Go.Proofs.YtbapkhkklglbaaaDoor
