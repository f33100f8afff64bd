/-
 Several texts of mine as one, without what is not wanted here: XRwr, XPool, XWkH, XKeysI.
-/
import Derived.Test.YtbnkoefljcekbaaGreatDoorWvGb
import Derived.Test.YtbnkoefljcekbaaGreatDoorWvGa
import Derived.Deep.RegionHeld3
import Derived.Test.YtbnkoefljcekbaaGreatDoorShelf
import Derived.Test.YtbnkoefljcekbaaGreatDoorShelfK
namespace Go.Proofs.YtbnkoefljcekbaaGreatDoor
open Go.ChangeShapes Go.WideShapes Go.Deep Go.RowKit
set_option linter.unusedVariables false

/-- n rows of runs: their headers in block bo, each row in a block of its own from base on -/
structure Rwr (w : World) (base bo n : Nat) (vs : Nat → Value) (Rs : List (List Run)) : Prop where
 len : Rs.length = n
 cells : ∀ j, j < n → w.cell? ⟨bo, j, none⟩ = some (vs j) ∧ w.frozen? ⟨bo, j, none⟩ = false
 own : ∀ j r, Rs[j]? = some r → Own RRun 34 w base (vs j) r
 dis : ∀ i j k, i < n → j < n → i ≠ j → (vs i).ownBlock = some k → (vs j).ownBlock ≠ some k
 lt : bo < base
 le : base ≤ w.heap.size
theorem Rwr.lt_heap {w : World} {base bo n : Nat} {vs : Nat → Value} {Rs : List (List Run)} (h : Rwr w base bo n vs Rs) : bo < w.heap.size := Nat.lt_of_lt_of_le h.lt h.le
theorem Rwr.below {w w' : World} {base bo n : Nat} {vs : Nat → Value} {Rs : List (List Run)} (h : Rwr w base bo n vs Rs) (hb : Below w.heap.size w w') : Rwr w' base bo n vs Rs := by
 have hbo := hb.block bo h.lt_heap
 exact ⟨h.len, fun j hj => ⟨(World.cell?_of_block (a := ⟨bo, j, none⟩) hbo).trans (h.cells j hj).1, (World.frozen?_of_block (a := ⟨bo, j, none⟩) hbo).trans (h.cells j hj).2⟩,
  fun j r hr => (h.own j r hr).below hb, h.dis, h.lt, Nat.le_trans h.le hb.size⟩
/-- a cell of another block below the rows -/
theorem Rwr.cell {w : World} {base bo n : Nat} {vs : Nat → Value} {Rs : List (List Run)} (h : Rwr w base bo n vs Rs) (a : Addr) (u : Value) (ha : a.block < base) (hne : a.block ≠ bo) : Rwr (w.setCell a u) base bo n vs Rs := by
 have hg := grown_setc w a u
 have hbo := hg.block bo h.lt_heap (fun e => hne (by injection e with e; exact e.symm))
 refine ⟨h.len, fun j hj => ⟨(World.cell?_of_block (a := ⟨bo, j, none⟩) hbo).trans (h.cells j hj).1, (World.frozen?_of_block (a := ⟨bo, j, none⟩) hbo).trans (h.cells j hj).2⟩,
  fun j r hr => (h.own j r hr).kept hg ?_ (fun _ _ h => h), h.dis, h.lt, by simpa using h.le⟩
 cases hv : (vs j).ownBlock with
 | none => exact .inl rfl
 | some k => exact .inr (by have := ((h.own j r hr).1.lt k hv).1; intro hc; injection hc with hc; omega)
/-- a row was written to or made anew: its header goes in -/
theorem Rwr.put {w w' : World} {base bo n k : Nat} {vs : Nat → Value} {Rs : List (List Run)} {v' : Value} {r' : List Run} (h : Rwr w base bo n vs Rs) (hk : k < n) (hg : w.grownBy w' (vs k).ownBlock) (ho : Own RRun 34 w' base v' r')
  (hat : ∀ g, v'.ownBlock = some g → (vs k).ownBlock = some g ∨ w.heap.size ≤ g) : Rwr (w'.setCell ⟨bo, k, none⟩ v') base bo n (fun j => if j = k then v' else vs j) (Rs.set k r') := by
 have hkb : ∀ b, (vs k).ownBlock = some b → base ≤ b := fun b hb => by
  obtain ⟨r, hr⟩ : ∃ r, Rs[k]? = some r := ⟨Rs[k]'(by rw [h.len]; exact hk), List.getElem?_eq_getElem _⟩
  exact ((h.own k r hr).1.lt b hb).1
 have hbo := hg.block bo h.lt_heap (fun e => by have := hkb bo e.symm; have := h.lt; omega)
 have hc : ∀ j, j < n → w'.cell? ⟨bo, j, none⟩ = some (vs j) ∧ w'.frozen? ⟨bo, j, none⟩ = false := fun j hj =>
  ⟨(World.cell?_of_block (a := ⟨bo, j, none⟩) hbo).trans (h.cells j hj).1, (World.frozen?_of_block (a := ⟨bo, j, none⟩) hbo).trans (h.cells j hj).2⟩
 have hg2 := grown_setc w' ⟨bo, k, none⟩ v'
 have hlt := h.lt
 have ne_bo : ∀ (v : Value) (l : List Run), Own RRun 34 w' base v l → v.ownBlock = none ∨ v.ownBlock ≠ some bo := fun v l hv => by
  cases e : v.ownBlock with
  | none => exact .inl rfl
  | some b => exact .inr (by have := (hv.1.lt b e).1; intro hc; injection hc with hc; omega)
 refine ⟨by rw [List.length_set]; exact h.len, fun j hj => ?_, fun j r hr => ?_, fun i j b hi hj hne hb => ?_, h.lt, by have := hg.size; have := h.le; simp; omega⟩
 ·obtain ⟨c, f⟩ := hc j hj
  by_cases e : j = k
  ·subst e
   rw [if_pos rfl]
   exact ⟨World.cell?_setCell_same' _ _ _ (by rw [c]; rfl), by rw [World.frozen?_setCell]; exact f⟩
  ·rw [if_neg e]
   exact ⟨by rw [World.cell?_setCell_other _ _ _ _ (by simp <;> omega)]; exact c, by rw [World.frozen?_setCell]; exact f⟩
 ·rw [List.getElem?_set] at hr
  by_cases e : k = j
  ·subst e
   rw [if_pos rfl, if_pos (by rw [h.len]; exact hk)] at hr
   injection hr with hr
   subst hr
   simp only [if_true]
   exact ho.kept hg2 (ne_bo _ _ ho) (fun _ _ h => h)
  ·rw [if_neg e] at hr
   have hjn : j < n := by have := (List.getElem?_eq_some_iff.1 hr).1; rw [h.len] at this; exact this
   have h1 := h.own j r hr
   have h2 : Own RRun 34 w' base (vs j) r := h1.kept hg (by
    cases hv : (vs j).ownBlock with
    | none => exact .inl rfl
    | some b => exact .inr (fun e2 => h.dis j k b hjn hk (fun e3 => e e3.symm) hv e2.symm)) (fun _ _ h => h)
   simp only [if_neg (fun e2 => e e2.symm : ¬ j = k)]
   exact h2.kept hg2 (ne_bo _ _ h2) (fun _ _ h => h)
 ·have hlt2 : ∀ j, j < n → ∀ b, (vs j).ownBlock = some b → b < w.heap.size := fun j hj b hb => by
   obtain ⟨r, hr⟩ : ∃ r, Rs[j]? = some r := ⟨Rs[j]'(by rw [h.len]; exact hj), List.getElem?_eq_getElem _⟩
   exact ((h.own j r hr).1.lt b hb).2
  by_cases ei : i = k
  ·subst ei
   simp only [if_true] at hb
   simp only [if_neg (fun e2 => hne e2.symm : ¬ j = i)]
   intro hb2
   rcases hat b hb with h3 | h3
   ·exact h.dis i j b hi hj hne h3 hb2
   ·have := hlt2 j hj b hb2; omega
  ·simp only [if_neg ei] at hb
   by_cases ej : j = k
   ·subst ej
    simp only [if_true]
    intro hb2
    rcases hat b hb2 with h3 | h3
    ·exact h.dis i j b hi hj hne hb h3
    ·have := hlt2 i hi b hb; omega
   ·simp only [if_neg ej]
    exact h.dis i j b hi hj hne hb
theorem run_makeRwr (n : Nat) (hn : n ≤ 1000000) (W : World) : (Instr.makeSlice 98 (.int .i64 (n : Int)) (.int .i64 (n : Int))).run Tryz.prog W = .ok (.slice (some ⟨W.heap.size, 0, none⟩) n n) (W.alloc (.cells (madeS n) 27)) := by
 obtain ⟨i, z, hi, hz, hz1, hz2, hz3⟩ : ∃ i z, Tryz.prog.info? 27 = some i ∧ i.zero = some z ∧ i.size = 1 ∧ i.bytes = 24 ∧ z = .slice none 0 0 := by
  obtain ⟨i, h1, h2, h3, h4⟩ := info_parts (z := .slice none 0 0) (size := 1) (bytes := 24) (show (Tryz.prog.info? 27).map (fun i => (i.zero, i.size, i.bytes)) = some (some (.slice none 0 0), 1, 24) by kernel_rfl)
  exact ⟨i, _, h1, h2, h3, h4, rfl⟩
 subst hz3
 have := run_make (P := Tryz.prog) W 98 27 i (.slice none 0 0) Tryz.underlying98 hi hz .i64 .i64 (n : Int) (n : Int) (by omega) (Int.le_refl _) (by rw [hz2]; omega) (by omega)
 rw [this, hz1]
 simp only [Int.toNat_natCast]
 rfl
theorem Rwr.made (w : World) (n : Nat) : Rwr (w.alloc (.cells (madeS n) 27)) (w.heap.size + 1) w.heap.size n (fun _ => .slice none 0 0) (List.replicate n []) := by
 refine ⟨by simp, fun j hj => ⟨?_, ?_⟩, fun j r hr => ?_, fun i j k _ _ _ h => by simp [Value.ownBlock] at h, by omega, by simp⟩
 ·have : (w.alloc (.cells (madeS n) 27)).cell? ⟨w.heap.size, j, none⟩ = (madeS n)[j]? := by simp [go_sem]
  rw [this]; exact madeS_get n j hj
 ·simp [go_sem]
 ·have : r = [] := (List.mem_replicate.1 (List.mem_of_getElem? hr)).2
  subst this
  exact Own.nil _ _
theorem Rwr.up {w : World} {base base' bo n : Nat} {Rs : List (List Run)} (h : Rwr w base bo n (fun _ => .slice none 0 0) Rs) (h1 : bo < base') (h2 : base' ≤ w.heap.size) (hR : Rs = List.replicate n []) : Rwr w base' bo n (fun _ => .slice none 0 0) Rs :=
 ⟨h.len, h.cells, fun j r hr => by subst hR; have : r = [] := (List.mem_replicate.1 (List.mem_of_getElem? hr)).2; subst this; exact Own.nil _ _, fun i j k _ _ _ h => by simp [Value.ownBlock] at h, h1, h2⟩
end Go.Proofs.YtbnkoefljcekbaaGreatDoor

namespace Go.Proofs.YtbnkoefljcekbaaGreatDoor
open Go.RowKit
set_option linter.unusedVariables false

/-- from a state s of the pool: each operation that may come leads to a state in which one less is to come; behind the last the region goes on -/
theorem pool {P : Program} {ops : Array Oper} {Q : Exit → Act → World → Prop} {md : Region.Mode} {S : World → Prop} {σ : Type} (L : σ → Array Bool) (A : σ → Act) (J : σ → World → Prop) (m : σ → Nat) (base : Nat)
  (H0 : ∀ s w, m s = 0 → J s w → S w → wpAnyH P md ops Q S base (L s) (A s) w)
  (H1 : ∀ s w, m s ≠ 0 → J s w → S w → Region.ready md ops (L s) ≠ [] ∧ ∀ i ∈ Region.ready md ops (L s), ∃ o, ops[i]? = some o ∧
   ∀ K : Act → World → Prop, Shut (∀ s' w', m s' + 1 = m s → L s' = (L s).setIfInBounds i true → J s' w' → S w' → K (A s') w') → if Region.wanted o (yielded ops (A s).tmps) = true then Oper.wp P o (A s) w K Q else K ((A s).put o.dst undef) w) :
  ∀ n s w, m s = n → J s w → S w → wpAnyH P md ops Q S (base + n) (L s) (A s) w
 | 0, s, w, h, hJ, hS => H0 s w h hJ hS
 | n + 1, s, w, h, hJ, hS => by
  obtain ⟨hne, hall⟩ := H1 s w (by omega) hJ hS
  refine ⟨fun h0 => absurd h0 hne, fun i hi => ?_⟩
  obtain ⟨o, ho, hw⟩ := hall i hi
  exact wpOp_step ho (fun K' hK => hw K' (fun s' w' hm hL hJ' hS' => hK _ _ ⟨hS', by rw [← hL]; exact pool L A J m base H0 H1 n s' w' (by omega) hJ' hS'⟩))

/-! a region whose operations 3, 4, 6, 8, 10, 12 come in whatever order, then 13, 14, 15 -/
def upo (o : Nat → Option Nat) (k b : Nat) : Nat → Option Nat := fun j => if j = k then some b else o j
def n1 (x : Option Nat) : Nat := match x with
 | none => 1
 | some _ => 0
def m6 (o : Nat → Option Nat) : Nat := n1 (o 3) + n1 (o 4) + n1 (o 6) + n1 (o 8) + n1 (o 10) + n1 (o 12)
end Go.Proofs.YtbnkoefljcekbaaGreatDoor

namespace Go.Proofs.YtbnkoefljcekbaaGreatDoor
open Go.RowKit
set_option linter.unusedVariables false

section
variable {P : Program} {ops : Array Oper} {Q : Exit → Act → World → Prop} {md : Region.Mode}
/-- whatever order is picked from here on; operation j goes on so that R j holds of the worlds ahead of it and behind it -/
def wpAnyR (P : Program) (md : Region.Mode) (ops : Array Oper) (Q : Exit → Act → World → Prop) (R : Nat → World → World → Prop) : Nat → Array Bool → Act → World → Prop
 | 0, listed, a, w => Region.ready md ops listed = [] ∧ Q .normal a w
 | fuel + 1, listed, a, w =>
  (Region.ready md ops listed = [] → Q .normal a w) ∧
  ∀ i ∈ Region.ready md ops listed, wpOp P ops Q i (fun a' w' => R i w w' ∧ wpAnyR P md ops Q R fuel (listed.setIfInBounds i true) a' w') a w
theorem wpAny_of_R {R : Nat → World → World → Prop} : ∀ (fuel : Nat) (listed : Array Bool) (a : Act) (w : World), wpAnyR P md ops Q R fuel listed a w → wpAny P md ops Q fuel listed a w
 | 0, _, _, _, h => h
 | fuel + 1, _, _, _, h => ⟨h.1, fun i hi => wpOp_mono (fun a' w' h' => wpAny_of_R fuel _ a' w' h'.2) (h.2 i hi)⟩
theorem wpAnyR_first {R : Nat → World → World → Prop} {Si : World → Prop} {i : Nat} {oi : Oper} {v : Value} (hi : ops[i]? = some oi) (hsel : ∀ (j : Nat) (o : Oper) cs b, ops[j]? = some o → o.op ≠ .select cs b)
  (hQ : ∀ c a w, Q (.panic c) (a.put oi.dst v) w → Q (.panic c) a w) (hR : ∀ w, R i w w)
  (hw : ∀ j oj, ops[j]? = some oj → (∀ e ∈ oj.after, Region.binds md e = true → e.on ≠ i) → ∀ w w', R j w w' → Si w → Si w') :
  ∀ (fuel : Nat) (listed : Array Bool) (a : Act) (w : World),
   (∀ j oj, ops[j]? = some oj → j ≠ i → listed.getD j true = false → (∀ e ∈ oj.after, Region.binds md e = true → e.on ≠ i) → oi.apart ops oj = true) →
   i ∈ Region.ready md ops listed → YieldsIf P ops Si oi v a → Si w →
   wpAnyR P md ops Q R fuel (listed.setIfInBounds i true) (a.put oi.dst v) w → wpAnyR P md ops Q R (fuel + 1) listed a w := by
 intro fuel
 induction fuel with
 | zero =>
  intro listed a w _ hr hy hS H
  refine ⟨fun h => (by rw [h] at hr; cases hr), fun j hj => ?_⟩
  by_cases hji : j = i
  ·subst hji; exact hy.wpOp hi hS ⟨hR _, H⟩
  ·have := ready_mono hj hji
   rw [H.1] at this
   cases this
 | succ fuel ih =>
  intro listed a w hfree hr hy hS H
  refine ⟨fun h => (by rw [h] at hr; cases hr), fun j hj => ?_⟩
  by_cases hji : j = i
  ·subst hji; exact hy.wpOp hi hS ⟨hR _, H⟩
  ·have h1 := H.2 j (ready_mono hj hji)
   obtain ⟨hjun, oj, hoj, hall⟩ := mem_ready.1 hj
   have hnot : ∀ e ∈ oj.after, Region.binds md e = true → e.on ≠ i := fun e he hb heq => by
    have h1 := hall e he hb
    have h0 := (mem_ready.1 hr).1
    rw [heq] at h1
    rcases Nat.lt_or_ge i listed.size with h' | h'
    ·simp [h'] at h0 h1; rw [h0] at h1; cases h1
    ·simp [Array.getElem?_eq_none h'] at h1
   have h2 := wpOp_putIf hoj (hfree j oj hoj hji hjun hnot) (fun cs b => hsel i oi cs b hi) (fun cs b => hsel j oj cs b hoj) hQ hy h1
   have hfree' : ∀ k ok, ops[k]? = some ok → k ≠ i → (listed.setIfInBounds j true).getD k true = false →
     (∀ e ∈ ok.after, Region.binds md e = true → e.on ≠ i) → oi.apart ops ok = true := fun k ok hk hki hun hno => by
    refine hfree k ok hk hki ?_ hno
    by_cases hjk : j = k
    ·subst hjk; exact hjun
    ·rw [getD_set_ne true hjk] at hun; exact hun
   refine wpOp_mono (fun a' w' h3 => ⟨h3.2.1, ih (listed.setIfInBounds j true) a' w' hfree' (ready_mono hr (Ne.symm hji)) h3.1 (hw j oj hoj hnot _ _ h3.2.1 hS) ?_⟩) h2
   rw [Array.setIfInBounds_comm _ _ hji]
   exact h3.2.2
/-- F goes on up to the first store, C up to the last -/
def Rk (F C : World → Prop) (j1 j2 : Nat) (j : Nat) (w w' : World) : Prop := (j ≠ j2 → j ≠ j1 → F w → F w') ∧ (j ≠ j2 → C w → C w')
theorem Rk.refl {F C : World → Prop} {j1 j2 j : Nat} (w : World) : Rk F C j1 j2 j w w := ⟨fun _ _ h => h, fun _ h => h⟩
def waits (md : Region.Mode) (ops : Array Oper) (j i : Nat) : Bool := match ops[j]? with
 | some o => o.after.any fun e => Region.binds md e && e.on == i
 | none => true
theorem waits_not {j i : Nat} {oj : Oper} (hj : ops[j]? = some oj) (h : waits md ops j i = true) (hn : ∀ e ∈ oj.after, Region.binds md e = true → e.on ≠ i) : False := by
 unfold waits at h
 rw [hj] at h
 simp only [Array.any_eq_true, Bool.and_eq_true, beq_iff_eq] at h
 obtain ⟨k, hk, hb, he⟩ := h
 exact hn _ (Array.getElem_mem hk) hb he
theorem takeF {F C : World → Prop} {j1 j2 i : Nat} {d : Option Tmp} {oi : Oper} {v : Value} {fuel : Nat} {listed : Array Bool} {a : Act} {w : World} (hi : ops[i]? = some oi) (hd : oi.dst = d)
  (hs : Region.noSelect ops = true) (hf : Region.free md ops listed i = true) (hr : (Region.ready md ops listed).contains i = true) (h1 : waits md ops j1 i = true) (h2 : waits md ops j2 i = true)
  (hQ : ∀ c a w, Q (.panic c) (a.put d v) w → Q (.panic c) a w) (hy : YieldsIf P ops F oi v a) (hS : F w)
  (h : wpAnyR P md ops Q (Rk F C j1 j2) fuel (listed.setIfInBounds i true) (a.put d v) w) : wpAnyR P md ops Q (Rk F C j1 j2) (fuel + 1) listed a w := by
 subst hd
 refine wpAnyR_first (Si := F) hi (Region.noSelect_spec hs) hQ Rk.refl (fun j oj hj hn w w' hw hF => hw.1 (fun e => ?_) (fun e => ?_) hF) fuel listed a w (Region.free_spec hi hf) (by simpa using hr) hy hS h
 ·subst e; exact waits_not hj h2 hn
 ·subst e; exact waits_not hj h1 hn
theorem oneR {R : Nat → World → World → Prop} {i : Nat} {o : Oper} {fuel : Nat} {listed : Array Bool} {a : Act} {w : World} (hr : Region.ready md ops listed = [i]) (ho : ops[i]? = some o)
  (h : ∀ K' : Act → World → Prop, Shut (∀ a' w', R i w w' → wpAnyR P md ops Q R fuel (listed.setIfInBounds i true) a' w' → K' a' w') → if Region.wanted o (yielded ops a.tmps) = true then Oper.wp P o a w K' Q else K' (a.put o.dst undef) w) :
  wpAnyR P md ops Q R (fuel + 1) listed a w := by
 refine ⟨fun h0 => absurd (hr ▸ h0) (by simp), fun j hj => ?_⟩
 rw [hr, List.mem_singleton] at hj
 subst hj
 exact wpOp_step ho (fun K' hK => h K' (fun a' w' h1 h2 => hK a' w' ⟨h1, h2⟩))
theorem doneR {R : Nat → World → World → Prop} {listed : Array Bool} {a : Act} {w : World} (hr : Region.ready md ops listed = []) (h : Q .normal a w) : ∀ fuel, wpAnyR P md ops Q R fuel listed a w
 | 0 => ⟨hr, h⟩
 | _ + 1 => ⟨fun _ => h, by rw [hr]; simp⟩
theorem startR {R : Nat → World → World → Prop} {id : Nat} {a : Act} {w : World} (hm : P.follows .mixedOrders = true)
  (h : wpAnyR P .any ops Q R ops.size (Array.replicate ops.size false) a w.drew) : (Code.region id ops true).wp P Q a w :=
 wp_region_any hm (wpAny_of_R _ _ _ _ h)
end
end Go.Proofs.YtbnkoefljcekbaaGreatDoor

namespace Go.Proofs.YtbnkoefljcekbaaGreatDoor
open Go.ChangeShapes Go.WideShapes Go.Deep Go.RowKit Go.Sort Go.Maps Go.Shelf
set_option linter.unusedVariables false

noncomputable def KZ : KD Tryz.prog 3 Int := KInt Tryz.underlying3
def valZ (b : Bool) : Value := .bool b
theorem injZ : InjV valZ := fun _ _ h => by injection h

theorem sorts_z (m : Nat) : AnyZI.SortsIn Tryz.prog Tryz.sortedI_ren Fence.wide m :=
 ⟨fun blk off cap ss W hH hblk hsz => callsIn_wide.2 (Tryz.slices_Sort_int blk off cap ss W hH hblk hsz),
 fun p cap W => callsIn_wide.2 (Tryz.slices_Sort_int_none p cap W)⟩

theorem keys_z (mb : Option Nat) (W : World) : Calls Tryz.prog 103 #[.map mb] W fun e w' => e = .returned (.func (.func 153) #[] #[.pointer (some ⟨W.heap.size, 0, none⟩)]) ∧ w' = W.alloc (.cells #[.map mb] 129) :=
 callsIn_wide.1 (AnyZI.keys_in Tryz.keysI Fence.wide 5 trivial rfl mb W)
theorem intKeys_spec {H : Type} {P : Program} {k : TypeId} {R : Value → Option (DataW H × List MemPlace)} {w : World} {b n : Nat} {D0 : DataW H} (hown : w.ownsMap P k R b n D0) (K : Maps.Keyed P k) (hk : P.underlying k = some (.int .i64)) :
  (intKeys D0).Nodup ∧ ∀ x, x ∈ intKeys D0 ↔ Maps.has D0 (.int .i64 x) = true := by
 obtain ⟨es, hD, hpw, _⟩ := hown.entries K
 obtain ⟨es', hD', hko⟩ := hown.keysOf
 obtain rfl : es = es' := by rw [hD] at hD'; simpa using hD'
 subst hD
 have hint : ∀ p ∈ es, ∃ x, p.1 = .int .i64 x := fun p hp => by
  obtain ⟨v, hv⟩ := hko p hp
  obtain ⟨x, _, hx, _⟩ := Maps.keyOf_i64 hk hv
  exact ⟨x, hx⟩
 refine ⟨?_, fun x => ?_⟩
 ·show (es.map fun p => Go.intOf p.1).Nodup
  refine List.pairwise_map.2 (hpw.imp_of_mem fun {p q} hp' hq' hne e => hne ?_)
  obtain ⟨a, ha⟩ := hint p hp'
  obtain ⟨b, hb⟩ := hint q hq'
  rw [ha, hb] at e ⊢
  exact congrArg _ e
 ·rw [Maps.has_eq, List.any_eq_true]
  show x ∈ (es.map fun p => Go.intOf p.1) ↔ _
  rw [List.mem_map]
  constructor
  ·rintro ⟨p, hp', rfl⟩
   obtain ⟨a, ha⟩ := hint p hp'
   exact ⟨p, hp', by rw [ha]; simp [Lit.sameKey, Go.intOf]⟩
  ·rintro ⟨p, hp', hs⟩
   obtain ⟨a, ha⟩ := hint p hp'
   rw [ha] at hs
   exact ⟨p, hp', by rw [ha]; simpa [Lit.sameKey, Go.intOf] using hs⟩


set_option maxHeartbeats 1000000 in
theorem sorted0_z {H : Type} (b nn : Nat) (D0 : DataW H) (R : Value → Option (DataW H × List MemPlace)) (w : World) (hown : w.ownsMap Tryz.prog 3 R b nn D0) (hmax : Maps.size D0 ≤ maxLen) (hbytes : Maps.size D0 * 8 ≤ 140737488355328) :
  CallsIn Fence.wide 5 Tryz.prog 102 #[.func (.func 153) #[] #[.pointer (some ⟨w.heap.size, 0, none⟩)]] (w.alloc (.cells #[.map (some b)] 129)) fun e w' => ∃ (v : Value) (ss : List Int), e = .returned v ∧ ss.Perm (intKeys D0) ∧
   w'.ownsRow (w.alloc (.cells #[.map (some b)] 129)).heap.size 3 1 v ss.length ((ss.mergeSort (fun x y => decide (x ≤ y))).map encZ) ∧ (v = .slice none 0 0 ↔ ss = []) ∧ Below (w.alloc (.cells #[.map (some b)] 129)).heap.size (w.alloc (.cells #[.map (some b)] 129)) w' := by
 have hbl := hown.lt
 have hseq : SeqGives Fence.wide 2 Tryz.prog 153 #[.pointer (some ⟨w.heap.size, 0, none⟩)] encZ (fun ss => ss.Perm (intKeys D0)) (Maps.size D0) (w.alloc (.cells #[.map (some b)] 129)) :=
  AnyZI.keys_gives (ρ := Tryz.keysI_ren) { Tryz.keysI with } Fence.wide _ trivial rfl (by omega) w.heap.size b nn D0 _ (by simp) (by simp) (by
   obtain ⟨es, clock, hb, Ft, hs, hD⟩ := hown
   exact ⟨es, clock, (Below.heap_alloc _ _ b hbl).trans hb, Ft, hs, hD⟩)
 exact AnyZI.sorted_in Tryz.sortedI Fence.wide 5 trivial trivial trivial trivial rfl (by omega) (sorts_z _) (enters_of Tryz.func109 (by kernel_rfl) rfl) 153 #[.pointer (some ⟨w.heap.size, 0, none⟩)] trivial (enters_of Tryz.func153 (by kernel_rfl) rfl) _ _ hmax hbytes _ hseq


theorem rint_vals : ∀ l : List Int, l.flatMap RInt.vals = l.map encZ
 | [] => rfl
 | x :: l => by rw [List.flatMap_cons, rint_vals l]; rfl
theorem i64_wf {x : Int} (h : (Lit.int .i64 x).wf = true) : I64 x := by
 simpa [I64, Lit.wf, IntKind.min, IntKind.max, IntKind.signed, IntKind.bits] using h
theorem sorted_z {f : Int → Option Bool} (b c : Nat) (w : World) (h : TMap KZ valZ w b f c) (hc : c ≤ 100000) :
  Calls Tryz.prog 102 #[.func (.func 153) #[] #[.pointer (some ⟨w.heap.size, 0, none⟩)]] (w.alloc (.cells #[.map (some b)] 129)) fun e w' =>
   ∃ (A : Option Addr) (n cap : Nat) (L : List Int), e = .returned (.slice A n cap) ∧ Own RInt 3 w' (w.heap.size + 1) (.slice A n cap) L ∧ (∀ z, KZ.good z → (z ∈ L ↔ (f z).isSome = true)) ∧ n = c ∧ Below w.heap.size w w' := by
 obtain ⟨D, hown, hs, hv⟩ := h
 refine (callsIn_wide.1 (sorted0_z b c D (rdV valZ) w hown (by rw [hs]; unfold maxLen; omega) (by rw [hs]; omega))).mono ?_
 rintro e w' ⟨v, ss, rfl, hp, hrow, _, hb⟩
 obtain ⟨hnd, hmem⟩ := intKeys_spec hown KZ.keyed Tryz.underlying3
 have hwf := intKeys_wf hown Tryz.underlying3
 have hsz : (w.alloc (.cells #[.map (some b)] 129)).heap.size = w.heap.size + 1 := by simp
 rw [hsz] at hrow
 have hown2 : Own RInt 3 w' (w.heap.size + 1) v (ss.mergeSort (fun x y => decide (x ≤ y))) := by
  refine ⟨?_, fun x hx => i64_wf (hwf x (hp.mem_iff.1 (List.mem_mergeSort.1 hx)))⟩
  rw [rint_vals, List.length_mergeSort]
  exact hrow
 obtain ⟨A, cap, rfl⟩ := hown2.form
 have hlen : (ss.mergeSort (fun x y => decide (x ≤ y))).length = c := by
  have h1 : ss.length = (intKeys D).length := hp.length_eq
  have h2 : (intKeys D).length = Maps.size D := by
   obtain ⟨es, hD, _⟩ := hown.entries KZ.keyed
   subst hD
   simp [intKeys, Maps.size]
  rw [List.length_mergeSort]; omega
 refine ⟨A, _, cap, _, rfl, hown2, fun z hz => ?_, hlen, ((Below.refl _ w).alloc (Nat.le_refl _) _).trans (hb.mono (by simp))⟩
 rw [List.mem_mergeSort, hp.mem_iff, hmem]
 have := (hv z hz).1
 rw [← this]
 exact Iff.rfl
/-- the kit's (another lies in a text that this one imports) -/
def intOf : Value → Int | .int _ q => q | _ => 0
end Go.Proofs.YtbnkoefljcekbaaGreatDoor
