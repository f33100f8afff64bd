/-
 Several texts of mine as one, without what is not wanted here: XRwr, XKeysI.
-/
import Derived.Test.YtbnkoefljcekbaaGreatDoorNbGb
import Derived.Test.YtbnkoefljcekbaaGreatDoorNbGa
import Derived.Test.YtbnkoefljcekbaaGreatDoorNbShelf
namespace Go.Proofs.YtbnkoefljcekbaaGreatDoor
open Go.ChangeShapes Go.WideShapes Go.Deep Go.RowKit
set_option linter.unusedVariables false

/-- n rows of runs: their headers in block bo, each row in a block of its own from base on -/
structure Rwr (w : World) (base bo n : Nat) (vs : Nat → Value) (Rs : List (List Run)) : Prop where
 len : Rs.length = n
 cells : ∀ j, j < n → w.cell? ⟨bo, j, none⟩ = some (vs j) ∧ w.frozen? ⟨bo, j, none⟩ = false
 own : ∀ j r, Rs[j]? = some r → Own RRun 34 w base (vs j) r
 dis : ∀ i j k, i < n → j < n → i ≠ j → (vs i).ownBlock = some k → (vs j).ownBlock ≠ some k
 lt : bo < base
 le : base ≤ w.heap.size
theorem Rwr.lt_heap {w : World} {base bo n : Nat} {vs : Nat → Value} {Rs : List (List Run)} (h : Rwr w base bo n vs Rs) : bo < w.heap.size := Nat.lt_of_lt_of_le h.lt h.le
theorem Rwr.below {w w' : World} {base bo n : Nat} {vs : Nat → Value} {Rs : List (List Run)} (h : Rwr w base bo n vs Rs) (hb : Below w.heap.size w w') : Rwr w' base bo n vs Rs := by
 have hbo := hb.block bo h.lt_heap
 exact ⟨h.len, fun j hj => ⟨(World.cell?_of_block (a := ⟨bo, j, none⟩) hbo).trans (h.cells j hj).1, (World.frozen?_of_block (a := ⟨bo, j, none⟩) hbo).trans (h.cells j hj).2⟩,
  fun j r hr => (h.own j r hr).below hb, h.dis, h.lt, Nat.le_trans h.le hb.size⟩
/-- a cell of another block below the rows -/
theorem Rwr.cell {w : World} {base bo n : Nat} {vs : Nat → Value} {Rs : List (List Run)} (h : Rwr w base bo n vs Rs) (a : Addr) (u : Value) (ha : a.block < base) (hne : a.block ≠ bo) : Rwr (w.setCell a u) base bo n vs Rs := by
 have hg := grown_setc w a u
 have hbo := hg.block bo h.lt_heap (fun e => hne (by injection e with e; exact e.symm))
 refine ⟨h.len, fun j hj => ⟨(World.cell?_of_block (a := ⟨bo, j, none⟩) hbo).trans (h.cells j hj).1, (World.frozen?_of_block (a := ⟨bo, j, none⟩) hbo).trans (h.cells j hj).2⟩,
  fun j r hr => (h.own j r hr).kept hg ?_ (fun _ _ h => h), h.dis, h.lt, by simpa using h.le⟩
 cases hv : (vs j).ownBlock with
 | none => exact .inl rfl
 | some k => exact .inr (by have := ((h.own j r hr).1.lt k hv).1; intro hc; injection hc with hc; omega)
/-- a row was written to or made anew: its header goes in -/
theorem Rwr.put {w w' : World} {base bo n k : Nat} {vs : Nat → Value} {Rs : List (List Run)} {v' : Value} {r' : List Run} (h : Rwr w base bo n vs Rs) (hk : k < n) (hg : w.grownBy w' (vs k).ownBlock) (ho : Own RRun 34 w' base v' r')
  (hat : ∀ g, v'.ownBlock = some g → (vs k).ownBlock = some g ∨ w.heap.size ≤ g) : Rwr (w'.setCell ⟨bo, k, none⟩ v') base bo n (fun j => if j = k then v' else vs j) (Rs.set k r') := by
 have hkb : ∀ b, (vs k).ownBlock = some b → base ≤ b := fun b hb => by
  obtain ⟨r, hr⟩ : ∃ r, Rs[k]? = some r := ⟨Rs[k]'(by rw [h.len]; exact hk), List.getElem?_eq_getElem _⟩
  exact ((h.own k r hr).1.lt b hb).1
 have hbo := hg.block bo h.lt_heap (fun e => by have := hkb bo e.symm; have := h.lt; omega)
 have hc : ∀ j, j < n → w'.cell? ⟨bo, j, none⟩ = some (vs j) ∧ w'.frozen? ⟨bo, j, none⟩ = false := fun j hj =>
  ⟨(World.cell?_of_block (a := ⟨bo, j, none⟩) hbo).trans (h.cells j hj).1, (World.frozen?_of_block (a := ⟨bo, j, none⟩) hbo).trans (h.cells j hj).2⟩
 have hg2 := grown_setc w' ⟨bo, k, none⟩ v'
 have hlt := h.lt
 have ne_bo : ∀ (v : Value) (l : List Run), Own RRun 34 w' base v l → v.ownBlock = none ∨ v.ownBlock ≠ some bo := fun v l hv => by
  cases e : v.ownBlock with
  | none => exact .inl rfl
  | some b => exact .inr (by have := (hv.1.lt b e).1; intro hc; injection hc with hc; omega)
 refine ⟨by rw [List.length_set]; exact h.len, fun j hj => ?_, fun j r hr => ?_, fun i j b hi hj hne hb => ?_, h.lt, by have := hg.size; have := h.le; simp; omega⟩
 ·obtain ⟨c, f⟩ := hc j hj
  by_cases e : j = k
  ·subst e
   rw [if_pos rfl]
   exact ⟨World.cell?_setCell_same' _ _ _ (by rw [c]; rfl), by rw [World.frozen?_setCell]; exact f⟩
  ·rw [if_neg e]
   exact ⟨by rw [World.cell?_setCell_other _ _ _ _ (by simp <;> omega)]; exact c, by rw [World.frozen?_setCell]; exact f⟩
 ·rw [List.getElem?_set] at hr
  by_cases e : k = j
  ·subst e
   rw [if_pos rfl, if_pos (by rw [h.len]; exact hk)] at hr
   injection hr with hr
   subst hr
   simp only [if_true]
   exact ho.kept hg2 (ne_bo _ _ ho) (fun _ _ h => h)
  ·rw [if_neg e] at hr
   have hjn : j < n := by have := (List.getElem?_eq_some_iff.1 hr).1; rw [h.len] at this; exact this
   have h1 := h.own j r hr
   have h2 : Own RRun 34 w' base (vs j) r := h1.kept hg (by
    cases hv : (vs j).ownBlock with
    | none => exact .inl rfl
    | some b => exact .inr (fun e2 => h.dis j k b hjn hk (fun e3 => e e3.symm) hv e2.symm)) (fun _ _ h => h)
   simp only [if_neg (fun e2 => e e2.symm : ¬ j = k)]
   exact h2.kept hg2 (ne_bo _ _ h2) (fun _ _ h => h)
 ·have hlt2 : ∀ j, j < n → ∀ b, (vs j).ownBlock = some b → b < w.heap.size := fun j hj b hb => by
   obtain ⟨r, hr⟩ : ∃ r, Rs[j]? = some r := ⟨Rs[j]'(by rw [h.len]; exact hj), List.getElem?_eq_getElem _⟩
   exact ((h.own j r hr).1.lt b hb).2
  by_cases ei : i = k
  ·subst ei
   simp only [if_true] at hb
   simp only [if_neg (fun e2 => hne e2.symm : ¬ j = i)]
   intro hb2
   rcases hat b hb with h3 | h3
   ·exact h.dis i j b hi hj hne h3 hb2
   ·have := hlt2 j hj b hb2; omega
  ·simp only [if_neg ei] at hb
   by_cases ej : j = k
   ·subst ej
    simp only [if_true]
    intro hb2
    rcases hat b hb2 with h3 | h3
    ·exact h.dis i j b hi hj hne hb h3
    ·have := hlt2 i hi b hb; omega
   ·simp only [if_neg ej]
    exact h.dis i j b hi hj hne hb
theorem run_makeRwr (n : Nat) (hn : n ≤ 1000000) (W : World) : (Instr.makeSlice 98 (.int .i64 (n : Int)) (.int .i64 (n : Int))).run Tryz.prog W = .ok (.slice (some ⟨W.heap.size, 0, none⟩) n n) (W.alloc (.cells (madeS n) 27)) := by
 obtain ⟨i, z, hi, hz, hz1, hz2, hz3⟩ : ∃ i z, Tryz.prog.info? 27 = some i ∧ i.zero = some z ∧ i.size = 1 ∧ i.bytes = 24 ∧ z = .slice none 0 0 := by
  obtain ⟨i, h1, h2, h3, h4⟩ := info_parts (z := .slice none 0 0) (size := 1) (bytes := 24) (show (Tryz.prog.info? 27).map (fun i => (i.zero, i.size, i.bytes)) = some (some (.slice none 0 0), 1, 24) by kernel_rfl)
  exact ⟨i, _, h1, h2, h3, h4, rfl⟩
 subst hz3
 have := run_make (P := Tryz.prog) W 98 27 i (.slice none 0 0) Tryz.underlying98 hi hz .i64 .i64 (n : Int) (n : Int) (by omega) (Int.le_refl _) (by rw [hz2]; omega) (by omega)
 rw [this, hz1]
 simp only [Int.toNat_natCast]
 rfl
theorem Rwr.made (w : World) (n : Nat) : Rwr (w.alloc (.cells (madeS n) 27)) (w.heap.size + 1) w.heap.size n (fun _ => .slice none 0 0) (List.replicate n []) := by
 refine ⟨by simp, fun j hj => ⟨?_, ?_⟩, fun j r hr => ?_, fun i j k _ _ _ h => by simp [Value.ownBlock] at h, by omega, by simp⟩
 ·have : (w.alloc (.cells (madeS n) 27)).cell? ⟨w.heap.size, j, none⟩ = (madeS n)[j]? := by simp [go_sem]
  rw [this]; exact madeS_get n j hj
 ·simp [go_sem]
 ·have : r = [] := (List.mem_replicate.1 (List.mem_of_getElem? hr)).2
  subst this
  exact Own.nil _ _
theorem Rwr.up {w : World} {base base' bo n : Nat} {Rs : List (List Run)} (h : Rwr w base bo n (fun _ => .slice none 0 0) Rs) (h1 : bo < base') (h2 : base' ≤ w.heap.size) (hR : Rs = List.replicate n []) : Rwr w base' bo n (fun _ => .slice none 0 0) Rs :=
 ⟨h.len, h.cells, fun j r hr => by subst hR; have : r = [] := (List.mem_replicate.1 (List.mem_of_getElem? hr)).2; subst this; exact Own.nil _ _, fun i j k _ _ _ h => by simp [Value.ownBlock] at h, h1, h2⟩
end Go.Proofs.YtbnkoefljcekbaaGreatDoor

namespace Go.Proofs.YtbnkoefljcekbaaGreatDoor
open Go.ChangeShapes Go.WideShapes Go.Deep Go.RowKit Go.Sort Go.Maps Go.Shelf
set_option linter.unusedVariables false

noncomputable def KZ : KD Tryz.prog 3 Int := KInt Tryz.underlying3
def valZ (b : Bool) : Value := .bool b
theorem injZ : InjV valZ := fun _ _ h => by injection h

theorem sorts_z (m : Nat) : AnyZI.SortsIn Tryz.prog Tryz.sortedI_ren Fence.wide m :=
 ⟨fun blk off cap ss W hH hblk hsz => callsIn_wide.2 (Tryz.slices_Sort_int blk off cap ss W hH hblk hsz),
 fun p cap W => callsIn_wide.2 (Tryz.slices_Sort_int_none p cap W)⟩

theorem keys_z (mb : Option Nat) (W : World) : Calls Tryz.prog 103 #[.map mb] W fun e w' => e = .returned (.func (.func 153) #[] #[.pointer (some ⟨W.heap.size, 0, none⟩)]) ∧ w' = W.alloc (.cells #[.map mb] 129) :=
 callsIn_wide.1 (AnyZI.keys_in Tryz.keysI Fence.wide 5 trivial rfl mb W)
theorem intKeys_spec {H : Type} {P : Program} {k : TypeId} {R : Value → Option (DataW H × List MemPlace)} {w : World} {b n : Nat} {D0 : DataW H} (hown : w.ownsMap P k R b n D0) (K : Maps.Keyed P k) (hk : P.underlying k = some (.int .i64)) :
  (intKeys D0).Nodup ∧ ∀ x, x ∈ intKeys D0 ↔ Maps.has D0 (.int .i64 x) = true := by
 obtain ⟨es, hD, hpw, _⟩ := hown.entries K
 obtain ⟨es', hD', hko⟩ := hown.keysOf
 obtain rfl : es = es' := by rw [hD] at hD'; simpa using hD'
 subst hD
 have hint : ∀ p ∈ es, ∃ x, p.1 = .int .i64 x := fun p hp => by
  obtain ⟨v, hv⟩ := hko p hp
  obtain ⟨x, _, hx, _⟩ := Maps.keyOf_i64 hk hv
  exact ⟨x, hx⟩
 refine ⟨?_, fun x => ?_⟩
 ·show (es.map fun p => Go.intOf p.1).Nodup
  refine List.pairwise_map.2 (hpw.imp_of_mem fun {p q} hp' hq' hne e => hne ?_)
  obtain ⟨a, ha⟩ := hint p hp'
  obtain ⟨b, hb⟩ := hint q hq'
  rw [ha, hb] at e ⊢
  exact congrArg _ e
 ·rw [Maps.has_eq, List.any_eq_true]
  show x ∈ (es.map fun p => Go.intOf p.1) ↔ _
  rw [List.mem_map]
  constructor
  ·rintro ⟨p, hp', rfl⟩
   obtain ⟨a, ha⟩ := hint p hp'
   exact ⟨p, hp', by rw [ha]; simp [Lit.sameKey, Go.intOf]⟩
  ·rintro ⟨p, hp', hs⟩
   obtain ⟨a, ha⟩ := hint p hp'
   rw [ha] at hs
   exact ⟨p, hp', by rw [ha]; simpa [Lit.sameKey, Go.intOf] using hs⟩


set_option maxHeartbeats 1000000 in
theorem sorted0_z {H : Type} (b nn : Nat) (D0 : DataW H) (R : Value → Option (DataW H × List MemPlace)) (w : World) (hown : w.ownsMap Tryz.prog 3 R b nn D0) (hmax : Maps.size D0 ≤ maxLen) (hbytes : Maps.size D0 * 8 ≤ 140737488355328) :
  CallsIn Fence.wide 5 Tryz.prog 102 #[.func (.func 153) #[] #[.pointer (some ⟨w.heap.size, 0, none⟩)]] (w.alloc (.cells #[.map (some b)] 129)) fun e w' => ∃ (v : Value) (ss : List Int), e = .returned v ∧ ss.Perm (intKeys D0) ∧
   w'.ownsRow (w.alloc (.cells #[.map (some b)] 129)).heap.size 3 1 v ss.length ((ss.mergeSort (fun x y => decide (x ≤ y))).map encZ) ∧ (v = .slice none 0 0 ↔ ss = []) ∧ Below (w.alloc (.cells #[.map (some b)] 129)).heap.size (w.alloc (.cells #[.map (some b)] 129)) w' := by
 have hbl := hown.lt
 have hseq : SeqGives Fence.wide 2 Tryz.prog 153 #[.pointer (some ⟨w.heap.size, 0, none⟩)] encZ (fun ss => ss.Perm (intKeys D0)) (Maps.size D0) (w.alloc (.cells #[.map (some b)] 129)) :=
  AnyZI.keys_gives (ρ := Tryz.keysI_ren) { Tryz.keysI with } Fence.wide _ trivial rfl (by omega) w.heap.size b nn D0 _ (by simp) (by simp) (by
   obtain ⟨es, clock, hb, Ft, hs, hD⟩ := hown
   exact ⟨es, clock, (Below.heap_alloc _ _ b hbl).trans hb, Ft, hs, hD⟩)
 exact AnyZI.sorted_in Tryz.sortedI Fence.wide 5 trivial trivial trivial trivial rfl (by omega) (sorts_z _) (enters_of Tryz.func109 (by kernel_rfl) rfl) 153 #[.pointer (some ⟨w.heap.size, 0, none⟩)] trivial (enters_of Tryz.func153 (by kernel_rfl) rfl) _ _ hmax hbytes _ hseq


theorem rint_vals : ∀ l : List Int, l.flatMap RInt.vals = l.map encZ
 | [] => rfl
 | x :: l => by rw [List.flatMap_cons, rint_vals l]; rfl
theorem i64_wf {x : Int} (h : (Lit.int .i64 x).wf = true) : I64 x := by
 simpa [I64, Lit.wf, IntKind.min, IntKind.max, IntKind.signed, IntKind.bits] using h
theorem sorted_z {f : Int → Option Bool} (b c : Nat) (w : World) (h : TMap KZ valZ w b f c) (hc : c ≤ 100000) :
  Calls Tryz.prog 102 #[.func (.func 153) #[] #[.pointer (some ⟨w.heap.size, 0, none⟩)]] (w.alloc (.cells #[.map (some b)] 129)) fun e w' =>
   ∃ (A : Option Addr) (n cap : Nat) (L : List Int), e = .returned (.slice A n cap) ∧ Own RInt 3 w' (w.heap.size + 1) (.slice A n cap) L ∧ (∀ z, KZ.good z → (z ∈ L ↔ (f z).isSome = true)) ∧ n = c ∧ Below w.heap.size w w' := by
 obtain ⟨D, hown, hs, hv⟩ := h
 refine (callsIn_wide.1 (sorted0_z b c D (rdV valZ) w hown (by rw [hs]; unfold maxLen; omega) (by rw [hs]; omega))).mono ?_
 rintro e w' ⟨v, ss, rfl, hp, hrow, _, hb⟩
 obtain ⟨hnd, hmem⟩ := intKeys_spec hown KZ.keyed Tryz.underlying3
 have hwf := intKeys_wf hown Tryz.underlying3
 have hsz : (w.alloc (.cells #[.map (some b)] 129)).heap.size = w.heap.size + 1 := by simp
 rw [hsz] at hrow
 have hown2 : Own RInt 3 w' (w.heap.size + 1) v (ss.mergeSort (fun x y => decide (x ≤ y))) := by
  refine ⟨?_, fun x hx => i64_wf (hwf x (hp.mem_iff.1 (List.mem_mergeSort.1 hx)))⟩
  rw [rint_vals, List.length_mergeSort]
  exact hrow
 obtain ⟨A, cap, rfl⟩ := hown2.form
 have hlen : (ss.mergeSort (fun x y => decide (x ≤ y))).length = c := by
  have h1 : ss.length = (intKeys D).length := hp.length_eq
  have h2 : (intKeys D).length = Maps.size D := by
   obtain ⟨es, hD, _⟩ := hown.entries KZ.keyed
   subst hD
   simp [intKeys, Maps.size]
  rw [List.length_mergeSort]; omega
 refine ⟨A, _, cap, _, rfl, hown2, fun z hz => ?_, hlen, ((Below.refl _ w).alloc (Nat.le_refl _) _).trans (hb.mono (by simp))⟩
 rw [List.mem_mergeSort, hp.mem_iff, hmem]
 have := (hv z hz).1
 rw [← this]
 exact Iff.rfl
/-- the kit's (another lies in a text that this one imports) -/
def intOf : Value → Int | .int _ q => q | _ => 0
end Go.Proofs.YtbnkoefljcekbaaGreatDoor
