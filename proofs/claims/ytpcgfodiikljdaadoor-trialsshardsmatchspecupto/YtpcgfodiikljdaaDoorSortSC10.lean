/-
  Rows of strings that a call itself makes: sorted by slices.Sort, compacted by slices.Compact; rising lists.
-/
import Derived.Test.YtpcgfodiikljdaaDoorOwn
import Derived.Test.YtpcgfodiikljdaaDoorOrd
import Derived.Test.YtpcgfodiikljdaaDoorShelf
import Derived.Test.YtpcgfodiikljdaaDoorPathC10
import Derived.Sort.OwnSorted
import Derived.Sort.KeysCollected
import Derived.Lib.OwnBridge
import Derived.Lib.SlicesCompact
namespace Go.Proofs.YtpcgfodiikljdaaDoor.C10
open Go.ChangeShapes Go.WideShapes Go.Deep Go.RowKit Go.Sort
set_option linter.unusedVariables false

def bsOf (x : List UInt8) : ByteArray := ⟨x.toArray⟩
theorem bsOf_data (s : ByteArray) : bsOf s.data.toList = s := by cases s; simp [bsOf]
theorem data_bsOf (x : List UInt8) : (bsOf x).data.toList = x := by simp [bsOf]
def dat (l : List ByteArray) : List (List UInt8) := l.map (·.data.toList)
def und (l : List (List UInt8)) : List ByteArray := l.map bsOf
theorem und_dat (l : List ByteArray) : und (dat l) = l := by simp [und, dat, Function.comp_def, bsOf_data]
theorem dat_und (l : List (List UInt8)) : dat (und l) = l := by simp [und, dat, Function.comp_def, data_bsOf]
theorem vals_dat (l : List ByteArray) : l.flatMap RStr.vals = (dat l).map encStr := by
  have h : l.flatMap RStr.vals = l.map Value.string := by
    induction l with
    | nil => rfl
    | cons x s ih => rw [List.flatMap_cons, ih]; rfl
  rw [h, dat, Lib.map_encStr]
theorem own_dat {e : TypeId} {w : World} {base : Nat} {v : Value} {l : List ByteArray} (h : Own RStr e w base v l) : w.ownsRow base e 1 v l.length ((dat l).map encStr) := by
  have := h.1
  rwa [vals_dat] at this
theorem own_und {e : TypeId} {w : World} {base n : Nat} {v : Value} {l : List (List UInt8)} (h : w.ownsRow base e 1 v n (l.map encStr)) (hn : n = l.length) (hs : ∀ x ∈ l, x.length ≤ maxLen) : Own RStr e w base v (und l) := by
  subst hn
  refine ⟨?_, fun x hx => ?_⟩
  · rw [vals_dat, dat_und, show (und l).length = l.length by simp [und]]
    exact h
  · obtain ⟨y, hy, rfl⟩ := List.mem_map.1 hx
    have := hs y hy
    show y.toArray.size ≤ maxLen
    simpa using this

/-- Go's sorted row -/
def sortB (l : List ByteArray) : List ByteArray := und ((dat l).mergeSort (fun x y => decide (x ≤ y)))
def compB (l : List ByteArray) : List ByteArray := und (Lib.compact (dat l))

theorem mem_und {l : List (List UInt8)} {s : ByteArray} : s ∈ und l ↔ s.data.toList ∈ l := by
  constructor
  · intro h
    obtain ⟨y, hy, rfl⟩ := List.mem_map.1 h
    rwa [data_bsOf]
  · intro h
    exact List.mem_map.2 ⟨_, h, bsOf_data s⟩
theorem mem_dat {l : List ByteArray} {x : List UInt8} : x ∈ dat l ↔ bsOf x ∈ l := by
  constructor
  · intro h
    obtain ⟨y, hy, rfl⟩ := List.mem_map.1 h
    rwa [bsOf_data]
  · intro h
    exact List.mem_map.2 ⟨_, h, data_bsOf x⟩
theorem mem_sortB {l : List ByteArray} {s : ByteArray} : s ∈ sortB l ↔ s ∈ l := by
  rw [sortB, mem_und, List.mem_mergeSort, mem_dat, bsOf_data]
theorem leB_trans : ∀ a b c : List UInt8, decide (a ≤ b) = true → decide (b ≤ c) = true → decide (a ≤ c) = true := fun a b c h1 h2 => by simp only [decide_eq_true_eq] at *; exact List.le_trans h1 h2
theorem leB_total : ∀ a b : List UInt8, (decide (a ≤ b) || decide (b ≤ a)) = true := fun a b => by simp only [Bool.or_eq_true, decide_eq_true_eq]; exact List.le_total a b

/-- strictly rising -/
def Rising (l : List ByteArray) : Prop := (dat l).Pairwise (fun a b => a ≤ b ∧ a ≠ b)
theorem Rising.eq {l l' : List ByteArray} (h : Rising l) (h' : Rising l') (hm : ∀ s, s ∈ l ↔ s ∈ l') : l = l' := by
  have hp : (dat l).Perm (dat l') := by
    refine (List.perm_ext_iff_of_nodup (h.imp fun h => h.2) (h'.imp fun h => h.2)).2 fun x => ?_
    rw [mem_dat, mem_dat, hm]
  have he : dat l = dat l' := List.Perm.eq_of_pairwise (le := fun a b : List UInt8 => a ≤ b) (fun a b _ _ h1 h2 => List.le_antisymm h1 h2) (h.imp fun h => h.1) (h'.imp fun h => h.1) hp
  rw [← und_dat l, he, und_dat]

theorem compact_rise (d : Array (List UInt8)) (hs : ∀ i j, i ≤ j → j < d.size → d[i]! ≤ d[j]!) : ∀ m, m ≤ d.size → (Lib.compactUpTo d m).Pairwise (fun a b => a ≤ b ∧ a ≠ b) ∧ ∀ x, x ∈ Lib.compactUpTo d m ↔ ∃ j, j < m ∧ d[j]! = x
  | 0, _ => ⟨by simp [Lib.compactUpTo], fun x => by simp [Lib.compactUpTo]⟩
  | m + 1, hm => by
    obtain ⟨h1, h2⟩ := compact_rise d hs m (by omega)
    rw [Lib.compactUpTo_succ]
    by_cases hk : Lib.keeps d m = true
    · rw [if_pos hk]
      refine ⟨List.pairwise_append.2 ⟨h1, by simp, fun a ha b hb => ?_⟩, fun x => ?_⟩
      · simp only [List.mem_singleton] at hb
        subst hb
        obtain ⟨j, hj, rfl⟩ := (h2 a).1 ha
        refine ⟨hs j m (by omega) (by omega), fun e => ?_⟩
        have hk' : m = 0 ∨ d[m]! ≠ d[m - 1]! := by simpa [Lib.keeps] using hk
        rcases hk' with h0 | h0
        · omega
        · refine h0 (List.le_antisymm ?_ (hs (m - 1) m (by omega) (by omega)))
          rw [← e]
          exact hs j (m - 1) (by omega) (by omega)
      · rw [List.mem_append, h2, List.mem_singleton]
        constructor
        · rintro (⟨j, hj, rfl⟩ | rfl)
          · exact ⟨j, by omega, rfl⟩
          · exact ⟨m, by omega, rfl⟩
        · rintro ⟨j, hj, rfl⟩
          by_cases e : j = m
          · subst e; exact Or.inr rfl
          · exact Or.inl ⟨j, by omega, rfl⟩
    · rw [if_neg hk, List.append_nil]
      have hk' : ¬ m = 0 ∧ d[m]! = d[m - 1]! := by simpa [Lib.keeps] using hk
      refine ⟨h1, fun x => ?_⟩
      rw [h2]
      constructor
      · rintro ⟨j, hj, rfl⟩
        exact ⟨j, by omega, rfl⟩
      · rintro ⟨j, hj, rfl⟩
        by_cases e : j = m
        · subst e; exact ⟨j - 1, by omega, hk'.2.symm⟩
        · exact ⟨j, by omega, rfl⟩

/-- what is sorted and compacted is strictly rising, and holds the same -/
theorem rising_comp (l : List ByteArray) : Rising (compB (sortB l)) ∧ ∀ s, s ∈ compB (sortB l) ↔ s ∈ l := by
  have hp := List.pairwise_mergeSort leB_trans leB_total (dat l)
  obtain ⟨ss, hss⟩ : ∃ ss, (dat l).mergeSort (fun x y => decide (x ≤ y)) = ss := ⟨_, rfl⟩
  rw [hss] at hp
  have hs : ∀ i j, i ≤ j → j < ss.toArray.size → ss.toArray[i]! ≤ ss.toArray[j]! := by
    intro i j hij hj
    have hj' : j < ss.length := by simpa using hj
    rw [getElem!_pos _ i (by simp; omega), getElem!_pos _ j hj]
    by_cases e : i = j
    · subst e; exact List.le_refl _
    · have := List.pairwise_iff_getElem.1 hp i j (by omega) hj' (by omega)
      simpa using this
  obtain ⟨h1, h2⟩ := compact_rise ss.toArray hs ss.length (by simp)
  have hd : dat (sortB l) = ss := by rw [sortB, dat_und, hss]
  refine ⟨?_, fun s => ?_⟩
  · rw [Rising, compB, dat_und, hd]
    exact h1
  · rw [compB, mem_und, hd, ← mem_sortB (l := l), sortB, hss, mem_und]
    show _ ∈ Lib.compactUpTo ss.toArray ss.length ↔ _
    rw [h2]
    constructor
    · rintro ⟨j, hj, e⟩
      rw [← e, getElem!_pos _ j (by simpa using hj)]
      simp
    · intro h
      obtain ⟨j, hj, e⟩ := List.getElem_of_mem h
      exact ⟨j, hj, by rw [getElem!_pos _ j (by simpa using hj)]; simpa using e⟩
theorem rising_sorted {ss : List (List UInt8)} (hn : ss.Nodup) : Rising (und (ss.mergeSort (fun x y => decide (x ≤ y)))) := by
  rw [Rising, dat_und]
  have hp := List.pairwise_mergeSort leB_trans leB_total ss
  have hnd : (ss.mergeSort (fun x y => decide (x ≤ y))).Nodup := (List.mergeSort_perm ss _).nodup_iff.2 hn
  exact (hp.and hnd).imp fun ⟨a, b⟩ => ⟨by simpa using a, b⟩
theorem strKeys_spec {H : Type} {P : Program} {k : TypeId} {R : Value → Option (DataW H × List MemPlace)} {w : World} {b n : Nat} {D0 : DataW H} (hown : w.ownsMap P k R b n D0) (K : Maps.Keyed P k) (hk : P.underlying k = some .string) :
    (strKeys D0).Nodup ∧ ∀ x, x ∈ strKeys D0 ↔ Maps.has D0 (.string x) = true := by
  obtain ⟨es, hD, hpw, _⟩ := hown.entries K
  obtain ⟨es', hD', hko⟩ := hown.keysOf
  obtain rfl : es = es' := by rw [hD] at hD'; simpa using hD'
  subst hD
  have hstr : ∀ p ∈ es, ∃ x, p.1 = .string x := fun p hp => by
    obtain ⟨v, hv⟩ := hko p hp
    obtain ⟨x, _, hx, _⟩ := Maps.keyOf_str hk hv
    exact ⟨x, hx⟩
  refine ⟨?_, fun x => ?_⟩
  · show (es.map fun p => strOf p.1).Nodup
    refine List.pairwise_map.2 (hpw.imp_of_mem fun {p q} hp' hq' hne e => hne ?_)
    obtain ⟨a, ha⟩ := hstr p hp'
    obtain ⟨b, hb⟩ := hstr q hq'
    rw [ha, hb] at e ⊢
    exact congrArg _ e
  · rw [Maps.has_eq, List.any_eq_true]
    show x ∈ (es.map fun p => strOf p.1) ↔ _
    rw [List.mem_map]
    constructor
    · rintro ⟨p, hp', rfl⟩
      obtain ⟨a, ha⟩ := hstr p hp'
      exact ⟨p, hp', by rw [ha]; simp [Lit.sameKey, strOf]⟩
    · rintro ⟨p, hp', hs⟩
      obtain ⟨a, ha⟩ := hstr p hp'
      rw [ha] at hs
      exact ⟨p, hp', by rw [ha]; simpa [Lit.sameKey, strOf] using hs⟩

theorem sort_own (A : Option Addr) (n cap : Nat) (l : List ByteArray) (w : World) (base : Nat) (h : Own RStr 9 w base (.slice A n cap) l) (hn : n ≤ 1000000) :
    Calls Tryd.prog 21 #[.slice A n cap] w fun e w' => e = .returned (.tuple #[]) ∧ Own RStr 9 w' base (.slice A n cap) (sortB l) ∧ w.grownBy w' (Value.ownBlock (.slice A n cap)) := by
  have hd := own_dat h
  have hl := h.len
  rcases hd.2 with ⟨e0, hn0⟩ | ⟨g, cap', cur, e0, hb, hg, h1, h2, h3, h4⟩
  · injection e0 with e1 e2 e3
    subst e1 e2 e3
    obtain rfl : l = [] := List.eq_nil_of_length_eq_zero hl
    refine (Tryd.slices_Sort_string_none none 0 w).mono ?_
    rintro e w' ⟨rfl, rfl⟩
    exact ⟨rfl, by rw [show sortB [] = [] by simp [sortB, dat, und]]; exact h, World.grownBy.refl _ _⟩
  · injection e0 with e1 e2 e3
    subst e1 e3
    subst e2
    have hdl : (dat l).length = l.length := by simp [dat]
    have hlt : g < w.heap.size := (Array.getElem?_eq_some_iff.1 hg).1
    have hc := Tryd.slices_Sort_string g 0 cap (dat l) w (holds_of_block hg (by rw [hdl]; simpa using h4)) hlt (by rw [hdl]; omega)
    rw [hdl] at hc
    refine hc.mono ?_
    rintro e w' ⟨rfl, m, os, rfl⟩
    have hr := ownsRow_sorted (n := m) (os := os) (ss := dat l) (ts := (dat l).mergeSort fun x y => decide (x ≤ y)) (by simp) hb hg (by rw [hdl]; exact h1) h2 h3
    rw [hdl] at hr
    refine ⟨rfl, own_und hr (by simp [dat]) (fun x hx => ?_), grownBy_sorted _⟩
    have hx := List.mem_mergeSort.1 hx
    rw [mem_dat] at hx
    have := h.2 _ hx
    have h5 : x.toArray.size ≤ maxLen := this
    simpa using h5

/-- slices.Equal of two rows that read as one list -/
theorem equal_same (A1 A2 : Option Addr) (n1 c1 n2 c2 : Nat) (L : List ByteArray) (w : World) (h1 : SlAt RStr w A1 n1 L) (h2 : SlAt RStr w A2 n2 L) (hn : n1 ≤ 9223372036854775807) :
    Calls Tryd.prog 29 #[.slice A1 n1 c1, .slice A2 n2 c2] w fun e w' => e = .returned (.bool true) ∧ Below w.heap.size w w' := by
  obtain rfl : n1 = n2 := h1.1.symm.trans h2.1
  by_cases h0 : n1 = 0
  · subst h0
    refine (Tryd.slices_Equal_string_empty A1 A2 c1 0 c2 w (by omega)).mono ?_
    rintro e w' ⟨rfl, rfl⟩
    exact ⟨by simp, Below.refl _ _⟩
  · obtain ⟨b1, o1, rfl, _⟩ := h1.2.1 (by omega)
    obtain ⟨b2, o2, rfl, _⟩ := h2.2.1 (by omega)
    have hcell : ∀ {b o : Nat}, SlAt RStr w (some ⟨b, o, none⟩) n1 L → ∀ j, j < L.length → w.cell? ⟨b, o + j, none⟩ = some (.string (L.getD j ByteArray.empty)) := fun {b o} h j hj => by
      rw [List.getD_eq_getElem?_getD, List.getElem?_eq_getElem hj, Option.getD_some]
      exact cell_Str h (List.getElem?_eq_getElem hj)
    refine (Tryd.slices_Equal_string b1 o1 n1 c1 b2 o2 n1 c2 L L w (by rw [h1.1]; exact Nat.le_refl _) (by rw [h1.1]; exact Nat.le_refl _) hn hn (hcell h1) (hcell h2)).mono ?_
    rintro e w' ⟨rfl, q, rfl⟩
    exact ⟨by simp, bel_drewN (Below.refl _ _) q⟩
end Go.Proofs.YtpcgfodiikljdaaDoor.C10
