/-
 Several texts of mine as one, without what is not wanted here: XMap, XBRow, XStab, XShD, XRws.
-/
import Derived.Test.YtbnkoefljcekbaaGreatDoorNbGa
import Derived.Maps.OwnSet
import Derived.Maps.RangeWalk
import Derived.Laws.MakeOwn
import Derived.Deep.RegionHeld3
import Derived.Deep.AppendLies
namespace Go.Proofs.YtbnkoefljcekbaaGreatDoor
open Go.ChangeShapes Go.WideShapes Go.Deep Go.RowKit Go.Maps

/-- keys: their values, what they read as -/
structure KD (P : Program) (k : TypeId) (κ : Type) where
 val : κ → Value
 lit : κ → Lit
 good : κ → Prop
 keyed : Keyed P k
 of_ : ∀ x, good x → keyOf P k (val x) = some (lit x)
 inv : ∀ v l, keyOf P k v = some l → ∃ x, good x ∧ v = val x ∧ l = lit x
 inj : ∀ x y, good x → good y → lit x = lit y → x = y

/-- how an element reads: as itself -/
noncomputable def rdV {α : Type} (val : α → Value) (v : Value) : Option (DataW α × List MemPlace) :=
 open Classical in if h : ∃ a, v = val a then some (.held (Classical.choose h), []) else none

def InjV {α : Type} (val : α → Value) : Prop := ∀ a b, val a = val b → a = b

theorem rdV_of {α : Type} {val : α → Value} (hi : InjV val) (a : α) : rdV val (val a) = some (.held a, []) := by
 unfold rdV
 have h : ∃ a', val a = val a' := ⟨a, rfl⟩
 rw [dif_pos h, hi _ _ (Classical.choose_spec h).symm]

theorem rdV_inv {α : Type} {val : α → Value} {v : Value} {y : DataW α × List MemPlace} (h : rdV val v = some y) : ∃ a, v = val a ∧ y = (.held a, []) := by
 unfold rdV at h
 split at h
 ·rename_i hx
  injection h with h
  exact ⟨_, Classical.choose_spec hx, h.symm⟩
 ·cases h

section
variable {P : Program} {k : TypeId} {κ α : Type}

/-- block b is a map of c keys that holds f -/
def TMap (K : KD P k κ) (val : α → Value) (w : World) (b : Nat) (f : κ → Option α) (c : Nat) : Prop :=
 ∃ D : DataW α, w.ownsMap P k (rdV val) b c D ∧ Maps.size D = c ∧ ∀ x, K.good x → Maps.has D (K.lit x) = (f x).isSome ∧ ∀ a, f x = some a → ∀ zd, D.atKey (K.lit x) zd = .held a

variable {K : KD P k κ} {val : α → Value} {w w' : World} {b c : Nat} {f : κ → Option α}

theorem TMap.made (w : World) (K : KD P k κ) (val : α → Value) : TMap K val (w.alloc (.map #[] 0)) w.heap.size (fun _ => none) 0 :=
 ⟨.map [], World.ownsMap_made w P k (rdV val), rfl, fun x _ => ⟨rfl, fun a h => by cases h⟩⟩

theorem TMap.lt (h : TMap K val w b f c) : b < w.heap.size := by obtain ⟨D, h, _⟩ := h; exact h.lt
theorem TMap.kept {row : Option Nat} (h : TMap K val w b f c) (hg : w.grownBy w' row) (hne : some b ≠ row) : TMap K val w' b f c := by
 obtain ⟨D, h, r⟩ := h
 exact ⟨D, h.kept hg hne, r⟩
theorem TMap.alloc (h : TMap K val w b f c) (o : Obj) : TMap K val (w.alloc o) b f c := h.kept (World.grownBy_alloc w o none) (by simp)
theorem TMap.below {B : Nat} (h : TMap K val w b f c) (hb : Below B w w') (hlt : b < B) : TMap K val w' b f c := by
 obtain ⟨D, ⟨es, clock, he, r⟩, r2⟩ := h
 exact ⟨D, ⟨es, clock, (hb.block b hlt).trans he, r⟩, r2⟩
theorem TMap.setCell (h : TMap K val w b f c) {a : Addr} (ha : b ≠ a.block) (u : Value) : TMap K val (w.setCell a u) b f c := by
 obtain ⟨D, h, r⟩ := h
 exact ⟨D, h.setCell ha u, r⟩
theorem TMap.congr {f' : κ → Option α} (h : TMap K val w b f c) (hf : ∀ x, K.good x → f x = f' x) : TMap K val w b f' c := by
 obtain ⟨D, h, hs, hv⟩ := h
 exact ⟨D, h, hs, fun x hx => by rw [← hf x hx]; exact hv x hx⟩

/-- m[x], m with x laid anew -/
def upd [DecidableEq κ] (f : κ → Option α) (x : κ) (a : α) : κ → Option α := fun y => if y = x then some a else f y

theorem TMap.look [DecidableEq κ] {t e : TypeId} (h : TMap K val w b f c) (ht : P.underlying t = some (.map k e)) {z0 : α} (hz : (zeroValue e).run P w = .ok (val z0) w) (hi : InjV val) {x : κ} (hx : K.good x) :
  (Instr.lookup t (.map (some b)) (K.val x) false).run P w = .ok (val ((f x).getD z0)) w ∧ (Instr.lookup t (.map (some b)) (K.val x) true).run P w = .ok (.tuple #[val ((f x).getD z0), .bool (f x).isSome]) w := by
 obtain ⟨D, h, hs, hv⟩ := h
 obtain ⟨v1, v2⟩ := hv x hx
 have hat : D.atKey (K.lit x) (.held z0) = .held ((f x).getD z0) := by
  cases hf : f x with
  | none =>
   rw [hf] at v1
   exact Maps.atKey_of_not_has v1 _
  | some a => exact v2 a hf _
 obtain ⟨v, ps, hr, hR⟩ := h.lookup K.keyed ht hz (rdV_of hi z0) (K.of_ x hx)
 obtain ⟨v', ps', hr', hR'⟩ := h.look_ok K.keyed ht hz (rdV_of hi z0) (K.of_ x hx)
 rw [hat] at hR hR'
 obtain ⟨a, rfl, ha⟩ := rdV_inv hR
 obtain ⟨a', rfl, ha'⟩ := rdV_inv hR'
 simp only [Prod.mk.injEq, DataW.held.injEq] at ha ha'
 obtain ⟨rfl, _⟩ := ha
 obtain ⟨rfl, _⟩ := ha'
 rw [← v1]
 exact ⟨hr, hr'⟩

theorem TMap.store [DecidableEq κ] {t e : TypeId} (h : TMap K val w b f c) (ht : P.underlying t = some (.map k e)) (hi : InjV val) (hc : c < maxLen) {x : κ} (hx : K.good x) (a : α) :
  ∃ w', (Instr.mapUpdate t (.map (some b)) (K.val x) (val a)).run P w = .ok () w' ∧ TMap K val w' b (upd f x a) (if (f x).isSome then c else c + 1) ∧ w.mapTurned w' b := by
 obtain ⟨D, h, hs, hv⟩ := h
 obtain ⟨w', hr, h', ht'⟩ := h.store K.keyed ht hc (K.of_ x hx) (rdV_of hi a)
 refine ⟨w', hr, ⟨D.put (K.lit x) (.held a), ?_, ?_, fun y hy => ?_⟩, ht'⟩
 ·obtain ⟨es, clock, he, F, hsz, hD⟩ := h'
  refine ⟨es, clock, he, F, ?_, hD⟩
  have e1 : Maps.size (D.put (K.lit x) (.held a)) = es.size := by rw [hD]; simp [Maps.size, length_sorted]
  rw [← e1, Maps.size_put (h.tidy K.keyed), (hv x hx).1, hs]
  exact Nat.le_refl _
 ·rw [Maps.size_put (h.tidy K.keyed), (hv x hx).1, hs]
 ·have hk := K.keyed.key (K.of_ x hx)
  by_cases hyx : y = x
  ·subst hyx
   refine ⟨?_, fun a' ha' zd => ?_⟩
   ·rw [Maps.has_put_same h.isMap hk]; simp [upd]
   ·rw [Maps.atKey_put_same h.isMap hk]
    simp [upd] at ha'
    rw [ha']
  ·have hne : K.lit y ≠ K.lit x := fun e => hyx (K.inj _ _ hy hx e)
   refine ⟨?_, fun a' ha' zd => ?_⟩
   ·rw [Maps.has_put_other hne, (hv y hy).1]; simp [upd, hyx]
   ·rw [Maps.atKey_put_other hne]
    simp [upd, hyx] at ha'
    exact (hv y hy).2 a' ha' zd

variable {ops : Array Oper} {rest : List Oper} {o : Oper} {a : Act} {Q : Exit → Act → World → Prop}

theorem wpList_tstore [DecidableEq κ] (hg : o.guard = none) (m x v : Operand) (t : TypeId) (hop : o.op = Op.mapUpdate t m x v) {e : TypeId} (ht : P.underlying t = some (.map k e)) (hi : InjV val)
  (hm : a.eval m = .map (some b)) (h : TMap K val w b f c) (hc : c < maxLen) (kx : κ) (hx : a.eval x = K.val kx) (hgood : K.good kx) (y : α) (hv : a.eval v = val y)
  (hK : ∀ w', TMap K val w' b (upd f kx y) (if (f kx).isSome then c else c + 1) → w.grownBy w' (some b) → wpList P ops Q rest (a.put o.dst undef) w') : wpList P ops Q (o :: rest) a w := by
 refine wpList_plain hg fun K' hK' => ?_
 obtain ⟨w', hr, h', ht'⟩ := h.store ht hi hc hgood y
 unfold Oper.wp
 simp [execOp, hop, hm, hx, hv, hr, Result.andThen]
 exact hK' _ _ (hK w' h' ht'.grown)

end

/-! ### kinds of keys -/
def KInt {P : Program} {k : TypeId} (hk : P.underlying k = some (.int .i64)) : KD P k Int :=
 ⟨fun n => .int .i64 n, fun n => .int .i64 n, fun n => (Lit.int .i64 n).wf = true, int_keyed hk, fun _ h => keyOf_int_mk hk h, fun v l h => by obtain ⟨x, rfl, rfl, hw⟩ := Maps.keyOf_int_inv hk h; exact ⟨x, hw, rfl, rfl⟩, fun x y _ _ h => by injection h⟩

theorem injInt : InjV (fun n : Int => Value.int .i64 n) := fun _ _ h => by injection h
theorem injBool : InjV (fun b : Bool => Value.bool b) := fun _ _ h => by injection h

theorem ite_le_succ (p : Prop) [Decidable p] (c : Nat) : (if p then c else c + 1) ≤ c + 1 := by split <;> omega
theorem grown_below {w w' : World} {b B : Nat} (hg : w.grownBy w' (some b)) (hb : B ≤ b) (hs : B ≤ w.heap.size) : Below B w w' :=
 (Below.refl _ _).grown hg hs fun k hk => by cases hk; exact hb
end Go.Proofs.YtbnkoefljcekbaaGreatDoor

namespace Go.Proofs.YtbnkoefljcekbaaGreatDoor
open Go.ChangeShapes Go.WideShapes Go.Deep Go.RowKit
set_option linter.unusedVariables false

def BRow (w : World) (b n : Nat) (f : Nat → Bool) : Prop := ∀ j, j < n → w.cell? ⟨b, j, none⟩ = some (.bool (f j)) ∧ w.frozen? ⟨b, j, none⟩ = false
theorem BRow.keep {w w' : World} {b n : Nat} {f : Nat → Bool} (h : BRow w b n f) (hb : b < w.heap.size → w'.heap[b]? = w.heap[b]?) : BRow w' b n f := fun j hj => by
 have hlt : b < w.heap.size := cell?_lt (h j hj).1
 exact ⟨(World.cell?_of_block (a := ⟨b, j, none⟩) (hb hlt)).trans (h j hj).1, (World.frozen?_of_block (a := ⟨b, j, none⟩) (hb hlt)).trans (h j hj).2⟩
theorem BRow.below {w w' : World} {b n K : Nat} {f : Nat → Bool} (h : BRow w b n f) (hb : Below K w w') (hK : b < K) : BRow w' b n f := h.keep fun _ => hb.block b hK
theorem BRow.kept {w w' : World} {b n : Nat} {f : Nat → Bool} {row : Option Nat} (h : BRow w b n f) (hg : w.grownBy w' row) (hne : some b ≠ row) : BRow w' b n f := h.keep fun hlt => hg.block b hlt hne
theorem BRow.set {w : World} {b n k : Nat} {f : Nat → Bool} (h : BRow w b n f) (u : Bool) : BRow (w.setCell ⟨b, k, none⟩ (.bool u)) b n (fun j => if j = k then u else f j) := fun j hj => by
 refine ⟨?_, by rw [World.frozen?_setCell]; exact (h j hj).2⟩
 by_cases e : j = k
 ·subst e
  simp only [if_true]
  exact World.cell?_setCell_same' _ _ _ (by rw [(h j hj).1]; rfl)
 ·simp only [if_neg e]
  rw [World.cell?_setCell_other _ _ _ _ (by simp <;> omega)]
  exact (h j hj).1
theorem grown_setc (w : World) (a : Addr) (u : Value) : w.grownBy (w.setCell a u) (some a.block) :=
 ⟨rfl, rfl, rfl, by simp, fun k _ hne => heap_setCell_other w a k u (fun e => hne (by rw [e]))⟩

def madeB (n : Nat) : Array Value := madeCells (Value.bool false).cells (n * 1)
theorem run_makeB (n : Nat) (hn : n ≤ 1000000) (W : World) : (Instr.makeSlice 59 (.int .i64 (n : Int)) (.int .i64 (n : Int))).run Tryz.prog W = .ok (.slice (some ⟨W.heap.size, 0, none⟩) n n) (W.alloc (.cells (madeB n) 4)) := by
 obtain ⟨i, z, hi, hz, hz1, hz2, hz3⟩ : ∃ i z, Tryz.prog.info? 4 = some i ∧ i.zero = some z ∧ i.size = 1 ∧ i.bytes = 1 ∧ z = .bool false := by
  obtain ⟨i, h1, h2, h3, h4⟩ := info_parts (z := .bool false) (size := 1) (bytes := 1) (show (Tryz.prog.info? 4).map (fun i => (i.zero, i.size, i.bytes)) = some (some (.bool false), 1, 1) by kernel_rfl)
  exact ⟨i, _, h1, h2, h3, h4, rfl⟩
 subst hz3
 have := run_make (P := Tryz.prog) W 59 4 i (.bool false) Tryz.underlying59 hi hz .i64 .i64 (n : Int) (n : Int) (by omega) (Int.le_refl _) (by rw [hz2]; omega) (by omega)
 rw [this, hz1]
 simp only [Int.toNat_natCast]
 rfl
theorem madeB_get (n j : Nat) (hj : j < n) : (madeB n)[j]? = some (.bool false) := by
 unfold madeB madeCells
 simp [Value.cells, hj, Nat.mod_one]
theorem BRow.made (w : World) (n : Nat) : BRow (w.alloc (.cells (madeB n) 4)) w.heap.size n (fun _ => false) := fun j hj => by
 refine ⟨?_, ?_⟩
 ·have : (w.alloc (.cells (madeB n) 4)).cell? ⟨w.heap.size, j, none⟩ = (madeB n)[j]? := by simp [go_sem]
  rw [this]; exact madeB_get n j hj
 ·simp [go_sem]
end Go.Proofs.YtbnkoefljcekbaaGreatDoor

namespace Go.Proofs.YtbnkoefljcekbaaGreatDoor
set_option linter.unusedVariables false

section
variable {α : Type} (f : α → Int)
def SortedBy (l : List α) : Prop := l.Pairwise fun x y => f x ≤ f y
/-- those of one value -/
def cls (v : Int) (l : List α) : List α := l.filter fun x => f x == v
def SameCls (l m : List α) : Prop := ∀ v, cls f v l = cls f v m
variable {f}
theorem SameCls.refl (l : List α) : SameCls f l l := fun _ => rfl
theorem SameCls.symm {l m : List α} (h : SameCls f l m) : SameCls f m l := fun v => (h v).symm
theorem SameCls.trans {l m k : List α} (h : SameCls f l m) (h2 : SameCls f m k) : SameCls f l k := fun v => (h v).trans (h2 v)
theorem cls_app (v : Int) (l m : List α) : cls f v (l ++ m) = cls f v l ++ cls f v m := List.filter_append ..
theorem SameCls.app {a b c d : List α} (h : SameCls f a b) (h2 : SameCls f c d) : SameCls f (a ++ c) (b ++ d) := fun v => by rw [cls_app, cls_app, h v, h2 v]
theorem SameCls.mem {l m : List α} (h : SameCls f l m) {x : α} (hx : x ∈ l) : x ∈ m := by
 have : x ∈ cls f (f x) l := List.mem_filter.2 ⟨hx, by simp⟩
 rw [h (f x)] at this
 exact (List.mem_filter.1 this).1
theorem cls_nil_of {v : Int} {l : List α} (h : ∀ x ∈ l, f x ≠ v) : cls f v l = [] := List.filter_eq_nil_iff.2 fun x hx => by simpa using h x hx
theorem SameCls.len {l m : List α} (h : SameCls f l m) : l.length = m.length := by
 induction l generalizing m with
 | nil =>
  cases m with
  | nil => rfl
  | cons y r => exact absurd (h.symm.mem List.mem_cons_self) (by simp)
 | cons x r ih =>
  obtain ⟨a, b, hab⟩ := List.append_of_mem (h.mem List.mem_cons_self)
  -- take out the first of its class
  have key : ∃ a b, m = a ++ x :: b ∧ ∀ y ∈ a, f y ≠ f x := by
   clear hab a b ih
   have hc := h (f x)
   have h1 : cls f (f x) (x :: r) = x :: cls f (f x) r := by simp [cls]
   rw [h1] at hc
   clear h h1
   induction m with
   | nil => simp [cls] at hc
   | cons y s ihs =>
    by_cases hy : f y = f x
    ·have : cls f (f x) (y :: s) = y :: cls f (f x) s := by simp [cls, hy]
     rw [this] at hc
     injection hc with h1 h2
     subst h1
     exact ⟨[], s, rfl, fun z hz => by cases hz⟩
    ·have : cls f (f x) (y :: s) = cls f (f x) s := by simp [cls, hy]
     rw [this] at hc
     obtain ⟨a, b, h1, h2⟩ := ihs hc
     exact ⟨y :: a, b, by rw [h1]; rfl, fun z hz => by rcases List.mem_cons.1 hz with rfl | hz; exact hy; exact h2 z hz⟩
  obtain ⟨a, b, hm, hne⟩ := key
  have hr : SameCls f r (a ++ b) := fun v => by
   have := h v
   rw [hm, cls_app] at this
   by_cases hv : f x = v
   ·subst hv
    have h1 : cls f (f x) (x :: r) = x :: cls f (f x) r := by simp [cls]
    have h2 : cls f (f x) (x :: b) = x :: cls f (f x) b := by simp [cls]
    rw [h1, h2, cls_nil_of hne, List.nil_append] at this
    injection this with _ this
    rw [cls_app, cls_nil_of hne, List.nil_append]; exact this
   ·have h1 : cls f v (x :: r) = cls f v r := by simp [cls, hv]
    have h2 : cls f v (x :: b) = cls f v b := by simp [cls, hv]
    rw [h1, h2] at this
    rw [cls_app]; exact this
  have := ih hr
  rw [hm, List.length_append, List.length_cons, List.length_cons, this, List.length_append]
  omega
/-- sorted, and each class in its order: that fixes a list -/
theorem sorted_uniq : ∀ {l m : List α}, SortedBy f l → SortedBy f m → SameCls f l m → l = m
 | [], m, _, _, h => by
  cases m with
  | nil => rfl
  | cons y r => exact absurd (h.symm.mem List.mem_cons_self) (by simp)
 | x :: r, [], _, _, h => absurd (h.mem List.mem_cons_self) (by simp)
 | x :: r, y :: s, h1, h2, h => by
  have a1 := List.pairwise_cons.1 h1
  have a2 := List.pairwise_cons.1 h2
  have e1 : f y ≤ f x := by
   rcases List.mem_cons.1 (h.mem List.mem_cons_self) with e | e
   ·rw [e]; exact Int.le_refl _
   ·exact a2.1 x e
  have e2 : f x ≤ f y := by
   rcases List.mem_cons.1 (h.symm.mem List.mem_cons_self) with e | e
   ·rw [e]; exact Int.le_refl _
   ·exact a1.1 y e
  have e3 : f y = f x := Int.le_antisymm e1 e2
  have hv := h (f x)
  have c1 : cls f (f x) (x :: r) = x :: cls f (f x) r := by simp [cls]
  have c2 : cls f (f x) (y :: s) = y :: cls f (f x) s := by simp [cls, e3]
  rw [c1, c2] at hv
  injection hv with hxy hv
  subst hxy
  congr 1
  refine sorted_uniq a1.2 a2.2 fun v => ?_
  by_cases e : f x = v
  ·subst e; exact hv
  ·have := h v
   have c3 : cls f v (x :: r) = cls f v r := by simp [cls, e]
   have c4 : cls f v (x :: s) = cls f v s := by simp [cls, e]
   rwa [c3, c4] at this
/-- what differs may be exchanged -/
theorem same_swap {a b : List α} (h : ∀ x ∈ a, ∀ y ∈ b, f x ≠ f y) : SameCls f (a ++ b) (b ++ a) := fun v => by
 rw [cls_app, cls_app]
 by_cases ha : cls f v a = []
 ·rw [ha, List.nil_append, List.append_nil]
 ·have hb : cls f v b = [] := by
   refine cls_nil_of fun y hy e => ?_
   obtain ⟨x, hx⟩ := List.exists_mem_of_ne_nil _ ha
   have hx2 := List.mem_filter.1 hx
   exact h x hx2.1 y hy (by have := hx2.2; simp at this; omega)
  rw [hb, List.nil_append, List.append_nil]
theorem sorted_app {a b : List α} (h1 : SortedBy f a) (h2 : SortedBy f b) (h : ∀ x ∈ a, ∀ y ∈ b, f x ≤ f y) : SortedBy f (a ++ b) := List.pairwise_append.2 ⟨h1, h2, h⟩
theorem sorted_left {a b : List α} (h : SortedBy f (a ++ b)) : SortedBy f a := (List.pairwise_append.1 h).1
theorem sorted_right {a b : List α} (h : SortedBy f (a ++ b)) : SortedBy f b := (List.pairwise_append.1 h).2.1
theorem sorted_cross {a b : List α} (h : SortedBy f (a ++ b)) : ∀ x ∈ a, ∀ y ∈ b, f x ≤ f y := (List.pairwise_append.1 h).2.2
/-- the symmetric merge's step: what is below, what is above -/
theorem sym_step {A X Y B M1 M2 : List α} (hL : SortedBy f (A ++ X)) (hR : SortedBy f (Y ++ B))
  (h1 : ∀ x, A.getLast? = some x → ∀ y, B.head? = some y → f x ≤ f y) (h2 : ∀ x, X.head? = some x → ∀ y, Y.getLast? = some y → f y < f x)
  (m1 : SortedBy f M1) (m2 : SortedBy f M2) (s1 : SameCls f M1 (A ++ Y)) (s2 : SameCls f M2 (X ++ B)) : SortedBy f (M1 ++ M2) ∧ SameCls f (M1 ++ M2) ((A ++ X) ++ (Y ++ B)) := by
 have hA : ∀ x ∈ A, ∀ l, A.getLast? = some l → f x ≤ f l := fun x hx l hl => by
  obtain ⟨i, hi⟩ : ∃ i, A = i ++ [l] := List.getLast?_eq_some_iff.1 hl
  rw [hi] at hx
  have hs := sorted_left hL
  rw [hi] at hs
  rcases List.mem_append.1 hx with hx | hx
  ·exact sorted_cross hs x hx l (by simp)
  ·rw [List.mem_singleton.1 hx]; exact Int.le_refl _
 have hY : ∀ x ∈ Y, ∀ l, Y.getLast? = some l → f x ≤ f l := fun x hx l hl => by
  obtain ⟨i, hi⟩ : ∃ i, Y = i ++ [l] := List.getLast?_eq_some_iff.1 hl
  rw [hi] at hx
  have hs := sorted_left hR
  rw [hi] at hs
  rcases List.mem_append.1 hx with hx | hx
  ·exact sorted_cross hs x hx l (by simp)
  ·rw [List.mem_singleton.1 hx]; exact Int.le_refl _
 have hX : ∀ x ∈ X, ∀ l, X.head? = some l → f l ≤ f x := fun x hx l hl => by
  cases X with
  | nil => cases hx
  | cons z r =>
   simp only [List.head?_cons, Option.some.injEq] at hl
   subst hl
   rcases List.mem_cons.1 hx with rfl | hx
   ·exact Int.le_refl _
   ·exact (List.pairwise_cons.1 (sorted_right hL)).1 x hx
 have hB : ∀ x ∈ B, ∀ l, B.head? = some l → f l ≤ f x := fun x hx l hl => by
  cases B with
  | nil => cases hx
  | cons z r =>
   simp only [List.head?_cons, Option.some.injEq] at hl
   subst hl
   rcases List.mem_cons.1 hx with rfl | hx
   ·exact Int.le_refl _
   ·exact (List.pairwise_cons.1 (sorted_right hR)).1 x hx
 have AB : ∀ x ∈ A, ∀ y ∈ B, f x ≤ f y := fun x hx y hy => by
  obtain ⟨l, hl⟩ : ∃ l, A.getLast? = some l := by
   cases h : A.getLast? with
   | none => rw [List.getLast?_eq_none_iff] at h; subst h; cases hx
   | some l => exact ⟨l, rfl⟩
  obtain ⟨k, hk⟩ : ∃ k, B.head? = some k := by
   cases B with
   | nil => cases hy
   | cons z r => exact ⟨z, rfl⟩
  exact Int.le_trans (hA x hx l hl) (Int.le_trans (h1 l hl k hk) (hB y hy k hk))
 have YX : ∀ x ∈ X, ∀ y ∈ Y, f y < f x := fun x hx y hy => by
  obtain ⟨l, hl⟩ : ∃ l, Y.getLast? = some l := by
   cases h : Y.getLast? with
   | none => rw [List.getLast?_eq_none_iff] at h; subst h; cases hy
   | some l => exact ⟨l, rfl⟩
  obtain ⟨k, hk⟩ : ∃ k, X.head? = some k := by
   cases X with
   | nil => cases hx
   | cons z r => exact ⟨z, rfl⟩
  have := hY y hy l hl
  have := h2 k hk l hl
  have := hX x hx k hk
  omega
 refine ⟨sorted_app m1 m2 fun x hx y hy => ?_, ?_⟩
 ·rcases List.mem_append.1 (s1.mem hx) with a | a
  ·rcases List.mem_append.1 (s2.mem hy) with b | b
   ·exact sorted_cross hL x a y b
   ·exact AB x a y b
  ·rcases List.mem_append.1 (s2.mem hy) with b | b
   ·exact Int.le_of_lt (YX y b x a)
   ·exact sorted_cross hR x a y b
 ·have e1 : SameCls f (X ++ Y) (Y ++ X) := same_swap fun x hx y hy => by have := YX x hx y hy; omega
  have := (s1.app s2).trans (show SameCls f ((A ++ Y) ++ (X ++ B)) ((A ++ X) ++ (Y ++ B)) from fun v => by
   have := e1 v
   rw [cls_app, cls_app] at this
   simp only [cls_app, List.append_assoc]
   rw [← List.append_assoc (cls f v Y), ← List.append_assoc (cls f v X), this])
  exact this
end
end Go.Proofs.YtbnkoefljcekbaaGreatDoor

namespace Go.Proofs.YtbnkoefljcekbaaGreatDoor
set_option linter.unusedVariables false

def sec (l : List TestCase) : Int := (l.map (·.seconds)).sum
theorem sec_app (l m : List TestCase) : sec (l ++ m) = sec l + sec m := by simp [sec, List.sum_append]
theorem sec_one (c : TestCase) : sec [c] = c.seconds := by simp [sec]
/-- the first place of the least number -/
def amin : List Int → Nat
 | [] => 0
 | x :: r => if r.all (fun y => decide (x ≤ y)) = true then 0 else amin r + 1
theorem amin_spec : ∀ {s : List Int}, s ≠ [] → ∃ m, s[amin s]? = some m ∧ (∀ y ∈ s, m ≤ y) ∧ ∀ i y, i < amin s → s[i]? = some y → m < y
 | [], h => absurd rfl h
 | x :: r, _ => by
  unfold amin
  by_cases hx : r.all (fun y => decide (x ≤ y)) = true
  ·rw [if_pos hx]
   refine ⟨x, rfl, fun y hy => ?_, fun i y hi => by omega⟩
   rcases List.mem_cons.1 hy with rfl | hy
   ·exact Int.le_refl _
   ·have := List.all_eq_true.1 hx y hy
    simpa using this
  ·rw [if_neg hx]
   have hr : r ≠ [] := fun e => hx (by rw [e]; rfl)
   obtain ⟨m, h1, h2, h3⟩ := amin_spec hr
   have hmx : m < x := by
    have : ∃ y ∈ r, ¬ x ≤ y := by simpa using hx
    obtain ⟨y, hy, hlt⟩ := this
    have := h2 y hy
    omega
   refine ⟨m, by simpa using h1, fun y hy => ?_, fun i y hi hy => ?_⟩
   ·rcases List.mem_cons.1 hy with rfl | hy
    ·omega
    ·exact h2 y hy
   ·cases i with
    | zero => simp at hy; omega
    | succ i => exact h3 i y (by omega) (by simpa using hy)
theorem amin_lt {s : List Int} (h : s ≠ []) : amin s < s.length := by
 obtain ⟨m, h1, _⟩ := amin_spec h
 exact (List.getElem?_eq_some_iff.1 h1).1
/-- a case goes to the row with the least sum -/
def deal (Rs : List (List TestCase)) (c : TestCase) : List (List TestCase) := Rs.modify (amin (Rs.map sec)) (fun r => r ++ [c])
def dealt (n : Nat) (M : List TestCase) : List (List TestCase) := M.foldl deal (List.replicate n [])
theorem mod_split {α : Type} {l : List α} {k : Nat} (h : k < l.length) (f : α → α) : ∃ A r B, l = A ++ r :: B ∧ A.length = k ∧ l[k]? = some r ∧ l.modify k f = A ++ f r :: B := by
 refine ⟨l.take k, l[k], l.drop (k + 1), ?_, by rw [List.length_take]; omega, List.getElem?_eq_getElem h, ?_⟩
 ·rw [← List.drop_eq_getElem_cons h, List.take_append_drop]
 ·rw [List.modify_eq_take_cons_drop h]
theorem sum_ge {m : Int} : ∀ {l : List Int}, (∀ x ∈ l, m ≤ x) → (l.length : Int) * m ≤ l.sum
 | [], _ => by simp
 | x :: r, h => by
  have a := h x List.mem_cons_self
  have b := sum_ge (l := r) fun y hy => h y (List.mem_cons_of_mem _ hy)
  have e : ((x :: r).length : Int) * m = (r.length : Int) * m + m := by rw [List.length_cons, Int.natCast_add]; rw [Int.add_mul]; simp
  rw [e, List.sum_cons]; omega
/-- what holds of dealt rows -/
structure Dealt (n : Nat) (most : Int) (Rs : List (List TestCase)) (M : List TestCase) : Prop where
 len : Rs.length = n
 sum : (Rs.map sec).sum = sec M
 even : ∀ r ∈ Rs, sec r * (n : Int) ≤ sec M + most * (n : Int)
 perm : Rs.flatten.Perm M
theorem Dealt.step {n : Nat} {most : Int} {Rs : List (List TestCase)} {M : List TestCase} {c : TestCase} (h : Dealt n most Rs M) (hn : 1 ≤ n) (h0 : 0 ≤ c.seconds) (h1 : c.seconds ≤ most) : Dealt n most (deal Rs c) (M ++ [c]) := by
 have hne : Rs.map sec ≠ [] := by intro e; have := congrArg List.length e; simp [h.len] at this; omega
 obtain ⟨m, g1, g2, g3⟩ := amin_spec hne
 have hk : amin (Rs.map sec) < Rs.length := by have := amin_lt hne; simpa using this
 obtain ⟨A, r, B, e1, e2, e3, e4⟩ := mod_split hk (fun r => r ++ [c])
 have hm : m = sec r := by rw [List.getElem?_map, e3] at g1; simpa using g1.symm
 have hav : sec r * (n : Int) ≤ sec M := by
  have := sum_ge g2
  rw [List.length_map, h.len, h.sum, hm, Int.mul_comm] at this
  exact this
 have hcn : c.seconds * (n : Int) ≤ most * (n : Int) := Int.mul_le_mul_of_nonneg_right h1 (by omega)
 unfold deal
 rw [e4]
 refine ⟨by have := h.len; rw [e1] at this; simpa using this, ?_, fun x hx => ?_, ?_⟩
 ·have := h.sum
  rw [e1] at this
  simp only [List.map_append, List.map_cons, List.sum_append, List.sum_cons, sec_app, sec_one] at this ⊢
  omega
 ·rw [sec_app, sec_one]
  rcases List.mem_append.1 hx with hx | hx
  ·have := h.even x (by rw [e1]; exact List.mem_append.2 (.inl hx)); omega
  ·rcases List.mem_cons.1 hx with rfl | hx
   ·rw [sec_app, sec_one, Int.add_mul]; omega
   ·have := h.even x (by rw [e1]; exact List.mem_append.2 (.inr (List.mem_cons_of_mem _ hx))); omega
 ·have := h.perm
  rw [e1] at this
  simp only [List.flatten_append, List.flatten_cons] at this ⊢
  refine List.Perm.trans ?_ (this.append_right [c])
  rw [List.append_assoc, List.append_assoc, List.append_assoc]
  refine List.Perm.append_left _ ?_
  exact List.Perm.append_left _ List.perm_append_comm
theorem Dealt.fold {n : Nat} {most : Int} (hn : 1 ≤ n) : ∀ (M M0 : List TestCase) (Rs : List (List TestCase)), Dealt n most Rs M0 → (∀ c ∈ M, 0 ≤ c.seconds ∧ c.seconds ≤ most) → Dealt n most (M.foldl deal Rs) (M0 ++ M)
 | [], M0, Rs, h, _ => by rw [List.append_nil]; exact h
 | c :: M, M0, Rs, h, hc => by
  have h0 := hc c List.mem_cons_self
  have := Dealt.fold hn M (M0 ++ [c]) (deal Rs c) (h.step hn h0.1 h0.2) fun x hx => hc x (List.mem_cons_of_mem _ hx)
  rw [List.append_assoc] at this
  exact this
end Go.Proofs.YtbnkoefljcekbaaGreatDoor

namespace Go.Proofs.YtbnkoefljcekbaaGreatDoor
open Go.ChangeShapes Go.WideShapes Go.Deep Go.RowKit
set_option linter.unusedVariables false

theorem elem_StrR : Elem Tryz.prog 9 RStr.size 16 := elem_of (z := .string ByteArray.empty) (by kernel_rfl) (by decide)
/-- n rows of strings: their headers in block bo, each row in a block of its own from base on -/
structure Rws (w : World) (base bo n : Nat) (vs : Nat → Value) (Rs : List (List ByteArray)) : Prop where
 len : Rs.length = n
 cells : ∀ j, j < n → w.cell? ⟨bo, j, none⟩ = some (vs j) ∧ w.frozen? ⟨bo, j, none⟩ = false
 own : ∀ j r, Rs[j]? = some r → Own RStr 9 w base (vs j) r
 dis : ∀ i j k, i < n → j < n → i ≠ j → (vs i).ownBlock = some k → (vs j).ownBlock ≠ some k
 lt : bo < base
 le : base ≤ w.heap.size
structure Sms (w : World) (bs n : Nat) (S : List Int) : Prop where
 len : S.length = n
 cells : ∀ (j : Nat) (x : Int), S[j]? = some x → w.cell? ⟨bs, j, none⟩ = some (.int .i64 x) ∧ w.frozen? ⟨bs, j, none⟩ = false
theorem Sms.keep {w w' : World} {bs n : Nat} {S : List Int} (h : Sms w bs n S) (hb : w'.heap[bs]? = w.heap[bs]?) : Sms w' bs n S :=
 ⟨h.len, fun j x hj => ⟨(World.cell?_of_block (a := ⟨bs, j, none⟩) hb).trans (h.cells j x hj).1, (World.frozen?_of_block (a := ⟨bs, j, none⟩) hb).trans (h.cells j x hj).2⟩⟩
theorem Sms.put {w : World} {bs n k : Nat} {S : List Int} (h : Sms w bs n S) (hk : k < n) (x : Int) : Sms (w.setCell ⟨bs, k, none⟩ (.int .i64 x)) bs n (S.set k x) := by
 refine ⟨by rw [List.length_set]; exact h.len, fun j y hj => ?_⟩
 rw [List.getElem?_set] at hj
 by_cases e : k = j
 ·subst e
  rw [if_pos rfl, if_pos (by rw [h.len]; exact hk)] at hj
  injection hj with hj
  subst hj
  obtain ⟨z, hz⟩ : ∃ z, S[k]? = some z := ⟨S[k]'(by rw [h.len]; exact hk), List.getElem?_eq_getElem _⟩
  obtain ⟨c, f⟩ := h.cells k z hz
  exact ⟨World.cell?_setCell_same' _ _ _ (by rw [c]; rfl), by rw [World.frozen?_setCell]; exact f⟩
 ·rw [if_neg e] at hj
  obtain ⟨c, f⟩ := h.cells j y hj
  exact ⟨by rw [World.cell?_setCell_other _ _ _ _ (by simp <;> omega)]; exact c, by rw [World.frozen?_setCell]; exact f⟩
theorem Sms.sl {w : World} {bs n : Nat} {S : List Int} (h : Sms w bs n S) (hS : ∀ x ∈ S, I64 x) : SlAt RInt w (some ⟨bs, 0, none⟩) n S := by
 refine ⟨h.len, fun _ => ⟨bs, 0, rfl, fun i x hx j v hv => ?_⟩, hS⟩
 match j, hv with
 | 0, hv =>
  simp only [RInt, List.getElem?_cons_zero, Option.some.injEq] at hv
  subst hv
  have := (h.cells i x hx).1
  simpa [RInt] using this
 | j + 1, hv => simp [RInt] at hv
theorem Rws.lt_heap {w : World} {base bo n : Nat} {vs : Nat → Value} {Rs : List (List ByteArray)} (h : Rws w base bo n vs Rs) : bo < w.heap.size := Nat.lt_of_lt_of_le h.lt h.le
theorem Rws.below {w w' : World} {base bo n : Nat} {vs : Nat → Value} {Rs : List (List ByteArray)} (h : Rws w base bo n vs Rs) (hb : Below w.heap.size w w') : Rws w' base bo n vs Rs := by
 have hbo := hb.block bo h.lt_heap
 exact ⟨h.len, fun j hj => ⟨(World.cell?_of_block (a := ⟨bo, j, none⟩) hbo).trans (h.cells j hj).1, (World.frozen?_of_block (a := ⟨bo, j, none⟩) hbo).trans (h.cells j hj).2⟩,
  fun j r hr => (h.own j r hr).below hb, h.dis, h.lt, Nat.le_trans h.le hb.size⟩
/-- a cell of another block below the rows -/
theorem Rws.cell {w : World} {base bo n : Nat} {vs : Nat → Value} {Rs : List (List ByteArray)} (h : Rws w base bo n vs Rs) (a : Addr) (u : Value) (ha : a.block < base) (hne : a.block ≠ bo) : Rws (w.setCell a u) base bo n vs Rs := by
 have hg := grown_setc w a u
 have hbo := hg.block bo h.lt_heap (fun e => hne (by injection e with e; exact e.symm))
 refine ⟨h.len, fun j hj => ⟨(World.cell?_of_block (a := ⟨bo, j, none⟩) hbo).trans (h.cells j hj).1, (World.frozen?_of_block (a := ⟨bo, j, none⟩) hbo).trans (h.cells j hj).2⟩,
  fun j r hr => (h.own j r hr).kept hg ?_ (fun _ _ h => h), h.dis, h.lt, by simpa using h.le⟩
 cases hv : (vs j).ownBlock with
 | none => exact .inl rfl
 | some k => exact .inr (by have := ((h.own j r hr).1.lt k hv).1; intro hc; injection hc with hc; omega)
/-- a row was written to or made anew: its header goes in -/
theorem Rws.put {w w' : World} {base bo n k : Nat} {vs : Nat → Value} {Rs : List (List ByteArray)} {v' : Value} {r' : List ByteArray} (h : Rws w base bo n vs Rs) (hk : k < n) (hg : w.grownBy w' (vs k).ownBlock) (ho : Own RStr 9 w' base v' r')
  (hat : ∀ g, v'.ownBlock = some g → (vs k).ownBlock = some g ∨ w.heap.size ≤ g) : Rws (w'.setCell ⟨bo, k, none⟩ v') base bo n (fun j => if j = k then v' else vs j) (Rs.set k r') := by
 have hkb : ∀ b, (vs k).ownBlock = some b → base ≤ b := fun b hb => by
  obtain ⟨r, hr⟩ : ∃ r, Rs[k]? = some r := ⟨Rs[k]'(by rw [h.len]; exact hk), List.getElem?_eq_getElem _⟩
  exact ((h.own k r hr).1.lt b hb).1
 have hbo := hg.block bo h.lt_heap (fun e => by have := hkb bo e.symm; have := h.lt; omega)
 have hc : ∀ j, j < n → w'.cell? ⟨bo, j, none⟩ = some (vs j) ∧ w'.frozen? ⟨bo, j, none⟩ = false := fun j hj =>
  ⟨(World.cell?_of_block (a := ⟨bo, j, none⟩) hbo).trans (h.cells j hj).1, (World.frozen?_of_block (a := ⟨bo, j, none⟩) hbo).trans (h.cells j hj).2⟩
 have hg2 := grown_setc w' ⟨bo, k, none⟩ v'
 have hlt := h.lt
 have ne_bo : ∀ (v : Value) (l : List ByteArray), Own RStr 9 w' base v l → v.ownBlock = none ∨ v.ownBlock ≠ some bo := fun v l hv => by
  cases e : v.ownBlock with
  | none => exact .inl rfl
  | some b => exact .inr (by have := (hv.1.lt b e).1; intro hc; injection hc with hc; omega)
 refine ⟨by rw [List.length_set]; exact h.len, fun j hj => ?_, fun j r hr => ?_, fun i j b hi hj hne hb => ?_, h.lt, by have := hg.size; have := h.le; simp; omega⟩
 ·obtain ⟨c, f⟩ := hc j hj
  by_cases e : j = k
  ·subst e
   rw [if_pos rfl]
   exact ⟨World.cell?_setCell_same' _ _ _ (by rw [c]; rfl), by rw [World.frozen?_setCell]; exact f⟩
  ·rw [if_neg e]
   exact ⟨by rw [World.cell?_setCell_other _ _ _ _ (by simp <;> omega)]; exact c, by rw [World.frozen?_setCell]; exact f⟩
 ·rw [List.getElem?_set] at hr
  by_cases e : k = j
  ·subst e
   rw [if_pos rfl, if_pos (by rw [h.len]; exact hk)] at hr
   injection hr with hr
   subst hr
   simp only [if_true]
   exact ho.kept hg2 (ne_bo _ _ ho) (fun _ _ h => h)
  ·rw [if_neg e] at hr
   have hjn : j < n := by have := (List.getElem?_eq_some_iff.1 hr).1; rw [h.len] at this; exact this
   have h1 := h.own j r hr
   have h2 : Own RStr 9 w' base (vs j) r := h1.kept hg (by
    cases hv : (vs j).ownBlock with
    | none => exact .inl rfl
    | some b => exact .inr (fun e2 => h.dis j k b hjn hk (fun e3 => e e3.symm) hv e2.symm)) (fun _ _ h => h)
   simp only [if_neg (fun e2 => e e2.symm : ¬ j = k)]
   exact h2.kept hg2 (ne_bo _ _ h2) (fun _ _ h => h)
 ·have hlt2 : ∀ j, j < n → ∀ b, (vs j).ownBlock = some b → b < w.heap.size := fun j hj b hb => by
   obtain ⟨r, hr⟩ : ∃ r, Rs[j]? = some r := ⟨Rs[j]'(by rw [h.len]; exact hj), List.getElem?_eq_getElem _⟩
   exact ((h.own j r hr).1.lt b hb).2
  by_cases ei : i = k
  ·subst ei
   simp only [if_true] at hb
   simp only [if_neg (fun e2 => hne e2.symm : ¬ j = i)]
   intro hb2
   rcases hat b hb with h3 | h3
   ·exact h.dis i j b hi hj hne h3 hb2
   ·have := hlt2 j hj b hb2; omega
  ·simp only [if_neg ei] at hb
   by_cases ej : j = k
   ·subst ej
    simp only [if_true]
    intro hb2
    rcases hat b hb2 with h3 | h3
    ·exact h.dis i j b hi hj hne hb h3
    ·have := hlt2 i hi b hb; omega
   ·simp only [if_neg ej]
    exact h.dis i j b hi hj hne hb
section
variable {α : Type} {R : Rd α} {e : TypeId} {w : World} {base : Nat} {v : Value} {l : List α} {P : Program}
theorem step_app1g {ops : Array Oper} {o : Oper} {a : Act} {K : Act → World → Prop} {Q : Exit → Act → World → Prop} {E : Prop} (hgd : o.guard = none) (s x : Operand) (t : TypeId)
  (ho : o.op = .call { callee := .builtin .append, args := #[s, x], argTypes := #[t, t] })
  {bytes : Nat} (ht : P.underlying t = some (.slice e)) (hE : Elem P e R.size bytes) (hsz : 0 < R.size)
  (hs : a.eval s = v) (hown : Own R e w base v l) (g : Nat) (y : α) (hx : a.eval x = .slice (some ⟨g, 0, none⟩) 1 1) (hy : SlAt R w (some ⟨g, 0, none⟩) 1 [y])
  (hok : ∀ w', w.grownBy w' v.ownBlock → ∀ z, z ∈ l ++ [y] → R.ok w z → R.ok w' z)
  (h63 : l.length + 1 ≤ maxLen) (hbytes : (l.length + 1) * bytes ≤ 140737488355328) (hbase : base ≤ w.heap.size) (N : Nat) (hN : l.length + 1 = N)
  (h : ∀ A' c' w', Own R e w' base (.slice A' N c') (l ++ [y]) → w.grownBy w' v.ownBlock → (∀ g, (Value.slice A' N c').ownBlock = some g → v.ownBlock = some g ∨ w.heap.size ≤ g) → K (a.put o.dst (.slice A' N c')) w') :
  if Region.wanted o (yielded ops a.tmps) = true then Oper.wp P o a w K Q else E := by
 subst hN
 obtain ⟨i, z, hi, hz, hz1, hz2, hz3⟩ := hE
 have hnews : ∀ j u, (R.vals y)[j]? = some u → w.cell? ((⟨g, 0, none⟩ : Addr).add j) = some u := fun j u hu => by
  obtain ⟨b, off, hA, hc⟩ := hy.2.1 (by omega)
  obtain ⟨rfl, rfl⟩ : g = b ∧ 0 = off := by simpa using hA
  have := hc 0 y rfl j u hu
  rw [Addr.add_lit]
  simpa using this
 refine step_append_lies w hgd s x t ho base e i z R.size bytes ht hi hz hz1 hz2 hz3 hsz v l.length (l.flatMap R.vals) hs hown.1 ⟨g, 0, none⟩ 1 1 (R.vals y) hx (by rw [R.len]; omega) hnews
  (fun u hu => R.one y u hu) (by omega) (by omega) hbytes hbase w.heap.size rfl ?_
 intro g' cap w' h3 hg hat _
 refine h _ _ w' ⟨?_, fun q hq => ?_⟩ hg (fun b hb => ?_)
 ·rw [List.length_append, List.length_singleton, List.flatMap_append]
  simpa using h3
 ·rcases List.mem_append.1 hq with hq' | hq'
  ·exact hok w' hg q hq (hown.2 q hq')
  ·exact hok w' hg q hq (hy.2.2 q hq')
 ·have : g' = b := by simpa [Value.ownBlock] using hb
  subst this
  rcases hat with h4 | h4
  ·exact .inl h4
  ·exact .inr (by omega)
end
def madeS (n : Nat) : Array Value := madeCells (Value.slice none 0 0).cells (n * 1)
def madeI (n : Nat) : Array Value := madeCells (Value.int .i64 0).cells (n * 1)
theorem run_makeInts (n : Nat) (hn : n ≤ 1000000) (W : World) : (Instr.makeSlice 56 (.int .i64 (n : Int)) (.int .i64 (n : Int))).run Tryz.prog W = .ok (.slice (some ⟨W.heap.size, 0, none⟩) n n) (W.alloc (.cells (madeI n) 3)) := by
 obtain ⟨i, z, hi, hz, hz1, hz2, hz3⟩ : ∃ i z, Tryz.prog.info? 3 = some i ∧ i.zero = some z ∧ i.size = 1 ∧ i.bytes = 8 ∧ z = .int .i64 0 := by
  obtain ⟨i, h1, h2, h3, h4⟩ := info_parts (z := .int .i64 0) (size := 1) (bytes := 8) (show (Tryz.prog.info? 3).map (fun i => (i.zero, i.size, i.bytes)) = some (some (.int .i64 0), 1, 8) by kernel_rfl)
  exact ⟨i, _, h1, h2, h3, h4, rfl⟩
 subst hz3
 have := run_make (P := Tryz.prog) W 56 3 i (.int .i64 0) Tryz.underlying56 hi hz .i64 .i64 (n : Int) (n : Int) (by omega) (Int.le_refl _) (by rw [hz2]; omega) (by omega)
 rw [this, hz1]
 simp only [Int.toNat_natCast]
 rfl
theorem madeS_get (n j : Nat) (hj : j < n) : (madeS n)[j]? = some (.slice none 0 0) := by
 unfold madeS madeCells
 simp [Value.cells, hj, Nat.mod_one]
theorem madeI_get (n j : Nat) (hj : j < n) : (madeI n)[j]? = some (.int .i64 0) := by
 unfold madeI madeCells
 simp [Value.cells, hj, Nat.mod_one]
theorem Rws.made (w : World) (n : Nat) : Rws (w.alloc (.cells (madeS n) 43)) (w.heap.size + 1) w.heap.size n (fun _ => .slice none 0 0) (List.replicate n []) := by
 refine ⟨by simp, fun j hj => ⟨?_, ?_⟩, fun j r hr => ?_, fun i j k _ _ _ h => by simp [Value.ownBlock] at h, by omega, by simp⟩
 ·have : (w.alloc (.cells (madeS n) 43)).cell? ⟨w.heap.size, j, none⟩ = (madeS n)[j]? := by simp [go_sem]
  rw [this]; exact madeS_get n j hj
 ·simp [go_sem]
 ·have : r = [] := (List.mem_replicate.1 (List.mem_of_getElem? hr)).2
  subst this
  exact Own.nil _ _
theorem Rws.up {w : World} {base base' bo n : Nat} {Rs : List (List ByteArray)} (h : Rws w base bo n (fun _ => .slice none 0 0) Rs) (h1 : bo < base') (h2 : base' ≤ w.heap.size) (hR : Rs = List.replicate n []) : Rws w base' bo n (fun _ => .slice none 0 0) Rs :=
 ⟨h.len, h.cells, fun j r hr => by subst hR; have : r = [] := (List.mem_replicate.1 (List.mem_of_getElem? hr)).2; subst this; exact Own.nil _ _, fun i j k _ _ _ h => by simp [Value.ownBlock] at h, h1, h2⟩
theorem Sms.made (w : World) (n : Nat) : Sms (w.alloc (.cells (madeI n) 3)) w.heap.size n (List.replicate n 0) := by
 refine ⟨by simp, fun j x hj => ?_⟩
 have hjn : j < n := by have := (List.getElem?_eq_some_iff.1 hj).1; simpa using this
 have : x = 0 := (List.mem_replicate.1 (List.mem_of_getElem? hj)).2
 subst this
 refine ⟨?_, by simp [go_sem]⟩
 have : (w.alloc (.cells (madeI n) 3)).cell? ⟨w.heap.size, j, none⟩ = (madeI n)[j]? := by simp [go_sem]
 rw [this]; exact madeI_get n j hjn
end Go.Proofs.YtbnkoefljcekbaaGreatDoor
