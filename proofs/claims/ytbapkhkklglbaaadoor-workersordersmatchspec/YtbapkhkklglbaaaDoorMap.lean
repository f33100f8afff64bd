/-
  Maps that a call itself makes: what they hold as a function of the key, with the number of their keys; each operation's law in the walk's form.
-/
import Derived.Test.YtbapkhkklglbaaaDoorRead
import Derived.Maps.OwnSet
import Derived.Maps.RangeWalk
namespace Go.Proofs.YtbapkhkklglbaaaDoor
open Go.ChangeShapes Go.WideShapes Go.Deep Go.RowKit Go.Maps

/-- keys: their values, what they read as -/
structure KD (P : Program) (k : TypeId) (κ : Type) where
  val : κ → Value
  lit : κ → Lit
  good : κ → Prop
  keyed : Keyed P k
  of_ : ∀ x, good x → keyOf P k (val x) = some (lit x)
  inv : ∀ v l, keyOf P k v = some l → ∃ x, good x ∧ v = val x ∧ l = lit x
  inj : ∀ x y, good x → good y → lit x = lit y → x = y

/-- how an element reads: as itself -/
noncomputable def rdV {α : Type} (val : α → Value) (v : Value) : Option (DataW α × List MemPlace) :=
  open Classical in if h : ∃ a, v = val a then some (.held (Classical.choose h), []) else none

def InjV {α : Type} (val : α → Value) : Prop := ∀ a b, val a = val b → a = b

theorem rdV_of {α : Type} {val : α → Value} (hi : InjV val) (a : α) : rdV val (val a) = some (.held a, []) := by
  unfold rdV
  have h : ∃ a', val a = val a' := ⟨a, rfl⟩
  rw [dif_pos h, hi _ _ (Classical.choose_spec h).symm]

theorem rdV_inv {α : Type} {val : α → Value} {v : Value} {y : DataW α × List MemPlace} (h : rdV val v = some y) : ∃ a, v = val a ∧ y = (.held a, []) := by
  unfold rdV at h
  split at h
  · rename_i hx
    injection h with h
    exact ⟨_, Classical.choose_spec hx, h.symm⟩
  · cases h

section
variable {P : Program} {k : TypeId} {κ α : Type}

/-- block b is a map of c keys that holds f -/
def TMap (K : KD P k κ) (val : α → Value) (w : World) (b : Nat) (f : κ → Option α) (c : Nat) : Prop :=
  ∃ D : DataW α, w.ownsMap P k (rdV val) b c D ∧ Maps.size D = c ∧ ∀ x, K.good x → Maps.has D (K.lit x) = (f x).isSome ∧ ∀ a, f x = some a → ∀ zd, D.atKey (K.lit x) zd = .held a

variable {K : KD P k κ} {val : α → Value} {w w' : World} {b c : Nat} {f : κ → Option α}

theorem TMap.made (w : World) (K : KD P k κ) (val : α → Value) : TMap K val (w.alloc (.map #[] 0)) w.heap.size (fun _ => none) 0 :=
  ⟨.map [], World.ownsMap_made w P k (rdV val), rfl, fun x _ => ⟨rfl, fun a h => by cases h⟩⟩

theorem TMap.lt (h : TMap K val w b f c) : b < w.heap.size := by obtain ⟨D, h, _⟩ := h; exact h.lt
theorem TMap.kept {row : Option Nat} (h : TMap K val w b f c) (hg : w.grownBy w' row) (hne : some b ≠ row) : TMap K val w' b f c := by
  obtain ⟨D, h, r⟩ := h
  exact ⟨D, h.kept hg hne, r⟩
theorem TMap.alloc (h : TMap K val w b f c) (o : Obj) : TMap K val (w.alloc o) b f c := h.kept (World.grownBy_alloc w o none) (by simp)
theorem TMap.below {B : Nat} (h : TMap K val w b f c) (hb : Below B w w') (hlt : b < B) : TMap K val w' b f c := by
  obtain ⟨D, ⟨es, clock, he, r⟩, r2⟩ := h
  exact ⟨D, ⟨es, clock, (hb.block b hlt).trans he, r⟩, r2⟩
theorem TMap.setCell (h : TMap K val w b f c) {a : Addr} (ha : b ≠ a.block) (u : Value) : TMap K val (w.setCell a u) b f c := by
  obtain ⟨D, h, r⟩ := h
  exact ⟨D, h.setCell ha u, r⟩
theorem TMap.congr {f' : κ → Option α} (h : TMap K val w b f c) (hf : ∀ x, K.good x → f x = f' x) : TMap K val w b f' c := by
  obtain ⟨D, h, hs, hv⟩ := h
  exact ⟨D, h, hs, fun x hx => by rw [← hf x hx]; exact hv x hx⟩

/-- m[x], m with x laid anew -/
def upd [DecidableEq κ] (f : κ → Option α) (x : κ) (a : α) : κ → Option α := fun y => if y = x then some a else f y

theorem TMap.look [DecidableEq κ] {t e : TypeId} (h : TMap K val w b f c) (ht : P.underlying t = some (.map k e)) {z0 : α} (hz : (zeroValue e).run P w = .ok (val z0) w) (hi : InjV val) {x : κ} (hx : K.good x) :
    (Instr.lookup t (.map (some b)) (K.val x) false).run P w = .ok (val ((f x).getD z0)) w ∧ (Instr.lookup t (.map (some b)) (K.val x) true).run P w = .ok (.tuple #[val ((f x).getD z0), .bool (f x).isSome]) w := by
  obtain ⟨D, h, hs, hv⟩ := h
  obtain ⟨v1, v2⟩ := hv x hx
  have hat : D.atKey (K.lit x) (.held z0) = .held ((f x).getD z0) := by
    cases hf : f x with
    | none =>
      rw [hf] at v1
      exact Maps.atKey_of_not_has v1 _
    | some a => exact v2 a hf _
  obtain ⟨v, ps, hr, hR⟩ := h.lookup K.keyed ht hz (rdV_of hi z0) (K.of_ x hx)
  obtain ⟨v', ps', hr', hR'⟩ := h.look_ok K.keyed ht hz (rdV_of hi z0) (K.of_ x hx)
  rw [hat] at hR hR'
  obtain ⟨a, rfl, ha⟩ := rdV_inv hR
  obtain ⟨a', rfl, ha'⟩ := rdV_inv hR'
  simp only [Prod.mk.injEq, DataW.held.injEq] at ha ha'
  obtain ⟨rfl, _⟩ := ha
  obtain ⟨rfl, _⟩ := ha'
  rw [← v1]
  exact ⟨hr, hr'⟩

theorem TMap.store [DecidableEq κ] {t e : TypeId} (h : TMap K val w b f c) (ht : P.underlying t = some (.map k e)) (hi : InjV val) (hc : c < maxLen) {x : κ} (hx : K.good x) (a : α) :
    ∃ w', (Instr.mapUpdate t (.map (some b)) (K.val x) (val a)).run P w = .ok () w' ∧ TMap K val w' b (upd f x a) (if (f x).isSome then c else c + 1) ∧ w.mapTurned w' b := by
  obtain ⟨D, h, hs, hv⟩ := h
  obtain ⟨w', hr, h', ht'⟩ := h.store K.keyed ht hc (K.of_ x hx) (rdV_of hi a)
  refine ⟨w', hr, ⟨D.put (K.lit x) (.held a), ?_, ?_, fun y hy => ?_⟩, ht'⟩
  · obtain ⟨es, clock, he, F, hsz, hD⟩ := h'
    refine ⟨es, clock, he, F, ?_, hD⟩
    have e1 : Maps.size (D.put (K.lit x) (.held a)) = es.size := by rw [hD]; simp [Maps.size, length_sorted]
    rw [← e1, Maps.size_put (h.tidy K.keyed), (hv x hx).1, hs]
    exact Nat.le_refl _
  · rw [Maps.size_put (h.tidy K.keyed), (hv x hx).1, hs]
  · have hk := K.keyed.key (K.of_ x hx)
    by_cases hyx : y = x
    · subst hyx
      refine ⟨?_, fun a' ha' zd => ?_⟩
      · rw [Maps.has_put_same h.isMap hk]; simp [upd]
      · rw [Maps.atKey_put_same h.isMap hk]
        simp [upd] at ha'
        rw [ha']
    · have hne : K.lit y ≠ K.lit x := fun e => hyx (K.inj _ _ hy hx e)
      refine ⟨?_, fun a' ha' zd => ?_⟩
      · rw [Maps.has_put_other hne, (hv y hy).1]; simp [upd, hyx]
      · rw [Maps.atKey_put_other hne]
        simp [upd, hyx] at ha'
        exact (hv y hy).2 a' ha' zd

variable {ops : Array Oper} {rest : List Oper} {o : Oper} {a : Act} {Q : Exit → Act → World → Prop}

theorem wpList_tlook [DecidableEq κ] (hg : o.guard = none) (m x : Operand) (t : TypeId) (hop : o.op = Op.lookup t m x false) {e : TypeId} (ht : P.underlying t = some (.map k e)) (z0 : α) (hz : (zeroValue e).run P w = .ok (val z0) w) (hi : InjV val)
    (hm : a.eval m = .map (some b)) (h : TMap K val w b f c) (kx : κ) (hx : a.eval x = K.val kx) (hgood : K.good kx) (hK : wpList P ops Q rest (a.put o.dst (val ((f kx).getD z0))) w) : wpList P ops Q (o :: rest) a w := by
  refine wpList_plain hg fun K' hK' => ?_
  have hr := (h.look ht hz hi hgood).1
  unfold Oper.wp
  simp [execOp, hop, hm, hx, hr, Result.andThen]
  exact hK' _ _ hK

theorem wpList_tlook_ok [DecidableEq κ] (hg : o.guard = none) (m x : Operand) (t : TypeId) (hop : o.op = Op.lookup t m x true) {e : TypeId} (ht : P.underlying t = some (.map k e)) (z0 : α) (hz : (zeroValue e).run P w = .ok (val z0) w) (hi : InjV val)
    (hm : a.eval m = .map (some b)) (h : TMap K val w b f c) (kx : κ) (hx : a.eval x = K.val kx) (hgood : K.good kx) (hK : wpList P ops Q rest (a.put o.dst (.tuple #[val ((f kx).getD z0), .bool (f kx).isSome])) w) : wpList P ops Q (o :: rest) a w := by
  refine wpList_plain hg fun K' hK' => ?_
  have hr := (h.look ht hz hi hgood).2
  unfold Oper.wp
  simp [execOp, hop, hm, hx, hr, Result.andThen]
  exact hK' _ _ hK

theorem wpList_tstore [DecidableEq κ] (hg : o.guard = none) (m x v : Operand) (t : TypeId) (hop : o.op = Op.mapUpdate t m x v) {e : TypeId} (ht : P.underlying t = some (.map k e)) (hi : InjV val)
    (hm : a.eval m = .map (some b)) (h : TMap K val w b f c) (hc : c < maxLen) (kx : κ) (hx : a.eval x = K.val kx) (hgood : K.good kx) (y : α) (hv : a.eval v = val y)
    (hK : ∀ w', TMap K val w' b (upd f kx y) (if (f kx).isSome then c else c + 1) → w.grownBy w' (some b) → wpList P ops Q rest (a.put o.dst undef) w') : wpList P ops Q (o :: rest) a w := by
  refine wpList_plain hg fun K' hK' => ?_
  obtain ⟨w', hr, h', ht'⟩ := h.store ht hi hc hgood y
  unfold Oper.wp
  simp [execOp, hop, hm, hx, hv, hr, Result.andThen]
  exact hK' _ _ (hK w' h' ht'.grown)

theorem wpList_tlen (hg : o.guard = none) (m : Operand) (t : TypeId) (hop : o.op = Op.call { callee := Callee.builtin Builtin.len, args := #[m], argTypes := #[t] }) {e : TypeId} (ht : P.underlying t = some (.map k e))
    (hm : a.eval m = .map (some b)) (h : TMap K val w b f c) (hK : wpList P ops Q rest (a.put o.dst (.int .i64 c)) w) : wpList P ops Q (o :: rest) a w := by
  obtain ⟨D, h, hs, _⟩ := h
  exact wpList_len_own w hg m t hop k e ht (rdV val) b c D hm h (by rw [hs]; exact hK)
end

/-! ### kinds of keys -/
def KInt {P : Program} {k : TypeId} (hk : P.underlying k = some (.int .i64)) : KD P k Int :=
  ⟨fun n => .int .i64 n, fun n => .int .i64 n, fun n => (Lit.int .i64 n).wf = true, int_keyed hk, fun _ h => keyOf_int_mk hk h, fun v l h => by obtain ⟨x, rfl, rfl, hw⟩ := Maps.keyOf_int_inv hk h; exact ⟨x, hw, rfl, rfl⟩, fun x y _ _ h => by injection h⟩

theorem injInt : InjV (fun n : Int => Value.int .i64 n) := fun _ _ h => by injection h
theorem injBool : InjV (fun b : Bool => Value.bool b) := fun _ _ h => by injection h

theorem ite_le_succ (p : Prop) [Decidable p] (c : Nat) : (if p then c else c + 1) ≤ c + 1 := by split <;> omega
theorem grown_below {w w' : World} {b B : Nat} (hg : w.grownBy w' (some b)) (hb : B ≤ b) (hs : B ≤ w.heap.size) : Below B w w' :=
  (Below.refl _ _).grown hg hs fun k hk => by cases hk; exact hb
end Go.Proofs.YtbapkhkklglbaaaDoor
