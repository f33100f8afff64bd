/-
  Ranges over maps that a call itself makes, in the typed form of XMap: what is still to come as a function of the key.
-/
import Derived.Test.YtpcgfodiikljdaaDoorMap
import Derived.Maps.Ext
import Derived.StringKeys
namespace Go.Proofs.YtpcgfodiikljdaaDoor
open Go.ChangeShapes Go.WideShapes Go.Deep Go.RowKit Go.Maps

section
variable {P : Program} {k : TypeId} {κ α : Type} {K : KD P k κ} {val : α → Value} {w w' : World} {b r c cnt : Nat} {f : κ → Option α} {left : κ → Bool}

/-- a range with the iterator in block r over the map in block b: 'left' are the keys still to come, cnt of them -/
def TRange (K : KD P k κ) (val : α → Value) (w : World) (b r c : Nat) (f : κ → Option α) (left : κ → Bool) (cnt : Nat) : Prop :=
  ∃ (D : DataW α) (lf : Lit → Bool), w.ranges P k (rdV val) b r c D lf cnt ∧ (∀ x, K.good x → Maps.has D (K.lit x) = (f x).isSome ∧ ∀ a, f x = some a → ∀ zd, D.atKey (K.lit x) zd = .held a) ∧ ∀ x, K.good x → lf (K.lit x) = left x

theorem TRange.left_eq (h : TRange K val w b r c f left cnt) : w.rangeLeft b r = cnt := by obtain ⟨_, _, h, _⟩ := h; exact h.left_eq
theorem TRange.lt (h : TRange K val w b r c f left cnt) : r < w.heap.size := by obtain ⟨_, _, h, _⟩ := h; exact h.lt
theorem TRange.ltb (h : TRange K val w b r c f left cnt) : b < w.heap.size := by obtain ⟨_, _, h, _⟩ := h; exact h.owns.lt
theorem TRange.kept {row : Option Nat} (h : TRange K val w b r c f left cnt) (hg : w.grownBy w' row) (hb : some b ≠ row) (hr : some r ≠ row) : TRange K val w' b r c f left cnt := by
  obtain ⟨D, lf, h, q⟩ := h
  exact ⟨D, lf, h.kept hg hb hr, q⟩
theorem TRange.alloc (h : TRange K val w b r c f left cnt) (o : Obj) : TRange K val (w.alloc o) b r c f left cnt := h.kept (World.grownBy_alloc w o none) (by simp) (by simp)
theorem below_grown {B : Nat} (hb : Below B w w') (hB : B = w.heap.size) : w.grownBy w' none := by
  subst hB
  exact ⟨hb.os, hb.tape, hb.output, hb.size, fun k hk _ => hb.block k hk⟩
theorem TRange.below (h : TRange K val w b r c f left cnt) (hb : Below w.heap.size w w') : TRange K val w' b r c f left cnt := h.kept (below_grown hb rfl) (by simp) (by simp)
theorem TRange.congr {left' : κ → Bool} (h : TRange K val w b r c f left cnt) (hl : ∀ x, K.good x → left x = left' x) : TRange K val w b r c f left' cnt := by
  obtain ⟨D, lf, h, q, e⟩ := h
  exact ⟨D, lf, h, q, fun x hx => (e x hx).trans (hl x hx)⟩

variable {ops : Array Oper} {rest : List Oper} {o : Oper} {a : Act} {Q : Exit → Act → World → Prop}

theorem wpList_trange (hg : o.guard = none) (m : Operand) (t : TypeId) (hop : o.op = Op.range t m) {e : TypeId} (ht : P.underlying t = some (.map k e)) (hm : a.eval m = .map (some b)) (h : TMap K val w b f c)
    (hK : ∀ w', TRange K val w' b w.heap.size c f (fun x => (f x).isSome) c → w.grownBy w' none → w'.heap.size = w.heap.size + 1 → wpList P ops Q rest (a.put o.dst (.pointer (some ⟨w.heap.size, 0, none⟩))) w') :
    wpList P ops Q (o :: rest) a w := by
  obtain ⟨D, h, hs, hv⟩ := h
  refine wpList_range_own w hg m t hop k e K.keyed ht (rdV val) b c D hm h ?_
  intro w' hr hgr hsz
  rw [hs] at hr
  exact hK w' ⟨D, _, hr, hv, fun x hx => (hv x hx).1⟩ hgr hsz

theorem wpList_tnext [DecidableEq κ] (hg : o.guard = none) (it : Operand) (hop : o.op = Op.next it false) (hit : a.eval it = .pointer (some ⟨r, 0, none⟩)) (hi : InjV val) (h : TRange K val w b r c f left cnt)
    (hDone : cnt = 0 → (∀ x, K.good x → left x = false) → wpList P ops Q rest (a.put o.dst (.tuple #[.bool false])) w)
    (hMore : ∀ (x : κ) (y : α) (w' : World) (cnt' : Nat), K.good x → left x = true → f x = some y → TRange K val w' b r c f (fun z => left z && !decide (z = x)) cnt' → cnt' < cnt →
      w.grownBy w' (some r) → w'.heap.size = w.heap.size → (Instr.entry (.pointer (some ⟨r, 0, none⟩))).run P w' = .ok (.tuple #[K.val x, val y]) w' → wpList P ops Q rest (a.put o.dst (.tuple #[.bool true, K.val x, val y])) w') :
    wpList P ops Q (o :: rest) a w := by
  obtain ⟨D, lf, h, hv, hl⟩ := h
  refine wpList_next_ranges w hg it hop k K.keyed (rdV val) K.val val (fun key kl hk => by obtain ⟨x, _, rfl, _⟩ := K.inv _ _ hk; exact ⟨x, rfl⟩) (fun v y hy => by obtain ⟨c, rfl, _⟩ := rdV_inv hy; exact ⟨c, rfl⟩)
    b r c D lf cnt hit h (fun h0 hd => hDone h0 fun x hx => by rw [← hl x hx]; exact hd _) ?_
  intro x0 y kl yy w' cnt' hkey hlk hR hat hrg hlt hgr hsz hen
  obtain ⟨x, hx, ex, rfl⟩ := K.inv _ _ hkey
  rw [ex] at hen ⊢
  rw [rdV_of hi] at hR
  obtain rfl : yy = (.held y, []) := (Option.some.inj hR).symm
  have hhas := Maps.has_true_of_atKey hat
  have hf : f x = some y := by
    rw [(hv x hx).1] at hhas
    obtain ⟨a, ha⟩ := Option.isSome_iff_exists.1 hhas
    have h1 := (hv x hx).2 a ha .nil
    rw [hat] at h1
    injection h1 with h1
    rw [ha, h1]
  refine hMore x y w' cnt' hx (by rw [← hl x hx]; exact hlk) hf ⟨D, _, hrg, hv, fun z hz => ?_⟩ hlt hgr hsz hen
  simp only
  rw [hl z hz]
  by_cases e : z = x
  · subst e
    rw [WideAt.sameKey_self (K.keyed.key (K.of_ z hz)), decide_eq_true rfl]
  · rw [Maps.sameKey_ne (fun h => e (K.inj _ _ hz hx h)), decide_eq_false e]
end

/-- keys that are strings -/
def KStr {P : Program} {k : TypeId} (hk : P.underlying k = some .string) : KD P k ByteArray :=
  ⟨fun s => .string s, fun s => .string s.data.toList, fun s => s.size ≤ maxLen, string_keyed hk, fun _ h => WideMaps.keyOf_string_mk hk h, fun v l h => by obtain ⟨s, e1, e2, e3⟩ := WideMaps.string_of_keyOf hk h; exact ⟨s, e3, e1, e2⟩, fun x y _ _ h => by
    cases x; cases y
    simpa using h⟩
end Go.Proofs.YtpcgfodiikljdaaDoor
