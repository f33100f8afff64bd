/-
  Lists that a call itself makes by append: what they read as, and the law of append in the walk's form.
-/
import Derived.Test.YtbapkhkklglbaaaDoorRead
import Derived.Maps.AppendAt
import Derived.Laws.AppendOwnNone
namespace Go.Proofs.YtbapkhkklglbaaaDoor
open Go.ChangeShapes Go.WideShapes Go.Deep Go.RowKit

/-- the element type's row of the table -/
def Elem (P : Program) (e : TypeId) (size bytes : Nat) : Prop := ∃ i z, P.info? e = some i ∧ i.zero = some z ∧ i.size = size ∧ i.bytes = bytes ∧ z.cells.size = size
theorem elem_of {P : Program} {e : TypeId} {z : Value} {size bytes : Nat} (h : (P.info? e).map (fun i => (i.zero, i.size, i.bytes)) = some (some z, size, bytes)) (hz : z.cells.size = size) : Elem P e size bytes := by
  obtain ⟨i, h1, h2, h3, h4⟩ := info_parts h
  exact ⟨i, z, h1, h2, h3, h4, hz⟩

/-- slice value v, made from block 'base' on, holds the list l and nothing else of the call's does -/
def Own {α : Type} (R : Rd α) (e : TypeId) (w : World) (base : Nat) (v : Value) (l : List α) : Prop :=
  w.ownsRow base e R.size v l.length (l.flatMap R.vals) ∧ ∀ x ∈ l, R.ok w x

section
variable {α : Type} {R : Rd α} {e : TypeId} {w w' : World} {base : Nat} {v : Value} {l : List α}

theorem Own.nil (w : World) (base : Nat) : Own R e w base (.slice none 0 0) [] := ⟨World.ownsRow_nil w base e R.size, fun _ h => by cases h⟩

theorem flatMap_vals_length (l : List α) : (l.flatMap R.vals).length = l.length * R.size := by
  induction l with
  | nil => simp
  | cons x l ih => rw [List.flatMap_cons, List.length_append, ih, R.len, List.length_cons, Nat.add_mul, Nat.one_mul, Nat.add_comm]

theorem flatMap_vals_get (l : List α) (i j : Nat) (x : α) (u : Value) (hx : l[i]? = some x) (hu : (R.vals x)[j]? = some u) : (l.flatMap R.vals)[i * R.size + j]? = some u := by
  induction l generalizing i with
  | nil => cases hx
  | cons y l ih =>
    rw [List.flatMap_cons]
    cases i with
    | zero =>
      simp at hx
      subst hx
      rw [Nat.zero_mul, Nat.zero_add, List.getElem?_append_left (List.getElem?_eq_some_iff.1 hu).1]
      exact hu
    | succ i =>
      rw [List.getElem?_append_right (by rw [R.len, Nat.add_mul]; omega), R.len, show (i + 1) * R.size + j - R.size = i * R.size + j by rw [Nat.add_mul]; omega]
      exact ih i (by simpa using hx)

theorem Own.form (h : Own R e w base v l) : ∃ A cap, v = .slice A l.length cap := by
  rcases h.1.2 with ⟨rfl, hn⟩ | ⟨g, cap, cur, rfl, _⟩
  · exact ⟨none, 0, by rw [hn]⟩
  · exact ⟨_, cap, rfl⟩

theorem Own.len {A : Option Addr} {n cap : Nat} (h : Own R e w base (.slice A n cap) l) : l.length = n := by
  obtain ⟨A', cap', hv⟩ := h.form
  injection hv with _ h2 _
  exact h2.symm

theorem Own.cap_le {A : Option Addr} {n cap : Nat} (h : Own R e w base (.slice A n cap) l) : n ≤ cap := by
  have hl := h.len
  rcases h.1.2 with ⟨hv, _⟩ | ⟨g, cap', cur, hv, _, _, hle, _⟩
  · injection hv with _ h2 h3
    omega
  · injection hv with _ _ h3
    omega

/-- what a call has made reads as its list -/
theorem Own.slAt {A : Option Addr} {n cap : Nat} (h : Own R e w base (.slice A n cap) l) : SlAt R w A n l := by
  refine ⟨h.len, fun hn => ?_, h.2⟩
  rcases h.1.2 with ⟨hv, _⟩ | ⟨g, cap', cur, hv, _⟩
  · injection hv with _ h2 _
    omega
  · injection hv with h1 h2 h3
    subst h1
    refine ⟨g, 0, rfl, fun i x hx j u hu => ?_⟩
    have := h.1.cells (g := g) rfl (i * R.size + j) u (flatMap_vals_get l i j x u hx hu)
    rw [Addr.add_lit, ← Nat.add_assoc] at this
    exact this

theorem Own.kept {row : Option Nat} (h : Own R e w base v l) (hg : w.grownBy w' row) (hne : v.ownBlock = none ∨ v.ownBlock ≠ row) (hok : ∀ x ∈ l, R.ok w x → R.ok w' x) : Own R e w' base v l :=
  ⟨h.1.kept hg hne, fun x hx => hok x hx (h.2 x hx)⟩
theorem Own.below (h : Own R e w base v l) (hb : Below w.heap.size w w') : Own R e w' base v l :=
  ⟨h.1.kept (row := none) ⟨hb.os, hb.tape, hb.output, hb.size, fun k hk _ => hb.block k hk⟩ (by
    cases hv : v.ownBlock
    · exact .inl rfl
    · exact .inr (by simp)), fun x hx => R.mono _ _ _ hb (h.2 x hx)⟩
theorem Own.alloc (h : Own R e w base v l) (o : Obj) : Own R e (w.alloc o) base v l := h.below ((Below.refl _ _).alloc (Nat.le_refl _) o)

/-- one element in a new block of its own -/
theorem slAt_new (w : World) (e : TypeId) (x : α) (hok : R.ok w x) : SlAt R (w.alloc (.cells (R.vals x).toArray e)) (some ⟨w.heap.size, 0, none⟩) 1 [x] := by
  refine ⟨rfl, fun _ => ⟨_, _, rfl, fun i y hy j u hu => ?_⟩, fun y hy => ?_⟩
  · cases i with
    | zero =>
      simp at hy
      subst hy
      simpa [go_sem] using hu
    | succ i => simp at hy
  · simp at hy
    subst hy
    exact R.mono _ _ _ ((Below.refl _ _).alloc (Nat.le_refl _) _) hok

/-- append(v, x...), v the call's own, x a slice that reads as l2 -/
theorem wpList_app {P : Program} {ops : Array Oper} {rest : List Oper} {o : Oper} {a : Act} {Q : Exit → Act → World → Prop} (hgd : o.guard = none) (s x : Operand) (t : TypeId)
    (ho : o.op = .call { callee := .builtin .append, args := #[s, x], argTypes := #[t, t] })
    {bytes : Nat} (ht : P.underlying t = some (.slice e)) (hE : Elem P e R.size bytes) (hsz : 0 < R.size)
    (hs : a.eval s = v) (hown : Own R e w base v l) (A : Option Addr) (m c : Nat) (l2 : List α) (hx : a.eval x = .slice A m c) (h2 : SlAt R w A m l2) (hn : m = 0 → A = none → c = 0)
    (hok : ∀ w', w.grownBy w' v.ownBlock → ∀ y, y ∈ l ++ l2 → R.ok w y → R.ok w' y)
    (h63 : l.length + m ≤ maxLen) (hbytes : (l.length + m) * bytes ≤ 140737488355328) (hbase : base ≤ w.heap.size)
    (N : Nat) (hN : l.length + m = N)
    (h : ∀ A' c' w', Own R e w' base (.slice A' N c') (l ++ l2) → w.grownBy w' v.ownBlock → (Value.ownBlock (.slice A' N c') = v.ownBlock ∨ Value.ownBlock (.slice A' N c') = some w.heap.size) →
      Below base w w' → wpList P ops Q rest (a.put o.dst (.slice A' N c')) w') :
    wpList P ops Q (o :: rest) a w := by
  subst hN
  obtain ⟨i, z, hi, hz, hz1, hz2, hz3⟩ := hE
  have below_of : ∀ w', w.grownBy w' v.ownBlock → Below base w w' := fun w' hg => (Below.refl _ _).grown hg hbase fun k hk => (hown.1.lt k hk).1
  cases A with
  | none =>
    have hm : m = 0 := by
      rcases Nat.eq_zero_or_pos m with h0 | h0
      · exact h0
      · obtain ⟨_, _, h, _⟩ := h2.2.1 h0
        cases h
    subst hm
    obtain rfl := hn rfl rfl
    obtain rfl : l2 = [] := List.eq_nil_of_length_eq_zero h2.1
    obtain ⟨A', c', rfl⟩ := hown.form
    refine wpList_append_own_none hgd s x t ho base e i R.size ht hi (.slice A' l.length c') l.length (l.flatMap R.vals) hs hown.1 hx ?_
    exact h A' c' w (by rw [List.append_nil]; exact hown) (World.grownBy.refl _ _) (.inl rfl) (below_of _ (World.grownBy.refl _ _))
  | some ad =>
    have hcells : ∀ j u, (l2.flatMap R.vals)[j]? = some u → w.cell? (ad.add j) = some u := by
      intro j u hu
      have hj : j < l2.length * R.size := by rw [← flatMap_vals_length]; exact (List.getElem?_eq_some_iff.1 hu).1
      have hm : 0 < m := by
        rcases Nat.eq_zero_or_pos m with h0 | h0
        · rw [h2.1, h0] at hj; simp at hj
        · exact h0
      obtain ⟨b, off, hA, hc⟩ := h2.2.1 hm
      injection hA with hA
      subst hA
      have hi' : j / R.size < l2.length := Nat.div_lt_of_lt_mul (by rw [Nat.mul_comm]; exact hj)
      have hjr : j % R.size < R.size := Nat.mod_lt _ hsz
      have hje : j = j / R.size * R.size + j % R.size := by rw [Nat.mul_comm]; exact (Nat.div_add_mod j R.size).symm
      have hget : (R.vals l2[j / R.size])[j % R.size]? = some u := by
        have hv : ∃ u', (R.vals l2[j / R.size])[j % R.size]? = some u' := ⟨_, List.getElem?_eq_getElem (by rw [R.len]; exact hjr)⟩
        obtain ⟨u', hu'⟩ := hv
        have := flatMap_vals_get l2 (j / R.size) (j % R.size) _ u' (List.getElem?_eq_getElem hi') hu'
        rw [← hje, hu] at this
        rw [hu', this]
      have := hc (j / R.size) _ (List.getElem?_eq_getElem hi') (j % R.size) u hget
      rw [Nat.add_assoc, ← hje] at this
      rw [Addr.add_lit]
      exact this
    refine wpList_append_own_at w hgd s x t ho base e i z R.size bytes ht hi hz hz1 hz2 hz3 hsz v l.length (l.flatMap R.vals) hs hown.1 ad m c (l2.flatMap R.vals) hx (by rw [flatMap_vals_length, h2.1]) hcells
      (fun u hu => by obtain ⟨y, _, hy⟩ := List.mem_flatMap.1 hu; exact R.one y u hy) h63 hbytes hbase ?_
    intro v' w' h3 hg _ hat
    have hbw := below_of _ hg
    obtain ⟨A', c', hv'⟩ : ∃ A' c', v' = .slice A' (l.length + m) c' := by
      rcases h3.2 with ⟨rfl, hn'⟩ | ⟨g, cap, cur, rfl, _⟩
      · exact ⟨none, 0, by rw [hn']⟩
      · exact ⟨_, cap, rfl⟩
    subst hv'
    refine h A' c' w' ⟨?_, fun y hy => ?_⟩ hg hat hbw
    · rw [List.length_append, h2.1, List.flatMap_append]
      exact h3
    · rcases List.mem_append.1 hy with hy | hy
      · exact hok w' hg y (List.mem_append.2 (.inl hy)) (hown.2 y hy)
      · exact hok w' hg y (List.mem_append.2 (.inr hy)) (h2.2.2 y hy)

/-- '[]T{}': a new row without elements -/
theorem Own.empty (w : World) : Own R e (w.alloc (.cells #[] e)) w.heap.size (.slice (some ⟨w.heap.size, 0, none⟩) 0 0) [] := by
  refine ⟨?_, fun _ h => by cases h⟩
  have := World.ownsRow_made w #[] 0 (base := w.heap.size) (e := e) (size := R.size) (Nat.le_refl _) (Nat.zero_le _) (by simp)
  simpa using this
end
end Go.Proofs.YtbapkhkklglbaaaDoor
