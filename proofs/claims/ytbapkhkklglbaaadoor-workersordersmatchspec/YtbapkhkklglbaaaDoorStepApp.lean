/-
  append of one element within a region that draws its order, to a list that the call itself made.
-/
import Derived.Test.YtbapkhkklglbaaaDoorOwn
import Derived.Deep.RegionHeld3
import Derived.Deep.AppendLies
namespace Go.Proofs.YtbapkhkklglbaaaDoor
open Go.ChangeShapes Go.WideShapes Go.Deep Go.RowKit
set_option linter.unusedVariables false

section
variable {α : Type} {R : Rd α} {e : TypeId} {w : World} {base : Nat} {v : Value} {l : List α} {P : Program}
theorem step_app1 {ops : Array Oper} {o : Oper} {a : Act} {K : Act → World → Prop} {Q : Exit → Act → World → Prop} {E : Prop} (hgd : o.guard = none) (s x : Operand) (t : TypeId)
    (ho : o.op = .call { callee := .builtin .append, args := #[s, x], argTypes := #[t, t] })
    {bytes : Nat} (ht : P.underlying t = some (.slice e)) (hE : Elem P e R.size bytes) (hsz : 0 < R.size)
    (hs : a.eval s = v) (hown : Own R e w base v l) (g : Nat) (y : α) (hx : a.eval x = .slice (some ⟨g, 0, none⟩) 1 1) (hy : SlAt R w (some ⟨g, 0, none⟩) 1 [y])
    (hok : ∀ w', w.grownBy w' v.ownBlock → ∀ z, z ∈ l ++ [y] → R.ok w z → R.ok w' z)
    (h63 : l.length + 1 ≤ maxLen) (hbytes : (l.length + 1) * bytes ≤ 140737488355328) (hbase : base ≤ w.heap.size) (N : Nat) (hN : l.length + 1 = N)
    (h : ∀ A' c' w', Own R e w' base (.slice A' N c') (l ++ [y]) → Below base w w' → K (a.put o.dst (.slice A' N c')) w') :
    if Region.wanted o (yielded ops a.tmps) = true then Oper.wp P o a w K Q else E := by
  subst hN
  obtain ⟨i, z, hi, hz, hz1, hz2, hz3⟩ := hE
  have below_of : ∀ w', w.grownBy w' v.ownBlock → Below base w w' := fun w' hg => (Below.refl _ _).grown hg hbase fun k hk => (hown.1.lt k hk).1
  have hnews : ∀ j u, (R.vals y)[j]? = some u → w.cell? ((⟨g, 0, none⟩ : Addr).add j) = some u := fun j u hu => by
    obtain ⟨b, off, hA, hc⟩ := hy.2.1 (by omega)
    obtain ⟨rfl, rfl⟩ : g = b ∧ 0 = off := by simpa using hA
    have := hc 0 y rfl j u hu
    rw [Addr.add_lit]
    simpa using this
  refine step_append_lies w hgd s x t ho base e i z R.size bytes ht hi hz hz1 hz2 hz3 hsz v l.length (l.flatMap R.vals) hs hown.1 ⟨g, 0, none⟩ 1 1 (R.vals y) hx (by rw [R.len]; omega) hnews
    (fun u hu => R.one y u hu) (by omega) (by omega) hbytes hbase w.heap.size rfl ?_
  intro g' cap w' h3 hg _ _
  refine h _ _ w' ⟨?_, fun q hq => ?_⟩ (below_of _ hg)
  · rw [List.length_append, List.length_singleton, List.flatMap_append]
    simpa using h3
  · rcases List.mem_append.1 hq with hq' | hq'
    · exact hok w' hg q hq (hown.2 q hq')
    · exact hok w' hg q hq (hy.2.2 q hq')
theorem run_appN (t ty : TypeId) {bytes : Nat} (ht : P.underlying t = some (.slice e)) (hE : Elem P e R.size bytes) (hsz : 0 < R.size) (hown : Own R e w base v l)
    (A : Option Addr) (m c : Nat) (l2 : List α) (h2 : SlAt R w A m l2) (hn : m = 0 → A = none → c = 0)
    (hok : ∀ w', w.grownBy w' v.ownBlock → ∀ z, z ∈ l ++ l2 → R.ok w z → R.ok w' z)
    (h63 : l.length + m ≤ maxLen) (hbytes : (l.length + m) * bytes ≤ 140737488355328) (hbase : base ≤ w.heap.size) :
    ∃ v' w', (Builtin.append_ #[t, t] ty #[v, .slice A m c]).run P w = .ok v' w' ∧ Own R e w' base v' (l ++ l2) ∧ Below base w w' := by
  obtain ⟨i, z, hi, hz, hz1, hz2, hz3⟩ := hE
  have below_of : ∀ w', w.grownBy w' v.ownBlock → Below base w w' := fun w' hg => (Below.refl _ _).grown hg hbase fun k hk => (hown.1.lt k hk).1
  cases A with
  | none =>
    have hm : m = 0 := by
      rcases Nat.eq_zero_or_pos m with h0 | h0
      · exact h0
      · obtain ⟨_, _, h, _⟩ := h2.2.1 h0
        cases h
    subst hm
    obtain rfl := hn rfl rfl
    obtain rfl : l2 = [] := List.eq_nil_of_length_eq_zero h2.1
    exact ⟨v, w, run_append_owned_none (P := P) (w := w) base t ty e i R.size ht hi v l.length (l.flatMap R.vals) hown.1, by rw [List.append_nil]; exact hown, Below.mono (Below.refl w.heap.size w) hbase⟩
  | some ad =>
    have hcells : ∀ j u, (l2.flatMap R.vals)[j]? = some u → w.cell? (ad.add j) = some u := by
      intro j u hu
      have hj : j < l2.length * R.size := by rw [← flatMap_vals_length]; exact (List.getElem?_eq_some_iff.1 hu).1
      have hm : 0 < m := by
        rcases Nat.eq_zero_or_pos m with h0 | h0
        · rw [h2.1, h0] at hj; simp at hj
        · exact h0
      obtain ⟨b, off, hA, hc⟩ := h2.2.1 hm
      injection hA with hA
      subst hA
      have hi' : j / R.size < l2.length := Nat.div_lt_of_lt_mul (by rw [Nat.mul_comm]; exact hj)
      have hjr : j % R.size < R.size := Nat.mod_lt _ hsz
      have hje : j = j / R.size * R.size + j % R.size := by rw [Nat.mul_comm]; exact (Nat.div_add_mod j R.size).symm
      have hget : (R.vals l2[j / R.size])[j % R.size]? = some u := by
        have hv : ∃ u', (R.vals l2[j / R.size])[j % R.size]? = some u' := ⟨_, List.getElem?_eq_getElem (by rw [R.len]; exact hjr)⟩
        obtain ⟨u', hu'⟩ := hv
        have := flatMap_vals_get l2 (j / R.size) (j % R.size) _ u' (List.getElem?_eq_getElem hi') hu'
        rw [← hje, hu] at this
        rw [hu', this]
      have := hc (j / R.size) _ (List.getElem?_eq_getElem hi') (j % R.size) u hget
      rw [Nat.add_assoc, ← hje] at this
      rw [Addr.add_lit]
      exact this
    obtain ⟨v', w', hrun, h3, hg, _, _⟩ := run_append_own_at (P := P) w base t ty e i z R.size bytes ht hi hz hz1 hz2 hz3 hsz v l.length (l.flatMap R.vals) hown.1 ad m c (l2.flatMap R.vals) (by rw [flatMap_vals_length, h2.1]) hcells
      (fun u hu => by obtain ⟨y, _, hy⟩ := List.mem_flatMap.1 hu; exact R.one y u hy) h63 hbytes hbase
    refine ⟨v', w', hrun, ⟨?_, fun y hy => ?_⟩, below_of _ hg⟩
    · rw [List.length_append, h2.1, List.flatMap_append]
      exact h3
    · rcases List.mem_append.1 hy with hy' | hy'
      · exact hok w' hg y hy (hown.2 y hy')
      · exact hok w' hg y hy (h2.2.2 y hy')
theorem step_appN {ops : Array Oper} {o : Oper} {a : Act} {K : Act → World → Prop} {Q : Exit → Act → World → Prop} {E : Prop} (hgd : o.guard = none) (s x : Operand) (t : TypeId)
    (ho : o.op = .call { callee := .builtin .append, args := #[s, x], argTypes := #[t, t] })
    {bytes : Nat} (ht : P.underlying t = some (.slice e)) (hE : Elem P e R.size bytes) (hsz : 0 < R.size)
    (hs : a.eval s = v) (hown : Own R e w base v l) (A : Option Addr) (m c : Nat) (l2 : List α) (hx : a.eval x = .slice A m c) (h2 : SlAt R w A m l2) (hn : m = 0 → A = none → c = 0)
    (hok : ∀ w', w.grownBy w' v.ownBlock → ∀ z, z ∈ l ++ l2 → R.ok w z → R.ok w' z)
    (h63 : l.length + m ≤ maxLen) (hbytes : (l.length + m) * bytes ≤ 140737488355328) (hbase : base ≤ w.heap.size)
    (h : ∀ v' w', Own R e w' base v' (l ++ l2) → Below base w w' → K (a.put o.dst v') w') :
    if Region.wanted o (yielded ops a.tmps) = true then Oper.wp P o a w K Q else E := by
  have hw : Region.wanted o (yielded ops a.tmps) = true := by simp [Region.wanted, hgd]
  rw [if_pos hw]
  obtain ⟨v', w', hr, h3, h4⟩ := run_appN (P := P) t o.type ht hE hsz hown A m c l2 h2 hn hok h63 hbytes hbase
  unfold Oper.wp execOp
  simp only [ho, resolve, invoke, builtin, Sem.run_bind, Sem.run_pure, Result.andThen_ok, List.map_toArray, List.map_cons, List.map_nil, hs, hx, hr]
  exact h v' w' h3 h4
end
end Go.Proofs.YtbapkhkklglbaaaDoor
