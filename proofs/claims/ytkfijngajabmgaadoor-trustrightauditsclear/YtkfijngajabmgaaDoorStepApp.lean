/-
  append of one element within a region that draws its order, to a list that the call itself made.
-/
import Derived.Test.YtkfijngajabmgaaDoorOwn
import Derived.Deep.RegionHeld3
import Derived.Deep.AppendLies
namespace Go.Proofs.YtkfijngajabmgaaDoor
open Go.ChangeShapes Go.WideShapes Go.Deep Go.RowKit
set_option linter.unusedVariables false

section
variable {α : Type} {R : Rd α} {e : TypeId} {w : World} {base : Nat} {v : Value} {l : List α} {P : Program}
theorem step_app1 {ops : Array Oper} {o : Oper} {a : Act} {K : Act → World → Prop} {Q : Exit → Act → World → Prop} {E : Prop} (hgd : o.guard = none) (s x : Operand) (t : TypeId)
    (ho : o.op = .call { callee := .builtin .append, args := #[s, x], argTypes := #[t, t] })
    {bytes : Nat} (ht : P.underlying t = some (.slice e)) (hE : Elem P e R.size bytes) (hsz : 0 < R.size)
    (hs : a.eval s = v) (hown : Own R e w base v l) (g : Nat) (y : α) (hx : a.eval x = .slice (some ⟨g, 0, none⟩) 1 1) (hy : SlAt R w (some ⟨g, 0, none⟩) 1 [y])
    (hok : ∀ w', w.grownBy w' v.ownBlock → ∀ z, z ∈ l ++ [y] → R.ok w z → R.ok w' z)
    (h63 : l.length + 1 ≤ maxLen) (hbytes : (l.length + 1) * bytes ≤ 140737488355328) (hbase : base ≤ w.heap.size) (N : Nat) (hN : l.length + 1 = N)
    (h : ∀ A' c' w', Own R e w' base (.slice A' N c') (l ++ [y]) → Below base w w' → K (a.put o.dst (.slice A' N c')) w') :
    if Region.wanted o (yielded ops a.tmps) = true then Oper.wp P o a w K Q else E := by
  subst hN
  obtain ⟨i, z, hi, hz, hz1, hz2, hz3⟩ := hE
  have below_of : ∀ w', w.grownBy w' v.ownBlock → Below base w w' := fun w' hg => (Below.refl _ _).grown hg hbase fun k hk => (hown.1.lt k hk).1
  have hnews : ∀ j u, (R.vals y)[j]? = some u → w.cell? ((⟨g, 0, none⟩ : Addr).add j) = some u := fun j u hu => by
    obtain ⟨b, off, hA, hc⟩ := hy.2.1 (by omega)
    obtain ⟨rfl, rfl⟩ : g = b ∧ 0 = off := by simpa using hA
    have := hc 0 y rfl j u hu
    rw [Addr.add_lit]
    simpa using this
  refine step_append_lies w hgd s x t ho base e i z R.size bytes ht hi hz hz1 hz2 hz3 hsz v l.length (l.flatMap R.vals) hs hown.1 ⟨g, 0, none⟩ 1 1 (R.vals y) hx (by rw [R.len]; omega) hnews
    (fun u hu => R.one y u hu) (by omega) (by omega) hbytes hbase w.heap.size rfl ?_
  intro g' cap w' h3 hg _ _
  refine h _ _ w' ⟨?_, fun q hq => ?_⟩ (below_of _ hg)
  · rw [List.length_append, List.length_singleton, List.flatMap_append]
    simpa using h3
  · rcases List.mem_append.1 hq with hq' | hq'
    · exact hok w' hg q hq (hown.2 q hq')
    · exact hok w' hg q hq (hy.2.2 q hq')
end
end Go.Proofs.YtkfijngajabmgaaDoor
