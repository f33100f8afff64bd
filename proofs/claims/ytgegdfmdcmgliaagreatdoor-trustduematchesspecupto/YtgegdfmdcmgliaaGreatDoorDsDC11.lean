/-
  Several texts of mine as one: XStateR, XChanD.
-/
import Derived.Test.YtgegdfmdcmgliaaGreatDoorDsCC11
import Derived.Test.YtgegdfmdcmgliaaGreatDoorDsG
import Derived.Deep.RegionHeld3
import Derived.Test.YtgegdfmdcmgliaaGreatDoorDsAC11
namespace Go.Proofs.YtgegdfmdcmgliaaGreatDoor.C11
open Go.RowKit
set_option linter.unusedVariables false

/-- the suspected writers, as the reference lists them -/
def suspL (l : List Claimed) (m : List Audit) : List ByteArray := compB (sortB (namesOf l (numsN (wrB l m) l.length)))
theorem suspL_ans {l : List Claimed} {m : List Audit} (hr : ∀ a ∈ m, 0 ≤ a.number ∧ a.number < l.length) : SuspAns l m 0 (suspL l m) := by
  unfold SuspAns
  rw [if_pos rfl]
  obtain ⟨h1, h2⟩ := rising_comp (namesOf l (numsN (wrB l m) l.length))
  exact ⟨h1, fun s => (h2 s).trans (names_mem hr s)⟩

structure SSt (w0 : World) (n b1 b2 b3 b5 : Nat) (fa fw ft : Nat → Bool) (v : Value) (wr : World) : Prop where
  ra : BRow wr b1 n fa
  rw_ : BRow wr b2 n fw
  rt : BRow wr b3 n ft
  d0 : wr.cell? ⟨b5, 0, none⟩ = some (.slice (some ⟨b1, 0, none⟩) n n)
  d1 : wr.cell? ⟨b5, 1, none⟩ = some (.slice (some ⟨b2, 0, none⟩) n n)
  d2 : wr.cell? ⟨b5, 2, none⟩ = some (.slice (some ⟨b3, 0, none⟩) n n)
  d3 : wr.cell? ⟨b5, 3, none⟩ = some v
  f3 : wr.frozen? ⟨b5, 3, none⟩ = false
  bel : Below (w0.heap.size + 1) (w0.alloc (.cells #[.slice none 0 0, .slice none 0 0, .slice none 0 0, .slice none 0 0] 60)) wr
  l1 : b1 < wr.heap.size
  l2 : b2 < wr.heap.size
  l3 : b3 < wr.heap.size
  l5 : b5 < wr.heap.size
  sz : w0.heap.size + 1 ≤ wr.heap.size
section
variable {w0 : World} {n b1 b2 b3 b5 : Nat} {fa fw ft : Nat → Bool} {v : Value} {wr w' : World}
theorem SSt.keep {K : Nat} (h : SSt w0 n b1 b2 b3 b5 fa fw ft v wr) (hb : Below K wr w') (h1 : b1 < K) (h2 : b2 < K) (h3 : b3 < K) (h5 : b5 < K) (hK : w0.heap.size + 1 ≤ K) : SSt w0 n b1 b2 b3 b5 fa fw ft v w' := by
  have hs := hb.size
  have k1 := h.l1
  have k2 := h.l2
  have k3 := h.l3
  have k5 := h.l5
  have kz := h.sz
  exact ⟨h.ra.below hb h1, h.rw_.below hb h2, h.rt.below hb h3, (hb.cell (p := ⟨b5, 0, none⟩) h5).trans h.d0, (hb.cell (p := ⟨b5, 1, none⟩) h5).trans h.d1, (hb.cell (p := ⟨b5, 2, none⟩) h5).trans h.d2, (hb.cell (p := ⟨b5, 3, none⟩) h5).trans h.d3, (hb.frozen (p := ⟨b5, 3, none⟩) h5).trans h.f3, h.bel.trans (hb.mono hK), by omega, by omega, by omega, by omega, by omega⟩
theorem SSt.below (h : SSt w0 n b1 b2 b3 b5 fa fw ft v wr) (hb : Below wr.heap.size wr w') : SSt w0 n b1 b2 b3 b5 fa fw ft v w' := h.keep hb h.l1 h.l2 h.l3 h.l5 h.sz
theorem SSt.bel0 (h : SSt w0 n b1 b2 b3 b5 fa fw ft v wr) : Below w0.heap.size w0 wr := ((Below.refl w0.heap.size w0).alloc (Nat.le_refl _) _).trans (h.bel.mono (by omega))

theorem SSt.putA {fa' : Nat → Bool} (h : SSt w0 n b1 b2 b3 b5 fa fw ft v wr) (e : FNe w0.heap.size b1 b2 b3 b5) (hr : BRow w' b1 n fa') (hg : wr.grownBy w' (some b1)) : SSt w0 n b1 b2 b3 b5 fa' fw ft v w' := by
  obtain ⟨n12, n13, n15, n23, n25, n35, g1, g2, g3, g5⟩ := e
  have h1 := h.l1
  have h2 := h.l2
  have h3 := h.l3
  have h5 := h.l5
  have hs := hg.size
  have hz := h.sz
  exact ⟨hr, h.rw_.kept hg (by simp; omega), h.rt.kept hg (by simp; omega), hg.cell h.d0 (by simp; omega), hg.cell h.d1 (by simp; omega), hg.cell h.d2 (by simp; omega), hg.cell h.d3 (by simp; omega), (World.frozen?_of_block (hg.block b5 h5 (by simp; omega))).trans h.f3, h.bel.trans (grown_below hg (by omega) (by omega)), by omega, by omega, by omega, by omega, by omega⟩
theorem SSt.putW {fw' : Nat → Bool} (h : SSt w0 n b1 b2 b3 b5 fa fw ft v wr) (e : FNe w0.heap.size b1 b2 b3 b5) (hr : BRow w' b2 n fw') (hg : wr.grownBy w' (some b2)) : SSt w0 n b1 b2 b3 b5 fa fw' ft v w' := by
  obtain ⟨n12, n13, n15, n23, n25, n35, g1, g2, g3, g5⟩ := e
  have h1 := h.l1
  have h2 := h.l2
  have h3 := h.l3
  have h5 := h.l5
  have hs := hg.size
  have hz := h.sz
  exact ⟨h.ra.kept hg (by simp; omega), hr, h.rt.kept hg (by simp; omega), hg.cell h.d0 (by simp; omega), hg.cell h.d1 (by simp; omega), hg.cell h.d2 (by simp; omega), hg.cell h.d3 (by simp; omega), (World.frozen?_of_block (hg.block b5 h5 (by simp; omega))).trans h.f3, h.bel.trans (grown_below hg (by omega) (by omega)), by omega, by omega, by omega, by omega, by omega⟩
theorem SSt.putT {ft' : Nat → Bool} (h : SSt w0 n b1 b2 b3 b5 fa fw ft v wr) (e : FNe w0.heap.size b1 b2 b3 b5) (hr : BRow w' b3 n ft') (hg : wr.grownBy w' (some b3)) : SSt w0 n b1 b2 b3 b5 fa fw ft' v w' := by
  obtain ⟨n12, n13, n15, n23, n25, n35, g1, g2, g3, g5⟩ := e
  have h1 := h.l1
  have h2 := h.l2
  have h3 := h.l3
  have h5 := h.l5
  have hs := hg.size
  have hz := h.sz
  exact ⟨h.ra.kept hg (by simp; omega), h.rw_.kept hg (by simp; omega), hr, hg.cell h.d0 (by simp; omega), hg.cell h.d1 (by simp; omega), hg.cell h.d2 (by simp; omega), hg.cell h.d3 (by simp; omega), (World.frozen?_of_block (hg.block b5 h5 (by simp; omega))).trans h.f3, h.bel.trans (grown_below hg (by omega) (by omega)), by omega, by omega, by omega, by omega, by omega⟩
theorem SSt.putV (h : SSt w0 n b1 b2 b3 b5 fa fw ft v wr) (e : FNe w0.heap.size b1 b2 b3 b5) (u : Value) : SSt w0 n b1 b2 b3 b5 fa fw ft u (wr.setCell ⟨b5, 3, none⟩ u) := by
  obtain ⟨n12, n13, n15, n23, n25, n35, g1, g2, g3, g5⟩ := e
  have h1 := h.l1
  have h2 := h.l2
  have h3 := h.l3
  have h5 := h.l5
  have hz := h.sz
  have hg := grown_setc wr ⟨b5, 3, none⟩ u
  have hs := hg.size
  have ot : ∀ j, j ≠ 3 → (wr.setCell ⟨b5, 3, none⟩ u).cell? ⟨b5, j, none⟩ = wr.cell? ⟨b5, j, none⟩ := fun j hj => World.cell?_setCell_other _ _ _ _ (by simp <;> omega)
  exact ⟨h.ra.kept hg (by simp; omega), h.rw_.kept hg (by simp; omega), h.rt.kept hg (by simp; omega), (ot 0 (by omega)).trans h.d0, (ot 1 (by omega)).trans h.d1, (ot 2 (by omega)).trans h.d2, World.cell?_setCell_same' _ _ _ (by rw [h.d3]; rfl), by rw [World.frozen?_setCell]; exact h.f3, h.bel.trans (grown_below hg (by show _ ≤ b5; omega) (by omega)), by omega, by omega, by omega, by omega, by omega⟩
end
/-- what stateOf hands back -/
structure StOk (l : List Claimed) (m : List Audit) (n b1 b2 b3 : Nat) (sA : Option Addr) (sn : Nat) (W : World) : Prop where
  ra : BRow W b1 n (audB m)
  rw_ : BRow W b2 n (wrB l m)
  rt : BRow W b3 n (tntB l m)
  sus : SlAt RStr W sA sn (suspL l m)
  sle : sn ≤ n
  l1 : b1 < W.heap.size
  l2 : b2 < W.heap.size
  l3 : b3 < W.heap.size
theorem StOk.below {l : List Claimed} {m : List Audit} {n b1 b2 b3 : Nat} {sA : Option Addr} {sn : Nat} {W W' : World} (h : StOk l m n b1 b2 b3 sA sn W) (hb : Below W.heap.size W W') : StOk l m n b1 b2 b3 sA sn W' := by
  have h1 := h.l1
  have h2 := h.l2
  have h3 := h.l3
  have hs := hb.size
  exact ⟨h.ra.below hb h1, h.rw_.below hb h2, h.rt.below hb h3, h.sus.below hb, h.sle, by omega, by omega, by omega⟩
def SRel1 (l : List Claimed) (m : List Audit) (n b1 b2 b3 b5 : Nat) (w0 : World) (i : Value) (wr : World) : Prop :=
  ∃ k : Nat, k ≤ m.length ∧ i = .int .i64 k ∧ SSt w0 n b1 b2 b3 b5 (audB (m.take k)) (wrB l (m.take k)) (fun _ => false) (.slice none 0 0) wr
def SRel2 (l : List Claimed) (m : List Audit) (n b1 b2 b3 b5 K : Nat) (w0 : World) (i : Value) (wr : World) : Prop :=
  ∃ (k n' cap : Nat) (A : Option Addr), k ≤ n ∧ i = .int .i64 k ∧ SSt w0 n b1 b2 b3 b5 (audB m) (wrB l m) (fun _ => false) (.slice A n' cap) wr ∧ Own RStr 9 wr K (.slice A n' cap) (namesOf l (numsN (wrB l m) k)) ∧ K ≤ wr.heap.size ∧ n' ≤ k
def SRel3 (l : List Claimed) (m : List Audit) (n b1 b2 b3 b5 : Nat) (A : Option Addr) (n' cap : Nat) (L : List ByteArray) (w0 : World) (i : Value) (wr : World) : Prop :=
  ∃ k : Nat, k ≤ n ∧ i = .int .i64 k ∧ SSt w0 n b1 b2 b3 b5 (audB m) (wrB l m) (pre l m k) (.slice A n' cap) wr ∧ SlAt RStr wr A n' L
theorem slAt_new2 {α : Type} {R : Rd α} (w : World) (o : Obj) (e : TypeId) {x : α} (hok : R.ok w x) : SlAt R ((w.alloc o).alloc (.cells (R.vals x).toArray e)) (some ⟨w.heap.size + 1, 0, none⟩) 1 [x] := by
  have := slAt_new (w.alloc o) e x (R.mono _ _ _ ((Below.refl _ _).alloc (Nat.le_refl _) _) hok)
  simpa using this
/-- a store to a cell that holds no string changes no row of strings -/
theorem slAt_setStr {W : World} {A : Option Addr} {n : Nat} {L : List ByteArray} (h : SlAt RStr W A n L) (a : Addr) (u : Value) {v : Value} (hv : W.cell? a = some v) (hn : ∀ s : ByteArray, v ≠ .string s) : SlAt RStr (W.setCell a u) A n L := by
  refine ⟨h.1, fun h0 => ?_, h.2.2⟩
  obtain ⟨b, off, hA, hc⟩ := h.2.1 h0
  refine ⟨b, off, hA, fun i x hx j z hz => ?_⟩
  have h1 := hc i x hx j z hz
  refine (World.cell?_setCell_other _ _ _ _ (fun e => ?_)).trans h1
  subst e
  have hz2 : z = .string x := by
    match j, hz with
    | 0, hz =>
      simp only [RStr, List.getElem?_cons_zero, Option.some.injEq] at hz
      exact hz.symm
    | j + 1, hz => simp [RStr] at hz
  rw [h1] at hv
  exact hn x (by rw [← hz2]; exact (Option.some.inj hv).symm)
theorem res4 {w wr : World} {v0 v1 v2 v3 : Value} {T : TypeId} (hb : Below (w.alloc (.cells #[v0, v1, v2, v3] T)).heap.size (w.alloc (.cells #[v0, v1, v2, v3] T)) wr) :
    wr.cell? ⟨w.heap.size, 0, none⟩ = some v0 ∧ wr.cell? ⟨w.heap.size, 1, none⟩ = some v1 ∧ wr.cell? ⟨w.heap.size, 2, none⟩ = some v2 ∧ wr.cell? ⟨w.heap.size, 3, none⟩ = some v3 ∧
    wr.frozen? ⟨w.heap.size, 0, none⟩ = false ∧ wr.frozen? ⟨w.heap.size, 1, none⟩ = false ∧ wr.frozen? ⟨w.heap.size, 2, none⟩ = false ∧ wr.frozen? ⟨w.heap.size, 3, none⟩ = false := by
  have hf : ∀ j, wr.frozen? ⟨w.heap.size, j, none⟩ = false := fun j => (hb.frozen (by simp)).trans (by simp only [World.frozen?, (MapKept.heap_alloc w (.cells #[v0, v1, v2, v3] T)).1]; simp)
  exact ⟨(hb.cell (by simp)).trans (by simp [go_sem]), (hb.cell (by simp)).trans (by simp [go_sem]), (hb.cell (by simp)).trans (by simp [go_sem]), (hb.cell (by simp)).trans (by simp [go_sem]), hf 0, hf 1, hf 2, hf 3⟩
theorem four_at {W : World} {b : Nat} {u : Value} {j : Nat} (h : W.cell? ⟨b, j, none⟩ = some u) (i j' : Nat) (hij : i ≠ j) {v : Value} (hj : j' = j := by rfl) : (W.setCell ⟨b, i, none⟩ v).cell? ⟨b, j, none⟩ = some u :=
  (World.cell?_setCell_other _ _ _ _ (by simp <;> omega)).trans h
theorem four_set {w : World} {b : Nat} {u0 u1 u2 u3 : Value} (v0 v1 v2 v3 : Value) (h0 : w.cell? ⟨b, 0, none⟩ = some u0) (h1 : w.cell? ⟨b, 1, none⟩ = some u1) (h2 : w.cell? ⟨b, 2, none⟩ = some u2) (h3 : w.cell? ⟨b, 3, none⟩ = some u3) :
    ((((w.setCell ⟨b, 0, none⟩ v0).setCell ⟨b, 1, none⟩ v1).setCell ⟨b, 2, none⟩ v2).setCell ⟨b, 3, none⟩ v3).cell? ⟨b, 0, none⟩ = some v0 ∧
    ((((w.setCell ⟨b, 0, none⟩ v0).setCell ⟨b, 1, none⟩ v1).setCell ⟨b, 2, none⟩ v2).setCell ⟨b, 3, none⟩ v3).cell? ⟨b, 1, none⟩ = some v1 ∧
    ((((w.setCell ⟨b, 0, none⟩ v0).setCell ⟨b, 1, none⟩ v1).setCell ⟨b, 2, none⟩ v2).setCell ⟨b, 3, none⟩ v3).cell? ⟨b, 2, none⟩ = some v2 ∧
    ((((w.setCell ⟨b, 0, none⟩ v0).setCell ⟨b, 1, none⟩ v1).setCell ⟨b, 2, none⟩ v2).setCell ⟨b, 3, none⟩ v3).cell? ⟨b, 3, none⟩ = some v3 := by
  have o : ∀ (W : World) (i j : Nat) (v : Value), i ≠ j → (W.setCell ⟨b, i, none⟩ v).cell? ⟨b, j, none⟩ = W.cell? ⟨b, j, none⟩ := fun W i j v hij => World.cell?_setCell_other _ _ _ _ (by simp)
  have s : ∀ (W : World) (i : Nat) (v u : Value), W.cell? ⟨b, i, none⟩ = some u → (W.setCell ⟨b, i, none⟩ v).cell? ⟨b, i, none⟩ = some v := fun W i v u hu => World.cell?_setCell_same' _ _ _ (by rw [hu]; rfl)
  refine ⟨?_, ?_, ?_, ?_⟩
  · rw [o _ 3 0 _ (by omega), o _ 2 0 _ (by omega), o _ 1 0 _ (by omega)]; exact s _ 0 _ u0 h0
  · rw [o _ 3 1 _ (by omega), o _ 2 1 _ (by omega)]; exact s _ 1 _ u1 (by rw [o _ 0 1 _ (by omega)]; exact h1)
  · rw [o _ 3 2 _ (by omega)]; exact s _ 2 _ u2 (by rw [o _ 1 2 _ (by omega), o _ 0 2 _ (by omega)]; exact h2)
  · exact s _ 3 _ u3 (by rw [o _ 2 3 _ (by omega), o _ 1 3 _ (by omega), o _ 0 3 _ (by omega)]; exact h3)
theorem brow_same {W : World} {b n k : Nat} {f : Nat → Bool} (h : BRow W b n f) (u : Bool) (hu : f k = u) : BRow (W.setCell ⟨b, k, none⟩ (.bool u)) b n f := by
  have := h.set (k := k) u
  have e : (fun j => if j = k then u else f j) = f := by
    funext j
    by_cases hj : j = k
    · subst hj; rw [if_pos rfl, hu]
    · rw [if_neg hj]
  rwa [e] at this

theorem keep5 {W w' : World} {a0 a1 a2 a3 a4 : Addr} {v0 v1 v2 v3 v4 : Value} (hb : Below W.heap.size W w') (h : W.cell? a0 = some v0 ∧ W.cell? a1 = some v1 ∧ W.cell? a2 = some v2 ∧ W.cell? a3 = some v3 ∧ W.cell? a4 = some v4) : w'.cell? a0 = some v0 ∧ w'.cell? a1 = some v1 ∧ w'.cell? a2 = some v2 ∧ w'.cell? a3 = some v3 ∧ w'.cell? a4 = some v4 := by
  obtain ⟨h0, h1, h2, h3, h4⟩ := h
  exact ⟨(hb.cell (cell?_lt h0)).trans h0, (hb.cell (cell?_lt h1)).trans h1, (hb.cell (cell?_lt h2)).trans h2, (hb.cell (cell?_lt h3)).trans h3, (hb.cell (cell?_lt h4)).trans h4⟩

theorem takeH {P : Program} {md : Region.Mode} {ops : Array Oper} {Q : Exit → Act → World → Prop} {S : World → Prop} {i : Nat} {d : Option Tmp} {oi : Oper} {v : Value} {fuel : Nat} {listed : Array Bool} {a : Act} {w : World} (hi : ops[i]? = some oi) (hd : oi.dst = d)
    (hs : Region.noSelect ops = true) (hf : Region.free md ops listed i = true) (hr : (Region.ready md ops listed).contains i = true)
    (hQ : ∀ c a w, Q (.panic c) (a.put d v) w → Q (.panic c) a w) (hy : YieldsIf P ops S oi v a) (hS : S w)
    (h : wpAnyH P md ops Q S fuel (listed.setIfInBounds i true) (a.put d v) w) : wpAnyH P md ops Q S (fuel + 1) listed a w := by
  subst hd
  exact wpAnyH_take hi hs hf hr hQ hy hS h
theorem keep5s {K b1 b2 b3 b5 kk : Nat} {W : World} {v0 v1 v2 v3 v4 : Value} (u : Value) (e : FNe K b1 b2 b3 b5) (h : W.cell? ⟨b5, 0, none⟩ = some v0 ∧ W.cell? ⟨b5, 1, none⟩ = some v1 ∧ W.cell? ⟨b5, 2, none⟩ = some v2 ∧ W.cell? ⟨b5, 3, none⟩ = some v3 ∧ W.cell? ⟨b2, kk, none⟩ = some v4) :
    (W.setCell ⟨b3, kk, none⟩ u).cell? ⟨b5, 0, none⟩ = some v0 ∧ (W.setCell ⟨b3, kk, none⟩ u).cell? ⟨b5, 1, none⟩ = some v1 ∧ (W.setCell ⟨b3, kk, none⟩ u).cell? ⟨b5, 2, none⟩ = some v2 ∧ (W.setCell ⟨b3, kk, none⟩ u).cell? ⟨b5, 3, none⟩ = some v3 ∧ (W.setCell ⟨b3, kk, none⟩ u).cell? ⟨b2, kk, none⟩ = some v4 := by
  obtain ⟨n12, n13, n15, n23, n25, n35, g1, g2, g3, g5⟩ := e
  obtain ⟨h0, h1, h2, h3, h4⟩ := h
  have o : ∀ (b j : Nat) (v : Value), b3 ≠ b → W.cell? ⟨b, j, none⟩ = some v → (W.setCell ⟨b3, kk, none⟩ u).cell? ⟨b, j, none⟩ = some v := fun b j v hb h => (World.cell?_setCell_other _ _ _ _ (fun e => hb (by injection e with e1 e2 e3 <;> first | exact e1.symm | exact e1))).trans h
  exact ⟨o _ _ _ n35 h0, o _ _ _ n35 h1, o _ _ _ n35 h2, o _ _ _ n35 h3, o _ _ _ (fun e => n23 e.symm) h4⟩

theorem keep4s {K b1 b2 b3 b5 c bl off nn : Nat} {W : World} {v0 v1 v2 v3 : Value} (u : Value) (e : FNe K b1 b2 b3 b5) (hc : b2 < c) (hbl : bl < K) (h : W.cell? ⟨b5, 1, none⟩ = some v0 ∧ W.cell? ⟨c, 0, none⟩ = some v1 ∧ W.cell? ⟨c, 1, none⟩ = some v2 ∧ W.cell? ⟨bl, off, none⟩ = some v3) :
    (W.setCell ⟨b2, nn, none⟩ u).cell? ⟨b5, 1, none⟩ = some v0 ∧ (W.setCell ⟨b2, nn, none⟩ u).cell? ⟨c, 0, none⟩ = some v1 ∧ (W.setCell ⟨b2, nn, none⟩ u).cell? ⟨c, 1, none⟩ = some v2 ∧ (W.setCell ⟨b2, nn, none⟩ u).cell? ⟨bl, off, none⟩ = some v3 := by
  obtain ⟨n12, n13, n15, n23, n25, n35, g1, g2, g3, g5⟩ := e
  obtain ⟨h0, h1, h2, h3⟩ := h
  have o : ∀ (b j : Nat) (v : Value), b2 ≠ b → W.cell? ⟨b, j, none⟩ = some v → (W.setCell ⟨b2, nn, none⟩ u).cell? ⟨b, j, none⟩ = some v := fun b j v hb h => (World.cell?_setCell_other _ _ _ _ (fun e => hb (by injection e with e1 e2 e3 <;> first | exact e1.symm | exact e1))).trans h
  exact ⟨o _ _ _ n25 h0, o _ _ _ (by omega) h1, o _ _ _ (by omega) h2, o _ _ _ (by omega) h3⟩
set_option maxRecDepth 100000 in
set_option maxHeartbeats 16000000 in
theorem stateOf_any (A : Option Addr) (n c : Nat) (l : List Claimed) (B : Option Addr) (mn mc : Nat) (m : List Audit) (w : World) (hn : n ≤ 1000) (hmn : mn ≤ 1000) (hl : SlAt RClaimed w A n l) (hma : SlAt RAudit w B mn m) (hr : ∀ a ∈ m, 0 ≤ a.number ∧ a.number < n) :
    Calls Tryz.prog 26 #[.slice A n c, .slice B mn mc] w fun e w' =>
      ∃ (b1 b2 b3 : Nat) (sA : Option Addr) (sn sc : Nat), e = .returned (.agg #[.slice (some ⟨b1, 0, none⟩) n n, .slice (some ⟨b2, 0, none⟩) n n, .slice (some ⟨b3, 0, none⟩) n n, .slice sA sn sc]) ∧ StOk l m n b1 b2 b3 sA sn w' ∧ Below w.heap.size w w' := by
  have hll := hl.1
  have hml := hma.1
  have hrl : ∀ a ∈ m, 0 ≤ a.number ∧ a.number < l.length := fun a ha => by have := hr a ha; omega
  have hmkB := run_makeB n (by omega)
  have hlH := Lib.hid hl
  clear hl
  have hllH := Lib.hid hll
  clear hll
  have hmaH := Lib.hid hma
  clear hma
  have hmlH := Lib.hid hml
  clear hml
  have hrH := Lib.hid hr
  clear hr
  have hrlH := Lib.hid hrl
  clear hrl
  go_enter Tryz.func26, Tryz.ntmps26
  go_wp2_with fail
  rename_i Q' KK hKK
  have key : ∀ (b1 b2 b3 b5 : Nat) (W : World), SSt w n b1 b2 b3 b5 (fun _ => false) (fun _ => false) (fun _ => false) (.slice none 0 0) W → FNe w.heap.size b1 b2 b3 b5 →
      Exit.then KK Q' Exit.normal { tmps := #[Value.slice A n c, Value.slice B mn mc, undef, undef, Value.pointer (some { block := w.heap.size, off := 0 }), Value.pointer (some { block := b5, off := 0 }), undef, undef, undef, undef, undef, Value.slice A n c, Value.int IntKind.i64 ↑n, Value.slice (some { block := b1, off := 0 }) n n, Value.slice A n c, Value.int IntKind.i64 ↑n, Value.slice (some { block := b2, off := 0 }) n n, Value.slice A n c, Value.int IntKind.i64 ↑n, Value.slice (some { block := b3, off := 0 }) n n, Value.agg #[Value.slice (some { block := b1, off := 0 }) n n, Value.slice (some { block := b2, off := 0 }) n n, Value.slice (some { block := b3, off := 0 }) n n, Value.slice none 0 0], undef, undef, undef, undef, undef, undef, undef, undef, undef, undef, undef, undef, undef, undef, undef, undef, undef, undef, undef, undef, undef, undef, undef, undef, undef, undef, undef, undef, undef, undef, undef, undef, undef, undef, undef, undef, undef, undef, undef, undef, undef, undef, undef, undef, undef, undef, undef, undef, undef, undef, undef, undef, undef, undef, undef, undef, undef, undef, undef, undef, undef, undef, undef, undef, undef, undef, undef, undef, undef, undef, undef, undef, undef, undef, undef, undef, undef, undef, undef, undef, undef, undef, undef, undef, undef, undef, undef, undef, undef], defers := [] } W := by
    intro b1 b2 b3 b5 W hst hne
    have hstH := Lib.hid hst
    clear hst
    have hneH := Lib.hid hne
    clear hne
    clear hmkB
    go_wp2_with fail
    go_loopw [23] (fun i wr => SRel1 l m n b1 b2 b3 b5 w i wr) (fun i _ => mn - (intOf i).toNat)
    case atStart => exact ⟨0, Nat.zero_le _, rfl, hstH.out⟩
    case round =>
      obtain ⟨k, hk, rfl, hst⟩ := hrel
      have hkl : k ≤ mn := by have := hmlH.out; omega
      by_cases hlt : k < mn
      · obtain ⟨b, off, hB, _⟩ := hmaH.out.2.1 (by omega)
        subst hB
        obtain ⟨x, hx⟩ : ∃ x, m[k]? = some x := ⟨m[k]'(by have := hmlH.out; omega), List.getElem?_eq_getElem _⟩
        obtain ⟨hn0, hn1⟩ := hrH.out x (List.mem_of_getElem? hx)
        obtain ⟨number, result, aat⟩ := x
        simp only at hn0 hn1
        obtain ⟨nn, rfl⟩ : ∃ nn : Nat, number = nn := ⟨number.toNat, by omega⟩
        have hnn : nn < n := by omega
        have hkl2 : k + 1 ≤ m.length := by have := hmlH.out; omega
        have htk : m.take (k + 1) = m.take k ++ [⟨nn, result, aat⟩] := by rw [List.take_add_one, hx]; rfl
        have hb0 := hst.bel0
        obtain ⟨c0, c1, c2⟩ := cells_Audit (hmaH.out.below hb0) hx
        have hstA := hst.below ((Below.refl wr.heap.size wr).alloc (Nat.le_refl _) (.cells #[.int .i64 nn, .string result, .int .i64 aat] 30))
        obtain ⟨g1, z1⟩ := hstA.ra nn hnn
        have d0 := hstA.d0
        have hst2 := (hst.putA hneH.out (hst.ra.set (k := nn) true) (grown_setc wr ⟨b1, nn, none⟩ (.bool true))).below ((Below.refl _ _).alloc (Nat.le_refl _) (.cells #[.int .i64 nn, .string result, .int .i64 aat] 30))
        have hl1 := hst.l1
        have hl2 := hst.l2
        have hl5 := hst.l5
        obtain ⟨W2, hW2⟩ : ∃ W, W = (wr.setCell ⟨b1, nn, none⟩ (.bool true)).alloc (.cells #[.int .i64 nn, .string result, .int .i64 aat] 30) := ⟨_, rfl⟩
        have q0 : W2.cell? ⟨wr.heap.size, 0, none⟩ = some (.int .i64 nn) := by
          have := cell_new (wr.setCell ⟨b1, nn, none⟩ (.bool true)) #[.int .i64 nn, .string result, .int .i64 aat] 30 0
          rw [hW2]; simpa using this
        have q1 : W2.cell? ⟨wr.heap.size, 1, none⟩ = some (.string result) := by
          have := cell_new (wr.setCell ⟨b1, nn, none⟩ (.bool true)) #[.int .i64 nn, .string result, .int .i64 aat] 30 1
          rw [hW2]; simpa using this
        rw [← hW2] at hst2
        have hb2 := hst2.bel0
        obtain ⟨bl, offl, hAl, _⟩ := hlH.out.2.1 (by omega)
        subst hAl
        obtain ⟨z, hz⟩ : ∃ z, l[nn]? = some z := ⟨l[nn]'(by have := hllH.out; omega), List.getElem?_eq_getElem _⟩
        obtain ⟨_, _, e2, _, _, _, _⟩ := cells_Claimed (hlH.out.below hb2) hz
        have hbl : bl < w.heap.size := cell?_lt (cells_Claimed hlH.out hz).1
        have hbadE : badA l ⟨nn, result, aat⟩ = !decide (result = z.result) := by unfold badA; simp only; rw [resOf_get hz]
        have hnI : (nn : Int) < (n : Int) := by omega
        have had := audB_snoc (m.take k) nn result aat
        have hwd := wrB_snoc l (m.take k) nn result aat
        rw [← htk] at had hwd
        clear hn0 hn1 htk
        have hxH := Lib.hid hx
        clear hx
        have hstH := Lib.hid hst
        clear hst
        have hstAH := Lib.hid hstA
        clear hstA
        have hst2H := Lib.hid hst2
        clear hst2
        have hb0H := Lib.hid hb0
        clear hb0
        have hb2H := Lib.hid hb2
        clear hb2
        have hzH := Lib.hid hz
        clear hz
        have hkl2H := Lib.hid hkl2
        clear hkl2
        have hadH := Lib.hid had
        clear had
        have hwdH := Lib.hid hwd
        clear hwd
        go_wp2_with fail
        rw [← hW2]
        clear c0 c1 c2 g1 z1 d0 hW2
        have d1 := hst2H.out.d1
        obtain ⟨g2, z2⟩ := hst2H.out.rw_ nn hnn
        have R : ∀ u : Bool, (badA l ⟨nn, result, aat⟩ = true → u = true) → (badA l ⟨nn, result, aat⟩ = false → u = wrB l (m.take k) nn) → SRel1 l m n b1 b2 b3 b5 w (.int .i64 (k + 1)) (W2.drew.setCell ⟨b2, nn, none⟩ (.bool u)) := by
          intro u hu1 hu2
          refine ⟨k + 1, hkl2H.out, by go_num, ?_⟩
          have h2 := hst2H.out.below (Below.refl _ _).drew
          rw [hadH.out, hwdH.out]
          cases hbd : badA l ⟨nn, result, aat⟩
          · rw [if_neg (by decide)]
            exact h2.putW hneH.out (brow_same h2.rw_ u (hu2 hbd).symm) (grown_setc W2.drew ⟨b2, nn, none⟩ (.bool u))
          · rw [if_pos rfl]
            obtain rfl := hu1 hbd
            exact h2.putW hneH.out (h2.rw_.set (k := nn) true) (grown_setc W2.drew ⟨b2, nn, none⟩ (.bool true))
        cases hwB : wrB l (m.take k) nn
        · rw [hwB] at g2
          by_cases hbad : result = z.result
          · have hres : (result.toList == z.result.toList) = true := by rw [beq_data, decide_eq_true hbad]
            have R := R false (fun h => by rw [hbadE, decide_eq_true hbad] at h; cases h) (fun _ => hwB.symm)
            clear hbadE
            have hbadH := Lib.hid hbad
            clear hbad
            have RH := Lib.hid R
            clear R
            have hwBH := Lib.hid hwB
            clear hwB
            go_wp2_with fail
            refine wp_region_held_drew (S := (fun w' => w'.cell? ⟨b5, 1, none⟩ = some (.slice (some ⟨b2, 0, none⟩) n n) ∧ w'.cell? ⟨wr.heap.size, 0, none⟩ = some (.int .i64 nn) ∧ w'.cell? ⟨wr.heap.size, 1, none⟩ = some (.string result) ∧ w'.cell? ⟨bl, offl + nn * 7 + 2, none⟩ = some (.string z.result))) (by kernel_rfl) ⟨d1, q0, q1, e2⟩ (fun hHeld => ?_)
            refine takeH (i := 0) (d := some 32) (v := ?_) rfl rfl (by kernel_rfl) (by kernel_rfl) (by kernel_rfl) (fun _ _ _ h => h) (Or.inl ⟨by rfl, ?_⟩) (by assumption) ?_
            rotate_left
            · (intro w hSw; (try dsimp only at hSw); go_simp; (try with_reducible rfl))
            (try simp only [Act.put, List.setIfInBounds_toArray, List.set_cons_zero, List.set_cons_succ])
            refine takeH (i := 1) (d := some 33) (v := ?_) rfl rfl (by kernel_rfl) (by kernel_rfl) (by kernel_rfl) (fun _ _ _ h => h) (Or.inl ⟨by rfl, ?_⟩) (by assumption) ?_
            rotate_left
            · (intro w hSw; (try dsimp only at hSw); go_simp; (try with_reducible rfl))
            (try simp only [Act.put, List.setIfInBounds_toArray, List.set_cons_zero, List.set_cons_succ])
            refine takeH (i := 2) (d := some 34) (v := ?_) rfl rfl (by kernel_rfl) (by kernel_rfl) (by kernel_rfl) (fun _ _ _ h => h) (Or.inl ⟨by rfl, ?_⟩) (by assumption) ?_
            rotate_left
            · (intro w hSw; (try dsimp only at hSw); go_simp; (try with_reducible rfl))
            (try simp only [Act.put, List.setIfInBounds_toArray, List.set_cons_zero, List.set_cons_succ])
            refine takeH (i := 3) (d := some 35) (v := ?_) rfl rfl (by kernel_rfl) (by kernel_rfl) (by kernel_rfl) (fun _ _ _ h => h) (Or.inl ⟨by rfl, ?_⟩) (by assumption) ?_
            rotate_left
            · (intro w hSw; (try dsimp only at hSw); go_simp; (try with_reducible rfl))
            (try simp only [Act.put, List.setIfInBounds_toArray, List.set_cons_zero, List.set_cons_succ])
            refine takeH (i := 4) (d := some 36) (v := ?_) rfl rfl (by kernel_rfl) (by kernel_rfl) (by kernel_rfl) (fun _ _ _ h => h) (Or.inl ⟨by rfl, ?_⟩) (by assumption) ?_
            rotate_left
            · (intro w hSw; (try dsimp only at hSw); go_simp; (try with_reducible rfl))
            (try simp only [Act.put, List.setIfInBounds_toArray, List.set_cons_zero, List.set_cons_succ])
            refine takeH (i := 5) (d := some 37) (v := ?_) rfl rfl (by kernel_rfl) (by kernel_rfl) (by kernel_rfl) (fun _ _ _ h => h) (Or.inl ⟨by rfl, ?_⟩) (by assumption) ?_
            rotate_left
            · (intro w hSw; (try dsimp only at hSw); go_simp; (try with_reducible rfl))
            (try simp only [Act.put, List.setIfInBounds_toArray, List.set_cons_zero, List.set_cons_succ])
            refine takeH (i := 6) (d := some 38) (v := ?_) rfl rfl (by kernel_rfl) (by kernel_rfl) (by kernel_rfl) (fun _ _ _ h => h) (Or.inl ⟨by rfl, ?_⟩) (by assumption) ?_
            rotate_left
            · (intro w hSw; (try dsimp only at hSw); go_simp; (try with_reducible rfl))
            (try simp only [Act.put, List.setIfInBounds_toArray, List.set_cons_zero, List.set_cons_succ])
            refine takeH (i := 7) (d := some 39) (v := ?_) rfl rfl (by kernel_rfl) (by kernel_rfl) (by kernel_rfl) (fun _ _ _ h => h) (Or.inl ⟨by rfl, ?_⟩) (by assumption) ?_
            rotate_left
            · (intro w hSw; (try dsimp only at hSw); go_simp; (try with_reducible rfl))
            (try simp only [Act.put, List.setIfInBounds_toArray, List.set_cons_zero, List.set_cons_succ])
            refine takeH (i := 8) (d := some 40) (v := ?_) rfl rfl (by kernel_rfl) (by kernel_rfl) (by kernel_rfl) (fun _ _ _ h => h) (Or.inl ⟨by rfl, ?_⟩) (by assumption) ?_
            rotate_left
            · (intro w hSw; (try dsimp only at hSw); go_simp; (try with_reducible rfl))
            (try simp only [Act.put, List.setIfInBounds_toArray, List.set_cons_zero, List.set_cons_succ])
            refine wpAnyH_ready (rs := [9]) (by kernel_rfl) (by simp) ?_
            refine AllReadyH.cons (i := 9) rfl (fun K hK => ?_) ?_
            · go_simp
              refine hK.out _ _ hHeld (fun hHeld => ?_)
              clear hK K
              (try simp only [Act.put, List.setIfInBounds_toArray, List.set_cons_zero, List.set_cons_succ])
              refine takeH (i := 10) (d := some 42) (v := ?_) rfl rfl (by kernel_rfl) (by kernel_rfl) (by kernel_rfl) (fun _ _ _ h => h) (Or.inl ⟨by rfl, ?_⟩) (by assumption) ?_
              rotate_left
              · (intro w hSw; (try dsimp only at hSw); go_simp; (try with_reducible rfl))
              (try simp only [Act.put, List.setIfInBounds_toArray, List.set_cons_zero, List.set_cons_succ])
              refine takeH (i := 11) (d := some 43) (v := ?_) rfl rfl (by kernel_rfl) (by kernel_rfl) (by kernel_rfl) (fun _ _ _ h => h) (Or.inl ⟨by rfl, ?_⟩) (by assumption) ?_
              rotate_left
              · (intro w hSw; (try dsimp only at hSw); go_simp; (try with_reducible rfl))
              (try simp only [Act.put, List.setIfInBounds_toArray, List.set_cons_zero, List.set_cons_succ])
              refine takeH (i := 12) (d := some 44) (v := ?_) rfl rfl (by kernel_rfl) (by kernel_rfl) (by kernel_rfl) (fun _ _ _ h => h) (Or.inl ⟨by rfl, ?_⟩) (by assumption) ?_
              rotate_left
              · (intro w hSw; (try dsimp only at hSw); go_simp; (try with_reducible rfl))
              (try simp only [Act.put, List.setIfInBounds_toArray, List.set_cons_zero, List.set_cons_succ])
              refine takeH (i := 13) (d := some 45) (v := ?_) rfl rfl (by kernel_rfl) (by kernel_rfl) (by kernel_rfl) (fun _ _ _ h => h) (Or.inl ⟨by rfl, ?_⟩) (by assumption) ?_
              rotate_left
              · (intro w hSw; (try dsimp only at hSw); go_simp; (try with_reducible rfl))
              (try simp only [Act.put, List.setIfInBounds_toArray, List.set_cons_zero, List.set_cons_succ])
              refine takeH (i := 14) (d := some 46) (v := ?_) rfl rfl (by kernel_rfl) (by kernel_rfl) (by kernel_rfl) (fun _ _ _ h => h) (Or.inl ⟨by rfl, ?_⟩) (by assumption) ?_
              rotate_left
              · (intro w hSw; (try dsimp only at hSw); go_simp; (try with_reducible rfl))
              (try simp only [Act.put, List.setIfInBounds_toArray, List.set_cons_zero, List.set_cons_succ])
              refine takeH (i := 15) (d := some 47) (v := ?_) rfl rfl (by kernel_rfl) (by kernel_rfl) (by kernel_rfl) (fun _ _ _ h => h) (Or.inl ⟨by rfl, ?_⟩) (by assumption) ?_
              rotate_left
              · (intro w hSw; (try dsimp only at hSw); go_simp; (try with_reducible rfl))
              (try simp only [Act.put, List.setIfInBounds_toArray, List.set_cons_zero, List.set_cons_succ])
              refine takeH (i := 16) (d := some 48) (v := ?_) rfl rfl (by kernel_rfl) (by kernel_rfl) (by kernel_rfl) (fun _ _ _ h => h) (Or.inl ⟨by rfl, ?_⟩) (by assumption) ?_
              rotate_left
              · (intro w hSw; (try dsimp only at hSw); go_simp; (try with_reducible rfl))
              (try simp only [Act.put, List.setIfInBounds_toArray, List.set_cons_zero, List.set_cons_succ])
              refine takeH (i := 17) (d := some 49) (v := ?_) rfl rfl (by kernel_rfl) (by kernel_rfl) (by kernel_rfl) (fun _ _ _ h => h) (Or.inl ⟨by rfl, ?_⟩) (by assumption) ?_
              rotate_left
              · (intro w hSw; (try dsimp only at hSw); go_simp; (try with_reducible rfl))
              (try simp only [Act.put, List.setIfInBounds_toArray, List.set_cons_zero, List.set_cons_succ])
              refine takeH (i := 18) (d := some 50) (v := ?_) rfl rfl (by kernel_rfl) (by kernel_rfl) (by kernel_rfl) (fun _ _ _ h => h) (Or.inl ⟨by rfl, ?_⟩) (by assumption) ?_
              rotate_left
              · (intro w hSw; (try dsimp only at hSw); go_simp; (try with_reducible rfl))
              (try simp only [Act.put, List.setIfInBounds_toArray, List.set_cons_zero, List.set_cons_succ])
              refine takeH (i := 19) (d := some 51) (v := ?_) rfl rfl (by kernel_rfl) (by kernel_rfl) (by kernel_rfl) (fun _ _ _ h => h) (Or.inl ⟨by rfl, ?_⟩) (by assumption) ?_
              rotate_left
              · (intro w hSw; (try dsimp only at hSw); go_simp; (try with_reducible rfl))
              (try simp only [Act.put, List.setIfInBounds_toArray, List.set_cons_zero, List.set_cons_succ])
              refine takeH (i := 20) (d := some 52) (v := ?_) rfl rfl (by kernel_rfl) (by kernel_rfl) (by kernel_rfl) (fun _ _ _ h => h) (Or.inl ⟨by rfl, ?_⟩) (by assumption) ?_
              rotate_left
              · (intro w hSw; (try dsimp only at hSw); go_simp; (try with_reducible rfl))
              (try simp only [Act.put, List.setIfInBounds_toArray, List.set_cons_zero, List.set_cons_succ])
              refine takeH (i := 21) (d := some 53) (v := ?_) rfl rfl (by kernel_rfl) (by kernel_rfl) (by kernel_rfl) (fun _ _ _ h => h) (Or.inl ⟨by rfl, ?_⟩) (by assumption) ?_
              rotate_left
              · (intro w hSw; (try dsimp only at hSw); go_simp; (try with_reducible rfl))
              (try simp only [Act.put, List.setIfInBounds_toArray, List.set_cons_zero, List.set_cons_succ])
              refine wpAnyH_ready (rs := [22]) (by kernel_rfl) (by simp) ?_
              refine AllReadyH.cons (i := 22) rfl (fun K hK => ?_) ?_
              · go_simp
                refine hK.out _ _ (keep4s _ hneH.out hl2 hbl hHeld) (fun hHeld2 => ?_)
                clear hK K hHeld hHeld2
                (try simp only [Act.put, List.setIfInBounds_toArray, List.set_cons_zero, List.set_cons_succ])
                refine wpAnyH_done (by kernel_rfl) ?_ _
                go_wp2
                refine ⟨?rel, ?measure⟩
                case measure => (simp [intOf]; omega)
                case rel => first | exact RH.out | exact ⟨rfl, RH.out⟩ | ((try refine ⟨rfl, ?_⟩); (repeat apply Exists.intro); refine ⟨RH.out, ?_⟩; ((repeat' apply And.intro) <;> rfl))
              · exact AllReadyH.nil
            · exact AllReadyH.nil
          · have hres : (result.toList == z.result.toList) = false := by rw [beq_data, decide_eq_false hbad]
            have R := R true (fun _ => rfl) (fun h => by rw [hbadE, decide_eq_false hbad] at h; cases h)
            clear hbadE
            have hbadH := Lib.hid hbad
            clear hbad
            have RH := Lib.hid R
            clear R
            have hwBH := Lib.hid hwB
            clear hwB
            go_wp2_with fail
            refine wp_region_held_drew (S := (fun w' => w'.cell? ⟨b5, 1, none⟩ = some (.slice (some ⟨b2, 0, none⟩) n n) ∧ w'.cell? ⟨wr.heap.size, 0, none⟩ = some (.int .i64 nn) ∧ w'.cell? ⟨wr.heap.size, 1, none⟩ = some (.string result) ∧ w'.cell? ⟨bl, offl + nn * 7 + 2, none⟩ = some (.string z.result))) (by kernel_rfl) ⟨d1, q0, q1, e2⟩ (fun hHeld => ?_)
            refine takeH (i := 0) (d := some 32) (v := ?_) rfl rfl (by kernel_rfl) (by kernel_rfl) (by kernel_rfl) (fun _ _ _ h => h) (Or.inl ⟨by rfl, ?_⟩) (by assumption) ?_
            rotate_left
            · (intro w hSw; (try dsimp only at hSw); go_simp; (try with_reducible rfl))
            (try simp only [Act.put, List.setIfInBounds_toArray, List.set_cons_zero, List.set_cons_succ])
            refine takeH (i := 1) (d := some 33) (v := ?_) rfl rfl (by kernel_rfl) (by kernel_rfl) (by kernel_rfl) (fun _ _ _ h => h) (Or.inl ⟨by rfl, ?_⟩) (by assumption) ?_
            rotate_left
            · (intro w hSw; (try dsimp only at hSw); go_simp; (try with_reducible rfl))
            (try simp only [Act.put, List.setIfInBounds_toArray, List.set_cons_zero, List.set_cons_succ])
            refine takeH (i := 2) (d := some 34) (v := ?_) rfl rfl (by kernel_rfl) (by kernel_rfl) (by kernel_rfl) (fun _ _ _ h => h) (Or.inl ⟨by rfl, ?_⟩) (by assumption) ?_
            rotate_left
            · (intro w hSw; (try dsimp only at hSw); go_simp; (try with_reducible rfl))
            (try simp only [Act.put, List.setIfInBounds_toArray, List.set_cons_zero, List.set_cons_succ])
            refine takeH (i := 3) (d := some 35) (v := ?_) rfl rfl (by kernel_rfl) (by kernel_rfl) (by kernel_rfl) (fun _ _ _ h => h) (Or.inl ⟨by rfl, ?_⟩) (by assumption) ?_
            rotate_left
            · (intro w hSw; (try dsimp only at hSw); go_simp; (try with_reducible rfl))
            (try simp only [Act.put, List.setIfInBounds_toArray, List.set_cons_zero, List.set_cons_succ])
            refine takeH (i := 4) (d := some 36) (v := ?_) rfl rfl (by kernel_rfl) (by kernel_rfl) (by kernel_rfl) (fun _ _ _ h => h) (Or.inl ⟨by rfl, ?_⟩) (by assumption) ?_
            rotate_left
            · (intro w hSw; (try dsimp only at hSw); go_simp; (try with_reducible rfl))
            (try simp only [Act.put, List.setIfInBounds_toArray, List.set_cons_zero, List.set_cons_succ])
            refine takeH (i := 5) (d := some 37) (v := ?_) rfl rfl (by kernel_rfl) (by kernel_rfl) (by kernel_rfl) (fun _ _ _ h => h) (Or.inl ⟨by rfl, ?_⟩) (by assumption) ?_
            rotate_left
            · (intro w hSw; (try dsimp only at hSw); go_simp; (try with_reducible rfl))
            (try simp only [Act.put, List.setIfInBounds_toArray, List.set_cons_zero, List.set_cons_succ])
            refine takeH (i := 6) (d := some 38) (v := ?_) rfl rfl (by kernel_rfl) (by kernel_rfl) (by kernel_rfl) (fun _ _ _ h => h) (Or.inl ⟨by rfl, ?_⟩) (by assumption) ?_
            rotate_left
            · (intro w hSw; (try dsimp only at hSw); go_simp; (try with_reducible rfl))
            (try simp only [Act.put, List.setIfInBounds_toArray, List.set_cons_zero, List.set_cons_succ])
            refine takeH (i := 7) (d := some 39) (v := ?_) rfl rfl (by kernel_rfl) (by kernel_rfl) (by kernel_rfl) (fun _ _ _ h => h) (Or.inl ⟨by rfl, ?_⟩) (by assumption) ?_
            rotate_left
            · (intro w hSw; (try dsimp only at hSw); go_simp; (try with_reducible rfl))
            (try simp only [Act.put, List.setIfInBounds_toArray, List.set_cons_zero, List.set_cons_succ])
            refine takeH (i := 8) (d := some 40) (v := ?_) rfl rfl (by kernel_rfl) (by kernel_rfl) (by kernel_rfl) (fun _ _ _ h => h) (Or.inl ⟨by rfl, ?_⟩) (by assumption) ?_
            rotate_left
            · (intro w hSw; (try dsimp only at hSw); go_simp; (try with_reducible rfl))
            (try simp only [Act.put, List.setIfInBounds_toArray, List.set_cons_zero, List.set_cons_succ])
            refine wpAnyH_ready (rs := [9]) (by kernel_rfl) (by simp) ?_
            refine AllReadyH.cons (i := 9) rfl (fun K hK => ?_) ?_
            · go_simp
              refine hK.out _ _ hHeld (fun hHeld => ?_)
              clear hK K
              (try simp only [Act.put, List.setIfInBounds_toArray, List.set_cons_zero, List.set_cons_succ])
              refine takeH (i := 10) (d := some 42) (v := ?_) rfl rfl (by kernel_rfl) (by kernel_rfl) (by kernel_rfl) (fun _ _ _ h => h) (Or.inl ⟨by rfl, ?_⟩) (by assumption) ?_
              rotate_left
              · (intro w hSw; (try dsimp only at hSw); go_simp; (try with_reducible rfl))
              (try simp only [Act.put, List.setIfInBounds_toArray, List.set_cons_zero, List.set_cons_succ])
              refine takeH (i := 11) (d := some 43) (v := ?_) rfl rfl (by kernel_rfl) (by kernel_rfl) (by kernel_rfl) (fun _ _ _ h => h) (Or.inl ⟨by rfl, ?_⟩) (by assumption) ?_
              rotate_left
              · (intro w hSw; (try dsimp only at hSw); go_simp; (try with_reducible rfl))
              (try simp only [Act.put, List.setIfInBounds_toArray, List.set_cons_zero, List.set_cons_succ])
              refine takeH (i := 12) (d := some 44) (v := ?_) rfl rfl (by kernel_rfl) (by kernel_rfl) (by kernel_rfl) (fun _ _ _ h => h) (Or.inl ⟨by rfl, ?_⟩) (by assumption) ?_
              rotate_left
              · (intro w hSw; (try dsimp only at hSw); go_simp; (try with_reducible rfl))
              (try simp only [Act.put, List.setIfInBounds_toArray, List.set_cons_zero, List.set_cons_succ])
              refine takeH (i := 13) (d := some 45) (v := ?_) rfl rfl (by kernel_rfl) (by kernel_rfl) (by kernel_rfl) (fun _ _ _ h => h) (Or.inl ⟨by rfl, ?_⟩) (by assumption) ?_
              rotate_left
              · (intro w hSw; (try dsimp only at hSw); go_simp; (try with_reducible rfl))
              (try simp only [Act.put, List.setIfInBounds_toArray, List.set_cons_zero, List.set_cons_succ])
              refine takeH (i := 14) (d := some 46) (v := ?_) rfl rfl (by kernel_rfl) (by kernel_rfl) (by kernel_rfl) (fun _ _ _ h => h) (Or.inl ⟨by rfl, ?_⟩) (by assumption) ?_
              rotate_left
              · (intro w hSw; (try dsimp only at hSw); go_simp; (try with_reducible rfl))
              (try simp only [Act.put, List.setIfInBounds_toArray, List.set_cons_zero, List.set_cons_succ])
              refine takeH (i := 15) (d := some 47) (v := ?_) rfl rfl (by kernel_rfl) (by kernel_rfl) (by kernel_rfl) (fun _ _ _ h => h) (Or.inl ⟨by rfl, ?_⟩) (by assumption) ?_
              rotate_left
              · (intro w hSw; (try dsimp only at hSw); go_simp; (try with_reducible rfl))
              (try simp only [Act.put, List.setIfInBounds_toArray, List.set_cons_zero, List.set_cons_succ])
              refine takeH (i := 16) (d := some 48) (v := ?_) rfl rfl (by kernel_rfl) (by kernel_rfl) (by kernel_rfl) (fun _ _ _ h => h) (Or.inl ⟨by rfl, ?_⟩) (by assumption) ?_
              rotate_left
              · (intro w hSw; (try dsimp only at hSw); go_simp; (try with_reducible rfl))
              (try simp only [Act.put, List.setIfInBounds_toArray, List.set_cons_zero, List.set_cons_succ])
              refine takeH (i := 17) (d := some 49) (v := ?_) rfl rfl (by kernel_rfl) (by kernel_rfl) (by kernel_rfl) (fun _ _ _ h => h) (Or.inl ⟨by rfl, ?_⟩) (by assumption) ?_
              rotate_left
              · (intro w hSw; (try dsimp only at hSw); go_simp; (try with_reducible rfl))
              (try simp only [Act.put, List.setIfInBounds_toArray, List.set_cons_zero, List.set_cons_succ])
              refine takeH (i := 18) (d := some 50) (v := ?_) rfl rfl (by kernel_rfl) (by kernel_rfl) (by kernel_rfl) (fun _ _ _ h => h) (Or.inl ⟨by rfl, ?_⟩) (by assumption) ?_
              rotate_left
              · (intro w hSw; (try dsimp only at hSw); go_simp; (try with_reducible rfl))
              (try simp only [Act.put, List.setIfInBounds_toArray, List.set_cons_zero, List.set_cons_succ])
              refine takeH (i := 19) (d := some 51) (v := ?_) rfl rfl (by kernel_rfl) (by kernel_rfl) (by kernel_rfl) (fun _ _ _ h => h) (Or.inl ⟨by rfl, ?_⟩) (by assumption) ?_
              rotate_left
              · (intro w hSw; (try dsimp only at hSw); go_simp; (try with_reducible rfl))
              (try simp only [Act.put, List.setIfInBounds_toArray, List.set_cons_zero, List.set_cons_succ])
              refine takeH (i := 20) (d := some 52) (v := ?_) rfl rfl (by kernel_rfl) (by kernel_rfl) (by kernel_rfl) (fun _ _ _ h => h) (Or.inl ⟨by rfl, ?_⟩) (by assumption) ?_
              rotate_left
              · (intro w hSw; (try dsimp only at hSw); go_simp; (try with_reducible rfl))
              (try simp only [Act.put, List.setIfInBounds_toArray, List.set_cons_zero, List.set_cons_succ])
              refine takeH (i := 21) (d := some 53) (v := ?_) rfl rfl (by kernel_rfl) (by kernel_rfl) (by kernel_rfl) (fun _ _ _ h => h) (Or.inl ⟨by rfl, ?_⟩) (by assumption) ?_
              rotate_left
              · (intro w hSw; (try dsimp only at hSw); go_simp; (try with_reducible rfl))
              (try simp only [Act.put, List.setIfInBounds_toArray, List.set_cons_zero, List.set_cons_succ])
              refine wpAnyH_ready (rs := [22]) (by kernel_rfl) (by simp) ?_
              refine AllReadyH.cons (i := 22) rfl (fun K hK => ?_) ?_
              · go_simp
                refine hK.out _ _ (keep4s _ hneH.out hl2 hbl hHeld) (fun hHeld2 => ?_)
                clear hK K hHeld hHeld2
                (try simp only [Act.put, List.setIfInBounds_toArray, List.set_cons_zero, List.set_cons_succ])
                refine wpAnyH_done (by kernel_rfl) ?_ _
                go_wp2
                refine ⟨?rel, ?measure⟩
                case measure => (simp [intOf]; omega)
                case rel => first | exact RH.out | exact ⟨rfl, RH.out⟩ | ((try refine ⟨rfl, ?_⟩); (repeat apply Exists.intro); refine ⟨RH.out, ?_⟩; ((repeat' apply And.intro) <;> rfl))
              · exact AllReadyH.nil
            · exact AllReadyH.nil
        · rw [hwB] at g2
          have R := R true (fun _ => rfl) (fun _ => hwB.symm)
          clear hbadE
          have RH := Lib.hid R
          clear R
          have hwBH := Lib.hid hwB
          clear hwB
          go_wp2_with fail
          refine wp_region_held_drew (S := (fun w' => w'.cell? ⟨b5, 1, none⟩ = some (.slice (some ⟨b2, 0, none⟩) n n) ∧ w'.cell? ⟨wr.heap.size, 0, none⟩ = some (.int .i64 nn) ∧ w'.cell? ⟨wr.heap.size, 1, none⟩ = some (.string result) ∧ w'.cell? ⟨bl, offl + nn * 7 + 2, none⟩ = some (.string z.result))) (by kernel_rfl) ⟨d1, q0, q1, e2⟩ (fun hHeld => ?_)
          refine takeH (i := 0) (d := some 32) (v := ?_) rfl rfl (by kernel_rfl) (by kernel_rfl) (by kernel_rfl) (fun _ _ _ h => h) (Or.inl ⟨by rfl, ?_⟩) (by assumption) ?_
          rotate_left
          · (intro w hSw; (try dsimp only at hSw); go_simp; (try with_reducible rfl))
          (try simp only [Act.put, List.setIfInBounds_toArray, List.set_cons_zero, List.set_cons_succ])
          refine takeH (i := 1) (d := some 33) (v := ?_) rfl rfl (by kernel_rfl) (by kernel_rfl) (by kernel_rfl) (fun _ _ _ h => h) (Or.inl ⟨by rfl, ?_⟩) (by assumption) ?_
          rotate_left
          · (intro w hSw; (try dsimp only at hSw); go_simp; (try with_reducible rfl))
          (try simp only [Act.put, List.setIfInBounds_toArray, List.set_cons_zero, List.set_cons_succ])
          refine takeH (i := 2) (d := some 34) (v := ?_) rfl rfl (by kernel_rfl) (by kernel_rfl) (by kernel_rfl) (fun _ _ _ h => h) (Or.inl ⟨by rfl, ?_⟩) (by assumption) ?_
          rotate_left
          · (intro w hSw; (try dsimp only at hSw); go_simp; (try with_reducible rfl))
          (try simp only [Act.put, List.setIfInBounds_toArray, List.set_cons_zero, List.set_cons_succ])
          refine takeH (i := 3) (d := some 35) (v := ?_) rfl rfl (by kernel_rfl) (by kernel_rfl) (by kernel_rfl) (fun _ _ _ h => h) (Or.inl ⟨by rfl, ?_⟩) (by assumption) ?_
          rotate_left
          · (intro w hSw; (try dsimp only at hSw); go_simp; (try with_reducible rfl))
          (try simp only [Act.put, List.setIfInBounds_toArray, List.set_cons_zero, List.set_cons_succ])
          refine takeH (i := 4) (d := some 36) (v := ?_) rfl rfl (by kernel_rfl) (by kernel_rfl) (by kernel_rfl) (fun _ _ _ h => h) (Or.inl ⟨by rfl, ?_⟩) (by assumption) ?_
          rotate_left
          · (intro w hSw; (try dsimp only at hSw); go_simp; (try with_reducible rfl))
          (try simp only [Act.put, List.setIfInBounds_toArray, List.set_cons_zero, List.set_cons_succ])
          refine takeH (i := 5) (d := some 37) (v := ?_) rfl rfl (by kernel_rfl) (by kernel_rfl) (by kernel_rfl) (fun _ _ _ h => h) (Or.inl ⟨by rfl, ?_⟩) (by assumption) ?_
          rotate_left
          · (intro w hSw; (try dsimp only at hSw); go_simp; (try with_reducible rfl))
          (try simp only [Act.put, List.setIfInBounds_toArray, List.set_cons_zero, List.set_cons_succ])
          refine takeH (i := 6) (d := some 38) (v := ?_) rfl rfl (by kernel_rfl) (by kernel_rfl) (by kernel_rfl) (fun _ _ _ h => h) (Or.inl ⟨by rfl, ?_⟩) (by assumption) ?_
          rotate_left
          · (intro w hSw; (try dsimp only at hSw); go_simp; (try with_reducible rfl))
          (try simp only [Act.put, List.setIfInBounds_toArray, List.set_cons_zero, List.set_cons_succ])
          refine takeH (i := 7) (d := some 39) (v := ?_) rfl rfl (by kernel_rfl) (by kernel_rfl) (by kernel_rfl) (fun _ _ _ h => h) (Or.inl ⟨by rfl, ?_⟩) (by assumption) ?_
          rotate_left
          · (intro w hSw; (try dsimp only at hSw); go_simp; (try with_reducible rfl))
          (try simp only [Act.put, List.setIfInBounds_toArray, List.set_cons_zero, List.set_cons_succ])
          refine takeH (i := 8) (d := some 40) (v := ?_) rfl rfl (by kernel_rfl) (by kernel_rfl) (by kernel_rfl) (fun _ _ _ h => h) (Or.inl ⟨by rfl, ?_⟩) (by assumption) ?_
          rotate_left
          · (intro w hSw; (try dsimp only at hSw); go_simp; (try with_reducible rfl))
          (try simp only [Act.put, List.setIfInBounds_toArray, List.set_cons_zero, List.set_cons_succ])
          refine wpAnyH_ready (rs := [9]) (by kernel_rfl) (by simp) ?_
          refine AllReadyH.cons (i := 9) rfl (fun K hK => ?_) ?_
          · go_simp
            refine hK.out _ _ hHeld (fun hHeld => ?_)
            clear hK K
            (try simp only [Act.put, List.setIfInBounds_toArray, List.set_cons_zero, List.set_cons_succ])
            refine takeH (i := 10) (d := some 42) (v := ?_) rfl rfl (by kernel_rfl) (by kernel_rfl) (by kernel_rfl) (fun _ _ _ h => h) (Or.inl ⟨by rfl, ?_⟩) (by assumption) ?_
            rotate_left
            · (intro w hSw; (try dsimp only at hSw); go_simp; (try with_reducible rfl))
            (try simp only [Act.put, List.setIfInBounds_toArray, List.set_cons_zero, List.set_cons_succ])
            refine takeH (i := 11) (d := some 43) (v := undef) rfl rfl (by kernel_rfl) (by kernel_rfl) (by kernel_rfl) (fun _ _ _ h => h) (Or.inr ⟨by rfl, rfl⟩) (by assumption) ?_
            (try simp only [Act.put, List.setIfInBounds_toArray, List.set_cons_zero, List.set_cons_succ])
            refine takeH (i := 12) (d := some 44) (v := undef) rfl rfl (by kernel_rfl) (by kernel_rfl) (by kernel_rfl) (fun _ _ _ h => h) (Or.inr ⟨by rfl, rfl⟩) (by assumption) ?_
            (try simp only [Act.put, List.setIfInBounds_toArray, List.set_cons_zero, List.set_cons_succ])
            refine takeH (i := 13) (d := some 45) (v := undef) rfl rfl (by kernel_rfl) (by kernel_rfl) (by kernel_rfl) (fun _ _ _ h => h) (Or.inr ⟨by rfl, rfl⟩) (by assumption) ?_
            (try simp only [Act.put, List.setIfInBounds_toArray, List.set_cons_zero, List.set_cons_succ])
            refine takeH (i := 14) (d := some 46) (v := undef) rfl rfl (by kernel_rfl) (by kernel_rfl) (by kernel_rfl) (fun _ _ _ h => h) (Or.inr ⟨by rfl, rfl⟩) (by assumption) ?_
            (try simp only [Act.put, List.setIfInBounds_toArray, List.set_cons_zero, List.set_cons_succ])
            refine takeH (i := 15) (d := some 47) (v := undef) rfl rfl (by kernel_rfl) (by kernel_rfl) (by kernel_rfl) (fun _ _ _ h => h) (Or.inr ⟨by rfl, rfl⟩) (by assumption) ?_
            (try simp only [Act.put, List.setIfInBounds_toArray, List.set_cons_zero, List.set_cons_succ])
            refine takeH (i := 16) (d := some 48) (v := undef) rfl rfl (by kernel_rfl) (by kernel_rfl) (by kernel_rfl) (fun _ _ _ h => h) (Or.inr ⟨by rfl, rfl⟩) (by assumption) ?_
            (try simp only [Act.put, List.setIfInBounds_toArray, List.set_cons_zero, List.set_cons_succ])
            refine takeH (i := 17) (d := some 49) (v := undef) rfl rfl (by kernel_rfl) (by kernel_rfl) (by kernel_rfl) (fun _ _ _ h => h) (Or.inr ⟨by rfl, rfl⟩) (by assumption) ?_
            (try simp only [Act.put, List.setIfInBounds_toArray, List.set_cons_zero, List.set_cons_succ])
            refine takeH (i := 18) (d := some 50) (v := undef) rfl rfl (by kernel_rfl) (by kernel_rfl) (by kernel_rfl) (fun _ _ _ h => h) (Or.inr ⟨by rfl, rfl⟩) (by assumption) ?_
            (try simp only [Act.put, List.setIfInBounds_toArray, List.set_cons_zero, List.set_cons_succ])
            refine takeH (i := 19) (d := some 51) (v := undef) rfl rfl (by kernel_rfl) (by kernel_rfl) (by kernel_rfl) (fun _ _ _ h => h) (Or.inr ⟨by rfl, rfl⟩) (by assumption) ?_
            (try simp only [Act.put, List.setIfInBounds_toArray, List.set_cons_zero, List.set_cons_succ])
            refine takeH (i := 20) (d := some 52) (v := ?_) rfl rfl (by kernel_rfl) (by kernel_rfl) (by kernel_rfl) (fun _ _ _ h => h) (Or.inl ⟨by rfl, ?_⟩) (by assumption) ?_
            rotate_left
            · (intro w hSw; (try dsimp only at hSw); go_simp; (try with_reducible rfl))
            (try simp only [Act.put, List.setIfInBounds_toArray, List.set_cons_zero, List.set_cons_succ])
            refine takeH (i := 21) (d := some 53) (v := ?_) rfl rfl (by kernel_rfl) (by kernel_rfl) (by kernel_rfl) (fun _ _ _ h => h) (Or.inl ⟨by rfl, ?_⟩) (by assumption) ?_
            rotate_left
            · (intro w hSw; (try dsimp only at hSw); go_simp; (try with_reducible rfl))
            (try simp only [Act.put, List.setIfInBounds_toArray, List.set_cons_zero, List.set_cons_succ])
            refine wpAnyH_ready (rs := [22]) (by kernel_rfl) (by simp) ?_
            refine AllReadyH.cons (i := 22) rfl (fun K hK => ?_) ?_
            · go_simp
              refine hK.out _ _ (keep4s _ hneH.out hl2 hbl hHeld) (fun hHeld2 => ?_)
              clear hK K hHeld hHeld2
              (try simp only [Act.put, List.setIfInBounds_toArray, List.set_cons_zero, List.set_cons_succ])
              refine wpAnyH_done (by kernel_rfl) ?_ _
              go_wp2
              refine ⟨?rel, ?measure⟩
              case measure => (simp [intOf]; omega)
              case rel => first | exact RH.out | exact ⟨rfl, RH.out⟩ | ((try refine ⟨rfl, ?_⟩); (repeat apply Exists.intro); refine ⟨RH.out, ?_⟩; ((repeat' apply And.intro) <;> rfl))
            · exact AllReadyH.nil
          · exact AllReadyH.nil
      · have e : m.take k = m := List.take_of_length_le (by have := hmlH.out; omega)
        rw [e] at hst
        obtain ⟨w1, hw1⟩ : ∃ W, W = wr := ⟨_, rfl⟩
        rw [← hw1] at hst ⊢
        have k1 := hst.l1
        have k2 := hst.l2
        have k3 := hst.l3
        have k5 := hst.l5
        have ksz := hst.sz
        clear hw1 hstH
        have hstH := Lib.hid hst
        clear hst
        have eH := Lib.hid e
        clear e
        go_wp2_with fail
        go_loopw [8, 57] (fun _ i wr => SRel2 l m n b1 b2 b3 b5 w1.heap.size w i wr) (fun _ i _ => n - (intOf i).toNat)
        case atStart => exact ⟨0, 0, 0, none, Nat.zero_le _, rfl, hstH.out, Own.nil _ _, Nat.le_refl _, Nat.le_refl _⟩
        case round =>
          obtain ⟨k, n', cap, A', hk, rfl, hst, hown, hK, hn'⟩ := hrel
          by_cases hlt : k < n
          · obtain ⟨b, off, hA, _⟩ := hlH.out.2.1 (by omega)
            subst hA
            obtain ⟨x, hx⟩ : ∃ x, l[k]? = some x := ⟨l[k]'(by have := hllH.out; omega), List.getElem?_eq_getElem _⟩
            have hb0 := hst.bel0
            obtain ⟨e0, e1, e2, e3, e4, e5, e6⟩ := cells_Claimed (hlH.out.below hb0) hx
            have hwz : RStr.ok wr x.writer := (hlH.out.2.2 x (List.mem_of_getElem? hx)).2.2.2.1
            have hstA := hst.below ((Below.refl wr.heap.size wr).alloc (Nat.le_refl _) (.cells #[.string x.key, .string x.label, .string x.result, .string x.writer, .int .i64 x.at_, .slice x.uses.A x.uses.n x.uses.cap, .string x.sign] 51))
            obtain ⟨g2, _⟩ := hstA.rw_ k hlt
            have d1 := hstA.d1
            have d3 := hstA.d3
            have f3 := hstA.f3
            have hl5 := hst.l5
            have hl2 := hst.l2
            have hat : namesOf l (numsN (wrB l m) (k + 1)) = namesOf l (numsN (wrB l m) k) ++ (if wrB l m k = true then [x.writer] else []) := by
              unfold namesOf
              show (numsN (wrB l m) k ++ (if wrB l m k = true then [(k : Int)] else [])).map (wriOf l) = _
              rw [List.map_append]
              congr 1
              split
              · rw [List.map_cons, List.map_nil, wriOf_get hx]
              · rfl
            cases hwB : wrB l m k
            · rw [hwB] at g2 hat
              rw [if_neg (by decide), List.append_nil] at hat
              have R : SRel2 l m n b1 b2 b3 b5 w1.heap.size w (.int .i64 (k + 1)) (wr.alloc (.cells #[.string x.key, .string x.label, .string x.result, .string x.writer, .int .i64 x.at_, .slice x.uses.A x.uses.n x.uses.cap, .string x.sign] 51)) := by
                refine ⟨k + 1, n', cap, A', hlt, by go_num, hstA, ?_, by simp; omega, by omega⟩
                rw [hat]
                exact hown.alloc _
              clear hat
              have hxH := Lib.hid hx
              clear hx
              have hstH := Lib.hid hst
              clear hst
              have hstAH := Lib.hid hstA
              clear hstA
              have hownH := Lib.hid hown
              clear hown
              have hwzH := Lib.hid hwz
              clear hwz
              have hb0H := Lib.hid hb0
              clear hb0
              have RH := Lib.hid R
              clear R
              have hwBH := Lib.hid hwB
              clear hwB
              go_wp2
              refine ⟨?rel, ?measure⟩
              case measure => (simp [intOf]; omega)
              case rel => first | exact RH.out | exact ⟨rfl, RH.out⟩ | ((try refine ⟨rfl, ?_⟩); (repeat apply Exists.intro); refine ⟨RH.out, ?_⟩; ((repeat' apply And.intro) <;> rfl))
            · rw [hwB] at g2 hat
              rw [if_pos rfl] at hat
              have hxH := Lib.hid hx
              clear hx
              have hstH := Lib.hid hst
              clear hst
              have hstAH := Lib.hid hstA
              clear hstA
              have hownH := Lib.hid hown
              clear hown
              have hwzH := Lib.hid hwz
              clear hwz
              have hb0H := Lib.hid hb0
              clear hb0
              have hwBH := Lib.hid hwB
              clear hwB
              have hatH := Lib.hid hat
              clear hat
              go_wp2_with (at_builtin; go_loud (refine wpList_app rfl (.tmp 68) (.tmp 71) 49 rfl Tryz.underlying49 elem_Str (by decide) rfl ((hownH.out.alloc _).alloc _) (some ⟨wr.heap.size + 1, 0, none⟩) 1 1 [x.writer] rfl (slAt_new2 _ _ _ hwzH.out) ?nn ?ok ?c1 ?c2 ?c3 (n' + 1) ?c4 ?_))
              case nn => intro h; cases h
              case ok => exact fun _ _ _ _ h => h
              case c1 => have := hownH.out.len; simp [maxLen] <;> omega
              case c2 => have := hownH.out.len; omega
              case c3 => simp <;> omega
              case c4 => have := hownH.out.len; omega
              intro A7 c7 w7 hown7 hg7 hat7 hb7
              have hst7 := (hstAH.out.below ((Below.refl _ _).alloc (Nat.le_refl _) (.cells #[.string x.writer] 9))).keep hb7 k1 k2 k3 k5 ksz
              have d37 := hst7.d3
              have f37 := hst7.f3
              have hs7 := hb7.size
              simp only [World.size_alloc] at hs7
              have R : SRel2 l m n b1 b2 b3 b5 w1.heap.size w (.int .i64 (k + 1)) (w7.setCell ⟨b5, 3, none⟩ (.slice A7 (n' + 1) c7)) := by
                refine ⟨k + 1, n' + 1, c7, A7, hlt, by go_num, hst7.putV hneH.out _, ?_, by simp; omega, by omega⟩
                rw [hatH.out]
                exact hown7.cell _ _ k5 (fun _ _ h => h)
              clear hg7 hat7 hb7 hown7
              have RH := Lib.hid R
              clear R
              have hst7H := Lib.hid hst7
              clear hst7
              go_wp2
              refine ⟨?rel, ?measure⟩
              case measure => (simp [intOf]; omega)
              case rel => first | exact RH.out | exact ⟨rfl, RH.out⟩ | ((try refine ⟨rfl, ?_⟩); (repeat apply Exists.intro); refine ⟨RH.out, ?_⟩; ((repeat' apply And.intro) <;> rfl))
          · obtain rfl : k = n := by omega
            have d3 := hst.d3
            have f3 := hst.f3
            have hkl : numsN (wrB l m) k = numsN (wrB l m) l.length := by rw [hllH.out]
            rw [hkl] at hown
            have hb0 := hst.bel0
            clear hkl
            have hstH := Lib.hid hst
            clear hst
            have hownH := Lib.hid hown
            clear hown
            have hb0H := Lib.hid hb0
            clear hb0
            go_wp2_with fail
            refine (sort_own A' n' cap _ _ _ hownH.out (by omega)).mono ?_
            rintro e w2 ⟨rfl, hown2, hg2⟩
            have hbs := (Below.refl w1.heap.size wr).grown hg2 hK (fun j hj => (hownH.out.1.lt j hj).1)
            have hst2 := hstH.out.keep hbs k1 k2 k3 k5 ksz
            have d32 := hst2.d3
            have f32 := hst2.f3
            have hK2 : w1.heap.size ≤ w2.heap.size := Nat.le_trans hK hbs.size
            clear hg2 hbs d3 f3 hownH
            have hst2H := Lib.hid hst2
            clear hst2
            have hown2H := Lib.hid hown2
            clear hown2
            go_wp2_with fail
            refine (comp_own A' n' cap _ _ _ hown2H.out (by omega) hK2).mono ?_
            rintro e w3 ⟨n3, hn3, rfl, hown3, hb3⟩
            have hst3 := hst2H.out.keep hb3 k1 k2 k3 k5 ksz
            have d33 := hst3.d3
            have f33 := hst3.f3
            have hst4 := hst3.putV hneH.out (.slice A' n3 cap)
            have hsl4 := (hown3.cell ⟨b5, 3, none⟩ (.slice A' n3 cap) k5 (fun _ _ h => h)).slAt
            have hsl4 : SlAt RStr (w3.setCell ⟨b5, 3, none⟩ (.slice A' n3 cap)) A' n3 (suspL l m) := hsl4
            have hn3k : n3 ≤ k := by omega
            clear hb3 hown3 hown2H d32 f32 hK2
            have hst3H := Lib.hid hst3
            clear hst3
            have hst4H := Lib.hid hst4
            clear hst4
            have hsl4H := Lib.hid hsl4
            clear hsl4
            go_wp2_with fail
            go_loopw [10, 84] (fun _ i wr => SRel3 l m k b1 b2 b3 b5 A' n3 cap (suspL l m) w i wr) (fun _ i _ => k - (intOf i).toNat)
            case atStart => exact ⟨0, Nat.zero_le _, rfl, hst4H.out, hsl4H.out⟩
            case round =>
              clear d33 f33 hst3H hst4H hsl4H hst2H hstH hb0H
              obtain ⟨kk, hk3, rfl, hst, hsl⟩ := hrel
              by_cases hlt : kk < k
              · have hb0 := hst.bel0
                have l1 := hst.l1
                have l2 := hst.l2
                have l3 := hst.l3
                have l5 := hst.l5
                have hkI : (kk : Int) < (k : Int) := by omega
                have hk0 : (0 : Int) ≤ (kk : Int) := by omega
                have FX : ∀ W : World, Below wr.heap.size wr W → W.cell? ⟨b5, 0, none⟩ = some (.slice (some ⟨b1, 0, none⟩) k k) ∧ W.cell? ⟨b5, 1, none⟩ = some (.slice (some ⟨b2, 0, none⟩) k k) ∧ W.cell? ⟨b5, 2, none⟩ = some (.slice (some ⟨b3, 0, none⟩) k k) ∧ W.cell? ⟨b5, 3, none⟩ = some (.slice A' n3 cap) ∧ W.cell? ⟨b2, kk, none⟩ = some (.bool (wrB l m kk)) ∧ W.cell? ⟨b3, kk, none⟩ = some (.bool (pre l m kk kk)) ∧ W.frozen? ⟨b3, kk, none⟩ = false := by
                  intro W hW
                  have h := hst.below hW
                  exact ⟨h.d0, h.d1, h.d2, h.d3, (h.rw_ kk hlt).1, (h.rt kk hlt).1, (h.rt kk hlt).2⟩
                have RR : ∀ (W : World) (v : Bool), Below wr.heap.size wr W → tStep l m (pre l m kk) kk = v → SRel3 l m k b1 b2 b3 b5 A' n3 cap (suspL l m) w (.int .i64 (kk + 1)) (W.setCell ⟨b3, kk, none⟩ (.bool v)) ∧ SRel3 l m k b1 b2 b3 b5 A' n3 cap (suspL l m) w (.int .i64 (kk + 1)) (W.setCell ⟨b3, kk, none⟩ (.bool v)).drew := by
                  intro W v hW hv
                  have h := hst.below hW
                  have hrow : BRow (W.setCell ⟨b3, kk, none⟩ (.bool v)) b3 k (pre l m (kk + 1)) := by
                    rw [pre_upd, hv]
                    exact h.rt.set v
                  have h2 := h.putT hneH.out hrow (grown_setc W ⟨b3, kk, none⟩ (.bool v))
                  have hs2 := slAt_setStr (hsl.below hW) ⟨b3, kk, none⟩ (.bool v) (by have := h.rt kk hlt; exact this.1) (fun s h => by cases h)
                  exact ⟨⟨kk + 1, hlt, by go_num, h2, hs2⟩, ⟨kk + 1, hlt, by go_num, h2.below (Below.refl _ _).drew, hs2.below (Below.refl _ _).drew⟩⟩
                have hc1 : ∀ (W : World) (dv : Bool), Below wr.heap.size wr W → dbtB l m kk = dv → Calls Tryz.prog 55 #[.agg #[.slice (some ⟨b1, 0, none⟩) k k, .slice (some ⟨b2, 0, none⟩) k k, .slice (some ⟨b3, 0, none⟩) k k, .slice A' n3 cap], .slice A k c, .int .i64 kk] W fun e w' => e = .returned (.bool dv) ∧ Below W.heap.size W w' := by
                  intro W dv hW hdv
                  have h := hst.below hW
                  exact doubtful_any A k c l m b1 b2 b3 A' n3 cap kk W hn hlt (hlH.out.below (hb0.trans (hW.mono hb0.size))) h.ra h.rw_ h.l1 h.l2 hrlH.out dv hdv
                have hc2 : ∀ (W : World) (uv : Bool), Below wr.heap.size wr W → useB l (pre l m kk) kk = uv → Calls Tryz.prog 56 #[.agg #[.slice (some ⟨b1, 0, none⟩) k k, .slice (some ⟨b2, 0, none⟩) k k, .slice (some ⟨b3, 0, none⟩) k k, .slice A' n3 cap], .slice A k c, .int .i64 kk] W fun e w' => e = .returned (.bool uv) ∧ Below W.heap.size W w' := by
                  intro W uv hW huv
                  have h := hst.below hW
                  exact uses_any A k c l b1 b2 b3 A' n3 cap kk (pre l m kk) W hn hlt (hlH.out.below (hb0.trans (hW.mono hb0.size))) h.rt h.l3 uv huv
                obtain ⟨f0, f1, f2, f3, f4, f5, f6⟩ := FX _ (Below.refl _ _)
                obtain ⟨dv, hdv⟩ : ∃ v, dbtB l m kk = v := ⟨_, rfl⟩
                obtain ⟨uv, huv⟩ : ∃ v, useB l (pre l m kk) kk = v := ⟨_, rfl⟩
                have hts := tStep_split l m (pre l m kk) kk
                rw [hdv, huv] at hts
                cases hwB : wrB l m kk
                · rw [hwB] at hts f4 FX
                  rw [Bool.false_or] at hts
                  obtain ⟨pv, hpv⟩ : ∃ v, pre l m kk kk = v := ⟨_, rfl⟩
                  rw [hpv] at f5 FX
                  have hc1 := fun W hW => hc1 W dv hW hdv
                  have hc2 := fun W hW => hc2 W uv hW huv
                  have RR := fun W v hW hv => RR W v hW (hts.trans hv)
                  cases dv
                  · rw [Bool.false_or] at RR
                    have RR := fun W hW => RR W uv hW rfl
                    have hstH := Lib.hid hst
                    clear hst
                    have hslH := Lib.hid hsl
                    clear hsl
                    have hb0H := Lib.hid hb0
                    clear hb0
                    have FXH := Lib.hid FX
                    clear FX
                    have RRH := Lib.hid RR
                    clear RR
                    have hc1H := Lib.hid hc1
                    clear hc1
                    have hc2H := Lib.hid hc2
                    clear hc2
                    have hwBH := Lib.hid hwB
                    clear hwB
                    have hdvH := Lib.hid hdv
                    clear hdv
                    have huvH := Lib.hid huv
                    clear huv
                    have htsH := Lib.hid hts
                    clear hts
                    have hpvH := Lib.hid hpv
                    clear hpv
                    go_wp2_with fail
                    go_region_held3 (fun w' => w'.cell? ⟨b5, 0, none⟩ = some (.slice (some ⟨b1, 0, none⟩) k k) ∧ w'.cell? ⟨b5, 1, none⟩ = some (.slice (some ⟨b2, 0, none⟩) k k) ∧ w'.cell? ⟨b5, 2, none⟩ = some (.slice (some ⟨b3, 0, none⟩) k k) ∧ w'.cell? ⟨b5, 3, none⟩ = some (.slice A' n3 cap) ∧ w'.cell? ⟨b2, kk, none⟩ = some (.bool false))
                           (first | go_keep | exact keep5 hb4 (by assumption) | exact keep5 hb5 (by assumption) | exact keep5s _ hneH.out (by assumption))
                           (first
                            | (go_at_call 55; refine (hc1H.out _ (by first | exact Below.refl _ _ | exact (Below.refl _ _).drew)).mono ?_; rintro e w4 ⟨rfl, hb4⟩
                               have hbz4 : Below wr.heap.size wr w4 := by first | exact hb4 | exact (Below.refl _ _).drew.trans hb4
                               obtain ⟨i0, i1, i2, i3, i4, i5, i6⟩ := FXH.out _ hbz4
                               have hbz4H := Lib.hid hbz4
                               clear hbz4)
                            | (go_at_call 56; refine (hc2H.out _ (by first | exact hbz4H.out | exact hbz4H.out.drew)).mono ?_; rintro e w5 ⟨rfl, hb5⟩
                               have hbz5 : Below wr.heap.size wr w5 := by first | exact hbz4H.out.trans (hb5.mono hbz4H.out.size) | exact hbz4H.out.drew.trans (hb5.mono hbz4H.out.size)
                               obtain ⟨j0, j1, j2, j3, j4, j5, j6⟩ := FXH.out _ hbz5
                               have hbz5H := Lib.hid hbz5
                               clear hbz5))
                    all_goals
                      go_wp2
                      refine ⟨?rel, ?measure⟩
                      case measure => (simp [intOf]; omega)
                      case rel => first | exact (RRH.out _ hbz5H.out).1 | exact (RRH.out _ hbz5H.out).2 | exact ⟨rfl, (RRH.out _ hbz5H.out).1⟩ | ((try refine ⟨rfl, ?_⟩); (repeat apply Exists.intro); first | (refine ⟨(RRH.out _ hbz5H.out).1, ?_⟩; ((repeat' apply And.intro) <;> rfl)) | (refine ⟨(RRH.out _ hbz5H.out).2, ?_⟩; ((repeat' apply And.intro) <;> rfl)))
                  · rw [Bool.true_or] at RR
                    have RR := fun W hW => RR W true hW rfl
                    clear hc2
                    have hstH := Lib.hid hst
                    clear hst
                    have hslH := Lib.hid hsl
                    clear hsl
                    have hb0H := Lib.hid hb0
                    clear hb0
                    have FXH := Lib.hid FX
                    clear FX
                    have RRH := Lib.hid RR
                    clear RR
                    have hc1H := Lib.hid hc1
                    clear hc1
                    have hwBH := Lib.hid hwB
                    clear hwB
                    have hdvH := Lib.hid hdv
                    clear hdv
                    have huvH := Lib.hid huv
                    clear huv
                    have htsH := Lib.hid hts
                    clear hts
                    have hpvH := Lib.hid hpv
                    clear hpv
                    go_wp2_with fail
                    refine wp_region_held_drew (S := (fun w' => w'.cell? ⟨b5, 0, none⟩ = some (.slice (some ⟨b1, 0, none⟩) k k) ∧ w'.cell? ⟨b5, 1, none⟩ = some (.slice (some ⟨b2, 0, none⟩) k k) ∧ w'.cell? ⟨b5, 2, none⟩ = some (.slice (some ⟨b3, 0, none⟩) k k) ∧ w'.cell? ⟨b5, 3, none⟩ = some (.slice A' n3 cap) ∧ w'.cell? ⟨b2, kk, none⟩ = some (.bool false))) (by kernel_rfl) ⟨f0, f1, f2, f3, f4⟩ (fun hHeld => ?_)
                    refine takeH (i := 0) (d := some 87) (v := ?_) rfl rfl (by kernel_rfl) (by kernel_rfl) (by kernel_rfl) (fun _ _ _ h => h) (Or.inl ⟨by rfl, ?_⟩) (by assumption) ?_
                    rotate_left
                    · (intro w hSw; (try dsimp only at hSw); go_simp; (try with_reducible rfl))
                    (try simp only [Act.put, List.setIfInBounds_toArray, List.set_cons_zero, List.set_cons_succ])
                    refine takeH (i := 1) (d := some 88) (v := ?_) rfl rfl (by kernel_rfl) (by kernel_rfl) (by kernel_rfl) (fun _ _ _ h => h) (Or.inl ⟨by rfl, ?_⟩) (by assumption) ?_
                    rotate_left
                    · (intro w hSw; (try dsimp only at hSw); go_simp; (try with_reducible rfl))
                    (try simp only [Act.put, List.setIfInBounds_toArray, List.set_cons_zero, List.set_cons_succ])
                    refine takeH (i := 2) (d := some 89) (v := ?_) rfl rfl (by kernel_rfl) (by kernel_rfl) (by kernel_rfl) (fun _ _ _ h => h) (Or.inl ⟨by rfl, ?_⟩) (by assumption) ?_
                    rotate_left
                    · (intro w hSw; (try dsimp only at hSw); go_simp; (try with_reducible rfl))
                    (try simp only [Act.put, List.setIfInBounds_toArray, List.set_cons_zero, List.set_cons_succ])
                    refine takeH (i := 3) (d := some 90) (v := ?_) rfl rfl (by kernel_rfl) (by kernel_rfl) (by kernel_rfl) (fun _ _ _ h => h) (Or.inl ⟨by rfl, ?_⟩) (by assumption) ?_
                    rotate_left
                    · (intro w hSw; (try dsimp only at hSw); go_simp; (try with_reducible rfl))
                    (try simp only [Act.put, List.setIfInBounds_toArray, List.set_cons_zero, List.set_cons_succ])
                    refine takeH (i := 4) (d := some 91) (v := ?_) rfl rfl (by kernel_rfl) (by kernel_rfl) (by kernel_rfl) (fun _ _ _ h => h) (Or.inl ⟨by rfl, ?_⟩) (by assumption) ?_
                    rotate_left
                    · (intro w hSw; (try dsimp only at hSw); go_simp; (try with_reducible rfl))
                    (try simp only [Act.put, List.setIfInBounds_toArray, List.set_cons_zero, List.set_cons_succ])
                    refine takeH (i := 5) (d := some 92) (v := ?_) rfl rfl (by kernel_rfl) (by kernel_rfl) (by kernel_rfl) (fun _ _ _ h => h) (Or.inl ⟨by rfl, ?_⟩) (by assumption) ?_
                    rotate_left
                    · (intro w hSw; (try dsimp only at hSw); go_simp; (try with_reducible rfl))
                    (try simp only [Act.put, List.setIfInBounds_toArray, List.set_cons_zero, List.set_cons_succ])
                    refine takeH (i := 6) (d := some 93) (v := ?_) rfl rfl (by kernel_rfl) (by kernel_rfl) (by kernel_rfl) (fun _ _ _ h => h) (Or.inl ⟨by rfl, ?_⟩) (by assumption) ?_
                    rotate_left
                    · (intro w hSw; (try dsimp only at hSw); go_simp; (try with_reducible rfl))
                    (try simp only [Act.put, List.setIfInBounds_toArray, List.set_cons_zero, List.set_cons_succ])
                    refine takeH (i := 7) (d := some 94) (v := ?_) rfl rfl (by kernel_rfl) (by kernel_rfl) (by kernel_rfl) (fun _ _ _ h => h) (Or.inl ⟨by rfl, ?_⟩) (by assumption) ?_
                    rotate_left
                    · (intro w hSw; (try dsimp only at hSw); go_simp; (try with_reducible rfl))
                    (try simp only [Act.put, List.setIfInBounds_toArray, List.set_cons_zero, List.set_cons_succ])
                    refine takeH (i := 8) (d := some 95) (v := ?_) rfl rfl (by kernel_rfl) (by kernel_rfl) (by kernel_rfl) (fun _ _ _ h => h) (Or.inl ⟨by rfl, ?_⟩) (by assumption) ?_
                    rotate_left
                    · (intro w hSw; (try dsimp only at hSw); go_simp; (try with_reducible rfl))
                    (try simp only [Act.put, List.setIfInBounds_toArray, List.set_cons_zero, List.set_cons_succ])
                    refine takeH (i := 9) (d := some 96) (v := ?_) rfl rfl (by kernel_rfl) (by kernel_rfl) (by kernel_rfl) (fun _ _ _ h => h) (Or.inl ⟨by rfl, ?_⟩) (by assumption) ?_
                    rotate_left
                    · (intro w hSw; (try dsimp only at hSw); go_simp; (try with_reducible rfl))
                    (try simp only [Act.put, List.setIfInBounds_toArray, List.set_cons_zero, List.set_cons_succ])
                    refine takeH (i := 10) (d := some 97) (v := ?_) rfl rfl (by kernel_rfl) (by kernel_rfl) (by kernel_rfl) (fun _ _ _ h => h) (Or.inl ⟨by rfl, ?_⟩) (by assumption) ?_
                    rotate_left
                    · (intro w hSw; (try dsimp only at hSw); go_simp; (try with_reducible rfl))
                    (try simp only [Act.put, List.setIfInBounds_toArray, List.set_cons_zero, List.set_cons_succ])
                    refine takeH (i := 11) (d := some 98) (v := ?_) rfl rfl (by kernel_rfl) (by kernel_rfl) (by kernel_rfl) (fun _ _ _ h => h) (Or.inl ⟨by rfl, ?_⟩) (by assumption) ?_
                    rotate_left
                    · (intro w hSw; (try dsimp only at hSw); go_simp; (try with_reducible rfl))
                    (try simp only [Act.put, List.setIfInBounds_toArray, List.set_cons_zero, List.set_cons_succ])
                    refine wpAnyH_ready (rs := [12]) (by kernel_rfl) (by simp) ?_
                    refine AllReadyH.cons (i := 12) rfl (fun K hK => ?_) ?_
                    · go_simp
                      go_at_call 55
                      refine (hc1H.out _ (by first | exact Below.refl _ _ | exact (Below.refl _ _).drew)).mono ?_
                      rintro e w4 ⟨rfl, hb4⟩
                      have hbz4 : Below wr.heap.size wr w4 := by first | exact hb4 | exact (Below.refl _ _).drew.trans hb4
                      obtain ⟨i0, i1, i2, i3, i4, i5, i6⟩ := FXH.out _ hbz4
                      have hh4 := keep5 hb4 hHeld
                      have hbz4H := Lib.hid hbz4
                      clear hbz4 hb4 hHeld
                      refine hK.out _ _ hh4 (fun hHeld => ?_)
                      clear hK K hh4
                      (try simp only [Act.put, List.setIfInBounds_toArray, List.set_cons_zero, List.set_cons_succ])
                      refine takeH (i := 13) (d := some 100) (v := ?_) rfl rfl (by kernel_rfl) (by kernel_rfl) (by kernel_rfl) (fun _ _ _ h => h) (Or.inl ⟨by rfl, ?_⟩) (by assumption) ?_
                      rotate_left
                      · (intro w hSw; (try dsimp only at hSw); go_simp; (try with_reducible rfl))
                      (try simp only [Act.put, List.setIfInBounds_toArray, List.set_cons_zero, List.set_cons_succ])
                      refine takeH (i := 14) (d := some 101) (v := ?_) rfl rfl (by kernel_rfl) (by kernel_rfl) (by kernel_rfl) (fun _ _ _ h => h) (Or.inl ⟨by rfl, ?_⟩) (by assumption) ?_
                      rotate_left
                      · (intro w hSw; (try dsimp only at hSw); go_simp; (try with_reducible rfl))
                      (try simp only [Act.put, List.setIfInBounds_toArray, List.set_cons_zero, List.set_cons_succ])
                      refine takeH (i := 15) (d := some 102) (v := undef) rfl rfl (by kernel_rfl) (by kernel_rfl) (by kernel_rfl) (fun _ _ _ h => h) (Or.inr ⟨by rfl, rfl⟩) (by assumption) ?_
                      (try simp only [Act.put, List.setIfInBounds_toArray, List.set_cons_zero, List.set_cons_succ])
                      refine takeH (i := 16) (d := some 103) (v := undef) rfl rfl (by kernel_rfl) (by kernel_rfl) (by kernel_rfl) (fun _ _ _ h => h) (Or.inr ⟨by rfl, rfl⟩) (by assumption) ?_
                      (try simp only [Act.put, List.setIfInBounds_toArray, List.set_cons_zero, List.set_cons_succ])
                      refine takeH (i := 17) (d := some 104) (v := undef) rfl rfl (by kernel_rfl) (by kernel_rfl) (by kernel_rfl) (fun _ _ _ h => h) (Or.inr ⟨by rfl, rfl⟩) (by assumption) ?_
                      (try simp only [Act.put, List.setIfInBounds_toArray, List.set_cons_zero, List.set_cons_succ])
                      refine takeH (i := 18) (d := some 105) (v := undef) rfl rfl (by kernel_rfl) (by kernel_rfl) (by kernel_rfl) (fun _ _ _ h => h) (Or.inr ⟨by rfl, rfl⟩) (by assumption) ?_
                      (try simp only [Act.put, List.setIfInBounds_toArray, List.set_cons_zero, List.set_cons_succ])
                      refine takeH (i := 19) (d := some 106) (v := ?_) rfl rfl (by kernel_rfl) (by kernel_rfl) (by kernel_rfl) (fun _ _ _ h => h) (Or.inl ⟨by rfl, ?_⟩) (by assumption) ?_
                      rotate_left
                      · (intro w hSw; (try dsimp only at hSw); go_simp; (try with_reducible rfl))
                      (try simp only [Act.put, List.setIfInBounds_toArray, List.set_cons_zero, List.set_cons_succ])
                      refine takeH (i := 20) (d := some 107) (v := ?_) rfl rfl (by kernel_rfl) (by kernel_rfl) (by kernel_rfl) (fun _ _ _ h => h) (Or.inl ⟨by rfl, ?_⟩) (by assumption) ?_
                      rotate_left
                      · (intro w hSw; (try dsimp only at hSw); go_simp; (try with_reducible rfl))
                      (try simp only [Act.put, List.setIfInBounds_toArray, List.set_cons_zero, List.set_cons_succ])
                      refine wpAnyH_ready (rs := [21]) (by kernel_rfl) (by simp) ?_
                      refine AllReadyH.cons (i := 21) rfl (fun K hK => ?_) ?_
                      · go_simp
                        refine hK.out _ _ (keep5s _ hneH.out hHeld) (fun hHeld2 => ?_)
                        clear hK K hHeld hHeld2
                        (try simp only [Act.put, List.setIfInBounds_toArray, List.set_cons_zero, List.set_cons_succ])
                        refine wpAnyH_done (by kernel_rfl) ?_ _
                        go_wp2
                        refine ⟨?rel, ?measure⟩
                        case measure => (simp [intOf]; omega)
                        case rel => first | exact (RRH.out _ hbz4H.out).1 | exact ⟨rfl, (RRH.out _ hbz4H.out).1⟩ | ((try refine ⟨rfl, ?_⟩); (repeat apply Exists.intro); (refine ⟨(RRH.out _ hbz4H.out).1, ?_⟩; ((repeat' apply And.intro) <;> rfl)))
                      · exact AllReadyH.nil
                    · exact AllReadyH.nil
                · rw [hwB] at hts f4
                  rw [Bool.true_or, Bool.true_or] at hts
                  have R := (RR wr.drew true (Below.refl _ _).drew hts)
                  clear hc1 hc2 FX RR
                  have hstH := Lib.hid hst
                  clear hst
                  have hslH := Lib.hid hsl
                  clear hsl
                  have hb0H := Lib.hid hb0
                  clear hb0
                  have RH := Lib.hid R
                  clear R
                  have hwBH := Lib.hid hwB
                  clear hwB
                  have hdvH := Lib.hid hdv
                  clear hdv
                  have huvH := Lib.hid huv
                  clear huv
                  have htsH := Lib.hid hts
                  clear hts
                  go_wp2_with fail
                  refine wp_region_held_drew (S := (fun w' => w'.cell? ⟨b5, 0, none⟩ = some (.slice (some ⟨b1, 0, none⟩) k k) ∧ w'.cell? ⟨b5, 1, none⟩ = some (.slice (some ⟨b2, 0, none⟩) k k) ∧ w'.cell? ⟨b5, 2, none⟩ = some (.slice (some ⟨b3, 0, none⟩) k k) ∧ w'.cell? ⟨b5, 3, none⟩ = some (.slice A' n3 cap) ∧ w'.cell? ⟨b2, kk, none⟩ = some (.bool true))) (by kernel_rfl) ⟨f0, f1, f2, f3, f4⟩ (fun hHeld => ?_)
                  refine takeH (i := 0) (d := some 87) (v := ?_) rfl rfl (by kernel_rfl) (by kernel_rfl) (by kernel_rfl) (fun _ _ _ h => h) (Or.inl ⟨by rfl, ?_⟩) (by assumption) ?_
                  rotate_left
                  · (intro w hSw; (try dsimp only at hSw); go_simp; (try with_reducible rfl))
                  (try simp only [Act.put, List.setIfInBounds_toArray, List.set_cons_zero, List.set_cons_succ])
                  refine takeH (i := 1) (d := some 88) (v := ?_) rfl rfl (by kernel_rfl) (by kernel_rfl) (by kernel_rfl) (fun _ _ _ h => h) (Or.inl ⟨by rfl, ?_⟩) (by assumption) ?_
                  rotate_left
                  · (intro w hSw; (try dsimp only at hSw); go_simp; (try with_reducible rfl))
                  (try simp only [Act.put, List.setIfInBounds_toArray, List.set_cons_zero, List.set_cons_succ])
                  refine takeH (i := 2) (d := some 89) (v := ?_) rfl rfl (by kernel_rfl) (by kernel_rfl) (by kernel_rfl) (fun _ _ _ h => h) (Or.inl ⟨by rfl, ?_⟩) (by assumption) ?_
                  rotate_left
                  · (intro w hSw; (try dsimp only at hSw); go_simp; (try with_reducible rfl))
                  (try simp only [Act.put, List.setIfInBounds_toArray, List.set_cons_zero, List.set_cons_succ])
                  refine takeH (i := 3) (d := some 90) (v := ?_) rfl rfl (by kernel_rfl) (by kernel_rfl) (by kernel_rfl) (fun _ _ _ h => h) (Or.inl ⟨by rfl, ?_⟩) (by assumption) ?_
                  rotate_left
                  · (intro w hSw; (try dsimp only at hSw); go_simp; (try with_reducible rfl))
                  (try simp only [Act.put, List.setIfInBounds_toArray, List.set_cons_zero, List.set_cons_succ])
                  refine takeH (i := 4) (d := some 91) (v := ?_) rfl rfl (by kernel_rfl) (by kernel_rfl) (by kernel_rfl) (fun _ _ _ h => h) (Or.inl ⟨by rfl, ?_⟩) (by assumption) ?_
                  rotate_left
                  · (intro w hSw; (try dsimp only at hSw); go_simp; (try with_reducible rfl))
                  (try simp only [Act.put, List.setIfInBounds_toArray, List.set_cons_zero, List.set_cons_succ])
                  refine takeH (i := 5) (d := some 92) (v := ?_) rfl rfl (by kernel_rfl) (by kernel_rfl) (by kernel_rfl) (fun _ _ _ h => h) (Or.inl ⟨by rfl, ?_⟩) (by assumption) ?_
                  rotate_left
                  · (intro w hSw; (try dsimp only at hSw); go_simp; (try with_reducible rfl))
                  (try simp only [Act.put, List.setIfInBounds_toArray, List.set_cons_zero, List.set_cons_succ])
                  refine takeH (i := 6) (d := some 93) (v := ?_) rfl rfl (by kernel_rfl) (by kernel_rfl) (by kernel_rfl) (fun _ _ _ h => h) (Or.inl ⟨by rfl, ?_⟩) (by assumption) ?_
                  rotate_left
                  · (intro w hSw; (try dsimp only at hSw); go_simp; (try with_reducible rfl))
                  (try simp only [Act.put, List.setIfInBounds_toArray, List.set_cons_zero, List.set_cons_succ])
                  refine takeH (i := 7) (d := some 94) (v := ?_) rfl rfl (by kernel_rfl) (by kernel_rfl) (by kernel_rfl) (fun _ _ _ h => h) (Or.inl ⟨by rfl, ?_⟩) (by assumption) ?_
                  rotate_left
                  · (intro w hSw; (try dsimp only at hSw); go_simp; (try with_reducible rfl))
                  (try simp only [Act.put, List.setIfInBounds_toArray, List.set_cons_zero, List.set_cons_succ])
                  refine takeH (i := 8) (d := some 95) (v := ?_) rfl rfl (by kernel_rfl) (by kernel_rfl) (by kernel_rfl) (fun _ _ _ h => h) (Or.inl ⟨by rfl, ?_⟩) (by assumption) ?_
                  rotate_left
                  · (intro w hSw; (try dsimp only at hSw); go_simp; (try with_reducible rfl))
                  (try simp only [Act.put, List.setIfInBounds_toArray, List.set_cons_zero, List.set_cons_succ])
                  refine takeH (i := 9) (d := some 96) (v := undef) rfl rfl (by kernel_rfl) (by kernel_rfl) (by kernel_rfl) (fun _ _ _ h => h) (Or.inr ⟨by rfl, rfl⟩) (by assumption) ?_
                  (try simp only [Act.put, List.setIfInBounds_toArray, List.set_cons_zero, List.set_cons_succ])
                  refine takeH (i := 10) (d := some 97) (v := undef) rfl rfl (by kernel_rfl) (by kernel_rfl) (by kernel_rfl) (fun _ _ _ h => h) (Or.inr ⟨by rfl, rfl⟩) (by assumption) ?_
                  (try simp only [Act.put, List.setIfInBounds_toArray, List.set_cons_zero, List.set_cons_succ])
                  refine takeH (i := 11) (d := some 98) (v := undef) rfl rfl (by kernel_rfl) (by kernel_rfl) (by kernel_rfl) (fun _ _ _ h => h) (Or.inr ⟨by rfl, rfl⟩) (by assumption) ?_
                  (try simp only [Act.put, List.setIfInBounds_toArray, List.set_cons_zero, List.set_cons_succ])
                  refine takeH (i := 12) (d := some 99) (v := undef) rfl rfl (by kernel_rfl) (by kernel_rfl) (by kernel_rfl) (fun _ _ _ h => h) (Or.inr ⟨by rfl, rfl⟩) (by assumption) ?_
                  (try simp only [Act.put, List.setIfInBounds_toArray, List.set_cons_zero, List.set_cons_succ])
                  refine takeH (i := 13) (d := some 100) (v := ?_) rfl rfl (by kernel_rfl) (by kernel_rfl) (by kernel_rfl) (fun _ _ _ h => h) (Or.inl ⟨by rfl, ?_⟩) (by assumption) ?_
                  rotate_left
                  · (intro w hSw; (try dsimp only at hSw); go_simp; (try with_reducible rfl))
                  (try simp only [Act.put, List.setIfInBounds_toArray, List.set_cons_zero, List.set_cons_succ])
                  refine takeH (i := 14) (d := some 101) (v := ?_) rfl rfl (by kernel_rfl) (by kernel_rfl) (by kernel_rfl) (fun _ _ _ h => h) (Or.inl ⟨by rfl, ?_⟩) (by assumption) ?_
                  rotate_left
                  · (intro w hSw; (try dsimp only at hSw); go_simp; (try with_reducible rfl))
                  (try simp only [Act.put, List.setIfInBounds_toArray, List.set_cons_zero, List.set_cons_succ])
                  refine takeH (i := 15) (d := some 102) (v := undef) rfl rfl (by kernel_rfl) (by kernel_rfl) (by kernel_rfl) (fun _ _ _ h => h) (Or.inr ⟨by rfl, rfl⟩) (by assumption) ?_
                  (try simp only [Act.put, List.setIfInBounds_toArray, List.set_cons_zero, List.set_cons_succ])
                  refine takeH (i := 16) (d := some 103) (v := undef) rfl rfl (by kernel_rfl) (by kernel_rfl) (by kernel_rfl) (fun _ _ _ h => h) (Or.inr ⟨by rfl, rfl⟩) (by assumption) ?_
                  (try simp only [Act.put, List.setIfInBounds_toArray, List.set_cons_zero, List.set_cons_succ])
                  refine takeH (i := 17) (d := some 104) (v := undef) rfl rfl (by kernel_rfl) (by kernel_rfl) (by kernel_rfl) (fun _ _ _ h => h) (Or.inr ⟨by rfl, rfl⟩) (by assumption) ?_
                  (try simp only [Act.put, List.setIfInBounds_toArray, List.set_cons_zero, List.set_cons_succ])
                  refine takeH (i := 18) (d := some 105) (v := undef) rfl rfl (by kernel_rfl) (by kernel_rfl) (by kernel_rfl) (fun _ _ _ h => h) (Or.inr ⟨by rfl, rfl⟩) (by assumption) ?_
                  (try simp only [Act.put, List.setIfInBounds_toArray, List.set_cons_zero, List.set_cons_succ])
                  refine takeH (i := 19) (d := some 106) (v := ?_) rfl rfl (by kernel_rfl) (by kernel_rfl) (by kernel_rfl) (fun _ _ _ h => h) (Or.inl ⟨by rfl, ?_⟩) (by assumption) ?_
                  rotate_left
                  · (intro w hSw; (try dsimp only at hSw); go_simp; (try with_reducible rfl))
                  (try simp only [Act.put, List.setIfInBounds_toArray, List.set_cons_zero, List.set_cons_succ])
                  refine takeH (i := 20) (d := some 107) (v := ?_) rfl rfl (by kernel_rfl) (by kernel_rfl) (by kernel_rfl) (fun _ _ _ h => h) (Or.inl ⟨by rfl, ?_⟩) (by assumption) ?_
                  rotate_left
                  · (intro w hSw; (try dsimp only at hSw); go_simp; (try with_reducible rfl))
                  (try simp only [Act.put, List.setIfInBounds_toArray, List.set_cons_zero, List.set_cons_succ])
                  refine wpAnyH_ready (rs := [21]) (by kernel_rfl) (by simp) ?_
                  refine AllReadyH.cons (i := 21) rfl (fun K hK => ?_) ?_
                  · go_simp
                    refine hK.out _ _ (keep5s _ hneH.out hHeld) (fun hHeld2 => ?_)
                    clear hK K hHeld hHeld2
                    (try simp only [Act.put, List.setIfInBounds_toArray, List.set_cons_zero, List.set_cons_succ])
                    refine wpAnyH_done (by kernel_rfl) ?_ _
                    go_wp2
                    refine ⟨?rel, ?measure⟩
                    case measure => (simp [intOf]; omega)
                    case rel => first | exact RH.out.1 | exact RH.out.2 | exact ⟨rfl, RH.out.1⟩ | exact ⟨rfl, RH.out.2⟩ | ((try refine ⟨rfl, ?_⟩); (repeat apply Exists.intro); first | (refine ⟨RH.out.1, ?_⟩; ((repeat' apply And.intro) <;> rfl)) | (refine ⟨RH.out.2, ?_⟩; ((repeat' apply And.intro) <;> rfl)))
                  · exact AllReadyH.nil
              · obtain rfl : kk = k := by omega
                have hb0 := hst.bel0
                have d0 := hst.d0
                have d1 := hst.d1
                have d2 := hst.d2
                have d3 := hst.d3
                have hr4 := res4 (wr := wr) (by rw [World.size_alloc]; exact hst.bel)
                obtain ⟨q0, q1, q2, q3, y0, y1, y2, y3⟩ := hr4
                obtain ⟨t0, t1, t2, t3⟩ := four_set (.slice (some ⟨b1, 0, none⟩) kk kk) (.slice (some ⟨b2, 0, none⟩) kk kk) (.slice (some ⟨b3, 0, none⟩) kk kk) (.slice A' n3 cap) q0 q1 q2 q3
                have hstH := Lib.hid hst
                clear hst
                have hslH := Lib.hid hsl
                clear hsl
                have hb0H := Lib.hid hb0
                clear hb0
                go_wp2
                refine bodyPost_ret (v := .agg #[.slice (some ⟨b1, 0, none⟩) kk kk, .slice (some ⟨b2, 0, none⟩) kk kk, .slice (some ⟨b3, 0, none⟩) kk kk, .slice A' n3 cap]) (by simp [results, Tryz.results26, go_sem, t0, t1, t2, t3]) rfl ⟨b1, b2, b3, A', n3, cap, rfl, ?_, (((hb0H.out.setCell (Nat.le_refl _) _).setCell (Nat.le_refl _) _).setCell (Nat.le_refl _) _).setCell (Nat.le_refl _) _⟩
                have hs := hstH.out
                obtain ⟨n12, n13, n15, n23, n25, n35, g1, g2, g3, g5⟩ := hneH.out
                have hg : ∀ (W : World) (j : Nat) (v : Value), W.grownBy (W.setCell ⟨w.heap.size, j, none⟩ v) (some w.heap.size) := fun W j v => grown_setc W ⟨w.heap.size, j, none⟩ v
                have k1 := hs.l1
                have k2 := hs.l2
                have k3 := hs.l3
                have keepR : ∀ {W : World} {b : Nat} {f : Nat → Bool} (j : Nat) (v : Value), BRow W b kk f → w.heap.size < b → BRow (W.setCell ⟨w.heap.size, j, none⟩ v) b kk f := fun j v h hb => h.kept (hg _ _ _) (by simp; omega)
                have ht : BRow wr b3 kk (tntB l m) := fun j hj => by
                  have := hs.rt j hj
                  rw [← hllH.out] at this
                  exact this
                have hsl4 : SlAt RStr ((((wr.setCell ⟨w.heap.size, 0, none⟩ (.slice (some ⟨b1, 0, none⟩) kk kk)).setCell ⟨w.heap.size, 1, none⟩ (.slice (some ⟨b2, 0, none⟩) kk kk)).setCell ⟨w.heap.size, 2, none⟩ (.slice (some ⟨b3, 0, none⟩) kk kk)).setCell ⟨w.heap.size, 3, none⟩ (.slice A' n3 cap)) A' n3 (suspL l m) := by
                  refine (slAt_setStr (slAt_setStr (slAt_setStr (slAt_setStr hslH.out ⟨w.heap.size, 0, none⟩ _ q0 (fun s h => by cases h)) ⟨w.heap.size, 1, none⟩ _ (four_at q1 0 1 (by omega)) (fun s h => by cases h)) ⟨w.heap.size, 2, none⟩ _ (four_at (four_at q2 0 2 (by omega)) 1 2 (by omega)) (fun s h => by cases h)) ⟨w.heap.size, 3, none⟩ _ (four_at (four_at (four_at q3 0 3 (by omega)) 1 3 (by omega)) 2 3 (by omega)) (fun s h => by cases h))
                exact ⟨keepR _ _ (keepR _ _ (keepR _ _ (keepR _ _ hs.ra g1) g1) g1) g1, keepR _ _ (keepR _ _ (keepR _ _ (keepR _ _ hs.rw_ g2) g2) g2) g2, keepR _ _ (keepR _ _ (keepR _ _ (keepR _ _ ht g3) g3) g3) g3, hsl4, hn3k, by simp; omega, by simp; omega, by simp; omega⟩
  have keyH := Lib.hid key
  clear key
  go_region
  all_goals
    refine keyH.out _ _ _ _ _ ?_ ?_
    · obtain ⟨k1, k2, k3, k4, k5, k6⟩ := chain4 (w.alloc (.cells #[.slice none 0 0, .slice none 0 0, .slice none 0 0, .slice none 0 0] 60)) _ _ _ _ (w.heap.size + 1) (by simp)
      refine ⟨brow_of_heap (by assumption), brow_of_heap (by assumption), brow_of_heap (by assumption), ?_, ?_, ?_, ?_, ?_, k6, ?_, ?_, ?_, ?_, ?_⟩
      all_goals first
        | (first | exact (cell_of_heap k1) | exact (cell_of_heap k2) | exact (cell_of_heap k3) | exact (cell_of_heap k4))
        | (first | exact (frozen_of_heap k1) | exact (frozen_of_heap k2) | exact (frozen_of_heap k3) | exact (frozen_of_heap k4))
        | omega
    · constructor <;> omega
end Go.Proofs.YtgegdfmdcmgliaaGreatDoor.C11

namespace Go.Proofs.YtgegdfmdcmgliaaGreatDoor.C11
open Go.RowKit
set_option linter.unusedVariables false

def cntF (l : List Claimed) (f : Nat → Bool) (s : ByteArray) : Nat → Int
  | 0 => 0
  | k + 1 => if (decide (wriOf l k = s) && f k) = true then cntF l f s k + 1 else cntF l f s k
def seenW (l : List Claimed) : Nat → ByteArray → Bool
  | 0, _ => false
  | k + 1, s => seenW l k s || decide (wriOf l k = s)
def scoreOf (l : List Claimed) (m : List Audit) (s : ByteArray) (k : Nat) : Score := ⟨s, cntF l (audB m) s k, cntF l (wrB l m) s k⟩
def scF (l : List Claimed) (m : List Audit) (k : Nat) (s : ByteArray) : Option Score := if seenW l k s = true then some (scoreOf l m s k) else none
theorem cntF_range (l : List Claimed) (f : Nat → Bool) (s : ByteArray) : ∀ k, 0 ≤ cntF l f s k ∧ cntF l f s k ≤ k
  | 0 => ⟨Int.le_refl _, Int.le_refl _⟩
  | k + 1 => by
    have := cntF_range l f s k
    have e : cntF l f s (k + 1) = if (decide (wriOf l k = s) && f k) = true then cntF l f s k + 1 else cntF l f s k := rfl
    rw [e]
    split <;> omega
theorem cntF_unseen {l : List Claimed} {f : Nat → Bool} {s : ByteArray} : ∀ {k : Nat}, seenW l k s = false → cntF l f s k = 0
  | 0, _ => rfl
  | k + 1, h => by
    have h' : (seenW l k s || decide (wriOf l k = s)) = false := h
    rw [Bool.or_eq_false_iff] at h'
    show (if (decide (wriOf l k = s) && f k) = true then cntF l f s k + 1 else cntF l f s k) = 0
    rw [h'.2, Bool.false_and, if_neg (by decide)]
    exact cntF_unseen h'.1
theorem cntF_other {l : List Claimed} {f : Nat → Bool} {s : ByteArray} {k : Nat} (h : ¬ wriOf l k = s) : cntF l f s (k + 1) = cntF l f s k := by
  show (if (decide (wriOf l k = s) && f k) = true then cntF l f s k + 1 else cntF l f s k) = _
  rw [decide_eq_false h, Bool.false_and, if_neg (by decide)]
theorem cntF_yes {l : List Claimed} {f : Nat → Bool} {s : ByteArray} {k : Nat} (h : wriOf l k = s) (hf : f k = true) : cntF l f s (k + 1) = cntF l f s k + 1 := by
  show (if (decide (wriOf l k = s) && f k) = true then cntF l f s k + 1 else cntF l f s k) = _
  rw [decide_eq_true h, hf]; rfl
theorem cntF_no {l : List Claimed} {f : Nat → Bool} {s : ByteArray} {k : Nat} (h : wriOf l k = s) (hf : f k = false) : cntF l f s (k + 1) = cntF l f s k := by
  show (if (decide (wriOf l k = s) && f k) = true then cntF l f s k + 1 else cntF l f s k) = _
  rw [decide_eq_true h, hf]; rfl
theorem scF_look {l : List Claimed} {m : List Audit} {k : Nat} {s : ByteArray} : ∃ u, (scF l m k s).getD ⟨⟨#[]⟩, 0, 0⟩ = ⟨u, cntF l (audB m) s k, cntF l (wrB l m) s k⟩ := by
  unfold scF
  cases h : seenW l k s
  · rw [if_neg (by decide), cntF_unseen h, cntF_unseen h]; exact ⟨_, rfl⟩
  · rw [if_pos rfl]; exact ⟨s, rfl⟩
theorem scF_get {l : List Claimed} {m : List Audit} {k : Nat} {s : ByteArray} (h : seenW l k s = true) : (scF l m k s).getD ⟨⟨#[]⟩, 0, 0⟩ = scoreOf l m s k := by
  unfold scF
  rw [if_pos h]; rfl
theorem scF_upd (l : List Claimed) (m : List Audit) (k : Nat) (s : ByteArray) (hs : wriOf l k = s) : upd (scF l m k) s (scoreOf l m s (k + 1)) = scF l m (k + 1) := by
  funext z
  unfold upd scF
  show _ = if (seenW l k z || decide (wriOf l k = z)) = true then _ else _
  by_cases hz : z = s
  · subst hz
    rw [if_pos rfl, decide_eq_true hs, Bool.or_true, if_pos rfl]
  · rw [if_neg hz, decide_eq_false (fun h => hz (by rw [← h, hs])), Bool.or_false]
    unfold scoreOf
    rw [cntF_other (fun h => hz (by rw [← h, hs])), cntF_other (fun h => hz (by rw [← h, hs]))]
theorem seenW_mem {l : List Claimed} {s : ByteArray} : ∀ {k : Nat}, k ≤ l.length → (seenW l k s = true ↔ s ∈ (l.take k).map (·.writer))
  | 0, _ => by
    constructor
    · intro h; cases h
    · intro h; rw [List.take_zero] at h; cases h
  | k + 1, hk => by
    obtain ⟨x, hx⟩ : ∃ x, l[k]? = some x := ⟨l[k], List.getElem?_eq_getElem hk⟩
    show (seenW l k s || decide (wriOf l k = s)) = true ↔ _
    rw [Bool.or_eq_true, seenW_mem (by omega), decide_eq_true_iff, List.take_add_one, hx, wriOf_get hx, Option.toList, List.map_append, List.mem_append, List.map_cons, List.map_nil, List.mem_singleton]
    constructor
    · rintro (h | h)
      · exact .inl h
      · exact .inr h.symm
    · rintro (h | h)
      · exact .inl h
      · exact .inr h.symm
/-- the writers, each once, rising -/
def namesW (l : List Claimed) : List ByteArray := compB (sortB (l.map (·.writer)))
theorem namesW_seen {l : List Claimed} {s : ByteArray} : s ∈ namesW l ↔ seenW l l.length s = true := by
  rw [seenW_mem (Nat.le_refl _), List.take_length]
  exact (rising_comp (l.map (·.writer))).2 s
theorem namesW_rise (l : List Claimed) : Rising (namesW l) := (rising_comp (l.map (fun x : Claimed => x.writer))).1
theorem namesW_len (l : List Claimed) : (namesW l).length ≤ l.length := by
  unfold namesW compB und
  rw [List.length_map]
  refine Nat.le_trans (Lib.compact_length_le _) ?_
  unfold dat sortB und
  simp [dat]
def chL (l : List Claimed) (m : List Audit) : List Score := (namesW l).map (fun s => scoreOf l m s l.length)
def chanR (l : List Claimed) (m : List Audit) : List Score × Int := if auditsF l m = 0 then (chL l m, 0) else ([], auditsF l m)
theorem score_ok {l : List Claimed} {m : List Audit} {s : ByteArray} {k : Nat} (w : World) (hs : s.size ≤ maxLen) (hk : k ≤ 1000) : RScore.ok w (scoreOf l m s k) := by
  have h1 := cntF_range l (audB m) s k
  have h2 := cntF_range l (wrB l m) s k
  exact ⟨hs, ⟨by show _ ≤ cntF _ _ _ _; omega, by show cntF _ _ _ _ ≤ _; omega⟩, ⟨by show _ ≤ cntF _ _ _ _; omega, by show cntF _ _ _ _ ≤ _; omega⟩⟩
/-- what a function of a log and audits hands back that gives scores -/
def ScoresAns (L : List Score) (c : Int) (w0 : World) (e : Ending) (w' : World) : Prop :=
  ∃ (A : Option Addr) (n cap : Nat), e = .returned (.tuple #[.slice A n cap, .int .i64 c]) ∧ SlAt RScore w' A n L ∧ n ≤ 1000 ∧ Below w0.heap.size w0 w'
theorem slAt_nilC (w : World) : SlAt RScore w none 0 [] := ⟨rfl, fun h => by omega, fun x hx => by cases hx⟩
def valC (x : Score) : Value := .agg #[.string x.writer, .int .i64 x.audited, .int .i64 x.wrong]
theorem injC : InjV valC := fun a b h => by
  obtain ⟨a1, a2, a3⟩ := a
  obtain ⟨b1, b2, b3⟩ := b
  simp only [valC, Value.agg.injEq] at h
  have h0 := congrArg (fun x : Array Value => x.toList) h
  simp only [List.cons.injEq, Value.string.injEq, Value.int.injEq] at h0
  obtain ⟨rfl, ⟨_, rfl⟩, ⟨_, rfl⟩, _⟩ := h0
  rfl
end Go.Proofs.YtgegdfmdcmgliaaGreatDoor.C11
