/-
  critical of the program.
-/
import Derived.Test.YtbapkhkklglbaaaDoorCrQC9
import Derived.Test.YtbapkhkklglbaaaDoorTailIn
import Derived.Test.YtbapkhkklglbaaaDoorBsfC9
namespace Go.Proofs.YtbapkhkklglbaaaDoor.C9
open Go.ChangeShapes Go.WideShapes Go.Deep Go.RowKit Go.Shelf
set_option linter.unusedVariables false
set_option linter.unusedSimpArgs false
attribute [local go_sem] Oper.semAt_some

/-- the boxes of critical, its row, and what lay ahead -/
structure CrS (K N c : Nat) (A : Option Addr) (n₀ : Nat) (w : World) (S : List Int) (W : World) : Prop where
  c0 : W.cell? ⟨K, 0, none⟩ = some (.slice A N c)
  c2 : W.cell? ⟨K + 1 + 1, 0, none⟩ = some (.slice (some ⟨K + 1, 0, none⟩) N N)
  sms : Sms W (K + 1) N S
  bel : Below w.heap.size w W
  le : n₀ ≤ W.heap.size

theorem keeps_below {B : Nat} {W w' : World} (hb : Below W.heap.size W w') : KeepsFrom B W w' :=
  ⟨hb.size, fun k o _ hk _ => (hb.block k (Array.getElem?_eq_some_iff.1 hk).1).trans hk⟩
theorem CrS.grown {K N c n₀ : Nat} {A : Option Addr} {w : World} {S : List Int} {W W' : World} {row : Option Nat} (h : CrS K N c A n₀ w S W) (hK : K + 2 < n₀) (hw : w.heap.size ≤ n₀) (hg : W.grownBy W' row) (hr : ∀ r, row = some r → n₀ ≤ r) : CrS K N c A n₀ w S W' := by
  have e : ∀ k, k < n₀ → W'.heap[k]? = W.heap[k]? := fun k hk => hg.block k (Nat.lt_of_lt_of_le hk h.le) (fun e => by have := hr k e.symm; omega)
  refine ⟨(World.cell?_of_block (a := ⟨K, 0, none⟩) (e K (by omega))).trans h.c0, (World.cell?_of_block (a := ⟨K + 1 + 1, 0, none⟩) (e (K + 1 + 1) (by omega))).trans h.c2, h.sms.keep (e (K + 1) (by omega)), ?_, Nat.le_trans h.le hg.size⟩
  exact h.bel.grown hg h.bel.size (fun k e => Nat.le_trans hw (hr k e))
theorem CrS.below {K N c n₀ : Nat} {A : Option Addr} {w : World} {S : List Int} {W W' : World} (h : CrS K N c A n₀ w S W) (hK : K + 2 < n₀) (hw : w.heap.size ≤ n₀) (hb : Below W.heap.size W W') : CrS K N c A n₀ w S W' := by
  have e : ∀ k, k < n₀ → W'.heap[k]? = W.heap[k]? := fun k hk => hb.block k (Nat.lt_of_lt_of_le hk h.le)
  exact ⟨(World.cell?_of_block (a := ⟨K, 0, none⟩) (e K (by omega))).trans h.c0, (World.cell?_of_block (a := ⟨K + 1 + 1, 0, none⟩) (e (K + 1 + 1) (by omega))).trans h.c2, h.sms.keep (e (K + 1) (by omega)), h.bel.trans (hb.mono h.bel.size), Nat.le_trans h.le hb.size⟩
theorem CrS.put {K N c n₀ : Nat} {A : Option Addr} {w : World} {S : List Int} {W : World} (h : CrS K N c A n₀ w S W) (hK : w.heap.size ≤ K) {i : Nat} (hi : i < N) (x : Int) : CrS K N c A n₀ w (S.set i x) (W.setCell ⟨K + 1, i, none⟩ (.int .i64 x)) :=
  ⟨(World.cell?_setCell_other _ _ _ _ (by simp)).trans h.c0, (World.cell?_setCell_other _ _ _ _ (by simp)).trans h.c2, h.sms.put hi x, h.bel.setCell (by show w.heap.size ≤ K + 1; omega) _, by simpa using h.le⟩
theorem CrS.drew {K N c n₀ : Nat} {A : Option Addr} {w : World} {S : List Int} {W : World} (h : CrS K N c A n₀ w S W) : CrS K N c A n₀ w S W.drew :=
  ⟨h.c0, h.c2, h.sms.keep rfl, h.bel.drew, h.le⟩
theorem CrS.start (w : World) (A : Option Addr) (N c : Nat) :
    CrS w.heap.size N c A (w.heap.size + 1 + 1 + 1) w (List.replicate N 0) (((w.alloc (.cells #[.slice A N c] 22)).alloc (.cells (madeI N) 3)).alloc (.cells #[.slice (some ⟨w.heap.size + 1, 0, none⟩) N N] 24)) := by
  have b0 := ((Boxed.new w 22 (.slice A N c)).alloc (.cells (madeI N) 3)).alloc (.cells #[.slice (some ⟨w.heap.size + 1, 0, none⟩) N N] 24)
  have b2 := Boxed.new ((w.alloc (.cells #[.slice A N c] 22)).alloc (.cells (madeI N) 3)) 24 (.slice (some ⟨w.heap.size + 1, 0, none⟩) N N)
  have hm := Sms.made (w.alloc (.cells #[.slice A N c] 22)) N
  simp only [World.size_alloc] at b0 b2 hm
  refine ⟨b0.cell, b2.cell, hm.keep ?_, (((Below.refl _ _).alloc (Nat.le_refl _) _).alloc (by simp) _).alloc (by simp; omega) _, by simp⟩
  exact Below.heap_alloc _ _ _ (by simp)
/-- the invariant of the rounds -/
def IrC (l : List Work) (out : List Nat) (n K N c : Nat) (A : Option Addr) (n₀ : Nat) (w : World) (pre : List (Fin n)) (W : World) : Prop := CrS K N c A n₀ w (runO l N (pre.map (ixO out))) W
def AxC (T : Array Value) (l : List Int) (x : Fin l.length) (a' : Act) (_ : World) : Prop :=
  a' = { tmps := ((#[22, 23].zip (encI l x)).foldl (fun t (p, v) => t.setIfInBounds p v) T).setIfInBounds 7 (.int .i64 l[x]), defers := [] }
def CrL (l : List Work) (i : Nat) (S1 : List Int) (K N c : Nat) (A : Option Addr) (n₀ : Nat) (w : World) (an : Nat) (W : World) (v : Value) (wr : World) : Prop :=
  ∃ t : Nat, t ≤ an ∧ v = .int .i64 t ∧ CrS K N c A n₀ w (((gOf l i).take t).foldl (stI i) S1) wr ∧ KeepsFrom n₀ W wr ∧ BelBut (K + 1) n₀ W wr
theorem crf_law {g : Operand} {assign body : Code} {Q : Exit → Act → World → Prop} {T : Array Value} {wS w : World} {lw : List Work} {out : List Nat} {l : List Int} {Bs len cap K N c : Nat} {A A0 : Option Addr} (hg : (Act.mk T []).eval g = .func (.func 44) #[] #[.pointer (some ⟨Bs, 0, none⟩)])
    (hlen : len ≤ 1000) (hA : 0 < len → ∃ b off, A = some ⟨b, off, none⟩ ∧ b < wS.heap.size ∧ b ≠ K + 1) (hBn : Bs < wS.heap.size) (hBq : Bs ≠ K + 1) (hc : wS.cell? ⟨Bs, 0, none⟩ = some (.slice A len cap)) (hsl : SlAt RInt wS A len l) (hK : K + 2 < wS.heap.size) (hwS : w.heap.size ≤ wS.heap.size)
    (h0 : CrS K N c A0 wS.heap.size w (List.replicate N 0) wS)
    (hassign : ∀ (lp : Nat) (pre : List (Fin l.length)) (x : Fin l.length) (W : World) (Kp : Act → World → Prop), IrC lw out l.length K N c A0 wS.heap.size w pre W → (∀ a' W', KeepsFrom wS.heap.size W W' → BelBut (K + 1) wS.heap.size W W' → IrC lw out l.length K N c A0 wS.heap.size w pre W' → AxC T l x a' W' → Kp a' W') →
      assign.wpIn (Fence.wide.inRound lp) (9 - 1 - 1) Tryd.prog (Exit.then Kp (fun _ _ _ => False)) { tmps := (#[22, 23].zip (encI l x)).foldl (fun t (p, v) => t.setIfInBounds p v) T, defers := [] } W)
    (hbody : ∀ (lp : Nat) (pre : List (Fin l.length)) (x : Fin l.length) (a' : Act) (W : World), wS.heap.size ≤ lp → (∃ r, W.heap[lp]? = some (.loop r)) → IrC lw out l.length K N c A0 wS.heap.size w pre W → AxC T l x a' W → pre.length < l.length → body.wpIn (Fence.wide.inRound lp) (9 - 1 - 1) Tryd.prog (ownPostG wS.heap.size (BelBut (K + 1) wS.heap.size) (IrC lw out l.length K N c A0 wS.heap.size w) (fun _ _ _ => False) (pre ++ [x]) W) a' W)
    (hdone : ∀ (D : Nat) (xs : List (Fin l.length)) (W : World), wS.heap.size ≤ D → xs = downF l.length → IrC lw out l.length K N c A0 wS.heap.size w xs W → W.heap[D]? = some (.deferred (some [])) → Q .normal { tmps := T, defers := { target := .collected D, args := #[] } :: [] } W) :
    (Code.rangeFunc g #[22, 23] assign body).wpIn Fence.wide 9 Tryd.prog Q { tmps := T, defers := [] } wS :=
  wpIn_rangeFunc_ownH rfl (by omega) hg trivial (enters_of Tryd.func44 (by kernel_rfl) rfl)
    (back_stops Fence.wide (9 - 1) trivial rfl (by omega) Bs wS.heap.size len cap A l hlen (K + 1) hA hBn hBq wS (Nat.le_refl _) hc hsl) BelBut.trans (fun W l o o' hl _ _ _ => BelBut.put W l o' hl) (Below.refl _ _) (fun _ => rfl)
    (IrC lw out l.length K N c A0 wS.heap.size w) (fun _ _ _ => False)
    (fun s W W' row hs hg hr => CrS.grown hs hK hwS hg (fun r e => (hr r e).1))
    (fun cd s W W' row hs hg hr => hs)
    h0
    (AxC T l)
    (fun x a' _ X Y row hs hg hr => hs)
    hassign hbody hdone (fun D c pre W _ _ h => h.elim)

set_option maxRecDepth 100000 in
set_option maxHeartbeats 16000000 in
theorem crit_any (A : Option Addr) (N c : Nat) (l : List Work) (w : World) (hl : SlAt RWork w A N l) (hok : WOk l) :
    Calls Tryd.prog 12 #[.slice A N c] w fun e w' => ∃ (B : Nat) (S : List Int), e = .returned (.slice (some ⟨B, 0, none⟩) N N) ∧ Sms w' B N S ∧ Crit (gOf l) (szOf l) N (gt S) ∧ (∀ k, k < N → 0 ≤ gt S k ∧ gt S k ≤ 200000000) ∧ w.heap.size ≤ B ∧ B < w'.heap.size ∧ Below w.heap.size w w' := by
  have hll := hl.1
  have hN2 : N ≤ 200 := by have := hok.len; omega
  obtain ⟨C, hC, hCb⟩ := hok.crit
  rw [hll] at hC hCb
  have hno : ¬ Cyc (gOf l) N := by have := hok.nocyc; rw [hll] at this; exact this
  have hgl : ∀ i, i < N → ∀ k ∈ gOf l i, k < N := by have := gOf_lt hok.all; rw [hll] at this; exact this
  have hmk := run_makeInts N (by omega)
  have hlH := Lib.hid hl
  clear hl
  have hllH := Lib.hid hll
  clear hll
  have hokH := Lib.hid hok
  clear hok
  have hCH := Lib.hid hC
  clear hC
  have hCbH := Lib.hid hCb
  clear hCb
  have hnoH := Lib.hid hno
  clear hno
  have hglH := Lib.hid hgl
  clear hgl
  refine (callsIn_wide (n := 9)).1 ?_
  refine callsIn_of_wp_marks Tryd.func12 rfl trivial ?_ rfl
  simp only [Tryd.ntmps12, List.size_toArray, List.length_cons, List.length_nil, Nat.reduceAdd, Nat.reduceSub, Array.replicate_succ, Array.replicate_zero, List.push_toArray, List.append_toArray, List.nil_append, List.cons_append]
  gi_wp2_with fail
  refine ⟨trivial, callsIn_wide.2 ?_⟩
  have z0 := CrS.start w A N c
  obtain ⟨w0, hw0⟩ : ∃ W, W = (((w.alloc (.cells #[.slice A N c] 22)).alloc (.cells (madeI N) 3)).alloc (.cells #[.slice (some ⟨w.heap.size + 1, 0, none⟩) N N] 24)) := ⟨_, rfl⟩
  rw [← hw0] at z0 ⊢
  clear hw0
  refine (ordered_own A N c l w0 (by omega) (hlH.out.below z0.bel) hokH.out.rise hokH.out.all).mono ?_
  rintro e w1 ⟨⟨OA, on, oc, out, ok, rfl, hO, hon, hoke, htp, hms, hb1⟩, hfr⟩
  have hle := z0.le
  have hoN : out.length = N := (topo_iff hglH.out htp hms).2 hnoH.out
  rw [hoN] at hon
  obtain rfl : N = on := hon.symm
  have z1 := z0.below (by omega) (by omega) hb1
  have hb1s := hb1.size
  clear hmk z0
  have hOH := Lib.hid hO
  clear hO
  have htpH := Lib.hid htp
  clear htp
  have hmsH := Lib.hid hms
  clear hms
  have hb1H := Lib.hid hb1
  clear hb1
  have z1H := Lib.hid z1
  clear z1
  gi_wp2_with fail
  refine ⟨trivial, callsIn_wide.2 ?_⟩
  refine (back_any OA N oc _).mono ?_
  rintro e w2 ⟨rfl, rfl⟩
  have hba : Below w1.heap.size w1 (w1.alloc (.cells #[.slice OA N oc] 24)) := (Below.refl _ _).alloc (Nat.le_refl _) _
  have xsl := Boxed.new w1 24 (.slice OA N oc)
  obtain ⟨wS, hwS⟩ : ∃ W, W = w1.alloc (.cells #[.slice OA N oc] 24) := ⟨_, rfl⟩
  have hszS : wS.heap.size = w1.heap.size + 1 := by rw [hwS]; simp
  rw [← hwS] at hba xsl
  have zS' := z1H.out.below (by omega) (by omega) hba
  have hle1 := z1H.out.le
  have zS : CrS w.heap.size N c A wS.heap.size w (List.replicate N 0) wS := ⟨zS'.c0, zS'.c2, zS'.sms, zS'.bel, Nat.le_refl _⟩
  clear zS'
  have xslH := Lib.hid xsl
  clear xsl
  have zSH := Lib.hid zS
  clear zS
  have hbaH := Lib.hid hba
  clear hba
  gi_wp2_with fail
  rw [← hwS]
  clear hwS
  refine crf_law (lw := l) (out := out) (l := nz out) (K := w.heap.size) (N := N) (c := c) (A := OA) (A0 := A) (len := N) (cap := oc) (w := w) (Bs := w1.heap.size) rfl (by omega) ?hA (by omega) (by omega) xslH.out.cell (hOH.out.below hbaH.out) (by omega) (by omega) zSH.out ?assign ?body ?done
  case hA =>
    intro h0
    obtain ⟨b7, off7, hA7, hc7⟩ := hOH.out.2.1 h0
    have hx7 : (nz out)[0]? = some ((nz out)[0]'(by rw [nz_len]; omega)) := List.getElem?_eq_getElem _
    have h8 : b7 < w1.heap.size := cell?_lt (hc7 0 _ hx7 0 (.int .i64 ((nz out)[0]'(by rw [nz_len]; omega))) rfl)
    have h9 := hfr b7 off7 N oc ok (by rw [hA7])
    exact ⟨b7, off7, hA7, by omega, by omega⟩
  case assign =>
    rintro lp pre x W K hI hK
    dsimp only [encI]
    gi_wp2
    refine hK _ _ (KeepsFrom.refl _ _) (BelBut.refl _ _ _) hI ?_
    simp [AxC, encI]
  case body =>
    rintro lp pre ⟨p, hp⟩ a' W hlp hrec hI ha' hlt
    clear hrec hlp hlt
    have hpo : p < out.length := by rw [nz_len] at hp; exact hp
    obtain ⟨i, hi⟩ : ∃ i, out[p] = i := ⟨_, rfl⟩
    have hx : (nz out)[p]'hp = (i : Int) := by simp [nz, hi]
    have hiN : i < N := htpH.out.lt i (by rw [← hi]; exact List.getElem_mem hpo)
    have hix : ixO out (⟨p, hp⟩ : Fin (nz out).length) = i := by unfold ixO; rw [List.getD_eq_getElem?_getD, List.getElem?_eq_getElem hpo]; exact hi
    simp only [AxC, encI, Fin.getElem_fin, hx] at ha'
    simp at ha'
    subst ha'
    unfold IrC at hI ⊢
    obtain ⟨S, hS⟩ : ∃ S, runO l N (pre.map (ixO out)) = S := ⟨_, rfl⟩
    rw [hS] at hI
    have hgoal : ∀ W', CrS w.heap.size N c A wS.heap.size w (stO l S i) W' → CrS w.heap.size N c A wS.heap.size w (runO l N ((pre ++ [(⟨p, hp⟩ : Fin (nz out).length)]).map (ixO out))) W' := fun W' h => by
      rw [List.map_append, List.map_singleton, runO_snoc, hix, hS]; exact h
    clear hix hS hx
    obtain ⟨x, hx⟩ : ∃ x, l[i]? = some x := ⟨l[i]'(by rw [hllH.out]; exact hiN), List.getElem?_eq_getElem _⟩
    obtain ⟨ab, off, hA, _⟩ := hlH.out.2.1 (by omega)
    subst hA
    obtain ⟨d0, d1, d2, d3⟩ := cells_Work (hlH.out.below hI.bel) hx
    have hSl := hI.sms.len
    obtain ⟨z, hz⟩ : ∃ z, S[i]? = some z := ⟨S[i]'(by rw [hSl]; exact hiN), List.getElem?_eq_getElem _⟩
    obtain ⟨e0, e1⟩ := hI.sms.cells i z hz
    have c0 := hI.c0
    have c2 := hI.c2
    have hze := gt_get hz
    have hsx := szOf_get hx
    obtain ⟨W1, hW1⟩ : ∃ X, (W.setCell ⟨w.heap.size + 1, i, none⟩ (.int .i64 (wrap64 (z + x.size)))).drew = X := ⟨_, rfl⟩
    have z1' : CrS w.heap.size N c (some ⟨ab, off, none⟩) wS.heap.size w (S.set i (wrap64 (gt S i + szOf l i))) W1 := by
      rw [← hW1, hze, hsx]; exact (hI.put (Nat.le_refl _) hiN _).drew
    have hk1 : KeepsFrom wS.heap.size W W1 := by rw [← hW1]; exact ((KeepsOthers.setCell W _ _).trans (KeepsOthers.drew _)).from _
    have hb1' : BelBut (w.heap.size + 1) wS.heap.size W W1 := by rw [← hW1]; exact ((BelBut.refl _ _ W).setCell (p := ⟨w.heap.size + 1, i, none⟩) rfl _).trans (BelBut.of ((Below.refl _ _).drew))
    obtain ⟨S1, hS1⟩ : ∃ q, S.set i (wrap64 (gt S i + szOf l i)) = q := ⟨_, rfl⟩
    have hsto : stO l S i = (gOf l i).foldl (stI i) S1 := by unfold stO; rw [hS1]
    rw [hS1] at z1'
    rw [hsto] at hgoal
    clear hsto hS1 hze hsx
    have hxm := List.mem_of_getElem? hx
    have hxa := (hlH.out.2.2 x hxm).2.2.2
    have hgx : ∀ s ∈ x.after.l, hasId l s = true := fun s hs => allThere_get hokH.out.all hx hs
    have hgo := gOf_get hx
    have hIH := Lib.hid hI
    clear hI
    have hgoalH := Lib.hid hgoal
    clear hgoal
    have hxH := Lib.hid hx
    clear hx
    have hzH := Lib.hid hz
    clear hz
    have z1'H := Lib.hid z1'
    clear z1'
    have hk1H := Lib.hid hk1
    clear hk1
    have hb1'H := Lib.hid hb1'
    clear hb1'
    have hxaH := Lib.hid hxa
    clear hxa
    have hgxH := Lib.hid hgx
    clear hgx
    have hgoH := Lib.hid hgo
    clear hgo
    gi_wp2_with fail
    refine region_tail_in 11 (by kernel_rfl) (by kernel_rfl) (by kernel_rfl) ?_
    simp only [List.take_succ_cons, List.take_zero, List.drop_succ_cons, List.drop_zero]
    repeat still_step
    try refine wpStill_nil ?_
    go_wp2
    rw [hW1]
    clear hW1 d0 d1 d2 d3 e0 e1 c0 c2
    have c0 := z1'H.out.c0
    obtain ⟨d0, d1, d2, d3⟩ := cells_Work (hlH.out.below z1'H.out.bel) hxH.out
    unfold noOut
    gi_wp2_with fail
    gi_loopw [41] (fun v wr => CrL l i S1 w.heap.size N c (some ⟨ab, off, none⟩) wS.heap.size w x.after.n W v wr) (fun v _ => x.after.n - (intOf v).toNat)
    case atStart => exact ⟨0, Nat.zero_le _, rfl, by rw [List.take_zero]; exact z1'H.out, hk1H.out, hb1'H.out⟩
    case round =>
      clear d0 d1 d2 d3 c0
      obtain ⟨t, ht, rfl, hz2, hk2, hb2⟩ := hrel
      by_cases hlt : t < x.after.n
      · have hxal := hxaH.out.1.1
        have hxn : x.after.n ≤ 9223372036854775807 := Nat.le_trans hxaH.out.2.1 hxaH.out.2.2.1
        obtain ⟨s, hs⟩ : ∃ s, x.after.l[t]? = some s := ⟨x.after.l[t]'(by omega), List.getElem?_eq_getElem _⟩
        obtain ⟨b5, off5, hA5, _⟩ := hxaH.out.1.2.1 (by omega)
        have hq := hxaH.out.1.below hz2.bel
        rw [hA5] at hq ⊢
        have f0 := cell_StrW hq hs
        have c0 := hz2.c0
        have hid := hgxH.out s (List.mem_of_getElem? hs)
        obtain ⟨k, hk⟩ : ∃ k, ixOf l s = k := ⟨_, rfl⟩
        have hkN : k < N := by rw [← hk, ← hllH.out]; exact ixOf_lt hid
        have hgt : (gOf l i)[t]? = some k := by rw [hgoH.out, List.getElem?_map, hs]; exact congrArg some hk
        have htk : ((gOf l i).take (t + 1)).foldl (stI i) S1 = stI i (((gOf l i).take t).foldl (stI i) S1) k := by
          rw [List.take_add_one, hgt, Option.toList_some, List.foldl_append]; rfl
        obtain ⟨S2, hS2⟩ : ∃ q, ((gOf l i).take t).foldl (stI i) S1 = q := ⟨_, rfl⟩
        rw [hS2] at hz2 htk
        clear hq hgt hS2
        have hz2H := Lib.hid hz2
        clear hz2
        have hk2H := Lib.hid hk2
        clear hk2
        have hb2H := Lib.hid hb2
        clear hb2
        have hsH := Lib.hid hs
        clear hs
        have hidH := Lib.hid hid
        clear hid
        have htkH := Lib.hid htk
        clear htk
        have hkH := Lib.hid hk
        clear hk
        gi_wp2_with fail
        refine ⟨trivial, CallsIn.inRound lp (callsIn_wide.2 ?_)⟩
        refine (workAt_any (some ⟨ab, off, none⟩) N c l s wr (by omega) (hlH.out.below hz2H.out.bel) hokH.out.rise).mono ?_
        rintro e w5 ⟨k', rfl, hk', hw5⟩
        obtain rfl : k' = k := (hk' hidH.out).trans hkH.out
        rw [hidH.out]
        have hw5s := hw5.size
        have z5 := hz2H.out.below (by omega) (by omega) hw5
        have hk5 := hk2H.out.trans (keeps_below hw5)
        have hb5 := hb2H.out.trans (BelBut.of (hw5.mono hz2H.out.le))
        clear hk' hkH f0 c0 hz2H hk2H hb2H hw5 hidH
        obtain ⟨y, hy⟩ : ∃ y, S2[k']? = some y := ⟨S2[k']'(by rw [z5.sms.len]; exact hkN), List.getElem?_eq_getElem _⟩
        obtain ⟨z, hz⟩ : ∃ z, S2[i]? = some z := ⟨S2[i]'(by rw [z5.sms.len]; exact hiN), List.getElem?_eq_getElem _⟩
        obtain ⟨e0, _⟩ := z5.sms.cells k' y hy
        obtain ⟨e1, _⟩ := z5.sms.cells i z hz
        have c2 := z5.c2
        obtain ⟨W2, hW2⟩ : ∃ X, (w5.setCell ⟨w.heap.size + 1, k', none⟩ (.int .i64 (max y z))).drew = X := ⟨_, rfl⟩
        have R : CrL l i S1 w.heap.size N c (some ⟨ab, off, none⟩) wS.heap.size w x.after.n W (.int .i64 ((t : Int) + 1)) W2 := by
          refine ⟨t + 1, hlt, by go_num, ?_, ?_, ?_⟩
          · rw [htkH.out, stI, gt_get hy, gt_get hz, ← hW2]
            exact (z5.put (Nat.le_refl _) hkN _).drew
          · rw [← hW2]; exact hk5.trans (((KeepsOthers.setCell w5 _ _).trans (KeepsOthers.drew _)).from _)
          · rw [← hW2]; exact hb5.trans (((BelBut.refl _ _ w5).setCell (p := ⟨w.heap.size + 1, k', none⟩) rfl _).trans (BelBut.of ((Below.refl _ _).drew)))
        clear hy hz z5 hk5 hb5
        have RH := Lib.hid R
        clear R
        gi_wp2_with fail
        refine region_tail_in 12 (by kernel_rfl) (by kernel_rfl) (by kernel_rfl) ?_
        simp only [List.take_succ_cons, List.take_zero, List.drop_succ_cons, List.drop_zero]
        repeat still_step
        try refine wpStill_nil ?_
        go_wp2
        try rw [hW2]
        clear hW2 e0 e1 c2
        unfold noOut
        gi_wp2
        exact ⟨RH.out, by simp [intOf]; omega⟩
      · obtain rfl : t = x.after.n := by omega
        have hall : (gOf l i).take x.after.n = gOf l i := List.take_of_length_le (by rw [hgoH.out, List.length_map]; have := hxaH.out.1.1; omega)
        rw [hall] at hz2
        have R := hgoalH.out _ hz2
        clear hz2 hall
        have hk2H := Lib.hid hk2
        clear hk2
        have hb2H := Lib.hid hb2
        clear hb2
        have RH := Lib.hid R
        clear R
        gi_wp2
        exact ⟨hk2H.out, hb2H.out, RH.out⟩
  case done =>
    rintro D ys W hD rfl hI hK
    have hS := runO_all (n := (nz out).length) (by rw [nz_len]; omega) htpH.out hoN hCH.out hCbH.out
    obtain ⟨S, hSe⟩ : ∃ S, runO l N ((downF (nz out).length).map (ixO out)) = S := ⟨_, rfl⟩
    unfold IrC at hI
    rw [hSe] at hI hS
    have q2 := hI.c2
    have hsm := hI.sms
    have hbw := hI.bel
    have hlw := hI.le
    have hcr : Crit (gOf l) (szOf l) N (gt S) := fun j hj => by
      obtain ⟨m, h1, h2⟩ := hCH.out j hj
      exact ⟨m, h1.congr (fun _ _ => Iff.rfl) (fun k hk _ => (hS k hk).symm), by rw [hS j hj]; exact h2⟩
    have hbd : ∀ k, k < N → 0 ≤ gt S k ∧ gt S k ≤ 200000000 := fun k hk => by rw [hS k hk]; exact hCbH.out k hk
    clear hI hS hSe
    have hsmH := Lib.hid hsm
    clear hsm
    have hbwH := Lib.hid hbw
    clear hbw
    have hcrH := Lib.hid hcr
    clear hcr
    have hbdH := Lib.hid hbd
    clear hbd
    have hKH := Lib.hid hK
    clear hK
    have hfin : ∃ (B : Nat) (S' : List Int), (Ending.returned (.slice (some ⟨w.heap.size + 1, 0, none⟩) N N)) = .returned (.slice (some ⟨B, 0, none⟩) N N) ∧ Sms (W.putObj D (.deferred none)) B N S' ∧ Crit (gOf l) (szOf l) N (gt S') ∧ (∀ k, k < N → 0 ≤ gt S' k ∧ gt S' k ≤ 200000000) ∧ w.heap.size ≤ B ∧ B < (W.putObj D (.deferred none)).heap.size ∧ Below w.heap.size w (W.putObj D (.deferred none)) := by
      have hp := BelBut.put (q := w.heap.size) W D (.deferred none) hD
      have h1 := hp.size
      have h2 := hbwH.out.size
      have h3 := hp.block (w.heap.size + 1) (by omega) (by omega)
      exact ⟨w.heap.size + 1, S, rfl, hsmH.out.keep h3, hcrH.out, hbdH.out, by omega, by omega, hbwH.out.trans (belowK_b (w := w) (Nat.le_refl _) W D _ _ (by omega) hKH.out rfl rfl)⟩
    clear hsmH hcrH hbdH hbwH hszS hle hle1 hb1s
    have hfinH := Lib.hid hfin
    clear hfin
    gi_wp2
    refine ⟨by simp, .inl ⟨_, _, rfl, run_takeDeferred hKH.out, ?_⟩⟩
    exact ⟨.slice (some ⟨w.heap.size + 1, 0, none⟩) N N, by simp [results, Tryd.f12, go_sem], hfinH.out⟩
end Go.Proofs.YtbapkhkklglbaaaDoor.C9
