/-
 Several texts of mine as one, without what is not wanted here: XBackI, XCrQ, XCrP.
-/
import Derived.RangeFuncNested
import Derived.RangeFuncLeaves
import Derived.RangeFuncCalls
import Derived.RangeFuncBox
import Derived.Shelf.Abstract
import Derived.WalkKit
import Derived.OwnWalkIn
import Derived.TacticsInMore
import Derived.LoopNIn
import Derived.LoopIn
import Derived.IntWalk
import Derived.Lib.Hide
import Derived.Test.YtbnkoefljcekbaaGreatDoorRbCC9
import Derived.Test.YtbnkoefljcekbaaGreatDoorRbGg
import Derived.Test.YtbnkoefljcekbaaGreatDoorRbDC9
namespace Go.Proofs.YtbnkoefljcekbaaGreatDoor.C9
open Go.RowKit Go.Shelf
set_option linter.unusedVariables false
attribute [local go_sem] Oper.semAt_some

theorem cell_IntW {w : World} {b off m k : Nat} {l : List Int} {x : Int} (h : SlAt RInt w (some ⟨b, off, none⟩) m l) (hx : l[k]? = some x) : w.cell? ⟨b, off + k, none⟩ = some (.int .i64 x) := by
 have hk := (List.getElem?_eq_some_iff.1 hx).1
 obtain ⟨b', off', hA, hc⟩ := h.2.1 (by have := h.1; omega)
 obtain ⟨rfl, rfl⟩ : b = b' ∧ off = off' := by simpa using hA
 have := hc k x hx 0 _ rfl
 simpa [RInt] using this

/-- all blocks below n but q stand as they stood -/
structure BelBut (q n : Nat) (w w' : World) : Prop where
 size : w.heap.size ≤ w'.heap.size
 block : ∀ k, k < n → k ≠ q → w'.heap[k]? = w.heap[k]?
theorem BelBut.refl (q n : Nat) (w : World) : BelBut q n w w := ⟨Nat.le_refl _, fun _ _ _ => rfl⟩
theorem BelBut.trans {q n : Nat} {a b c : World} (h : BelBut q n a b) (k : BelBut q n b c) : BelBut q n a c := ⟨Nat.le_trans h.size k.size, fun j hj hq => (k.block j hj hq).trans (h.block j hj hq)⟩
theorem BelBut.cell {q n : Nat} {w w' : World} (h : BelBut q n w w') {p : Addr} (hp : p.block < n) (hq : p.block ≠ q) : w'.cell? p = w.cell? p := World.cell?_of_block (w := w) (h.block p.block hp hq)
theorem BelBut.of {q n : Nat} {w w' : World} (h : Below n w w') : BelBut q n w w' := ⟨h.size, fun k hk _ => h.block k hk⟩
theorem BelBut.put {q n : Nat} (W : World) (l : Nat) (o' : Obj) (hl : n ≤ l) : BelBut q n W (W.putObj l o') := by
 refine ⟨by simp [World.putObj], fun k hk _ => ?_⟩
 simp only [World.putObj]
 rw [Array.getElem?_setIfInBounds_ne (by omega)]
theorem BelBut.setCell {q n : Nat} {a w : World} (h : BelBut q n a w) {p : Addr} (hp : p.block = q) (u : Value) : BelBut q n a (w.setCell p u) :=
 ⟨by simpa using h.size, fun k hk hq => (Below.heap_setCell w p u k (by rw [hp]; exact hq)).trans (h.block k hk hq)⟩
def downF (n : Nat) : List (Fin n) := (List.finRange n).reverse
theorem downF_len (n : Nat) : (downF n).length = n := by simp [downF]
theorem downF_get {n k : Nat} (hk : k < n) : (downF n)[k]? = some ⟨n - 1 - k, by omega⟩ := by
 rw [List.getElem?_eq_getElem (by simpa [downF] using hk)]
 simp [downF, List.getElem_reverse]
theorem downF_take {n k : Nat} (hk : k < n) : (downF n).take (k + 1) = (downF n).take k ++ [⟨n - 1 - k, by omega⟩] := by
 rw [List.take_add_one, downF_get hk]; rfl
/-- what a round hands to the body -/
def encI (l : List Int) (i : Fin l.length) : Array Value := #[.int .i64 (i.val : Int), (.int .i64 l[i])]

set_option maxRecDepth 100000 in
set_option maxHeartbeats 2000000 in
theorem back1_in (F : Fence) (n : Nat) (h8 : F.fn 143) (hro : F.round = none) (hn : 1 ≤ n) (lp Bs n₀ len cap : Nat) (A : Option Addr) (l : List Int) (hlen : len ≤ 1000) (q : Nat) (hA : 0 < len → ∃ b off, A = some ⟨b, off, none⟩ ∧ b < n₀ ∧ b ≠ q) (hBn : Bs < n₀) (hBq : Bs ≠ q)
  (J Jx : List (Fin l.length) → World → Prop)
  (hY : ∀ pre (x : Fin l.length) W, J pre W → pre.length < l.length → YieldAt F (n - 1) Tryz.prog lp (encI l x) W fun e W' =>
   (e = .returned (.bool true) ∧ J (pre ++ [x]) W' ∧ BelBut q n₀ W W') ∨ (e = .returned (.bool false) ∧ Jx (pre ++ [x]) W'))
  (W : World) (hBs : W.cell? ⟨Bs, 0, none⟩ = some (.slice A len cap)) (hsl : SlAt RInt W A len l) (h0 : J [] W) :
  CallsIn F n Tryz.prog 143 #[.func (.yield lp) #[] #[], .pointer (some ⟨Bs, 0, none⟩)] W fun e W' => (∃ v, e = .returned v) ∧
   (J (downF l.length) W' ∨ ∃ k, k ≤ l.length ∧ Jx ((downF l.length).take k) W') := by
 have hll := hsl.1
 have n1 : IntKind.i64.wrap ((len : Int) - 1) = (len : Int) - 1 := IntWalk.i64_in _ (by omega)
 refine callsIn_of_wp Tryz.func143 rfl h8 ?_ hro
 simp only [Tryz.ntmps143, List.size_toArray, List.length_cons, List.length_nil, Nat.reduceAdd, Nat.reduceSub, Array.replicate_succ, Array.replicate_zero, List.push_toArray, List.append_toArray, List.nil_append, List.cons_append]
 have hllH := Lib.hid hll
 clear hll
 have hslH := Lib.hid hsl
 clear hsl
 gi_wp2
 clear n1
 gi_loopw [3] (fun i wr => ∃ k : Nat, k ≤ len ∧ i = .int .i64 ((len : Int) - 1 - k) ∧ J ((downF l.length).take k) wr ∧ BelBut q n₀ W wr)
  (fun i _ => (intOf i + 1).toNat)
 case atStart => exact ⟨0, Nat.zero_le _, by simp, h0, BelBut.refl _ _ _⟩
 case round =>
  obtain ⟨k, hk, rfl, hJs, hnx⟩ := hrel
  have hc0 := (hnx.cell (p := ⟨Bs, 0, none⟩) hBn hBq).trans hBs
  by_cases hlt : k < len
  ·obtain ⟨b, off, hA1, hb, hbq⟩ := hA (by omega)
   subst hA1
   have hkl : k < l.length := by rw [hllH.out]; exact hlt
   obtain ⟨p, hp⟩ : ∃ p : Nat, p = l.length - 1 - k := ⟨_, rfl⟩
   have hpl : p < l.length := by omega
   have hpI : (len : Int) - 1 - k = (p : Int) := by have := hllH.out; omega
   have hx : l[p]? = some l[p] := List.getElem?_eq_getElem hpl
   have d0 := cell_IntW hslH.out hx
   have c0 := (hnx.cell (p := ⟨b, off + p, none⟩) hb hbq).trans d0
   clear d0
   obtain ⟨fn, tmps, assign, body, hy, hR⟩ := hY _ (⟨p, hpl⟩ : Fin l.length) wr hJs (by rw [List.length_take, downF_len]; omega)
   dsimp only [encI, Fin.getElem_fin] at hy
   have htk : (downF l.length).take (k + 1) = (downF l.length).take k ++ [⟨p, hpl⟩] := by subst hp; exact downF_take hkl
   obtain ⟨x, hxe⟩ : ∃ x, x = l[p] := ⟨_, rfl⟩
   rw [← hxe] at c0 hy
   have h2 : (p : Int) < (len : Int) := by have := hllH.out; omega
   rw [hpI]
   have n2 : IntKind.i64.wrap ((p : Int) - 1) = (p : Int) - 1 := IntWalk.i64_in _ (by omega)
   have hmeas : ((p : Int) - 1 + 1).toNat < ((p : Int) + 1).toNat := by omega
   have hnext : ((len : Int) - 1 - ((k + 1 : Nat) : Int)) = (p : Int) - 1 := by omega
   clear hx
   have hpH := Lib.hid hp
   clear hp
   have hxeH := Lib.hid hxe
   clear hxe
   have htkH := Lib.hid htk
   clear htk
   have hpIH := Lib.hid hpI
   clear hpI
   have hnextH := Lib.hid hnext
   clear hnext
   have hmeasH := Lib.hid hmeas
   clear hmeas
   gi_wp2
   refine hR.mono ?_
   rintro e W3 (⟨rfl, hJ3, hk3⟩ | ⟨rfl, hJx3⟩)
   ·rw [← htkH.out] at hJ3
    gi_wp2
    go_roundw
    case rel => exact ⟨k + 1, by omega, by rw [hnextH.out], hJ3, hnx.trans hk3⟩
    case measure => exact hmeasH.out
   ·rw [← htkH.out] at hJx3
    gi_wp2
    refine bodyPost_ret (results_none rfl _ _ _) rfl ?_
    exact ⟨⟨_, rfl⟩, .inr ⟨k + 1, by omega, hJx3⟩⟩
  ·obtain rfl : k = len := by omega
   have hall : (downF l.length).take k = downF l.length := List.take_of_length_le (by rw [downF_len, hllH.out]; exact Nat.le_refl _)
   rw [hall] at hJs
   have hz : (k : Int) - 1 - k = -1 := by omega
   rw [hz]
   clear hz hall
   gi_wp2
   go_end0
   exact ⟨⟨_, rfl⟩, .inl hJs⟩

set_option maxRecDepth 100000 in
set_option maxHeartbeats 1000000 in
theorem back_any (A : Option Addr) (len cap : Nat) (w : World) :
  Calls Tryz.prog 97 #[.slice A len cap] w fun e w' =>
   e = .returned (.func (.func 143) #[] #[.pointer (some ⟨w.heap.size, 0, none⟩)]) ∧ w' = w.alloc (.cells #[.slice A len cap] 56) := by
 go_enter Tryz.func97, Tryz.ntmps97
 go_wp2
 go_ret
 exact ⟨rfl, rfl⟩

theorem back_stops (F : Fence) (n : Nat) (h8 : F.fn 143) (hro : F.round = none) (hn : 1 ≤ n) (Bs n₀ len cap : Nat) (A : Option Addr) (l : List Int) (hlen : len ≤ 1000) (q : Nat) (hA : 0 < len → ∃ b off, A = some ⟨b, off, none⟩ ∧ b < n₀ ∧ b ≠ q) (hBn : Bs < n₀) (hBq : Bs ≠ q) (w : World) (hn₀ : n₀ ≤ w.heap.size)
  (hc : w.cell? ⟨Bs, 0, none⟩ = some (.slice A len cap)) (hsl : SlAt RInt w A len l) :
  SeqStopsK F n Tryz.prog 143 #[.pointer (some ⟨Bs, 0, none⟩)] (encI l) (BelBut q n₀) (fun ys => ys = downF l.length)
   (fun pre => ∃ k, k ≤ l.length ∧ pre = (downF l.length).take k) l.length w := fun lp J Jx W hW _ _ hY h0 => by
 refine (back1_in F n h8 hro hn lp Bs n₀ len cap A l hlen q hA hBn hBq J Jx hY W ((hW.cell (p := ⟨Bs, 0, none⟩) (by show Bs < _; omega)).trans hc) (hsl.below hW) h0).mono ?_
 rintro e W' ⟨he, hj | ⟨k, hk, hj⟩⟩
 ·exact ⟨he, .inl ⟨_, rfl, hj⟩⟩
 ·exact ⟨he, .inr ⟨_, ⟨k, hk, rfl⟩, hj⟩⟩
end Go.Proofs.YtbnkoefljcekbaaGreatDoor.C9

namespace Go.Proofs.YtbnkoefljcekbaaGreatDoor.C9
open Go.RowKit
set_option linter.unusedVariables false

def stI (i : Nat) (S : List Int) (k : Nat) : List Int := S.set k (max (gt S k) (gt S i))
def stO (l : List Work) (S : List Int) (i : Nat) : List Int := (gOf l i).foldl (stI i) (S.set i (wrap64 (gt S i + szOf l i)))
def runO (l : List Work) (N : Nat) (is : List Nat) : List Int := is.foldl (stO l) (List.replicate N 0)
theorem runO_snoc (l : List Work) (N : Nat) (is : List Nat) (i : Nat) : runO l N (is ++ [i]) = stO l (runO l N is) i := by unfold runO; rw [List.foldl_append]; rfl
theorem fold_bi {S1 : List Int} {i : Nat} {c : Int} (hc : gt S1 i = c) : ∀ (ks pre : List Nat) (S : List Int), Bi S1 c pre S → (∀ k ∈ ks, k < S1.length ∧ k ≠ i) → i ∉ pre → Bi S1 c (pre ++ ks) (ks.foldl (stI i) S)
 | [], pre, S, h, _, _ => by simpa using h
 | k :: ks, pre, S, h, hk, hi => by
  have e : gt S i = c := by rw [h.at_, if_neg hi, hc]
  have h2 := h.step (k := k) (by rw [h.len]; exact (hk k List.mem_cons_self).1)
  have h3 := fold_bi hc ks (pre ++ [k]) (stI i S k) (by unfold stI; rw [e]; exact h2) (fun j hj => hk j (List.mem_cons_of_mem _ hj)) (fun h => by
   rcases List.mem_append.1 h with h | h
   ·exact hi h
   ·exact (hk k List.mem_cons_self).2 (List.mem_singleton.1 h).symm)
  rw [List.append_assoc] at h3
  exact h3
def ixO (out : List Nat) {n : Nat} (x : Fin n) : Nat := out.getD x.val 0
theorem runO_bk {l : List Work} {N : Nat} {C : Nat → Int} {out : List Nat} {n : Nat} (hn : n = N) (ht : Topo (gOf l) N out) (hl : out.length = N) (hC : Crit (gOf l) (szOf l) N C) (hb : ∀ j, j < N → 0 ≤ C j ∧ C j ≤ 200000000) :
  ∀ k, k ≤ N → Bk (gOf l) (szOf l) N C out k (runO l N (((downF n).take k).map (ixO out)))
 | 0, _ => by simpa [runO] using Bk.nil hl
 | k + 1, hk => by
  subst hn
  have ih := runO_bk rfl ht hl hC hb k (by omega)
  rw [downF_take (by omega), List.map_append, List.map_singleton, runO_snoc]
  have hi : out[n - 1 - k]? = some (ixO out (⟨n - 1 - k, by omega⟩ : Fin n)) := by
   unfold ixO
   rw [List.getD_eq_getElem?_getD, List.getElem?_eq_getElem (by omega)]; rfl
  obtain ⟨i, hie⟩ : ∃ i, ixO out (⟨n - 1 - k, by omega⟩ : Fin n) = i := ⟨_, rfl⟩
  rw [hie] at hi ⊢
  obtain ⟨S, hS⟩ : ∃ S, runO l n (((downF n).take k).map (ixO out)) = S := ⟨_, rfl⟩
  rw [hS] at ih ⊢
  obtain ⟨t0, t1, t2, t3, t4⟩ := ih.turn ht hl hC (by omega) hi
  refine ih.step ht hl hC (fun j hj => (hb j hj).1) (by omega) hi ?_
  unfold stO
  have hbi := hb i t0
  rw [t1, IntWalk.wrap64_in _ (by omega)]
  have hlt : i < S.length := by rw [ih.len]; exact t0
  have := fold_bi (S1 := S.set i (C i)) (i := i) (c := C i) (by rw [gt_set hlt, if_pos rfl]) (gOf l i) [] _ (Bi.nil _ _) (fun k hk => ⟨by rw [List.length_set, ih.len]; exact (t4 k hk).1, fun e => by subst e; exact t2 hk⟩) (by simp)
  simpa using this
theorem runO_all {l : List Work} {N : Nat} {C : Nat → Int} {out : List Nat} {n : Nat} (hn : n = N) (ht : Topo (gOf l) N out) (hl : out.length = N) (hC : Crit (gOf l) (szOf l) N C) (hb : ∀ j, j < N → 0 ≤ C j ∧ C j ≤ 200000000) :
  ∀ j, j < N → gt (runO l N ((downF n).map (ixO out))) j = C j := by
 have h := runO_bk hn ht hl hC hb N (Nat.le_refl _)
 rw [List.take_of_length_le (by rw [downF_len]; omega)] at h
 exact h.all ht hl
end Go.Proofs.YtbnkoefljcekbaaGreatDoor.C9

namespace Go.Proofs.YtbnkoefljcekbaaGreatDoor.C9
open Go.ChangeShapes Go.WideShapes Go.Deep Go.RowKit Go.Shelf
set_option linter.unusedVariables false
set_option linter.unusedSimpArgs false
attribute [local go_sem] Oper.semAt_some

/-- the boxes of critical, its row, and what lay ahead -/
structure CrS (K N c : Nat) (A : Option Addr) (n₀ : Nat) (w : World) (S : List Int) (W : World) : Prop where
 c0 : W.cell? ⟨K, 0, none⟩ = some (.slice A N c)
 c2 : W.cell? ⟨K + 1 + 1, 0, none⟩ = some (.slice (some ⟨K + 1, 0, none⟩) N N)
 sms : Sms W (K + 1) N S
 bel : Below w.heap.size w W
 le : n₀ ≤ W.heap.size

theorem keeps_below {B : Nat} {W w' : World} (hb : Below W.heap.size W w') : KeepsFrom B W w' :=
 ⟨hb.size, fun k o _ hk _ => (hb.block k (Array.getElem?_eq_some_iff.1 hk).1).trans hk⟩
theorem CrS.grown {K N c n₀ : Nat} {A : Option Addr} {w : World} {S : List Int} {W W' : World} {row : Option Nat} (h : CrS K N c A n₀ w S W) (hK : K + 2 < n₀) (hw : w.heap.size ≤ n₀) (hg : W.grownBy W' row) (hr : ∀ r, row = some r → n₀ ≤ r) : CrS K N c A n₀ w S W' := by
 have e : ∀ k, k < n₀ → W'.heap[k]? = W.heap[k]? := fun k hk => hg.block k (Nat.lt_of_lt_of_le hk h.le) (fun e => by have := hr k e.symm; omega)
 refine ⟨(World.cell?_of_block (a := ⟨K, 0, none⟩) (e K (by omega))).trans h.c0, (World.cell?_of_block (a := ⟨K + 1 + 1, 0, none⟩) (e (K + 1 + 1) (by omega))).trans h.c2, h.sms.keep (e (K + 1) (by omega)), ?_, Nat.le_trans h.le hg.size⟩
 exact h.bel.grown hg h.bel.size (fun k e => Nat.le_trans hw (hr k e))
theorem CrS.below {K N c n₀ : Nat} {A : Option Addr} {w : World} {S : List Int} {W W' : World} (h : CrS K N c A n₀ w S W) (hK : K + 2 < n₀) (hw : w.heap.size ≤ n₀) (hb : Below W.heap.size W W') : CrS K N c A n₀ w S W' := by
 have e : ∀ k, k < n₀ → W'.heap[k]? = W.heap[k]? := fun k hk => hb.block k (Nat.lt_of_lt_of_le hk h.le)
 exact ⟨(World.cell?_of_block (a := ⟨K, 0, none⟩) (e K (by omega))).trans h.c0, (World.cell?_of_block (a := ⟨K + 1 + 1, 0, none⟩) (e (K + 1 + 1) (by omega))).trans h.c2, h.sms.keep (e (K + 1) (by omega)), h.bel.trans (hb.mono h.bel.size), Nat.le_trans h.le hb.size⟩
theorem CrS.put {K N c n₀ : Nat} {A : Option Addr} {w : World} {S : List Int} {W : World} (h : CrS K N c A n₀ w S W) (hK : w.heap.size ≤ K) {i : Nat} (hi : i < N) (x : Int) : CrS K N c A n₀ w (S.set i x) (W.setCell ⟨K + 1, i, none⟩ (.int .i64 x)) :=
 ⟨(World.cell?_setCell_other _ _ _ _ (by simp)).trans h.c0, (World.cell?_setCell_other _ _ _ _ (by simp)).trans h.c2, h.sms.put hi x, h.bel.setCell (by show w.heap.size ≤ K + 1; omega) _, by simpa using h.le⟩
theorem CrS.drew {K N c n₀ : Nat} {A : Option Addr} {w : World} {S : List Int} {W : World} (h : CrS K N c A n₀ w S W) : CrS K N c A n₀ w S W.drew :=
 ⟨h.c0, h.c2, h.sms.keep rfl, h.bel.drew, h.le⟩
theorem CrS.start (w : World) (A : Option Addr) (N c : Nat) :
  CrS w.heap.size N c A (w.heap.size + 1 + 1 + 1) w (List.replicate N 0) (((w.alloc (.cells #[.slice A N c] 23)).alloc (.cells (madeI N) 3)).alloc (.cells #[.slice (some ⟨w.heap.size + 1, 0, none⟩) N N] 56)) := by
 have b0 := ((Boxed.new w 23 (.slice A N c)).alloc (.cells (madeI N) 3)).alloc (.cells #[.slice (some ⟨w.heap.size + 1, 0, none⟩) N N] 56)
 have b2 := Boxed.new ((w.alloc (.cells #[.slice A N c] 23)).alloc (.cells (madeI N) 3)) 56 (.slice (some ⟨w.heap.size + 1, 0, none⟩) N N)
 have hm := Sms.made (w.alloc (.cells #[.slice A N c] 23)) N
 simp only [World.size_alloc] at b0 b2 hm
 refine ⟨b0.cell, b2.cell, hm.keep ?_, (((Below.refl _ _).alloc (Nat.le_refl _) _).alloc (by simp) _).alloc (by simp; omega) _, by simp⟩
 exact Below.heap_alloc _ _ _ (by simp)
/-- the invariant of the rounds -/
def IrC (l : List Work) (out : List Nat) (n K N c : Nat) (A : Option Addr) (n₀ : Nat) (w : World) (pre : List (Fin n)) (W : World) : Prop := CrS K N c A n₀ w (runO l N (pre.map (ixO out))) W
def AxC (T : Array Value) (l : List Int) (x : Fin l.length) (a' : Act) (_ : World) : Prop :=
 a' = { tmps := ((#[22, 23].zip (encI l x)).foldl (fun t (p, v) => t.setIfInBounds p v) T).setIfInBounds 7 (.int .i64 l[x]), defers := [] }
def CrL (l : List Work) (i : Nat) (S1 : List Int) (K N c : Nat) (A : Option Addr) (n₀ : Nat) (w : World) (an : Nat) (W : World) (v : Value) (wr : World) : Prop :=
 ∃ t : Nat, t ≤ an ∧ v = .int .i64 t ∧ CrS K N c A n₀ w (((gOf l i).take t).foldl (stI i) S1) wr ∧ KeepsFrom n₀ W wr ∧ BelBut (K + 1) n₀ W wr
theorem crf_law {g : Operand} {assign body : Code} {Q : Exit → Act → World → Prop} {T : Array Value} {wS w : World} {lw : List Work} {out : List Nat} {l : List Int} {Bs len cap K N c : Nat} {A A0 : Option Addr} (hg : (Act.mk T []).eval g = .func (.func 143) #[] #[.pointer (some ⟨Bs, 0, none⟩)])
  (hlen : len ≤ 1000) (hA : 0 < len → ∃ b off, A = some ⟨b, off, none⟩ ∧ b < wS.heap.size ∧ b ≠ K + 1) (hBn : Bs < wS.heap.size) (hBq : Bs ≠ K + 1) (hc : wS.cell? ⟨Bs, 0, none⟩ = some (.slice A len cap)) (hsl : SlAt RInt wS A len l) (hK : K + 2 < wS.heap.size) (hwS : w.heap.size ≤ wS.heap.size)
  (h0 : CrS K N c A0 wS.heap.size w (List.replicate N 0) wS)
  (hassign : ∀ (lp : Nat) (pre : List (Fin l.length)) (x : Fin l.length) (W : World) (Kp : Act → World → Prop), IrC lw out l.length K N c A0 wS.heap.size w pre W → (∀ a' W', KeepsFrom wS.heap.size W W' → BelBut (K + 1) wS.heap.size W W' → IrC lw out l.length K N c A0 wS.heap.size w pre W' → AxC T l x a' W' → Kp a' W') →
   assign.wpIn (Fence.wide.inRound lp) (9 - 1 - 1) Tryz.prog (Exit.then Kp (fun _ _ _ => False)) { tmps := (#[22, 23].zip (encI l x)).foldl (fun t (p, v) => t.setIfInBounds p v) T, defers := [] } W)
  (hbody : ∀ (lp : Nat) (pre : List (Fin l.length)) (x : Fin l.length) (a' : Act) (W : World), wS.heap.size ≤ lp → (∃ r, W.heap[lp]? = some (.loop r)) → IrC lw out l.length K N c A0 wS.heap.size w pre W → AxC T l x a' W → pre.length < l.length → body.wpIn (Fence.wide.inRound lp) (9 - 1 - 1) Tryz.prog (ownPostG wS.heap.size (BelBut (K + 1) wS.heap.size) (IrC lw out l.length K N c A0 wS.heap.size w) (fun _ _ _ => False) (pre ++ [x]) W) a' W)
  (hdone : ∀ (D : Nat) (xs : List (Fin l.length)) (W : World), wS.heap.size ≤ D → xs = downF l.length → IrC lw out l.length K N c A0 wS.heap.size w xs W → W.heap[D]? = some (.deferred (some [])) → Q .normal { tmps := T, defers := { target := .collected D, args := #[] } :: [] } W) :
  (Code.rangeFunc g #[22, 23] assign body).wpIn Fence.wide 9 Tryz.prog Q { tmps := T, defers := [] } wS :=
 wpIn_rangeFunc_ownH rfl (by omega) hg trivial (enters_of Tryz.func143 (by kernel_rfl) rfl)
  (back_stops Fence.wide (9 - 1) trivial rfl (by omega) Bs wS.heap.size len cap A l hlen (K + 1) hA hBn hBq wS (Nat.le_refl _) hc hsl) BelBut.trans (fun W l o o' hl _ _ _ => BelBut.put W l o' hl) (Below.refl _ _) (fun _ => rfl)
  (IrC lw out l.length K N c A0 wS.heap.size w) (fun _ _ _ => False)
  (fun s W W' row hs hg hr => CrS.grown hs hK hwS hg (fun r e => (hr r e).1))
  (fun cd s W W' row hs hg hr => hs)
  h0
  (AxC T l)
  (fun x a' _ X Y row hs hg hr => hs)
  hassign hbody hdone (fun D c pre W _ _ h => h.elim)

set_option maxRecDepth 100000 in
set_option maxHeartbeats 16000000 in
theorem crit_any (A : Option Addr) (N c : Nat) (l : List Work) (w : World) (hl : SlAt RWork w A N l) (hok : WOk l) :
  Calls Tryz.prog 55 #[.slice A N c] w fun e w' => ∃ (B : Nat) (S : List Int), e = .returned (.slice (some ⟨B, 0, none⟩) N N) ∧ Sms w' B N S ∧ Crit (gOf l) (szOf l) N (gt S) ∧ (∀ k, k < N → 0 ≤ gt S k ∧ gt S k ≤ 200000000) ∧ w.heap.size ≤ B ∧ B < w'.heap.size ∧ Below w.heap.size w w' := by
 have hll := hl.1
 have hN2 : N ≤ 200 := by have := hok.len; omega
 obtain ⟨C, hC, hCb⟩ := hok.crit
 rw [hll] at hC hCb
 have hno : ¬ Cyc (gOf l) N := by have := hok.nocyc; rw [hll] at this; exact this
 have hgl : ∀ i, i < N → ∀ k ∈ gOf l i, k < N := by have := gOf_lt hok.all; rw [hll] at this; exact this
 have hmk := run_makeInts N (by omega)
 have hlH := Lib.hid hl
 clear hl
 have hllH := Lib.hid hll
 clear hll
 have hokH := Lib.hid hok
 clear hok
 have hCH := Lib.hid hC
 clear hC
 have hCbH := Lib.hid hCb
 clear hCb
 have hnoH := Lib.hid hno
 clear hno
 have hglH := Lib.hid hgl
 clear hgl
 refine (callsIn_wide (n := 9)).1 ?_
 refine callsIn_of_wp_marks Tryz.func55 rfl trivial ?_ rfl
 simp only [Tryz.ntmps55, List.size_toArray, List.length_cons, List.length_nil, Nat.reduceAdd, Nat.reduceSub, Array.replicate_succ, Array.replicate_zero, List.push_toArray, List.append_toArray, List.nil_append, List.cons_append]
 gi_wp2_with fail
 refine ⟨trivial, callsIn_wide.2 ?_⟩
 have z0 := CrS.start w A N c
 obtain ⟨w0, hw0⟩ : ∃ W, W = (((w.alloc (.cells #[.slice A N c] 23)).alloc (.cells (madeI N) 3)).alloc (.cells #[.slice (some ⟨w.heap.size + 1, 0, none⟩) N N] 56)) := ⟨_, rfl⟩
 rw [← hw0] at z0 ⊢
 clear hw0
 refine (ordered_own A N c l w0 (by omega) (hlH.out.below z0.bel) hokH.out.rise hokH.out.all).mono ?_
 rintro e w1 ⟨⟨OA, on, oc, out, ok, rfl, hO, hon, hoke, htp, hms, hb1⟩, hfr⟩
 have hle := z0.le
 have hoN : out.length = N := (topo_iff hglH.out htp hms).2 hnoH.out
 rw [hoN] at hon
 obtain rfl : N = on := hon.symm
 have z1 := z0.below (by omega) (by omega) hb1
 have hb1s := hb1.size
 clear hmk z0
 have hOH := Lib.hid hO
 clear hO
 have htpH := Lib.hid htp
 clear htp
 have hmsH := Lib.hid hms
 clear hms
 have hb1H := Lib.hid hb1
 clear hb1
 have z1H := Lib.hid z1
 clear z1
 gi_wp2_with fail
 refine ⟨trivial, callsIn_wide.2 ?_⟩
 refine (back_any OA N oc _).mono ?_
 rintro e w2 ⟨rfl, rfl⟩
 have hba : Below w1.heap.size w1 (w1.alloc (.cells #[.slice OA N oc] 56)) := (Below.refl _ _).alloc (Nat.le_refl _) _
 have xsl := Boxed.new w1 56 (.slice OA N oc)
 obtain ⟨wS, hwS⟩ : ∃ W, W = w1.alloc (.cells #[.slice OA N oc] 56) := ⟨_, rfl⟩
 have hszS : wS.heap.size = w1.heap.size + 1 := by rw [hwS]; simp
 rw [← hwS] at hba xsl
 have zS' := z1H.out.below (by omega) (by omega) hba
 have hle1 := z1H.out.le
 have zS : CrS w.heap.size N c A wS.heap.size w (List.replicate N 0) wS := ⟨zS'.c0, zS'.c2, zS'.sms, zS'.bel, Nat.le_refl _⟩
 clear zS'
 have xslH := Lib.hid xsl
 clear xsl
 have zSH := Lib.hid zS
 clear zS
 have hbaH := Lib.hid hba
 clear hba
 gi_wp2_with fail
 rw [← hwS]
 clear hwS
 refine crf_law (lw := l) (out := out) (l := nz out) (K := w.heap.size) (N := N) (c := c) (A := OA) (A0 := A) (len := N) (cap := oc) (w := w) (Bs := w1.heap.size) rfl (by omega) ?hA (by omega) (by omega) xslH.out.cell (hOH.out.below hbaH.out) (by omega) (by omega) zSH.out ?assign ?body ?done
 case hA =>
  intro h0
  obtain ⟨b7, off7, hA7, hc7⟩ := hOH.out.2.1 h0
  have hx7 : (nz out)[0]? = some ((nz out)[0]'(by rw [nz_len]; omega)) := List.getElem?_eq_getElem _
  have h8 : b7 < w1.heap.size := cell?_lt (hc7 0 _ hx7 0 (.int .i64 ((nz out)[0]'(by rw [nz_len]; omega))) rfl)
  have h9 := hfr b7 off7 N oc ok (by rw [hA7])
  exact ⟨b7, off7, hA7, by omega, by omega⟩
 case assign =>
  rintro lp pre x W K hI hK
  dsimp only [encI]
  gi_wp2
  refine hK _ _ (KeepsFrom.refl _ _) (BelBut.refl _ _ _) hI ?_
  simp [AxC, encI]
 case body =>
  rintro lp pre ⟨p, hp⟩ a' W hlp hrec hI ha' hlt
  clear hrec hlp hlt
  have hpo : p < out.length := by rw [nz_len] at hp; exact hp
  obtain ⟨i, hi⟩ : ∃ i, out[p] = i := ⟨_, rfl⟩
  have hx : (nz out)[p]'hp = (i : Int) := by simp [nz, hi]
  have hiN : i < N := htpH.out.lt i (by rw [← hi]; exact List.getElem_mem hpo)
  have hix : ixO out (⟨p, hp⟩ : Fin (nz out).length) = i := by unfold ixO; rw [List.getD_eq_getElem?_getD, List.getElem?_eq_getElem hpo]; exact hi
  simp only [AxC, encI, Fin.getElem_fin, hx] at ha'
  simp at ha'
  subst ha'
  unfold IrC at hI ⊢
  obtain ⟨S, hS⟩ : ∃ S, runO l N (pre.map (ixO out)) = S := ⟨_, rfl⟩
  rw [hS] at hI
  have hgoal : ∀ W', CrS w.heap.size N c A wS.heap.size w (stO l S i) W' → CrS w.heap.size N c A wS.heap.size w (runO l N ((pre ++ [(⟨p, hp⟩ : Fin (nz out).length)]).map (ixO out))) W' := fun W' h => by
   rw [List.map_append, List.map_singleton, runO_snoc, hix, hS]; exact h
  clear hix hS hx
  obtain ⟨x, hx⟩ : ∃ x, l[i]? = some x := ⟨l[i]'(by rw [hllH.out]; exact hiN), List.getElem?_eq_getElem _⟩
  obtain ⟨ab, off, hA, _⟩ := hlH.out.2.1 (by omega)
  subst hA
  obtain ⟨d0, d1, d2, d3⟩ := cells_Work (hlH.out.below hI.bel) hx
  have hSl := hI.sms.len
  obtain ⟨z, hz⟩ : ∃ z, S[i]? = some z := ⟨S[i]'(by rw [hSl]; exact hiN), List.getElem?_eq_getElem _⟩
  obtain ⟨e0, e1⟩ := hI.sms.cells i z hz
  have c0 := hI.c0
  have c2 := hI.c2
  have hze := gt_get hz
  have hsx := szOf_get hx
  obtain ⟨W1, hW1⟩ : ∃ X, (W.setCell ⟨w.heap.size + 1, i, none⟩ (.int .i64 (wrap64 (z + x.size)))).drew = X := ⟨_, rfl⟩
  have z1' : CrS w.heap.size N c (some ⟨ab, off, none⟩) wS.heap.size w (S.set i (wrap64 (gt S i + szOf l i))) W1 := by
   rw [← hW1, hze, hsx]; exact (hI.put (Nat.le_refl _) hiN _).drew
  have hk1 : KeepsFrom wS.heap.size W W1 := by rw [← hW1]; exact ((KeepsOthers.setCell W _ _).trans (KeepsOthers.drew _)).from _
  have hb1' : BelBut (w.heap.size + 1) wS.heap.size W W1 := by rw [← hW1]; exact ((BelBut.refl _ _ W).setCell (p := ⟨w.heap.size + 1, i, none⟩) rfl _).trans (BelBut.of ((Below.refl _ _).drew))
  obtain ⟨S1, hS1⟩ : ∃ q, S.set i (wrap64 (gt S i + szOf l i)) = q := ⟨_, rfl⟩
  have hsto : stO l S i = (gOf l i).foldl (stI i) S1 := by unfold stO; rw [hS1]
  rw [hS1] at z1'
  rw [hsto] at hgoal
  clear hsto hS1 hze hsx
  have hxm := List.mem_of_getElem? hx
  have hxa := (hlH.out.2.2 x hxm).2.2.2
  have hgx : ∀ s ∈ x.after.l, hasId l s = true := fun s hs => allThere_get hokH.out.all hx hs
  have hgo := gOf_get hx
  have hIH := Lib.hid hI
  clear hI
  have hgoalH := Lib.hid hgoal
  clear hgoal
  have hxH := Lib.hid hx
  clear hx
  have hzH := Lib.hid hz
  clear hz
  have z1'H := Lib.hid z1'
  clear z1'
  have hk1H := Lib.hid hk1
  clear hk1
  have hb1'H := Lib.hid hb1'
  clear hb1'
  have hxaH := Lib.hid hxa
  clear hxa
  have hgxH := Lib.hid hgx
  clear hgx
  have hgoH := Lib.hid hgo
  clear hgo
  gi_wp2_with fail
  refine region_tail_in 11 (by kernel_rfl) (by kernel_rfl) (by kernel_rfl) ?_
  simp only [List.take_succ_cons, List.take_zero, List.drop_succ_cons, List.drop_zero]
  repeat still_step
  try refine wpStill_nil ?_
  go_wp2
  rw [hW1]
  clear hW1 d0 d1 d2 d3 e0 e1 c0 c2
  have c0 := z1'H.out.c0
  obtain ⟨d0, d1, d2, d3⟩ := cells_Work (hlH.out.below z1'H.out.bel) hxH.out
  unfold noOut
  gi_wp2_with fail
  gi_loopw [41] (fun v wr => CrL l i S1 w.heap.size N c (some ⟨ab, off, none⟩) wS.heap.size w x.after.n W v wr) (fun v _ => x.after.n - (intOf v).toNat)
  case atStart => exact ⟨0, Nat.zero_le _, rfl, by rw [List.take_zero]; exact z1'H.out, hk1H.out, hb1'H.out⟩
  case round =>
   clear d0 d1 d2 d3 c0
   obtain ⟨t, ht, rfl, hz2, hk2, hb2⟩ := hrel
   by_cases hlt : t < x.after.n
   ·have hxal := hxaH.out.1.1
    have hxn : x.after.n ≤ 9223372036854775807 := Nat.le_trans hxaH.out.2.1 hxaH.out.2.2.1
    obtain ⟨s, hs⟩ : ∃ s, x.after.l[t]? = some s := ⟨x.after.l[t]'(by omega), List.getElem?_eq_getElem _⟩
    obtain ⟨b5, off5, hA5, _⟩ := hxaH.out.1.2.1 (by omega)
    have hq := hxaH.out.1.below hz2.bel
    rw [hA5] at hq ⊢
    have f0 := cell_StrW hq hs
    have c0 := hz2.c0
    have hid := hgxH.out s (List.mem_of_getElem? hs)
    obtain ⟨k, hk⟩ : ∃ k, ixOf l s = k := ⟨_, rfl⟩
    have hkN : k < N := by rw [← hk, ← hllH.out]; exact ixOf_lt hid
    have hgt : (gOf l i)[t]? = some k := by rw [hgoH.out, List.getElem?_map, hs]; exact congrArg some hk
    have htk : ((gOf l i).take (t + 1)).foldl (stI i) S1 = stI i (((gOf l i).take t).foldl (stI i) S1) k := by
     rw [List.take_add_one, hgt, Option.toList_some, List.foldl_append]; rfl
    obtain ⟨S2, hS2⟩ : ∃ q, ((gOf l i).take t).foldl (stI i) S1 = q := ⟨_, rfl⟩
    rw [hS2] at hz2 htk
    clear hq hgt hS2
    have hz2H := Lib.hid hz2
    clear hz2
    have hk2H := Lib.hid hk2
    clear hk2
    have hb2H := Lib.hid hb2
    clear hb2
    have hsH := Lib.hid hs
    clear hs
    have hidH := Lib.hid hid
    clear hid
    have htkH := Lib.hid htk
    clear htk
    have hkH := Lib.hid hk
    clear hk
    gi_wp2_with fail
    refine ⟨trivial, CallsIn.inRound lp (callsIn_wide.2 ?_)⟩
    refine (workAt_any (some ⟨ab, off, none⟩) N c l s wr (by omega) (hlH.out.below hz2H.out.bel) hokH.out.rise).mono ?_
    rintro e w5 ⟨k', rfl, hk', hw5⟩
    obtain rfl : k' = k := (hk' hidH.out).trans hkH.out
    rw [hidH.out]
    have hw5s := hw5.size
    have z5 := hz2H.out.below (by omega) (by omega) hw5
    have hk5 := hk2H.out.trans (keeps_below hw5)
    have hb5 := hb2H.out.trans (BelBut.of (hw5.mono hz2H.out.le))
    clear hk' hkH f0 c0 hz2H hk2H hb2H hw5 hidH
    obtain ⟨y, hy⟩ : ∃ y, S2[k']? = some y := ⟨S2[k']'(by rw [z5.sms.len]; exact hkN), List.getElem?_eq_getElem _⟩
    obtain ⟨z, hz⟩ : ∃ z, S2[i]? = some z := ⟨S2[i]'(by rw [z5.sms.len]; exact hiN), List.getElem?_eq_getElem _⟩
    obtain ⟨e0, _⟩ := z5.sms.cells k' y hy
    obtain ⟨e1, _⟩ := z5.sms.cells i z hz
    have c2 := z5.c2
    obtain ⟨W2, hW2⟩ : ∃ X, (w5.setCell ⟨w.heap.size + 1, k', none⟩ (.int .i64 (max y z))).drew = X := ⟨_, rfl⟩
    have R : CrL l i S1 w.heap.size N c (some ⟨ab, off, none⟩) wS.heap.size w x.after.n W (.int .i64 ((t : Int) + 1)) W2 := by
     refine ⟨t + 1, hlt, by go_num, ?_, ?_, ?_⟩
     ·rw [htkH.out, stI, gt_get hy, gt_get hz, ← hW2]
      exact (z5.put (Nat.le_refl _) hkN _).drew
     ·rw [← hW2]; exact hk5.trans (((KeepsOthers.setCell w5 _ _).trans (KeepsOthers.drew _)).from _)
     ·rw [← hW2]; exact hb5.trans (((BelBut.refl _ _ w5).setCell (p := ⟨w.heap.size + 1, k', none⟩) rfl _).trans (BelBut.of ((Below.refl _ _).drew)))
    clear hy hz z5 hk5 hb5
    have RH := Lib.hid R
    clear R
    gi_wp2_with fail
    refine region_tail_in 12 (by kernel_rfl) (by kernel_rfl) (by kernel_rfl) ?_
    simp only [List.take_succ_cons, List.take_zero, List.drop_succ_cons, List.drop_zero]
    repeat still_step
    try refine wpStill_nil ?_
    go_wp2
    try rw [hW2]
    clear hW2 e0 e1 c2
    unfold noOut
    gi_wp2
    exact ⟨RH.out, by simp [intOf]; omega⟩
   ·obtain rfl : t = x.after.n := by omega
    have hall : (gOf l i).take x.after.n = gOf l i := List.take_of_length_le (by rw [hgoH.out, List.length_map]; have := hxaH.out.1.1; omega)
    rw [hall] at hz2
    have R := hgoalH.out _ hz2
    clear hz2 hall
    have hk2H := Lib.hid hk2
    clear hk2
    have hb2H := Lib.hid hb2
    clear hb2
    have RH := Lib.hid R
    clear R
    gi_wp2
    exact ⟨hk2H.out, hb2H.out, RH.out⟩
 case done =>
  rintro D ys W hD rfl hI hK
  have hS := runO_all (n := (nz out).length) (by rw [nz_len]; omega) htpH.out hoN hCH.out hCbH.out
  obtain ⟨S, hSe⟩ : ∃ S, runO l N ((downF (nz out).length).map (ixO out)) = S := ⟨_, rfl⟩
  unfold IrC at hI
  rw [hSe] at hI hS
  have q2 := hI.c2
  have hsm := hI.sms
  have hbw := hI.bel
  have hlw := hI.le
  have hcr : Crit (gOf l) (szOf l) N (gt S) := fun j hj => by
   obtain ⟨m, h1, h2⟩ := hCH.out j hj
   exact ⟨m, h1.congr (fun _ _ => Iff.rfl) (fun k hk _ => (hS k hk).symm), by rw [hS j hj]; exact h2⟩
  have hbd : ∀ k, k < N → 0 ≤ gt S k ∧ gt S k ≤ 200000000 := fun k hk => by rw [hS k hk]; exact hCbH.out k hk
  clear hI hS hSe
  have hsmH := Lib.hid hsm
  clear hsm
  have hbwH := Lib.hid hbw
  clear hbw
  have hcrH := Lib.hid hcr
  clear hcr
  have hbdH := Lib.hid hbd
  clear hbd
  have hKH := Lib.hid hK
  clear hK
  have hfin : ∃ (B : Nat) (S' : List Int), (Ending.returned (.slice (some ⟨w.heap.size + 1, 0, none⟩) N N)) = .returned (.slice (some ⟨B, 0, none⟩) N N) ∧ Sms (W.putObj D (.deferred none)) B N S' ∧ Crit (gOf l) (szOf l) N (gt S') ∧ (∀ k, k < N → 0 ≤ gt S' k ∧ gt S' k ≤ 200000000) ∧ w.heap.size ≤ B ∧ B < (W.putObj D (.deferred none)).heap.size ∧ Below w.heap.size w (W.putObj D (.deferred none)) := by
   have hp := BelBut.put (q := w.heap.size) W D (.deferred none) hD
   have h1 := hp.size
   have h2 := hbwH.out.size
   have h3 := hp.block (w.heap.size + 1) (by omega) (by omega)
   exact ⟨w.heap.size + 1, S, rfl, hsmH.out.keep h3, hcrH.out, hbdH.out, by omega, by omega, hbwH.out.trans (belowK_b (w := w) (Nat.le_refl _) W D _ _ (by omega) hKH.out rfl rfl)⟩
  clear hsmH hcrH hbdH hbwH hszS hle hle1 hb1s
  have hfinH := Lib.hid hfin
  clear hfin
  gi_wp2
  refine ⟨by simp, .inl ⟨_, _, rfl, run_takeDeferred hKH.out, ?_⟩⟩
  exact ⟨.slice (some ⟨w.heap.size + 1, 0, none⟩) N N, by simp [results, Tryz.f55, go_sem], hfinH.out⟩
end Go.Proofs.YtbnkoefljcekbaaGreatDoor.C9
