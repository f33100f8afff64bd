/-
  slices.Backward at numbers: the iterator's contract, for a loop body that keeps what lay ahead of the loop.
-/
import Derived.RangeFuncNested
import Derived.RangeFuncLeaves
import Derived.RangeFuncCalls
import Derived.RangeFuncBox
import Derived.Shelf.Abstract
import Derived.WalkKit
import Derived.OwnWalkIn
import Derived.TacticsInMore
import Derived.LoopNIn
import Derived.LoopIn
import Derived.IntWalk
import Derived.Lib.Hide
import Derived.Test.YtbapkhkklglbaaaDoorOrderedC9
namespace Go.Proofs.YtbapkhkklglbaaaDoor.C9
open Go.RowKit Go.Shelf
set_option linter.unusedVariables false
attribute [local go_sem] Oper.semAt_some

theorem cell_IntW {w : World} {b off m k : Nat} {l : List Int} {x : Int} (h : SlAt RInt w (some ⟨b, off, none⟩) m l) (hx : l[k]? = some x) : w.cell? ⟨b, off + k, none⟩ = some (.int .i64 x) := by
  have hk := (List.getElem?_eq_some_iff.1 hx).1
  obtain ⟨b', off', hA, hc⟩ := h.2.1 (by have := h.1; omega)
  obtain ⟨rfl, rfl⟩ : b = b' ∧ off = off' := by simpa using hA
  have := hc k x hx 0 _ rfl
  simpa [RInt] using this

/-- all blocks below n but q stand as they stood -/
structure BelBut (q n : Nat) (w w' : World) : Prop where
  size : w.heap.size ≤ w'.heap.size
  block : ∀ k, k < n → k ≠ q → w'.heap[k]? = w.heap[k]?
theorem BelBut.refl (q n : Nat) (w : World) : BelBut q n w w := ⟨Nat.le_refl _, fun _ _ _ => rfl⟩
theorem BelBut.trans {q n : Nat} {a b c : World} (h : BelBut q n a b) (k : BelBut q n b c) : BelBut q n a c := ⟨Nat.le_trans h.size k.size, fun j hj hq => (k.block j hj hq).trans (h.block j hj hq)⟩
theorem BelBut.cell {q n : Nat} {w w' : World} (h : BelBut q n w w') {p : Addr} (hp : p.block < n) (hq : p.block ≠ q) : w'.cell? p = w.cell? p := World.cell?_of_block (w := w) (h.block p.block hp hq)
theorem BelBut.of {q n : Nat} {w w' : World} (h : Below n w w') : BelBut q n w w' := ⟨h.size, fun k hk _ => h.block k hk⟩
theorem BelBut.put {q n : Nat} (W : World) (l : Nat) (o' : Obj) (hl : n ≤ l) : BelBut q n W (W.putObj l o') := by
  refine ⟨by simp [World.putObj], fun k hk _ => ?_⟩
  simp only [World.putObj]
  rw [Array.getElem?_setIfInBounds_ne (by omega)]
theorem BelBut.setCell {q n : Nat} {a w : World} (h : BelBut q n a w) {p : Addr} (hp : p.block = q) (u : Value) : BelBut q n a (w.setCell p u) :=
  ⟨by simpa using h.size, fun k hk hq => (Below.heap_setCell w p u k (by rw [hp]; exact hq)).trans (h.block k hk hq)⟩
def downF (n : Nat) : List (Fin n) := (List.finRange n).reverse
theorem downF_len (n : Nat) : (downF n).length = n := by simp [downF]
theorem downF_get {n k : Nat} (hk : k < n) : (downF n)[k]? = some ⟨n - 1 - k, by omega⟩ := by
  rw [List.getElem?_eq_getElem (by simpa [downF] using hk)]
  simp [downF, List.getElem_reverse]
theorem downF_take {n k : Nat} (hk : k < n) : (downF n).take (k + 1) = (downF n).take k ++ [⟨n - 1 - k, by omega⟩] := by
  rw [List.take_add_one, downF_get hk]; rfl
/-- what a round hands to the body -/
def encI (l : List Int) (i : Fin l.length) : Array Value := #[.int .i64 (i.val : Int), (.int .i64 l[i])]

set_option maxRecDepth 100000 in
set_option maxHeartbeats 2000000 in
theorem back1_in (F : Fence) (n : Nat) (h8 : F.fn 44) (hro : F.round = none) (hn : 1 ≤ n) (lp Bs n₀ len cap : Nat) (A : Option Addr) (l : List Int) (hlen : len ≤ 1000) (q : Nat) (hA : 0 < len → ∃ b off, A = some ⟨b, off, none⟩ ∧ b < n₀ ∧ b ≠ q) (hBn : Bs < n₀) (hBq : Bs ≠ q)
    (J Jx : List (Fin l.length) → World → Prop)
    (hY : ∀ pre (x : Fin l.length) W, J pre W → pre.length < l.length → YieldAt F (n - 1) Tryd.prog lp (encI l x) W fun e W' =>
      (e = .returned (.bool true) ∧ J (pre ++ [x]) W' ∧ BelBut q n₀ W W') ∨ (e = .returned (.bool false) ∧ Jx (pre ++ [x]) W'))
    (W : World) (hBs : W.cell? ⟨Bs, 0, none⟩ = some (.slice A len cap)) (hsl : SlAt RInt W A len l) (h0 : J [] W) :
    CallsIn F n Tryd.prog 44 #[.func (.yield lp) #[] #[], .pointer (some ⟨Bs, 0, none⟩)] W fun e W' => (∃ v, e = .returned v) ∧
      (J (downF l.length) W' ∨ ∃ k, k ≤ l.length ∧ Jx ((downF l.length).take k) W') := by
  have hll := hsl.1
  have n1 : IntKind.i64.wrap ((len : Int) - 1) = (len : Int) - 1 := IntWalk.i64_in _ (by omega)
  refine callsIn_of_wp Tryd.func44 rfl h8 ?_ hro
  simp only [Tryd.ntmps44, List.size_toArray, List.length_cons, List.length_nil, Nat.reduceAdd, Nat.reduceSub, Array.replicate_succ, Array.replicate_zero, List.push_toArray, List.append_toArray, List.nil_append, List.cons_append]
  have hllH := Lib.hid hll
  clear hll
  have hslH := Lib.hid hsl
  clear hsl
  gi_wp2
  clear n1
  gi_loopw [3] (fun i wr => ∃ k : Nat, k ≤ len ∧ i = .int .i64 ((len : Int) - 1 - k) ∧ J ((downF l.length).take k) wr ∧ BelBut q n₀ W wr)
    (fun i _ => (intOf i + 1).toNat)
  case atStart => exact ⟨0, Nat.zero_le _, by simp, h0, BelBut.refl _ _ _⟩
  case round =>
    obtain ⟨k, hk, rfl, hJs, hnx⟩ := hrel
    have hc0 := (hnx.cell (p := ⟨Bs, 0, none⟩) hBn hBq).trans hBs
    by_cases hlt : k < len
    · obtain ⟨b, off, hA1, hb, hbq⟩ := hA (by omega)
      subst hA1
      have hkl : k < l.length := by rw [hllH.out]; exact hlt
      obtain ⟨p, hp⟩ : ∃ p : Nat, p = l.length - 1 - k := ⟨_, rfl⟩
      have hpl : p < l.length := by omega
      have hpI : (len : Int) - 1 - k = (p : Int) := by have := hllH.out; omega
      have hx : l[p]? = some l[p] := List.getElem?_eq_getElem hpl
      have d0 := cell_IntW hslH.out hx
      have c0 := (hnx.cell (p := ⟨b, off + p, none⟩) hb hbq).trans d0
      clear d0
      obtain ⟨fn, tmps, assign, body, hy, hR⟩ := hY _ (⟨p, hpl⟩ : Fin l.length) wr hJs (by rw [List.length_take, downF_len]; omega)
      dsimp only [encI, Fin.getElem_fin] at hy
      have htk : (downF l.length).take (k + 1) = (downF l.length).take k ++ [⟨p, hpl⟩] := by subst hp; exact downF_take hkl
      obtain ⟨x, hxe⟩ : ∃ x, x = l[p] := ⟨_, rfl⟩
      rw [← hxe] at c0 hy
      have h2 : (p : Int) < (len : Int) := by have := hllH.out; omega
      rw [hpI]
      have n2 : IntKind.i64.wrap ((p : Int) - 1) = (p : Int) - 1 := IntWalk.i64_in _ (by omega)
      have hmeas : ((p : Int) - 1 + 1).toNat < ((p : Int) + 1).toNat := by omega
      have hnext : ((len : Int) - 1 - ((k + 1 : Nat) : Int)) = (p : Int) - 1 := by omega
      clear hx
      have hpH := Lib.hid hp
      clear hp
      have hxeH := Lib.hid hxe
      clear hxe
      have htkH := Lib.hid htk
      clear htk
      have hpIH := Lib.hid hpI
      clear hpI
      have hnextH := Lib.hid hnext
      clear hnext
      have hmeasH := Lib.hid hmeas
      clear hmeas
      gi_wp2
      refine hR.mono ?_
      rintro e W3 (⟨rfl, hJ3, hk3⟩ | ⟨rfl, hJx3⟩)
      · rw [← htkH.out] at hJ3
        gi_wp2
        go_roundw
        case rel => exact ⟨k + 1, by omega, by rw [hnextH.out], hJ3, hnx.trans hk3⟩
        case measure => exact hmeasH.out
      · rw [← htkH.out] at hJx3
        gi_wp2
        refine bodyPost_ret (results_none rfl _ _ _) rfl ?_
        exact ⟨⟨_, rfl⟩, .inr ⟨k + 1, by omega, hJx3⟩⟩
    · obtain rfl : k = len := by omega
      have hall : (downF l.length).take k = downF l.length := List.take_of_length_le (by rw [downF_len, hllH.out]; exact Nat.le_refl _)
      rw [hall] at hJs
      have hz : (k : Int) - 1 - k = -1 := by omega
      rw [hz]
      clear hz hall
      gi_wp2
      go_end0
      exact ⟨⟨_, rfl⟩, .inl hJs⟩

set_option maxRecDepth 100000 in
set_option maxHeartbeats 1000000 in
theorem back_any (A : Option Addr) (len cap : Nat) (w : World) :
    Calls Tryd.prog 25 #[.slice A len cap] w fun e w' =>
      e = .returned (.func (.func 44) #[] #[.pointer (some ⟨w.heap.size, 0, none⟩)]) ∧ w' = w.alloc (.cells #[.slice A len cap] 24) := by
  go_enter Tryd.func25, Tryd.ntmps25
  go_wp2
  go_ret
  exact ⟨rfl, rfl⟩

theorem back_stops (F : Fence) (n : Nat) (h8 : F.fn 44) (hro : F.round = none) (hn : 1 ≤ n) (Bs n₀ len cap : Nat) (A : Option Addr) (l : List Int) (hlen : len ≤ 1000) (q : Nat) (hA : 0 < len → ∃ b off, A = some ⟨b, off, none⟩ ∧ b < n₀ ∧ b ≠ q) (hBn : Bs < n₀) (hBq : Bs ≠ q) (w : World) (hn₀ : n₀ ≤ w.heap.size)
    (hc : w.cell? ⟨Bs, 0, none⟩ = some (.slice A len cap)) (hsl : SlAt RInt w A len l) :
    SeqStopsK F n Tryd.prog 44 #[.pointer (some ⟨Bs, 0, none⟩)] (encI l) (BelBut q n₀) (fun ys => ys = downF l.length)
      (fun pre => ∃ k, k ≤ l.length ∧ pre = (downF l.length).take k) l.length w := fun lp J Jx W hW _ _ hY h0 => by
  refine (back1_in F n h8 hro hn lp Bs n₀ len cap A l hlen q hA hBn hBq J Jx hY W ((hW.cell (p := ⟨Bs, 0, none⟩) (by show Bs < _; omega)).trans hc) (hsl.below hW) h0).mono ?_
  rintro e W' ⟨he, hj | ⟨k, hk, hj⟩⟩
  · exact ⟨he, .inl ⟨_, rfl, hj⟩⟩
  · exact ⟨he, .inr ⟨_, ⟨k, hk, rfl⟩, hj⟩⟩
end Go.Proofs.YtbapkhkklglbaaaDoor.C9
