/-
 Several texts of mine as one, without what is not wanted here: XOr, XRuns, XCFarmP, XBackI, XCrQ.
-/
import Derived.Test.YtbnkoefljcekbaaGreatDoorNbGf
import Derived.Test.YtbnkoefljcekbaaGreatDoorNbAC9
import Derived.Test.YtbnkoefljcekbaaGreatDoorNbGa
import Derived.Test.YtbnkoefljcekbaaGreatDoorNbShelf
import Derived.Deep.RegionHeld3
import Derived.Test.YtbnkoefljcekbaaGreatDoorNbDC9
import Derived.RangeFuncNested
import Derived.RangeFuncLeaves
import Derived.RangeFuncCalls
import Derived.RangeFuncBox
import Derived.Shelf.Abstract
import Derived.WalkKit
import Derived.OwnWalkIn
import Derived.TacticsInMore
import Derived.LoopNIn
import Derived.LoopIn
import Derived.IntWalk
import Derived.Lib.Hide
import Derived.Test.YtbnkoefljcekbaaGreatDoorNbCC9
import Derived.Test.YtbnkoefljcekbaaGreatDoorNbGg
namespace Go.Proofs.YtbnkoefljcekbaaGreatDoor.C9
open Go.RowKit
set_option linter.unusedVariables false
def orF : List Int → Int
 | [] => 0
 | x :: r => if x = 0 then orF r else x
def OrRel (l : List Int) (c : Int) (i : Value) : Prop := ∃ k : Nat, k ≤ l.length ∧ i = .int .i64 k ∧ orF (l.drop k) = c

theorem cell_Int {w : World} {b off m k : Nat} {l : List Int} {x : Int} (h : SlAt RInt w (some ⟨b, off, none⟩) m l) (hx : l[k]? = some x) : w.cell? ⟨b, off + k, none⟩ = some (.int .i64 x) := by
 have hk := (List.getElem?_eq_some_iff.1 hx).1
 obtain ⟨b', off', hA, hc⟩ := h.2.1 (by have := h.1; omega)
 obtain ⟨rfl, rfl⟩ : b = b' ∧ off = off' := by simpa using hA
 have := hc k x hx 0 _ rfl
 simpa [RInt] using this

theorem or_any (A : Option Addr) (len cap : Nat) (l : List Int) (w : World) (hlen : len ≤ 1000) (hl : SlAt RInt w A len l) (c : Int) (hF : orF l = c) :
  Calls Tryz.prog 40 #[.slice A len cap] w fun e w' => e = .returned (.int .i64 c) ∧ w = w' := by
 have hll := hl.1
 have hllH := Lib.hid hll; have hFH := Lib.hid hF; have hlH := Lib.hid hl; clear hll hF hl
 go_enter Tryz.func40, Tryz.ntmps40
 go_wp2
 go_loop [8] (fun i => OrRel l c i) (fun i => len - (intOf i).toNat)
 case atStart => exact ⟨0, Nat.zero_le _, rfl, hFH.out⟩
 case round =>
  obtain ⟨k, hk, rfl, hck⟩ := hrel
  have hkl : k ≤ len := by have := hllH.out; omega
  by_cases hlt : k < len
  ·obtain ⟨b, off, hA, _⟩ := hlH.out.2.1 (by omega)
   subst hA
   obtain ⟨x, hx⟩ : ∃ x, l[k]? = some x := ⟨l[k]'(by have := hllH.out; omega), List.getElem?_eq_getElem _⟩
   have c0 := cell_Int hlH.out hx
   have hkl2 : k + 1 ≤ l.length := by have := hllH.out; omega
   rw [drop_cons hx, orF] at hck
   by_cases h0 : x = 0
   ·rw [if_pos h0] at hck
    subst h0
    have R : OrRel l c (.int .i64 (k + 1)) := ⟨k + 1, hkl2, by go_num, hck⟩
    have hckH := Lib.hid hck; have hxH := Lib.hid hx; have RH := Lib.hid R; clear hck hx R
    go_wp2
    refine ⟨?rel, ?measure⟩
    case measure => (simp [intOf]; omega)
    case rel => first | exact RH.out | exact ⟨rfl, RH.out⟩ | ((try refine ⟨rfl, ?_⟩); (repeat apply Exists.intro); refine ⟨RH.out, ?_⟩; ((repeat' apply And.intro) <;> rfl))
   ·rw [if_neg h0] at hck
    subst hck
    have h1 : (x != 0) = true := by simpa using h0
    have hxH := Lib.hid hx; clear hx
    go_wp2
    go_ret
    exact ⟨rfl, rfl⟩
  ·have e : l.drop k = [] := List.drop_eq_nil_of_le (by have := hllH.out; omega)
   rw [e, orF] at hck
   subst hck
   clear e
   go_wp2
   go_ret
   exact ⟨rfl, rfl⟩
end Go.Proofs.YtbnkoefljcekbaaGreatDoor.C9

namespace Go.Proofs.YtbnkoefljcekbaaGreatDoor.C9
open Go.RowKit
set_option linter.unusedVariables false

def runLt (a b : Run) : Bool := if a.from_ = b.from_ then (if a.id_ = b.id_ then ltS a.worker b.worker else ltS a.id_ b.id_) else decide (a.from_ < b.from_)
def runCmp (a b : Run) : Int := orF [Lib.compareInt a.from_ b.from_, cmpS a.id_ b.id_, cmpS a.worker b.worker]

theorem runCmp_eq (a b : Run) : runCmp a b = if a.from_ = b.from_ then (if a.id_ = b.id_ then cmpS a.worker b.worker else cmpS a.id_ b.id_) else if a.from_ < b.from_ then -1 else 1 := by
 unfold runCmp
 simp only [orF]
 by_cases h : a.from_ = b.from_
 ·have h0 : Lib.compareInt a.from_ b.from_ = 0 := by
   unfold Lib.compareInt
   rw [if_neg (by omega), if_neg (by omega)]
  rw [if_pos h0, if_pos h]
  by_cases h2 : a.id_ = b.id_
  ·rw [if_pos ((cmpS_zero _ _).2 h2), if_pos h2]
   split
   ·rename_i h3; exact h3.symm
   ·rfl
  ·rw [if_neg (fun e => h2 ((cmpS_zero _ _).1 e)), if_neg h2]
 ·rw [if_neg h]
  by_cases h2 : a.from_ < b.from_
  ·have h0 : Lib.compareInt a.from_ b.from_ = -1 := by
    unfold Lib.compareInt
    rw [if_pos h2]
   rw [h0, if_pos h2]; rfl
  ·have h0 : Lib.compareInt a.from_ b.from_ = 1 := by
    unfold Lib.compareInt
    rw [if_neg h2, if_pos (by omega)]
   rw [h0, if_neg h2]; rfl
theorem runCmp_le {a b : Run} (h : runLt b a = false) : runCmp a b ≤ 0 := by
 rw [runCmp_eq]
 unfold runLt at h
 by_cases h1 : a.from_ = b.from_
 ·rw [if_pos h1]
  rw [if_pos h1.symm] at h
  by_cases h2 : a.id_ = b.id_
  ·rw [if_pos h2]
   rw [if_pos h2.symm, ltS_cmp, cmpS_swap a.worker b.worker] at h
   have := of_decide_eq_false h
   rcases cmpS_range a.worker b.worker with h3 | h3 | h3 <;> omega
  ·rw [if_neg h2]
   rw [if_neg (fun e => h2 e.symm), ltS_cmp, cmpS_swap a.id_ b.id_] at h
   have := of_decide_eq_false h
   rcases cmpS_range a.id_ b.id_ with h3 | h3 | h3 <;> omega
 ·rw [if_neg h1]
  rw [if_neg (fun e => h1 e.symm)] at h
  have := of_decide_eq_false h
  rw [if_pos (by omega)]
  decide
theorem runCmp_gt {a b : Run} (h : runLt b a = true) : 0 < runCmp a b := by
 rw [runCmp_eq]
 unfold runLt at h
 by_cases h1 : a.from_ = b.from_
 ·rw [if_pos h1]
  rw [if_pos h1.symm] at h
  by_cases h2 : a.id_ = b.id_
  ·rw [if_pos h2]
   rw [if_pos h2.symm, ltS_cmp, cmpS_swap a.worker b.worker] at h
   have := of_decide_eq_true h
   omega
  ·rw [if_neg h2]
   rw [if_neg (fun e => h2 e.symm), ltS_cmp, cmpS_swap a.id_ b.id_] at h
   have := of_decide_eq_true h
   omega
 ·rw [if_neg h1]
  rw [if_neg (fun e => h1 e.symm)] at h
  have := of_decide_eq_true h
  rw [if_neg (by omega)]
  decide
theorem or_cells {w : World} {A : Option Addr} {b : Nat} {x y z : Int} (hA : A = some ⟨b, 0, none⟩) (h0 : w.cell? ⟨b, 0, none⟩ = some (.int .i64 x)) (h1 : w.cell? ⟨b, 1, none⟩ = some (.int .i64 y)) (h2 : w.cell? ⟨b, 2, none⟩ = some (.int .i64 z)) (hx : I64 x := by trivial) (hy : I64 y := by trivial) (hz : I64 z := by trivial) :
  SlAt RInt w A 3 [x, y, z] := by
 refine ⟨rfl, fun _ => ⟨b, 0, hA, fun i v hv j u hu => ?_⟩, ?_⟩
 ·match j, hu with
  | 0, hu =>
   simp only [RInt, List.getElem?_cons_zero, Option.some.injEq] at hu
   subst hu
   match i, hv with
   | 0, hv => simp only [List.getElem?_cons_zero, Option.some.injEq] at hv; subst hv; exact h0
   | 1, hv => simp only [List.getElem?_cons_succ, List.getElem?_cons_zero, Option.some.injEq] at hv; subst hv; exact h1
   | 2, hv => simp only [List.getElem?_cons_succ, List.getElem?_cons_zero, Option.some.injEq] at hv; subst hv; exact h2
   | n + 3, hv => simp at hv
  | n + 1, hu => simp [RInt] at hu
 ·intro v hv
  simp only [List.mem_cons, List.not_mem_nil, or_false] at hv
  rcases hv with rfl | rfl | rfl
  ·exact hx
  ·exact hy
  ·exact hz
theorem I64_of {x : Int} (h : x = -1 ∨ x = 0 ∨ x = 1) : I64 x := by unfold I64; omega
theorem cmpI_range (x y : Int) : Lib.compareInt x y = -1 ∨ Lib.compareInt x y = 0 ∨ Lib.compareInt x y = 1 := by
 unfold Lib.compareInt
 split
 ·exact Or.inl rfl
 ·split
  ·exact Or.inr (Or.inr rfl)
  ·exact Or.inr (Or.inl rfl)

theorem compareRuns_any (a b : Run) (w : World) (c : Int) (hF : runCmp a b = c) :
  Calls Tryz.prog 59 #[.agg #[.string a.id_, .string a.worker, .int .i64 a.from_, .int .i64 a.to_, .int .i64 a.end_], .agg #[.string b.id_, .string b.worker, .int .i64 b.from_, .int .i64 b.to_, .int .i64 b.end_]] w fun e w' => e = .returned (.int .i64 c) ∧ Below w.heap.size w w' := by
 have hba := ((Below.refl w.heap.size w).alloc (Nat.le_refl _) (.cells #[.string a.id_, .string a.worker, .int .i64 a.from_, .int .i64 a.to_, .int .i64 a.end_] 34)).alloc (by simp) (.cells #[.string b.id_, .string b.worker, .int .i64 b.from_, .int .i64 b.to_, .int .i64 b.end_] 34)
 obtain ⟨w0, hw0⟩ : ∃ w0, w0 = (w.alloc (.cells #[.string a.id_, .string a.worker, .int .i64 a.from_, .int .i64 a.to_, .int .i64 a.end_] 34)).alloc (.cells #[.string b.id_, .string b.worker, .int .i64 b.from_, .int .i64 b.to_, .int .i64 b.end_] 34) := ⟨_, rfl⟩
 rw [← hw0] at hba
 have hbaH := Lib.hid hba; have hFH := Lib.hid hF; have hw0H := Lib.hid hw0; clear hba hF hw0
 go_enter Tryz.func59, Tryz.ntmps59
 go_wp2_with fail
 go_region_held3 (fun w' => w'.cell? ⟨w.heap.size, 2, none⟩ = some (.int .i64 a.from_) ∧ w'.cell? ⟨w.heap.size + 1, 2, none⟩ = some (.int .i64 b.from_) ∧ w'.cell? ⟨w.heap.size, 0, none⟩ = some (.string a.id_) ∧ w'.cell? ⟨w.heap.size + 1, 0, none⟩ = some (.string b.id_) ∧ w'.cell? ⟨w.heap.size, 1, none⟩ = some (.string a.worker) ∧ w'.cell? ⟨w.heap.size + 1, 1, none⟩ = some (.string b.worker)) (go_keep)
  (first
   | (go_at_call 41; refine (Tryz.cmp_Compare_int _ _ _).mono ?_; rintro e w1 ⟨rfl, rfl⟩)
   | (go_at_call 42; refine (Tryz.strings_Compare _ _ _).mono ?_; rintro e w1 ⟨rfl, rfl⟩)
   | (go_at_call 40; refine (or_any _ 3 _ [Lib.compareInt a.from_ b.from_, cmpS a.id_ b.id_, cmpS a.worker b.worker] _ (by omega) (or_cells rfl ?_ ?_ ?_ (I64_of (cmpI_range _ _)) (I64_of (cmpS_range _ _)) (I64_of (cmpS_range _ _))) c (by exact hFH.out)).mono ?_; (simp [go_sem]); (simp [go_sem]; rfl); (simp [go_sem]; rfl); rintro e w1 ⟨rfl, rfl⟩))
 go_wp2
 go_ret
 obtain rfl := hw0H.out
 exact ⟨rfl, by first | exact bel_drewN (Below.alloc hbaH.out (by have := hbaH.out.size; omega) _) _ | exact (Below.alloc hbaH.out (by have := hbaH.out.size; omega) _).drew⟩
end Go.Proofs.YtbnkoefljcekbaaGreatDoor.C9

namespace Go.Proofs.YtbnkoefljcekbaaGreatDoor.C9
open Go.ChangeShapes Go.WideShapes Go.Deep Go.RowKit
set_option linter.unusedVariables false
set_option linter.unusedSimpArgs false

theorem or_cells2 {w : World} {A : Option Addr} {b : Nat} {x y : Int} (hA : A = some ⟨b, 0, none⟩) (h0 : w.cell? ⟨b, 0, none⟩ = some (.int .i64 x)) (h1 : w.cell? ⟨b, 1, none⟩ = some (.int .i64 y)) (i0 : I64 x) (i1 : I64 y) : SlAt RInt w A 2 [x, y] := by
 subst hA
 refine ⟨rfl, fun _ => ⟨b, 0, rfl, fun i z hz j v hv => ?_⟩, fun z hz => ?_⟩
 ·match i, hz with
  | 0, hz => injection hz with hz; subst hz; cases j with
   | zero => injection hv with hv; subst hv; exact h0
   | succ j => cases hv
  | 1, hz => injection hz with hz; subst hz; cases j with
   | zero => injection hv with hv; subst hv; exact h1
   | succ j => cases hv
 ·simp only [List.mem_cons, List.not_mem_nil, or_false] at hz
  rcases hz with rfl | rfl <;> assumption
def lossCmp (a b : Loss) : Int := orF [Lib.compareInt a.at_ b.at_, cmpS a.worker b.worker]
theorem lossCmp_eq (a b : Loss) : lossCmp a b = if a.at_ = b.at_ then cmpS a.worker b.worker else if a.at_ < b.at_ then -1 else 1 := by
 unfold lossCmp
 simp only [orF]
 by_cases h : a.at_ = b.at_
 ·have h0 : Lib.compareInt a.at_ b.at_ = 0 := by
   unfold Lib.compareInt
   rw [if_neg (by omega), if_neg (by omega)]
  rw [if_pos h0, if_pos h]
  split
  ·rename_i h3; exact h3.symm
  ·rfl
 ·rw [if_neg h]
  by_cases h2 : a.at_ < b.at_
  ·have h0 : Lib.compareInt a.at_ b.at_ = -1 := by
    unfold Lib.compareInt
    rw [if_pos h2]
   rw [h0, if_pos h2]; rfl
  ·have h0 : Lib.compareInt a.at_ b.at_ = 1 := by
    unfold Lib.compareInt
    rw [if_neg h2, if_pos (by omega)]
   rw [h0, if_neg h2]; rfl
theorem lossCmp_le (a b : Loss) : decide (lossCmp a b ≤ 0) = lossLe a b := by
 rw [lossCmp_eq]
 unfold lossLe
 by_cases h : a.at_ = b.at_
 ·rw [if_pos h, sle_cmp]
  have h1 : decide (a.at_ < b.at_) = false := decide_eq_false (by omega)
  rw [h1, decide_eq_true h, Bool.false_or, Bool.true_and]
 ·rw [if_neg h, decide_eq_false h, Bool.false_and, Bool.or_false]
  by_cases h2 : a.at_ < b.at_
  ·rw [if_pos h2, decide_eq_true h2]; rfl
  ·rw [if_neg h2, decide_eq_false h2]; rfl
end Go.Proofs.YtbnkoefljcekbaaGreatDoor.C9

namespace Go.Proofs.YtbnkoefljcekbaaGreatDoor.C9
open Go.RowKit Go.Shelf
set_option linter.unusedVariables false
attribute [local go_sem] Oper.semAt_some

theorem cell_IntW {w : World} {b off m k : Nat} {l : List Int} {x : Int} (h : SlAt RInt w (some ⟨b, off, none⟩) m l) (hx : l[k]? = some x) : w.cell? ⟨b, off + k, none⟩ = some (.int .i64 x) := by
 have hk := (List.getElem?_eq_some_iff.1 hx).1
 obtain ⟨b', off', hA, hc⟩ := h.2.1 (by have := h.1; omega)
 obtain ⟨rfl, rfl⟩ : b = b' ∧ off = off' := by simpa using hA
 have := hc k x hx 0 _ rfl
 simpa [RInt] using this

/-- all blocks below n but q stand as they stood -/
structure BelBut (q n : Nat) (w w' : World) : Prop where
 size : w.heap.size ≤ w'.heap.size
 block : ∀ k, k < n → k ≠ q → w'.heap[k]? = w.heap[k]?
theorem BelBut.refl (q n : Nat) (w : World) : BelBut q n w w := ⟨Nat.le_refl _, fun _ _ _ => rfl⟩
theorem BelBut.trans {q n : Nat} {a b c : World} (h : BelBut q n a b) (k : BelBut q n b c) : BelBut q n a c := ⟨Nat.le_trans h.size k.size, fun j hj hq => (k.block j hj hq).trans (h.block j hj hq)⟩
theorem BelBut.cell {q n : Nat} {w w' : World} (h : BelBut q n w w') {p : Addr} (hp : p.block < n) (hq : p.block ≠ q) : w'.cell? p = w.cell? p := World.cell?_of_block (w := w) (h.block p.block hp hq)
theorem BelBut.of {q n : Nat} {w w' : World} (h : Below n w w') : BelBut q n w w' := ⟨h.size, fun k hk _ => h.block k hk⟩
theorem BelBut.put {q n : Nat} (W : World) (l : Nat) (o' : Obj) (hl : n ≤ l) : BelBut q n W (W.putObj l o') := by
 refine ⟨by simp [World.putObj], fun k hk _ => ?_⟩
 simp only [World.putObj]
 rw [Array.getElem?_setIfInBounds_ne (by omega)]
theorem BelBut.setCell {q n : Nat} {a w : World} (h : BelBut q n a w) {p : Addr} (hp : p.block = q) (u : Value) : BelBut q n a (w.setCell p u) :=
 ⟨by simpa using h.size, fun k hk hq => (Below.heap_setCell w p u k (by rw [hp]; exact hq)).trans (h.block k hk hq)⟩
def downF (n : Nat) : List (Fin n) := (List.finRange n).reverse
theorem downF_len (n : Nat) : (downF n).length = n := by simp [downF]
theorem downF_get {n k : Nat} (hk : k < n) : (downF n)[k]? = some ⟨n - 1 - k, by omega⟩ := by
 rw [List.getElem?_eq_getElem (by simpa [downF] using hk)]
 simp [downF, List.getElem_reverse]
theorem downF_take {n k : Nat} (hk : k < n) : (downF n).take (k + 1) = (downF n).take k ++ [⟨n - 1 - k, by omega⟩] := by
 rw [List.take_add_one, downF_get hk]; rfl
/-- what a round hands to the body -/
def encI (l : List Int) (i : Fin l.length) : Array Value := #[.int .i64 (i.val : Int), (.int .i64 l[i])]

set_option maxRecDepth 100000 in
set_option maxHeartbeats 2000000 in
theorem back1_in (F : Fence) (n : Nat) (h8 : F.fn 143) (hro : F.round = none) (hn : 1 ≤ n) (lp Bs n₀ len cap : Nat) (A : Option Addr) (l : List Int) (hlen : len ≤ 1000) (q : Nat) (hA : 0 < len → ∃ b off, A = some ⟨b, off, none⟩ ∧ b < n₀ ∧ b ≠ q) (hBn : Bs < n₀) (hBq : Bs ≠ q)
  (J Jx : List (Fin l.length) → World → Prop)
  (hY : ∀ pre (x : Fin l.length) W, J pre W → pre.length < l.length → YieldAt F (n - 1) Tryz.prog lp (encI l x) W fun e W' =>
   (e = .returned (.bool true) ∧ J (pre ++ [x]) W' ∧ BelBut q n₀ W W') ∨ (e = .returned (.bool false) ∧ Jx (pre ++ [x]) W'))
  (W : World) (hBs : W.cell? ⟨Bs, 0, none⟩ = some (.slice A len cap)) (hsl : SlAt RInt W A len l) (h0 : J [] W) :
  CallsIn F n Tryz.prog 143 #[.func (.yield lp) #[] #[], .pointer (some ⟨Bs, 0, none⟩)] W fun e W' => (∃ v, e = .returned v) ∧
   (J (downF l.length) W' ∨ ∃ k, k ≤ l.length ∧ Jx ((downF l.length).take k) W') := by
 have hll := hsl.1
 have n1 : IntKind.i64.wrap ((len : Int) - 1) = (len : Int) - 1 := IntWalk.i64_in _ (by omega)
 refine callsIn_of_wp Tryz.func143 rfl h8 ?_ hro
 simp only [Tryz.ntmps143, List.size_toArray, List.length_cons, List.length_nil, Nat.reduceAdd, Nat.reduceSub, Array.replicate_succ, Array.replicate_zero, List.push_toArray, List.append_toArray, List.nil_append, List.cons_append]
 have hllH := Lib.hid hll; have hslH := Lib.hid hsl; clear hll hsl
 gi_wp2
 clear n1
 gi_loopw [3] (fun i wr => ∃ k : Nat, k ≤ len ∧ i = .int .i64 ((len : Int) - 1 - k) ∧ J ((downF l.length).take k) wr ∧ BelBut q n₀ W wr)
  (fun i _ => (intOf i + 1).toNat)
 case atStart => exact ⟨0, Nat.zero_le _, by simp, h0, BelBut.refl _ _ _⟩
 case round =>
  obtain ⟨k, hk, rfl, hJs, hnx⟩ := hrel
  have hc0 := (hnx.cell (p := ⟨Bs, 0, none⟩) hBn hBq).trans hBs
  by_cases hlt : k < len
  ·obtain ⟨b, off, hA1, hb, hbq⟩ := hA (by omega)
   subst hA1
   have hkl : k < l.length := by rw [hllH.out]; exact hlt
   obtain ⟨p, hp⟩ : ∃ p : Nat, p = l.length - 1 - k := ⟨_, rfl⟩
   have hpl : p < l.length := by omega
   have hpI : (len : Int) - 1 - k = (p : Int) := by have := hllH.out; omega
   have hx : l[p]? = some l[p] := List.getElem?_eq_getElem hpl
   have d0 := cell_IntW hslH.out hx
   have c0 := (hnx.cell (p := ⟨b, off + p, none⟩) hb hbq).trans d0
   clear d0
   obtain ⟨fn, tmps, assign, body, hy, hR⟩ := hY _ (⟨p, hpl⟩ : Fin l.length) wr hJs (by rw [List.length_take, downF_len]; omega)
   dsimp only [encI, Fin.getElem_fin] at hy
   have htk : (downF l.length).take (k + 1) = (downF l.length).take k ++ [⟨p, hpl⟩] := by subst hp; exact downF_take hkl
   obtain ⟨x, hxe⟩ : ∃ x, x = l[p] := ⟨_, rfl⟩
   rw [← hxe] at c0 hy
   have h2 : (p : Int) < (len : Int) := by have := hllH.out; omega
   rw [hpI]
   have n2 : IntKind.i64.wrap ((p : Int) - 1) = (p : Int) - 1 := IntWalk.i64_in _ (by omega)
   have hmeas : ((p : Int) - 1 + 1).toNat < ((p : Int) + 1).toNat := by omega
   have hnext : ((len : Int) - 1 - ((k + 1 : Nat) : Int)) = (p : Int) - 1 := by omega
   clear hx
   have hpH := Lib.hid hp; have hxeH := Lib.hid hxe; have htkH := Lib.hid htk; have hpIH := Lib.hid hpI; have hnextH := Lib.hid hnext; have hmeasH := Lib.hid hmeas; clear hp hxe htk hpI hnext hmeas
   gi_wp2
   refine hR.mono ?_
   rintro e W3 (⟨rfl, hJ3, hk3⟩ | ⟨rfl, hJx3⟩)
   ·rw [← htkH.out] at hJ3
    gi_wp2
    go_roundw
    case rel => exact ⟨k + 1, by omega, by rw [hnextH.out], hJ3, hnx.trans hk3⟩
    case measure => exact hmeasH.out
   ·rw [← htkH.out] at hJx3
    gi_wp2
    refine bodyPost_ret (results_none rfl _ _ _) rfl ?_
    exact ⟨⟨_, rfl⟩, .inr ⟨k + 1, by omega, hJx3⟩⟩
  ·obtain rfl : k = len := by omega
   have hall : (downF l.length).take k = downF l.length := List.take_of_length_le (by rw [downF_len, hllH.out]; exact Nat.le_refl _)
   rw [hall] at hJs
   have hz : (k : Int) - 1 - k = -1 := by omega
   rw [hz]
   clear hz hall
   gi_wp2
   go_end0
   exact ⟨⟨_, rfl⟩, .inl hJs⟩

set_option maxRecDepth 100000 in
set_option maxHeartbeats 1000000 in
theorem back_any (A : Option Addr) (len cap : Nat) (w : World) :
  Calls Tryz.prog 97 #[.slice A len cap] w fun e w' =>
   e = .returned (.func (.func 143) #[] #[.pointer (some ⟨w.heap.size, 0, none⟩)]) ∧ w' = w.alloc (.cells #[.slice A len cap] 56) := by
 go_enter Tryz.func97, Tryz.ntmps97
 go_wp2
 go_ret
 exact ⟨rfl, rfl⟩

theorem back_stops (F : Fence) (n : Nat) (h8 : F.fn 143) (hro : F.round = none) (hn : 1 ≤ n) (Bs n₀ len cap : Nat) (A : Option Addr) (l : List Int) (hlen : len ≤ 1000) (q : Nat) (hA : 0 < len → ∃ b off, A = some ⟨b, off, none⟩ ∧ b < n₀ ∧ b ≠ q) (hBn : Bs < n₀) (hBq : Bs ≠ q) (w : World) (hn₀ : n₀ ≤ w.heap.size)
  (hc : w.cell? ⟨Bs, 0, none⟩ = some (.slice A len cap)) (hsl : SlAt RInt w A len l) :
  SeqStopsK F n Tryz.prog 143 #[.pointer (some ⟨Bs, 0, none⟩)] (encI l) (BelBut q n₀) (fun ys => ys = downF l.length)
   (fun pre => ∃ k, k ≤ l.length ∧ pre = (downF l.length).take k) l.length w := fun lp J Jx W hW _ _ hY h0 => by
 refine (back1_in F n h8 hro hn lp Bs n₀ len cap A l hlen q hA hBn hBq J Jx hY W ((hW.cell (p := ⟨Bs, 0, none⟩) (by show Bs < _; omega)).trans hc) (hsl.below hW) h0).mono ?_
 rintro e W' ⟨he, hj | ⟨k, hk, hj⟩⟩
 ·exact ⟨he, .inl ⟨_, rfl, hj⟩⟩
 ·exact ⟨he, .inr ⟨_, ⟨k, hk, rfl⟩, hj⟩⟩
end Go.Proofs.YtbnkoefljcekbaaGreatDoor.C9

namespace Go.Proofs.YtbnkoefljcekbaaGreatDoor.C9
open Go.RowKit
set_option linter.unusedVariables false

def stI (i : Nat) (S : List Int) (k : Nat) : List Int := S.set k (max (gt S k) (gt S i))
def stO (l : List Work) (S : List Int) (i : Nat) : List Int := (gOf l i).foldl (stI i) (S.set i (wrap64 (gt S i + szOf l i)))
def runO (l : List Work) (N : Nat) (is : List Nat) : List Int := is.foldl (stO l) (List.replicate N 0)
theorem runO_snoc (l : List Work) (N : Nat) (is : List Nat) (i : Nat) : runO l N (is ++ [i]) = stO l (runO l N is) i := by unfold runO; rw [List.foldl_append]; rfl
theorem fold_bi {S1 : List Int} {i : Nat} {c : Int} (hc : gt S1 i = c) : ∀ (ks pre : List Nat) (S : List Int), Bi S1 c pre S → (∀ k ∈ ks, k < S1.length ∧ k ≠ i) → i ∉ pre → Bi S1 c (pre ++ ks) (ks.foldl (stI i) S)
 | [], pre, S, h, _, _ => by simpa using h
 | k :: ks, pre, S, h, hk, hi => by
  have e : gt S i = c := by rw [h.at_, if_neg hi, hc]
  have h2 := h.step (k := k) (by rw [h.len]; exact (hk k List.mem_cons_self).1)
  have h3 := fold_bi hc ks (pre ++ [k]) (stI i S k) (by unfold stI; rw [e]; exact h2) (fun j hj => hk j (List.mem_cons_of_mem _ hj)) (fun h => by
   rcases List.mem_append.1 h with h | h
   ·exact hi h
   ·exact (hk k List.mem_cons_self).2 (List.mem_singleton.1 h).symm)
  rw [List.append_assoc] at h3
  exact h3
def ixO (out : List Nat) {n : Nat} (x : Fin n) : Nat := out.getD x.val 0
theorem runO_bk {l : List Work} {N : Nat} {C : Nat → Int} {out : List Nat} {n : Nat} (hn : n = N) (ht : Topo (gOf l) N out) (hl : out.length = N) (hC : Crit (gOf l) (szOf l) N C) (hb : ∀ j, j < N → 0 ≤ C j ∧ C j ≤ 200000000) :
  ∀ k, k ≤ N → Bk (gOf l) (szOf l) N C out k (runO l N (((downF n).take k).map (ixO out)))
 | 0, _ => by simpa [runO] using Bk.nil hl
 | k + 1, hk => by
  subst hn
  have ih := runO_bk rfl ht hl hC hb k (by omega)
  rw [downF_take (by omega), List.map_append, List.map_singleton, runO_snoc]
  have hi : out[n - 1 - k]? = some (ixO out (⟨n - 1 - k, by omega⟩ : Fin n)) := by
   unfold ixO
   rw [List.getD_eq_getElem?_getD, List.getElem?_eq_getElem (by omega)]; rfl
  obtain ⟨i, hie⟩ : ∃ i, ixO out (⟨n - 1 - k, by omega⟩ : Fin n) = i := ⟨_, rfl⟩
  rw [hie] at hi ⊢
  obtain ⟨S, hS⟩ : ∃ S, runO l n (((downF n).take k).map (ixO out)) = S := ⟨_, rfl⟩
  rw [hS] at ih ⊢
  obtain ⟨t0, t1, t2, t3, t4⟩ := ih.turn ht hl hC (by omega) hi
  refine ih.step ht hl hC (fun j hj => (hb j hj).1) (by omega) hi ?_
  unfold stO
  have hbi := hb i t0
  rw [t1, IntWalk.wrap64_in _ (by omega)]
  have hlt : i < S.length := by rw [ih.len]; exact t0
  have := fold_bi (S1 := S.set i (C i)) (i := i) (c := C i) (by rw [gt_set hlt, if_pos rfl]) (gOf l i) [] _ (Bi.nil _ _) (fun k hk => ⟨by rw [List.length_set, ih.len]; exact (t4 k hk).1, fun e => by subst e; exact t2 hk⟩) (by simp)
  simpa using this
theorem runO_all {l : List Work} {N : Nat} {C : Nat → Int} {out : List Nat} {n : Nat} (hn : n = N) (ht : Topo (gOf l) N out) (hl : out.length = N) (hC : Crit (gOf l) (szOf l) N C) (hb : ∀ j, j < N → 0 ≤ C j ∧ C j ≤ 200000000) :
  ∀ j, j < N → gt (runO l N ((downF n).map (ixO out))) j = C j := by
 have h := runO_bk hn ht hl hC hb N (Nat.le_refl _)
 rw [List.take_of_length_le (by rw [downF_len]; omega)] at h
 exact h.all ht hl
end Go.Proofs.YtbnkoefljcekbaaGreatDoor.C9
