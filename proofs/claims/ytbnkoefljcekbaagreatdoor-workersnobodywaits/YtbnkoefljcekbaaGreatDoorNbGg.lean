/-
 Several texts of mine as one, without what is not wanted here: XQue, XLoD, XCrB, XTailIn, XTake, XSwpI, XRotI, XRkD, XInsN.
-/
import Derived.Test.YtbnkoefljcekbaaGreatDoorNbGa
import Derived.Laws.CopyRow
import Derived.Test.YtbnkoefljcekbaaGreatDoorNbGb
import Derived.Test.YtbnkoefljcekbaaGreatDoorNbGf
import Derived.RangeFuncCalls
import Derived.OwnWalkIn
import Derived.OrdersIn
import Derived.StillTailTactics
import Derived.Deep.RegionHeld3
import Derived.Shelf.Spec.SlicesInsertGrow
namespace Go.Proofs.YtbnkoefljcekbaaGreatDoor
open Go.ChangeShapes Go.WideShapes Go.Deep Go.RowKit
set_option linter.unusedVariables false

theorem elem_IntQ : Elem Tryz.prog 3 1 8 := elem_of (z := .int .i64 0) (by kernel_rfl) (by decide)

/-- from place off on of block g, made from block 'base' on, there are the numbers l -/
def Que (w : World) (base g off n cap : Nat) (l : List Int) : Prop :=
 l.length = n ∧ base ≤ g ∧ n ≤ cap ∧ cap ≤ maxLen ∧ (∀ x ∈ l, I64 x) ∧ ∃ cur : Array Value, w.heap[g]? = some (.cells cur 3 (0, 0)) ∧ off + cap ≤ cur.size ∧ ∀ i x, l[i]? = some x → cur[off + i]? = some (.int .i64 x)

section
variable {w w' : World} {base g off n cap : Nat} {l : List Int}
theorem Que.lt (h : Que w base g off n cap l) : g < w.heap.size := by
 obtain ⟨_, _, _, _, _, cur, hg, _⟩ := h
 rcases Nat.lt_or_ge g w.heap.size with h | h
 ·exact h
 ·rw [Array.getElem?_eq_none h] at hg; cases hg
theorem Que.cell (h : Que w base g off n cap l) {i : Nat} {x : Int} (hx : l[i]? = some x) : w.cell? ⟨g, off + i, none⟩ = some (.int .i64 x) := by
 obtain ⟨_, _, _, _, _, cur, hg, _, hc⟩ := h
 rw [cell_of_row w g _ cur 3 (0, 0) hg]
 exact hc i x hx
theorem Que.kept {row : Option Nat} (h : Que w base g off n cap l) (hg : w.grownBy w' row) (hne : some g ≠ row) : Que w' base g off n cap l := by
 have hlt := h.lt
 obtain ⟨h1, h2, h3, h4, h5, cur, h6, h7⟩ := h
 exact ⟨h1, h2, h3, h4, h5, cur, (hg.block g hlt hne).trans h6, h7⟩
theorem Que.below (h : Que w base g off n cap l) (hb : Below w.heap.size w w') : Que w' base g off n cap l := by
 have hlt := h.lt
 obtain ⟨h1, h2, h3, h4, h5, cur, h6, h7⟩ := h
 exact ⟨h1, h2, h3, h4, h5, cur, (hb.block g hlt).trans h6, h7⟩
theorem Que.set (h : Que w base g off n cap l) {a : Addr} (hne : g ≠ a.block) (u : Value) : Que (w.setCell a u) base g off n cap l := by
 obtain ⟨h1, h2, h3, h4, h5, cur, h6, h7⟩ := h
 exact ⟨h1, h2, h3, h4, h5, cur, (heap_setCell_other w a g u hne).trans h6, h7⟩
theorem Que.last {x : Int} {r : List Int} (h : Que w base g off n cap (x :: r)) (hc : cap = 1) : r = [] ∧ n = 1 ∧ Que w base g off 0 0 [] := by
 obtain ⟨h1, h2, h3, h4, h5, cur, h6, h7, h8⟩ := h
 rw [List.length_cons] at h1
 have hr : r = [] := List.eq_nil_of_length_eq_zero (by omega)
 subst hr
 exact ⟨rfl, by omega, rfl, h2, Nat.le_refl _, Nat.zero_le _, (fun _ h => nomatch h), cur, h6, by omega, fun i y hy => by cases hy⟩
/-- a new row of one number -/
theorem Que.one (w : World) (x : Int) (hx : I64 x) : Que (w.alloc (.cells #[.int .i64 x] 3)) w.heap.size w.heap.size 0 1 1 [x] :=
 ⟨rfl, Nat.le_refl _, Nat.le_refl _, by simp only [maxLen]; omega, fun y hy => by rw [List.mem_singleton] at hy; subst hy; exact hx, _, heap_alloc_new w _, Nat.le_refl _, fun i y hy => by
  cases i with
  | zero => simp at hy; subst hy; rfl
  | succ i => simp at hy⟩

end
end Go.Proofs.YtbnkoefljcekbaaGreatDoor

namespace Go.Proofs.YtbnkoefljcekbaaGreatDoor
set_option linter.unusedVariables false

def secOf (cs : List TestCase) (s : ByteArray) : Option Int := (cs.find? fun c => decide (c.name = s)).map (·.seconds)
def Names (cs : List TestCase) : Prop := (cs.map (·.name)).Nodup
theorem Names.take {cs : List TestCase} (h : Names cs) (k : Nat) : Names (cs.take k) := by unfold Names; rw [List.map_take]; exact List.Sublist.nodup (List.take_sublist _ _) h
def val (cs : List TestCase) (s : ByteArray) : Int := (secOf cs s).getD 0
end Go.Proofs.YtbnkoefljcekbaaGreatDoor

namespace Go.Proofs.YtbnkoefljcekbaaGreatDoor
set_option linter.unusedVariables false

section
variable {g : Nat → List Nat} {sz : Nat → Int} {N : Nat} {C : Nat → Int} {out : List Nat}
/-- behind k rounds from the end -/
structure Bk (g : Nat → List Nat) (sz : Nat → Int) (N : Nat) (C : Nat → Int) (out : List Nat) (k : Nat) (S : List Int) : Prop where
 len : S.length = N
 done : ∀ j, j < N → j ∈ out.drop (N - k) → gt S j = C j
 left : ∀ j, j < N → j ∉ out.drop (N - k) → MaxOf g (· ∈ out.drop (N - k)) C j (gt S j)
/-- amid the works that i waits for -/
structure Bi (S1 : List Int) (c : Int) (pre : List Nat) (S : List Int) : Prop where
 len : S.length = S1.length
 at_ : ∀ j, gt S j = if j ∈ pre then max (gt S1 j) c else gt S1 j
theorem Bi.nil (S1 : List Int) (c : Int) : Bi S1 c [] S1 := ⟨rfl, fun j => by simp⟩
theorem Bi.step {S1 S : List Int} {c : Int} {pre : List Nat} (h : Bi S1 c pre S) {k : Nat} (hk : k < S.length) : Bi S1 c (pre ++ [k]) (S.set k (max (gt S k) c)) := by
 refine ⟨by rw [List.length_set]; exact h.len, fun j => ?_⟩
 rw [gt_set hk]
 have := h.at_ j
 by_cases e : j = k
 ·subst e
  rw [if_pos rfl, if_pos (by simp), this]
  split <;> omega
 ·rw [if_neg e, this]
  by_cases hj : j ∈ pre
  ·rw [if_pos hj, if_pos (by simp [hj])]
  ·rw [if_neg hj, if_neg (by simp [hj, e])]
theorem zero_gt (N k : Nat) : gt (List.replicate N (0 : Int)) k = 0 := by
 unfold gt
 rw [List.getD_eq_getElem?_getD]
 by_cases h : k < N
 ·rw [List.getElem?_replicate, if_pos h]; rfl
 ·rw [List.getElem?_eq_none (by simp; omega)]; rfl
theorem Bk.nil (hl : out.length = N) : Bk g sz N C out 0 (List.replicate N 0) := by
 have e : out.drop (N - 0) = [] := List.drop_eq_nil_of_le (by omega)
 refine ⟨by simp, fun j _ hj => (by rw [e] at hj; cases hj), fun j _ _ => ?_⟩
 rw [e, zero_gt]
 exact ⟨Int.le_refl _, fun k hk => (by cases hk), .inl rfl⟩
theorem Bk.all {S : List Int} (ht : Topo g N out) (hl : out.length = N) (h : Bk g sz N C out N S) : ∀ j, j < N → gt S j = C j := fun j hj => h.done j hj (by rw [Nat.sub_self, List.drop_zero]; exact ht.all hl hj)
/-- the work whose turn it is -/
theorem Bk.turn {S : List Int} {k i : Nat} (ht : Topo g N out) (hl : out.length = N) (hC : Crit g sz N C) (h : Bk g sz N C out k S) (hk : k < N) (hi : out[N - 1 - k]? = some i) :
  i < N ∧ gt S i + sz i = C i ∧ i ∉ g i ∧ out.drop (N - (k + 1)) = i :: out.drop (N - k) ∧ ∀ j ∈ g i, j < N ∧ j ∉ out.drop (N - k) := by
 have hd : out.drop (N - (k + 1)) = i :: out.drop (N - k) := by
  obtain ⟨h1, h2⟩ := List.getElem?_eq_some_iff.1 hi
  rw [show N - (k + 1) = N - 1 - k by omega, List.drop_eq_getElem_cons h1, h2, show N - 1 - k + 1 = N - k by omega]
 have e : out = out.take (N - (k + 1)) ++ i :: out.drop (N - k) := by rw [← hd, List.take_append_drop]
 obtain ⟨a, ha⟩ : ∃ a, out.take (N - (k + 1)) = a := ⟨_, rfl⟩
 obtain ⟨b, hb⟩ : ∃ b, out.drop (N - k) = b := ⟨_, rfl⟩
 rw [ha, hb] at e
 have hiN : i < N := ht.lt i (by rw [e]; simp)
 have hnd := ht.nodup
 have hpre : ∀ j ∈ g i, j ∈ a := fun j hj => ht.pre a b i e j hj
 rw [e] at hnd
 have hib : i ∉ b := fun h => (List.nodup_cons.1 (List.nodup_append.1 hnd).2.1).1 h
 have hig : i ∉ g i := fun h => (List.nodup_append.1 hnd).2.2 i (hpre i h) i (by simp) rfl
 refine ⟨hiN, ?_, hig, by rw [hd], fun j hj => ⟨ht.lt j (by rw [e]; simp [hpre j hj]), fun h => ?_⟩⟩
 ·obtain ⟨m, h1, h2⟩ := hC i hiN
  have h3 := h.left i hiN (by rw [hb]; exact hib)
  rw [hb] at h3
  have := h3.uniq (h1.congr (fun q hq => ⟨fun hqN => topo_behind ht hl e hqN hq, fun hqb => ht.lt q (by rw [e]; simp [hqb])⟩) (fun _ _ _ => rfl))
  omega
 ·rw [hb] at h
  exact (List.nodup_append.1 hnd).2.2 j (hpre j hj) j (by simp [h]) rfl
theorem Bk.step {S S2 : List Int} {k i : Nat} (ht : Topo g N out) (hl : out.length = N) (hC : Crit g sz N C) (hC0 : ∀ j, j < N → 0 ≤ C j) (h : Bk g sz N C out k S) (hk : k < N) (hi : out[N - 1 - k]? = some i)
  (h2 : Bi (S.set i (C i)) (C i) (g i) S2) : Bk g sz N C out (k + 1) S2 := by
 obtain ⟨hiN, t1, t2, t3, t4⟩ := h.turn ht hl hC hk hi
 have hlt : i < S.length := by rw [h.len]; exact hiN
 have hat : ∀ j, gt S2 j = if j ∈ g i then max (gt S j) (C i) else if j = i then C i else gt S j := fun j => by
  rw [h2.at_, gt_set hlt]
  by_cases hj : j ∈ g i
  ·rw [if_pos hj, if_pos hj, if_neg (fun e => by subst e; exact t2 hj)]
  ·rw [if_neg hj, if_neg hj]
 refine ⟨by rw [h2.len, List.length_set]; exact h.len, fun j hj hm => ?_, fun j hj hm => ?_⟩
 ·rw [t3] at hm
  rw [hat]
  rcases List.mem_cons.1 hm with rfl | hm
  ·rw [if_neg t2, if_pos rfl]
  ·rw [if_neg (fun hg => (t4 j hg).2 hm)]
   split
   ·rename_i e; rw [e]
   ·exact h.done j hj hm
 ·rw [t3] at hm ⊢
  have hji : j ≠ i := fun e => hm (by rw [e]; simp)
  have hjb : j ∉ out.drop (N - k) := fun h => hm (by simp [h])
  have h3 := h.left j hj hjb
  rw [hat]
  by_cases hg : j ∈ g i
  ·rw [if_pos hg]
   refine ⟨by have := h3.nn; omega, fun q hq hjq => ?_, ?_⟩
   ·rcases List.mem_cons.1 hq with rfl | hq
    ·omega
    ·have := h3.up q hq hjq; omega
   ·by_cases hm : gt S j ≤ C i
    ·exact .inr ⟨i, by simp, hg, by omega⟩
    ·rcases h3.at_ with e | ⟨q, a, b, e⟩
     ·have := hC0 i hiN; omega
     ·exact .inr ⟨q, List.mem_cons_of_mem _ a, b, by omega⟩
  ·rw [if_neg hg, if_neg hji]
   exact h3.congr (fun q hq => ⟨fun h => List.mem_cons_of_mem _ h, fun h => by
    rcases List.mem_cons.1 h with rfl | h
    ·exact absurd hq hg
    ·exact h⟩) (fun _ _ _ => rfl)
/-- all numbers stay within bounds -/
theorem Bk.b {S : List Int} {k : Nat} {B : Int} (h : Bk g sz N C out k S) (ht : Topo g N out) (hB : 0 ≤ B) (hb : ∀ j, j < N → 0 ≤ C j ∧ C j ≤ B) : ∀ j, j < N → 0 ≤ gt S j ∧ gt S j ≤ B := fun j hj => by
 by_cases hm : j ∈ out.drop (N - k)
 ·rw [h.done j hj hm]; exact hb j hj
 ·have h3 := h.left j hj hm
  refine ⟨h3.nn, ?_⟩
  rcases h3.at_ with e | ⟨q, a, b, e⟩
  ·omega
  ·rw [e]; exact (hb q (ht.lt q (List.mem_of_mem_drop a))).2
end
end Go.Proofs.YtbnkoefljcekbaaGreatDoor

namespace Go.Proofs.YtbnkoefljcekbaaGreatDoor
set_option linter.unusedVariables false

section
variable {P : Program} {ops : Array Oper} {Q : Exit → Act → World → Prop} {md : Region.Mode} {lp n : Nat}
def noOut (Q : Exit → Act → World → Prop) : Exit → Act → World → Prop
 | .outgrown, _, _ => False
 | e, a, w => Q e a w
theorem noOut_lets : ¬ LetsOut (noOut Q) := fun ⟨_, _, h⟩ => h
theorem rows_in {row : String} {args : Array Value} {w : World} {R : Value → World → Prop} (h : Rows P row args w R) : RowsIn (Fence.wide.inRound lp) n P row args w R :=
 fun c cs _ => let ⟨v, w', r, s⟩ := h c cs; ⟨v, w', r, stepsIn_wide.2 s⟩
theorem oper_in {o : Oper} {a : Act} {w : World} {next next' : Act → World → Prop} (hd : ∀ c, o.op ≠ .defer c) (hn : ∀ a w, next a w → next' a w) (h : o.wp P a w next (noOut Q)) :
  o.wpIn (Fence.wide.inRound lp) n P a w next' Q := by
 refine ⟨fun _ _ => trivial, ?_⟩
 rw [Oper.semAt_plain _ _ _ hd]
 unfold Oper.wp at h
 generalize (execOp a.eval o).run P w = r at h
 cases r with
 | ok x w' =>
  cases x with
  | value v => exact hn _ _ h
  | skip => exact hn _ _ h
  | defer d => exact hn _ _ h
  | enter f args =>
   refine ⟨fun h => (by cases h), CallsIn.inRound lp (callsIn_wide.2 (Calls.mono h ?_))⟩
   rintro e w'' he
   cases e with
   | returned v => exact hn _ _ he
   | panicked c => exact he
   | outgrown => exact absurd he noOut_lets
  | row row args => exact ⟨fun h => (by cases h), (rows_in h).mono fun _ _ he => hn _ _ he⟩
  | _ => exact absurd h (by simp [Oper.upon])
 | halt x w' => cases x <;> first | exact h | exact absurd h (by simp [Oper.upon])
theorem op_in {i : Nat} {a : Act} {w : World} {K K' : Act → World → Prop} (hd : ∀ (i : Nat) (o : Oper), ops[i]? = some o → ∀ c, o.op ≠ .defer c) (hK : ∀ a w, K a w → K' a w) (h : wpOp P ops (noOut Q) i K a w) :
  wpOpIn (Fence.wide.inRound lp) n P ops Q i K' a w := by
 unfold wpOp at h
 unfold wpOpIn
 cases ho : ops[i]? with
 | none => rw [ho] at h; exact hK _ _ h
 | some o =>
  rw [ho] at h
  simp only at h ⊢
  split at h
  ·rename_i hw
   rw [if_pos hw]
   rcases h with h | h
   ·exact oper_in (hd i o ho) hK h
   ·exact absurd h.2 noOut_lets
  ·rename_i hw
   rw [if_neg hw]
   exact ⟨fun _ _ => trivial, hK _ _ h⟩
theorem any_in (hd : ∀ (i : Nat) (o : Oper), ops[i]? = some o → ∀ c, o.op ≠ .defer c) : ∀ (fuel : Nat) (listed : Array Bool) (a : Act) (w : World), wpAny P md ops (noOut Q) fuel listed a w → wpAnyIn (Fence.wide.inRound lp) n P md ops Q fuel listed a w
 | 0, _, _, _, h => h
 | fuel + 1, _, _, _, h => ⟨h.1, fun i hi => op_in hd (fun a w h => any_in hd fuel _ a w h) (h.2 i hi)⟩
def noDefer (l : List Oper) : Bool := l.all fun o => match o.op with | .defer _ => false | _ => true
theorem noDefer_spec {l : List Oper} (h : noDefer l = true) : ∀ (i : Nat) (o : Oper), l.toArray[i]? = some o → ∀ c, o.op ≠ .defer c := fun i o ho c e => by
 have hm : o ∈ l := by rw [List.getElem?_toArray] at ho; exact List.mem_of_getElem? ho
 have := List.all_eq_true.1 h o hm
 rw [e] at this
 cases this
theorem region_tail_in {id : Nat} {a : Act} {w : World} {l : List Oper} (k : Nat) (hm : P.follows .mixedOrders = true) (hB : Region.lexTailB .any l.toArray k = true) (hd : noDefer l = true)
  (h : wpStill P l.toArray { w with drawn := w.drawn + 1 } (fun a' => wpList P l.toArray (noOut Q) (l.drop k) a' { w with drawn := w.drawn + 1 }) (l.take k) a) : (Code.region id l.toArray true).wpIn (Fence.wide.inRound lp) n P Q a w := by
 simp only [Region.lexTailB, Bool.and_eq_true, decide_eq_true_eq] at hB
 obtain ⟨⟨⟨⟨hsel, hn⟩, hs⟩, hc⟩, hlex⟩ := hB
 have hn' : k < l.length := by simpa using hn
 have htl : (l.take k).length = k := by simp; omega
 have hdl : (l.drop k).length = l.toArray.size - k := by simp
 have inv0 : HeadInv .any l.toArray k (Array.replicate l.toArray.size false) :=
  ⟨by simp, fun j oj _ hl => (by rw [getD_replicate_false] at hl; cases hl), fun t _ ht => getD_in (by simpa using ht) (getD_replicate_false _ _)⟩
 have H := wpAnyL_lex (md := .any) (g := l.toArray.size - k) hsel hs hc hn (l.take k) 0 _ a (fun j hj => by
  have hj' : j < k := by rw [htl] at hj; exact hj
  simp [hj']) (by simpa using htl) inv0 (by rw [htl]; exact hlex) h
 refine wpIn_region_any hm (any_in (noDefer_spec hd) _ _ _ _ ?_)
 have := wpAny_of_head (Q' := noOut Q) (g := l.toArray.size - k) (fun listed a' hL => by
  have := wpAny_of_seq (md := .any) (Q' := noOut Q) (l.drop k) k listed a' { w with drawn := w.drawn + 1 } (fun j => by simp [List.getElem?_drop]) (by rw [hdl]; exact hL.1) hL.2
  rwa [hdl] at this) _ _ _ H
 rw [htl, show k + (l.toArray.size - k) = l.toArray.size by omega] at this
 exact this
end
end Go.Proofs.YtbnkoefljcekbaaGreatDoor

namespace Go.Proofs.YtbnkoefljcekbaaGreatDoor
open Go.RowKit
set_option linter.unusedVariables false

theorem takeH {P : Program} {md : Region.Mode} {ops : Array Oper} {Q : Exit → Act → World → Prop} {S : World → Prop} {i : Nat} {d : Option Tmp} {oi : Oper} {v : Value} {fuel : Nat} {listed : Array Bool} {a : Act} {w : World} (hi : ops[i]? = some oi) (hd : oi.dst = d)
  (hs : Region.noSelect ops = true) (hf : Region.free md ops listed i = true) (hr : (Region.ready md ops listed).contains i = true)
  (hQ : ∀ c a w, Q (.panic c) (a.put d v) w → Q (.panic c) a w) (hy : YieldsIf P ops S oi v a) (hS : S w)
  (h : wpAnyH P md ops Q S fuel (listed.setIfInBounds i true) (a.put d v) w) : wpAnyH P md ops Q S (fuel + 1) listed a w := by
 subst hd
 exact wpAnyH_take hi hs hf hr hQ hy hS h
/-- short forms -/
theorem skH {P : Program} {md : Region.Mode} {ops : Array Oper} {Q : Exit → Act → World → Prop} {S : World → Prop} {i : Nat} {d : Option Tmp} {oi : Oper} {fuel : Nat} {listed : Array Bool} {a : Act} {w : World}
  (h : wpAnyH P md ops Q S fuel (listed.setIfInBounds i true) (a.put d undef) w) (hi : ops[i]? = some oi := by rfl) (hd : oi.dst = d := by rfl)
  (hs : Region.noSelect ops = true := by kernel_rfl) (hf : Region.free md ops listed i = true := by kernel_rfl) (hr : (Region.ready md ops listed).contains i = true := by kernel_rfl)
  (hQ : ∀ c a w, Q (.panic c) (a.put d undef) w → Q (.panic c) a w := by exact fun _ _ _ h => h) (hy : YieldsIf P ops S oi undef a := by exact Or.inr ⟨by rfl, rfl⟩) (hS : S w := by assumption) : wpAnyH P md ops Q S (fuel + 1) listed a w :=
 takeH hi hd hs hf hr hQ hy hS h
theorem tkH {P : Program} {md : Region.Mode} {ops : Array Oper} {Q : Exit → Act → World → Prop} {S : World → Prop} {i : Nat} {d : Option Tmp} {oi : Oper} {v : Value} {fuel : Nat} {listed : Array Bool} {a : Act} {w : World}
  (hi : ops[i]? = some oi := by rfl) (hd : oi.dst = d := by rfl) (hs : Region.noSelect ops = true := by kernel_rfl) (hf : Region.free md ops listed i = true := by kernel_rfl) (hr : (Region.ready md ops listed).contains i = true := by kernel_rfl)
  (hQ : ∀ c a w, Q (.panic c) (a.put d v) w → Q (.panic c) a w := by exact fun _ _ _ h => h) (hy : YieldsIf P ops S oi v a) (hS : S w := by assumption) (h : wpAnyH P md ops Q S fuel (listed.setIfInBounds i true) (a.put d v) w) : wpAnyH P md ops Q S (fuel + 1) listed a w :=
 takeH hi hd hs hf hr hQ hy hS h
theorem tkA {α : Type} (l : List α) (i : Nat) (x : α) : l.toArray.setIfInBounds i x = (l.set i x).toArray := List.setIfInBounds_toArray ..
theorem tkB {α : Type} (x y : α) (l : List α) : (x :: l).set 0 y = y :: l := List.set_cons_zero
theorem tkC {α : Type} (x y : α) (n : Nat) (l : List α) : (x :: l).set (n + 1) y = x :: l.set n y := List.set_cons_succ
end Go.Proofs.YtbnkoefljcekbaaGreatDoor

namespace Go.Proofs.YtbnkoefljcekbaaGreatDoor
open Go.ChangeShapes Go.WideShapes Go.Deep Go.RowKit
set_option linter.unusedVariables false

/-- the numbers that a closure sorts by: in block cb, their header in block pc -/
structure CC where
 l : List Int
 pc : Nat
 cb : Nat
 cap : Nat
def vC (C : CC) (x : Int) : Int := C.l.getD x.toNat 0
def fI (C : CC) (x : Int) : Int := - vC C x
structure CrAt (C : CC) (w : World) : Prop where
 hd : w.cell? ⟨C.pc, 0, none⟩ = some (.slice (some ⟨C.cb, 0, none⟩) C.l.length C.cap)
 at_ : ∀ (j : Nat) (x : Int), C.l[j]? = some x → w.cell? ⟨C.cb, j, none⟩ = some (.int .i64 x)
theorem CrAt.below {C : CC} {w w' : World} (h : CrAt C w) (hb : Below w.heap.size w w') : CrAt C w' :=
 ⟨(hb.cell (cell?_lt h.hd)).trans h.hd, fun j x hj => (hb.cell (cell?_lt (h.at_ j x hj))).trans (h.at_ j x hj)⟩
def InC (C : CC) (x : Int) : Prop := 0 ≤ x ∧ x < (C.l.length : Int)
/-- the row of n ints at block b, from off on, holds d; it may be written to -/
structure RowI (C : CC) (w : World) (b off n : Nat) (d : List Int) : Prop where
 sl : SlAt RInt w (some ⟨b, off, none⟩) n d
 fz : ∀ j, w.frozen? ⟨b, off + j, none⟩ = false
 lt : b < w.heap.size
 cr : CrAt C w
 bd : ∀ x ∈ d, InC C x
 n1 : b ≠ C.pc
 n2 : b ≠ C.cb
section
variable {C : CC}
theorem RowI.below {w w' : World} {b off n : Nat} {d : List Int} (h : RowI C w b off n d) (hb : Below w.heap.size w w') : RowI C w' b off n d :=
 ⟨h.sl.below hb, fun j => (hb.frozen (p := ⟨b, off + j, none⟩) h.lt).trans (h.fz j), Nat.lt_of_lt_of_le h.lt hb.size, h.cr.below hb, h.bd, h.n1, h.n2⟩
theorem RowI.at_ {w : World} {b off n k : Nat} {d : List Int} {x : Int} (h : RowI C w b off n d) (hx : d[k]? = some x) : w.cell? ⟨b, off + k, none⟩ = some (.int .i64 x) := by
 have hk := (List.getElem?_eq_some_iff.1 hx).1
 obtain ⟨b', off', hA, hc⟩ := h.sl.2.1 (by have := h.sl.1; omega)
 obtain ⟨rfl, rfl⟩ : b = b' ∧ off = off' := by simpa using hA
 have := hc k x hx 0 _ rfl
 simpa [RInt] using this
theorem RowI.in_ {w : World} {b off n k : Nat} {d : List Int} {x : Int} (h : RowI C w b off n d) (hx : d[k]? = some x) : InC C x := h.bd x (List.mem_of_getElem? hx)
theorem RowI.put {w : World} {b off n k : Nat} {d : List Int} {x : Int} (h : RowI C w b off n d) (hk : k < n) (hx : I64 x) (hi : InC C x) : RowI C (w.setCell ⟨b, off + k, none⟩ (.int .i64 x)) b off n (d.set k x) := by
 have hl := h.sl.1
 obtain ⟨y, hy⟩ : ∃ y, d[k]? = some y := ⟨d[k]'(by omega), List.getElem?_eq_getElem _⟩
 have e0 := h.at_ hy
 have hn1 := h.n1
 have hn2 := h.n2
 refine ⟨⟨by rw [List.length_set]; exact hl, fun hn => ⟨b, off, rfl, fun i z hz j v hv => ?_⟩, fun z hz => ?_⟩, fun j => by rw [World.frozen?_setCell]; exact h.fz j, by simpa using h.lt,
  ⟨(World.cell?_setCell_other _ _ _ _ (by simp <;> omega)).trans h.cr.hd, fun j x hj => (World.cell?_setCell_other _ _ _ _ (by simp <;> omega)).trans (h.cr.at_ j x hj)⟩, fun z hz => ?_, h.n1, h.n2⟩
 ·match j, hv with
  | 0, hv =>
   simp only [RInt, List.getElem?_cons_zero, Option.some.injEq] at hv
   subst hv
   simp only [RInt, Nat.mul_one, Nat.add_zero]
   rw [List.getElem?_set] at hz
   by_cases hki : k = i
   ·subst hki
    rw [if_pos rfl, if_pos (by omega)] at hz
    injection hz with hz
    subst hz
    exact World.cell?_setCell_same' _ _ _ (by rw [e0]; rfl)
   ·rw [if_neg hki] at hz
    rw [World.cell?_setCell_other _ _ _ _ (by simp <;> omega)]
    exact h.at_ hz
  | j + 1, hv => simp [RInt] at hv
 ·rcases List.mem_or_eq_of_mem_set hz with hz | hz
  ·exact h.sl.2.2 z hz
  ·rw [hz]; exact hx
 ·rcases List.mem_or_eq_of_mem_set hz with hz | hz
  ·exact h.bd z hz
  ·rw [hz]; exact hi
/-- how the world goes on while the row in block b is sorted -/
def Srt (b : Nat) (w w' : World) : Prop := w.grownBy w' (some b)
theorem Srt.of_below {b : Nat} {w w' : World} (h : Below w.heap.size w w') : Srt b w w' := ⟨h.os, h.tape, h.output, h.size, fun k hk _ => h.block k hk⟩
theorem Srt.trans {b : Nat} {w w' w'' : World} (h : Srt b w w') (h2 : Srt b w' w'') : Srt b w w'' :=
 ⟨h2.os.trans h.os, h2.tape.trans h.tape, h2.output.trans h.output, Nat.le_trans h.size h2.size, fun k hk hne => (h2.block k (Nat.lt_of_lt_of_le hk h.size) hne).trans (h.block k hk hne)⟩
theorem Srt.put {b o : Nat} {w : World} (u : Value) : Srt b w (w.setCell ⟨b, o, none⟩ u) := grown_setc w ⟨b, o, none⟩ u
theorem Srt.drew {b : Nat} {w : World} : Srt b w w.drew := ⟨rfl, rfl, rfl, Nat.le_refl _, fun _ _ _ => rfl⟩
theorem set2_app (A M S : List Int) (x y : Int) : ((A ++ x :: M ++ y :: S).set A.length y).set (A.length + 1 + M.length) x = A ++ y :: M ++ x :: S := by
 rw [List.append_assoc, List.set_append_right _ _ (Nat.le_refl _), Nat.sub_self, List.cons_append, List.set_cons_zero, List.set_append_right _ _ (by omega)]
 rw [show A.length + 1 + M.length - A.length = M.length + 1 by omega, List.set_cons_succ, List.set_append_right _ _ (Nat.le_refl _), Nat.sub_self, List.set_cons_zero]
 simp
/-- the world behind an exchange -/
def exW (w : World) (b off i j : Nat) (x y : Int) : World := (w.setCell ⟨b, off + i, none⟩ (.int .i64 y)).setCell ⟨b, off + j, none⟩ (.int .i64 x)
theorem RowI.swap {w : World} {b off n i j : Nat} {A M S : List Int} {x y : Int} (h : RowI C w b off n (A ++ x :: M ++ y :: S)) (hi : A.length = i) (hj : j = i + 1 + M.length) : RowI C (exW w b off i j x y) b off n (A ++ y :: M ++ x :: S) := by
 have hl := h.sl.1
 simp only [List.length_append, List.length_cons] at hl
 have h1 := h.put (k := i) (x := y) (by omega) (h.sl.2.2 y (by simp)) (h.bd y (by simp))
 have h2 := h1.put (k := j) (x := x) (by omega) (h.sl.2.2 x (by simp)) (h.bd x (by simp))
 subst hi
 subst hj
 rw [set2_app] at h2
 exact h2
theorem RowI.swap2 {w : World} {b off n i j : Nat} {A M S : List Int} {x y : Int} (h : RowI C w b off n (A ++ x :: M ++ y :: S)) (hi : A.length = i) (hj : j = i + 1 + M.length) : RowI C (exW w b off j i y x) b off n (A ++ y :: M ++ x :: S) := by
 have hl := h.sl.1
 simp only [List.length_append, List.length_cons] at hl
 have h1 := h.put (k := j) (x := x) (by omega) (h.sl.2.2 x (by simp)) (h.bd x (by simp))
 have h2 := h1.put (k := i) (x := y) (by omega) (h.sl.2.2 y (by simp)) (h.bd y (by simp))
 subst hi
 subst hj
 rw [List.set_comm _ _ (by omega), set2_app] at h2
 exact h2
theorem exW_srt (w : World) (b off i j : Nat) (x y : Int) : Srt b w (exW w b off i j x y) := (Srt.put _).trans (Srt.put _)
theorem RowI.drew {w : World} {b off n : Nat} {d : List Int} (h : RowI C w b off n d) : RowI C w.drew b off n d := h.below ((Below.refl _ _).drew)
theorem keep2i {W w' : World} {a0 a2 : Addr} {v0 v2 : Value} (hb : Below W.heap.size W w') (h : W.cell? a0 = some v0 ∧ W.cell? a2 = some v2) : w'.cell? a0 = some v0 ∧ w'.cell? a2 = some v2 :=
 ⟨(hb.cell (cell?_lt h.1)).trans h.1, (hb.cell (cell?_lt h.2)).trans h.2⟩
end
def SwRel (C : CC) (P L M R S : List Int) (b off n N : Nat) (w0 : World) (i : Value) (wr : World) : Prop :=
 ∃ k : Nat, k ≤ N ∧ i = .int .i64 k ∧ RowI C wr b off n (P ++ (R.take k ++ L.drop k) ++ M ++ (L.take k ++ R.drop k) ++ S) ∧ Srt b w0 wr
set_option maxRecDepth 100000 in
set_option maxHeartbeats 8000000 in
theorem swapRange_any (C : CC) (b off n cap : Nat) (P L M R S : List Int) (N a c : Nat) (g : Value) (w : World) (hP : P.length = a) (hL : L.length = N) (hR : R.length = N) (hc : c = a + N + M.length) (hn : n ≤ 1000000000) (hrow : RowI C w b off n (P ++ L ++ M ++ R ++ S)) :
  Calls Tryz.prog 234 #[.slice (some ⟨b, off, none⟩) n cap, .int .i64 a, .int .i64 c, .int .i64 N, g] w fun e w' => e = .returned (.tuple #[]) ∧ RowI C w' b off n (P ++ R ++ M ++ L ++ S) ∧ Srt b w w' := by
 have hlen := hrow.sl.1
 simp only [List.length_append] at hlen
 have hcn : c + N ≤ n := by omega
 have hrowH := Lib.hid hrow; have hlenH := Lib.hid hlen; have hPH := Lib.hid hP; have hLH := Lib.hid hL; have hRH := Lib.hid hR; have hcH := Lib.hid hc; clear hrow hlen hP hL hR hc
 go_enter Tryz.func234, Tryz.ntmps234
 go_wp2_with fail
 go_loopw [10] (fun i wr => SwRel C P L M R S b off n N w i wr) (fun i _ => N - (intOf i).toNat)
 case atStart => exact ⟨0, Nat.zero_le _, rfl, by simpa using hrowH.out, World.grownBy.refl _ _⟩
 case round =>
  obtain ⟨k, hk, rfl, hrw, hs⟩ := hrel
  by_cases hlt : k < N
  ·obtain ⟨x, hx⟩ : ∃ x, L[k]? = some x := ⟨L[k]'(by have := hLH.out; omega), List.getElem?_eq_getElem _⟩
   obtain ⟨y, hy⟩ : ∃ y, R[k]? = some y := ⟨R[k]'(by have := hRH.out; omega), List.getElem?_eq_getElem _⟩
   have hac : a + N ≤ c := by have := hcH.out; omega
   have hd : P ++ (R.take k ++ L.drop k) ++ M ++ (L.take k ++ R.drop k) ++ S = (P ++ R.take k) ++ x :: (L.drop (k + 1) ++ M ++ L.take k) ++ y :: (R.drop (k + 1) ++ S) := by
    rw [drop_cons hx, drop_cons hy]; simp
   have hd2 : P ++ (R.take (k + 1) ++ L.drop (k + 1)) ++ M ++ (L.take (k + 1) ++ R.drop (k + 1)) ++ S = (P ++ R.take k) ++ y :: (L.drop (k + 1) ++ M ++ L.take k) ++ x :: (R.drop (k + 1) ++ S) := by
    rw [List.take_add_one, List.take_add_one, hx, hy]; simp
   rw [hd] at hrw
   have hgx : ((P ++ R.take k) ++ x :: (L.drop (k + 1) ++ M ++ L.take k) ++ y :: (R.drop (k + 1) ++ S))[a + k]? = some x := by
    rw [List.append_assoc, List.getElem?_append_right (by rw [List.length_append, List.length_take]; have := hPH.out; have := hRH.out; omega)]
    rw [show a + k - (P ++ R.take k).length = 0 by rw [List.length_append, List.length_take]; have := hPH.out; have := hRH.out; omega]
    rfl
   have hgy : ((P ++ R.take k) ++ x :: (L.drop (k + 1) ++ M ++ L.take k) ++ y :: (R.drop (k + 1) ++ S))[c + k]? = some y := by
    have hlq : ((P ++ R.take k) ++ x :: (L.drop (k + 1) ++ M ++ L.take k)).length = c + k := by
     simp only [List.length_append, List.length_cons, List.length_take, List.length_drop]
     have := hPH.out; have := hLH.out; have := hRH.out; have := hcH.out; omega
    rw [List.getElem?_append_right (by omega), hlq, Nat.sub_self]
    rfl
   have x0 := hrw.at_ hgx
   have y0 := hrw.at_ hgy
   have fz := hrw.fz
   have f0 := fz (a + k)
   have f2 := fz (c + k)
   clear fz
   have hrwH := Lib.hid hrw; have hsH := Lib.hid hs; have hxH := Lib.hid hx; have hyH := Lib.hid hy; have hdH := Lib.hid hd; have hd2H := Lib.hid hd2; have hgxH := Lib.hid hgx; have hgyH := Lib.hid hgy; clear hrw hs hx hy hd hd2 hgx hgy
   have R1 : SwRel C P L M R S b off n N w (.int .i64 ((k : Int) + 1)) (exW wr b off (a + k) (c + k) x y).drew := by
    refine ⟨k + 1, by omega, by go_num, ?_, (hsH.out.trans (exW_srt _ _ _ _ _ _ _)).trans Srt.drew⟩
    rw [hd2H.out]
    exact (hrwH.out.swap (by rw [List.length_append, List.length_take]; have := hPH.out; have := hRH.out; omega) (by simp only [List.length_append, List.length_take, List.length_drop]; have := hLH.out; have := hcH.out; omega)).drew
   unfold exW at R1
   have R1H := Lib.hid R1; clear R1
   go_wp2_with fail
   go_region
   go_wp2
   refine ⟨?rel, ?measure⟩
   case measure => (simp [intOf]; omega)
   case rel => first | exact R1H.out | exact ⟨rfl, R1H.out⟩ | ((try refine ⟨rfl, ?_⟩); (repeat apply Exists.intro); refine ⟨R1H.out, ?_⟩; ((repeat' apply And.intro) <;> rfl))
  ·have hkN : k = N := by omega
   have e : P ++ (R.take k ++ L.drop k) ++ M ++ (L.take k ++ R.drop k) ++ S = P ++ R ++ M ++ L ++ S := by
    have t1 : R.take k = R := List.take_of_length_le (by have := hRH.out; omega)
    have t2 : L.take k = L := List.take_of_length_le (by have := hLH.out; omega)
    have t3 : R.drop k = [] := List.drop_eq_nil_of_le (by have := hRH.out; omega)
    have t4 : L.drop k = [] := List.drop_eq_nil_of_le (by have := hLH.out; omega)
    rw [t1, t2, t3, t4]; simp
   rw [e] at hrw
   have hrwH := Lib.hid hrw; have hsH := Lib.hid hs; have eH := Lib.hid e; clear hrw hs e
   go_wp2
   go_end0
   exact ⟨rfl, hrwH.out, hsH.out⟩
end Go.Proofs.YtbnkoefljcekbaaGreatDoor

namespace Go.Proofs.YtbnkoefljcekbaaGreatDoor
open Go.ChangeShapes Go.WideShapes Go.Deep Go.RowKit
set_option linter.unusedVariables false

def RtRel (C : CC) (T : List Int) (b off n m : Nat) (w0 : World) (vi vj : Value) (wr : World) : Prop :=
 ∃ (i j : Nat) (A L R B : List Int), vi = .int .i64 i ∧ vj = .int .i64 j ∧ 1 ≤ i ∧ 1 ≤ j ∧ i ≤ m ∧ L.length = i ∧ R.length = j ∧ A.length = m - i ∧ RowI C wr b off n (A ++ L ++ R ++ B) ∧ A ++ R ++ L ++ B = T ∧ Srt b w0 wr
set_option maxRecDepth 100000 in
set_option maxHeartbeats 8000000 in
theorem rotate_any (C : CC) (b off n cap : Nat) (P X Y S : List Int) (a m e : Nat) (g : Value) (w : World) (hP : P.length = a) (hm : m = a + X.length) (he : e = m + Y.length) (hX : 1 ≤ X.length) (hY : 1 ≤ Y.length) (hn : n ≤ 1000000000) (hrow : RowI C w b off n (P ++ X ++ Y ++ S)) :
  Calls Tryz.prog 232 #[.slice (some ⟨b, off, none⟩) n cap, .int .i64 a, .int .i64 m, .int .i64 e, g] w fun e w' => e = .returned (.tuple #[]) ∧ RowI C w' b off n (P ++ Y ++ X ++ S) ∧ Srt b w w' := by
 have hlen := hrow.sl.1
 simp only [List.length_append] at hlen
 have hen : e ≤ n := by omega
 have i0 : (m : Int) - (a : Int) = ((m - a : Nat) : Int) := by omega
 have j0 : (e : Int) - (m : Int) = ((e - m : Nat) : Int) := by omega
 obtain ⟨T, hT⟩ : ∃ T, P ++ Y ++ X ++ S = T := ⟨_, rfl⟩
 have hstart : RtRel C T b off n m w (.int .i64 ((m - a : Nat) : Int)) (.int .i64 ((e - m : Nat) : Int)) w := ⟨m - a, e - m, P, X, Y, S, rfl, rfl, by omega, by omega, by omega, by omega, by omega, by omega, hrow, hT, World.grownBy.refl _ _⟩
 have ham : a ≤ m := by omega
 have hme : m ≤ e := by omega
 rw [hT]
 have hrowH := Lib.hid hrow; have hlenH := Lib.hid hlen; have hPH := Lib.hid hP; have hXH := Lib.hid hX; have hYH := Lib.hid hY; have hTH := Lib.hid hT; have hstartH := Lib.hid hstart; have hmH := Lib.hid hm; have heH := Lib.hid he; have i0H := Lib.hid i0; have j0H := Lib.hid j0; clear hrow hlen hP hX hY hT hstart hm he i0 j0
 go_enter Tryz.func232, Tryz.ntmps232
 go_wp2_with fail
 go_loopw [10, 11] (fun vi vj wr => RtRel C T b off n m w vi vj wr) (fun vi vj _ => (intOf vi).toNat + (intOf vj).toNat)
 case atStart =>
  have := hstartH.out
  rw [← i0H.out, ← j0H.out] at this
  exact this
 case round =>
  clear hstartH i0H j0H
  obtain ⟨i, j, A, L, R, B, rfl, rfl, hi1, hj1, him, hL, hR, hA, hrw, hTT, hs⟩ := hrel
  have hl2 := hrw.sl.1
  simp only [List.length_append] at hl2
  have hmj : m + j ≤ n := by omega
  rcases Nat.lt_trichotomy i j with hlt | heq | hgt
  ·have hne : ((i : Int) != (j : Int)) = true := by simp; omega
   have hne2 : ¬ (i : Int) = (j : Int) := by omega
   have hg : ¬ (j : Int) < (i : Int) := by omega
   have hb := swapRange_any C b off n cap A L (R.take (j - i)) (R.drop (j - i)) B i (m - i) (m + j - i) g wr hA hL (by rw [List.length_drop]; omega) (by rw [List.length_take]; omega) hn (by simpa using hrw)
   have c1 : (m : Int) - (i : Int) = ((m - i : Nat) : Int) := by omega
   have c2 : (m : Int) + (j : Int) - (i : Int) = ((m + j - i : Nat) : Int) := by omega
   have R1 : ∀ w', RowI C w' b off n (A ++ R.drop (j - i) ++ R.take (j - i) ++ L ++ B) → Srt b wr w' → RtRel C T b off n m w (.int .i64 (i : Int)) (.int .i64 ((j : Int) - (i : Int))) w' := fun w' h1 h2 => by
    refine ⟨i, j - i, A, R.drop (j - i), R.take (j - i), L ++ B, rfl, by go_num, hi1, by omega, him, by rw [List.length_drop]; omega, by rw [List.length_take]; omega, hA, by simpa using h1, ?_, hs.trans h2⟩
    rw [← hTT, List.append_assoc A, List.take_append_drop]; simp
   have hLH := Lib.hid hL; have hRH := Lib.hid hR; have hAH := Lib.hid hA; have hrwH := Lib.hid hrw; have hTTH := Lib.hid hTT; have hsH := Lib.hid hs; have hl2H := Lib.hid hl2; have hbH := Lib.hid hb; have R1H := Lib.hid R1; have c1H := Lib.hid c1; have c2H := Lib.hid c2; clear hL hR hA hrw hTT hs hl2 hb R1 c1 c2
   go_wp2_with fail
   rw [c1H.out, c2H.out]
   refine hbH.out.mono ?_
   rintro e w1 ⟨rfl, hr1, hs1⟩
   have R2 := R1H.out w1 hr1 hs1
   clear hr1 hs1
   have R2H := Lib.hid R2; clear R2
   go_wp2
   refine ⟨?rel, ?measure⟩
   case measure => (simp [intOf]; omega)
   case rel => first | exact R2H.out | exact ⟨rfl, R2H.out⟩ | ((try refine ⟨rfl, ?_⟩); (repeat apply Exists.intro); refine ⟨R2H.out, ?_⟩; ((repeat' apply And.intro) <;> rfl))
  ·subst heq
   have hne : ((i : Int) != (i : Int)) = false := by simp
   have hb := swapRange_any C b off n cap A L [] R B i (m - i) m g wr hA hL hR (by simp; omega) hn (by simpa using hrw)
   have c1 : (m : Int) - (i : Int) = ((m - i : Nat) : Int) := by omega
   rw [show A ++ R ++ [] ++ L ++ B = T by rw [← hTT]; simp] at hb
   have hLH := Lib.hid hL; have hRH := Lib.hid hR; have hAH := Lib.hid hA; have hrwH := Lib.hid hrw; have hTTH := Lib.hid hTT; have hsH := Lib.hid hs; have hl2H := Lib.hid hl2; have hbH := Lib.hid hb; have c1H := Lib.hid c1; clear hL hR hA hrw hTT hs hl2 hb c1
   go_wp2_with fail
   rw [c1H.out]
   refine hbH.out.mono ?_
   rintro e w1 ⟨rfl, hr1, hs1⟩
   have hs2 := hsH.out.trans hs1
   clear hs1
   have hr1H := Lib.hid hr1; have hs2H := Lib.hid hs2; clear hr1 hs2
   go_wp2
   go_end0
   exact ⟨rfl, hr1H.out, hs2H.out⟩
  ·have hne : ((i : Int) != (j : Int)) = true := by simp; omega
   have hne2 : ¬ (i : Int) = (j : Int) := by omega
   have hg : (j : Int) < (i : Int) := by omega
   have hb := swapRange_any C b off n cap A (L.take j) (L.drop j) R B j (m - i) m g wr hA (by rw [List.length_take]; omega) hR (by rw [List.length_drop]; omega) hn (by rw [List.append_assoc A, List.take_append_drop]; simpa using hrw)
   have c1 : (m : Int) - (i : Int) = ((m - i : Nat) : Int) := by omega
   have R1 : ∀ w', RowI C w' b off n (A ++ R ++ L.drop j ++ L.take j ++ B) → Srt b wr w' → RtRel C T b off n m w (.int .i64 ((i : Int) - (j : Int))) (.int .i64 (j : Int)) w' := fun w' h1 h2 => by
    refine ⟨i - j, j, A ++ R, L.drop j, L.take j, B, by go_num, rfl, by omega, hj1, by omega, by rw [List.length_drop]; omega, by rw [List.length_take]; omega, by rw [List.length_append]; omega, h1, ?_, hs.trans h2⟩
    rw [← hTT, List.append_assoc (A ++ R), List.take_append_drop]
   have hLH := Lib.hid hL; have hRH := Lib.hid hR; have hAH := Lib.hid hA; have hrwH := Lib.hid hrw; have hTTH := Lib.hid hTT; have hsH := Lib.hid hs; have hl2H := Lib.hid hl2; have hbH := Lib.hid hb; have R1H := Lib.hid R1; have c1H := Lib.hid c1; clear hL hR hA hrw hTT hs hl2 hb R1 c1
   go_wp2_with fail
   rw [c1H.out]
   refine hbH.out.mono ?_
   rintro e w1 ⟨rfl, hr1, hs1⟩
   have R2 := R1H.out w1 hr1 hs1
   clear hr1 hs1
   have R2H := Lib.hid R2; clear R2
   go_wp2
   refine ⟨?rel, ?measure⟩
   case measure => (simp [intOf]; omega)
   case rel => first | exact R2H.out | exact ⟨rfl, R2H.out⟩ | ((try refine ⟨rfl, ?_⟩); (repeat apply Exists.intro); refine ⟨R2H.out, ?_⟩; ((repeat' apply And.intro) <;> rfl))
end Go.Proofs.YtbnkoefljcekbaaGreatDoor

namespace Go.Proofs.YtbnkoefljcekbaaGreatDoor
set_option linter.unusedVariables false

section
variable {α : Type} {f : α → Int}
theorem ins_sorted {X Y : List α} {x : α} (h : SortedBy f (X ++ Y)) (hX : ∀ a, X.getLast? = some a → f a ≤ f x) (hY : ∀ y ∈ Y, f x < f y) : SortedBy f (X ++ x :: Y) := by
 unfold SortedBy at *
 obtain ⟨h1, h2, h3⟩ := List.pairwise_append.1 h
 refine List.pairwise_append.2 ⟨h1, List.pairwise_cons.2 ⟨fun y hy => Int.le_of_lt (hY y hy), h2⟩, fun a ha b hb => ?_⟩
 rcases List.mem_cons.1 hb with rfl | hb
 ·rcases List.eq_nil_or_concat X with rfl | ⟨X', z, rfl⟩
  ·cases ha
  ·have hz := hX z (by simp)
   rw [List.concat_eq_append] at ha h1
   rcases List.mem_append.1 ha with ha | ha
   ·have := (List.pairwise_append.1 h1).2.2 a ha z (by simp)
    exact Int.le_trans this hz
   ·rw [List.mem_singleton.1 ha]; exact hz
 ·exact h3 a ha b hb
theorem ins_cls {X Y Z : List α} {x : α} (h : SameCls f (X ++ Y) Z) (hY : ∀ y ∈ Y, f x < f y) : SameCls f (X ++ x :: Y) (Z ++ [x]) := fun v => by
 have h1 := h v
 unfold cls at *
 rw [List.filter_append] at h1
 rw [List.filter_append, List.filter_append, ← h1, List.filter_cons, List.append_assoc]
 congr 1
 by_cases hv : f x = v
 ·subst hv
  have : Y.filter (fun y => f y == f x) = [] := List.filter_eq_nil_iff.2 fun y hy => by have := hY y hy; simp; omega
  rw [this]; simp
 ·simp [hv]
/-- what is filtered out of a stably sorted row is the stably sorted filtered row -/
theorem filter_sorted {L : List α} (p : α → Bool) (h : SortedBy f L) : SortedBy f (L.filter p) := List.Pairwise.filter p h
theorem filter_cls {L Z : List α} (p : α → Bool) (h : SameCls f L Z) : SameCls f (L.filter p) (Z.filter p) := fun v => by
 have h1 := h v
 unfold cls at *
 rw [List.filter_filter, List.filter_filter]
 have e : ∀ M : List α, M.filter (fun a => (f a == v) && p a) = (M.filter fun a => f a == v).filter p := fun M => by
  rw [List.filter_filter]
  congr 1
  funext a
  rw [Bool.and_comm]
 rw [e, e, h1]
end
end Go.Proofs.YtbnkoefljcekbaaGreatDoor

namespace Go.Proofs.YtbnkoefljcekbaaGreatDoor
open Go.ChangeShapes Go.WideShapes Go.Deep Go.RowKit
set_option linter.unusedVariables false

theorem set_take_drop (L : List Value) (o : Nat) (v : Value) (h : o < L.length) (k : Nat) : (L.set o v).take (o + 1) = L.take o ++ [v] ∧ (L.set o v).drop (o + 1 + k) = L.drop (o + 1 + k) := by
 constructor
 ·rw [List.set_eq_take_append_cons_drop, if_pos h, List.take_append, List.length_take, Nat.min_eq_left (Nat.le_of_lt h)]
  rw [List.take_of_length_le (by rw [List.length_take]; omega), show o + 1 - o = 1 by omega]
  rfl
 ·rw [List.drop_set_of_lt (by omega)]
theorem heap_setCells (g : Nat) (e : TypeId) : ∀ (vs : List Value) (o : Nat) (w : World) (cur : Array Value), w.heap[g]? = some (.cells cur e (0, 0)) → o + vs.length ≤ cur.size →
  ∃ cur', (w.setCells g o vs).heap[g]? = some (.cells cur' e (0, 0)) ∧ cur'.toList = cur.toList.take o ++ vs ++ cur.toList.drop (o + vs.length)
 | [], o, w, cur, h, _ => ⟨cur, h, by simp⟩
 | v :: r, o, w, cur, h, hl => by
  rw [List.length_cons] at hl
  have h1 := heap_setCell_same w g o cur e v h
  obtain ⟨cur', a, b⟩ := heap_setCells g e r (o + 1) _ _ h1 (by simp; omega)
  refine ⟨cur', a, ?_⟩
  rw [b, Array.toList_setIfInBounds]
  obtain ⟨e1, e2⟩ := set_take_drop cur.toList o v (by simp; omega) r.length
  rw [e1, e2, List.length_cons, show o + 1 + r.length = o + (r.length + 1) by omega]
  simp
theorem grown_trans {a b c : World} {row : Option Nat} (h : a.grownBy b row) (h2 : b.grownBy c row) : a.grownBy c row :=
 ⟨h2.os.trans h.os, h2.tape.trans h.tape, h2.output.trans h.output, Nat.le_trans h.size h2.size, fun k hk hne => (h2.block k (Nat.lt_of_lt_of_le hk h.size) hne).trans (h.block k hk hne)⟩
theorem grown_setCells (b : Nat) : ∀ (vs : List Value) (o : Nat) (w : World), w.grownBy (w.setCells b o vs) (some b)
 | [], _, w => World.grownBy.refl _ _
 | v :: r, o, w => grown_trans (grown_setc w ⟨b, o, none⟩ v) (grown_setCells b r (o + 1) _)
theorem own_block {α : Type} {R : Rd α} {e : TypeId} {w : World} {base n cap : Nat} {A : Option Addr} {l : List α} (h : Own R e w base (.slice A n cap) l) (hn : 0 < n) :
  ∃ g cur, A = some ⟨g, 0, none⟩ ∧ base ≤ g ∧ w.heap[g]? = some (.cells cur e (0, 0)) ∧ n ≤ cap ∧ cap ≤ maxLen ∧ cur.size = cap * R.size ∧ cur.toList.take (n * R.size) = l.flatMap R.vals := by
 rcases h.1.2 with ⟨hv, _⟩ | ⟨g, cap', cur, hv, a, b, c, d, e1, f⟩
 ·injection hv with _ h2 _; omega
 ·injection hv with h1 h2 h3
  subst h3
  rw [h.len] at c f
  exact ⟨g, cur, h1, a, b, c, d, e1, f⟩
end Go.Proofs.YtbnkoefljcekbaaGreatDoor
