/-
  Several texts of mine as one, without what is not wanted here: XCrB, XTailIn, XTake, XSwpI, XRotI, XPlP, XWkH, XInsN, XRkD, XPool, XPlE, XPlW.
-/
import Derived.Test.YtbnkoefljcekbaaGreatDoorOaGB
import Derived.RangeFuncCalls
import Derived.OwnWalkIn
import Derived.OrdersIn
import Derived.StillTailTactics
import Derived.Test.YtbnkoefljcekbaaGreatDoorOaG
import Derived.Deep.RegionHeld3
import Derived.Shelf.Spec.SlicesInsertGrow
namespace Go.Proofs.YtbnkoefljcekbaaGreatDoor
set_option linter.unusedVariables false

section
variable {g : Nat → List Nat} {sz : Nat → Int} {N : Nat} {C : Nat → Int} {out : List Nat}
/-- behind k rounds from the end -/
structure Bk (g : Nat → List Nat) (sz : Nat → Int) (N : Nat) (C : Nat → Int) (out : List Nat) (k : Nat) (S : List Int) : Prop where
  len : S.length = N
  done : ∀ j, j < N → j ∈ out.drop (N - k) → gt S j = C j
  left : ∀ j, j < N → j ∉ out.drop (N - k) → MaxOf g (· ∈ out.drop (N - k)) C j (gt S j)
/-- amid the works that i waits for -/
structure Bi (S1 : List Int) (c : Int) (pre : List Nat) (S : List Int) : Prop where
  len : S.length = S1.length
  at_ : ∀ j, gt S j = if j ∈ pre then max (gt S1 j) c else gt S1 j
theorem Bi.nil (S1 : List Int) (c : Int) : Bi S1 c [] S1 := ⟨rfl, fun j => by simp⟩
theorem Bi.step {S1 S : List Int} {c : Int} {pre : List Nat} (h : Bi S1 c pre S) {k : Nat} (hk : k < S.length) : Bi S1 c (pre ++ [k]) (S.set k (max (gt S k) c)) := by
  refine ⟨by rw [List.length_set]; exact h.len, fun j => ?_⟩
  rw [gt_set hk]
  have := h.at_ j
  by_cases e : j = k
  · subst e
    rw [if_pos rfl, if_pos (by simp), this]
    split <;> omega
  · rw [if_neg e, this]
    by_cases hj : j ∈ pre
    · rw [if_pos hj, if_pos (by simp [hj])]
    · rw [if_neg hj, if_neg (by simp [hj, e])]
theorem zero_gt (N k : Nat) : gt (List.replicate N (0 : Int)) k = 0 := by
  unfold gt
  rw [List.getD_eq_getElem?_getD]
  by_cases h : k < N
  · rw [List.getElem?_replicate, if_pos h]; rfl
  · rw [List.getElem?_eq_none (by simp; omega)]; rfl
theorem Bk.nil (hl : out.length = N) : Bk g sz N C out 0 (List.replicate N 0) := by
  have e : out.drop (N - 0) = [] := List.drop_eq_nil_of_le (by omega)
  refine ⟨by simp, fun j _ hj => (by rw [e] at hj; cases hj), fun j _ _ => ?_⟩
  rw [e, zero_gt]
  exact ⟨Int.le_refl _, fun k hk => (by cases hk), .inl rfl⟩
theorem Bk.all {S : List Int} (ht : Topo g N out) (hl : out.length = N) (h : Bk g sz N C out N S) : ∀ j, j < N → gt S j = C j := fun j hj => h.done j hj (by rw [Nat.sub_self, List.drop_zero]; exact ht.all hl hj)
/-- the work whose turn it is -/
theorem Bk.turn {S : List Int} {k i : Nat} (ht : Topo g N out) (hl : out.length = N) (hC : Crit g sz N C) (h : Bk g sz N C out k S) (hk : k < N) (hi : out[N - 1 - k]? = some i) :
    i < N ∧ gt S i + sz i = C i ∧ i ∉ g i ∧ out.drop (N - (k + 1)) = i :: out.drop (N - k) ∧ ∀ j ∈ g i, j < N ∧ j ∉ out.drop (N - k) := by
  have hd : out.drop (N - (k + 1)) = i :: out.drop (N - k) := by
    obtain ⟨h1, h2⟩ := List.getElem?_eq_some_iff.1 hi
    rw [show N - (k + 1) = N - 1 - k by omega, List.drop_eq_getElem_cons h1, h2, show N - 1 - k + 1 = N - k by omega]
  have e : out = out.take (N - (k + 1)) ++ i :: out.drop (N - k) := by rw [← hd, List.take_append_drop]
  obtain ⟨a, ha⟩ : ∃ a, out.take (N - (k + 1)) = a := ⟨_, rfl⟩
  obtain ⟨b, hb⟩ : ∃ b, out.drop (N - k) = b := ⟨_, rfl⟩
  rw [ha, hb] at e
  have hiN : i < N := ht.lt i (by rw [e]; simp)
  have hnd := ht.nodup
  have hpre : ∀ j ∈ g i, j ∈ a := fun j hj => ht.pre a b i e j hj
  rw [e] at hnd
  have hib : i ∉ b := fun h => (List.nodup_cons.1 (List.nodup_append.1 hnd).2.1).1 h
  have hig : i ∉ g i := fun h => (List.nodup_append.1 hnd).2.2 i (hpre i h) i (by simp) rfl
  refine ⟨hiN, ?_, hig, by rw [hd], fun j hj => ⟨ht.lt j (by rw [e]; simp [hpre j hj]), fun h => ?_⟩⟩
  · obtain ⟨m, h1, h2⟩ := hC i hiN
    have h3 := h.left i hiN (by rw [hb]; exact hib)
    rw [hb] at h3
    have := h3.uniq (h1.congr (fun q hq => ⟨fun hqN => topo_behind ht hl e hqN hq, fun hqb => ht.lt q (by rw [e]; simp [hqb])⟩) (fun _ _ _ => rfl))
    omega
  · rw [hb] at h
    exact (List.nodup_append.1 hnd).2.2 j (hpre j hj) j (by simp [h]) rfl
theorem Bk.step {S S2 : List Int} {k i : Nat} (ht : Topo g N out) (hl : out.length = N) (hC : Crit g sz N C) (hC0 : ∀ j, j < N → 0 ≤ C j) (h : Bk g sz N C out k S) (hk : k < N) (hi : out[N - 1 - k]? = some i)
    (h2 : Bi (S.set i (C i)) (C i) (g i) S2) : Bk g sz N C out (k + 1) S2 := by
  obtain ⟨hiN, t1, t2, t3, t4⟩ := h.turn ht hl hC hk hi
  have hlt : i < S.length := by rw [h.len]; exact hiN
  have hat : ∀ j, gt S2 j = if j ∈ g i then max (gt S j) (C i) else if j = i then C i else gt S j := fun j => by
    rw [h2.at_, gt_set hlt]
    by_cases hj : j ∈ g i
    · rw [if_pos hj, if_pos hj, if_neg (fun e => by subst e; exact t2 hj)]
    · rw [if_neg hj, if_neg hj]
  refine ⟨by rw [h2.len, List.length_set]; exact h.len, fun j hj hm => ?_, fun j hj hm => ?_⟩
  · rw [t3] at hm
    rw [hat]
    rcases List.mem_cons.1 hm with rfl | hm
    · rw [if_neg t2, if_pos rfl]
    · rw [if_neg (fun hg => (t4 j hg).2 hm)]
      split
      · rename_i e; rw [e]
      · exact h.done j hj hm
  · rw [t3] at hm ⊢
    have hji : j ≠ i := fun e => hm (by rw [e]; simp)
    have hjb : j ∉ out.drop (N - k) := fun h => hm (by simp [h])
    have h3 := h.left j hj hjb
    rw [hat]
    by_cases hg : j ∈ g i
    · rw [if_pos hg]
      refine ⟨by have := h3.nn; omega, fun q hq hjq => ?_, ?_⟩
      · rcases List.mem_cons.1 hq with rfl | hq
        · omega
        · have := h3.up q hq hjq; omega
      · by_cases hm : gt S j ≤ C i
        · exact .inr ⟨i, by simp, hg, by omega⟩
        · rcases h3.at_ with e | ⟨q, a, b, e⟩
          · have := hC0 i hiN; omega
          · exact .inr ⟨q, List.mem_cons_of_mem _ a, b, by omega⟩
    · rw [if_neg hg, if_neg hji]
      exact h3.congr (fun q hq => ⟨fun h => List.mem_cons_of_mem _ h, fun h => by
        rcases List.mem_cons.1 h with rfl | h
        · exact absurd hq hg
        · exact h⟩) (fun _ _ _ => rfl)
/-- all numbers stay within bounds -/
theorem Bk.b {S : List Int} {k : Nat} {B : Int} (h : Bk g sz N C out k S) (ht : Topo g N out) (hB : 0 ≤ B) (hb : ∀ j, j < N → 0 ≤ C j ∧ C j ≤ B) : ∀ j, j < N → 0 ≤ gt S j ∧ gt S j ≤ B := fun j hj => by
  by_cases hm : j ∈ out.drop (N - k)
  · rw [h.done j hj hm]; exact hb j hj
  · have h3 := h.left j hj hm
    refine ⟨h3.nn, ?_⟩
    rcases h3.at_ with e | ⟨q, a, b, e⟩
    · omega
    · rw [e]; exact (hb q (ht.lt q (List.mem_of_mem_drop a))).2
end
end Go.Proofs.YtbnkoefljcekbaaGreatDoor

namespace Go.Proofs.YtbnkoefljcekbaaGreatDoor
set_option linter.unusedVariables false

section
variable {P : Program} {ops : Array Oper} {Q : Exit → Act → World → Prop} {md : Region.Mode} {lp n : Nat}
def noOut (Q : Exit → Act → World → Prop) : Exit → Act → World → Prop
  | .outgrown, _, _ => False
  | e, a, w => Q e a w
theorem noOut_lets : ¬ LetsOut (noOut Q) := fun ⟨_, _, h⟩ => h
theorem rows_in {row : String} {args : Array Value} {w : World} {R : Value → World → Prop} (h : Rows P row args w R) : RowsIn (Fence.wide.inRound lp) n P row args w R :=
  fun c cs _ => let ⟨v, w', r, s⟩ := h c cs; ⟨v, w', r, stepsIn_wide.2 s⟩
theorem oper_in {o : Oper} {a : Act} {w : World} {next next' : Act → World → Prop} (hd : ∀ c, o.op ≠ .defer c) (hn : ∀ a w, next a w → next' a w) (h : o.wp P a w next (noOut Q)) :
    o.wpIn (Fence.wide.inRound lp) n P a w next' Q := by
  refine ⟨fun _ _ => trivial, ?_⟩
  rw [Oper.semAt_plain _ _ _ hd]
  unfold Oper.wp at h
  generalize (execOp a.eval o).run P w = r at h
  cases r with
  | ok x w' =>
    cases x with
    | value v => exact hn _ _ h
    | skip => exact hn _ _ h
    | defer d => exact hn _ _ h
    | enter f args =>
      refine ⟨fun h => (by cases h), CallsIn.inRound lp (callsIn_wide.2 (Calls.mono h ?_))⟩
      rintro e w'' he
      cases e with
      | returned v => exact hn _ _ he
      | panicked c => exact he
      | outgrown => exact absurd he noOut_lets
    | row row args => exact ⟨fun h => (by cases h), (rows_in h).mono fun _ _ he => hn _ _ he⟩
    | _ => exact absurd h (by simp [Oper.upon])
  | halt x w' => cases x <;> first | exact h | exact absurd h (by simp [Oper.upon])
theorem op_in {i : Nat} {a : Act} {w : World} {K K' : Act → World → Prop} (hd : ∀ (i : Nat) (o : Oper), ops[i]? = some o → ∀ c, o.op ≠ .defer c) (hK : ∀ a w, K a w → K' a w) (h : wpOp P ops (noOut Q) i K a w) :
    wpOpIn (Fence.wide.inRound lp) n P ops Q i K' a w := by
  unfold wpOp at h
  unfold wpOpIn
  cases ho : ops[i]? with
  | none => rw [ho] at h; exact hK _ _ h
  | some o =>
    rw [ho] at h
    simp only at h ⊢
    split at h
    · rename_i hw
      rw [if_pos hw]
      rcases h with h | h
      · exact oper_in (hd i o ho) hK h
      · exact absurd h.2 noOut_lets
    · rename_i hw
      rw [if_neg hw]
      exact ⟨fun _ _ => trivial, hK _ _ h⟩
theorem any_in (hd : ∀ (i : Nat) (o : Oper), ops[i]? = some o → ∀ c, o.op ≠ .defer c) : ∀ (fuel : Nat) (listed : Array Bool) (a : Act) (w : World), wpAny P md ops (noOut Q) fuel listed a w → wpAnyIn (Fence.wide.inRound lp) n P md ops Q fuel listed a w
  | 0, _, _, _, h => h
  | fuel + 1, _, _, _, h => ⟨h.1, fun i hi => op_in hd (fun a w h => any_in hd fuel _ a w h) (h.2 i hi)⟩
def noDefer (l : List Oper) : Bool := l.all fun o => match o.op with | .defer _ => false | _ => true
theorem noDefer_spec {l : List Oper} (h : noDefer l = true) : ∀ (i : Nat) (o : Oper), l.toArray[i]? = some o → ∀ c, o.op ≠ .defer c := fun i o ho c e => by
  have hm : o ∈ l := by rw [List.getElem?_toArray] at ho; exact List.mem_of_getElem? ho
  have := List.all_eq_true.1 h o hm
  rw [e] at this
  cases this
theorem region_tail_in {id : Nat} {a : Act} {w : World} {l : List Oper} (k : Nat) (hm : P.follows .mixedOrders = true) (hB : Region.lexTailB .any l.toArray k = true) (hd : noDefer l = true)
    (h : wpStill P l.toArray { w with drawn := w.drawn + 1 } (fun a' => wpList P l.toArray (noOut Q) (l.drop k) a' { w with drawn := w.drawn + 1 }) (l.take k) a) : (Code.region id l.toArray true).wpIn (Fence.wide.inRound lp) n P Q a w := by
  simp only [Region.lexTailB, Bool.and_eq_true, decide_eq_true_eq] at hB
  obtain ⟨⟨⟨⟨hsel, hn⟩, hs⟩, hc⟩, hlex⟩ := hB
  have hn' : k < l.length := by simpa using hn
  have htl : (l.take k).length = k := by simp; omega
  have hdl : (l.drop k).length = l.toArray.size - k := by simp
  have inv0 : HeadInv .any l.toArray k (Array.replicate l.toArray.size false) :=
    ⟨by simp, fun j oj _ hl => (by rw [getD_replicate_false] at hl; cases hl), fun t _ ht => getD_in (by simpa using ht) (getD_replicate_false _ _)⟩
  have H := wpAnyL_lex (md := .any) (g := l.toArray.size - k) hsel hs hc hn (l.take k) 0 _ a (fun j hj => by
    have hj' : j < k := by rw [htl] at hj; exact hj
    simp [hj']) (by simpa using htl) inv0 (by rw [htl]; exact hlex) h
  refine wpIn_region_any hm (any_in (noDefer_spec hd) _ _ _ _ ?_)
  have := wpAny_of_head (Q' := noOut Q) (g := l.toArray.size - k) (fun listed a' hL => by
    have := wpAny_of_seq (md := .any) (Q' := noOut Q) (l.drop k) k listed a' { w with drawn := w.drawn + 1 } (fun j => by simp [List.getElem?_drop]) (by rw [hdl]; exact hL.1) hL.2
    rwa [hdl] at this) _ _ _ H
  rw [htl, show k + (l.toArray.size - k) = l.toArray.size by omega] at this
  exact this
end
end Go.Proofs.YtbnkoefljcekbaaGreatDoor

namespace Go.Proofs.YtbnkoefljcekbaaGreatDoor
open Go.RowKit
set_option linter.unusedVariables false

theorem takeH {P : Program} {md : Region.Mode} {ops : Array Oper} {Q : Exit → Act → World → Prop} {S : World → Prop} {i : Nat} {d : Option Tmp} {oi : Oper} {v : Value} {fuel : Nat} {listed : Array Bool} {a : Act} {w : World} (hi : ops[i]? = some oi) (hd : oi.dst = d)
    (hs : Region.noSelect ops = true) (hf : Region.free md ops listed i = true) (hr : (Region.ready md ops listed).contains i = true)
    (hQ : ∀ c a w, Q (.panic c) (a.put d v) w → Q (.panic c) a w) (hy : YieldsIf P ops S oi v a) (hS : S w)
    (h : wpAnyH P md ops Q S fuel (listed.setIfInBounds i true) (a.put d v) w) : wpAnyH P md ops Q S (fuel + 1) listed a w := by
  subst hd
  exact wpAnyH_take hi hs hf hr hQ hy hS h
/-- short forms -/
theorem skH {P : Program} {md : Region.Mode} {ops : Array Oper} {Q : Exit → Act → World → Prop} {S : World → Prop} {i : Nat} {d : Option Tmp} {oi : Oper} {fuel : Nat} {listed : Array Bool} {a : Act} {w : World}
    (h : wpAnyH P md ops Q S fuel (listed.setIfInBounds i true) (a.put d undef) w) (hi : ops[i]? = some oi := by rfl) (hd : oi.dst = d := by rfl)
    (hs : Region.noSelect ops = true := by kernel_rfl) (hf : Region.free md ops listed i = true := by kernel_rfl) (hr : (Region.ready md ops listed).contains i = true := by kernel_rfl)
    (hQ : ∀ c a w, Q (.panic c) (a.put d undef) w → Q (.panic c) a w := by exact fun _ _ _ h => h) (hy : YieldsIf P ops S oi undef a := by exact Or.inr ⟨by rfl, rfl⟩) (hS : S w := by assumption) : wpAnyH P md ops Q S (fuel + 1) listed a w :=
  takeH hi hd hs hf hr hQ hy hS h
theorem tkH {P : Program} {md : Region.Mode} {ops : Array Oper} {Q : Exit → Act → World → Prop} {S : World → Prop} {i : Nat} {d : Option Tmp} {oi : Oper} {v : Value} {fuel : Nat} {listed : Array Bool} {a : Act} {w : World}
    (hi : ops[i]? = some oi := by rfl) (hd : oi.dst = d := by rfl) (hs : Region.noSelect ops = true := by kernel_rfl) (hf : Region.free md ops listed i = true := by kernel_rfl) (hr : (Region.ready md ops listed).contains i = true := by kernel_rfl)
    (hQ : ∀ c a w, Q (.panic c) (a.put d v) w → Q (.panic c) a w := by exact fun _ _ _ h => h) (hy : YieldsIf P ops S oi v a) (hS : S w := by assumption) (h : wpAnyH P md ops Q S fuel (listed.setIfInBounds i true) (a.put d v) w) : wpAnyH P md ops Q S (fuel + 1) listed a w :=
  takeH hi hd hs hf hr hQ hy hS h
theorem tkA {α : Type} (l : List α) (i : Nat) (x : α) : l.toArray.setIfInBounds i x = (l.set i x).toArray := List.setIfInBounds_toArray ..
theorem tkB {α : Type} (x y : α) (l : List α) : (x :: l).set 0 y = y :: l := List.set_cons_zero
theorem tkC {α : Type} (x y : α) (n : Nat) (l : List α) : (x :: l).set (n + 1) y = x :: l.set n y := List.set_cons_succ
end Go.Proofs.YtbnkoefljcekbaaGreatDoor

namespace Go.Proofs.YtbnkoefljcekbaaGreatDoor
open Go.ChangeShapes Go.WideShapes Go.Deep Go.RowKit
set_option linter.unusedVariables false

/-- the numbers that a closure sorts by: in block cb, their header in block pc -/
structure CC where
  l : List Int
  pc : Nat
  cb : Nat
  cap : Nat
def vC (C : CC) (x : Int) : Int := C.l.getD x.toNat 0
def fI (C : CC) (x : Int) : Int := - vC C x
structure CrAt (C : CC) (w : World) : Prop where
  hd : w.cell? ⟨C.pc, 0, none⟩ = some (.slice (some ⟨C.cb, 0, none⟩) C.l.length C.cap)
  at_ : ∀ (j : Nat) (x : Int), C.l[j]? = some x → w.cell? ⟨C.cb, j, none⟩ = some (.int .i64 x)
theorem CrAt.below {C : CC} {w w' : World} (h : CrAt C w) (hb : Below w.heap.size w w') : CrAt C w' :=
  ⟨(hb.cell (cell?_lt h.hd)).trans h.hd, fun j x hj => (hb.cell (cell?_lt (h.at_ j x hj))).trans (h.at_ j x hj)⟩
def InC (C : CC) (x : Int) : Prop := 0 ≤ x ∧ x < (C.l.length : Int)
/-- the row of n ints at block b, from off on, holds d; it may be written to -/
structure RowI (C : CC) (w : World) (b off n : Nat) (d : List Int) : Prop where
  sl : SlAt RInt w (some ⟨b, off, none⟩) n d
  fz : ∀ j, w.frozen? ⟨b, off + j, none⟩ = false
  lt : b < w.heap.size
  cr : CrAt C w
  bd : ∀ x ∈ d, InC C x
  n1 : b ≠ C.pc
  n2 : b ≠ C.cb
section
variable {C : CC}
theorem RowI.below {w w' : World} {b off n : Nat} {d : List Int} (h : RowI C w b off n d) (hb : Below w.heap.size w w') : RowI C w' b off n d :=
  ⟨h.sl.below hb, fun j => (hb.frozen (p := ⟨b, off + j, none⟩) h.lt).trans (h.fz j), Nat.lt_of_lt_of_le h.lt hb.size, h.cr.below hb, h.bd, h.n1, h.n2⟩
theorem RowI.at_ {w : World} {b off n k : Nat} {d : List Int} {x : Int} (h : RowI C w b off n d) (hx : d[k]? = some x) : w.cell? ⟨b, off + k, none⟩ = some (.int .i64 x) := by
  have hk := (List.getElem?_eq_some_iff.1 hx).1
  obtain ⟨b', off', hA, hc⟩ := h.sl.2.1 (by have := h.sl.1; omega)
  obtain ⟨rfl, rfl⟩ : b = b' ∧ off = off' := by simpa using hA
  have := hc k x hx 0 _ rfl
  simpa [RInt] using this
theorem RowI.in_ {w : World} {b off n k : Nat} {d : List Int} {x : Int} (h : RowI C w b off n d) (hx : d[k]? = some x) : InC C x := h.bd x (List.mem_of_getElem? hx)
theorem RowI.put {w : World} {b off n k : Nat} {d : List Int} {x : Int} (h : RowI C w b off n d) (hk : k < n) (hx : I64 x) (hi : InC C x) : RowI C (w.setCell ⟨b, off + k, none⟩ (.int .i64 x)) b off n (d.set k x) := by
  have hl := h.sl.1
  obtain ⟨y, hy⟩ : ∃ y, d[k]? = some y := ⟨d[k]'(by omega), List.getElem?_eq_getElem _⟩
  have e0 := h.at_ hy
  have hn1 := h.n1
  have hn2 := h.n2
  refine ⟨⟨by rw [List.length_set]; exact hl, fun hn => ⟨b, off, rfl, fun i z hz j v hv => ?_⟩, fun z hz => ?_⟩, fun j => by rw [World.frozen?_setCell]; exact h.fz j, by simpa using h.lt,
    ⟨(World.cell?_setCell_other _ _ _ _ (by simp <;> omega)).trans h.cr.hd, fun j x hj => (World.cell?_setCell_other _ _ _ _ (by simp <;> omega)).trans (h.cr.at_ j x hj)⟩, fun z hz => ?_, h.n1, h.n2⟩
  · match j, hv with
    | 0, hv =>
      simp only [RInt, List.getElem?_cons_zero, Option.some.injEq] at hv
      subst hv
      simp only [RInt, Nat.mul_one, Nat.add_zero]
      rw [List.getElem?_set] at hz
      by_cases hki : k = i
      · subst hki
        rw [if_pos rfl, if_pos (by omega)] at hz
        injection hz with hz
        subst hz
        exact World.cell?_setCell_same' _ _ _ (by rw [e0]; rfl)
      · rw [if_neg hki] at hz
        rw [World.cell?_setCell_other _ _ _ _ (by simp <;> omega)]
        exact h.at_ hz
    | j + 1, hv => simp [RInt] at hv
  · rcases List.mem_or_eq_of_mem_set hz with hz | hz
    · exact h.sl.2.2 z hz
    · rw [hz]; exact hx
  · rcases List.mem_or_eq_of_mem_set hz with hz | hz
    · exact h.bd z hz
    · rw [hz]; exact hi
/-- how the world goes on while the row in block b is sorted -/
def Srt (b : Nat) (w w' : World) : Prop := w.grownBy w' (some b)
theorem Srt.of_below {b : Nat} {w w' : World} (h : Below w.heap.size w w') : Srt b w w' := ⟨h.os, h.tape, h.output, h.size, fun k hk _ => h.block k hk⟩
theorem Srt.trans {b : Nat} {w w' w'' : World} (h : Srt b w w') (h2 : Srt b w' w'') : Srt b w w'' :=
  ⟨h2.os.trans h.os, h2.tape.trans h.tape, h2.output.trans h.output, Nat.le_trans h.size h2.size, fun k hk hne => (h2.block k (Nat.lt_of_lt_of_le hk h.size) hne).trans (h.block k hk hne)⟩
theorem Srt.put {b o : Nat} {w : World} (u : Value) : Srt b w (w.setCell ⟨b, o, none⟩ u) := grown_setc w ⟨b, o, none⟩ u
theorem Srt.drew {b : Nat} {w : World} : Srt b w w.drew := ⟨rfl, rfl, rfl, Nat.le_refl _, fun _ _ _ => rfl⟩
theorem set2_app (A M S : List Int) (x y : Int) : ((A ++ x :: M ++ y :: S).set A.length y).set (A.length + 1 + M.length) x = A ++ y :: M ++ x :: S := by
  rw [List.append_assoc, List.set_append_right _ _ (Nat.le_refl _), Nat.sub_self, List.cons_append, List.set_cons_zero, List.set_append_right _ _ (by omega)]
  rw [show A.length + 1 + M.length - A.length = M.length + 1 by omega, List.set_cons_succ, List.set_append_right _ _ (Nat.le_refl _), Nat.sub_self, List.set_cons_zero]
  simp
/-- the world behind an exchange -/
def exW (w : World) (b off i j : Nat) (x y : Int) : World := (w.setCell ⟨b, off + i, none⟩ (.int .i64 y)).setCell ⟨b, off + j, none⟩ (.int .i64 x)
theorem RowI.swap {w : World} {b off n i j : Nat} {A M S : List Int} {x y : Int} (h : RowI C w b off n (A ++ x :: M ++ y :: S)) (hi : A.length = i) (hj : j = i + 1 + M.length) : RowI C (exW w b off i j x y) b off n (A ++ y :: M ++ x :: S) := by
  have hl := h.sl.1
  simp only [List.length_append, List.length_cons] at hl
  have h1 := h.put (k := i) (x := y) (by omega) (h.sl.2.2 y (by simp)) (h.bd y (by simp))
  have h2 := h1.put (k := j) (x := x) (by omega) (h.sl.2.2 x (by simp)) (h.bd x (by simp))
  subst hi
  subst hj
  rw [set2_app] at h2
  exact h2
theorem RowI.swap2 {w : World} {b off n i j : Nat} {A M S : List Int} {x y : Int} (h : RowI C w b off n (A ++ x :: M ++ y :: S)) (hi : A.length = i) (hj : j = i + 1 + M.length) : RowI C (exW w b off j i y x) b off n (A ++ y :: M ++ x :: S) := by
  have hl := h.sl.1
  simp only [List.length_append, List.length_cons] at hl
  have h1 := h.put (k := j) (x := x) (by omega) (h.sl.2.2 x (by simp)) (h.bd x (by simp))
  have h2 := h1.put (k := i) (x := y) (by omega) (h.sl.2.2 y (by simp)) (h.bd y (by simp))
  subst hi
  subst hj
  rw [List.set_comm _ _ (by omega), set2_app] at h2
  exact h2
theorem exW_srt (w : World) (b off i j : Nat) (x y : Int) : Srt b w (exW w b off i j x y) := (Srt.put _).trans (Srt.put _)
theorem RowI.drew {w : World} {b off n : Nat} {d : List Int} (h : RowI C w b off n d) : RowI C w.drew b off n d := h.below ((Below.refl _ _).drew)
theorem keep2i {W w' : World} {a0 a2 : Addr} {v0 v2 : Value} (hb : Below W.heap.size W w') (h : W.cell? a0 = some v0 ∧ W.cell? a2 = some v2) : w'.cell? a0 = some v0 ∧ w'.cell? a2 = some v2 :=
  ⟨(hb.cell (cell?_lt h.1)).trans h.1, (hb.cell (cell?_lt h.2)).trans h.2⟩
end
def SwRel (C : CC) (P L M R S : List Int) (b off n N : Nat) (w0 : World) (i : Value) (wr : World) : Prop :=
  ∃ k : Nat, k ≤ N ∧ i = .int .i64 k ∧ RowI C wr b off n (P ++ (R.take k ++ L.drop k) ++ M ++ (L.take k ++ R.drop k) ++ S) ∧ Srt b w0 wr
set_option maxRecDepth 100000 in
set_option maxHeartbeats 8000000 in
theorem swapRange_any (C : CC) (b off n cap : Nat) (P L M R S : List Int) (N a c : Nat) (g : Value) (w : World) (hP : P.length = a) (hL : L.length = N) (hR : R.length = N) (hc : c = a + N + M.length) (hn : n ≤ 1000000000) (hrow : RowI C w b off n (P ++ L ++ M ++ R ++ S)) :
    Calls Tryz.prog 234 #[.slice (some ⟨b, off, none⟩) n cap, .int .i64 a, .int .i64 c, .int .i64 N, g] w fun e w' => e = .returned (.tuple #[]) ∧ RowI C w' b off n (P ++ R ++ M ++ L ++ S) ∧ Srt b w w' := by
  have hlen := hrow.sl.1
  simp only [List.length_append] at hlen
  have hcn : c + N ≤ n := by omega
  have hrowH := Lib.hid hrow
  clear hrow
  have hlenH := Lib.hid hlen
  clear hlen
  have hPH := Lib.hid hP
  clear hP
  have hLH := Lib.hid hL
  clear hL
  have hRH := Lib.hid hR
  clear hR
  have hcH := Lib.hid hc
  clear hc
  go_enter Tryz.func234, Tryz.ntmps234
  go_wp2_with fail
  go_loopw [10] (fun i wr => SwRel C P L M R S b off n N w i wr) (fun i _ => N - (intOf i).toNat)
  case atStart => exact ⟨0, Nat.zero_le _, rfl, by simpa using hrowH.out, World.grownBy.refl _ _⟩
  case round =>
    obtain ⟨k, hk, rfl, hrw, hs⟩ := hrel
    by_cases hlt : k < N
    · obtain ⟨x, hx⟩ : ∃ x, L[k]? = some x := ⟨L[k]'(by have := hLH.out; omega), List.getElem?_eq_getElem _⟩
      obtain ⟨y, hy⟩ : ∃ y, R[k]? = some y := ⟨R[k]'(by have := hRH.out; omega), List.getElem?_eq_getElem _⟩
      have hac : a + N ≤ c := by have := hcH.out; omega
      have hd : P ++ (R.take k ++ L.drop k) ++ M ++ (L.take k ++ R.drop k) ++ S = (P ++ R.take k) ++ x :: (L.drop (k + 1) ++ M ++ L.take k) ++ y :: (R.drop (k + 1) ++ S) := by
        rw [drop_cons hx, drop_cons hy]; simp
      have hd2 : P ++ (R.take (k + 1) ++ L.drop (k + 1)) ++ M ++ (L.take (k + 1) ++ R.drop (k + 1)) ++ S = (P ++ R.take k) ++ y :: (L.drop (k + 1) ++ M ++ L.take k) ++ x :: (R.drop (k + 1) ++ S) := by
        rw [List.take_add_one, List.take_add_one, hx, hy]; simp
      rw [hd] at hrw
      have hgx : ((P ++ R.take k) ++ x :: (L.drop (k + 1) ++ M ++ L.take k) ++ y :: (R.drop (k + 1) ++ S))[a + k]? = some x := by
        rw [List.append_assoc, List.getElem?_append_right (by rw [List.length_append, List.length_take]; have := hPH.out; have := hRH.out; omega)]
        rw [show a + k - (P ++ R.take k).length = 0 by rw [List.length_append, List.length_take]; have := hPH.out; have := hRH.out; omega]
        rfl
      have hgy : ((P ++ R.take k) ++ x :: (L.drop (k + 1) ++ M ++ L.take k) ++ y :: (R.drop (k + 1) ++ S))[c + k]? = some y := by
        have hlq : ((P ++ R.take k) ++ x :: (L.drop (k + 1) ++ M ++ L.take k)).length = c + k := by
          simp only [List.length_append, List.length_cons, List.length_take, List.length_drop]
          have := hPH.out; have := hLH.out; have := hRH.out; have := hcH.out; omega
        rw [List.getElem?_append_right (by omega), hlq, Nat.sub_self]
        rfl
      have x0 := hrw.at_ hgx
      have y0 := hrw.at_ hgy
      have fz := hrw.fz
      have f0 := fz (a + k)
      have f2 := fz (c + k)
      clear fz
      have hrwH := Lib.hid hrw
      clear hrw
      have hsH := Lib.hid hs
      clear hs
      have hxH := Lib.hid hx
      clear hx
      have hyH := Lib.hid hy
      clear hy
      have hdH := Lib.hid hd
      clear hd
      have hd2H := Lib.hid hd2
      clear hd2
      have hgxH := Lib.hid hgx
      clear hgx
      have hgyH := Lib.hid hgy
      clear hgy
      have R1 : SwRel C P L M R S b off n N w (.int .i64 ((k : Int) + 1)) (exW wr b off (a + k) (c + k) x y).drew := by
        refine ⟨k + 1, by omega, by go_num, ?_, (hsH.out.trans (exW_srt _ _ _ _ _ _ _)).trans Srt.drew⟩
        rw [hd2H.out]
        exact (hrwH.out.swap (by rw [List.length_append, List.length_take]; have := hPH.out; have := hRH.out; omega) (by simp only [List.length_append, List.length_take, List.length_drop]; have := hLH.out; have := hcH.out; omega)).drew
      unfold exW at R1
      have R1H := Lib.hid R1
      clear R1
      go_wp2_with fail
      go_region
      go_wp2
      refine ⟨?rel, ?measure⟩
      case measure => (simp [intOf]; omega)
      case rel => first | exact R1H.out | exact ⟨rfl, R1H.out⟩ | ((try refine ⟨rfl, ?_⟩); (repeat apply Exists.intro); refine ⟨R1H.out, ?_⟩; ((repeat' apply And.intro) <;> rfl))
    · have hkN : k = N := by omega
      have e : P ++ (R.take k ++ L.drop k) ++ M ++ (L.take k ++ R.drop k) ++ S = P ++ R ++ M ++ L ++ S := by
        have t1 : R.take k = R := List.take_of_length_le (by have := hRH.out; omega)
        have t2 : L.take k = L := List.take_of_length_le (by have := hLH.out; omega)
        have t3 : R.drop k = [] := List.drop_eq_nil_of_le (by have := hRH.out; omega)
        have t4 : L.drop k = [] := List.drop_eq_nil_of_le (by have := hLH.out; omega)
        rw [t1, t2, t3, t4]; simp
      rw [e] at hrw
      have hrwH := Lib.hid hrw
      clear hrw
      have hsH := Lib.hid hs
      clear hs
      have eH := Lib.hid e
      clear e
      go_wp2
      go_end0
      exact ⟨rfl, hrwH.out, hsH.out⟩
end Go.Proofs.YtbnkoefljcekbaaGreatDoor

namespace Go.Proofs.YtbnkoefljcekbaaGreatDoor
open Go.ChangeShapes Go.WideShapes Go.Deep Go.RowKit
set_option linter.unusedVariables false

def RtRel (C : CC) (T : List Int) (b off n m : Nat) (w0 : World) (vi vj : Value) (wr : World) : Prop :=
  ∃ (i j : Nat) (A L R B : List Int), vi = .int .i64 i ∧ vj = .int .i64 j ∧ 1 ≤ i ∧ 1 ≤ j ∧ i ≤ m ∧ L.length = i ∧ R.length = j ∧ A.length = m - i ∧ RowI C wr b off n (A ++ L ++ R ++ B) ∧ A ++ R ++ L ++ B = T ∧ Srt b w0 wr
set_option maxRecDepth 100000 in
set_option maxHeartbeats 8000000 in
theorem rotate_any (C : CC) (b off n cap : Nat) (P X Y S : List Int) (a m e : Nat) (g : Value) (w : World) (hP : P.length = a) (hm : m = a + X.length) (he : e = m + Y.length) (hX : 1 ≤ X.length) (hY : 1 ≤ Y.length) (hn : n ≤ 1000000000) (hrow : RowI C w b off n (P ++ X ++ Y ++ S)) :
    Calls Tryz.prog 232 #[.slice (some ⟨b, off, none⟩) n cap, .int .i64 a, .int .i64 m, .int .i64 e, g] w fun e w' => e = .returned (.tuple #[]) ∧ RowI C w' b off n (P ++ Y ++ X ++ S) ∧ Srt b w w' := by
  have hlen := hrow.sl.1
  simp only [List.length_append] at hlen
  have hen : e ≤ n := by omega
  have i0 : (m : Int) - (a : Int) = ((m - a : Nat) : Int) := by omega
  have j0 : (e : Int) - (m : Int) = ((e - m : Nat) : Int) := by omega
  obtain ⟨T, hT⟩ : ∃ T, P ++ Y ++ X ++ S = T := ⟨_, rfl⟩
  have hstart : RtRel C T b off n m w (.int .i64 ((m - a : Nat) : Int)) (.int .i64 ((e - m : Nat) : Int)) w := ⟨m - a, e - m, P, X, Y, S, rfl, rfl, by omega, by omega, by omega, by omega, by omega, by omega, hrow, hT, World.grownBy.refl _ _⟩
  have ham : a ≤ m := by omega
  have hme : m ≤ e := by omega
  rw [hT]
  have hrowH := Lib.hid hrow
  clear hrow
  have hlenH := Lib.hid hlen
  clear hlen
  have hPH := Lib.hid hP
  clear hP
  have hXH := Lib.hid hX
  clear hX
  have hYH := Lib.hid hY
  clear hY
  have hTH := Lib.hid hT
  clear hT
  have hstartH := Lib.hid hstart
  clear hstart
  have hmH := Lib.hid hm
  clear hm
  have heH := Lib.hid he
  clear he
  have i0H := Lib.hid i0
  clear i0
  have j0H := Lib.hid j0
  clear j0
  go_enter Tryz.func232, Tryz.ntmps232
  go_wp2_with fail
  go_loopw [10, 11] (fun vi vj wr => RtRel C T b off n m w vi vj wr) (fun vi vj _ => (intOf vi).toNat + (intOf vj).toNat)
  case atStart =>
    have := hstartH.out
    rw [← i0H.out, ← j0H.out] at this
    exact this
  case round =>
    clear hstartH i0H j0H
    obtain ⟨i, j, A, L, R, B, rfl, rfl, hi1, hj1, him, hL, hR, hA, hrw, hTT, hs⟩ := hrel
    have hl2 := hrw.sl.1
    simp only [List.length_append] at hl2
    have hmj : m + j ≤ n := by omega
    rcases Nat.lt_trichotomy i j with hlt | heq | hgt
    · have hne : ((i : Int) != (j : Int)) = true := by simp; omega
      have hne2 : ¬ (i : Int) = (j : Int) := by omega
      have hg : ¬ (j : Int) < (i : Int) := by omega
      have hb := swapRange_any C b off n cap A L (R.take (j - i)) (R.drop (j - i)) B i (m - i) (m + j - i) g wr hA hL (by rw [List.length_drop]; omega) (by rw [List.length_take]; omega) hn (by simpa using hrw)
      have c1 : (m : Int) - (i : Int) = ((m - i : Nat) : Int) := by omega
      have c2 : (m : Int) + (j : Int) - (i : Int) = ((m + j - i : Nat) : Int) := by omega
      have R1 : ∀ w', RowI C w' b off n (A ++ R.drop (j - i) ++ R.take (j - i) ++ L ++ B) → Srt b wr w' → RtRel C T b off n m w (.int .i64 (i : Int)) (.int .i64 ((j : Int) - (i : Int))) w' := fun w' h1 h2 => by
        refine ⟨i, j - i, A, R.drop (j - i), R.take (j - i), L ++ B, rfl, by go_num, hi1, by omega, him, by rw [List.length_drop]; omega, by rw [List.length_take]; omega, hA, by simpa using h1, ?_, hs.trans h2⟩
        rw [← hTT, List.append_assoc A, List.take_append_drop]; simp
      have hLH := Lib.hid hL
      clear hL
      have hRH := Lib.hid hR
      clear hR
      have hAH := Lib.hid hA
      clear hA
      have hrwH := Lib.hid hrw
      clear hrw
      have hTTH := Lib.hid hTT
      clear hTT
      have hsH := Lib.hid hs
      clear hs
      have hl2H := Lib.hid hl2
      clear hl2
      have hbH := Lib.hid hb
      clear hb
      have R1H := Lib.hid R1
      clear R1
      have c1H := Lib.hid c1
      clear c1
      have c2H := Lib.hid c2
      clear c2
      go_wp2_with fail
      rw [c1H.out, c2H.out]
      refine hbH.out.mono ?_
      rintro e w1 ⟨rfl, hr1, hs1⟩
      have R2 := R1H.out w1 hr1 hs1
      clear hr1 hs1
      have R2H := Lib.hid R2
      clear R2
      go_wp2
      refine ⟨?rel, ?measure⟩
      case measure => (simp [intOf]; omega)
      case rel => first | exact R2H.out | exact ⟨rfl, R2H.out⟩ | ((try refine ⟨rfl, ?_⟩); (repeat apply Exists.intro); refine ⟨R2H.out, ?_⟩; ((repeat' apply And.intro) <;> rfl))
    · subst heq
      have hne : ((i : Int) != (i : Int)) = false := by simp
      have hb := swapRange_any C b off n cap A L [] R B i (m - i) m g wr hA hL hR (by simp; omega) hn (by simpa using hrw)
      have c1 : (m : Int) - (i : Int) = ((m - i : Nat) : Int) := by omega
      rw [show A ++ R ++ [] ++ L ++ B = T by rw [← hTT]; simp] at hb
      have hLH := Lib.hid hL
      clear hL
      have hRH := Lib.hid hR
      clear hR
      have hAH := Lib.hid hA
      clear hA
      have hrwH := Lib.hid hrw
      clear hrw
      have hTTH := Lib.hid hTT
      clear hTT
      have hsH := Lib.hid hs
      clear hs
      have hl2H := Lib.hid hl2
      clear hl2
      have hbH := Lib.hid hb
      clear hb
      have c1H := Lib.hid c1
      clear c1
      go_wp2_with fail
      rw [c1H.out]
      refine hbH.out.mono ?_
      rintro e w1 ⟨rfl, hr1, hs1⟩
      have hs2 := hsH.out.trans hs1
      clear hs1
      have hr1H := Lib.hid hr1
      clear hr1
      have hs2H := Lib.hid hs2
      clear hs2
      go_wp2
      go_end0
      exact ⟨rfl, hr1H.out, hs2H.out⟩
    · have hne : ((i : Int) != (j : Int)) = true := by simp; omega
      have hne2 : ¬ (i : Int) = (j : Int) := by omega
      have hg : (j : Int) < (i : Int) := by omega
      have hb := swapRange_any C b off n cap A (L.take j) (L.drop j) R B j (m - i) m g wr hA (by rw [List.length_take]; omega) hR (by rw [List.length_drop]; omega) hn (by rw [List.append_assoc A, List.take_append_drop]; simpa using hrw)
      have c1 : (m : Int) - (i : Int) = ((m - i : Nat) : Int) := by omega
      have R1 : ∀ w', RowI C w' b off n (A ++ R ++ L.drop j ++ L.take j ++ B) → Srt b wr w' → RtRel C T b off n m w (.int .i64 ((i : Int) - (j : Int))) (.int .i64 (j : Int)) w' := fun w' h1 h2 => by
        refine ⟨i - j, j, A ++ R, L.drop j, L.take j, B, by go_num, rfl, by omega, hj1, by omega, by rw [List.length_drop]; omega, by rw [List.length_take]; omega, by rw [List.length_append]; omega, h1, ?_, hs.trans h2⟩
        rw [← hTT, List.append_assoc (A ++ R), List.take_append_drop]
      have hLH := Lib.hid hL
      clear hL
      have hRH := Lib.hid hR
      clear hR
      have hAH := Lib.hid hA
      clear hA
      have hrwH := Lib.hid hrw
      clear hrw
      have hTTH := Lib.hid hTT
      clear hTT
      have hsH := Lib.hid hs
      clear hs
      have hl2H := Lib.hid hl2
      clear hl2
      have hbH := Lib.hid hb
      clear hb
      have R1H := Lib.hid R1
      clear R1
      have c1H := Lib.hid c1
      clear c1
      go_wp2_with fail
      rw [c1H.out]
      refine hbH.out.mono ?_
      rintro e w1 ⟨rfl, hr1, hs1⟩
      have R2 := R1H.out w1 hr1 hs1
      clear hr1 hs1
      have R2H := Lib.hid R2
      clear R2
      go_wp2
      refine ⟨?rel, ?measure⟩
      case measure => (simp [intOf]; omega)
      case rel => first | exact R2H.out | exact ⟨rfl, R2H.out⟩ | ((try refine ⟨rfl, ?_⟩); (repeat apply Exists.intro); refine ⟨R2H.out, ?_⟩; ((repeat' apply And.intro) <;> rfl))
end Go.Proofs.YtbnkoefljcekbaaGreatDoor

namespace Go.Proofs.YtbnkoefljcekbaaGreatDoor
set_option linter.unusedVariables false
set_option linter.unusedSimpArgs false

theorem Sim.len {p : PS} {q : QS} (h : Sim p q) : p.runs.length + p.out.length = q.runs.length := by
  have a : p.runs.length = (q.runs.filter going).length := h.runs.length_eq
  have b := h.out.length_eq
  rw [a, b]
  clear a b h
  induction q.runs with
  | nil => rfl
  | cons r R ih =>
    cases hg : going r
    · rw [List.filter_cons_of_neg (by simp [hg]), List.filter_cons_of_pos (by simp [hg]), List.length_cons, List.length_cons]; omega
    · rw [List.filter_cons_of_pos hg, List.filter_cons_of_neg (by simp [hg]), List.length_cons, List.length_cons]; omega
theorem len_filter {α : Type} (p : α → Bool) : ∀ l : List α, l.length = (l.filter p).length + (l.filter fun x => !p x).length
  | [] => rfl
  | r :: R => by
    have ih := len_filter p R
    cases hg : p r
    · rw [List.filter_cons_of_neg (by simp [hg]), List.filter_cons_of_pos (by simp [hg]), List.length_cons, List.length_cons]; omega
    · rw [List.filter_cons_of_pos hg, List.filter_cons_of_neg (by simp [hg]), List.length_cons, List.length_cons]; omega
theorem cnt_len {m : Nat} : ∀ (n : Nat) (R : List RR), (∀ r ∈ R, r.work < n) → (∀ k, R.countP (onWork k) ≤ m) → R.length ≤ n * m
  | 0, [], _, _ => Nat.zero_le _
  | 0, r :: R, h, _ => absurd (h r List.mem_cons_self) (Nat.not_lt_zero _)
  | n + 1, R, h, hc => by
    have e := len_filter (onWork n) R
    have h1 : (R.filter (onWork n)).length ≤ m := by rw [← List.countP_eq_length_filter]; exact hc n
    have h2 := cnt_len n (R.filter fun x => !onWork n x) (fun r hr => by
        obtain ⟨a, b⟩ := List.mem_filter.1 hr
        have := h r a
        simp [onWork] at b
        omega) (fun k => by
        rw [List.countP_filter]
        exact Nat.le_trans (countP_le_of fun x _ hx => by simp only [Bool.and_eq_true] at hx; exact hx.1) (hc k))
    rw [Nat.succ_mul]
    omega
/-- all that the walk wants to know of a state -/
structure Room (F : FP) (p : PS) : Prop where
  len : ((p.runs.length + p.out.length : Nat) : Int) ≤ F.nX * (F.tries + 1)
  beg : ∀ k, 0 ≤ p.begun k ∧ p.begun k ≤ F.tries + 1
  los : ∀ k, 0 ≤ p.lost k ∧ p.lost k ≤ F.tries + 1
  two : p.runs.Pairwise fun a b => a.work = b.work → a.worker ≠ b.worker
  rn : ∀ r ∈ p.runs, going r = true ∧ r.to_ = 0 ∧ r.worker < F.nW ∧ r.work < F.nX ∧ 0 ≤ r.from_
theorem two_of {Q : List RR} (h : ∀ i, (goingOf Q i).Pairwise fun a b => a.worker ≠ b.worker) : (Q.filter going).Pairwise fun a b => a.work = b.work → a.worker ≠ b.worker := by
  induction Q with
  | nil => exact List.Pairwise.nil
  | cons r R ih =>
    have ht : ∀ i, (goingOf R i).Pairwise fun a b => a.worker ≠ b.worker := fun i => by
      have := h i
      unfold goingOf at this ⊢
      rw [List.filter_cons] at this
      split at this
      · exact (List.pairwise_cons.1 this).2
      · exact this
    cases hg : going r
    · rw [List.filter_cons_of_neg (by simp [hg])]; exact ih ht
    · rw [List.filter_cons_of_pos hg]
      refine List.Pairwise.cons (fun b hb e => ?_) (ih ht)
      have := h r.work
      unfold goingOf at this
      rw [List.filter_cons_of_pos (by simp [hg])] at this
      obtain ⟨b1, b2⟩ := List.mem_filter.1 hb
      exact (List.pairwise_cons.1 this).1 b (List.mem_filter.2 ⟨b1, by simp [b2, e]⟩)
theorem room_of {F : FP} {p : PS} {q : QS} {lo hi : Int} (hS : Sim p q) (hI : Inv F lo hi q) (hF : FFine F) : Room F p := by
  have htr := hF.tri
  obtain ⟨m, hm⟩ : ∃ m : Nat, F.tries + 1 = m := ⟨(F.tries + 1).toNat, by omega⟩
  have hle : ∀ k e, q.runs.countP (isEnd e k) ≤ q.runs.countP (onWork k) := fun k e => countP_le_of fun x _ hx => by
    simp only [isEnd, Bool.and_eq_true] at hx; exact hx.1
  refine ⟨?_, fun k => ?_, fun k => ?_, ?_, fun r hr => ?_⟩
  · rw [hS.len, hm]
    have := cnt_len (m := m) F.nX q.runs (fun r hr => (hI.named r hr).2) (fun k => by have := hI.cnt k; omega)
    have h2 : ((q.runs.length : Nat) : Int) ≤ ((F.nX * m : Nat) : Int) := Int.ofNat_le.2 this
    rw [Int.natCast_mul] at h2
    exact h2
  · rw [hS.begun]
    have : q.runs.countP (fun r => r.work == k) = q.runs.countP (onWork k) := rfl
    rw [this]
    have := hI.cnt k
    exact ⟨by omega, this⟩
  · rw [hS.lost, hI.los]
    have := hI.cnt k
    have := hle k 2
    exact ⟨by omega, by omega⟩
  · have := two_of fun i => (hI.two i).2
    exact (hS.runs.pairwise_iff (fun {a b} h e => (h e.symm).symm)).2 this
  · have hq := hS.runs.mem_iff.1 hr
    obtain ⟨a, b⟩ := List.mem_filter.1 hq
    exact ⟨b, (hI.go r a b).2.2, (hI.named r a).1, (hI.named r a).2, (hI.fr r a).2.1⟩
theorem run_from {F : FP} {p : PS} {q : QS} {lo hi : Int} (hS : Sim p q) (hI : Inv F lo hi q) : ∀ r ∈ p.runs, r.from_ ≤ lo := fun r hr => by
  obtain ⟨a, b⟩ := List.mem_filter.1 (hS.runs.mem_iff.1 hr)
  exact (hI.go r a b).1
/-- a later moment, not beyond the ways of those that work -/
theorem Inv.to {F : FP} {q : QS} (h : Inv F q.at_ (q.at_ + 1) q) {n : Int} (h1 : q.at_ < n) (h2 : ∀ r ∈ q.runs, going r = true → n ≤ F.wto r.worker) : Inv F (n - 1) n { q with at_ := n } := by
  have h0 := h.t0
  refine ⟨h.named, by show 0 ≤ n; omega, h.fr, fun r hr hg => ?_, fun r hr hg => ?_, h.e1, h.two, h.don, h.don1, h.dong, h.doni, h.los, h.cnt, h.cnt0, h.ord, h.dis, fun t ht k hk => ?_, h.bus⟩
  · obtain ⟨a, b, c⟩ := h.go r hr hg
    exact ⟨by omega, h2 r hr hg, c⟩
  · obtain ⟨a, b, c⟩ := h.en r hr hg
    exact ⟨a, by show r.to_ ≤ n; omega, c⟩
  · rcases Int.lt_or_le q.at_ t with hlt | hle
    · have := cnt_busy h (t := t) (by omega) k
      have := h.bus k hk
      show (cntAt q.runs t k : Int) ≤ _
      omega
    · exact h.hist t hle k hk
theorem next_to {F : FP} {p : PS} {q : QS} (hS : Sim p q) (ht : p.now = q.at_) (hI : Inv F q.at_ (q.at_ + 1) q) {n : Int} (hn : nextP F p = some n) {B : Int}
    (hw : ∀ k, k < F.nW → F.wfrom k ≤ B ∧ F.wto k ≤ B) (hl : ∀ t ∈ F.lossAt, t ≤ B) : q.at_ < n ∧ n ≤ B ∧ Inv F (n - 1) n { q with at_ := n } := by
  obtain ⟨a, b, c⟩ := above_some hn
  rw [ht] at b c
  have hto : ∀ r ∈ q.runs, going r = true → n ≤ F.wto r.worker := fun r hr hg => by
    have hp : r ∈ p.runs := hS.runs.mem_iff.2 (List.mem_filter.2 ⟨hr, hg⟩)
    exact c _ (mem_candsP.2 (.inr (.inl ⟨r, hp, .inr (.inl rfl)⟩))) (by have := (hI.go r hr hg).2.1; omega)
  refine ⟨b, ?_, hI.to b hto⟩
  rcases mem_candsP.1 a with ⟨k, hk, e⟩ | ⟨r, hr, _⟩ | e
  · rw [e]; exact (hw k hk).1
  · obtain ⟨r1, r2⟩ := List.mem_filter.1 (hS.runs.mem_iff.1 hr)
    exact Int.le_trans (hto r r1 r2) (hw _ (hI.named r r1).1).2
  · exact hl n e
/-- a state on the way, and the reference's beside it -/
structure WayP (F : FP) (p : PS) (q : QS) : Prop where
  sim : Sim p q
  at_ : p.now = q.at_
  inv : Inv F (q.at_ - 1) q.at_ q
section
variable {F : FP} {p : PS} {q : QS} (hF : FFine F) (h : WayP F p q)
include hF h
theorem WayP.r0 : Room F p ∧ ∀ r ∈ p.runs, r.from_ ≤ p.now := ⟨room_of h.sim h.inv hF, fun r hr => by have := run_from h.sim h.inv r hr; have := h.at_; omega⟩
theorem WayP.perm {rs : List RR} (hp : rs.Perm p.runs) : WayP F { p with runs := rs } q := have _ := hF; ⟨⟨h.sim.runs.perm hp, h.sim.out, h.sim.done, h.sim.lost, h.sim.begun⟩, h.at_, h.inv⟩
theorem WayP.r1 : Room F (finP F p) ∧ ∀ r ∈ (finP F p).runs, r.from_ ≤ p.now := by
  have h1 := h.inv.fin hF (by omega) (Int.le_refl _)
  have s1 := h.sim.fin (F := F) h.at_
  exact ⟨room_of s1 h1 hF, fun r hr => by have := run_from s1 h1 r hr; have := h.at_; omega⟩
theorem WayP.i2 : Inv F q.at_ (q.at_ + 1) (loseQ F (finQ F q)) := by
  have h1 := h.inv.fin hF (by omega) (Int.le_refl _)
  have h2 : Inv F (q.at_ - 1) (q.at_ + 1) (loseQ F (finQ F q)) := Inv.lose hF (q := finQ F q) h1 (by show q.at_ - 1 < q.at_; omega)
  exact Inv.now (q := loseQ F (finQ F q)) h2
theorem WayP.r2 : Room F (loseP F (finP F p)) ∧ ∀ r ∈ (loseP F (finP F p)).runs, r.from_ ≤ p.now := by
  have h1 := h.i2 hF
  have s1 := (h.sim.fin (F := F) h.at_).lose (F := F) h.at_
  exact ⟨room_of s1 h1 hF, fun r hr => by have := run_from s1 h1 r hr; have := h.at_; omega⟩
theorem WayP.i3 : Inv F q.at_ (q.at_ + 1) (startQ F (loseQ F (finQ F q))) := Inv.starts hF (q := loseQ F (finQ F q)) F.order hF.lt _ (h.i2 hF)
theorem WayP.s3 : Sim (startP F (loseP F (finP F p))) (startQ F (loseQ F (finQ F q))) := ((h.sim.fin (F := F) h.at_).lose (F := F) h.at_).start h.at_ hF.nodup
theorem WayP.r3 : Room F (startP F (loseP F (finP F p))) ∧ ∀ r ∈ (startP F (loseP F (finP F p))).runs, r.from_ ≤ p.now := by
  have h1 := h.i3 hF
  have s1 := h.s3 hF
  exact ⟨room_of s1 h1 hF, fun r hr => by have := run_from s1 h1 r hr; have := h.at_; omega⟩
theorem WayP.s4 : Sim (dblP F (startP F (loseP F (finP F p)))) (stepQ F q) := (h.s3 hF).dbl h.at_
theorem WayP.r4 : Room F (dblP F (startP F (loseP F (finP F p)))) ∧ ∀ r ∈ (dblP F (startP F (loseP F (finP F p)))).runs, r.from_ ≤ p.now := by
  have h1 := h.inv.step hF
  have s1 := h.s4 hF
  exact ⟨room_of s1 h1 hF, fun r hr => by have := run_from s1 h1 r hr; have := h.at_; omega⟩
theorem WayP.next {n B : Int} (hn : nextP F (dblP F (startP F (loseP F (finP F p)))) = some n) (hw : ∀ k, k < F.nW → F.wfrom k ≤ B ∧ F.wto k ≤ B) (hl : ∀ t ∈ F.lossAt, t ≤ B) :
    p.now < n ∧ n ≤ B ∧ WayP F { dblP F (startP F (loseP F (finP F p))) with now := n } { stepQ F q with at_ := n } := by
  have hnow : (dblP F (startP F (loseP F (finP F p)))).now = p.now := by unfold dblP; split <;> rfl
  have hat := h.at_
  have e := stepQ_at F q
  obtain ⟨a, b, c⟩ := next_to (q := stepQ F q) (h.s4 hF) (by rw [hnow, e]; exact hat) (by rw [e]; exact h.inv.step hF) hn hw hl
  exact ⟨by omega, b, ⟨(h.s4 hF).at n n, rfl, c⟩⟩
end
theorem wayp0 {F : FP} (hF : FFine F) : WayP F p0 q0 := ⟨sim0, rfl, inv0 hF⟩
end Go.Proofs.YtbnkoefljcekbaaGreatDoor

namespace Go.Proofs.YtbnkoefljcekbaaGreatDoor
open Go.RowKit
set_option linter.unusedVariables false

section
variable {P : Program} {ops : Array Oper} {Q : Exit → Act → World → Prop} {md : Region.Mode}
/-- whatever order is picked from here on; operation j goes on so that R j holds of the worlds ahead of it and behind it -/
def wpAnyR (P : Program) (md : Region.Mode) (ops : Array Oper) (Q : Exit → Act → World → Prop) (R : Nat → World → World → Prop) : Nat → Array Bool → Act → World → Prop
  | 0, listed, a, w => Region.ready md ops listed = [] ∧ Q .normal a w
  | fuel + 1, listed, a, w =>
    (Region.ready md ops listed = [] → Q .normal a w) ∧
    ∀ i ∈ Region.ready md ops listed, wpOp P ops Q i (fun a' w' => R i w w' ∧ wpAnyR P md ops Q R fuel (listed.setIfInBounds i true) a' w') a w
theorem wpAny_of_R {R : Nat → World → World → Prop} : ∀ (fuel : Nat) (listed : Array Bool) (a : Act) (w : World), wpAnyR P md ops Q R fuel listed a w → wpAny P md ops Q fuel listed a w
  | 0, _, _, _, h => h
  | fuel + 1, _, _, _, h => ⟨h.1, fun i hi => wpOp_mono (fun a' w' h' => wpAny_of_R fuel _ a' w' h'.2) (h.2 i hi)⟩
theorem wpAnyR_first {R : Nat → World → World → Prop} {Si : World → Prop} {i : Nat} {oi : Oper} {v : Value} (hi : ops[i]? = some oi) (hsel : ∀ (j : Nat) (o : Oper) cs b, ops[j]? = some o → o.op ≠ .select cs b)
    (hQ : ∀ c a w, Q (.panic c) (a.put oi.dst v) w → Q (.panic c) a w) (hR : ∀ w, R i w w)
    (hw : ∀ j oj, ops[j]? = some oj → (∀ e ∈ oj.after, Region.binds md e = true → e.on ≠ i) → ∀ w w', R j w w' → Si w → Si w') :
    ∀ (fuel : Nat) (listed : Array Bool) (a : Act) (w : World),
      (∀ j oj, ops[j]? = some oj → j ≠ i → listed.getD j true = false → (∀ e ∈ oj.after, Region.binds md e = true → e.on ≠ i) → oi.apart ops oj = true) →
      i ∈ Region.ready md ops listed → YieldsIf P ops Si oi v a → Si w →
      wpAnyR P md ops Q R fuel (listed.setIfInBounds i true) (a.put oi.dst v) w → wpAnyR P md ops Q R (fuel + 1) listed a w := by
  intro fuel
  induction fuel with
  | zero =>
    intro listed a w _ hr hy hS H
    refine ⟨fun h => (by rw [h] at hr; cases hr), fun j hj => ?_⟩
    by_cases hji : j = i
    · subst hji; exact hy.wpOp hi hS ⟨hR _, H⟩
    · have := ready_mono hj hji
      rw [H.1] at this
      cases this
  | succ fuel ih =>
    intro listed a w hfree hr hy hS H
    refine ⟨fun h => (by rw [h] at hr; cases hr), fun j hj => ?_⟩
    by_cases hji : j = i
    · subst hji; exact hy.wpOp hi hS ⟨hR _, H⟩
    · have h1 := H.2 j (ready_mono hj hji)
      obtain ⟨hjun, oj, hoj, hall⟩ := mem_ready.1 hj
      have hnot : ∀ e ∈ oj.after, Region.binds md e = true → e.on ≠ i := fun e he hb heq => by
        have h1 := hall e he hb
        have h0 := (mem_ready.1 hr).1
        rw [heq] at h1
        rcases Nat.lt_or_ge i listed.size with h' | h'
        · simp [h'] at h0 h1; rw [h0] at h1; cases h1
        · simp [Array.getElem?_eq_none h'] at h1
      have h2 := wpOp_putIf hoj (hfree j oj hoj hji hjun hnot) (fun cs b => hsel i oi cs b hi) (fun cs b => hsel j oj cs b hoj) hQ hy h1
      have hfree' : ∀ k ok, ops[k]? = some ok → k ≠ i → (listed.setIfInBounds j true).getD k true = false →
          (∀ e ∈ ok.after, Region.binds md e = true → e.on ≠ i) → oi.apart ops ok = true := fun k ok hk hki hun hno => by
        refine hfree k ok hk hki ?_ hno
        by_cases hjk : j = k
        · subst hjk; exact hjun
        · rw [getD_set_ne true hjk] at hun; exact hun
      refine wpOp_mono (fun a' w' h3 => ⟨h3.2.1, ih (listed.setIfInBounds j true) a' w' hfree' (ready_mono hr (Ne.symm hji)) h3.1 (hw j oj hoj hnot _ _ h3.2.1 hS) ?_⟩) h2
      rw [Array.setIfInBounds_comm _ _ hji]
      exact h3.2.2
/-- F goes on up to the first store, C up to the last -/
def Rk (F C : World → Prop) (j1 j2 : Nat) (j : Nat) (w w' : World) : Prop := (j ≠ j2 → j ≠ j1 → F w → F w') ∧ (j ≠ j2 → C w → C w')
theorem Rk.refl {F C : World → Prop} {j1 j2 j : Nat} (w : World) : Rk F C j1 j2 j w w := ⟨fun _ _ h => h, fun _ h => h⟩
def waits (md : Region.Mode) (ops : Array Oper) (j i : Nat) : Bool := match ops[j]? with
  | some o => o.after.any fun e => Region.binds md e && e.on == i
  | none => true
theorem waits_not {j i : Nat} {oj : Oper} (hj : ops[j]? = some oj) (h : waits md ops j i = true) (hn : ∀ e ∈ oj.after, Region.binds md e = true → e.on ≠ i) : False := by
  unfold waits at h
  rw [hj] at h
  simp only [Array.any_eq_true, Bool.and_eq_true, beq_iff_eq] at h
  obtain ⟨k, hk, hb, he⟩ := h
  exact hn _ (Array.getElem_mem hk) hb he
theorem takeF {F C : World → Prop} {j1 j2 i : Nat} {d : Option Tmp} {oi : Oper} {v : Value} {fuel : Nat} {listed : Array Bool} {a : Act} {w : World} (hi : ops[i]? = some oi) (hd : oi.dst = d)
    (hs : Region.noSelect ops = true) (hf : Region.free md ops listed i = true) (hr : (Region.ready md ops listed).contains i = true) (h1 : waits md ops j1 i = true) (h2 : waits md ops j2 i = true)
    (hQ : ∀ c a w, Q (.panic c) (a.put d v) w → Q (.panic c) a w) (hy : YieldsIf P ops F oi v a) (hS : F w)
    (h : wpAnyR P md ops Q (Rk F C j1 j2) fuel (listed.setIfInBounds i true) (a.put d v) w) : wpAnyR P md ops Q (Rk F C j1 j2) (fuel + 1) listed a w := by
  subst hd
  refine wpAnyR_first (Si := F) hi (Region.noSelect_spec hs) hQ Rk.refl (fun j oj hj hn w w' hw hF => hw.1 (fun e => ?_) (fun e => ?_) hF) fuel listed a w (Region.free_spec hi hf) (by simpa using hr) hy hS h
  · subst e; exact waits_not hj h2 hn
  · subst e; exact waits_not hj h1 hn
theorem oneR {R : Nat → World → World → Prop} {i : Nat} {o : Oper} {fuel : Nat} {listed : Array Bool} {a : Act} {w : World} (hr : Region.ready md ops listed = [i]) (ho : ops[i]? = some o)
    (h : ∀ K' : Act → World → Prop, Shut (∀ a' w', R i w w' → wpAnyR P md ops Q R fuel (listed.setIfInBounds i true) a' w' → K' a' w') → if Region.wanted o (yielded ops a.tmps) = true then Oper.wp P o a w K' Q else K' (a.put o.dst undef) w) :
    wpAnyR P md ops Q R (fuel + 1) listed a w := by
  refine ⟨fun h0 => absurd (hr ▸ h0) (by simp), fun j hj => ?_⟩
  rw [hr, List.mem_singleton] at hj
  subst hj
  exact wpOp_step ho (fun K' hK => h K' (fun a' w' h1 h2 => hK a' w' ⟨h1, h2⟩))
theorem doneR {R : Nat → World → World → Prop} {listed : Array Bool} {a : Act} {w : World} (hr : Region.ready md ops listed = []) (h : Q .normal a w) : ∀ fuel, wpAnyR P md ops Q R fuel listed a w
  | 0 => ⟨hr, h⟩
  | _ + 1 => ⟨fun _ => h, by rw [hr]; simp⟩
theorem startR {R : Nat → World → World → Prop} {id : Nat} {a : Act} {w : World} (hm : P.follows .mixedOrders = true)
    (h : wpAnyR P .any ops Q R ops.size (Array.replicate ops.size false) a w.drew) : (Code.region id ops true).wp P Q a w :=
  wp_region_any hm (wpAny_of_R _ _ _ _ h)
end
end Go.Proofs.YtbnkoefljcekbaaGreatDoor

namespace Go.Proofs.YtbnkoefljcekbaaGreatDoor
open Go.ChangeShapes Go.WideShapes Go.Deep Go.RowKit
set_option linter.unusedVariables false

theorem set_take_drop (L : List Value) (o : Nat) (v : Value) (h : o < L.length) (k : Nat) : (L.set o v).take (o + 1) = L.take o ++ [v] ∧ (L.set o v).drop (o + 1 + k) = L.drop (o + 1 + k) := by
  constructor
  · rw [List.set_eq_take_append_cons_drop, if_pos h, List.take_append, List.length_take, Nat.min_eq_left (Nat.le_of_lt h)]
    rw [List.take_of_length_le (by rw [List.length_take]; omega), show o + 1 - o = 1 by omega]
    rfl
  · rw [List.drop_set_of_lt (by omega)]
theorem heap_setCells (g : Nat) (e : TypeId) : ∀ (vs : List Value) (o : Nat) (w : World) (cur : Array Value), w.heap[g]? = some (.cells cur e (0, 0)) → o + vs.length ≤ cur.size →
    ∃ cur', (w.setCells g o vs).heap[g]? = some (.cells cur' e (0, 0)) ∧ cur'.toList = cur.toList.take o ++ vs ++ cur.toList.drop (o + vs.length)
  | [], o, w, cur, h, _ => ⟨cur, h, by simp⟩
  | v :: r, o, w, cur, h, hl => by
    rw [List.length_cons] at hl
    have h1 := heap_setCell_same w g o cur e v h
    obtain ⟨cur', a, b⟩ := heap_setCells g e r (o + 1) _ _ h1 (by simp; omega)
    refine ⟨cur', a, ?_⟩
    rw [b, Array.toList_setIfInBounds]
    obtain ⟨e1, e2⟩ := set_take_drop cur.toList o v (by simp; omega) r.length
    rw [e1, e2, List.length_cons, show o + 1 + r.length = o + (r.length + 1) by omega]
    simp
theorem grown_trans {a b c : World} {row : Option Nat} (h : a.grownBy b row) (h2 : b.grownBy c row) : a.grownBy c row :=
  ⟨h2.os.trans h.os, h2.tape.trans h.tape, h2.output.trans h.output, Nat.le_trans h.size h2.size, fun k hk hne => (h2.block k (Nat.lt_of_lt_of_le hk h.size) hne).trans (h.block k hk hne)⟩
theorem grown_setCells (b : Nat) : ∀ (vs : List Value) (o : Nat) (w : World), w.grownBy (w.setCells b o vs) (some b)
  | [], _, w => World.grownBy.refl _ _
  | v :: r, o, w => grown_trans (grown_setc w ⟨b, o, none⟩ v) (grown_setCells b r (o + 1) _)
theorem own_block {α : Type} {R : Rd α} {e : TypeId} {w : World} {base n cap : Nat} {A : Option Addr} {l : List α} (h : Own R e w base (.slice A n cap) l) (hn : 0 < n) :
    ∃ g cur, A = some ⟨g, 0, none⟩ ∧ base ≤ g ∧ w.heap[g]? = some (.cells cur e (0, 0)) ∧ n ≤ cap ∧ cap ≤ maxLen ∧ cur.size = cap * R.size ∧ cur.toList.take (n * R.size) = l.flatMap R.vals := by
  rcases h.1.2 with ⟨hv, _⟩ | ⟨g, cap', cur, hv, a, b, c, d, e1, f⟩
  · injection hv with _ h2 _; omega
  · injection hv with h1 h2 h3
    subst h3
    rw [h.len] at c f
    exact ⟨g, cur, h1, a, b, c, d, e1, f⟩
end Go.Proofs.YtbnkoefljcekbaaGreatDoor

namespace Go.Proofs.YtbnkoefljcekbaaGreatDoor
set_option linter.unusedVariables false

section
variable {α : Type} {f : α → Int}
theorem ins_sorted {X Y : List α} {x : α} (h : SortedBy f (X ++ Y)) (hX : ∀ a, X.getLast? = some a → f a ≤ f x) (hY : ∀ y ∈ Y, f x < f y) : SortedBy f (X ++ x :: Y) := by
  unfold SortedBy at *
  obtain ⟨h1, h2, h3⟩ := List.pairwise_append.1 h
  refine List.pairwise_append.2 ⟨h1, List.pairwise_cons.2 ⟨fun y hy => Int.le_of_lt (hY y hy), h2⟩, fun a ha b hb => ?_⟩
  rcases List.mem_cons.1 hb with rfl | hb
  · rcases List.eq_nil_or_concat X with rfl | ⟨X', z, rfl⟩
    · cases ha
    · have hz := hX z (by simp)
      rw [List.concat_eq_append] at ha h1
      rcases List.mem_append.1 ha with ha | ha
      · have := (List.pairwise_append.1 h1).2.2 a ha z (by simp)
        exact Int.le_trans this hz
      · rw [List.mem_singleton.1 ha]; exact hz
  · exact h3 a ha b hb
theorem ins_cls {X Y Z : List α} {x : α} (h : SameCls f (X ++ Y) Z) (hY : ∀ y ∈ Y, f x < f y) : SameCls f (X ++ x :: Y) (Z ++ [x]) := fun v => by
  have h1 := h v
  unfold cls at *
  rw [List.filter_append] at h1
  rw [List.filter_append, List.filter_append, ← h1, List.filter_cons, List.append_assoc]
  congr 1
  by_cases hv : f x = v
  · subst hv
    have : Y.filter (fun y => f y == f x) = [] := List.filter_eq_nil_iff.2 fun y hy => by have := hY y hy; simp; omega
    rw [this]; simp
  · simp [hv]
/-- what is filtered out of a stably sorted row is the stably sorted filtered row -/
theorem filter_sorted {L : List α} (p : α → Bool) (h : SortedBy f L) : SortedBy f (L.filter p) := List.Pairwise.filter p h
theorem filter_cls {L Z : List α} (p : α → Bool) (h : SameCls f L Z) : SameCls f (L.filter p) (Z.filter p) := fun v => by
  have h1 := h v
  unfold cls at *
  rw [List.filter_filter, List.filter_filter]
  have e : ∀ M : List α, M.filter (fun a => (f a == v) && p a) = (M.filter fun a => f a == v).filter p := fun M => by
    rw [List.filter_filter]
    congr 1
    funext a
    rw [Bool.and_comm]
  rw [e, e, h1]
end
end Go.Proofs.YtbnkoefljcekbaaGreatDoor

namespace Go.Proofs.YtbnkoefljcekbaaGreatDoor
open Go.RowKit
set_option linter.unusedVariables false

/-- from a state s of the pool: each operation that may come leads to a state in which one less is to come; behind the last the region goes on -/
theorem pool {P : Program} {ops : Array Oper} {Q : Exit → Act → World → Prop} {md : Region.Mode} {S : World → Prop} {σ : Type} (L : σ → Array Bool) (A : σ → Act) (J : σ → World → Prop) (m : σ → Nat) (base : Nat)
    (H0 : ∀ s w, m s = 0 → J s w → S w → wpAnyH P md ops Q S base (L s) (A s) w)
    (H1 : ∀ s w, m s ≠ 0 → J s w → S w → Region.ready md ops (L s) ≠ [] ∧ ∀ i ∈ Region.ready md ops (L s), ∃ o, ops[i]? = some o ∧
      ∀ K : Act → World → Prop, Shut (∀ s' w', m s' + 1 = m s → L s' = (L s).setIfInBounds i true → J s' w' → S w' → K (A s') w') → if Region.wanted o (yielded ops (A s).tmps) = true then Oper.wp P o (A s) w K Q else K ((A s).put o.dst undef) w) :
    ∀ n s w, m s = n → J s w → S w → wpAnyH P md ops Q S (base + n) (L s) (A s) w
  | 0, s, w, h, hJ, hS => H0 s w h hJ hS
  | n + 1, s, w, h, hJ, hS => by
    obtain ⟨hne, hall⟩ := H1 s w (by omega) hJ hS
    refine ⟨fun h0 => absurd h0 hne, fun i hi => ?_⟩
    obtain ⟨o, ho, hw⟩ := hall i hi
    exact wpOp_step ho (fun K' hK => hw K' (fun s' w' hm hL hJ' hS' => hK _ _ ⟨hS', by rw [← hL]; exact pool L A J m base H0 H1 n s' w' (by omega) hJ' hS'⟩))

/-! a region whose operations 3, 4, 6, 8, 10, 12 come in whatever order, then 13, 14, 15 -/
def L6b (b3 b4 b6 b8 b10 b12 : Bool) : Array Bool := #[true, true, true, b3, b4, true, b6, true, b8, true, b10, true, b12, false, false, false]
def L6 (o : Nat → Option Nat) : Array Bool := #[true, true, true, (o 3).isSome, (o 4).isSome, true, (o 6).isSome, true, (o 8).isSome, true, (o 10).isSome, true, (o 12).isSome, false, false, false]
def upo (o : Nat → Option Nat) (k b : Nat) : Nat → Option Nat := fun j => if j = k then some b else o j
def n1 (x : Option Nat) : Nat := match x with
  | none => 1
  | some _ => 0
def m6 (o : Nat → Option Nat) : Nat := n1 (o 3) + n1 (o 4) + n1 (o 6) + n1 (o 8) + n1 (o 10) + n1 (o 12)
def chk6 (R : Array Bool → List Nat) (b3 b4 b6 b8 b10 b12 : Bool) : Bool := (b3 && b4 && b6 && b8 && b10 && b12) || (!(R (L6b b3 b4 b6 b8 b10 b12)).isEmpty && (R (L6b b3 b4 b6 b8 b10 b12)).all fun i => (i == 3 && !b3) || (i == 4 && !b4) || (i == 6 && !b6) || (i == 8 && !b8) || (i == 10 && !b10) || (i == 12 && !b12))
theorem pool6 {P : Program} {ops : Array Oper} {Q : Exit → Act → World → Prop} {md : Region.Mode} {S : World → Prop} {τ : Type} (A : (Nat → Option Nat) → τ → Act) (J : (Nat → Option Nat) → τ → World → Prop)
    (hR : ∀ b3 b4 b6 b8 b10 b12 : Bool, chk6 (Region.ready md ops) b3 b4 b6 b8 b10 b12 = true)
    (H0 : ∀ o t w, (o 3).isSome = true ∧ (o 4).isSome = true ∧ (o 6).isSome = true ∧ (o 8).isSome = true ∧ (o 10).isSome = true ∧ (o 12).isSome = true → J o t w → S w → wpAnyH P md ops Q S 3 (L6b true true true true true true) (A o t) w)
    (h3 : ∀ o t w, o 3 = none → J o t w → S w → ∃ p, ops[3]? = some p ∧ ∀ K : Act → World → Prop, Shut (∀ b t' w', J (upo o 3 b) t' w' → S w' → K (A (upo o 3 b) t') w') → if Region.wanted p (yielded ops (A o t).tmps) = true then Oper.wp P p (A o t) w K Q else K ((A o t).put p.dst undef) w)
    (h4 : ∀ o t w, o 4 = none → J o t w → S w → ∃ p, ops[4]? = some p ∧ ∀ K : Act → World → Prop, Shut (∀ b t' w', J (upo o 4 b) t' w' → S w' → K (A (upo o 4 b) t') w') → if Region.wanted p (yielded ops (A o t).tmps) = true then Oper.wp P p (A o t) w K Q else K ((A o t).put p.dst undef) w)
    (h6 : ∀ o t w, o 6 = none → J o t w → S w → ∃ p, ops[6]? = some p ∧ ∀ K : Act → World → Prop, Shut (∀ b t' w', J (upo o 6 b) t' w' → S w' → K (A (upo o 6 b) t') w') → if Region.wanted p (yielded ops (A o t).tmps) = true then Oper.wp P p (A o t) w K Q else K ((A o t).put p.dst undef) w)
    (h8 : ∀ o t w, o 8 = none → J o t w → S w → ∃ p, ops[8]? = some p ∧ ∀ K : Act → World → Prop, Shut (∀ b t' w', J (upo o 8 b) t' w' → S w' → K (A (upo o 8 b) t') w') → if Region.wanted p (yielded ops (A o t).tmps) = true then Oper.wp P p (A o t) w K Q else K ((A o t).put p.dst undef) w)
    (h10 : ∀ o t w, o 10 = none → J o t w → S w → ∃ p, ops[10]? = some p ∧ ∀ K : Act → World → Prop, Shut (∀ b t' w', J (upo o 10 b) t' w' → S w' → K (A (upo o 10 b) t') w') → if Region.wanted p (yielded ops (A o t).tmps) = true then Oper.wp P p (A o t) w K Q else K ((A o t).put p.dst undef) w)
    (h12 : ∀ o t w, o 12 = none → J o t w → S w → ∃ p, ops[12]? = some p ∧ ∀ K : Act → World → Prop, Shut (∀ b t' w', J (upo o 12 b) t' w' → S w' → K (A (upo o 12 b) t') w') → if Region.wanted p (yielded ops (A o t).tmps) = true then Oper.wp P p (A o t) w K Q else K ((A o t).put p.dst undef) w)
    (t0 : τ) (w0 : World) (hJ : J (fun _ => none) t0 w0) (hS : S w0) : wpAnyH P md ops Q S 9 (L6b false false false false false false) (A (fun _ => none) t0) w0 := by
  have hz : ∀ x : Option Nat, n1 x = 0 → x.isSome = true := fun x h => by cases x with
    | none => cases h
    | some _ => rfl
  refine pool (σ := (Nat → Option Nat) × τ) (fun s => L6 s.1) (fun s => A s.1 s.2) (fun s w => J s.1 s.2 w) (fun s => m6 s.1) 3 ?_ ?_ 6 (fun _ => none, t0) w0 rfl hJ hS
  · rintro ⟨o, t⟩ w hm hJ hS
    simp only [m6] at hm
    have e : ∀ k, (o k).isSome = true → (o k).isSome = true := fun _ h => h
    have a3 := hz (o 3) (by omega)
    have a4 := hz (o 4) (by omega)
    have a6 := hz (o 6) (by omega)
    have a8 := hz (o 8) (by omega)
    have a10 := hz (o 10) (by omega)
    have a12 := hz (o 12) (by omega)
    have := H0 o t w ⟨a3, a4, a6, a8, a10, a12⟩ hJ hS
    show wpAnyH P md ops Q S 3 (L6 o) (A o t) w
    unfold L6
    rw [a3, a4, a6, a8, a10, a12]
    exact this
  · rintro ⟨o, t⟩ w hm hJ hS
    simp only [m6] at hm
    have hc := hR (o 3).isSome (o 4).isSome (o 6).isSome (o 8).isSome (o 10).isSome (o 12).isSome
    have hn : ∀ x : Option Nat, x.isSome = false → x = none := fun x h => by cases x with
      | none => rfl
      | some _ => cases h
    have hno : ((o 3).isSome && (o 4).isSome && (o 6).isSome && (o 8).isSome && (o 10).isSome && (o 12).isSome) = false := by
      cases e : ((o 3).isSome && (o 4).isSome && (o 6).isSome && (o 8).isSome && (o 10).isSome && (o 12).isSome)
      · rfl
      · simp only [Bool.and_eq_true] at e
        obtain ⟨⟨⟨⟨⟨e3, e4⟩, e6⟩, e8⟩, e10⟩, e12⟩ := e
        have q : ∀ x : Option Nat, x.isSome = true → n1 x = 0 := fun x h => by cases x with
          | none => cases h
          | some _ => rfl
        rw [q _ e3, q _ e4, q _ e6, q _ e8, q _ e10, q _ e12] at hm
        exact absurd rfl hm
    unfold chk6 at hc
    rw [hno, Bool.false_or, Bool.and_eq_true] at hc
    obtain ⟨c1, c2⟩ := hc
    have hne : Region.ready md ops (L6 o) ≠ [] := fun e => by
      change (!(Region.ready md ops (L6 o)).isEmpty) = true at c1
      rw [e] at c1; cases c1
    refine ⟨hne, fun i hi => ?_⟩
    rw [List.all_eq_true] at c2
    have ci := c2 i hi
    simp only [Bool.or_eq_true, Bool.and_eq_true, beq_iff_eq, Bool.not_eq_true'] at ci
    rcases ci with ((((⟨rfl, c⟩ | ⟨rfl, c⟩) | ⟨rfl, c⟩) | ⟨rfl, c⟩) | ⟨rfl, c⟩) | ⟨rfl, c⟩
    · have hk := hn _ c
      obtain ⟨p, hp, hw⟩ := h3 o t w hk hJ hS
      refine ⟨p, hp, fun K hK => hw K (fun b t' w' hJ' hS' => hK (upo o 3 b, t') w' ?_ rfl hJ' hS')⟩
      show m6 (upo o 3 b) + 1 = m6 o
      simp only [m6, upo, hk]
      simp [n1]
      try omega
    · have hk := hn _ c
      obtain ⟨p, hp, hw⟩ := h4 o t w hk hJ hS
      refine ⟨p, hp, fun K hK => hw K (fun b t' w' hJ' hS' => hK (upo o 4 b, t') w' ?_ rfl hJ' hS')⟩
      show m6 (upo o 4 b) + 1 = m6 o
      simp only [m6, upo, hk]
      simp [n1]
      try omega
    · have hk := hn _ c
      obtain ⟨p, hp, hw⟩ := h6 o t w hk hJ hS
      refine ⟨p, hp, fun K hK => hw K (fun b t' w' hJ' hS' => hK (upo o 6 b, t') w' ?_ rfl hJ' hS')⟩
      show m6 (upo o 6 b) + 1 = m6 o
      simp only [m6, upo, hk]
      simp [n1]
      try omega
    · have hk := hn _ c
      obtain ⟨p, hp, hw⟩ := h8 o t w hk hJ hS
      refine ⟨p, hp, fun K hK => hw K (fun b t' w' hJ' hS' => hK (upo o 8 b, t') w' ?_ rfl hJ' hS')⟩
      show m6 (upo o 8 b) + 1 = m6 o
      simp only [m6, upo, hk]
      simp [n1]
      try omega
    · have hk := hn _ c
      obtain ⟨p, hp, hw⟩ := h10 o t w hk hJ hS
      refine ⟨p, hp, fun K hK => hw K (fun b t' w' hJ' hS' => hK (upo o 10 b, t') w' ?_ rfl hJ' hS')⟩
      show m6 (upo o 10 b) + 1 = m6 o
      simp only [m6, upo, hk]
      simp [n1]
      try omega
    · have hk := hn _ c
      obtain ⟨p, hp, hw⟩ := h12 o t w hk hJ hS
      refine ⟨p, hp, fun K hK => hw K (fun b t' w' hJ' hS' => hK (upo o 12 b, t') w' ?_ rfl hJ' hS')⟩
      show m6 (upo o 12 b) + 1 = m6 o
      simp only [m6, upo, hk]
      simp [n1]
      try omega

def pvS (N : Nat) (x : Option Nat) : Value := match x with
  | none => undef
  | some b => .slice (some ⟨b, 0, none⟩) N N
def pvM (x : Option Nat) : Value := match x with
  | none => undef
  | some b => .map (some b)
def putAll (a : Act) (N : Nat) (o : Nat → Option Nat) : Act := (((((a.put (some 13) (pvS N (o 3))).put (some 14) (pvM (o 4))).put (some 16) (pvS N (o 6))).put (some 18) (pvS N (o 8))).put (some 20) (pvS N (o 10))).put (some 22) (pvS N (o 12))
theorem pool6a {P : Program} {ops : Array Oper} {Q : Exit → Act → World → Prop} {md : Region.Mode} {S : World → Prop} {τ : Type} (N : Nat) (J : (Nat → Option Nat) → τ → World → Prop) (a : Act) (ea : putAll a N (fun _ => none) = a)
    (hR : ∀ b3 b4 b6 b8 b10 b12 : Bool, chk6 (Region.ready md ops) b3 b4 b6 b8 b10 b12 = true) (t0 : τ) (w0 : World) (hJ : J (fun _ => none) t0 w0) (hS : S w0)
    (H0 : ∀ o t w, (o 3).isSome = true ∧ (o 4).isSome = true ∧ (o 6).isSome = true ∧ (o 8).isSome = true ∧ (o 10).isSome = true ∧ (o 12).isSome = true → J o t w → S w → wpAnyH P md ops Q S 3 (L6b true true true true true true) (putAll a N o) w)
    (h3 : ∀ o t w, o 3 = none → J o t w → S w → ∃ p, ops[3]? = some p ∧ ∀ K : Act → World → Prop, Shut (∀ b t' w', J (upo o 3 b) t' w' → S w' → K (putAll a N (upo o 3 b)) w') → if Region.wanted p (yielded ops (putAll a N o).tmps) = true then Oper.wp P p (putAll a N o) w K Q else K ((putAll a N o).put p.dst undef) w)
    (h4 : ∀ o t w, o 4 = none → J o t w → S w → ∃ p, ops[4]? = some p ∧ ∀ K : Act → World → Prop, Shut (∀ b t' w', J (upo o 4 b) t' w' → S w' → K (putAll a N (upo o 4 b)) w') → if Region.wanted p (yielded ops (putAll a N o).tmps) = true then Oper.wp P p (putAll a N o) w K Q else K ((putAll a N o).put p.dst undef) w)
    (h6 : ∀ o t w, o 6 = none → J o t w → S w → ∃ p, ops[6]? = some p ∧ ∀ K : Act → World → Prop, Shut (∀ b t' w', J (upo o 6 b) t' w' → S w' → K (putAll a N (upo o 6 b)) w') → if Region.wanted p (yielded ops (putAll a N o).tmps) = true then Oper.wp P p (putAll a N o) w K Q else K ((putAll a N o).put p.dst undef) w)
    (h8 : ∀ o t w, o 8 = none → J o t w → S w → ∃ p, ops[8]? = some p ∧ ∀ K : Act → World → Prop, Shut (∀ b t' w', J (upo o 8 b) t' w' → S w' → K (putAll a N (upo o 8 b)) w') → if Region.wanted p (yielded ops (putAll a N o).tmps) = true then Oper.wp P p (putAll a N o) w K Q else K ((putAll a N o).put p.dst undef) w)
    (h10 : ∀ o t w, o 10 = none → J o t w → S w → ∃ p, ops[10]? = some p ∧ ∀ K : Act → World → Prop, Shut (∀ b t' w', J (upo o 10 b) t' w' → S w' → K (putAll a N (upo o 10 b)) w') → if Region.wanted p (yielded ops (putAll a N o).tmps) = true then Oper.wp P p (putAll a N o) w K Q else K ((putAll a N o).put p.dst undef) w)
    (h12 : ∀ o t w, o 12 = none → J o t w → S w → ∃ p, ops[12]? = some p ∧ ∀ K : Act → World → Prop, Shut (∀ b t' w', J (upo o 12 b) t' w' → S w' → K (putAll a N (upo o 12 b)) w') → if Region.wanted p (yielded ops (putAll a N o).tmps) = true then Oper.wp P p (putAll a N o) w K Q else K ((putAll a N o).put p.dst undef) w)
    : wpAnyH P md ops Q S 9 (L6b false false false false false false) a w0 := by
  have := pool6 (fun o (_ : τ) => putAll a N o) J hR H0 h3 h4 h6 h8 h10 h12 t0 w0 hJ hS
  simp only [ea] at this
  exact this
end Go.Proofs.YtbnkoefljcekbaaGreatDoor

namespace Go.Proofs.YtbnkoefljcekbaaGreatDoor
set_option linter.unusedVariables false

/-- the moments of a farm are bounded -/
structure Bnd (F : FP) (B S : Int) : Prop where
  w : ∀ k, k < F.nW → F.wfrom k ≤ B ∧ F.wto k ≤ B
  l : ∀ t ∈ F.lossAt, t ≤ B
  s : ∀ k i, k < F.nW → i < F.nX → F.secs k i ≤ S
  e : ∀ k i t u, k < F.nW → i < F.nX → F.endAt k i t = some u → u ≤ B
  s0 : 0 ≤ S
theorem next_bnd {F : FP} (hF : FFine F) {B S : Int} (hB : Bnd F B S) {q : QS} (h1 : Inv F q.at_ (q.at_ + 1) q) {m : Int} (hx : nextQ F q = some m) : q.at_ < m ∧ m ≤ B + 2 * S := by
  obtain ⟨n1, n2, n3⟩ := above_some hx
  refine ⟨n2, ?_⟩
  have s0 := hB.s0
  rcases mem_candsQ.1 n1 with ⟨k, hk, e⟩ | e | ⟨r, hr, hg, e⟩
  · have := hB.w k hk
    rcases e with e | e <;> omega
  · have := hB.l m e; omega
  · have hnm := h1.named r hr
    have hf := h1.fr r hr
    have h3 := hB.w _ hnm.1
    rcases e with e | e
    · have := hB.e _ _ _ _ hnm.1 hnm.2 e; omega
    · have := hB.s _ _ hnm.1 hnm.2
      unfold late at e; omega
theorem q_ends_go {F : FP} (hF : FFine F) {B S : Int} (hB : Bnd F B S) : ∀ (n : Nat) (q : QS), Inv F (q.at_ - 1) q.at_ q → (B + 2 * S + 1 - q.at_).toNat ≤ n → ∃ q', QTrace F q q'
  | n, q, hI, hn => by
    have h1 := hI.step hF
    cases hx : nextQ F (stepQ F q) with
    | none => exact ⟨_, .last q hx⟩
    | some m =>
      have e := stepQ_at F q
      have h1' : Inv F (stepQ F q).at_ ((stepQ F q).at_ + 1) (stepQ F q) := by rw [e]; exact h1
      obtain ⟨n2, hm⟩ := next_bnd hF hB h1' hx
      rw [e] at n2
      have h2 := h1'.at hx
      match n, hn with
      | 0, hn => omega
      | n + 1, hn =>
        obtain ⟨q', h⟩ := q_ends_go hF hB n { stepQ F q with at_ := m } h2 (by show (B + 2 * S + 1 - m).toNat ≤ n; omega)
        exact ⟨q', .more q m q' hx h⟩
theorem q_ends {F : FP} (hF : FFine F) {B S : Int} (hB : Bnd F B S) : ∃ q', QTrace F q0 q' := q_ends_go hF hB _ q0 (inv0 hF) (Nat.le_refl _)

/-- what is known when the program comes to its end -/
structure EndP (F : FP) (p : PS) (q : QS) : Prop where
  sim : Sim p q
  fin : FinQ F q
  out : p.out.Perm q.runs
  last : ∀ k, IsLast q.runs k (p.last k)
theorem end_of {F : FP} (hF : FFine F) (hcov : ∀ i, i < F.nX → i ∈ F.order) {p : PS} {q : QS} (hp : PTrace F p0 p) (hq : QTrace F q0 q) : EndP F p q := by
  obtain ⟨h1, h2⟩ := both_end hF hcov hp hq
  exact ⟨h1, fin_of hF hcov hq, h2, fun k => isLast_perm h2 ((hp.inv (pinv0 F)).last k)⟩
/-- each work that is done has one run that is done -/
theorem EndP.once {F : FP} {p : PS} {q : QS} (h : EndP F p q) {L : List RR} (hL : L.Perm q.runs) (i : Nat) :
    p.begun i = (L.countP (onWork i) : Nat) ∧ L.countP (isEnd 1 i) ≤ 1 ∧ (L.countP (isEnd 1 i) = 1 ↔ p.done i = true) ∧
    (∀ r ∈ L, r.work = i → r.end_ = 1 → r.to_ = p.last i) ∧ (p.done i = true → ∀ r ∈ L, r.work = i → r.to_ ≤ p.last i) := by
  have hI := h.fin.inv
  have e1 : L.countP (isEnd 1 i) = q.runs.countP (isEnd 1 i) := hL.countP_eq _
  have e2 : L.countP (onWork i) = q.runs.countP (onWork i) := hL.countP_eq _
  have d1 : ∀ r ∈ q.runs, r.work = i → r.end_ = 1 → q.done i = true := fun r hr hw he => (hI.don i).2 ⟨r, hr, hw, he⟩
  have key : ∀ r ∈ q.runs, r.work = i → r.end_ = 1 → r.to_ = p.last i := fun r hr hw he => by
    obtain ⟨l1, l2⟩ := h.last i
    have a := l1 r hr hw (.inl he)
    rcases l2 with l2 | ⟨d, hd, hdw, hde, hdt⟩
    · have b := hI.en r hr (end1_not_going he)
      have c := hI.fr r hr
      omega
    · have b := hI.doni i (d1 r hr hw he) d hd hdw r hr hw he
      omega
  refine ⟨by rw [h.sim.begun i, e2]; rfl, by rw [e1]; exact hI.don1 i, ?_, fun r hr => key r (hL.mem_iff.1 hr), fun hd r hr hw => ?_⟩
  · rw [e1, h.sim.done i]
    constructor
    · intro h0
      have : 0 < q.runs.countP (isEnd 1 i) := by omega
      obtain ⟨r, hr, hx⟩ := List.countP_pos_iff.1 this
      simp only [isEnd, Bool.and_eq_true, beq_iff_eq] at hx
      exact d1 r hr hx.1 hx.2
    · intro hd
      obtain ⟨r, hr, hw, he⟩ := (hI.don i).1 hd
      have : 0 < q.runs.countP (isEnd 1 i) := List.countP_pos_iff.2 ⟨r, hr, by simp [isEnd, hw, he]⟩
      have := hI.don1 i
      omega
  · rw [h.sim.done i] at hd
    obtain ⟨d, hdm, hdw, hde⟩ := (hI.don i).1 hd
    have a := hI.doni i hd r (hL.mem_iff.1 hr) hw d hdm hdw hde
    rw [key d hdm hdw hde] at a
    exact a
end Go.Proofs.YtbnkoefljcekbaaGreatDoor

namespace Go.Proofs.YtbnkoefljcekbaaGreatDoor
set_option linter.unusedVariables false

/-- nobody waited, at all moments up to t -/
def NA (F : FP) (t : Int) (R : List RR) : Prop := ∀ s, 0 ≤ s → s ≤ t → NoneWaits F R s
theorem NA.step {F : FP} (hF : FFine F) (hcov : ∀ i, i < F.nX → i ∈ F.order) {q : QS} (hI : Inv F (q.at_ - 1) q.at_ q) (h : NA F (q.at_ - 1) q.runs) : NA F q.at_ (stepQ F q).runs := by
  intro s h0 hs
  rcases Int.lt_or_le s q.at_ with hlt | hle
  · obtain ⟨X, e, hX⟩ := step_form F q
    rw [e]
    have hT1 := fin_turn F q.at_ q.runs
    have hT2 := lose_turn F q.at_
    exact none_app hX hlt (hT2.none hlt (hT1.none hlt (h s h0 (by omega))))
  · have : s = q.at_ := by omega
    subst this
    have := none_now hcov (q := stepQ F q) (by rw [stepQ_at]; exact hI.step hF) (quiet_step F q)
    rw [stepQ_at] at this
    exact this
/-- what a moment is like does not change up to the next one -/
theorem none_between {F : FP} {q : QS} (hI : Inv F q.at_ (q.at_ + 1) q) {s : Int} (hs : q.at_ ≤ s) (hw : ∀ k, k < F.nW → F.wfrom k ≤ s → F.wfrom k ≤ q.at_) (h : NoneWaits F q.runs q.at_) : NoneWaits F q.runs s := by
  intro i hi ⟨a, b, c, d⟩ k hk ⟨e1, e2, e3⟩
  refine h i hi ⟨fun x hx => ?_, fun hd => ?_, fun hr => ?_, ?_⟩ k hk ⟨hw k hk e1, by omega, ?_⟩
  · obtain ⟨r, hr, h1, h2, _⟩ := a x hx
    exact ⟨r, hr, h1, h2, (hI.en r hr (end1_not_going h2)).2.1⟩
  · obtain ⟨r, hr, h1, h2, h3⟩ := hd
    exact b ⟨r, hr, h1, h2, by omega⟩
  · obtain ⟨r, hr, h1, h2, h3⟩ := hr
    refine c ⟨r, hr, h1, by omega, ?_⟩
    cases hg : going r
    · rcases h3 with h3 | h3
      · rw [hg] at h3; cases h3
      · have := (hI.en r hr hg).2.1; omega
    · exact .inl rfl
  · have : LostBy q.runs q.at_ i = LostBy q.runs s i := countP_eq_of fun r hr => by
      cases he : isEnd 2 i r
      · rfl
      · simp only [isEnd, Bool.and_eq_true, beq_iff_eq] at he
        have h2 := (hI.en r hr (end2_not_going he.2)).2.1
        have h3 : r.to_ ≤ s := by omega
        simp [h2, h3]
    rw [this]; exact d
  · have : cntAt q.runs q.at_ k = cntAt q.runs s k := countP_eq_of fun r hr => by
      cases hg : going r
      · have h2 := (hI.en r hr hg).2.1
        have h3 : ¬ q.at_ < r.to_ := by omega
        have h4 : ¬ s < r.to_ := by omega
        simp [h3, h4]
      · have h2 := (hI.go r hr hg).1
        have h3 : r.from_ ≤ s := by omega
        simp [h2, h3]
    rw [this]; exact e3
theorem NA.at {F : FP} {q : QS} (hI : Inv F q.at_ (q.at_ + 1) q) (h : NA F q.at_ q.runs) {n : Int} (hn : nextQ F q = some n) : NA F (n - 1) q.runs := by
  obtain ⟨n1, n2, n3⟩ := above_some hn
  intro s h0 hs
  rcases Int.lt_or_le q.at_ s with hlt | hle
  · refine none_between hI (by omega) (fun k hk e => ?_) (h q.at_ hI.t0 (Int.le_refl _))
    rcases Int.lt_or_le q.at_ (F.wfrom k) with h1 | h1
    · have := n3 _ (mem_candsQ.2 (.inl ⟨k, hk, .inl rfl⟩)) h1
      omega
    · exact h1
  · exact h s h0 hle
theorem QTrace.uniq {F : FP} {q a b : QS} (h : QTrace F q a) : QTrace F q b → a = b := by
  induction h with
  | last q hn =>
    intro h2
    cases h2 with
    | last _ _ => rfl
    | more _ n _ h3 _ => rw [hn] at h3; cases h3
  | more q n q' hn _ ih =>
    intro h2
    cases h2 with
    | last _ h3 => rw [hn] at h3; cases h3
    | more _ m _ h3 h4 =>
      rw [hn] at h3
      injection h3 with h3
      subst h3
      exact ih h4
end Go.Proofs.YtbnkoefljcekbaaGreatDoor
