/-
 Several texts of mine as one, without what is not wanted here: XWtD, XCFarmP, XCFarmW, XLoK, XOpnD.
-/
import Derived.Test.YtbnkoefljcekbaaGreatDoorWvHC9
import Derived.Test.YtbnkoefljcekbaaGreatDoorWvGf
import Derived.Test.YtbnkoefljcekbaaGreatDoorWvFC9
import Derived.Test.YtbnkoefljcekbaaGreatDoorWvGb
import Derived.Test.YtbnkoefljcekbaaGreatDoorWvAC9
import Derived.WideKeyArgs
import Derived.DeepKeys4
import Derived.Test.YtbnkoefljcekbaaGreatDoorWvGg
namespace Go.Proofs.YtbnkoefljcekbaaGreatDoor.C9
open Go.ChangeShapes Go.WideShapes Go.Deep Go.RowKit Go.Maps
set_option linter.unusedVariables false
set_option linter.unusedSimpArgs false

def dnB (l : List Run) (s : ByteArray) (t : Int) : Bool := l.any fun r => decide (r.id_ = s) && (decide (r.end_ = 1) && decide (r.to_ ≤ t))
def rnB (l : List Run) (s : ByteArray) (t : Int) : Bool := l.any fun r => decide (r.id_ = s) && (decide (r.from_ ≤ t) && decide (t < r.to_))
def lsN (l : List Run) (s : ByteArray) (t : Int) : Nat := l.countP fun r => decide (r.id_ = s) && (decide (r.end_ = 2) && decide (r.to_ ≤ t))
def bsN (l : List Run) (s : ByteArray) (t : Int) : Nat := l.countP fun r => decide (r.worker = s) && (decide (r.from_ ≤ t) && decide (t < r.to_))
def frB (l : List Run) (t : Int) (y : Worker) : Bool := decide (y.from_ ≤ t) && (decide (t < y.to_) && decide ((bsN l y.name t : Int) < y.slots))
def wtB (tries : Int) (l : List Run) (z : Work) (t : Int) : Bool := !dnB l z.id_ t && (!rnB l z.id_ t && (decide ((lsN l z.id_ t : Int) < tries) && z.after.l.all fun s => dnB l s t))
def waitB (x : Farm) (l : List Run) (z : Work) (t : Int) : Bool := wtB x.tries l z t && x.workers.l.any fun y => frB l t y && fitF z.needs.l y.has.l
def momP (x : Farm) (l : List Run) : List Int := 0 :: (l.flatMap fun r => [r.from_, r.to_]) ++ (x.workers.l.flatMap fun y => [y.from_, y.to_])
def momR (x : Farm) (l : List Run) : List Int := 0 :: x.workers.l.map (·.from_) ++ l.map (·.to_)
def waitedF (M : List Int) (x : Farm) (l : List Run) : List ByteArray := (x.works.l.filter fun z => M.any (waitB x l z)).map (·.id_)

theorem mem_momP {x : Farm} {l : List Run} {t : Int} : t ∈ momP x l ↔ t = 0 ∨ (∃ r ∈ l, t = r.from_ ∨ t = r.to_) ∨ ∃ y ∈ x.workers.l, t = y.from_ ∨ t = y.to_ := by
 unfold momP
 simp only [List.cons_append, List.mem_cons, List.mem_append, List.mem_flatMap, List.not_mem_nil, or_false]
theorem mem_momR {x : Farm} {l : List Run} {t : Int} : t ∈ momR x l ↔ t = 0 ∨ (∃ y ∈ x.workers.l, t = y.from_) ∨ ∃ r ∈ l, t = r.to_ := by
 unfold momR
 simp only [List.cons_append, List.mem_cons, List.mem_append, List.mem_map]
 constructor
 ·rintro (h | ⟨y, hy, rfl⟩ | ⟨r, hr, rfl⟩)
  ·exact .inl h
  ·exact .inr (.inl ⟨y, hy, rfl⟩)
  ·exact .inr (.inr ⟨r, hr, rfl⟩)
 ·rintro (h | ⟨y, hy, rfl⟩ | ⟨r, hr, rfl⟩)
  ·exact .inl h
  ·exact .inr (.inl ⟨y, hy, rfl⟩)
  ·exact .inr (.inr ⟨r, hr, rfl⟩)
/-- the greatest that is no greater -/
theorem last_at {t : Int} : ∀ {M : List Int} {a : Int}, a ∈ M → a ≤ t → ∃ b ∈ M, b ≤ t ∧ ∀ c ∈ M, ¬ (b < c ∧ c ≤ t)
 | [], a, h, _ => by cases h
 | c :: M, a, h, hle => by
  by_cases hM : ∃ d ∈ M, d ≤ t
  ·obtain ⟨d, hd, hdt⟩ := hM
   obtain ⟨b, hb, hbt, hmax⟩ := last_at hd hdt
   by_cases hc : b < c ∧ c ≤ t
   ·refine ⟨c, List.mem_cons_self, hc.2, fun e he => ?_⟩
    rcases List.mem_cons.1 he with rfl | he
    ·omega
    ·have := hmax e he; omega
   ·refine ⟨b, List.mem_cons_of_mem _ hb, hbt, fun e he => ?_⟩
    rcases List.mem_cons.1 he with rfl | he
    ·exact hc
    ·exact hmax e he
  ·rcases List.mem_cons.1 h with rfl | h
   ·refine ⟨a, List.mem_cons_self, hle, fun e he => ?_⟩
    rcases List.mem_cons.1 he with rfl | he
    ·omega
    ·exact fun h2 => hM ⟨e, he, h2.2⟩
   ·exact absurd ⟨a, h, hle⟩ hM
theorem any_congr2 {α : Type} {l : List α} {p q : α → Bool} (h : ∀ x ∈ l, p x = q x) : l.any p = l.any q := by
 rw [Bool.eq_iff_iff, List.any_eq_true, List.any_eq_true]
 exact ⟨fun ⟨x, hx, e⟩ => ⟨x, hx, by rw [← h x hx]; exact e⟩, fun ⟨x, hx, e⟩ => ⟨x, hx, by rw [h x hx]; exact e⟩⟩
/-- between two moments of the reference nobody begins to wait -/
theorem wait_back {x : Farm} {l : List Run} {z : Work} {t b : Int} (hbt : b ≤ t) (h1 : ∀ y ∈ x.workers.l, ¬ (b < y.from_ ∧ y.from_ ≤ t)) (h2 : ∀ r ∈ l, ¬ (b < r.to_ ∧ r.to_ ≤ t)) (h : waitB x l z t = true) : waitB x l z b = true := by
 have e : ∀ r ∈ l, decide (r.to_ ≤ b) = decide (r.to_ ≤ t) := fun r hr => by
  have := h2 r hr
  rw [decide_eq_decide]; omega
 have dn : ∀ s, dnB l s b = dnB l s t := fun s => any_congr2 fun r hr => by rw [e r hr]
 have ls : ∀ s, lsN l s b = lsN l s t := fun s => countP_eq_of fun r hr => by rw [e r hr]
 have mono : ∀ r ∈ l, (decide (r.from_ ≤ b) && decide (b < r.to_)) = true → (decide (r.from_ ≤ t) && decide (t < r.to_)) = true := fun r hr h => by
  have := h2 r hr
  simp only [Bool.and_eq_true, decide_eq_true_eq] at h ⊢
  omega
 have rn : ∀ s, rnB l s t = false → rnB l s b = false := fun s h => by
  unfold rnB at *
  rw [List.any_eq_false] at *
  intro r hr hx
  refine h r hr ?_
  rw [Bool.and_eq_true] at hx ⊢
  exact ⟨hx.1, mono r hr hx.2⟩
 have bs : ∀ s, bsN l s b ≤ bsN l s t := fun s => countP_le_of fun r hr hx => by
  rw [Bool.and_eq_true] at hx ⊢
  exact ⟨hx.1, mono r hr hx.2⟩
 unfold waitB at h ⊢
 rw [Bool.and_eq_true] at h ⊢
 obtain ⟨a, c⟩ := h
 constructor
 ·unfold wtB at a ⊢
  simp only [Bool.and_eq_true, Bool.not_eq_true'] at a ⊢
  obtain ⟨a1, a2, a3, a4⟩ := a
  refine ⟨by rw [dn]; exact a1, rn _ a2, by rw [ls]; exact a3, ?_⟩
  rw [show (fun s => dnB l s b) = fun s => dnB l s t from funext dn]
  exact a4
 ·rw [List.any_eq_true] at c ⊢
  obtain ⟨y, hy, hc⟩ := c
  refine ⟨y, hy, ?_⟩
  rw [Bool.and_eq_true] at hc ⊢
  refine ⟨?_, hc.2⟩
  have hf := hc.1
  unfold frB at hf ⊢
  simp only [Bool.and_eq_true, decide_eq_true_eq] at hf ⊢
  have := h1 y hy
  have := bs y.name
  omega
theorem waited_same {x : Farm} {l : List Run} (h0 : ∀ r ∈ l, 0 ≤ r.from_ ∧ 0 ≤ r.to_) (h1 : ∀ y ∈ x.workers.l, 0 ≤ y.from_ ∧ 0 ≤ y.to_) : waitedF (momP x l) x l = waitedF (momR x l) x l := by
 unfold waitedF
 congr 1
 refine List.filter_congr fun z _ => ?_
 rw [Bool.eq_iff_iff, List.any_eq_true, List.any_eq_true]
 constructor
 ·rintro ⟨t, ht, hw⟩
  have ht0 : 0 ≤ t := by
   rcases mem_momP.1 ht with h | ⟨r, hr, h⟩ | ⟨y, hy, h⟩
   ·omega
   ·have := h0 r hr; omega
   ·have := h1 y hy; omega
  obtain ⟨b, hb, hbt, hmax⟩ := last_at (M := momR x l) (mem_momR.2 (.inl rfl)) ht0
  exact ⟨b, hb, wait_back hbt (fun y hy => hmax _ (mem_momR.2 (.inr (.inl ⟨y, hy, rfl⟩)))) (fun r hr => hmax _ (mem_momR.2 (.inr (.inr ⟨r, hr, rfl⟩)))) hw⟩
 ·rintro ⟨t, ht, hw⟩
  refine ⟨t, mem_momP.2 ?_, hw⟩
  rcases mem_momR.1 ht with h | ⟨y, hy, h⟩ | ⟨r, hr, h⟩
  ·exact .inl h
  ·exact .inr (.inr ⟨y, hy, .inl h⟩)
  ·exact .inr (.inl ⟨r, hr, .inr h⟩)

section
variable {x : Farm} {q : QS} {L : List RR}
theorem Done.idEq (h : Done x q L) {r : RR} (hr : r ∈ L) {i : Nat} (hi : i < x.works.l.length) : ((toRun x r).id_ = (woOf x i).id_) ↔ r.work = i :=
 ⟨fun e => idInj (farmOk_of h.ok) (h.lt hr).2 hi e, fun e => by rw [← e]; rfl⟩
theorem Done.nmEq (h : Done x q L) {r : RR} (hr : r ∈ L) {k : Nat} (hk : k < x.workers.l.length) : ((toRun x r).worker = (wkOf x k).name) ↔ r.worker = k :=
 ⟨fun e => nmInj (farmOk_of h.ok) (h.lt hr).1 hk e, fun e => by rw [← e]; rfl⟩
theorem Done.dn (h : Done x q L) {i : Nat} (hi : i < x.works.l.length) {t : Int} : dnB (L.map (toRun x)) (woOf x i).id_ t = true ↔ DoneBy q.runs t i := by
 unfold dnB
 rw [List.any_map, List.any_eq_true]
 constructor
 ·rintro ⟨r, hr, e⟩
  simp only [Function.comp, Bool.and_eq_true, decide_eq_true_eq] at e
  exact ⟨r, h.mem hr, (h.idEq hr hi).1 e.1, e.2.1, e.2.2⟩
 ·rintro ⟨r, hr, e1, e2, e3⟩
  have hr' := h.perm.mem_iff.2 hr
  refine ⟨r, hr', ?_⟩
  simp only [Function.comp, Bool.and_eq_true, decide_eq_true_eq]
  exact ⟨(h.idEq hr' hi).2 e1, e2, e3⟩
/-- of what is played nobody waits -/
theorem Done.none (h : Done x q L) (hN : NA (fpx x) q.at_ q.runs ∧ ∀ k, k < (fpx x).nW → (fpx x).wto k ≤ q.at_) : waitedF (momP x (L.map (toRun x))) x (L.map (toRun x)) = [] := by
 have hok := farmOk_of h.ok
 unfold waitedF
 rw [List.map_eq_nil_iff, List.filter_eq_nil_iff]
 intro z hz hw
 obtain ⟨i, hi, hzi⟩ := List.mem_iff_getElem.1 hz
 have hzw : woOf x i = z := woOf_get (by rw [List.getElem?_eq_getElem hi, hzi])
 rw [List.any_eq_true] at hw
 obtain ⟨t, ht, hw⟩ := hw
 have ht0 : 0 ≤ t ∧ t ≤ q.at_ := by
  rcases mem_momP.1 ht with e | ⟨r', hr', e⟩ | ⟨y, hy, e⟩
  ·have := h.fin.inv.t0; omega
  ·obtain ⟨r, hr, rfl⟩ := List.mem_map.1 hr'
   have a := h.ends hr
   have b := h.fin.inv.en r (h.mem hr) (h.fin.ended r (h.mem hr))
   have e' : t = r.from_ ∨ t = r.to_ := e
   omega
  ·obtain ⟨k, hk, hky⟩ := List.mem_iff_getElem.1 hy
   have hyk : wkOf x k = y := wkOf_get (by rw [List.getElem?_eq_getElem hk, hky])
   have a : y.to_ ≤ q.at_ := by have := hN.2 k hk; rw [← hyk]; exact this
   have b : y.from_ ≤ q.at_ := by have := h.fin.from_ k hk; rw [← hyk]; exact this
   have c := worker_times (hok.wk y hy)
   omega
 unfold waitB at hw
 rw [Bool.and_eq_true] at hw
 obtain ⟨a, c⟩ := hw
 unfold wtB at a
 simp only [Bool.and_eq_true, Bool.not_eq_true', decide_eq_true_eq] at a
 obtain ⟨a1, a2, a3, a4⟩ := a
 rw [List.any_eq_true] at c
 obtain ⟨y, hy, hc⟩ := c
 rw [Bool.and_eq_true] at hc
 obtain ⟨hf, hfit⟩ := hc
 obtain ⟨k, hk, hky⟩ := List.mem_iff_getElem.1 hy
 have hyk : wkOf x k = y := wkOf_get (by rw [List.getElem?_eq_getElem hk, hky])
 unfold frB at hf
 simp only [Bool.and_eq_true, decide_eq_true_eq] at hf
 have hWa : WaitsAt (fpx x) q.runs t i := by
  refine ⟨fun s hs => ?_, fun hd => ?_, fun hr => ?_, ?_⟩
  ·have hs' : s ∈ gOf x.works.l i := hs
   rw [gOf_get (List.getElem?_eq_getElem hi), hzi] at hs'
   obtain ⟨u, hu, rfl⟩ := List.mem_map.1 hs'
   obtain ⟨v, hv, hvu⟩ := ixOf_get (allThere_get hok.wo.all (by rw [List.getElem?_eq_getElem hi, hzi]) hu)
   have := List.all_eq_true.1 a4 u hu
   have hlt := (List.getElem?_eq_some_iff.1 hv).1
   refine (h.dn hlt).1 ?_
   rw [woOf_get hv, hvu]; exact this
  ·have := (h.dn hi).2 hd
   rw [hzw] at this
   rw [this] at a1; cases a1
  ·obtain ⟨r, hr, e1, e2, e3⟩ := hr
   have hr' := h.perm.mem_iff.2 hr
   have e4 : t < r.to_ := by
    rcases e3 with e3 | e3
    ·rw [h.fin.ended r hr] at e3; cases e3
    ·exact e3
   unfold rnB at a2
   rw [List.any_eq_false] at a2
   refine a2 (toRun x r) (List.mem_map_of_mem hr') ?_
   simp only [Bool.and_eq_true, decide_eq_true_eq]
   refine ⟨?_, e2, e4⟩
   rw [← hzw]
   exact (h.idEq hr' hi).2 e1
  ·have e1 : LostBy q.runs t i = lsN (L.map (toRun x)) z.id_ t := by
    unfold LostBy lsN
    rw [List.countP_map, ← h.perm.countP_eq]
    refine countP_eq_of fun r hr => ?_
    have := h.idEq hr hi
    rw [hzw] at this
    simp only [Function.comp, isEnd]
    rw [show (decide ((toRun x r).id_ = z.id_)) = (r.work == i) from by rw [Bool.eq_iff_iff, decide_eq_true_eq, beq_iff_eq]; exact this]
    rw [Bool.and_assoc]
    rfl
   rw [e1]; exact a3
 have hFr : FreeAt (fpx x) q.runs t k := by
  refine ⟨?_, ?_, ?_⟩
  ·show (wkOf x k).from_ ≤ t
   rw [hyk]; exact hf.1
  ·show t < (wkOf x k).to_
   rw [hyk]; exact hf.2.1
  ·show (cntAt q.runs t k : Int) < (wkOf x k).slots
   have e1 : cntAt q.runs t k = bsN (L.map (toRun x)) y.name t := by
    unfold cntAt bsN
    rw [List.countP_map, ← h.perm.countP_eq]
    refine countP_eq_of fun r hr => ?_
    have h2 := h.nmEq hr hk
    rw [hyk] at h2
    simp only [Function.comp]
    rw [show (decide ((toRun x r).worker = y.name)) = (r.worker == k) from by rw [Bool.eq_iff_iff, decide_eq_true_eq, beq_iff_eq]; exact h2]
    rw [h.fin.ended r (h.mem hr), Bool.false_or]
    rfl
   rw [e1, hyk]; exact hf.2.2
 have := hN.1 t ht0.1 ht0.2 i hi hWa k hk hFr
 have e2 : (fpx x).fit k i = fitF (woOf x i).needs.l (wkOf x k).has.l := rfl
 rw [e2, hzw, hyk, hfit] at this
 cases this
end
end Go.Proofs.YtbnkoefljcekbaaGreatDoor.C9

namespace Go.Proofs.YtbnkoefljcekbaaGreatDoor.C9
open Go.ChangeShapes Go.WideShapes Go.Deep Go.RowKit
set_option linter.unusedVariables false
set_option linter.unusedSimpArgs false

theorem or_cells2 {w : World} {A : Option Addr} {b : Nat} {x y : Int} (hA : A = some ⟨b, 0, none⟩) (h0 : w.cell? ⟨b, 0, none⟩ = some (.int .i64 x)) (h1 : w.cell? ⟨b, 1, none⟩ = some (.int .i64 y)) (i0 : I64 x) (i1 : I64 y) : SlAt RInt w A 2 [x, y] := by
 subst hA
 refine ⟨rfl, fun _ => ⟨b, 0, rfl, fun i z hz j v hv => ?_⟩, fun z hz => ?_⟩
 ·match i, hz with
  | 0, hz => injection hz with hz; subst hz; cases j with
   | zero => injection hv with hv; subst hv; exact h0
   | succ j => cases hv
  | 1, hz => injection hz with hz; subst hz; cases j with
   | zero => injection hv with hv; subst hv; exact h1
   | succ j => cases hv
 ·simp only [List.mem_cons, List.not_mem_nil, or_false] at hz
  rcases hz with rfl | rfl <;> assumption
def lossCmp (a b : Loss) : Int := orF [Lib.compareInt a.at_ b.at_, cmpS a.worker b.worker]
theorem lossCmp_eq (a b : Loss) : lossCmp a b = if a.at_ = b.at_ then cmpS a.worker b.worker else if a.at_ < b.at_ then -1 else 1 := by
 unfold lossCmp
 simp only [orF]
 by_cases h : a.at_ = b.at_
 ·have h0 : Lib.compareInt a.at_ b.at_ = 0 := by
   unfold Lib.compareInt
   rw [if_neg (by omega), if_neg (by omega)]
  rw [if_pos h0, if_pos h]
  split
  ·rename_i h3; exact h3.symm
  ·rfl
 ·rw [if_neg h]
  by_cases h2 : a.at_ < b.at_
  ·have h0 : Lib.compareInt a.at_ b.at_ = -1 := by
    unfold Lib.compareInt
    rw [if_pos h2]
   rw [h0, if_pos h2]; rfl
  ·have h0 : Lib.compareInt a.at_ b.at_ = 1 := by
    unfold Lib.compareInt
    rw [if_neg h2, if_pos (by omega)]
   rw [h0, if_neg h2]; rfl
theorem lossCmp_le (a b : Loss) : decide (lossCmp a b ≤ 0) = lossLe a b := by
 rw [lossCmp_eq]
 unfold lossLe
 by_cases h : a.at_ = b.at_
 ·rw [if_pos h, sle_cmp]
  have h1 : decide (a.at_ < b.at_) = false := decide_eq_false (by omega)
  rw [h1, decide_eq_true h, Bool.false_or, Bool.true_and]
 ·rw [if_neg h, decide_eq_false h, Bool.false_and, Bool.or_false]
  by_cases h2 : a.at_ < b.at_
  ·rw [if_pos h2, decide_eq_true h2]; rfl
  ·rw [if_neg h2, decide_eq_false h2]; rfl
end Go.Proofs.YtbnkoefljcekbaaGreatDoor.C9

namespace Go.Proofs.YtbnkoefljcekbaaGreatDoor.C9
open Go.ChangeShapes Go.WideShapes Go.Deep Go.RowKit
set_option linter.unusedVariables false
set_option linter.unusedSimpArgs false

def LosRel (ws : List Worker) (l : List Loss) (d : Int) (w0 : World) (i : Value) (wr : World) : Prop :=
 ∃ k : Nat, k ≤ l.length ∧ i = .int .i64 k ∧ lossErr ws (prevLo l k) (l.drop k) = d ∧ Below w0.heap.size w0 wr
def CfAns (c : Int) (w : World) (e : Ending) (w' : World) : Prop := e = .returned (.int .i64 c) ∧ Below w.heap.size w w'
abbrev farmV (x : Farm) : Value := .agg #[.slice x.workers.A x.workers.n x.workers.cap, .slice x.works.A x.works.n x.works.cap, .slice x.lost.A x.lost.n x.lost.cap, .int .i64 x.tries, .bool x.doubles]
set_option maxRecDepth 100000 in
set_option maxHeartbeats 8000000 in
theorem farm_any (x : Farm) (w : World) (hx : RFarm.ok w x) (c : Int) (hF : farmF x = c) :
  Calls Tryz.prog 12 #[farmV x] w (CfAns c w) := by
 obtain ⟨hx0, hx1, hx2, hx3, hx4⟩ := hx
 unfold farmV
 obtain ⟨Z, hZ⟩ : ∃ Z, CfAns c w = Z := ⟨_, rfl⟩
 have hZ' : ∀ W, Below w.heap.size w W → Z (.returned (.int .i64 c)) W := fun W h => by rw [← hZ]; exact ⟨rfl, h⟩
 rw [hZ]
 clear hZ
 unfold farmF at hF
 obtain ⟨⟨wA, wn, wc, wsl⟩, ⟨xA, xn, xc, xsl⟩, ⟨lA, ln, lc, lsl⟩, tr, db⟩ := x
 simp only at hx0 hx1 hx2 hx3 hx4 hF ⊢
 obtain ⟨W1, hW1⟩ : ∃ Y, w.alloc (.cells #[.slice wA wn wc, .slice xA xn xc, .slice lA ln lc, .int .i64 tr, .bool db] 26) = Y := ⟨_, rfl⟩
 obtain ⟨xb, hxb⟩ : ∃ b, w.heap.size = b := ⟨_, rfl⟩
 have hba : Below w.heap.size w W1 := by rw [← hW1]; exact (Below.refl _ _).alloc (Nat.le_refl _) _
 have c0 : W1.cell? ⟨xb, 0, none⟩ = some (.slice wA wn wc) := by rw [← hW1, ← hxb]; exact cell_new _ _ _ 0
 have c1 : W1.cell? ⟨xb, 1, none⟩ = some (.slice xA xn xc) := by rw [← hW1, ← hxb]; exact cell_new _ _ _ 1
 have c2 : W1.cell? ⟨xb, 2, none⟩ = some (.slice lA ln lc) := by rw [← hW1, ← hxb]; exact cell_new _ _ _ 2
 have c3 : W1.cell? ⟨xb, 3, none⟩ = some (.int .i64 tr) := by rw [← hW1, ← hxb]; exact cell_new _ _ _ 3
 have hw1 : SlAt RWorker W1 wA wn wsl := hx0.1.below hba
 have hw2 : SlAt RWork W1 xA xn xsl := hx1.1.below hba
 have hw3 : SlAt RLoss W1 lA ln lsl := hx2.1.below hba
 have hm2 : ln ≤ lc ∧ lc ≤ maxLen := ⟨hx2.2.1, hx2.2.2.1⟩
 have hC : ∀ W, Below W1.heap.size W1 W → W.cell? ⟨xb, 2, none⟩ = some (.slice lA ln lc) ∧ W.cell? ⟨xb, 0, none⟩ = some (.slice wA wn wc) ∧ W.cell? ⟨xb, 3, none⟩ = some (.int .i64 tr) := fun W h => ⟨keepC h c2, keepC h c0, keepC h c3⟩
 have hll : lsl.length = ln := hw3.1
 have hwl : wsl.length = wn := hw1.1
 obtain ⟨f1, hf1⟩ : ∃ f, workersF wsl = f := ⟨_, rfl⟩
 obtain ⟨f2, hf2⟩ : ∃ f, worksF xsl = f := ⟨_, rfl⟩
 rw [hf1, hf2] at hF
 have RZ : ∀ W, Below W1.heap.size W1 W → Z (.returned (.int .i64 c)) W := fun W h => hZ' W (hba.trans (h.mono hba.size))
 have hCH := Lib.hid hC
 clear hC
 have hZ'H := Lib.hid hZ'
 clear hZ'
 have hx0H := Lib.hid hx0
 clear hx0
 have hx1H := Lib.hid hx1
 clear hx1
 have hx2H := Lib.hid hx2
 clear hx2
 have hx3H := Lib.hid hx3
 clear hx3
 have hx4H := Lib.hid hx4
 clear hx4
 have hW1H := Lib.hid hW1
 clear hW1
 have hxbH := Lib.hid hxb
 clear hxb
 have hbaH := Lib.hid hba
 clear hba
 have hw1H := Lib.hid hw1
 clear hw1
 have hw2H := Lib.hid hw2
 clear hw2
 have hw3H := Lib.hid hw3
 clear hw3
 have hFH := Lib.hid hF
 clear hF
 have hf1H := Lib.hid hf1
 clear hf1
 have hf2H := Lib.hid hf2
 clear hf2
 have hllH := Lib.hid hll
 clear hll
 have hwlH := Lib.hid hwl
 clear hwl
 have RZH := Lib.hid RZ
 clear RZ
 go_enter Tryz.func12, Tryz.ntmps12
 go_wp2_with fail
 rw [hW1H.out, hxbH.out]
 refine (workers_any wA wn wc wsl _ hw1H.out f1 hf1H.out).mono ?_
 rintro e w1 ⟨rfl, hb1⟩
 have c0 := keepC hb1 c0
 have c1 := keepC hb1 c1
 have c2 := keepC hb1 c2
 have c3 := keepC hb1 c3
 have hF := hFH.out
 clear hFH
 by_cases h1 : f1 = 0
 ·subst h1
  rw [if_pos rfl] at hF
  have hb1H := Lib.hid hb1
  clear hb1
  have hFH := Lib.hid hF
  clear hF
  go_wp2_with fail
  refine (works_any xA xn xc xsl _ (hw2H.out.below hb1H.out) f2 hf2H.out).mono ?_
  rintro e w2 ⟨rfl, hb2⟩
  have c0 := keepC hb2 c0
  have c2 := keepC hb2 c2
  have c3 := keepC hb2 c3
  have hb2 := hb1H.out.trans (hb2.mono hb1H.out.size)
  have hF := hFH.out
  clear hFH
  by_cases h2 : f2 = 0
  ·subst h2
   rw [if_pos rfl, hllH.out] at hF
   by_cases h3 : ln ≤ 200
   ·rw [if_pos h3] at hF
    obtain ⟨d, hd⟩ : ∃ d, lossErr wsl none lsl = d := ⟨_, rfl⟩
    rw [hd] at hF
    have hst : LosRel wsl lsl d W1 (.int .i64 0) w2 := ⟨0, Nat.zero_le _, rfl, hd, hb2⟩
    have hrise : wsl.length ≤ 50 ∧ wsl.Pairwise fun a b => cmpS a.name b.name = -1 := by
     have h := hf1H.out
     unfold workersF at h
     by_cases h6 : wsl.length ≤ 50
     ·rw [if_pos h6] at h; exact ⟨h6, (workersErr_ok _ _ h).2.1⟩
     ·rw [if_neg h6] at h; exact absurd h (by decide)
    have he5 : (5 : Int) = d → c = 5 := fun e => by rw [← e, if_neg (by decide)] at hF; exact hF.symm
    have he1 : (1 : Int) = d → c = 1 := fun e => by rw [← e, if_neg (by decide)] at hF; exact hF.symm
    have he8 : (8 : Int) = d → c = 8 := fun e => by rw [← e, if_neg (by decide)] at hF; exact hF.symm
    have he0 : (0 : Int) = d → (if inR 1 10 tr = true then 0 else 1) = c := fun e => by rw [← e, if_pos rfl] at hF; exact hF
    clear hF
    have hb2H := Lib.hid hb2
    clear hb2
    have hstH := Lib.hid hst
    clear hst
    have hdH := Lib.hid hd
    clear hd
    have hriseH := Lib.hid hrise
    clear hrise
    have he5H := Lib.hid he5
    clear he5
    have he1H := Lib.hid he1
    clear he1
    have he8H := Lib.hid he8
    clear he8
    have he0H := Lib.hid he0
    clear he0
    go_wp2_with fail
    clear c0 c1 c2 c3
    go_loopw [28] (fun i w5 => LosRel wsl lsl d W1 i w5) (fun i _ => ln - (intOf i).toNat)
    case atStart => exact hstH.out
    case round =>
     clear hstH
     obtain ⟨k, hk, rfl, hck, hb⟩ := hrel
     have hkl : k ≤ ln := by have := hllH.out; omega
     have hbs := hb.size
     obtain ⟨c2, c0, c3⟩ := hCH.out wr hb
     by_cases hlt : k < ln
     ·have hsl := hw3H.out.below hb
      obtain ⟨bl, ol, hA9, _⟩ := hsl.2.1 (by omega)
      subst hA9
      obtain ⟨y, hy⟩ : ∃ y, lsl[k]? = some y := ⟨lsl[k]'(by have := hllH.out; omega), List.getElem?_eq_getElem _⟩
      obtain ⟨d0, d1⟩ := cells_Loss hsl hy
      have hok := hsl.2.2 y (List.mem_of_getElem? hy)
      rw [drop_lo hy, lossErr] at hck
      have hkl2 : k + 1 ≤ lsl.length := by have := hllH.out; omega
      have hpn : prevLo lsl (k + 1) = some y := by rw [prevLo, if_neg (by omega), show k + 1 - 1 = k from rfl, hy]
      obtain ⟨nm, mt⟩ := y
      simp only at d0 d1 hck
      have hba := hb.alloc hbs (.cells #[.string nm, .int .i64 mt] 71)
      have hbas := hba.size
      have c0a := keepC ((Below.refl wr.heap.size wr).alloc (Nat.le_refl _) (.cells #[.string nm, .int .i64 mt] 71)) c0
      have hwk := (hw1H.out.below hba)
      have n5 : hasNm wsl nm = false → c = 5 := fun h => he5H.out (by rw [h] at hck; rw [if_neg (by decide)] at hck; exact hck)
      obtain ⟨hn, hhn⟩ : ∃ b, hasNm wsl nm = b := ⟨_, rfl⟩
      rw [hhn] at n5
      have hyH := Lib.hid hy
      clear hy
      have hckH := Lib.hid hck
      clear hck
      have hbH := Lib.hid hb
      clear hb
      have hbaH := Lib.hid hba
      clear hba
      have hbasH := Lib.hid hbas
      clear hbas
      have hokH := Lib.hid hok
      clear hok
      have hpnH := Lib.hid hpn
      clear hpn
      have hkl2H := Lib.hid hkl2
      clear hkl2
      have hwkH := Lib.hid hwk
      clear hwk
      have hslH := Lib.hid hsl
      clear hsl
      have n5H := Lib.hid n5
      clear n5
      have hhnH := Lib.hid hhn
      clear hhn
      go_wp2_with fail
      refine (workerAt_any wA wn wc wsl nm _ (by have := hriseH.out.1; have := hwlH.out; omega) hwkH.out hriseH.out.2).mono ?_
      rintro e w4 ⟨i, rfl, _, hw4⟩
      rw [hhnH.out]
      have q0 : w4.cell? ⟨wr.heap.size, 0, none⟩ = some (.string nm) := (hw4.cell (by simp)).trans (cell_new _ _ _ 0)
      have q1 : w4.cell? ⟨wr.heap.size, 1, none⟩ = some (.int .i64 mt) := (hw4.cell (by simp)).trans (cell_new _ _ _ 1)
      have hb4 := hbaH.out.trans (hw4.mono hbasH.out)
      clear c0 c0a c2 c3 d0 d1
      have c2 := (hCH.out w4 hb4).1
      cases hn
      ·obtain rfl := n5H.out rfl
       have R := RZH.out _ hb4
       have RH := Lib.hid R
       clear R
       have hb4H := Lib.hid hb4
       clear hb4
       have hw4H := Lib.hid hw4
       clear hw4
       go_wp2
       exact RH.out
      ·have hck := hckH.out
       clear hckH
       rw [if_pos hhnH.out] at hck
       by_cases i1 : inR 0 1000000000 mt = true
       ·rw [if_pos i1] at hck
        by_cases hk0 : k = 0
        ·subst hk0
         have R : ∀ nq, LosRel wsl lsl d W1 (.int .i64 1) (w4.drewN nq) := by
          refine fun nq => ⟨1, hkl2H.out, by go_num, ?_, bel_drewN hb4 nq⟩
          rw [prevLo, if_pos rfl, Option.map_none, if_neg (by decide)] at hck
          rw [show prevLo lsl 1 = _ from hpnH.out]
          exact hck
         have RH := Lib.hid R
         clear R
         have hckH := Lib.hid hck
         clear hck
         have hb4H := Lib.hid hb4
         clear hb4
         have hw4H := Lib.hid hw4
         clear hw4
         go_wp2_with (go_at_call 39; refine (moment_p _ _).mono ?_; rintro e wz ⟨rfl, rfl⟩)
         go_quiet (fail)
         go_wp2
         refine ⟨?rel, ?measure⟩
         case measure => (simp [intOf]; omega)
         case rel => first | exact (RH.out _) | exact ⟨rfl, (RH.out _)⟩ | ((try refine ⟨rfl, ?_⟩); (repeat apply Exists.intro); refine ⟨(RH.out _), ?_⟩; ((repeat' apply And.intro) <;> rfl))
        ·obtain ⟨j, rfl⟩ : ∃ j, k = j + 1 := ⟨k - 1, by omega⟩
         obtain ⟨y, hy⟩ : ∃ y, lsl[j]? = some y := ⟨lsl[j]'(by have := hllH.out; omega), List.getElem?_eq_getElem _⟩
         obtain ⟨d0, d1⟩ := cells_Loss (hw3H.out.below hb4) hy
         have hpr : prevLo lsl (j + 1) = some y := by rw [prevLo, if_neg (by omega), show j + 1 - 1 = j from rfl, hy]
         rw [hpr, Option.map_some] at hck
         clear hpr
         obtain ⟨ynm, ymt⟩ := y
         simp only at d0 d1
         have f0 : (0 : Int) ≤ (j : Int) := by omega
         have f1 : (j : Int) < (ln : Int) := by omega
         have hln2 : ln ≤ 200 := h3
         have f2 : IntKind.i64.wrap ((j : Int) + 1 - 1) = (j : Int) := by rw [show (j : Int) + 1 - 1 = (j : Int) by omega]; exact IntWalk.i64_in _ (by omega)
         have f3 : (j : Int).toNat = j := by omega
         have f4 : IntKind.i64.wrap (j : Int) = (j : Int) := IntWalk.i64_in _ (by omega)
         have f5 : IntKind.i64.wrap (((j + 1 : Nat) : Int) - 1) = (j : Int) := by rw [show ((j + 1 : Nat) : Int) - 1 = (j : Int) by omega]; exact f4
         obtain ⟨cc, hcc⟩ : ∃ cc, lossCmp ⟨nm, mt⟩ ⟨ynm, ymt⟩ = cc := ⟨_, rfl⟩
         have hle := lossCmp_le ⟨nm, mt⟩ ⟨ynm, ymt⟩
         rw [hcc] at hle
         rw [← hle] at hck
         unfold lossCmp at hcc
         clear hle
         cases hcd : decide (cc ≤ 0)
         ·rw [hcd, if_neg (by decide)] at hck
          have R : ∀ wx, Below W1.heap.size W1 wx → LosRel wsl lsl d W1 (.int .i64 (j + 1 + 1)) wx := by
           refine fun wx hbx => ⟨j + 1 + 1, hkl2H.out, by go_num, ?_, hbx⟩
           rw [hpnH.out]
           exact hck
          have hckH := Lib.hid hck
          clear hck
          have hccH := Lib.hid hcc
          clear hcc
          have hb4H := Lib.hid hb4
          clear hb4
          have hw4H := Lib.hid hw4
          clear hw4
          have RH := Lib.hid R
          clear R
          have hyH := Lib.hid hy
          clear hy
          go_wp2_with (go_at_call 39; refine (moment_p _ _).mono ?_; rintro e wz ⟨rfl, rfl⟩)
          go_region_held3 (fun w' => w'.cell? ⟨wr.heap.size, 0, none⟩ = some (.string nm) ∧ w'.cell? ⟨wr.heap.size, 1, none⟩ = some (.int .i64 mt) ∧ w'.cell? ⟨xb, 2, none⟩ = some (.slice (some ⟨bl, ol, none⟩) ln lc) ∧ w'.cell? ⟨bl, ol + j * 2, none⟩ = some (.string ynm) ∧ w'.cell? ⟨bl, ol + j * 2 + 1, none⟩ = some (.int .i64 ymt)) (go_keep)
           (first
            | (go_at_call 41; refine (Tryz.cmp_Compare_int _ _ _).mono ?_; rintro e w1 ⟨rfl, rfl⟩)
            | (go_at_call 42; refine (Tryz.strings_Compare _ _ _).mono ?_; rintro e w1 ⟨rfl, rfl⟩)
            | (go_at_call 40; refine (or_any _ 2 _ [Lib.compareInt mt ymt, cmpS nm ynm] _ (by omega) (or_cells2 rfl ?_ ?_ (I64_of (cmpI_range _ _)) (I64_of (cmpS_range _ _))) cc (by exact hccH.out)).mono ?_; (simp [go_sem]); (simp [go_sem]; rfl); rintro e w1 ⟨rfl, rfl⟩))
          go_wp2
          refine ⟨?rel, ?measure⟩
          case measure => (simp [intOf]; omega)
          case rel => first | exact (RH.out _ (by first | exact bel_drewN (Below.alloc hb4H.out (by have := hb4H.out.size; omega) _) _ | exact (Below.alloc hb4H.out (by have := hb4H.out.size; omega) _).drew)) | exact ⟨rfl, (RH.out _ (by first | exact bel_drewN (Below.alloc hb4H.out (by have := hb4H.out.size; omega) _) _ | exact (Below.alloc hb4H.out (by have := hb4H.out.size; omega) _).drew))⟩ | ((try refine ⟨rfl, ?_⟩); (repeat apply Exists.intro); refine ⟨(RH.out _ (by first | exact bel_drewN (Below.alloc hb4H.out (by have := hb4H.out.size; omega) _) _ | exact (Below.alloc hb4H.out (by have := hb4H.out.size; omega) _).drew)), ?_⟩; ((repeat' apply And.intro) <;> rfl))
         ·rw [hcd, if_pos rfl] at hck
          obtain rfl := he8H.out hck
          have R : ∀ W, Below W1.heap.size W1 W → _ := RZH.out
          have hckH := Lib.hid hck
          clear hck
          have hccH := Lib.hid hcc
          clear hcc
          have hb4H := Lib.hid hb4
          clear hb4
          have hw4H := Lib.hid hw4
          clear hw4
          have RH := Lib.hid R
          clear R
          have hyH := Lib.hid hy
          clear hy
          go_wp2_with (go_at_call 39; refine (moment_p _ _).mono ?_; rintro e wz ⟨rfl, rfl⟩)
          go_region_held3 (fun w' => w'.cell? ⟨wr.heap.size, 0, none⟩ = some (.string nm) ∧ w'.cell? ⟨wr.heap.size, 1, none⟩ = some (.int .i64 mt) ∧ w'.cell? ⟨xb, 2, none⟩ = some (.slice (some ⟨bl, ol, none⟩) ln lc) ∧ w'.cell? ⟨bl, ol + j * 2, none⟩ = some (.string ynm) ∧ w'.cell? ⟨bl, ol + j * 2 + 1, none⟩ = some (.int .i64 ymt)) (go_keep)
           (first
            | (go_at_call 41; refine (Tryz.cmp_Compare_int _ _ _).mono ?_; rintro e w1 ⟨rfl, rfl⟩)
            | (go_at_call 42; refine (Tryz.strings_Compare _ _ _).mono ?_; rintro e w1 ⟨rfl, rfl⟩)
            | (go_at_call 40; refine (or_any _ 2 _ [Lib.compareInt mt ymt, cmpS nm ynm] _ (by omega) (or_cells2 rfl ?_ ?_ (I64_of (cmpI_range _ _)) (I64_of (cmpS_range _ _))) cc (by exact hccH.out)).mono ?_; (simp [go_sem]); (simp [go_sem]; rfl); rintro e w1 ⟨rfl, rfl⟩))
          go_wp2
          exact RH.out _ (by first | exact bel_drewN (Below.alloc hb4H.out (by have := hb4H.out.size; omega) _) _ | exact (Below.alloc hb4H.out (by have := hb4H.out.size; omega) _).drew)
       ·rw [if_neg i1] at hck
        obtain rfl := he1H.out hck
        have R := RZH.out _ hb4
        have i1' : inR 0 1000000000 mt = false := by simpa using i1
        clear i1
        have RH := Lib.hid R
        clear R
        have hb4H := Lib.hid hb4
        clear hb4
        have hw4H := Lib.hid hw4
        clear hw4
        have hckH := Lib.hid hck
        clear hck
        go_wp2_with (go_at_call 39; refine (moment_p _ _).mono ?_; rintro e wz ⟨rfl, rfl⟩)
        exact RH.out
     ·obtain rfl : k = ln := by omega
      have e : lsl.drop k = [] := List.drop_eq_nil_of_le (by have := hllH.out; omega)
      rw [e, lossErr] at hck
      have hF := he0H.out hck
      clear e hck
      by_cases i1 : inR 1 10 tr = true
      ·rw [if_pos i1] at hF
       subst hF
       have R := RZH.out _ hb
       have RH := Lib.hid R
       clear R
       have hbH := Lib.hid hb
       clear hb
       go_wp2_with (go_at_call 43; refine (within_p _ _ _ _).mono ?_; rintro e wz ⟨rfl, rfl⟩)
       exact RH.out
      ·rw [if_neg i1] at hF
       subst hF
       have i1' : inR 1 10 tr = false := by simpa using i1
       clear i1
       have R := RZH.out _ hb
       have RH := Lib.hid R
       clear R
       have hbH := Lib.hid hb
       clear hb
       go_wp2_with (go_at_call 43; refine (within_p _ _ _ _).mono ?_; rintro e wz ⟨rfl, rfl⟩)
       exact RH.out
   ·rw [if_neg h3] at hF
    subst hF
    have R := RZH.out _ hb2
    have RH := Lib.hid R
    clear R
    have hb2H := Lib.hid hb2
    clear hb2
    go_wp2
    exact RH.out
  ·rw [if_neg h2] at hF
   subst hF
   have R := RZH.out _ hb2
   have h2' : (f2 != 0) = true := by simpa using h2
   clear h2
   have RH := Lib.hid R
   clear R
   have hb2H := Lib.hid hb2
   clear hb2
   go_wp2
   exact RH.out
 ·rw [if_neg h1] at hF
  subst hF
  have R := RZH.out _ hb1
  have h1' : (f1 != 0) = true := by simpa using h1
  clear h1
  have RH := Lib.hid R
  clear R
  have hb1H := Lib.hid hb1
  clear hb1
  go_wp2
  exact RH.out
end Go.Proofs.YtbnkoefljcekbaaGreatDoor.C9

namespace Go.Proofs.YtbnkoefljcekbaaGreatDoor.C9
open Go.ChangeShapes Go.WideShapes Go.Deep Go.RowKit Go.Maps
set_option linter.unusedVariables false

theorem loRow : (71 : TypeId) < Tryz.prog.types.size := of_decide_eq_true (by kernel_rfl)
theorem loCells : Tryz.prog.cellsOf 71 = 2 := by kernel_rfl
theorem loStr : Tryz.prog.cellsOf 9 = 1 := by kernel_rfl
theorem loInt : Tryz.prog.cellsOf 3 = 1 := by kernel_rfl
theorem loWide : (match Tryz.prog.underlying 71 with | some (.array _ _) | some (.struct _) => true | _ => false) = true := by rw [Tryz.underlying71]
theorem loLaid : laidOutB Tryz.prog = true := by kernel_rfl
theorem loAt : Tryz.prog.keyTypeAt 2 71 = true := by kernel_rfl
theorem loPos : 0 < Tryz.prog.types.size := Nat.lt_of_le_of_lt (Nat.zero_le _) loRow
set_option maxRecDepth 100000 in
theorem loLaw : WideMaps.KeyLaw Tryz.prog 71 := deep_law_laid loLaid (m := 2) (Nat.le_of_ble_eq_true rfl) loRow loAt loWide
theorem loKeyed : Keyed Tryz.prog 71 := Keyed.of_law loLaw
theorem loKeyType : Tryz.prog.keyType 71 = true := by kernel_rfl

def loB (x : Loss) : Lit := .string (keyBytes [.string x.worker.data.toList, .int .i64 x.at_])
def loG (x : Loss) : Prop := x.worker.size ≤ maxLen ∧ (Lit.int .i64 x.at_).wf = true
def loV (x : Loss) : Value := .agg #[.string x.worker, .int .i64 x.at_]
set_option maxRecDepth 100000 in
theorem lo_of (x : Loss) (h : loG x) : keyOf Tryz.prog 71 (loV x) = some (loB x) := by
 obtain ⟨a, b⟩ := x
 obtain ⟨ha, hb⟩ := h
 simp only at ha hb
 unfold loV loB
 simp only
 have hf : (Value.agg #[.string a, .int .i64 b]).formed Tryz.prog 71 = true := by simp [Value.formed, Tryz.underlying71, loCells]
 have hr := loPos
 unfold keyOf
 rw [Tryz.underlying71]
 simp only [loKeyType, hf, Bool.and_self, if_true]
 obtain ⟨n, hn⟩ : ∃ n, Tryz.prog.types.size = n + 1 := ⟨Tryz.prog.types.size - 1, by omega⟩
 rw [hn]
 simp [Program.keyLits, Tryz.underlying71, Tryz.underlying9, Tryz.underlying3, loCells, loStr, loInt, Value.cells, ha, hb]
set_option maxRecDepth 100000 in
theorem lo_inv (v : Value) (l : Lit) (h : keyOf Tryz.prog 71 v = some l) : ∃ x : Loss, loG x ∧ v = loV x ∧ l = loB x := by
 have hr := loPos
 have h0 := h
 unfold keyOf at h
 rw [Tryz.underlying71] at h
 simp only [loKeyType, Bool.true_and] at h
 by_cases hf : v.formed Tryz.prog 71 = true
 ·rw [if_pos hf] at h
  cases v with
  | agg cs =>
   obtain ⟨n, hn⟩ : ∃ n, Tryz.prog.types.size = n + 1 := ⟨Tryz.prog.types.size - 1, by omega⟩
   have hs : cs.size = 2 := by simpa [Value.formed, Tryz.underlying71, loCells] using hf
   obtain ⟨c0, c1, rfl⟩ : ∃ c0 c1, cs = #[c0, c1] := by
    match cs, hs with
    | ⟨[c0, c1]⟩, _ => exact ⟨c0, c1, rfl⟩
   rw [hn] at h
   have hstr : ∀ (N : Nat) (c : Value) ls, Tryz.prog.keyLits N 9 [c] = some ls → ∃ a : ByteArray, c = .string a ∧ a.size ≤ maxLen := by
    intro N c ls hls
    cases N with
    | zero => cases hls
    | succ N =>
     unfold Program.keyLits at hls
     rw [Tryz.underlying9] at hls
     cases c with
     | string a =>
      simp only at hls
      split at hls
      ·exact ⟨a, rfl, by assumption⟩
      ·cases hls
     | _ => cases hls
   have hint : ∀ (N : Nat) (c : Value) ls, Tryz.prog.keyLits N 3 [c] = some ls → ∃ b : Int, c = .int .i64 b ∧ (Lit.int .i64 b).wf = true := by
    intro N c ls hls
    cases N with
    | zero => cases hls
    | succ N =>
     unfold Program.keyLits at hls
     rw [Tryz.underlying3] at hls
     cases c with
     | int q b =>
      simp only at hls
      split at hls
      ·rename_i hq
       obtain ⟨rfl, hw⟩ := hq
       exact ⟨b, rfl, hw⟩
      ·cases hls
     | _ => cases hls
   have hk : ∃ N l0 l1, Tryz.prog.keyLits N 9 [c0] = some l0 ∧ Tryz.prog.keyLits N 3 [c1] = some l1 := by
    unfold Program.keyLits at h
    simp only [Tryz.underlying71] at h
    simp [loStr, loInt, loCells, Value.cells] at h
    cases e0 : Tryz.prog.keyLits (n + 1) 9 [c0] with
    | none => rw [e0] at h; simp at h
    | some l0 =>
     cases e1 : Tryz.prog.keyLits (n + 1) 3 [c1] with
     | none => rw [e0, e1] at h; simp at h
     | some l1 => exact ⟨_, l0, l1, e0, e1⟩
   obtain ⟨N, l0, l1, e0, e1⟩ := hk
   obtain ⟨a, rfl, ha⟩ := hstr N c0 _ e0
   obtain ⟨b, rfl, hb⟩ := hint N c1 _ e1
   refine ⟨⟨a, b⟩, ⟨ha, hb⟩, rfl, ?_⟩
   have h1 := lo_of ⟨a, b⟩ ⟨ha, hb⟩
   unfold loV at h1
   simp only at h1
   rw [h1] at h0
   injection h0 with h0
   exact h0.symm
  | _ => simp [Value.formed, Tryz.underlying71] at hf
 ·rw [if_neg hf] at h
  cases h
/-- the keys that are losses -/
noncomputable def KLo : KD Tryz.prog 71 Loss :=
 ⟨loV, loB, loG, loKeyed, lo_of, lo_inv, fun x y hx hy he => by
   have h1 := lo_of x hx
   have h2 := lo_of y hy
   rw [← he] at h2
   have := loKeyed.inj h1 h2
   obtain ⟨a, b⟩ := x
   obtain ⟨c, d⟩ := y
   simp only [loV, Value.agg.injEq, Array.mk.injEq, List.cons.injEq, Value.string.injEq, Value.int.injEq, and_true, true_and] at this
   obtain ⟨rfl, rfl⟩ := this
   rfl⟩
end Go.Proofs.YtbnkoefljcekbaaGreatDoor.C9

namespace Go.Proofs.YtbnkoefljcekbaaGreatDoor.C9
open Go.ChangeShapes Go.WideShapes Go.Deep Go.RowKit Go.Maps
set_option linter.unusedVariables false
set_option linter.unusedSimpArgs false

/-- what the pool of open's making knows -/
structure PJ (x : Farm) (xb N : Nat) (w0 : World) (o : Nat → Option Nat) (t : List Int) (w : World) : Prop where
 bel : Below w0.heap.size w0 w
 xlt : xb < w.heap.size
 ge : ∀ k b, o k = some b → xb < b ∧ b < w.heap.size
 inj : ∀ i j b, o i = some b → o j = some b → i = j
 k3 : ∀ b, o 3 = some b → Sms w b N t ∧ Crit (gOf x.works.l) (szOf x.works.l) N (gt t)
 k4 : ∀ b, o 4 = some b → TMap KLo (fun b : Bool => Value.bool b) w b (fun _ => none) 0
 k6 : ∀ b, o 6 = some b → BRow w b N (fun _ => false)
 k8 : ∀ b, o 8 = some b → IRow w b N (fun _ => 0)
 k10 : ∀ b, o 10 = some b → IRow w b N (fun _ => 0)
 k12 : ∀ b, o 12 = some b → IRow w b N (fun _ => 0)
theorem PJ.keep {x : Farm} {xb N : Nat} {w0 : World} {o : Nat → Option Nat} {t : List Int} {w w' : World} (h : PJ x xb N w0 o t w) (hb : Below w.heap.size w w') : PJ x xb N w0 o t w' := by
 have hk : ∀ k b, o k = some b → w'.heap[b]? = w.heap[b]? := fun k b hk => hb.block b (h.ge k b hk).2
 exact ⟨h.bel.trans (hb.mono h.bel.size), Nat.lt_of_lt_of_le h.xlt hb.size, fun k b e => ⟨(h.ge k b e).1, Nat.lt_of_lt_of_le (h.ge k b e).2 hb.size⟩, h.inj, fun b e => ⟨(h.k3 b e).1.keep (hk _ _ e), (h.k3 b e).2⟩, fun b e => (h.k4 b e).below hb (h.ge _ _ e).2,
  fun b e => brow_kp (h.k6 b e) (hk _ _ e), fun b e => (h.k8 b e).keep (hk _ _ e), fun b e => (h.k10 b e).keep (hk _ _ e), fun b e => (h.k12 b e).keep (hk _ _ e)⟩
/-- one more is made -/
theorem PJ.more {x : Farm} {xb N : Nat} {w0 : World} {o : Nat → Option Nat} {t t' : List Int} {w w' : World} (h : PJ x xb N w0 o t w) (hb : Below w.heap.size w w') {k b : Nat} (hk : o k = none) (h1 : w.heap.size ≤ b) (h2 : b < w'.heap.size)
  (ht : k ≠ 3 → t' = t) (h3 : k = 3 → Sms w' b N t' ∧ Crit (gOf x.works.l) (szOf x.works.l) N (gt t')) (h4 : k = 4 → TMap KLo (fun b : Bool => Value.bool b) w' b (fun _ => none) 0) (h6 : k = 6 → BRow w' b N (fun _ => false)) (h8 : k = 8 ∨ k = 10 ∨ k = 12 → IRow w' b N (fun _ => 0)) :
  PJ x xb N w0 (upo o k b) t' w' := by
 have h' := h.keep hb
 have hx := h.xlt
 have ho : ∀ j c, upo o k b j = some c → (j = k ∧ c = b) ∨ (j ≠ k ∧ o j = some c) := fun j c e => by
  unfold upo at e
  by_cases hj : j = k
  ·rw [if_pos hj] at e; injection e with e; exact .inl ⟨hj, e.symm⟩
  ·rw [if_neg hj] at e; exact .inr ⟨hj, e⟩
 refine ⟨h'.bel, h'.xlt, fun j c e => ?_, fun i j c ei ej => ?_, fun c e => ?_, fun c e => ?_, fun c e => ?_, fun c e => ?_, fun c e => ?_, fun c e => ?_⟩
 ·rcases ho j c e with ⟨rfl, rfl⟩ | ⟨_, e⟩
  ·exact ⟨by omega, h2⟩
  ·exact h'.ge j c e
 ·rcases ho i c ei with ⟨u1, u2⟩ | ⟨_, ei2⟩
  ·rcases ho j c ej with ⟨u3, u4⟩ | ⟨_, ej2⟩
   ·rw [u1, u3]
   ·have := (h.ge j _ ej2).2; omega
  ·rcases ho j c ej with ⟨u3, u4⟩ | ⟨_, ej2⟩
   ·have := (h.ge i _ ei2).2; omega
   ·exact h.inj i j c ei2 ej2
 ·rcases ho _ c e with ⟨e3, rfl⟩ | ⟨hne, e⟩
  ·exact h3 e3.symm
  ·rw [ht (Ne.symm hne)]; exact h'.k3 c e
 ·rcases ho _ c e with ⟨e3, rfl⟩ | ⟨hne, e⟩
  ·exact h4 e3.symm
  ·exact h'.k4 c e
 ·rcases ho _ c e with ⟨e3, rfl⟩ | ⟨hne, e⟩
  ·exact h6 e3.symm
  ·exact h'.k6 c e
 ·rcases ho _ c e with ⟨e3, rfl⟩ | ⟨hne, e⟩
  ·exact h8 (.inl e3.symm)
  ·exact h'.k8 c e
 ·rcases ho _ c e with ⟨e3, rfl⟩ | ⟨hne, e⟩
  ·exact h8 (.inr (.inl e3.symm))
  ·exact h'.k10 c e
 ·rcases ho _ c e with ⟨e3, rfl⟩ | ⟨hne, e⟩
  ·exact h8 (.inr (.inr e3.symm))
  ·exact h'.k12 c e
theorem irow_made (w : World) (n : Nat) : IRow (w.alloc (.cells (madeI n) 3)) w.heap.size n (fun _ => 0) := fun j hj => by
 have : (w.alloc (.cells (madeI n) 3)).cell? ⟨w.heap.size, j, none⟩ = (madeI n)[j]? := by simp [go_sem]
 rw [this]
 exact ⟨madeI_get n j hj, by simp [go_sem]⟩
theorem blk_new (w : World) (vs : List Value) (T : TypeId) : Blk (w.alloc (.cells vs.toArray T)) w.heap.size vs := fun j v hj => by
 have : (w.alloc (.cells vs.toArray T)).cell? ⟨w.heap.size, j, none⟩ = vs.toArray[j]? := by simp [go_sem]
 rw [this]
 exact ⟨by simpa using hj, by simp [go_sem]⟩
end Go.Proofs.YtbnkoefljcekbaaGreatDoor.C9
