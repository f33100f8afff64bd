/-
 Several texts of mine as one, without what is not wanted here: XPl, XPlS, XPlN.
-/
import Init
namespace Go.Proofs.YtbnkoefljcekbaaGreatDoor
set_option linter.unusedVariables false

/-- a run of a work by a worker; end_ 0: it goes on -/
structure RR where
 work : Nat
 worker : Nat
 from_ : Int
 to_ : Int
 end_ : Int
deriving DecidableEq

/-- what is asked of a farm -/
structure FP where
 nW : Nat
 nX : Nat
 fit : Nat → Nat → Bool
 wfrom : Nat → Int
 wto : Nat → Int
 slots : Nat → Int
 speed : Nat → Int
 endAt : Nat → Nat → Int → Option Int
 secs : Nat → Nat → Int
 loss : Nat → Int → Bool
 lossAt : List Int
 tries : Int
 doubles : Bool
 order : List Nat
 after : Nat → List Nat

/-- the reference's state -/
structure QS where
 at_ : Int
 runs : List RR
 done : Nat → Bool
 lost : Nat → Int
/-- the program's state -/
structure PS where
 now : Int
 runs : List RR
 out : List RR
 done : Nat → Bool
 lost : Nat → Int
 last : Nat → Int
 begun : Nat → Int

def going (r : RR) : Bool := r.end_ == 0
def cand (F : FP) (t : Int) (r : RR) : Bool := going r && F.endAt r.worker r.work r.from_ == some t
def hasDone (F : FP) (t : Int) (R : List RR) (k : Nat) : Bool := R.any fun r => r.work == k && cand F t r
def isBest (F : FP) (t : Int) (R : List RR) (r : RR) : Bool := cand F t r && R.all fun r' => !(r'.work == r.work && cand F t r') || decide (r.worker ≤ r'.worker)
def finRun (F : FP) (t : Int) (R : List RR) (r : RR) : RR := if (going r && hasDone F t R r.work) = true then { r with to_ := t, end_ := if isBest F t R r = true then 1 else 3 } else r
def finQ (F : FP) (q : QS) : QS := { q with runs := q.runs.map (finRun F q.at_ q.runs), done := fun k => q.done k || hasDone F q.at_ q.runs k }
def goes (F : FP) (k : Nat) (t : Int) : Bool := F.wto k == t || F.loss k t
def loseRun (F : FP) (t : Int) (r : RR) : RR := if (going r && goes F r.worker t) = true then { r with to_ := t, end_ := 2 } else r
def lostNow (F : FP) (t : Int) (R : List RR) (k : Nat) : Nat := R.countP fun r => r.work == k && (going r && goes F r.worker t)
def loseQ (F : FP) (q : QS) : QS := { q with runs := q.runs.map (loseRun F q.at_), lost := fun k => q.lost k + (lostNow F q.at_ q.runs k : Nat) }
def busy (R : List RR) (k : Nat) : Nat := R.countP fun r => going r && r.worker == k
def canW (F : FP) (t : Int) (R : List RR) (i : Nat) (but : Option Nat) (k : Nat) : Bool :=
 !(some k == but) && (decide (F.wfrom k ≤ t) && (decide (t < F.wto k) && (decide ((busy R k : Int) < F.slots k) && F.fit k i)))
/-- the first of the fastest for which something holds -/
def bestW (ok : Nat → Bool) (sp : Nat → Int) : Nat → Option Nat
 | 0 => none
 | k + 1 => if ok k = true then (match bestW ok sp k with
   | none => some k
   | some b => if sp b < sp k then some k else some b) else bestW ok sp k
def beginR (F : FP) (t : Int) (i : Nat) (but : Option Nat) (R : List RR) : List RR := match bestW (canW F t R i but) F.speed F.nW with
 | none => R
 | some k => R ++ [⟨i, k, t, 0, 0⟩]
def readyB (F : FP) (done : Nat → Bool) (i : Nat) : Bool := (F.after i).all done
def runsAny (R : List RR) (i : Nat) : Bool := R.any fun r => going r && r.work == i
def canS (F : FP) (done : Nat → Bool) (lost : Nat → Int) (R : List RR) (i : Nat) : Bool := !done i && (decide (lost i < F.tries) && (!runsAny R i && readyB F done i))
def strtR (F : FP) (q : QS) (R : List RR) (i : Nat) : List RR := if canS F q.done q.lost R i = true then beginR F q.at_ i none R else R
def startQ (F : FP) (q : QS) : QS := { q with runs := F.order.foldl (strtR F q) q.runs }
def goingOf (R : List RR) (i : Nat) : List RR := R.filter fun r => going r && r.work == i
def late (F : FP) (r : RR) : Int := r.from_ + 2 * F.secs r.worker r.work
def dblR (F : FP) (t : Int) (lost : Nat → Int) (R : List RR) (i : Nat) : List RR := match goingOf R i with
 | [r] => if (decide (late F r ≤ t) && decide (lost i < F.tries)) = true then beginR F t i (some r.worker) R else R
 | _ => R
def dblQ (F : FP) (q : QS) : QS := if F.doubles = true then { q with runs := (List.range F.nX).foldl (dblR F q.at_ q.lost) q.runs } else q
def stepQ (F : FP) (q : QS) : QS := dblQ F (startQ F (loseQ F (finQ F q)))
/-- the least of those that are greater -/
def above (t : Int) : List Int → Option Int
 | [] => none
 | x :: l => match above t l with
  | none => if t < x then some x else none
  | some m => if t < x ∧ x < m then some x else some m
def candsQ (F : FP) (R : List RR) : List Int :=
 ((List.range F.nW).flatMap fun k => [F.wfrom k, F.wto k]) ++ F.lossAt ++ ((R.filter going).flatMap fun r => (F.endAt r.worker r.work r.from_).toList ++ [late F r])
def nextQ (F : FP) (q : QS) : Option Int := above q.at_ (candsQ F q.runs)
inductive QTrace (F : FP) : QS → QS → Prop
 | last (q : QS) : nextQ F (stepQ F q) = none → QTrace F q (stepQ F q)
 | more (q : QS) (n : Int) (q' : QS) : nextQ F (stepQ F q) = some n → QTrace F { stepQ F q with at_ := n } q' → QTrace F q q'

/-! the program -/
def finP (F : FP) (p : PS) : PS :=
 { p with runs := p.runs.filter (fun r => !hasDone F p.now p.runs r.work), out := p.out ++ (p.runs.filter fun r => hasDone F p.now p.runs r.work).map (finRun F p.now p.runs), done := fun k => p.done k || hasDone F p.now p.runs k, last := fun k => if hasDone F p.now p.runs k = true then p.now else p.last k }
def loseP (F : FP) (p : PS) : PS :=
 { p with runs := p.runs.filter (fun r => !goes F r.worker p.now), out := p.out ++ (p.runs.filter fun r => goes F r.worker p.now).map (loseRun F p.now), lost := fun k => p.lost k + (lostNow F p.now p.runs k : Nat), last := fun k => if lostNow F p.now p.runs k = 0 then p.last k else p.now }
def beginP (F : FP) (t : Int) (i : Nat) (but : Option Nat) (x : List RR × (Nat → Int)) : List RR × (Nat → Int) := match bestW (canW F t x.1 i but) F.speed F.nW with
 | none => x
 | some k => (x.1 ++ [⟨i, k, t, 0, 0⟩], fun j => if j = i then x.2 j + 1 else x.2 j)
def startP (F : FP) (p : PS) : PS :=
 let x := (F.order.filter fun i => canS F p.done p.lost p.runs i).foldl (fun x i => beginP F p.now i none x) (p.runs, p.begun)
 { p with runs := x.1, begun := x.2 }
def dblX (F : FP) (t : Int) (lost : Nat → Int) (x : List RR × (Nat → Int)) (i : Nat) : List RR × (Nat → Int) := match goingOf x.1 i with
 | [r] => if (decide (late F r ≤ t) && decide (lost i < F.tries)) = true then beginP F t i (some r.worker) x else x
 | _ => x
def dblP (F : FP) (p : PS) : PS :=
 if F.doubles = true then { p with runs := ((List.range F.nX).foldl (dblX F p.now p.lost) (p.runs, p.begun)).1, begun := ((List.range F.nX).foldl (dblX F p.now p.lost) (p.runs, p.begun)).2 } else p
def PStep (F : FP) (p p' : PS) : Prop := ∃ rs : List RR, rs.Perm p.runs ∧ p' = dblP F (startP F (loseP F (finP F { p with runs := rs })))
def candsP (F : FP) (R : List RR) : List Int :=
 ((List.range F.nW).map F.wfrom) ++ (R.flatMap fun r => [(F.endAt r.worker r.work r.from_).getD (-1), F.wto r.worker] ++ (if F.doubles = true then [late F r] else [])) ++ F.lossAt
def nextP (F : FP) (p : PS) : Option Int := above p.now (candsP F p.runs)
inductive PTrace (F : FP) : PS → PS → Prop
 | last (p p' : PS) : PStep F p p' → nextP F p' = none → PTrace F p p'
 | more (p p1 : PS) (n : Int) (p' : PS) : PStep F p p1 → nextP F p1 = some n → PTrace F { p1 with now := n } p' → PTrace F p p'
end Go.Proofs.YtbnkoefljcekbaaGreatDoor

namespace Go.Proofs.YtbnkoefljcekbaaGreatDoor
set_option linter.unusedVariables false
set_option linter.unusedSimpArgs false

theorem perm_any {α : Type} {l m : List α} (h : l.Perm m) (p : α → Bool) : l.any p = m.any p := by
 rw [Bool.eq_iff_iff, List.any_eq_true, List.any_eq_true]
 exact ⟨fun ⟨x, hx, e⟩ => ⟨x, h.mem_iff.1 hx, e⟩, fun ⟨x, hx, e⟩ => ⟨x, h.mem_iff.2 hx, e⟩⟩
theorem filter_any {α : Type} (l : List α) (c p : α → Bool) (h : ∀ x, p x = true → c x = true) : (l.filter c).any p = l.any p := by
 rw [Bool.eq_iff_iff, List.any_eq_true, List.any_eq_true]
 exact ⟨fun ⟨x, hx, e⟩ => ⟨x, (List.mem_filter.1 hx).1, e⟩, fun ⟨x, hx, e⟩ => ⟨x, List.mem_filter.2 ⟨hx, h x e⟩, e⟩⟩

/-- the runs that go on, on both sides -/
def SameG (P Q : List RR) : Prop := P.Perm (Q.filter going)
section
variable {F : FP} {P Q : List RR} {t : Int}
theorem SameG.all (h : SameG P Q) : ∀ r ∈ P, going r = true := fun r hr => (List.mem_filter.1 (h.mem_iff.1 hr)).2
theorem SameG.any (h : SameG P Q) (p : RR → Bool) (hp : ∀ x, p x = true → going x = true) : P.any p = Q.any p := by
 rw [perm_any h, filter_any _ _ _ hp]
theorem SameG.countP (h : SameG P Q) (p : RR → Bool) (hp : ∀ x, p x = true → going x = true) : P.countP p = Q.countP p := by
 rw [List.Perm.countP_eq p h, List.countP_filter]
 congr 1
 funext x
 cases hx : p x
 ·rfl
 ·rw [hp x hx]; rfl
theorem SameG.hasDone (h : SameG P Q) (k : Nat) : hasDone F t P k = hasDone F t Q k := h.any _ fun x hx => by
 simp only [cand, Bool.and_eq_true] at hx; exact hx.2.1
theorem all_eq_not_any {α : Type} (l : List α) (p : α → Bool) : l.all p = !l.any fun x => !p x := by
 rw [List.not_any_eq_all_not]; simp
theorem SameG.isBest (h : SameG P Q) (r : RR) : isBest F t P r = isBest F t Q r := by
 unfold Go.Proofs.YtbnkoefljcekbaaGreatDoor.isBest
 rw [all_eq_not_any, all_eq_not_any, h.any]
 intro x hx
 simp only [Bool.not_or, Bool.not_not, Bool.and_eq_true, cand] at hx
 exact hx.1.2.1
theorem SameG.finRun (h : SameG P Q) (r : RR) : finRun F t P r = finRun F t Q r := by
 unfold Go.Proofs.YtbnkoefljcekbaaGreatDoor.finRun
 rw [h.hasDone, h.isBest]
theorem SameG.lostNow (h : SameG P Q) (k : Nat) : lostNow F t P k = lostNow F t Q k := h.countP _ fun x hx => by
 simp only [Bool.and_eq_true] at hx; exact hx.2.1
theorem SameG.busy (h : SameG P Q) (k : Nat) : busy P k = busy Q k := h.countP _ fun x hx => by
 simp only [Bool.and_eq_true] at hx; exact hx.1
theorem SameG.canW (h : SameG P Q) (i : Nat) (but : Option Nat) : canW F t P i but = canW F t Q i but := by
 funext k
 unfold Go.Proofs.YtbnkoefljcekbaaGreatDoor.canW
 rw [h.busy]
theorem SameG.runsAny (h : SameG P Q) (i : Nat) : runsAny P i = runsAny Q i := h.any _ fun x hx => by
 simp only [Bool.and_eq_true] at hx; exact hx.1
theorem SameG.snoc (h : SameG P Q) {r : RR} (hr : going r = true) : SameG (P ++ [r]) (Q ++ [r]) := by
 unfold SameG at h ⊢
 rw [List.filter_append, List.filter_cons_of_pos hr, List.filter_nil]
 exact h.append_right _
theorem SameG.goingOf (h : SameG P Q) (i : Nat) : (goingOf P i).Perm (goingOf Q i) := by
 unfold Go.Proofs.YtbnkoefljcekbaaGreatDoor.goingOf
 have h2 := h.filter (fun r => going r && r.work == i)
 rw [List.filter_filter] at h2
 have e : (fun r : RR => going r && r.work == i && going r) = fun r : RR => going r && r.work == i := by
  funext r; cases going r <;> simp
 rw [e] at h2
 exact h2
theorem SameG.perm {P' : List RR} (h : SameG P Q) (hp : P'.Perm P) : SameG P' Q := hp.trans h
end

/-- what one step of a map over all runs does to those that go on and those that ended -/
theorem map_going (c : RR → Bool) (g : RR → RR) (hn : ∀ r, (going r && c r) = false → g r = r) (hy : ∀ r, going r = true → c r = true → going (g r) = false) :
  ∀ L : List RR, (L.map g).filter going = (L.filter going).filter fun r => !c r
 | [] => rfl
 | r :: L => by
  have ih := map_going c g hn hy L
  rw [List.map_cons]
  cases hg : going r
  ·rw [hn r (by simp [hg]), List.filter_cons_of_neg (by simp [hg]), List.filter_cons_of_neg (by simp [hg]), ih]
  ·cases hc : c r
   ·rw [hn r (by simp [hc]), List.filter_cons_of_pos hg, List.filter_cons_of_pos hg, List.filter_cons_of_pos (by simp [hc]), ih]
   ·rw [List.filter_cons_of_neg (by rw [hy r hg hc]; simp), List.filter_cons_of_pos hg, List.filter_cons_of_neg (by simp [hc]), ih]
theorem map_ended (c : RR → Bool) (g : RR → RR) (hn : ∀ r, (going r && c r) = false → g r = r) (hy : ∀ r, going r = true → c r = true → going (g r) = false) :
  ∀ L : List RR, ((L.map g).filter fun r => !going r).Perm ((L.filter fun r => !going r) ++ ((L.filter going).filter c).map g)
 | [] => List.Perm.refl _
 | r :: L => by
  have ih := map_ended c g hn hy L
  rw [List.map_cons]
  cases hg : going r
  ·rw [hn r (by simp [hg]), List.filter_cons_of_pos (by simp [hg]), List.filter_cons_of_pos (by simp [hg]), List.filter_cons_of_neg (by simp [hg]), List.cons_append]
   exact ih.cons r
  ·cases hc : c r
   ·rw [hn r (by simp [hc]), List.filter_cons_of_neg (by simp [hg]), List.filter_cons_of_neg (by simp [hg]), List.filter_cons_of_pos hg, List.filter_cons_of_neg (by simp [hc])]
    exact ih
   ·rw [List.filter_cons_of_pos (by rw [hy r hg hc]; rfl), List.filter_cons_of_neg (by simp [hg]), List.filter_cons_of_pos hg, List.filter_cons_of_pos hc, List.map_cons]
    exact (ih.cons (g r)).trans List.perm_middle.symm

/-- the two states say the same (but for the moment) -/
structure Sim (p : PS) (q : QS) : Prop where
 runs : SameG p.runs q.runs
 out : p.out.Perm (q.runs.filter fun r => !going r)
 done : ∀ k, p.done k = q.done k
 lost : ∀ k, p.lost k = q.lost k
 begun : ∀ k, p.begun k = (q.runs.countP fun r => r.work == k : Nat)
/-- when a work was done, or lost for the last time -/
def IsLast (R : List RR) (k : Nat) (v : Int) : Prop :=
 (∀ r ∈ R, r.work = k → (r.end_ = 1 ∨ r.end_ = 2) → r.to_ ≤ v) ∧ (v = 0 ∨ ∃ r ∈ R, r.work = k ∧ (r.end_ = 1 ∨ r.end_ = 2) ∧ r.to_ = v)
theorem finRun_no {F : FP} {t : Int} {R : List RR} {r : RR} (h : (going r && hasDone F t R r.work) = false) : finRun F t R r = r := by
 unfold finRun; rw [h]; rfl
theorem finRun_yes {F : FP} {t : Int} {R : List RR} {r : RR} (h : (going r && hasDone F t R r.work) = true) : finRun F t R r = { r with to_ := t, end_ := if isBest F t R r = true then 1 else 3 } := by
 unfold finRun; rw [if_pos h]
theorem finRun_work {F : FP} {t : Int} {R : List RR} (r : RR) : (finRun F t R r).work = r.work ∧ (finRun F t R r).worker = r.worker ∧ (finRun F t R r).from_ = r.from_ := by
 unfold finRun; split <;> exact ⟨rfl, rfl, rfl⟩
theorem finRun_ended {F : FP} {t : Int} {R : List RR} {r : RR} (h1 : going r = true) (h2 : hasDone F t R r.work = true) : going (finRun F t R r) = false := by
 rw [finRun_yes (by rw [h1, h2]; rfl)]
 unfold going
 by_cases h : isBest F t R r = true
 ·simp [h]
 ·simp [h]
theorem loseRun_no {F : FP} {t : Int} {r : RR} (h : (going r && goes F r.worker t) = false) : loseRun F t r = r := by
 unfold loseRun; rw [h]; rfl
theorem loseRun_yes {F : FP} {t : Int} {r : RR} (h : (going r && goes F r.worker t) = true) : loseRun F t r = { r with to_ := t, end_ := 2 } := by
 unfold loseRun; rw [if_pos h]
theorem loseRun_work {F : FP} {t : Int} (r : RR) : (loseRun F t r).work = r.work ∧ (loseRun F t r).worker = r.worker ∧ (loseRun F t r).from_ = r.from_ := by
 unfold loseRun; split <;> exact ⟨rfl, rfl, rfl⟩
theorem loseRun_ended {F : FP} {t : Int} {r : RR} (h1 : going r = true) (h2 : goes F r.worker t = true) : going (loseRun F t r) = false := by
 rw [loseRun_yes (by rw [h1, h2]; rfl)]; rfl

theorem countP_map_work {g : RR → RR} (hg : ∀ r, (g r).work = r.work) (k : Nat) (L : List RR) : (L.map g).countP (fun r => r.work == k) = L.countP fun r => r.work == k := by
 rw [List.countP_map]
 congr 1
 funext r
 simp [hg r]
theorem filter_all {α : Type} {l : List α} {p : α → Bool} (h : ∀ x ∈ l, p x = true) : l.filter p = l := List.filter_eq_self.2 h

theorem Sim.fin {F : FP} {p : PS} {q : QS} (h : Sim p q) (ht : p.now = q.at_) : Sim (finP F p) (finQ F q) := by
 have hD : ∀ k, hasDone F p.now p.runs k = hasDone F q.at_ q.runs k := fun k => by rw [ht]; exact h.runs.hasDone k
 have hR : ∀ r, finRun F p.now p.runs r = finRun F q.at_ q.runs r := fun r => by rw [ht]; exact h.runs.finRun r
 have e1 : (fun r : RR => hasDone F p.now p.runs r.work) = fun r => hasDone F q.at_ q.runs r.work := by funext r; exact hD _
 have e2 : (fun r : RR => !hasDone F p.now p.runs r.work) = fun r => !hasDone F q.at_ q.runs r.work := by funext r; rw [hD]
 have e3 : finRun F p.now p.runs = finRun F q.at_ q.runs := by funext r; exact hR r
 have hg := map_going (fun r => hasDone F q.at_ q.runs r.work) (finRun F q.at_ q.runs) (fun r h => finRun_no h) (fun r h1 h2 => finRun_ended h1 h2) q.runs
 have hE := map_ended (fun r => hasDone F q.at_ q.runs r.work) (finRun F q.at_ q.runs) (fun r h => finRun_no h) (fun r h1 h2 => finRun_ended h1 h2) q.runs
 refine ⟨?_, ?_, fun k => ?_, h.lost, fun k => ?_⟩
 ·show SameG (p.runs.filter _) (q.runs.map _)
  unfold SameG
  rw [hg, e2]
  exact h.runs.filter _
 ·show (p.out ++ _).Perm ((q.runs.map _).filter _)
  rw [e1, e3]
  exact (h.out.append ((h.runs.filter _).map _)).trans hE.symm
 ·show (p.done k || _) = (q.done k || _)
  rw [hD, h.done]
 ·show p.begun k = _
  rw [h.begun]
  congr 1
  exact (countP_map_work (fun r => (finRun_work r).1) k _).symm
theorem Sim.lose {F : FP} {p : PS} {q : QS} (h : Sim p q) (ht : p.now = q.at_) : Sim (loseP F p) (loseQ F q) := by
 have hg := map_going (fun r => goes F r.worker q.at_) (loseRun F q.at_) (fun r h => loseRun_no h) (fun r h1 h2 => loseRun_ended h1 h2) q.runs
 have hE := map_ended (fun r => goes F r.worker q.at_) (loseRun F q.at_) (fun r h => loseRun_no h) (fun r h1 h2 => loseRun_ended h1 h2) q.runs
 refine ⟨?_, ?_, h.done, fun k => ?_, fun k => ?_⟩
 ·show SameG (p.runs.filter _) (q.runs.map _)
  unfold SameG
  rw [hg, ht]
  exact h.runs.filter _
 ·show (p.out ++ _).Perm ((q.runs.map _).filter _)
  rw [ht]
  exact (h.out.append ((h.runs.filter _).map _)).trans hE.symm
 ·show p.lost k + _ = q.lost k + _
  rw [h.lost, ht, h.runs.lostNow]
 ·show p.begun k = _
  rw [h.begun]
  congr 1
  exact (countP_map_work (fun r => (loseRun_work r).1) k _).symm

/-- what beginning a work does, on both sides -/
def SimX (x : List RR × (Nat → Int)) (R : List RR) : Prop := SameG x.1 R ∧ ∀ k, x.2 k = (R.countP fun r => r.work == k : Nat)
theorem SimX.begin {F : FP} {t : Int} {x : List RR × (Nat → Int)} {R : List RR} (h : SimX x R) (i : Nat) (but : Option Nat) : SimX (beginP F t i but x) (beginR F t i but R) := by
 unfold beginP beginR
 rw [h.1.canW]
 cases hb : bestW (canW F t R i but) F.speed F.nW with
 | none => exact h
 | some k =>
  refine ⟨h.1.snoc rfl, fun j => ?_⟩
  simp only [List.countP_append, List.countP_singleton]
  by_cases e : j = i
  ·subst e; rw [if_pos rfl, h.2]; simp
  ·rw [if_neg e, h.2]
   have : (i == j) = false := by simpa using fun h => e h.symm
   simp [this]
theorem beginR_ext (F : FP) (t : Int) (i : Nat) (but : Option Nat) (R : List RR) : ∃ X, beginR F t i but R = R ++ X ∧ ∀ r ∈ X, r.work = i ∧ r.from_ = t ∧ r.to_ = 0 ∧ r.end_ = 0 := by
 unfold beginR
 split
 ·exact ⟨[], by simp, fun r h => by cases h⟩
 ·exact ⟨_, rfl, fun r h => by rw [List.mem_singleton.1 h]; exact ⟨rfl, rfl, rfl, rfl⟩⟩
theorem runsAny_begin {F : FP} {t : Int} {i j : Nat} {but : Option Nat} {R : List RR} (h : j ≠ i) : runsAny (beginR F t i but R) j = runsAny R j := by
 obtain ⟨X, e, hX⟩ := beginR_ext F t i but R
 rw [e]
 unfold runsAny
 rw [List.any_append]
 have : X.any (fun r => going r && r.work == j) = false := by
  rw [List.any_eq_false]
  intro r hr
  rw [(hX r hr).1]
  simp [Ne.symm h]
 rw [this, Bool.or_false]
theorem canS_begin {F : FP} {t : Int} {dn : Nat → Bool} {ls : Nat → Int} {i j : Nat} {but : Option Nat} {R : List RR} (h : j ≠ i) : canS F dn ls (beginR F t i but R) j = canS F dn ls R j := by
 unfold canS
 rw [runsAny_begin h]
theorem start_filter (F : FP) (q : QS) : ∀ (o : List Nat) (R0 R : List RR), o.Nodup → (∀ i ∈ o, canS F q.done q.lost R i = canS F q.done q.lost R0 i) →
  o.foldl (strtR F q) R = (o.filter fun i => canS F q.done q.lost R0 i).foldl (fun R i => beginR F q.at_ i none R) R
 | [], _, _, _, _ => rfl
 | i :: o, R0, R, hn, hc => by
  obtain ⟨hn1, hn2⟩ := List.nodup_cons.1 hn
  have hi := hc i (List.mem_cons_self)
  rw [List.foldl_cons]
  unfold strtR
  rw [hi]
  cases hq : canS F q.done q.lost R0 i
  ·rw [List.filter_cons_of_neg (by simp [hq])]
   exact start_filter F q o R0 R hn2 fun j hj => hc j (List.mem_cons_of_mem _ hj)
  ·rw [List.filter_cons_of_pos hq, List.foldl_cons, if_pos rfl]
   refine start_filter F q o R0 _ hn2 fun j hj => ?_
   rw [canS_begin (by intro e; subst e; exact hn1 hj)]
   exact hc j (List.mem_cons_of_mem _ hj)
theorem SimX.fold {F : FP} {t : Int} : ∀ (o : List Nat) (x : List RR × (Nat → Int)) (R : List RR), SimX x R → SimX (o.foldl (fun x i => beginP F t i none x) x) (o.foldl (fun R i => beginR F t i none R) R)
 | [], x, R, h => h
 | i :: o, x, R, h => SimX.fold o _ _ (h.begin i none)
theorem Sim.start {F : FP} {p : PS} {q : QS} (h : Sim p q) (ht : p.now = q.at_) (hn : F.order.Nodup) : Sim (startP F p) (startQ F q) := by
 have hc : (fun i => canS F p.done p.lost p.runs i) = fun i => canS F q.done q.lost q.runs i := by
  funext i
  unfold canS readyB
  rw [h.done, h.lost, h.runs.runsAny, show p.done = q.done from funext h.done]
 have hX : SimX (p.runs, p.begun) q.runs := ⟨h.runs, h.begun⟩
 have hf := hX.fold (F := F) (t := q.at_) (F.order.filter fun i => canS F q.done q.lost q.runs i)
 have hs := start_filter F q F.order q.runs q.runs hn (fun _ _ => rfl)
 rw [← hs] at hf
 have hp : startP F p = { p with runs := ((F.order.filter fun i => canS F q.done q.lost q.runs i).foldl (fun x i => beginP F q.at_ i none x) (p.runs, p.begun)).1, begun := ((F.order.filter fun i => canS F q.done q.lost q.runs i).foldl (fun x i => beginP F q.at_ i none x) (p.runs, p.begun)).2 } := by
  unfold startP
  simp only [hc, ht]
 rw [hp]
 refine ⟨hf.1, ?_, h.done, h.lost, hf.2⟩
 refine h.out.trans ?_
 show (q.runs.filter _).Perm ((F.order.foldl (strtR F q) q.runs).filter _)
 rw [hs]
 have key : ∀ (o : List Nat) (R : List RR), (o.foldl (fun R i => beginR F q.at_ i none R) R).filter (fun r => !going r) = R.filter fun r => !going r := by
  intro o
  induction o with
  | nil => intro R; rfl
  | cons i o ih =>
   intro R
   rw [List.foldl_cons, ih]
   obtain ⟨X, e, hX⟩ := beginR_ext F q.at_ i none R
   rw [e, List.filter_append]
   have : X.filter (fun r => !going r) = [] := List.filter_eq_nil_iff.2 fun r hr => by simp [going, (hX r hr).2.2.2]
   rw [this, List.append_nil]
 rw [key]
theorem SimX.dbl1 {F : FP} {t : Int} {l1 l2 : Nat → Int} {x : List RR × (Nat → Int)} {R : List RR} (h : SimX x R) (hl : ∀ k, l1 k = l2 k) (i : Nat) : SimX (dblX F t l1 x i) (dblR F t l2 R i) := by
 have hp := h.1.goingOf i
 unfold dblX dblR
 rw [hl]
 match e1 : goingOf x.1 i, e2 : goingOf R i with
 | [], [] => exact h
 | [], _ :: _ => rw [e1, e2] at hp; have := hp.length_eq; simp at this
 | _ :: _, [] => rw [e1, e2] at hp; have := hp.length_eq; simp at this
 | [a], [b] =>
  rw [e1, e2] at hp
  obtain rfl : a = b := by have := hp.mem_iff (a := a); simpa using this
  simp only
  split
  ·exact h.begin i _
  ·exact h
 | [a], b :: c :: d => rw [e1, e2] at hp; have := hp.length_eq; simp at this
 | b :: c :: d, [a] => rw [e1, e2] at hp; have := hp.length_eq; simp at this
 | b :: c :: d, b' :: c' :: d' => exact h
theorem SimX.dbls {F : FP} {t : Int} {l1 l2 : Nat → Int} (hl : ∀ k, l1 k = l2 k) : ∀ (o : List Nat) (x : List RR × (Nat → Int)) (R : List RR), SimX x R → SimX (o.foldl (dblX F t l1) x) (o.foldl (dblR F t l2) R)
 | [], x, R, h => h
 | i :: o, x, R, h => SimX.dbls hl o _ _ (h.dbl1 hl i)
theorem dblR_ext (F : FP) (t : Int) (ls : Nat → Int) (R : List RR) (i : Nat) : ∃ X, dblR F t ls R i = R ++ X ∧ ∀ r ∈ X, r.work = i ∧ r.from_ = t ∧ r.to_ = 0 ∧ r.end_ = 0 := by
 unfold dblR
 split
 ·split
  ·exact beginR_ext _ _ _ _ _
  ·exact ⟨[], by simp, fun r h => by cases h⟩
 ·exact ⟨[], by simp, fun r h => by cases h⟩
theorem strtR_ext (F : FP) (q : QS) (R : List RR) (i : Nat) : ∃ X, strtR F q R i = R ++ X ∧ ∀ r ∈ X, r.work = i ∧ r.from_ = q.at_ ∧ r.to_ = 0 ∧ r.end_ = 0 := by
 unfold strtR
 split
 ·exact beginR_ext _ _ _ _ _
 ·exact ⟨[], by simp, fun r h => by cases h⟩
theorem fold_ext {f : List RR → Nat → List RR} {t : Int} (hf : ∀ R i, ∃ X, f R i = R ++ X ∧ ∀ r ∈ X, r.work = i ∧ r.from_ = t ∧ r.to_ = 0 ∧ r.end_ = 0) :
  ∀ (o : List Nat) (R : List RR), ∃ X, o.foldl f R = R ++ X ∧ ∀ r ∈ X, r.work ∈ o ∧ r.from_ = t ∧ r.to_ = 0 ∧ r.end_ = 0
 | [], R => ⟨[], by simp, fun r h => by cases h⟩
 | i :: o, R => by
  obtain ⟨X, e, hX⟩ := hf R i
  obtain ⟨Y, e2, hY⟩ := fold_ext hf o (R ++ X)
  refine ⟨X ++ Y, ?_, fun r hr => ?_⟩
  ·rw [List.foldl_cons, e, e2, List.append_assoc]
  ·rcases List.mem_append.1 hr with h | h
   ·obtain ⟨a, b⟩ := hX r h
    exact ⟨by rw [a]; exact List.mem_cons_self, b⟩
   ·obtain ⟨a, b⟩ := hY r h
    exact ⟨List.mem_cons_of_mem _ a, b⟩
theorem Sim.dbl {F : FP} {p : PS} {q : QS} (h : Sim p q) (ht : p.now = q.at_) : Sim (dblP F p) (dblQ F q) := by
 unfold dblP dblQ
 by_cases hd : F.doubles = true
 ·rw [if_pos hd, if_pos hd, ht]
  have hX : SimX (p.runs, p.begun) q.runs := ⟨h.runs, h.begun⟩
  have hf := hX.dbls (F := F) (t := q.at_) h.lost (List.range F.nX)
  refine ⟨hf.1, ?_, h.done, h.lost, hf.2⟩
  obtain ⟨X, e, hX⟩ := fold_ext (dblR_ext F q.at_ q.lost) (List.range F.nX) q.runs
  show p.out.Perm (((List.range F.nX).foldl (dblR F q.at_ q.lost) q.runs).filter _)
  rw [e, List.filter_append]
  have : X.filter (fun r => !going r) = [] := List.filter_eq_nil_iff.2 fun r hr => by simp [going, (hX r hr).2.2.2]
  rw [this, List.append_nil]
  exact h.out
 ·rw [if_neg hd, if_neg hd]; exact h
theorem Sim.step {F : FP} {p p' : PS} {q : QS} (h : Sim p q) (ht : p.now = q.at_) (hn : F.order.Nodup) (hs : PStep F p p') : Sim p' (stepQ F q) := by
 obtain ⟨rs, hp, rfl⟩ := hs
 have h0 : Sim { p with runs := rs } q := ⟨h.runs.perm hp, h.out, h.done, h.lost, h.begun⟩
 have e1 : (startP F (loseP F (finP F { p with runs := rs }))).now = (startQ F (loseQ F (finQ F q))).at_ := ht
 exact (((h0.fin (F := F) ht).lose (F := F) ht).start ht hn).dbl e1
end Go.Proofs.YtbnkoefljcekbaaGreatDoor

namespace Go.Proofs.YtbnkoefljcekbaaGreatDoor
set_option linter.unusedVariables false
set_option linter.unusedSimpArgs false

theorem bestW_none {ok : Nat → Bool} {sp : Nat → Int} : ∀ {n : Nat}, bestW ok sp n = none ↔ ∀ k, k < n → ok k = false
 | 0 => ⟨fun _ k h => absurd h (Nat.not_lt_zero k), fun _ => rfl⟩
 | n + 1 => by
  have ih := bestW_none (ok := ok) (sp := sp) (n := n)
  constructor
  ·intro h k hk
   unfold bestW at h
   split at h
   ·split at h
    ·cases h
    ·split at h <;> cases h
   ·rename_i hn
    by_cases e : k = n
    ·subst e; simpa using hn
    ·exact ih.1 h k (by omega)
  ·intro h
   unfold bestW
   rw [if_neg (by rw [h n (by omega)]; simp)]
   exact ih.2 fun k hk => h k (by omega)
theorem bestW_some {ok : Nat → Bool} {sp : Nat → Int} : ∀ {n b : Nat}, bestW ok sp n = some b → b < n ∧ ok b = true
 | 0, b, h => by cases h
 | n + 1, b, h => by
  unfold bestW at h
  split at h
  ·rename_i hk
   split at h
   ·injection h with h; subst h; exact ⟨by omega, hk⟩
   ·rename_i b' hb
    have := bestW_some hb
    split at h
    ·injection h with h; subst h; exact ⟨by omega, hk⟩
    ·injection h with h; subst h; exact ⟨by omega, this.2⟩
  ·have := bestW_some h
   exact ⟨by omega, this.2⟩

theorem busy_app (R X : List RR) (k : Nat) : busy R k ≤ busy (R ++ X) k := by
 unfold busy; rw [List.countP_append]; omega
theorem canW_app {F : FP} {t : Int} {R X : List RR} {i : Nat} {but : Option Nat} {k : Nat} (h : canW F t R i but k = false) : canW F t (R ++ X) i but k = false := by
 have hb := busy_app R X k
 cases hc : canW F t (R ++ X) i but k
 ·rfl
 ·simp only [canW, Bool.and_eq_true, decide_eq_true_eq] at hc
  have : canW F t R i but k = true := by
   simp only [canW, Bool.and_eq_true, decide_eq_true_eq]
   exact ⟨hc.1, hc.2.1, hc.2.2.1, by omega, hc.2.2.2.2⟩
  rw [h] at this; cases this
theorem runsAny_app (R X : List RR) (i : Nat) : runsAny R i = true → runsAny (R ++ X) i = true := by
 unfold runsAny; rw [List.any_append]; intro h; rw [h]; rfl
theorem canS_app {F : FP} {dn : Nat → Bool} {ls : Nat → Int} {R X : List RR} {i : Nat} (h : canS F dn ls (R ++ X) i = true) : canS F dn ls R i = true := by
 simp only [canS, Bool.and_eq_true, Bool.not_eq_true'] at h ⊢
 refine ⟨h.1, h.2.1, ?_, h.2.2.2⟩
 cases hr : runsAny R i
 ·rfl
 ·have := runsAny_app R X i hr
  rw [h.2.2.1] at this; cases this

/-- behind the step nothing can be begun, nor begun a second time -/
def NoStart (F : FP) (t : Int) (dn : Nat → Bool) (ls : Nat → Int) (R : List RR) (S : Nat → Prop) : Prop := ∀ i, S i → canS F dn ls R i = true → ∀ k, k < F.nW → canW F t R i none k = false
def NoDbl (F : FP) (t : Int) (ls : Nat → Int) (R : List RR) (S : Nat → Prop) : Prop := ∀ i, S i → ∀ r, goingOf R i = [r] → late F r ≤ t → ls i < F.tries → ∀ k, k < F.nW → canW F t R i (some r.worker) k = false
theorem NoStart.app {F : FP} {t : Int} {dn : Nat → Bool} {ls : Nat → Int} {R : List RR} {S : Nat → Prop} (h : NoStart F t dn ls R S) (X : List RR) : NoStart F t dn ls (R ++ X) S :=
 fun i hi hc k hk => canW_app (h i hi (canS_app hc) k hk)
theorem runsAny_self {R : List RR} {i : Nat} {r : RR} (hg : going r = true) (hw : r.work = i) : runsAny (R ++ [r]) i = true := by
 unfold runsAny; rw [List.any_append]; simp [hg, hw]
theorem noStart_fold {F : FP} {q : QS} : ∀ (o : List Nat) (R : List RR) (S : Nat → Prop), NoStart F q.at_ q.done q.lost R S → NoStart F q.at_ q.done q.lost (o.foldl (strtR F q) R) (fun i => S i ∨ i ∈ o)
 | [], R, S, h => fun i hi => h i (by rcases hi with h | h; exact h; cases h)
 | i :: o, R, S, h => by
  have h1 : NoStart F q.at_ q.done q.lost (strtR F q R i) (fun j => S j ∨ j = i) := by
   obtain ⟨X, e, hX⟩ := strtR_ext F q R i
   intro j hj hc k hk
   rcases hj with hj | rfl
   ·rw [e] at hc ⊢
    exact canW_app (h j hj (canS_app hc) k hk)
   ·unfold strtR at hc ⊢
    split at hc
    ·rename_i hcs
     rw [if_pos hcs]
     unfold beginR at hc ⊢
     split at hc
     ·rename_i hn
      exact bestW_none.1 hn k hk
     ·rename_i b hb
      simp only [canS, Bool.and_eq_true, Bool.not_eq_true'] at hc
      rw [runsAny_self rfl rfl] at hc
      exact absurd hc.2.2.1 (by decide)
    ·rename_i hcs
     rw [hc] at hcs; exact absurd rfl hcs
  have h2 := noStart_fold o _ _ h1
  intro j hj
  exact h2 j (by
   rcases hj with hj | hj
   ·exact .inl (.inl hj)
   ·rcases List.mem_cons.1 hj with rfl | hj
    ·exact .inl (.inr rfl)
    ·exact .inr hj)
theorem goingOf_app (R X : List RR) (i : Nat) : goingOf (R ++ X) i = goingOf R i ++ goingOf X i := by unfold goingOf; rw [List.filter_append]
theorem goingOf_other {X : List RR} {i j : Nat} (h : ∀ r ∈ X, r.work = i) (hij : j ≠ i) : goingOf X j = [] :=
 List.filter_eq_nil_iff.2 fun r hr => by rw [h r hr]; simp [Ne.symm hij]
theorem noDbl_fold {F : FP} {t : Int} {ls : Nat → Int} : ∀ (o : List Nat) (R : List RR) (S : Nat → Prop), NoDbl F t ls R S → NoDbl F t ls (o.foldl (dblR F t ls) R) (fun i => S i ∨ i ∈ o)
 | [], R, S, h => fun i hi => h i (by rcases hi with h | h; exact h; cases h)
 | i :: o, R, S, h => by
  have h1 : NoDbl F t ls (dblR F t ls R i) (fun j => S j ∨ j = i) := by
   obtain ⟨X, e, hX⟩ := dblR_ext F t ls R i
   intro j hj r hg hl ht k hk
   by_cases hji : j = i
   ·subst hji
    unfold dblR at hg ⊢
    split at hg
    ·rename_i r0 hg0
     split at hg
     ·rename_i hcond
      rw [if_pos hcond]
      unfold beginR at hg ⊢
      split at hg
      ·rename_i hn
       rw [hg0] at hg
       injection hg with hg
       subst hg
       exact bestW_none.1 hn k hk
      ·rename_i b hb
       rw [goingOf_app, hg0] at hg
       simp [goingOf, going] at hg
     ·rename_i hcond
      rw [hg0] at hg
      injection hg with hg
      subst hg
      exact absurd (by simp only [Bool.and_eq_true, decide_eq_true_eq]; exact ⟨hl, ht⟩) hcond
    ·rename_i hne
     exact absurd hg (hne r)
   ·have hjS : S j := by rcases hj with h | h; exact h; exact absurd h hji
    rw [e] at hg ⊢
    rw [goingOf_app, goingOf_other (fun r hr => (hX r hr).1) hji, List.append_nil] at hg
    exact canW_app (h j hjS r hg hl ht k hk)
  have h2 := noDbl_fold o _ _ h1
  intro j hj
  exact h2 j (by
   rcases hj with hj | hj
   ·exact .inl (.inl hj)
   ·rcases List.mem_cons.1 hj with rfl | hj
    ·exact .inl (.inr rfl)
    ·exact .inr hj)
structure Quiet (F : FP) (q : QS) : Prop where
 st : NoStart F q.at_ q.done q.lost q.runs (· ∈ F.order)
 db : F.doubles = true → NoDbl F q.at_ q.lost q.runs (· < F.nX)
theorem quiet_step (F : FP) (q : QS) : Quiet F (stepQ F q) := by
 obtain ⟨q1, hq1⟩ : ∃ x, loseQ F (finQ F q) = x := ⟨_, rfl⟩
 have e : stepQ F q = dblQ F (startQ F q1) := by rw [← hq1]; rfl
 rw [e]
 have hs : NoStart F q1.at_ q1.done q1.lost (startQ F q1).runs (· ∈ F.order) := by
  have := noStart_fold (F := F) (q := q1) F.order q1.runs (fun _ => False) (fun i h => h.elim)
  exact fun i hi => this i (.inr hi)
 unfold dblQ
 by_cases hd : F.doubles = true
 ·rw [if_pos hd]
  obtain ⟨X, eX, _⟩ := fold_ext (dblR_ext F q1.at_ q1.lost) (List.range F.nX) (startQ F q1).runs
  refine ⟨?_, fun _ => ?_⟩
  ·have := hs.app X
   rw [← eX] at this
   exact this
  ·have := noDbl_fold (F := F) (t := q1.at_) (ls := q1.lost) (List.range F.nX) (startQ F q1).runs (fun _ => False) (fun i h => h.elim)
   exact fun i hi => this i (.inr (List.mem_range.2 hi))
 ·rw [if_neg hd]
  exact ⟨hs, fun h => absurd h hd⟩

theorem above_some {t : Int} : ∀ {l : List Int} {m : Int}, above t l = some m → m ∈ l ∧ t < m ∧ ∀ x ∈ l, t < x → m ≤ x
 | [], m, h => by cases h
 | x :: l, m, h => by
  unfold above at h
  split at h
  ·rename_i hn
   have hno : ∀ y ∈ l, ¬ t < y := by
    intro y hy hty
    have aux : ∀ (l : List Int), y ∈ l → above t l ≠ none := by
     intro l
     induction l with
     | nil => intro h; cases h
     | cons z l ih =>
      intro h hn
      unfold above at hn
      split at hn
      ·rename_i h2
       rcases List.mem_cons.1 h with rfl | h
       ·rw [if_pos hty] at hn; cases hn
       ·exact ih h h2
      ·split at hn <;> cases hn
    exact aux l hy hn
   split at h
   ·rename_i hx
    injection h with h; subst h
    exact ⟨List.mem_cons_self, hx, fun y hy hty => by
     rcases List.mem_cons.1 hy with rfl | hy
     ·omega
     ·exact absurd hty (hno y hy)⟩
   ·cases h
  ·rename_i m' hm'
   obtain ⟨a, b, c⟩ := above_some hm'
   split at h
   ·rename_i hx
    injection h with h; subst h
    exact ⟨List.mem_cons_self, hx.1, fun y hy hty => by
     rcases List.mem_cons.1 hy with rfl | hy
     ·omega
     ·have := c y hy hty; omega⟩
   ·rename_i hx
    injection h with h; subst h
    exact ⟨List.mem_cons_of_mem _ a, b, fun y hy hty => by
     rcases List.mem_cons.1 hy with rfl | hy
     ·omega
     ·exact c y hy hty⟩
/-- a farm's numbers fit each other -/
structure FOk (F : FP) : Prop where
 nodup : F.order.Nodup
 lt : ∀ i ∈ F.order, i < F.nX
 loss : ∀ k t, k < F.nW → F.loss k t = true → t ∈ F.lossAt
def Named (F : FP) (R : List RR) : Prop := ∀ r ∈ R, r.worker < F.nW ∧ r.work < F.nX

theorem mem_candsP {F : FP} {R : List RR} {x : Int} : x ∈ candsP F R ↔ (∃ k, k < F.nW ∧ x = F.wfrom k) ∨ (∃ r ∈ R, x = (F.endAt r.worker r.work r.from_).getD (-1) ∨ x = F.wto r.worker ∨ (F.doubles = true ∧ x = late F r)) ∨ x ∈ F.lossAt := by
 unfold candsP
 rw [List.mem_append, List.mem_append, List.mem_map, List.mem_flatMap]
 constructor
 ·rintro ((⟨k, hk, rfl⟩ | ⟨r, hr, hx⟩) | h)
  ·exact .inl ⟨k, List.mem_range.1 hk, rfl⟩
  ·refine .inr (.inl ⟨r, hr, ?_⟩)
   rcases List.mem_append.1 hx with hx | hx
   ·rcases List.mem_cons.1 hx with rfl | hx
    ·exact .inl rfl
    ·exact .inr (.inl (List.mem_singleton.1 hx))
   ·split at hx
    ·rename_i hd; exact .inr (.inr ⟨hd, List.mem_singleton.1 hx⟩)
    ·cases hx
  ·exact .inr (.inr h)
 ·rintro (⟨k, hk, rfl⟩ | ⟨r, hr, hx⟩ | h)
  ·exact .inl (.inl ⟨k, List.mem_range.2 hk, rfl⟩)
  ·refine .inl (.inr ⟨r, hr, ?_⟩)
   rcases hx with rfl | rfl | ⟨hd, rfl⟩
   ·exact List.mem_append_left _ List.mem_cons_self
   ·exact List.mem_append_left _ (List.mem_cons_of_mem _ List.mem_cons_self)
   ·exact List.mem_append_right _ (by rw [if_pos hd]; exact List.mem_cons_self)
  ·exact .inr h
theorem mem_candsQ {F : FP} {R : List RR} {x : Int} : x ∈ candsQ F R ↔ (∃ k, k < F.nW ∧ (x = F.wfrom k ∨ x = F.wto k)) ∨ x ∈ F.lossAt ∨ ∃ r ∈ R, going r = true ∧ (F.endAt r.worker r.work r.from_ = some x ∨ x = late F r) := by
 unfold candsQ
 rw [List.mem_append, List.mem_append, List.mem_flatMap, List.mem_flatMap]
 constructor
 ·rintro ((⟨k, hk, hx⟩ | h) | ⟨r, hr, hx⟩)
  ·refine .inl ⟨k, List.mem_range.1 hk, ?_⟩
   rcases List.mem_cons.1 hx with rfl | hx
   ·exact .inl rfl
   ·exact .inr (List.mem_singleton.1 hx)
  ·exact .inr (.inl h)
  ·obtain ⟨h1, h2⟩ := List.mem_filter.1 hr
   refine .inr (.inr ⟨r, h1, h2, ?_⟩)
   rcases List.mem_append.1 hx with hx | hx
   ·left
    cases he : F.endAt r.worker r.work r.from_ with
    | none => rw [he] at hx; cases hx
    | some y => rw [he] at hx; rw [List.mem_singleton.1 hx]
   ·exact .inr (List.mem_singleton.1 hx)
 ·rintro (⟨k, hk, hx⟩ | h | ⟨r, hr, hg, hx⟩)
  ·refine .inl (.inl ⟨k, List.mem_range.2 hk, ?_⟩)
   rcases hx with rfl | rfl
   ·exact List.mem_cons_self
   ·exact List.mem_cons_of_mem _ List.mem_cons_self
  ·exact .inl (.inr h)
  ·refine .inr ⟨r, List.mem_filter.2 ⟨hr, hg⟩, ?_⟩
   rcases hx with hx | rfl
   ·exact List.mem_append_left _ (by rw [hx]; exact List.mem_cons_self)
   ·exact List.mem_append_right _ List.mem_cons_self
theorem stepQ_at (F : FP) (q : QS) : (stepQ F q).at_ = q.at_ := by
 unfold stepQ dblQ
 split <;> rfl
theorem PStep.now {F : FP} {p p' : PS} (h : PStep F p p') : p'.now = p.now := by
 obtain ⟨rs, _, rfl⟩ := h
 unfold dblP
 split <;> rfl

theorem Sim.at {p : PS} {q : QS} (h : Sim p q) (n m : Int) : Sim { p with now := n } { q with at_ := m } := ⟨h.runs, h.out, h.done, h.lost, h.begun⟩
end Go.Proofs.YtbnkoefljcekbaaGreatDoor
