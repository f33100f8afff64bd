/-
 Several texts of mine as one, without what is not wanted here: XFm, XCWorkers, XBsfK, XCFarmD.
-/
import Derived.Test.YtbnkoefljcekbaaGreatDoorNbAC9
import Derived.Test.YtbnkoefljcekbaaGreatDoorNbGb
import Derived.Test.YtbnkoefljcekbaaGreatDoorNbGa
import Derived.Test.YtbnkoefljcekbaaGreatDoorNbGf
import Derived.Test.YtbnkoefljcekbaaGreatDoorNbBC9
import Derived.Test.YtbnkoefljcekbaaGreatDoorNbCC9
namespace Go.Proofs.YtbnkoefljcekbaaGreatDoor.C9
open Go.ChangeShapes Go.WideShapes Go.Deep Go.RowKit
set_option linter.unusedVariables false
set_option linter.unusedSimpArgs false

/-- block b begins with these cells, and they can be stored to -/
def Blk (w : World) (b : Nat) (vs : List Value) : Prop := ∀ j v, vs[j]? = some v → w.cell? ⟨b, j, none⟩ = some v ∧ w.frozen? ⟨b, j, none⟩ = false
theorem Blk.keep {w w' : World} {b : Nat} {vs : List Value} (h : Blk w b vs) (hb : w'.heap[b]? = w.heap[b]?) : Blk w' b vs := fun j v hj =>
 ⟨(World.cell?_of_block (a := ⟨b, j, none⟩) hb).trans (h j v hj).1, (World.frozen?_of_block (a := ⟨b, j, none⟩) hb).trans (h j v hj).2⟩
theorem Blk.lt {w : World} {b : Nat} {vs : List Value} (h : Blk w b vs) (hv : vs ≠ []) : b < w.heap.size := by
 cases vs with
 | nil => exact absurd rfl hv
 | cons v vs => exact cell?_lt (h 0 v rfl).1
theorem Blk.set {w : World} {b k : Nat} {vs : List Value} (h : Blk w b vs) (hk : k < vs.length) (u : Value) : Blk (w.setCell ⟨b, k, none⟩ u) b (vs.set k u) := by
 intro j v hj
 rw [List.getElem?_set] at hj
 by_cases e : k = j
 ·subst e
  rw [if_pos rfl, if_pos hk] at hj
  injection hj with hj
  subst hj
  obtain ⟨c, f⟩ := h k vs[k] (List.getElem?_eq_getElem hk)
  exact ⟨World.cell?_setCell_same' _ _ _ (by rw [c]; rfl), by rw [World.frozen?_setCell]; exact f⟩
 ·rw [if_neg e] at hj
  obtain ⟨c, f⟩ := h j v hj
  exact ⟨by rw [World.cell?_setCell_other _ _ _ _ (by simp <;> omega)]; exact c, by rw [World.frozen?_setCell]; exact f⟩
/-- a row of n ints -/
def IRow (w : World) (b n : Nat) (f : Nat → Int) : Prop := ∀ j, j < n → w.cell? ⟨b, j, none⟩ = some (.int .i64 (f j)) ∧ w.frozen? ⟨b, j, none⟩ = false
theorem IRow.keep {w w' : World} {b n : Nat} {f : Nat → Int} (h : IRow w b n f) (hb : w'.heap[b]? = w.heap[b]?) : IRow w' b n f := fun j hj =>
 ⟨(World.cell?_of_block (a := ⟨b, j, none⟩) hb).trans (h j hj).1, (World.frozen?_of_block (a := ⟨b, j, none⟩) hb).trans (h j hj).2⟩
theorem IRow.congr {w : World} {b n : Nat} {f g : Nat → Int} (h : IRow w b n f) (e : ∀ j, j < n → f j = g j) : IRow w b n g := fun j hj => by rw [← e j hj]; exact h j hj
theorem IRow.set {w : World} {b n k : Nat} {f : Nat → Int} (h : IRow w b n f) (u : Int) : IRow (w.setCell ⟨b, k, none⟩ (.int .i64 u)) b n (fun j => if j = k then u else f j) := fun j hj => by
 refine ⟨?_, by rw [World.frozen?_setCell]; exact (h j hj).2⟩
 by_cases e : j = k
 ·subst e
  simp only [if_true]
  exact World.cell?_setCell_same' _ _ _ (by rw [(h j hj).1]; rfl)
 ·simp only [if_neg e]
  rw [World.cell?_setCell_other _ _ _ _ (by simp <;> omega)]
  exact (h j hj).1
theorem brow_kp {w w' : World} {b n : Nat} {f : Nat → Bool} (h : BRow w b n f) (hb : w'.heap[b]? = w.heap[b]?) : BRow w' b n f := h.keep fun _ => hb
theorem own_kp {α : Type} {R : Rd α} {e : TypeId} {w w' : World} {base : Nat} {v : Value} {l : List α} {row : Option Nat} (h : Own R e w base v l) (hg : w.grownBy w' row) (hne : ∀ b, v.ownBlock = some b → row ≠ some b) (hok : ∀ x ∈ l, R.ok w x → R.ok w' x) : Own R e w' base v l :=
 h.kept hg (by
  cases hv : v.ownBlock with
  | none => exact .inl rfl
  | some b => exact .inr fun e => hne b hv e.symm) hok

def wkd : Worker := ⟨ByteArray.empty, ⟨none, 0, 0, []⟩, 0, 0, 0, 0, ⟨none, 0, 0, []⟩⟩
def wod : Work := ⟨ByteArray.empty, ⟨none, 0, 0, []⟩, 0, ⟨none, 0, 0, []⟩⟩
def wkOf (x : Farm) (k : Nat) : Worker := x.workers.l.getD k wkd
def woOf (x : Farm) (i : Nat) : Work := x.works.l.getD i wod
theorem wkOf_get {x : Farm} {k : Nat} {w : Worker} (h : x.workers.l[k]? = some w) : wkOf x k = w := by unfold wkOf; rw [List.getD_eq_getElem?_getD, h]; rfl
theorem woOf_get {x : Farm} {k : Nat} {w : Work} (h : x.works.l[k]? = some w) : woOf x k = w := by unfold woOf; rw [List.getD_eq_getElem?_getD, h]; rfl

/-- what a farm asks -/
def fpOf (x : Farm) (o : List Nat) : FP where
 nW := x.workers.l.length
 nX := x.works.l.length
 fit := fun k i => fitF (woOf x i).needs.l (wkOf x k).has.l
 wfrom := fun k => (wkOf x k).from_
 wto := fun k => (wkOf x k).to_
 slots := fun k => (wkOf x k).slots
 speed := fun k => (wkOf x k).speed
 endAt := fun k i t => if (endsF (wkOf x k) (woOf x i).size t).2 = true then some (endsF (wkOf x k) (woOf x i).size t).1 else none
 secs := fun k i => secsF (wkOf x k) (woOf x i).size
 loss := fun k t => decide ((⟨(wkOf x k).name, t⟩ : Loss) ∈ x.lost.l)
 lossAt := x.lost.l.map (·.at_)
 tries := x.tries
 doubles := x.doubles
 order := o
 after := gOf x.works.l
/-- a farm that is right -/
structure FarmOk (x : Farm) : Prop where
 wk : ∀ w ∈ x.workers.l, workerF w = 0
 wkr : x.workers.l.Pairwise fun a b => cmpS a.name b.name = -1
 wkn : x.workers.l.length ≤ 50
 wo : WOk x.works.l
 lon : x.lost.l.length ≤ 200
 lo : ∀ s ∈ x.lost.l, (∃ w ∈ x.workers.l, w.name = s.worker) ∧ 0 ≤ s.at_ ∧ s.at_ ≤ 1000000000
 tri : 1 ≤ x.tries ∧ x.tries ≤ 10

/-- what a run that goes on is in memory, and one that ended -/
def gr (F : FP) (r : RR) : GRun := ⟨r.work, r.worker, r.from_, (F.endAt r.worker r.work r.from_).getD (-1)⟩
def toRun (x : Farm) (r : RR) : Run := ⟨(woOf x r.work).id_, (wkOf x r.worker).name, r.from_, r.to_, r.end_⟩

/-- the parts of a farm at work that stay -/
structure FX where
 x : Farm
 S : List Int
 F : FP
 base : Nat
 f : Nat
 mb : Nat
 cb : Nat
 db : Nat
 lb : Nat
 tb : Nat
 gb : Nat
 c : Nat
def FX.N (X : FX) : Nat := X.x.works.n
def FX.bl (X : FX) : List Nat := [X.f, X.mb, X.cb, X.db, X.lb, X.tb, X.gb]
def FX.cells (X : FX) (now : Int) (rv ov : Value) : List Value :=
 [.slice X.x.workers.A X.x.workers.n X.x.workers.cap, .slice X.x.works.A X.x.works.n X.x.works.cap, .slice X.x.lost.A X.x.lost.n X.x.lost.cap, .int .i64 X.x.tries, .bool X.x.doubles,
 .slice (some ⟨X.cb, 0, none⟩) X.N X.N, .map (some X.mb), .int .i64 now, rv, .slice (some ⟨X.db, 0, none⟩) X.N X.N, .slice (some ⟨X.lb, 0, none⟩) X.N X.N, ov, .slice (some ⟨X.tb, 0, none⟩) X.N X.N, .slice (some ⟨X.gb, 0, none⟩) X.N X.N]
/-- a state that lies in memory: but for the runs that go on -/
structure FC (X : FX) (K : KD Tryz.prog 71 Loss) (rv ov : Value) (s : PS) (w0 W : World) : Prop where
 blk : Blk W X.f (X.cells s.now rv ov)
 crit : Sms W X.cb X.N X.S
 done : BRow W X.db X.N s.done
 lost : IRow W X.lb X.N s.lost
 last : IRow W X.tb X.N s.last
 begun : IRow W X.gb X.N s.begun
 map : TMap K (fun b : Bool => Value.bool b) W X.mb (fun l => if l ∈ X.x.lost.l then some true else none) X.c
 out : Own RRun 34 W X.base ov (s.out.map (toRun X.x))
 nd : X.bl.Nodup
 ge : ∀ b ∈ X.bl, X.base ≤ b
 lt : ∀ b ∈ X.bl, b < W.heap.size
 apart : ∀ b ∈ X.bl, ov.ownBlock ≠ some b
 base : X.base = w0.heap.size
 bel : Below w0.heap.size w0 W

section
variable {X : FX} {K : KD Tryz.prog 71 Loss} {rv ov : Value} {s : PS} {w0 W W' : World}
theorem FC.memf (h : FC X K rv ov s w0 W) : X.f ∈ X.bl ∧ X.mb ∈ X.bl ∧ X.cb ∈ X.bl ∧ X.db ∈ X.bl ∧ X.lb ∈ X.bl ∧ X.tb ∈ X.bl ∧ X.gb ∈ X.bl := by unfold FX.bl; simp
theorem FC.ne (h : FC X K rv ov s w0 W) : X.f ≠ X.mb ∧ X.f ≠ X.cb ∧ X.f ≠ X.db ∧ X.f ≠ X.lb ∧ X.f ≠ X.tb ∧ X.f ≠ X.gb ∧ X.mb ≠ X.cb ∧ X.mb ≠ X.db ∧ X.mb ≠ X.lb ∧ X.mb ≠ X.tb ∧ X.mb ≠ X.gb ∧ X.cb ≠ X.db ∧ X.cb ≠ X.lb ∧ X.cb ≠ X.tb ∧ X.cb ≠ X.gb ∧ X.db ≠ X.lb ∧ X.db ≠ X.tb ∧ X.db ≠ X.gb ∧ X.lb ≠ X.tb ∧ X.lb ≠ X.gb ∧ X.tb ≠ X.gb := by
 have := h.nd
 simp only [FX.bl, List.nodup_cons, List.mem_cons, List.not_mem_nil, or_false, not_or] at this
 obtain ⟨⟨a1, a2, a3, a4, a5, a6⟩, ⟨b1, b2, b3, b4, b5⟩, ⟨c1, c2, c3, c4⟩, ⟨d1, d2, d3⟩, ⟨e1, e2⟩, f1, _⟩ := this
 exact ⟨a1, a2, a3, a4, a5, a6, b1, b2, b3, b4, b5, c1, c2, c3, c4, d1, d2, d3, e1, e2, f1⟩
theorem run_ok_any (w w' : World) (x : Run) (h : RRun.ok w x) : RRun.ok w' x := h
/-- what one block's turning leaves -/
theorem FC.parts (h : FC X K rv ov s w0 W) {row : Option Nat} (hg : W.grownBy W' row) :
  (row ≠ some X.f → Blk W' X.f (X.cells s.now rv ov)) ∧ (row ≠ some X.cb → Sms W' X.cb X.N X.S) ∧ (row ≠ some X.db → BRow W' X.db X.N s.done) ∧ (row ≠ some X.lb → IRow W' X.lb X.N s.lost) ∧ (row ≠ some X.tb → IRow W' X.tb X.N s.last) ∧
  (row ≠ some X.gb → IRow W' X.gb X.N s.begun) ∧ (row ≠ some X.mb → TMap K (fun b : Bool => Value.bool b) W' X.mb (fun l => if l ∈ X.x.lost.l then some true else none) X.c) ∧
  ((∀ b, ov.ownBlock = some b → row ≠ some b) → Own RRun 34 W' X.base ov (s.out.map (toRun X.x))) ∧ (∀ b ∈ X.bl, b < W'.heap.size) ∧ ((∀ b, row = some b → X.base ≤ b) → Below w0.heap.size w0 W') := by
 obtain ⟨m1, m2, m3, m4, m5, m6, m7⟩ := h.memf
 have hk : ∀ b, b ∈ X.bl → row ≠ some b → W'.heap[b]? = W.heap[b]? := fun b hb hne => hg.block b (h.lt b hb) (fun e => hne e.symm)
 refine ⟨fun e => h.blk.keep (hk _ m1 e), fun e => h.crit.keep (hk _ m3 e), fun e => brow_kp h.done (hk _ m4 e), fun e => h.lost.keep (hk _ m5 e), fun e => h.last.keep (hk _ m6 e), fun e => h.begun.keep (hk _ m7 e),
  fun e => h.map.kept hg (fun e2 => e e2.symm), fun e => own_kp h.out hg e (fun x _ hx => run_ok_any _ _ x hx), fun b hb => Nat.lt_of_lt_of_le (h.lt b hb) hg.size, fun e => ?_⟩
 exact h.bel.grown hg h.bel.size (fun b hb => by have := e b hb; rw [h.base] at this; exact this)
theorem below_g {w w' : World} (h : Below w.heap.size w w') : w.grownBy w' none := ⟨h.os, h.tape, h.output, h.size, fun k hk _ => h.block k hk⟩
theorem FC.below (h : FC X K rv ov s w0 W) (hb : Below W.heap.size W W') : FC X K rv ov s w0 W' := by
 obtain ⟨p1, p2, p3, p4, p5, p6, p7, p8, p9, p10⟩ := h.parts (below_g hb)
 exact ⟨p1 (by simp), p2 (by simp), p3 (by simp), p4 (by simp), p5 (by simp), p6 (by simp), p7 (by simp), p8 (by simp), h.nd, h.ge, p9, h.apart, h.base, p10 (by simp)⟩
/-- another block than the farm's own turned -/
theorem FC.far (h : FC X K rv ov s w0 W) {row : Option Nat} (hg : W.grownBy W' row) (hb : ∀ b, row = some b → b ∉ X.bl ∧ ov.ownBlock ≠ some b ∧ X.base ≤ b) : FC X K rv ov s w0 W' := by
 obtain ⟨m1, m2, m3, m4, m5, m6, m7⟩ := h.memf
 obtain ⟨p1, p2, p3, p4, p5, p6, p7, p8, p9, p10⟩ := h.parts hg
 have ne : ∀ c ∈ X.bl, row ≠ some c := fun c hc e => (hb c e).1 hc
 exact ⟨p1 (ne _ m1), p2 (ne _ m3), p3 (ne _ m4), p4 (ne _ m5), p5 (ne _ m6), p6 (ne _ m7), p7 (ne _ m2), p8 (fun c hc e => (hb c e).2.1 hc), h.nd, h.ge, p9, h.apart, h.base, p10 (fun c hc => (hb c hc).2.2)⟩
theorem FC.lift (h : FC X K rv ov s w0 W) {b : Nat} (hb : b ∈ X.bl) (hg : W.grownBy W' (some b)) (s' : PS) (rv' : Value)
  (h1 : b = X.f ∧ Blk W' X.f (X.cells s'.now rv' ov) ∨ b ≠ X.f ∧ s'.now = s.now ∧ rv' = rv)
  (h2 : b = X.db ∧ BRow W' X.db X.N s'.done ∨ b ≠ X.db ∧ s'.done = s.done) (h3 : b = X.lb ∧ IRow W' X.lb X.N s'.lost ∨ b ≠ X.lb ∧ s'.lost = s.lost) (h4 : b = X.tb ∧ IRow W' X.tb X.N s'.last ∨ b ≠ X.tb ∧ s'.last = s.last)
  (h5 : b = X.gb ∧ IRow W' X.gb X.N s'.begun ∨ b ≠ X.gb ∧ s'.begun = s.begun) (h6 : b ≠ X.cb) (h7 : b ≠ X.mb) (ho : s'.out = s.out) : FC X K rv' ov s' w0 W' := by
 obtain ⟨p1, p2, p3, p4, p5, p6, p7, p8, p9, p10⟩ := h.parts hg
 have ne : ∀ c, b ≠ c → some b ≠ some c := fun c hc e => hc (by injection e)
 refine ⟨?_, p2 (ne _ h6), ?_, ?_, ?_, ?_, p7 (ne _ h7), ?_, h.nd, h.ge, p9, h.apart, h.base, p10 (fun c hc => by injection hc with hc; rw [← hc]; exact h.ge b hb)⟩
 ·rcases h1 with ⟨_, h1⟩ | ⟨h1, e1, e2⟩
  ·exact h1
  ·rw [e1, e2]; exact p1 (ne _ h1)
 ·rcases h2 with ⟨_, h2⟩ | ⟨h2, e⟩
  ·exact h2
  ·rw [e]; exact p3 (ne _ h2)
 ·rcases h3 with ⟨_, h3⟩ | ⟨h3, e⟩
  ·exact h3
  ·rw [e]; exact p4 (ne _ h3)
 ·rcases h4 with ⟨_, h4⟩ | ⟨h4, e⟩
  ·exact h4
  ·rw [e]; exact p5 (ne _ h4)
 ·rcases h5 with ⟨_, h5⟩ | ⟨h5, e⟩
  ·exact h5
  ·rw [e]; exact p6 (ne _ h5)
 ·rw [ho]; exact p8 (fun c hc e => h.apart b hb (by rw [hc, e]))
theorem FC.setDone (h : FC X K rv ov s w0 W) (k : Nat) (u : Bool) : FC X K rv ov { s with done := fun j => if j = k then u else s.done j } w0 (W.setCell ⟨X.db, k, none⟩ (.bool u)) := by
 obtain ⟨m1, m2, m3, m4, m5, m6, m7⟩ := h.memf
 obtain ⟨e1, e2, e3, e4, e5, e6, f1, f2, f3, f4, f5, g1, g2, g3, g4, i1, i2, i3, j1, j2, k1⟩ := h.ne
 exact h.lift m4 (grown_setc W ⟨X.db, k, none⟩ _) _ rv (.inr ⟨e3.symm, rfl, rfl⟩) (.inl ⟨rfl, h.done.set u⟩) (.inr ⟨i1, rfl⟩) (.inr ⟨i2, rfl⟩) (.inr ⟨i3, rfl⟩) g1.symm f2.symm rfl
theorem FC.setLost (h : FC X K rv ov s w0 W) (k : Nat) (u : Int) : FC X K rv ov { s with lost := fun j => if j = k then u else s.lost j } w0 (W.setCell ⟨X.lb, k, none⟩ (.int .i64 u)) := by
 obtain ⟨m1, m2, m3, m4, m5, m6, m7⟩ := h.memf
 obtain ⟨e1, e2, e3, e4, e5, e6, f1, f2, f3, f4, f5, g1, g2, g3, g4, i1, i2, i3, j1, j2, k1⟩ := h.ne
 exact h.lift m5 (grown_setc W ⟨X.lb, k, none⟩ _) _ rv (.inr ⟨e4.symm, rfl, rfl⟩) (.inr ⟨i1.symm, rfl⟩) (.inl ⟨rfl, h.lost.set u⟩) (.inr ⟨j1, rfl⟩) (.inr ⟨j2, rfl⟩) g2.symm f3.symm rfl
theorem FC.setLast (h : FC X K rv ov s w0 W) (k : Nat) (u : Int) : FC X K rv ov { s with last := fun j => if j = k then u else s.last j } w0 (W.setCell ⟨X.tb, k, none⟩ (.int .i64 u)) := by
 obtain ⟨m1, m2, m3, m4, m5, m6, m7⟩ := h.memf
 obtain ⟨e1, e2, e3, e4, e5, e6, f1, f2, f3, f4, f5, g1, g2, g3, g4, i1, i2, i3, j1, j2, k1⟩ := h.ne
 exact h.lift m6 (grown_setc W ⟨X.tb, k, none⟩ _) _ rv (.inr ⟨e5.symm, rfl, rfl⟩) (.inr ⟨i2.symm, rfl⟩) (.inr ⟨j1.symm, rfl⟩) (.inl ⟨rfl, h.last.set u⟩) (.inr ⟨k1, rfl⟩) g3.symm f4.symm rfl
theorem FC.setBegun (h : FC X K rv ov s w0 W) (k : Nat) (u : Int) : FC X K rv ov { s with begun := fun j => if j = k then u else s.begun j } w0 (W.setCell ⟨X.gb, k, none⟩ (.int .i64 u)) := by
 obtain ⟨m1, m2, m3, m4, m5, m6, m7⟩ := h.memf
 obtain ⟨e1, e2, e3, e4, e5, e6, f1, f2, f3, f4, f5, g1, g2, g3, g4, i1, i2, i3, j1, j2, k1⟩ := h.ne
 exact h.lift m7 (grown_setc W ⟨X.gb, k, none⟩ _) _ rv (.inr ⟨e6.symm, rfl, rfl⟩) (.inr ⟨i3.symm, rfl⟩) (.inr ⟨j2.symm, rfl⟩) (.inr ⟨k1.symm, rfl⟩) (.inl ⟨rfl, h.begun.set u⟩) g4.symm f5.symm rfl
theorem FC.setNow (h : FC X K rv ov s w0 W) (u : Int) : FC X K rv ov { s with now := u } w0 (W.setCell ⟨X.f, 7, none⟩ (.int .i64 u)) := by
 obtain ⟨m1, m2, m3, m4, m5, m6, m7⟩ := h.memf
 obtain ⟨e1, e2, e3, e4, e5, e6, f1, f2, f3, f4, f5, g1, g2, g3, g4, i1, i2, i3, j1, j2, k1⟩ := h.ne
 exact h.lift m1 (grown_setc W ⟨X.f, 7, none⟩ _) _ rv (.inl ⟨rfl, h.blk.set (k := 7) (by simp [FX.cells]) _⟩) (.inr ⟨e3, rfl⟩) (.inr ⟨e4, rfl⟩) (.inr ⟨e5, rfl⟩) (.inr ⟨e6, rfl⟩) e2 e1 rfl
theorem FC.setRuns (h : FC X K rv ov s w0 W) (rv' : Value) (P : List RR) : FC X K rv' ov { s with runs := P } w0 (W.setCell ⟨X.f, 8, none⟩ rv') := by
 obtain ⟨m1, m2, m3, m4, m5, m6, m7⟩ := h.memf
 obtain ⟨e1, e2, e3, e4, e5, e6, f1, f2, f3, f4, f5, g1, g2, g3, g4, i1, i2, i3, j1, j2, k1⟩ := h.ne
 exact h.lift m1 (grown_setc W ⟨X.f, 8, none⟩ _) _ rv' (.inl ⟨rfl, h.blk.set (k := 8) (by simp [FX.cells]) _⟩) (.inr ⟨e3, rfl⟩) (.inr ⟨e4, rfl⟩) (.inr ⟨e5, rfl⟩) (.inr ⟨e6, rfl⟩) e2 e1 rfl
/-- what came out has grown, and its header is stored -/
theorem FC.setOut (h : FC X K rv ov s w0 W) {ov' : Value} {L : List RR} (hg : W.grownBy W' ov.ownBlock) (ho : Own RRun 34 W' X.base ov' (L.map (toRun X.x))) (hat : ∀ b, ov'.ownBlock = some b → ov.ownBlock = some b ∨ W.heap.size ≤ b) :
  FC X K rv ov' { s with out := L } w0 (W'.setCell ⟨X.f, 11, none⟩ ov') := by
 obtain ⟨m1, m2, m3, m4, m5, m6, m7⟩ := h.memf
 obtain ⟨e1, e2, e3, e4, e5, e6, f1, f2, f3, f4, f5, g1, g2, g3, g4, i1, i2, i3, j1, j2, k1⟩ := h.ne
 obtain ⟨p1, p2, p3, p4, p5, p6, p7, p8, p9, p10⟩ := h.parts hg
 have ne : ∀ c ∈ X.bl, ov.ownBlock ≠ some c := fun c hc => h.apart c hc
 have hap : ∀ b ∈ X.bl, ov'.ownBlock ≠ some b := fun b hb e => by
  rcases hat b e with e2 | hc
  ·exact ne b hb e2
  ·have := h.lt b hb; omega
 have hg2 := grown_setc W' ⟨X.f, 11, none⟩ ov'
 have hk : ∀ b, b ∈ X.bl → b ≠ X.f → (W'.setCell ⟨X.f, 11, none⟩ ov').heap[b]? = W'.heap[b]? := fun b hb hne => hg2.block b (p9 b hb) (fun e => hne (by injection e))
 have hbel := p10 (fun b hb => (h.out.1.lt b hb).1)
 exact ⟨(p1 (ne _ m1)).set (k := 11) (by simp [FX.cells]) _, (p2 (ne _ m3)).keep (hk _ m3 e2.symm), brow_kp (p3 (ne _ m4)) (hk _ m4 e3.symm), (p4 (ne _ m5)).keep (hk _ m5 e4.symm), (p5 (ne _ m6)).keep (hk _ m6 e5.symm), (p6 (ne _ m7)).keep (hk _ m7 e6.symm),
  (p7 (ne _ m2)).setCell (by simpa using e1.symm) _, own_kp ho hg2 (fun b hb e => hap X.f m1 (by rw [hb]; exact e.symm)) (fun x _ hx => run_ok_any _ _ x hx), h.nd, h.ge, fun b hb => by simpa using p9 b hb, hap, h.base,
  hbel.setCell (p := ⟨X.f, 11, none⟩) (by have := h.ge X.f m1; rw [h.base] at this; exact this) _⟩

/-- the runs that go on -/
structure FA (X : FX) (K : KD Tryz.prog 71 Loss) (rv ov : Value) (s : PS) (w0 W : World) : Prop where
 core : FC X K rv ov s w0 W
 runs : Own RGRun 144 W X.base rv (s.runs.map (gr X.F))
 rap : ∀ b ∈ X.bl, rv.ownBlock ≠ some b
 rov : ∀ b, rv.ownBlock = some b → ov.ownBlock ≠ some b
theorem grun_ok_any (w w' : World) (x : GRun) (h : RGRun.ok w x) : RGRun.ok w' x := h
theorem FA.below (h : FA X K rv ov s w0 W) (hb : Below W.heap.size W W') : FA X K rv ov s w0 W' := ⟨h.core.below hb, h.runs.below hb, h.rap, h.rov⟩
/-- the runs have grown, and their header is stored -/
theorem FA.put (h : FA X K rv ov s w0 W) {rv' : Value} {L : List RR} (hg : W.grownBy W' rv.ownBlock) (ho : Own RGRun 144 W' X.base rv' (L.map (gr X.F))) (hat : ∀ b, rv'.ownBlock = some b → rv.ownBlock = some b ∨ W.heap.size ≤ b) :
  FA X K rv' ov { s with runs := L } w0 (W'.setCell ⟨X.f, 8, none⟩ rv') := by
 have hlo : ∀ b, rv.ownBlock = some b → X.base ≤ b := fun b hb => (h.runs.1.lt b hb).1
 have hc := h.core.far hg (fun b hb => ⟨fun hm => h.rap b hm hb, h.rov b hb, hlo b hb⟩)
 have hap : ∀ b ∈ X.bl, rv'.ownBlock ≠ some b := fun b hb e => by
  rcases hat b e with e2 | e2
  ·exact h.rap b hb e2
  ·have := h.core.lt b hb; omega
 have hg2 := grown_setc W' ⟨X.f, 8, none⟩ rv'
 refine ⟨hc.setRuns rv' L, own_kp ho hg2 (fun b hb e => hap X.f h.core.memf.1 (by rw [hb]; exact e.symm)) (fun x _ hx => grun_ok_any _ _ x hx), hap, fun b hb e => ?_⟩
 rcases hat b hb with e2 | e2
 ·exact h.rov b e2 e
 ·have := (h.core.out.1.lt b e).2; omega
/-- what stays of a farm, and what is known of its state -/
structure FS (X : FX) (s : PS) (w0 : World) : Prop where
 ok : FarmOk X.x
 F : ∃ o, X.F = fpOf X.x o
 ws : (RSl RWorker).ok w0 X.x.workers
 xs : (RSl RWork).ok w0 X.x.works
 ls : (RSl RLoss).ok w0 X.x.lost
 t0 : 0 ≤ s.now
 t1 : s.now ≤ 1000000000
 rn : ∀ r ∈ s.runs, going r = true ∧ r.to_ = 0 ∧ r.worker < X.F.nW ∧ r.work < X.F.nX ∧ 0 ≤ r.from_ ∧ r.from_ ≤ s.now
end
end Go.Proofs.YtbnkoefljcekbaaGreatDoor.C9

namespace Go.Proofs.YtbnkoefljcekbaaGreatDoor.C9
open Go.RowKit
set_option linter.unusedVariables false

def workersErr : Option ByteArray → List Worker → Int
 | _, [] => 0
 | p, x :: r => if workerF x = 0 then (if p.map (sle x.name ·) = some true then 8 else workersErr (some x.name) r) else workerF x
def prevWk (l : List Worker) (k : Nat) : Option ByteArray := if k = 0 then none else (l[k - 1]?).map (·.name)
def workersF (l : List Worker) : Int := if l.length ≤ 50 then workersErr none l else 2
def WksRel (l : List Worker) (c : Int) (w0 : World) (i : Value) (wr : World) : Prop :=
 ∃ k : Nat, k ≤ l.length ∧ i = .int .i64 k ∧ workersErr (prevWk l k) (l.drop k) = c ∧ Below w0.heap.size w0 wr


set_option maxHeartbeats 2000000 in
theorem workers_ok (A : Option Addr) (len cap : Nat) (l : List Worker) (w : World) (hlen : len ≤ 50) (hl : SlAt RWorker w A len l) (c : Int) (hF : workersErr none l = c) :
  Calls Tryz.prog 36 #[.slice A len cap] w fun e w' => e = .returned (.int .i64 c) ∧ Below w.heap.size w w' := by
 have hll := hl.1
 have hllH := Lib.hid hll; have hFH := Lib.hid hF; have hlH := Lib.hid hl; clear hll hF hl
 go_enter Tryz.func36, Tryz.ntmps36
 go_wp2
 go_loopw [11] (fun i wr => WksRel l c w i wr) (fun i _ => len - (intOf i).toNat)
 case atStart => exact ⟨0, Nat.zero_le _, rfl, hFH.out, Below.refl _ _⟩
 case round =>
  obtain ⟨k, hk, rfl, hck, hb⟩ := hrel
  have hkl : k ≤ len := by have := hllH.out; omega
  have hbs := hb.size
  by_cases hlt : k < len
  ·obtain ⟨b, off, hA, _⟩ := hlH.out.2.1 (by omega)
   subst hA
   obtain ⟨x, hx⟩ : ∃ x, l[k]? = some x := ⟨l[k]'(by have := hllH.out; omega), List.getElem?_eq_getElem _⟩
   obtain ⟨c0, c1, c2, c3, c4, c5, c6⟩ := cells_Worker (hlH.out.below hb) hx
   have hok := hlH.out.2.2 x (List.mem_of_getElem? hx)
   rw [drop_cons hx, workersErr] at hck
   have hkl2 : k + 1 ≤ l.length := by have := hllH.out; omega
   have hpn : prevWk l (k + 1) = some x.name := by rw [prevWk, if_neg (by omega), show k + 1 - 1 = k from rfl, hx]; rfl
   obtain ⟨f, hf⟩ : ∃ f, workerF x = f := ⟨_, rfl⟩
   rw [hf] at hck
   obtain ⟨nm, has, sl, sp, fr, tz, st⟩ := x
   simp only at c0 c1 c2 c3 c4 c5 c6 hck hpn
   have hba := hb.alloc hbs (.cells #[.string nm, .slice has.A has.n has.cap, .int .i64 sl, .int .i64 sp, .int .i64 fr, .int .i64 tz, .slice st.A st.n st.cap] 84)
   have hbas := hba.size
   have hxH := Lib.hid hx; have hckH := Lib.hid hck; have hbH := Lib.hid hb; have hbaH := Lib.hid hba; have hbasH := Lib.hid hbas; have hokH := Lib.hid hok; have hfH := Lib.hid hf; have hpnH := Lib.hid hpn; have hkl2H := Lib.hid hkl2; clear hx hck hb hba hbas hok hf hpn hkl2
   go_wp2_with fail
   refine (worker_any ⟨nm, has, sl, sp, fr, tz, st⟩ _ (RWorker.mono _ _ _ hbaH.out hokH.out) f hfH.out).mono ?_
   rintro e w1 ⟨rfl, hw1⟩
   have q0 : w1.cell? ⟨wr.heap.size, 0, none⟩ = some (.string nm) := (hw1.cell (by simp)).trans (cell_new _ _ _ 0)
   have hbw1 := hbaH.out.trans (hw1.mono hbasH.out)
   clear c0 c1 c2 c3 c4 c5 c6
   have hw1H := Lib.hid hw1; have hbw1H := Lib.hid hbw1; clear hw1 hbw1
   have hck := hckH.out
   clear hckH
   by_cases hf0 : f = 0
   ·subst hf0
    rw [if_pos rfl] at hck
    by_cases hk0 : k = 0
    ·subst hk0
     have R : ∀ nq, WksRel l c w (.int .i64 1) (w1.drewN nq) := by
      refine fun nq => ⟨1, hkl2H.out, by go_num, ?_, bel_drewN hbw1H.out nq⟩
      rw [prevWk, if_pos rfl, Option.map_none, if_neg (by decide)] at hck
      rw [hpnH.out]
      exact hck
     clear hck
     have RH := Lib.hid R; clear R
     go_wp2_with fail
     go_quiet (fail)
     go_wp2
     refine ⟨?rel, ?measure⟩
     case measure => (simp [intOf]; omega)
     case rel => first | exact (RH.out _) | exact ⟨rfl, (RH.out _)⟩ | ((try refine ⟨rfl, ?_⟩); (repeat apply Exists.intro); refine ⟨(RH.out _), ?_⟩; ((repeat' apply And.intro) <;> rfl))
    ·obtain ⟨j, rfl⟩ : ∃ j, k = j + 1 := ⟨k - 1, by omega⟩
     obtain ⟨y, hy⟩ : ∃ y, l[j]? = some y := ⟨l[j]'(by have := hllH.out; omega), List.getElem?_eq_getElem _⟩
     obtain ⟨d0, _⟩ := cells_Worker (hlH.out.below hbw1H.out) hy
     have hpr : prevWk l (j + 1) = some y.name := by rw [prevWk, if_neg (by omega), show j + 1 - 1 = j from rfl, hy]; rfl
     rw [hpr, Option.map_some] at hck
     clear hpr
     obtain ⟨yn, yr⟩ : ∃ yn, y.name = yn := ⟨_, rfl⟩
     rw [yr] at d0 hck
     cases hle : sle nm yn
     ·have hle' : (Op.bytesLess nm.toList yn.toList || nm.toList == yn.toList) = false := hle
      rw [hle, if_neg (by decide)] at hck
      have R : ∀ nq, WksRel l c w (.int .i64 (j + 1 + 1)) (w1.drewN nq) := by
       refine fun nq => ⟨j + 1 + 1, hkl2H.out, by go_num, ?_, bel_drewN hbw1H.out nq⟩
       rw [hpnH.out]
       exact hck
      clear hck
      have hleH := Lib.hid hle; have hyH := Lib.hid hy; have yrH := Lib.hid yr; have RH := Lib.hid R; clear hle hy yr R
      go_wp2_with fail
      go_quiet (fail)
      go_wp2
      refine ⟨?rel, ?measure⟩
      case measure => (simp [intOf]; omega)
      case rel => first | exact (RH.out _) | exact ⟨rfl, (RH.out _)⟩ | ((try refine ⟨rfl, ?_⟩); (repeat apply Exists.intro); refine ⟨(RH.out _), ?_⟩; ((repeat' apply And.intro) <;> rfl))
     ·have hle' : (Op.bytesLess nm.toList yn.toList || nm.toList == yn.toList) = true := hle
      rw [hle, if_pos rfl] at hck
      have hleH := Lib.hid hle; have hckH := Lib.hid hck; have hyH := Lib.hid hy; have yrH := Lib.hid yr; clear hle hck hy yr
      go_wp2_with fail
      go_quiet (fail)
      go_wp2
      go_ret
      exact ⟨ret1_int hckH.out, bel_drewN hbw1H.out _⟩
   ·rw [if_neg hf0] at hck
    have hf1 : (f != 0) = true := by simpa using hf0
    clear q0
    have hckH := Lib.hid hck; have hf0H := Lib.hid hf0; clear hck hf0
    go_wp2
    go_ret
    exact ⟨ret1_int hckH.out, hbw1H.out⟩
  ·have e : l.drop k = [] := List.drop_eq_nil_of_le (by have := hllH.out; omega)
   rw [e] at hck
   have hc0 : 0 = c := by rw [← hck]; unfold workersErr; rfl
   have hckH := Lib.hid hck; have hbH := Lib.hid hb; have eH := Lib.hid e; have hc0H := Lib.hid hc0; clear hck hb e hc0
   go_wp2
   go_ret
   exact ⟨ret1_int hc0H.out, hbH.out⟩
theorem workers_any (A : Option Addr) (len cap : Nat) (l : List Worker) (w : World) (hl : SlAt RWorker w A len l) (c : Int) (hF : workersF l = c) :
  Calls Tryz.prog 36 #[.slice A len cap] w fun e w' => e = .returned (.int .i64 c) ∧ Below w.heap.size w w' := by
 unfold workersF at hF
 rw [hl.1] at hF
 by_cases h : len ≤ 50
 ·rw [if_pos h] at hF
  exact workers_ok A len cap l w h hl c hF
 ·rw [if_neg h] at hF
  subst hF
  clear hl
  go_enter Tryz.func36, Tryz.ntmps36
  go_wp2
  go_ret
  exact ⟨rfl, Below.refl _ _⟩
end Go.Proofs.YtbnkoefljcekbaaGreatDoor.C9

namespace Go.Proofs.YtbnkoefljcekbaaGreatDoor.C9
open Go.RowKit
set_option linter.unusedVariables false

def hasNm (l : List Worker) (s : ByteArray) : Bool := l.any (fun x => decide (x.name = s))
def ixNm (l : List Worker) (s : ByteArray) : Nat := l.findIdx (fun x => decide (x.name = s))
theorem ixNm_get {l : List Worker} {s : ByteArray} (h : hasNm l s = true) : ∃ x, l[ixNm l s]? = some x ∧ x.name = s := by
 have hlt : ixNm l s < l.length := by
  rw [hasNm, List.any_eq_true] at h
  exact List.findIdx_lt_length_of_exists h
 refine ⟨l[ixNm l s], List.getElem?_eq_getElem hlt, ?_⟩
 have := List.findIdx_getElem (w := hlt)
 exact of_decide_eq_true this
/-- in a rising list the number is what any search finds -/
theorem ixNm_eq {l : List Worker} (hr : l.Pairwise fun a b => cmpS a.name b.name = -1) {k : Nat} {x : Worker} (hx : l[k]? = some x) : ixNm l x.name = k ∧ hasNm l x.name = true := by
 have hin : hasNm l x.name = true := by
  rw [hasNm, List.any_eq_true]
  exact ⟨x, List.mem_of_getElem? hx, decide_eq_true rfl⟩
 refine ⟨?_, hin⟩
 obtain ⟨y, hy, hyx⟩ := ixNm_get hin
 obtain ⟨h1, e1⟩ := List.getElem?_eq_some_iff.1 hx
 obtain ⟨h2, e2⟩ := List.getElem?_eq_some_iff.1 hy
 have hp := List.pairwise_iff_getElem.1 hr
 rcases Nat.lt_trichotomy (ixNm l x.name) k with h | h | h
 ·have := hp _ _ h2 h1 h
  rw [e1, e2, hyx, (cmpS_zero _ _).2 rfl] at this
  cases this
 ·exact h
 ·have := hp _ _ h1 h2 h
  rw [e1, e2, hyx, (cmpS_zero _ _).2 rfl] at this
  cases this
set_option maxHeartbeats 1000000 in
theorem workerAt1_any (x : Worker) (s : ByteArray) (w : World) :
  Calls Tryz.prog 87 #[.agg #[.string x.name, .slice x.has.A x.has.n x.has.cap, .int .i64 x.slots, .int .i64 x.speed, .int .i64 x.from_, .int .i64 x.to_, .slice x.stands.A x.stands.n x.stands.cap], .string s] w fun e w' => e = .returned (.int .i64 (cmpS x.name s)) ∧ Below w.heap.size w w' := by
 have hba := (Below.refl w.heap.size w).alloc (Nat.le_refl _) (.cells #[.string x.name, .slice x.has.A x.has.n x.has.cap, .int .i64 x.slots, .int .i64 x.speed, .int .i64 x.from_, .int .i64 x.to_, .slice x.stands.A x.stands.n x.stands.cap] 84)
 have hbaH := Lib.hid hba; clear hba
 go_enter Tryz.func87, Tryz.ntmps87
 go_wp2_with (go_at_call 42; refine (Tryz.strings_Compare _ _ _).mono ?_; rintro e w1 ⟨rfl, rfl⟩)
 go_ret
 exact ⟨rfl, hbaH.out⟩

theorem split_ltK (s : ByteArray) : ∀ (l : List Worker), (l.Pairwise fun a b => cmpS a.name b.name = -1) → ∃ k0, k0 ≤ l.length ∧ (∀ t x, l[t]? = some x → t < k0 → cmpS x.name s = -1) ∧ (∀ t x, l[t]? = some x → k0 ≤ t → cmpS x.name s ≠ -1)
 | [], _ => ⟨0, Nat.le_refl _, fun t x h => by simp at h, fun t x h => by simp at h⟩
 | y :: r, h => by
  rw [List.pairwise_cons] at h
  by_cases hy : cmpS y.name s = -1
  ·obtain ⟨k, hk, h1, h2⟩ := split_ltK s r h.2
   refine ⟨k + 1, by rw [List.length_cons]; omega, fun t x hx ht => ?_, fun t x hx ht => ?_⟩
   ·cases t with
    | zero => simp at hx; subst hx; exact hy
    | succ t => exact h1 t x (by simpa using hx) (by omega)
   ·cases t with
    | zero => omega
    | succ t => exact h2 t x (by simpa using hx) (by omega)
  ·refine ⟨0, Nat.zero_le _, fun t x _ ht => by omega, fun t x hx _ => ?_⟩
   cases t with
   | zero => simp at hx; subst hx; exact hy
   | succ t =>
    intro hc
    exact hy (cmpS_trans (h.1 x (List.mem_of_getElem? (by simpa using hx))) hc)


set_option maxHeartbeats 4000000 in
theorem bsf_worker (A : Option Addr) (n c : Nat) (l : List Worker) (s : ByteArray) (w : World) (hn : n ≤ 1000) (hl : SlAt RWorker w A n l) (hr : l.Pairwise fun a b => cmpS a.name b.name = -1) :
  Calls Tryz.prog 86 #[.slice A n c, .string s, .func (.func 87) #[] #[]] w fun e w' =>
   ∃ i : Nat, e = .returned (.tuple #[.int .i64 i, .bool (hasNm l s)]) ∧ (hasNm l s = true → i = ixNm l s) ∧ Below w.heap.size w w' := by
 have hll := hl.1
 have eg : ∀ args w, (callFunc 87 args).run Tryz.prog w = .ok (.enter 87 args) w := enters_of Tryz.func87 (by kernel_rfl) rfl
 obtain ⟨k0, hk0, hlo, hhi⟩ := split_ltK s l hr
 have hno : (∀ (t : Nat) (x : Worker), l[t]? = some x → x.name ≠ s) → hasNm l s = false := fun h => by
  rw [hasNm, List.any_eq_false]
  intro x hx
  obtain ⟨t, ht, rfl⟩ := List.getElem_of_mem hx
  simpa using h t _ (List.getElem?_eq_getElem ht)
 obtain ⟨f, hf⟩ : ∃ f, hasNm l s = f := ⟨_, rfl⟩
 rw [hf]
 have hlH := Lib.hid hl; have hllH := Lib.hid hll; have hrH := Lib.hid hr; have hloH := Lib.hid hlo; have hhiH := Lib.hid hhi; have hnoH := Lib.hid hno; have hfH := Lib.hid hf; clear hl hll hr hlo hhi hno hf
 go_enter Tryz.func86, Tryz.ntmps86
 go_wp2
 go_loopw [9, 10] (fun vi vj wr => BsRel k0 n w vi vj wr) (fun vi vj _ => (intOf vj).toNat - (intOf vi).toNat)
 case atStart => exact ⟨0, n, rfl, rfl, Nat.zero_le _, by have := hllH.out; omega, Nat.le_refl _, Below.refl _ _⟩
 case round =>
  obtain ⟨i, j, rfl, rfl, hi, hj, hjn, hb⟩ := hrel
  have hbs := hb.size
  by_cases hlt : i < j
  ·obtain ⟨b, off, hA, _⟩ := hlH.out.2.1 (by omega)
   subst hA
   obtain ⟨x, hx⟩ : ∃ x, l[(i + j) / 2]? = some x := ⟨l[(i + j) / 2]'(by have := hllH.out; omega), List.getElem?_eq_getElem _⟩
   obtain ⟨c0, c1, c2, c3, c4, c5, c6⟩ := cells_Worker (hlH.out.below hb) hx
   have e1 : ((i : Int) + (j : Int)) / 2 = (((i + j) / 2 : Nat) : Int) := by omega
   by_cases hc : cmpS x.name s = -1
   ·have hneg : (cmpS x.name s < 0) = True := by rw [hc]; decide
    have hik : (i + j) / 2 < k0 := by
     rcases Nat.lt_or_ge ((i + j) / 2) k0 with h | h
     ·exact h
     ·exact absurd hc (hhiH.out _ x hx h)
    have R : ∀ w', Below wr.heap.size wr w' → BsRel k0 n w (.int .i64 (((i : Int) + (j : Int)) / 2 + 1)) (.int .i64 j) w' := fun w' h => ⟨(i + j) / 2 + 1, j, by rw [e1]; rfl, rfl, by omega, hj, hjn, hb.trans (h.mono hbs)⟩
    obtain ⟨cx, hcx⟩ : ∃ c, cmpS x.name s = c := ⟨_, rfl⟩
    rw [hcx] at hc
    subst hc
    clear hneg
    have hxH := Lib.hid hx; have hbH := Lib.hid hb; have e1H := Lib.hid e1; have RH := Lib.hid R; have hikH := Lib.hid hik; have hcxH := Lib.hid hcx; clear hx hb e1 R hik hcx
    go_wp2_with (go_at_fn 87; refine (workerAt1_any x s _).mono ?_; rintro e w' ⟨rfl, hb'⟩; rw [hcxH.out]; have hb'H := Lib.hid hb'; clear hb')
    refine ⟨?rel, ?measure⟩
    case measure => simp [intOf]; omega
    case rel => exact RH.out _ hb'H.out
   ·have hik : k0 ≤ (i + j) / 2 := by
     rcases Nat.lt_or_ge ((i + j) / 2) k0 with h | h
     ·exact absurd (hloH.out _ x hx h) hc
     ·exact h
    obtain ⟨cx, hcx⟩ : ∃ c, cmpS x.name s = c := ⟨_, rfl⟩
    have hcr := cmpS_range x.name s
    rw [hcx] at hc hcr
    have hnn : decide (cx < 0) = false := decide_eq_false (by omega)
    have R : ∀ w', Below wr.heap.size wr w' → BsRel k0 n w (.int .i64 i) (.int .i64 (((i : Int) + (j : Int)) / 2)) w' := fun w' h => ⟨i, (i + j) / 2, rfl, by rw [e1], hi, hik, by omega, hb.trans (h.mono hbs)⟩
    clear hcr hc
    have hxH := Lib.hid hx; have hbH := Lib.hid hb; have e1H := Lib.hid e1; have RH := Lib.hid R; have hikH := Lib.hid hik; have hcxH := Lib.hid hcx; clear hx hb e1 R hik hcx
    go_wp2_with (go_at_fn 87; refine (workerAt1_any x s _).mono ?_; rintro e w' ⟨rfl, hb'⟩; rw [hcxH.out]; have hb'H := Lib.hid hb'; clear hb')
    refine ⟨?rel, ?measure⟩
    case measure => simp [intOf]; omega
    case rel => exact RH.out _ hb'H.out
  ·have hij : i = k0 := by omega
   have hjk : j = k0 := by omega
   subst hij
   subst hjk
   by_cases hkn : j < n
   ·obtain ⟨b, off, hA, _⟩ := hlH.out.2.1 (by omega)
    subst hA
    obtain ⟨x, hx⟩ : ∃ x, l[j]? = some x := ⟨l[j]'(by have := hllH.out; omega), List.getElem?_eq_getElem _⟩
    obtain ⟨c0, c1, c2, c3, c4, c5, c6⟩ := cells_Worker (hlH.out.below hb) hx
    have hf := hfH.out
    clear hfH
    have hfx : f = decide (x.name = s) ∧ (f = true → j = ixNm l s) := by
     by_cases hxs : x.name = s
     ·have := ixNm_eq hrH.out hx
      rw [hxs] at this
      rw [← hf]
      exact ⟨by rw [this.2, decide_eq_true hxs], fun _ => this.1.symm⟩
     ·have h0 : hasNm l s = false := hnoH.out fun t y hy hys => by
       rcases Nat.lt_or_ge t j with h | h
       ·have := hloH.out t y hy h
        rw [hys, (cmpS_zero _ _).2 rfl] at this; cases this
       ·rcases Nat.eq_or_lt_of_le h with h | h
        ·subst h; rw [hx] at hy; injection hy with hy; exact hxs (by rw [hy]; exact hys)
        ·obtain ⟨h1, e1⟩ := List.getElem?_eq_some_iff.1 hx
         obtain ⟨h2, e2⟩ := List.getElem?_eq_some_iff.1 hy
         have := List.pairwise_iff_getElem.1 hrH.out j t h1 h2 h
         rw [e1, e2, hys] at this
         exact hhiH.out j x hx (Nat.le_refl _) this
      rw [h0] at hf
      subst hf
      exact ⟨by rw [decide_eq_false hxs], fun h => by cases h⟩
    obtain ⟨cx, hcx⟩ : ∃ c, cmpS x.name s = c := ⟨_, rfl⟩
    have hcf : (cx == 0) = f := by
     rw [hfx.1, ← hcx, Bool.eq_iff_iff, beq_iff_eq, decide_eq_true_iff]
     exact cmpS_zero _ _
    have hfx2 := hfx.2
    clear hfx
    have hxH := Lib.hid hx; have hbH := Lib.hid hb; have hfH := Lib.hid hf; have hcxH := Lib.hid hcx; have hfx2H := Lib.hid hfx2; clear hx hb hf hcx hfx2
    cases f
    all_goals
     go_wp2_with (go_at_fn 87; refine (workerAt1_any x s _).mono ?_; rintro e w' ⟨rfl, hb'⟩; rw [hcxH.out]; have hb'H := Lib.hid hb'; clear hb')
     go_ret2
     first
      | exact ⟨j, rfl, (fun h => hfx2H.out h), hbH.out.trans (hb'H.out.mono hbH.out.size)⟩
      | exact ⟨j, rfl, hfx2H.out trivial, hbH.out.trans (hb'H.out.mono hbH.out.size)⟩
   ·have h0 : hasNm l s = false := hnoH.out fun t y hy hys => by
     have h1 := (List.getElem?_eq_some_iff.1 hy).1
     have := hloH.out t y hy (by have := hllH.out; omega)
     rw [hys, (cmpS_zero _ _).2 rfl] at this; cases this
    obtain rfl : false = f := by rw [← h0, hfH.out]
    have hbH := Lib.hid hb; have h0H := Lib.hid h0; clear hb h0
    go_wp2_with fail
    go_ret2
    exact ⟨j, rfl, (fun h => nomatch h), hbH.out⟩

theorem workerAt_any (A : Option Addr) (n c : Nat) (l : List Worker) (s : ByteArray) (w : World) (hn : n ≤ 1000) (hl : SlAt RWorker w A n l) (hr : l.Pairwise fun a b => cmpS a.name b.name = -1) :
  Calls Tryz.prog 38 #[.slice A n c, .string s] w fun e w' =>
   ∃ i : Nat, e = .returned (.tuple #[.int .i64 i, .bool (hasNm l s)]) ∧ (hasNm l s = true → i = ixNm l s) ∧ Below w.heap.size w w' := by
 have hlH := Lib.hid hl; have hrH := Lib.hid hr; clear hl hr
 go_enter Tryz.func38, Tryz.ntmps38
 go_wp2_with fail
 refine (bsf_worker A n c l s _ hn hlH.out hrH.out).mono ?_
 rintro e w1 ⟨i, rfl, hi, hb⟩
 have hiH := Lib.hid hi; have hbH := Lib.hid hb; clear hi hb
 go_wp2
 go_ret2
 exact ⟨i, rfl, hiH.out, hbH.out⟩

end Go.Proofs.YtbnkoefljcekbaaGreatDoor.C9

namespace Go.Proofs.YtbnkoefljcekbaaGreatDoor.C9
open Go.ChangeShapes Go.WideShapes Go.Deep Go.RowKit
set_option linter.unusedVariables false

def lossLe (a b : Loss) : Bool := decide (a.at_ < b.at_) || (decide (a.at_ = b.at_) && sle a.worker b.worker)
def lossErr (ws : List Worker) : Option Loss → List Loss → Int
 | _, [] => 0
 | p, s :: r => if hasNm ws s.worker = true then (if inR 0 1000000000 s.at_ = true then (if p.map (lossLe s ·) = some true then 8 else lossErr ws (some s) r) else 1) else 5
def prevLo (l : List Loss) (k : Nat) : Option Loss := if k = 0 then none else l[k - 1]?
noncomputable def farmF (x : Farm) : Int :=
 if workersF x.workers.l = 0 then
  (if worksF x.works.l = 0 then (if x.lost.l.length ≤ 200 then (if lossErr x.workers.l none x.lost.l = 0 then (if inR 1 10 x.tries = true then 0 else 1) else lossErr x.workers.l none x.lost.l) else 2) else worksF x.works.l)
 else workersF x.workers.l
theorem workersErr_ok : ∀ (l : List Worker) (p : Option ByteArray), workersErr p l = 0 → (∀ x ∈ l, workerF x = 0) ∧ (l.Pairwise fun a b => cmpS a.name b.name = -1) ∧ ∀ q, p = some q → ∀ x ∈ l, cmpS q x.name = -1
 | [], p, _ => ⟨(fun x h => by cases h), List.Pairwise.nil, fun q _ x h => by cases h⟩
 | x :: l, p, h => by
  unfold workersErr at h
  by_cases h1 : workerF x = 0
  ·rw [if_pos h1] at h
   by_cases h2 : p.map (sle x.name ·) = some true
   ·rw [if_pos h2] at h; exact absurd h (by decide)
   ·rw [if_neg h2] at h
    obtain ⟨a, b, c⟩ := workersErr_ok l _ h
    have hc := c x.name rfl
    refine ⟨fun y hy => ?_, List.Pairwise.cons hc b, fun q hq y hy => ?_⟩
    ·rcases List.mem_cons.1 hy with rfl | hy
     ·exact h1
     ·exact a y hy
    ·subst hq
     have hs : sle x.name q = false := by
      cases e : sle x.name q
      ·rfl
      ·exact absurd (by rw [Option.map_some, e]) h2
     have hq1 := ltS_of_sle hs
     rcases List.mem_cons.1 hy with rfl | hy
     ·exact hq1
     ·exact cmpS_trans hq1 (hc y hy)
  ·rw [if_neg h1] at h; exact absurd h h1
theorem lossErr_ok (ws : List Worker) : ∀ (l : List Loss) (p : Option Loss), lossErr ws p l = 0 → ∀ s ∈ l, hasNm ws s.worker = true ∧ 0 ≤ s.at_ ∧ s.at_ ≤ 1000000000
 | [], p, _ => (fun x h => by cases h)
 | x :: l, p, h => by
  unfold lossErr at h
  by_cases h1 : hasNm ws x.worker = true
  ·rw [if_pos h1] at h
   by_cases h3 : inR 0 1000000000 x.at_ = true
   ·rw [if_pos h3] at h
    by_cases h2 : p.map (lossLe x ·) = some true
    ·rw [if_pos h2] at h; exact absurd h (by decide)
    ·rw [if_neg h2] at h
     intro s hs
     rcases List.mem_cons.1 hs with rfl | hs
     ·unfold inR at h3
      simp only [Bool.and_eq_true, decide_eq_true_eq] at h3
      exact ⟨h1, h3.1, h3.2⟩
     ·exact lossErr_ok ws l _ h s hs
   ·rw [if_neg h3] at h; exact absurd h (by decide)
  ·rw [if_neg h1] at h; exact absurd h (by decide)
theorem farmOk_of {x : Farm} (h : farmF x = 0) : FarmOk x := by
 unfold farmF at h
 by_cases h1 : workersF x.workers.l = 0
 ·rw [if_pos h1] at h
  by_cases h2 : worksF x.works.l = 0
  ·rw [if_pos h2] at h
   by_cases h3 : x.lost.l.length ≤ 200
   ·rw [if_pos h3] at h
    by_cases h4 : lossErr x.workers.l none x.lost.l = 0
    ·rw [if_pos h4] at h
     by_cases h5 : inR 1 10 x.tries = true
     ·unfold workersF at h1
      by_cases h6 : x.workers.l.length ≤ 50
      ·rw [if_pos h6] at h1
       obtain ⟨a, b, _⟩ := workersErr_ok _ _ h1
       unfold inR at h5
       simp only [Bool.and_eq_true, decide_eq_true_eq] at h5
       refine ⟨a, b, h6, wok_of h2, h3, fun s hs => ?_, h5⟩
       obtain ⟨u, v, z⟩ := lossErr_ok _ _ _ h4 s hs
       rw [hasNm, List.any_eq_true] at u
       obtain ⟨y, hy, e⟩ := u
       exact ⟨⟨y, hy, of_decide_eq_true e⟩, v, z⟩
      ·rw [if_neg h6] at h1; exact absurd h1 (by decide)
     ·rw [if_neg h5] at h; exact absurd h (by decide)
    ·rw [if_neg h4] at h; exact absurd h h4
   ·rw [if_neg h3] at h; exact absurd h (by decide)
  ·rw [if_neg h2] at h; exact absurd h h2
 ·rw [if_neg h1] at h; exact absurd h h1
theorem drop_lo {l : List Loss} {k : Nat} {x : Loss} (h : l[k]? = some x) : l.drop k = x :: l.drop (k + 1) := by
 obtain ⟨hk, rfl⟩ := List.getElem?_eq_some_iff.1 h
 exact List.drop_eq_getElem_cons hk
end Go.Proofs.YtbnkoefljcekbaaGreatDoor.C9
