/-
 Several texts of mine as one, without what is not wanted here: XRunsD, XPlayW, XWtD, XDnBy.
-/
import Derived.Test.YtbnkoefljcekbaaGreatDoorRbTC9
import Derived.Test.YtbnkoefljcekbaaGreatDoorRbEC9
import Derived.Test.YtbnkoefljcekbaaGreatDoorRbJC9
import Derived.Test.YtbnkoefljcekbaaGreatDoorRbGi
import Derived.Test.YtbnkoefljcekbaaGreatDoorRbSC9
namespace Go.Proofs.YtbnkoefljcekbaaGreatDoor.C9
open Go.ChangeShapes Go.WideShapes Go.Deep Go.RowKit Go.Maps
set_option linter.unusedVariables false
set_option linter.unusedSimpArgs false

theorem rise_inj {α : Type} {f : α → ByteArray} {l : List α} (hr : l.Pairwise fun a b => cmpS (f a) (f b) = -1) {i j : Nat} {a b : α} (hi : l[i]? = some a) (hj : l[j]? = some b) (e : f a = f b) : i = j := by
 obtain ⟨hi1, hi2⟩ := List.getElem?_eq_some_iff.1 hi
 obtain ⟨hj1, hj2⟩ := List.getElem?_eq_some_iff.1 hj
 have hp := List.pairwise_iff_getElem.1 hr
 have z : ∀ s : ByteArray, cmpS s s = 0 := fun s => (cmpS_zero s s).2 rfl
 rcases Nat.lt_trichotomy i j with h | h | h
 ·have := hp _ _ hi1 hj1 h
  rw [hi2, hj2, e, z] at this; cases this
 ·exact h
 ·have := hp _ _ hj1 hi1 h
  rw [hi2, hj2, e, z] at this; cases this
theorem idInj {x : Farm} (h : FarmOk x) {i j : Nat} (hi : i < x.works.l.length) (hj : j < x.works.l.length) (e : (woOf x i).id_ = (woOf x j).id_) : i = j := by
 rw [woOf_get (List.getElem?_eq_getElem hi), woOf_get (List.getElem?_eq_getElem hj)] at e
 exact rise_inj (f := Work.id_) h.wo.rise (List.getElem?_eq_getElem hi) (List.getElem?_eq_getElem hj) e
theorem nmInj {x : Farm} (h : FarmOk x) {i j : Nat} (hi : i < x.workers.l.length) (hj : j < x.workers.l.length) (e : (wkOf x i).name = (wkOf x j).name) : i = j := by
 rw [wkOf_get (List.getElem?_eq_getElem hi), wkOf_get (List.getElem?_eq_getElem hj)] at e
 exact rise_inj (f := Worker.name) h.wkr (List.getElem?_eq_getElem hi) (List.getElem?_eq_getElem hj) e
theorem worksErr_word : ∀ (l : List Work) (p : Option ByteArray), worksErr p l = 0 → ∀ x ∈ l, wordB x.id_ = true
 | [], _, _, x, hx => by cases hx
 | y :: l, p, h, x, hx => by
  unfold worksErr at h
  by_cases h1 : workF y = 0
  ·rw [if_pos h1] at h
   by_cases h2 : p.map (sle y.id_ ·) = some true
   ·rw [if_pos h2] at h; exact absurd h (by decide)
   ·rw [if_neg h2] at h
    rcases List.mem_cons.1 hx with rfl | hx
    ·unfold workF at h1
     by_cases h3 : wordB x.id_ = true
     ·exact h3
     ·rw [if_neg h3] at h1; exact absurd h1 (by decide)
    ·exact worksErr_word l _ h x hx
  ·rw [if_neg h1] at h; exact absurd h h1
theorem farm_words {x : Farm} (h : farmF x = 0) : (∀ w ∈ x.workers.l, wordB w.name = true) ∧ ∀ w ∈ x.works.l, wordB w.id_ = true := by
 have hok := farmOk_of h
 refine ⟨fun w hw => ?_, ?_⟩
 ·have := hok.wk w hw
  unfold workerF at this
  by_cases h3 : wordB w.name = true
  ·exact h3
  ·rw [if_neg h3] at this; exact absurd this (by decide)
 ·unfold farmF at h
  by_cases h1 : workersF x.workers.l = 0
  ·rw [if_pos h1] at h
   by_cases h2 : worksF x.works.l = 0
   ·unfold worksF at h2
    by_cases h3 : x.works.l.length ≤ 200
    ·rw [if_pos h3] at h2
     by_cases h4 : worksErr none x.works.l = 0
     ·exact worksErr_word _ _ h4
     ·rw [if_neg h4] at h2; exact absurd h2 h4
    ·rw [if_neg h3] at h2; exact absurd h2 (by decide)
   ·rw [if_neg h2] at h; exact absurd h h2
  ·rw [if_neg h1] at h; exact absurd h h1
theorem runLt_of {a b : Run} (h : runCmp a b ≤ 0) (hne : ¬ (a.from_ = b.from_ ∧ a.id_ = b.id_ ∧ a.worker = b.worker)) : runLt a b = true := by
 rw [runCmp_eq] at h
 unfold runLt
 by_cases h1 : a.from_ = b.from_
 ·rw [if_pos h1] at h ⊢
  by_cases h2 : a.id_ = b.id_
  ·rw [if_pos h2] at h ⊢
   rw [ltS_cmp]
   have := cmpS_range a.worker b.worker
   have h3 : cmpS a.worker b.worker ≠ 0 := fun e => hne ⟨h1, h2, (cmpS_zero _ _).1 e⟩
   exact decide_eq_true (by omega)
  ·rw [if_neg h2] at h ⊢
   rw [ltS_cmp]
   have := cmpS_range a.id_ b.id_
   have h3 : cmpS a.id_ b.id_ ≠ 0 := fun e => h2 ((cmpS_zero _ _).1 e)
   exact decide_eq_true (by omega)
 ·rw [if_neg h1] at h ⊢
  by_cases h2 : a.from_ < b.from_
  ·exact decide_eq_true h2
  ·rw [if_neg h2] at h; omega
theorem runsErr_zero : ∀ (l : List Run) (p : Option Run), (∀ r ∈ l, (wordB r.id_ = true ∧ wordB r.worker = true) ∧ (inR 0 1000000000 r.from_ = true ∧ inR 0 1000000000 r.to_ = true) ∧ ¬ r.to_ < r.from_ ∧ inR 1 3 r.end_ = true) → (l.Pairwise fun a b => runLt a b = true) → (∀ q, p = some q → ∀ r ∈ l, runLt q r = true) → runsErr p l = 0
 | [], _, _, _, _ => rfl
 | r :: l, p, h1, h2, h3 => by
  obtain ⟨a, b, c, d⟩ := h1 r List.mem_cons_self
  obtain ⟨e, f⟩ := List.pairwise_cons.1 h2
  unfold runsErr
  rw [if_pos a, if_pos b, if_neg c, if_pos d, if_neg]
  ·exact runsErr_zero l _ (fun s hs => h1 s (List.mem_cons_of_mem _ hs)) f (fun q hq s hs => by injection hq with hq; subst hq; exact e s hs)
  ·cases p with
   | none => simp
   | some q => rw [Option.map_some, h3 q rfl r List.mem_cons_self]; simp
theorem len_runs {F : FP} (hF : FFine F) {q : QS} (h : Inv F q.at_ (q.at_ + 1) q) : ((q.runs.length : Nat) : Int) ≤ F.nX * (F.tries + 1) := by
 have ht := hF.tri
 have := cnt_len (m := (F.tries + 1).toNat) F.nX q.runs (fun r hr => (h.named r hr).2) (fun k => by have := h.cnt k; omega)
 have h2 : ((F.nX * (F.tries + 1).toNat : Nat) : Int) = F.nX * (F.tries + 1) := by rw [Int.natCast_mul, Int.toNat_of_nonneg (by omega)]
 omega
/-- what the runs of a right farm are -/
structure Done (x : Farm) (q : QS) (L : List RR) : Prop where
 ok : farmF x = 0
 fin : FinQ (fpx x) q
 fine : FFine (fpx x)
 perm : L.Perm q.runs
 sort : L.Pairwise fun a b => runCmp (toRun x a) (toRun x b) ≤ 0
section
variable {x : Farm} {q : QS} {L : List RR}
theorem Done.mem (h : Done x q L) {r : RR} (hr : r ∈ L) : r ∈ q.runs := h.perm.mem_iff.1 hr
theorem Done.lt (h : Done x q L) {r : RR} (hr : r ∈ L) : r.worker < x.workers.l.length ∧ r.work < x.works.l.length := h.fin.inv.named r (h.mem hr)
theorem Done.len (h : Done x q L) : L.length ≤ 2200 := by
 have hok := farmOk_of h.ok
 have h1 := len_runs h.fine h.fin.inv
 have h2 : ((fpx x).nX : Int) ≤ 200 := by have : (fpx x).nX = x.works.l.length := rfl; have := hok.wo.len; omega
 have h3 : (fpx x).tries ≤ 10 := hok.tri.2
 have h4 : 1 ≤ (fpx x).tries := hok.tri.1
 have h5 : ((fpx x).nX : Int) * ((fpx x).tries + 1) ≤ 200 * 11 := Int.mul_le_mul h2 (by omega) (by omega) (by omega)
 have := h.perm.length_eq
 omega
theorem Done.ends (h : Done x q L) {r : RR} (hr : r ∈ L) : (wkOf x r.worker).from_ ≤ r.from_ ∧ 0 ≤ r.from_ ∧ r.from_ < r.to_ ∧ r.to_ ≤ (wkOf x r.worker).to_ ∧ r.to_ ≤ 1000000000 ∧ 1 ≤ r.end_ ∧ r.end_ ≤ 3 ∧ fitF (woOf x r.work).needs.l (wkOf x r.worker).has.l = true := by
 have hm := h.mem hr
 obtain ⟨a1, a2, a3, a4, a5⟩ := h.fin.inv.en r hm (h.fin.ended r hm)
 obtain ⟨b1, b2, b3, b4⟩ := h.fin.inv.fr r hm
 have hlt := (h.lt hr).1
 have c : (wkOf x r.worker).to_ ≤ 1000000000 := by
  rw [wkOf_get (List.getElem?_eq_getElem hlt)]
  exact (worker_times ((farmOk_of h.ok).wk _ (List.getElem_mem hlt))).2.2.2
 have a3' : r.to_ ≤ (wkOf x r.worker).to_ := a3
 exact ⟨b1, b2, a1, a3', by omega, a4, a5, b4⟩
theorem Done.lt_run (h : Done x q L) : (L.map (toRun x)).Pairwise fun a b => runLt a b = true := by
 rw [List.pairwise_map]
 have hd : L.Pairwise fun a b => ¬ (a.from_ = b.from_ ∧ a.work = b.work ∧ a.worker = b.worker) :=
  (h.perm.pairwise_iff (fun {a b} hab e => hab ⟨e.1.symm, e.2.1.symm, e.2.2.symm⟩)).2 h.fin.inv.dis
 have hall : L.Pairwise fun a b => runCmp (toRun x a) (toRun x b) ≤ 0 ∧ ¬ (a.from_ = b.from_ ∧ a.work = b.work ∧ a.worker = b.worker) := List.Pairwise.and h.sort hd
 refine List.Pairwise.imp_of_mem (fun {a b} ha hb hc => ?_) hall
 have hok := farmOk_of h.ok
 exact runLt_of hc.1 (fun e => hc.2 ⟨e.1, idInj hok (h.lt ha).2 (h.lt hb).2 e.2.1, nmInj hok (h.lt ha).1 (h.lt hb).1 e.2.2⟩)
theorem Done.runs (h : Done x q L) : runsF (L.map (toRun x)) = 0 := by
 have hl := h.len
 unfold runsF
 rw [if_pos (by rw [List.length_map]; omega)]
 refine runsErr_zero _ _ (fun r hr => ?_) h.lt_run (fun q hq => by cases hq)
 obtain ⟨s, hs, rfl⟩ := List.mem_map.1 hr
 obtain ⟨a1, a2, a3, a4, a5, a6, a7, a8⟩ := h.ends hs
 obtain ⟨w1, w2⟩ := farm_words h.ok
 obtain ⟨l1, l2⟩ := h.lt hs
 refine ⟨⟨?_, ?_⟩, ⟨?_, ?_⟩, ?_, ?_⟩
 ·show wordB (woOf x s.work).id_ = true
  rw [woOf_get (List.getElem?_eq_getElem l2)]
  exact w2 _ (List.getElem_mem l2)
 ·show wordB (wkOf x s.worker).name = true
  rw [wkOf_get (List.getElem?_eq_getElem l1)]
  exact w1 _ (List.getElem_mem l1)
 ·show inR 0 1000000000 s.from_ = true
  simp only [inR, Bool.and_eq_true, decide_eq_true_eq]; omega
 ·show inR 0 1000000000 s.to_ = true
  simp only [inR, Bool.and_eq_true, decide_eq_true_eq]; omega
 ·show ¬ s.to_ < s.from_
  omega
 ·show inR 1 3 s.end_ = true
  simp only [inR, Bool.and_eq_true, decide_eq_true_eq]; omega
end
end Go.Proofs.YtbnkoefljcekbaaGreatDoor.C9

namespace Go.Proofs.YtbnkoefljcekbaaGreatDoor.C9
open Go.ChangeShapes Go.WideShapes Go.Deep Go.RowKit Go.Maps
set_option linter.unusedVariables false
set_option linter.unusedSimpArgs false

/-- what a farm that was followed has come to -/
theorem farm_done {x : Farm} (h0 : farmF x = 0) {X : FX} (hx : X.x = x) (hF : X.F = fpOf x (ordOf X.S X.N)) (hN : X.N = x.works.l.length) (hC : Crit (gOf x.works.l) (szOf x.works.l) X.N (gt X.S)) {p' : PS} (hp : PTrace X.F p0 p') :
  X.F = fpx x ∧ FFine X.F ∧ ∃ q, QTrace (fpx x) q0 q ∧ EndP (fpx x) p' q ∧ ∀ L : List RR, L.Perm p'.out → (L.Pairwise fun a b => runCmp (toRun x a) (toRun x b) ≤ 0) → Done x q L := by
 have hok := farmOk_of h0
 rw [hN] at hC hF
 have e := fpx_of hok hC
 rw [← hF] at e
 obtain ⟨f1, f2⟩ := fpx_fine hok hC
 obtain ⟨q, hq⟩ := farm_ends hok hC
 rw [e] at hp ⊢
 have hE := end_of f1 f2 hp hq
 exact ⟨rfl, f1, q, hq, hE, fun L hL hs => ⟨h0, hE.fin, f1, hL.trans hE.out, hs⟩⟩
theorem farm_fine {x : Farm} (h0 : farmF x = 0) {X : FX} (hF : X.F = fpOf x (ordOf X.S X.N)) (hN : X.N = x.works.l.length) (hC : Crit (gOf x.works.l) (szOf x.works.l) X.N (gt X.S)) : FFine X.F := by
 have hok := farmOk_of h0
 rw [hN] at hC hF
 have e := fpx_of hok hC
 rw [← hF] at e
 rw [e]
 exact (fpx_fine hok hC).1
theorem fs_start {x : Farm} {w : World} (h0 : farmF x = 0) (hx : RFarm.ok w x) {X : FX} (hX : X.x = x) (hF : X.F = fpOf x (ordOf X.S X.N)) : FS X p0 w := by
 subst hX
 obtain ⟨a, b, c, _, _⟩ := hx
 exact ⟨farmOk_of h0, ⟨_, hF⟩, a, b, c, Int.le_refl _, by decide, fun r hr => by cases hr⟩
def PlAns (x : Farm) (c : Int) (w : World) (e : Ending) (w' : World) : Prop :=
 (c ≠ 0 ∧ e = .returned (.tuple #[.slice none 0 0, .int .i64 c]) ∧ Below w.heap.size w w') ∨
 (c = 0 ∧ ∃ (A : Option Addr) (n cap : Nat) (q : QS) (L : List RR), e = .returned (.tuple #[.slice A n cap, .int .i64 0]) ∧ SlAt RRun w' A n (L.map (toRun x)) ∧ QTrace (fpx x) q0 q ∧ Done x q L ∧ Below w.heap.size w w')
set_option maxRecDepth 100000 in
set_option maxHeartbeats 8000000 in
theorem Play_any (x : Farm) (w : World) (hx : RFarm.ok w x) (c : Int) (hF : farmF x = c) :
  Calls Tryz.prog 10 #[farmV x] w (PlAns x c w) := by
 unfold farmV
 have hN : x.works.n = x.works.l.length := hx.2.1.1.1.symm
 obtain ⟨W1, hW1⟩ : ∃ Y, w.alloc (.cells #[.slice x.workers.A x.workers.n x.workers.cap, .slice x.works.A x.works.n x.works.cap, .slice x.lost.A x.lost.n x.lost.cap, .int .i64 x.tries, .bool x.doubles] 26) = Y := ⟨_, rfl⟩
 obtain ⟨xb, hxb⟩ : ∃ b, w.heap.size = b := ⟨_, rfl⟩
 have hba : Below w.heap.size w W1 := by rw [← hW1]; exact (Below.refl _ _).alloc (Nat.le_refl _) _
 have hx1 := RFarm.mono _ _ _ hba hx
 have c0 : W1.cell? ⟨xb, 0, none⟩ = some (.slice x.workers.A x.workers.n x.workers.cap) := by rw [← hW1, ← hxb]; exact cell_new _ _ _ 0
 have c1 : W1.cell? ⟨xb, 1, none⟩ = some (.slice x.works.A x.works.n x.works.cap) := by rw [← hW1, ← hxb]; exact cell_new _ _ _ 1
 have c2 : W1.cell? ⟨xb, 2, none⟩ = some (.slice x.lost.A x.lost.n x.lost.cap) := by rw [← hW1, ← hxb]; exact cell_new _ _ _ 2
 have c3 : W1.cell? ⟨xb, 3, none⟩ = some (.int .i64 x.tries) := by rw [← hW1, ← hxb]; exact cell_new _ _ _ 3
 have c4 : W1.cell? ⟨xb, 4, none⟩ = some (.bool x.doubles) := by rw [← hW1, ← hxb]; exact cell_new _ _ _ 4
 obtain ⟨Z, hZ⟩ : ∃ Z, PlAns x c w = Z := ⟨_, rfl⟩
 rw [hZ]
 have hZH := Lib.hid hZ
 clear hZ
 have hxH := Lib.hid hx
 clear hx
 have hx1H := Lib.hid hx1
 clear hx1
 have hW1H := Lib.hid hW1
 clear hW1
 have hxbH := Lib.hid hxb
 clear hxb
 have hbaH := Lib.hid hba
 clear hba
 have hFH := Lib.hid hF
 clear hF
 have hNH := Lib.hid hN
 clear hN
 go_enter Tryz.func10, Tryz.ntmps10
 go_wp2_with fail
 rw [hW1H.out, hxbH.out]
 refine (farm_any x _ hx1H.out c hFH.out).mono ?_
 rintro e w1 ⟨rfl, hb1⟩
 have c0 := keepC hb1 c0
 have c1 := keepC hb1 c1
 have c2 := keepC hb1 c2
 have c3 := keepC hb1 c3
 have c4 := keepC hb1 c4
 have hx2 := RFarm.mono _ _ _ hb1 hx1H.out
 have hbb := hbaH.out.trans (hb1.mono hbaH.out.size)
 by_cases h1 : c = 0
 ·subst h1
  have hb1H := Lib.hid hb1
  clear hb1
  have hx2H := Lib.hid hx2
  clear hx2
  have hbbH := Lib.hid hbb
  clear hbb
  go_wp2_with fail
  refine (open_any x _ hx2H.out (farmOk_of hFH.out)).mono ?_
  rintro e w2 ⟨X, rv, ov, rfl, hXx, hXF, hC, hA⟩
  have hXN : X.N = x.works.l.length := by unfold FX.N; rw [hXx]; exact hNH.out
  have hfin := farm_fine hFH.out hXF hXN hC
  have hp := play_any hA (fs_start hFH.out hx2H.out hXx hXF) hfin (ordX_of (by rw [hXx]; exact hXF))
  clear c0 c1 c2 c3 c4 hA
  have hXxH := Lib.hid hXx
  clear hXx
  have hXFH := Lib.hid hXF
  clear hXF
  have hCH := Lib.hid hC
  clear hC
  have hXNH := Lib.hid hXN
  clear hXN
  have hfinH := Lib.hid hfin
  clear hfin
  have hpH := Lib.hid hp
  clear hp
  go_wp2_with fail
  go_at_call 32
  refine hpH.out.mono ?_
  rintro e w3 ⟨rfl, rv2, ov2, p', L, hT, hL, hs, hA3⟩
  have c11 := (hA3.core.blk 11 _ rfl).1
  have hown := hA3.core.out
  have hbe := hA3.core.bel
  obtain ⟨A, cap, rfl⟩ := hown.form
  obtain ⟨_, _, q, hq, hE, hD⟩ := farm_done hFH.out hXxH.out hXFH.out hXNH.out hCH.out hT
  have hs' : L.Pairwise fun a b => runCmp (toRun x a) (toRun x b) ≤ 0 := by rw [← hXxH.out]; exact hs
  have hD2 := hD L hL hs'
  have hsl := hown.slAt
  rw [hXxH.out] at hsl c11
  have R : Z (.returned (.tuple #[.slice A (L.map (toRun x)).length cap, .int .i64 0])) w3 := by
   rw [← hZH.out]
   exact .inr ⟨rfl, A, _, cap, q, L, rfl, hsl, hq, hD2, hbbH.out.trans (hbe.mono hbbH.out.size)⟩
  obtain ⟨n, hn⟩ : ∃ n, (L.map (toRun x)).length = n := ⟨_, rfl⟩
  have c11' : w3.cell? ⟨X.f, 11, none⟩ = some (.slice A n cap) := by rw [← hn]; exact c11
  rw [hn] at R
  clear c11 hown hA3 hsl hs hs' hD hD2 hE hT hbe
  have RH := Lib.hid R
  clear R
  go_wp2
  exact RH.out
 ·have R : Z (.returned (.tuple #[.slice none 0 0, .int .i64 c])) w1 := by
   rw [← hZH.out]; exact .inl ⟨h1, rfl, hbb⟩
  have h1' : (c != 0) = true := by simpa using h1
  clear h1
  have RH := Lib.hid R
  clear R
  have hb1H := Lib.hid hb1
  clear hb1
  have hx2H := Lib.hid hx2
  clear hx2
  have hbbH := Lib.hid hbb
  clear hbb
  go_wp2
  exact RH.out
end Go.Proofs.YtbnkoefljcekbaaGreatDoor.C9

namespace Go.Proofs.YtbnkoefljcekbaaGreatDoor.C9
open Go.ChangeShapes Go.WideShapes Go.Deep Go.RowKit Go.Maps
set_option linter.unusedVariables false
set_option linter.unusedSimpArgs false

def dnB (l : List Run) (s : ByteArray) (t : Int) : Bool := l.any fun r => decide (r.id_ = s) && (decide (r.end_ = 1) && decide (r.to_ ≤ t))
def rnB (l : List Run) (s : ByteArray) (t : Int) : Bool := l.any fun r => decide (r.id_ = s) && (decide (r.from_ ≤ t) && decide (t < r.to_))
def lsN (l : List Run) (s : ByteArray) (t : Int) : Nat := l.countP fun r => decide (r.id_ = s) && (decide (r.end_ = 2) && decide (r.to_ ≤ t))
def bsN (l : List Run) (s : ByteArray) (t : Int) : Nat := l.countP fun r => decide (r.worker = s) && (decide (r.from_ ≤ t) && decide (t < r.to_))
def frB (l : List Run) (t : Int) (y : Worker) : Bool := decide (y.from_ ≤ t) && (decide (t < y.to_) && decide ((bsN l y.name t : Int) < y.slots))
def wtB (tries : Int) (l : List Run) (z : Work) (t : Int) : Bool := !dnB l z.id_ t && (!rnB l z.id_ t && (decide ((lsN l z.id_ t : Int) < tries) && z.after.l.all fun s => dnB l s t))
def waitB (x : Farm) (l : List Run) (z : Work) (t : Int) : Bool := wtB x.tries l z t && x.workers.l.any fun y => frB l t y && fitF z.needs.l y.has.l
def momP (x : Farm) (l : List Run) : List Int := 0 :: (l.flatMap fun r => [r.from_, r.to_]) ++ (x.workers.l.flatMap fun y => [y.from_, y.to_])
def waitedF (M : List Int) (x : Farm) (l : List Run) : List ByteArray := (x.works.l.filter fun z => M.any (waitB x l z)).map (·.id_)

theorem mem_momP {x : Farm} {l : List Run} {t : Int} : t ∈ momP x l ↔ t = 0 ∨ (∃ r ∈ l, t = r.from_ ∨ t = r.to_) ∨ ∃ y ∈ x.workers.l, t = y.from_ ∨ t = y.to_ := by
 unfold momP
 simp only [List.cons_append, List.mem_cons, List.mem_append, List.mem_flatMap, List.not_mem_nil, or_false]
section
variable {x : Farm} {q : QS} {L : List RR}
theorem Done.idEq (h : Done x q L) {r : RR} (hr : r ∈ L) {i : Nat} (hi : i < x.works.l.length) : ((toRun x r).id_ = (woOf x i).id_) ↔ r.work = i :=
 ⟨fun e => idInj (farmOk_of h.ok) (h.lt hr).2 hi e, fun e => by rw [← e]; rfl⟩
theorem Done.nmEq (h : Done x q L) {r : RR} (hr : r ∈ L) {k : Nat} (hk : k < x.workers.l.length) : ((toRun x r).worker = (wkOf x k).name) ↔ r.worker = k :=
 ⟨fun e => nmInj (farmOk_of h.ok) (h.lt hr).1 hk e, fun e => by rw [← e]; rfl⟩
theorem Done.dn (h : Done x q L) {i : Nat} (hi : i < x.works.l.length) {t : Int} : dnB (L.map (toRun x)) (woOf x i).id_ t = true ↔ DoneBy q.runs t i := by
 unfold dnB
 rw [List.any_map, List.any_eq_true]
 constructor
 ·rintro ⟨r, hr, e⟩
  simp only [Function.comp, Bool.and_eq_true, decide_eq_true_eq] at e
  exact ⟨r, h.mem hr, (h.idEq hr hi).1 e.1, e.2.1, e.2.2⟩
 ·rintro ⟨r, hr, e1, e2, e3⟩
  have hr' := h.perm.mem_iff.2 hr
  refine ⟨r, hr', ?_⟩
  simp only [Function.comp, Bool.and_eq_true, decide_eq_true_eq]
  exact ⟨(h.idEq hr' hi).2 e1, e2, e3⟩
/-- of what is played nobody waits -/
theorem Done.none (h : Done x q L) (hN : NA (fpx x) q.at_ q.runs ∧ ∀ k, k < (fpx x).nW → (fpx x).wto k ≤ q.at_) : waitedF (momP x (L.map (toRun x))) x (L.map (toRun x)) = [] := by
 have hok := farmOk_of h.ok
 unfold waitedF
 rw [List.map_eq_nil_iff, List.filter_eq_nil_iff]
 intro z hz hw
 obtain ⟨i, hi, hzi⟩ := List.mem_iff_getElem.1 hz
 have hzw : woOf x i = z := woOf_get (by rw [List.getElem?_eq_getElem hi, hzi])
 rw [List.any_eq_true] at hw
 obtain ⟨t, ht, hw⟩ := hw
 have ht0 : 0 ≤ t ∧ t ≤ q.at_ := by
  rcases mem_momP.1 ht with e | ⟨r', hr', e⟩ | ⟨y, hy, e⟩
  ·have := h.fin.inv.t0; omega
  ·obtain ⟨r, hr, rfl⟩ := List.mem_map.1 hr'
   have a := h.ends hr
   have b := h.fin.inv.en r (h.mem hr) (h.fin.ended r (h.mem hr))
   have e' : t = r.from_ ∨ t = r.to_ := e
   omega
  ·obtain ⟨k, hk, hky⟩ := List.mem_iff_getElem.1 hy
   have hyk : wkOf x k = y := wkOf_get (by rw [List.getElem?_eq_getElem hk, hky])
   have a : y.to_ ≤ q.at_ := by have := hN.2 k hk; rw [← hyk]; exact this
   have b : y.from_ ≤ q.at_ := by have := h.fin.from_ k hk; rw [← hyk]; exact this
   have c := worker_times (hok.wk y hy)
   omega
 unfold waitB at hw
 rw [Bool.and_eq_true] at hw
 obtain ⟨a, c⟩ := hw
 unfold wtB at a
 simp only [Bool.and_eq_true, Bool.not_eq_true', decide_eq_true_eq] at a
 obtain ⟨a1, a2, a3, a4⟩ := a
 rw [List.any_eq_true] at c
 obtain ⟨y, hy, hc⟩ := c
 rw [Bool.and_eq_true] at hc
 obtain ⟨hf, hfit⟩ := hc
 obtain ⟨k, hk, hky⟩ := List.mem_iff_getElem.1 hy
 have hyk : wkOf x k = y := wkOf_get (by rw [List.getElem?_eq_getElem hk, hky])
 unfold frB at hf
 simp only [Bool.and_eq_true, decide_eq_true_eq] at hf
 have hWa : WaitsAt (fpx x) q.runs t i := by
  refine ⟨fun s hs => ?_, fun hd => ?_, fun hr => ?_, ?_⟩
  ·have hs' : s ∈ gOf x.works.l i := hs
   rw [gOf_get (List.getElem?_eq_getElem hi), hzi] at hs'
   obtain ⟨u, hu, rfl⟩ := List.mem_map.1 hs'
   obtain ⟨v, hv, hvu⟩ := ixOf_get (allThere_get hok.wo.all (by rw [List.getElem?_eq_getElem hi, hzi]) hu)
   have := List.all_eq_true.1 a4 u hu
   have hlt := (List.getElem?_eq_some_iff.1 hv).1
   refine (h.dn hlt).1 ?_
   rw [woOf_get hv, hvu]; exact this
  ·have := (h.dn hi).2 hd
   rw [hzw] at this
   rw [this] at a1; cases a1
  ·obtain ⟨r, hr, e1, e2, e3⟩ := hr
   have hr' := h.perm.mem_iff.2 hr
   have e4 : t < r.to_ := by
    rcases e3 with e3 | e3
    ·rw [h.fin.ended r hr] at e3; cases e3
    ·exact e3
   unfold rnB at a2
   rw [List.any_eq_false] at a2
   refine a2 (toRun x r) (List.mem_map_of_mem hr') ?_
   simp only [Bool.and_eq_true, decide_eq_true_eq]
   refine ⟨?_, e2, e4⟩
   rw [← hzw]
   exact (h.idEq hr' hi).2 e1
  ·have e1 : LostBy q.runs t i = lsN (L.map (toRun x)) z.id_ t := by
    unfold LostBy lsN
    rw [List.countP_map, ← h.perm.countP_eq]
    refine countP_eq_of fun r hr => ?_
    have := h.idEq hr hi
    rw [hzw] at this
    simp only [Function.comp, isEnd]
    rw [show (decide ((toRun x r).id_ = z.id_)) = (r.work == i) from by rw [Bool.eq_iff_iff, decide_eq_true_eq, beq_iff_eq]; exact this]
    rw [Bool.and_assoc]
    rfl
   rw [e1]; exact a3
 have hFr : FreeAt (fpx x) q.runs t k := by
  refine ⟨?_, ?_, ?_⟩
  ·show (wkOf x k).from_ ≤ t
   rw [hyk]; exact hf.1
  ·show t < (wkOf x k).to_
   rw [hyk]; exact hf.2.1
  ·show (cntAt q.runs t k : Int) < (wkOf x k).slots
   have e1 : cntAt q.runs t k = bsN (L.map (toRun x)) y.name t := by
    unfold cntAt bsN
    rw [List.countP_map, ← h.perm.countP_eq]
    refine countP_eq_of fun r hr => ?_
    have h2 := h.nmEq hr hk
    rw [hyk] at h2
    simp only [Function.comp]
    rw [show (decide ((toRun x r).worker = y.name)) = (r.worker == k) from by rw [Bool.eq_iff_iff, decide_eq_true_eq, beq_iff_eq]; exact h2]
    rw [h.fin.ended r (h.mem hr), Bool.false_or]
    rfl
   rw [e1, hyk]; exact hf.2.2
 have := hN.1 t ht0.1 ht0.2 i hi hWa k hk hFr
 have e2 : (fpx x).fit k i = fitF (woOf x i).needs.l (wkOf x k).has.l := rfl
 rw [e2, hzw, hyk, hfit] at this
 cases this
end
end Go.Proofs.YtbnkoefljcekbaaGreatDoor.C9

namespace Go.Proofs.YtbnkoefljcekbaaGreatDoor.C9
open Go.ChangeShapes Go.WideShapes Go.Deep Go.RowKit Go.Maps
set_option linter.unusedVariables false
set_option linter.unusedSimpArgs false

def dmF (s : ByteArray) (m : Int) (r : Run) : Int := if r.id_ = s ∧ r.end_ = 1 ∧ (m < 0 ∨ r.to_ < m) then r.to_ else m
def dmL (l : List Run) (s : ByteArray) : Int := l.foldl (dmF s) (-1)
theorem dm_go (s : ByteArray) (t : Int) : ∀ (l : List Run) (m : Int), (∀ r ∈ l, 0 ≤ r.to_) → ((0 ≤ l.foldl (dmF s) m ∧ l.foldl (dmF s) m ≤ t) ↔ ((0 ≤ m ∧ m ≤ t) ∨ dnB l s t = true))
 | [], m, _ => by simp [dnB]
 | r :: l, m, h => by
  rw [List.foldl_cons, dm_go s t l _ (fun y hy => h y (List.mem_cons_of_mem _ hy))]
  have h0 := h r List.mem_cons_self
  have e : dnB (r :: l) s t = ((decide (r.id_ = s) && (decide (r.end_ = 1) && decide (r.to_ ≤ t))) || dnB l s t) := rfl
  rw [e, Bool.or_eq_true]
  unfold dmF
  generalize (dnB l s t = true) = P
  by_cases h1 : r.id_ = s
  ·by_cases h2 : r.end_ = 1
   ·have h4 : ((decide (r.id_ = s) && (decide (r.end_ = 1) && decide (r.to_ ≤ t))) = true) ↔ r.to_ ≤ t := by simp [h1, h2]
    rw [h4]
    by_cases h3 : m < 0 ∨ r.to_ < m
    ·rw [if_pos ⟨h1, h2, h3⟩]
     by_cases hP : P
     ·simp only [hP, or_true]
     ·simp only [hP, or_false]; omega
    ·rw [if_neg (fun hh => h3 hh.2.2)]
     by_cases hP : P
     ·simp only [hP, or_true]
     ·simp only [hP, or_false]; omega
   ·rw [if_neg (fun hh => h2 hh.2.1), decide_eq_false h2, Bool.false_and, Bool.and_false]
    simp
  ·rw [if_neg (fun hh => h1 hh.1), decide_eq_false h1, Bool.false_and]
   simp
theorem dm_ok {l : List Run} (h : ∀ r ∈ l, 0 ≤ r.to_) (s : ByteArray) (t : Int) : (0 ≤ dmL l s ∧ dmL l s ≤ t) ↔ dnB l s t = true := by
 unfold dmL
 rw [dm_go s t l _ h]
 constructor
 ·rintro (h | h)
  ·omega
  ·exact h
 ·exact .inr
theorem dm_take {l : List Run} {k : Nat} {r : Run} (h : l[k]? = some r) (s : ByteArray) : dmL (l.take (k + 1)) s = dmF s (dmL (l.take k) s) r := by
 unfold dmL
 rw [List.take_add_one, h, Option.toList_some, List.foldl_append]; rfl
theorem IRow.bel {w w' : World} {b n : Nat} {f : Nat → Int} (h : IRow w b n f) (hb : Below w.heap.size w w') : IRow w' b n f := fun j hj => by
 have hlt := cell?_lt (h j hj).1
 exact ⟨(World.cell?_of_block (a := ⟨b, j, none⟩) (hb.block b hlt)).trans (h j hj).1, (World.frozen?_of_block (a := ⟨b, j, none⟩) (hb.block b hlt)).trans (h j hj).2⟩
def Dn1 (N B : Nat) (W1 : World) (i : Value) (wr : World) : Prop := ∃ k : Nat, k ≤ N ∧ i = .int .i64 k ∧ IRow wr B N (fun j => if j < k then -1 else 0) ∧ Below W1.heap.size W1 wr
def Dn2 (x : Farm) (l : List Run) (N B n : Nat) (W1 : World) (i : Value) (wr : World) : Prop := ∃ k : Nat, k ≤ n ∧ i = .int .i64 k ∧ IRow wr B N (fun j => dmL (l.take k) (woOf x j).id_) ∧ Below W1.heap.size W1 wr
def DnAns (x : Farm) (l : List Run) (w : World) (e : Ending) (w' : World) : Prop :=
 ∃ B, e = .returned (.slice (some ⟨B, 0, none⟩) x.works.n x.works.n) ∧ IRow w' B x.works.n (fun k => dmL l (woOf x k).id_) ∧ w.heap.size ≤ B ∧ Below w.heap.size w w'
set_option maxRecDepth 100000 in
set_option maxHeartbeats 8000000 in
theorem doneBy_any (x : Farm) (A : Option Addr) (n cap : Nat) (l : List Run) (w : World) (hx : RFarm.ok w x) (hl : SlAt RRun w A n l) (hn : n ≤ 4000) (hok : FarmOk x) (hid : ∀ r ∈ l, hasId x.works.l r.id_ = true) (hto : ∀ r ∈ l, 0 ≤ r.to_ ∧ r.to_ ≤ 1000000000) :
  Calls Tryz.prog 61 #[farmV x, .slice A n cap] w (DnAns x l w) := by
 unfold farmV
 have hN : x.works.n = x.works.l.length := hx.2.1.1.1.symm
 have hN2 : x.works.n ≤ 200 := by have := hok.wo.len; omega
 have hxs := hx.2.1.1
 have RZ : ∀ W1 B W, Below w.heap.size w W1 → W1.heap.size = B → IRow W B x.works.n (fun k => dmL l (woOf x k).id_) → Below W1.heap.size W1 W → DnAns x l w (.returned (.slice (some ⟨B, 0, none⟩) x.works.n x.works.n)) W := fun W1 B W hba hB h hb =>
  ⟨B, rfl, h, by rw [← hB]; exact hba.size, hba.trans (hb.mono hba.size)⟩
 obtain ⟨N, hNe⟩ : ∃ m, x.works.n = m := ⟨_, rfl⟩
 obtain ⟨xA, hxA⟩ : ∃ m, x.works.A = m := ⟨_, rfl⟩
 obtain ⟨xc, hxc⟩ : ∃ m, x.works.cap = m := ⟨_, rfl⟩
 obtain ⟨Z, hZ⟩ : ∃ Z, DnAns x l w = Z := ⟨_, rfl⟩
 rw [hZ] at RZ ⊢
 have hNl : x.works.l.length = N := by rw [← hNe]; exact hN.symm
 clear hN hZ
 rw [hNe] at hN2 hxs RZ ⊢
 rw [hxA] at hxs ⊢
 rw [hxc]
 obtain ⟨W1, hW1⟩ : ∃ Y, w.alloc (.cells #[.slice x.workers.A x.workers.n x.workers.cap, .slice xA N xc, .slice x.lost.A x.lost.n x.lost.cap, .int .i64 x.tries, .bool x.doubles] 26) = Y := ⟨_, rfl⟩
 obtain ⟨xb, hxb⟩ : ∃ b, w.heap.size = b := ⟨_, rfl⟩
 have hba : Below w.heap.size w W1 := by rw [← hW1]; exact (Below.refl _ _).alloc (Nat.le_refl _) _
 have c1 : W1.cell? ⟨xb, 1, none⟩ = some (.slice xA N xc) := by rw [← hW1, ← hxb]; exact cell_new _ _ _ 1
 have hxs := hxs.below hba
 have hl1 := hl.below hba
 have hC1 : ∀ W, Below W1.heap.size W1 W → W.cell? ⟨xb, 1, none⟩ = some (.slice xA N xc) := fun W h => keepC h c1
 have hm := run_makeInts N (by omega)
 have hll := hl1.1
 have hbA : ∀ W : World, Below W.heap.size W (W.alloc (.cells (madeI N) 3)) := fun W => (Below.refl _ _).alloc (Nat.le_refl _) _
 have hB : W1.heap.size = xb + 1 := by rw [← hW1, ← hxb]; simp
 obtain ⟨W2, hW2⟩ : ∃ Y, W1.alloc (.cells (madeI N) 3) = Y := ⟨_, rfl⟩
 have hst : Dn1 N (xb + 1) W1 (.int .i64 0) W2 := by
  rw [← hW2, ← hB]
  exact ⟨0, Nat.zero_le _, rfl, (irow_made _ _).congr (fun j _ => by rw [if_neg (by omega)]), hbA W1⟩
 have RZ := fun W => RZ W1 (xb + 1) W hba hB
 have hrise := hok.wo.rise
 have hBle : W1.heap.size ≤ xb + 1 := Nat.le_of_eq hB
 have RZH := Lib.hid RZ
 clear RZ
 have hxH := Lib.hid hx
 clear hx
 have hW1H := Lib.hid hW1
 clear hW1
 have hxbH := Lib.hid hxb
 clear hxb
 have hbaH := Lib.hid hba
 clear hba
 have hstH := Lib.hid hst
 clear hst
 have hxsH := Lib.hid hxs
 clear hxs
 have hl1H := Lib.hid hl1
 clear hl1
 have hNeH := Lib.hid hNe
 clear hNe
 have hxAH := Lib.hid hxA
 clear hxA
 have hxcH := Lib.hid hxc
 clear hxc
 have hNlH := Lib.hid hNl
 clear hNl
 have hC1H := Lib.hid hC1
 clear hC1
 have hllH := Lib.hid hll
 clear hll
 have hbAH := Lib.hid hbA
 clear hbA
 have hlH := Lib.hid hl
 clear hl
 have hokH := Lib.hid hok
 clear hok
 have hidH := Lib.hid hid
 clear hid
 have htoH := Lib.hid hto
 clear hto
 have hBH := Lib.hid hB
 clear hB
 have hriseH := Lib.hid hrise
 clear hrise
 have hW2H := Lib.hid hW2
 clear hW2
 have hBleH := Lib.hid hBle
 clear hBle
 go_enter Tryz.func61, Tryz.ntmps61
 go_wp2_with fail
 rw [hW1H.out, hxbH.out]
 have c1 := hC1H.out W1 (Below.refl _ _)
 go_wp2_with fail
 simp only [hW2H.out, hBH.out]
 go_loopw [16] (fun i wr => Dn1 N (xb + 1) W1 i wr) (fun i _ => N - (intOf i).toNat)
 case atStart => exact hstH.out
 case round =>
  clear hstH
  obtain ⟨k, hk, rfl, hrow, hb⟩ := hrel
  by_cases hlt : k < N
  ·have f0 := (hrow k hlt).1
   have f1 := (hrow k hlt).2
   have R : Dn1 N (xb + 1) W1 (.int .i64 ((k : Int) + 1)) (wr.setCell ⟨xb + 1, k, none⟩ (.int .i64 (-1))) := by
    refine ⟨k + 1, hlt, by go_num, (hrow.set (-1)).congr (fun j hj => ?_), hb.setCell (p := ⟨xb + 1, k, none⟩) hBleH.out _⟩
    by_cases e : j = k
    ·subst e; rw [if_pos rfl, if_pos (by omega)]
    ·rw [if_neg e]
     by_cases e2 : j < k
     ·rw [if_pos e2, if_pos (by omega)]
     ·rw [if_neg e2, if_neg (by omega)]
   clear hrow
   have RH := Lib.hid R
   clear R
   have hbH := Lib.hid hb
   clear hb
   go_wp2
   refine ⟨?rel, ?measure⟩
   case measure => (simp [intOf]; omega)
   case rel => first | exact RH.out | exact ⟨rfl, RH.out⟩ | ((try refine ⟨rfl, ?_⟩); (repeat apply Exists.intro); refine ⟨RH.out, ?_⟩; ((repeat' apply And.intro) <;> rfl))
  ·obtain rfl : k = N := by omega
   have hst2 : Dn2 x l k (xb + 1) n W1 (.int .i64 0) wr := by
    refine ⟨0, Nat.zero_le _, rfl, hrow.congr (fun j hj => ?_), hb⟩
    rw [if_pos hj]; rfl
   clear hrow hb
   have hst2H := Lib.hid hst2
   clear hst2
   go_wp2_with fail
   obtain ⟨wa, rfl⟩ : ∃ W, W = wr := ⟨_, rfl⟩
   go_loopw [25] (fun i wq => Dn2 x l k (xb + 1) n W1 i wq) (fun i _ => n - (intOf i).toNat)
   case atStart => exact hst2H.out
   case round =>
    clear hst2H
    obtain ⟨q, hq, rfl, hrow, hb⟩ := hrel
    have hbs := hb.size
    by_cases hlt2 : q < n
    ·have hsl := hl1H.out.below hb
     obtain ⟨bl, ol, hA8, _⟩ := hsl.2.1 (by omega)
     subst hA8
     obtain ⟨r, hr⟩ : ∃ r, l[q]? = some r := ⟨l[q]'(by have := hllH.out; omega), List.getElem?_eq_getElem _⟩
     obtain ⟨e0, e1, e2, e3, e4⟩ := cells_Run hsl hr
     have hrm := List.mem_of_getElem? hr
     have hrid := hidH.out r hrm
     have hrto := htoH.out r hrm
     have hdm := fun s => dm_take hr s
     have hix := ixOf_get hrid
     obtain ⟨rid, rwk, rfm, rto, ren⟩ := r
     simp only at e0 e1 e2 e3 e4 hrid hrto hix
     obtain ⟨W5, hW5⟩ : ∃ Y, wr.alloc (.cells #[.string rid, .string rwk, .int .i64 rfm, .int .i64 rto, .int .i64 ren] 34) = Y := ⟨_, rfl⟩
     obtain ⟨rb, hrb⟩ : ∃ b, wr.heap.size = b := ⟨_, rfl⟩
     have hbz : Below wr.heap.size wr W5 := by rw [← hW5]; exact (Below.refl _ _).alloc (Nat.le_refl _) _
     have y0 : W5.cell? ⟨rb, 0, none⟩ = some (.string rid) := by rw [← hW5, ← hrb]; exact cell_new _ _ _ 0
     have y3 : W5.cell? ⟨rb, 3, none⟩ = some (.int .i64 rto) := by rw [← hW5, ← hrb]; exact cell_new _ _ _ 3
     have y4 : W5.cell? ⟨rb, 4, none⟩ = some (.int .i64 ren) := by rw [← hW5, ← hrb]; exact cell_new _ _ _ 4
     have hb5 := hb.trans (hbz.mono hbs)
     have c1 := hC1H.out _ (hb.alloc hbs (.cells #[.string rid, .string rwk, .int .i64 rfm, .int .i64 rto, .int .i64 ren] 34))
     have hrow5 := hrow.bel hbz
     have hxs5 := hxsH.out.below hb5
     have hbH := Lib.hid hb
     clear hb
     have hrH := Lib.hid hr
     clear hr
     have hrmH := Lib.hid hrm
     clear hrm
     have hridH := Lib.hid hrid
     clear hrid
     have hrtoH := Lib.hid hrto
     clear hrto
     have hdmH := Lib.hid hdm
     clear hdm
     have hW5H := Lib.hid hW5
     clear hW5
     have hrbH := Lib.hid hrb
     clear hrb
     have hbzH := Lib.hid hbz
     clear hbz
     have hb5H := Lib.hid hb5
     clear hb5
     have hrow5H := Lib.hid hrow5
     clear hrow5
     have hxs5H := Lib.hid hxs5
     clear hxs5
     have hslH := Lib.hid hsl
     clear hsl
     have hixH := Lib.hid hix
     clear hix
     clear hrow
     go_wp2_with fail
     rw [hW5H.out, hrbH.out]
     clear e0 e1 e2 e3 e4 c1
     refine (workOf_any xA k xc x.works.l rid W5 (by omega) hxs5H.out).mono ?_
     rintro e w6 ⟨rfl, hb6⟩
     have hwo : woF x.works.l rid = ((ixOf x.works.l rid : Nat) : Int) := by unfold woF; rw [if_pos hridH.out]
     rw [hwo]
     obtain ⟨ix, hixe⟩ : ∃ j, ixOf x.works.l rid = j := ⟨_, rfl⟩
     rw [hixe]
     obtain ⟨z, hz, hzi⟩ := hixH.out
     rw [hixe] at hz
     have hixl : ix < k := by have := (List.getElem?_eq_some_iff.1 hz).1; have := hNlH.out; omega
     have y3 := keepC hb6 y3
     have y4 := keepC hb6 y4
     have hb7 := hb5H.out.trans (hb6.mono hb5H.out.size)
     have hrow6 := hrow5H.out.bel hb6
     have g0 := (hrow6 ix hixl).1
     dsimp only at g0
     have g1 := (hrow6 ix hixl).2
     have hid : ∀ j, j < k → ((woOf x j).id_ = rid ↔ j = ix) := fun j hj => by
      have e1 : woOf x ix = z := woOf_get hz
      constructor
      ·intro e
       exact idInj hokH.out (by have := hNlH.out; omega) (by have := hNlH.out; omega) (by rw [e, e1, hzi])
      ·intro e; rw [e, e1, hzi]
     clear y0 hwo
     have hdm := hdmH.out
     have hsame : (ren = 1 → ¬ (dmL (l.take q) (woOf x ix).id_ < 0 ∨ rto < dmL (l.take q) (woOf x ix).id_)) → ∀ wx, Below w6.heap.size w6 wx → Dn2 x l k (xb + 1) n W1 (.int .i64 ((q : Int) + 1)) wx := by
      intro hno wx hbx
      refine ⟨q + 1, hlt2, by go_num, (hrow6.bel hbx).congr (fun j hj => ?_), hb7.trans (hbx.mono hb7.size)⟩
      rw [hdm, dmF]
      by_cases e : j = ix
      ·subst e
       rw [if_neg (fun h => hno h.2.1 h.2.2)]
      ·rw [if_neg (fun h => e ((hid j hj).1 h.1.symm))]
     have hput : ren = 1 → (dmL (l.take q) (woOf x ix).id_ < 0 ∨ rto < dmL (l.take q) (woOf x ix).id_) → ∀ nq, Dn2 x l k (xb + 1) n W1 (.int .i64 ((q : Int) + 1)) ((w6.drewN nq).setCell ⟨xb + 1, ix, none⟩ (.int .i64 rto)) := by
      intro h1 h2 nq
      have hbn := bel_drewN (Below.refl w6.heap.size w6) nq
      refine ⟨q + 1, hlt2, by go_num, ((hrow6.bel hbn).set rto).congr (fun j hj => ?_), (hb7.trans (hbn.mono hb7.size)).setCell (p := ⟨xb + 1, ix, none⟩) hBleH.out _⟩
      rw [hdm, dmF]
      by_cases e : j = ix
      ·subst e
       rw [if_pos rfl, if_pos ⟨((hid j hj).2 rfl).symm, h1, h2⟩]
      ·rw [if_neg e, if_neg (fun h => e ((hid j hj).1 h.1.symm))]
     obtain ⟨dm, hdme⟩ : ∃ v, dmL (l.take q) (woOf x ix).id_ = v := ⟨_, rfl⟩
     rw [hdme] at hsame hput g0
     have hixi : (ix : Int) < (k : Int) := by omega
     clear hdm hdmH hid hzi hz hixH
     by_cases h1 : ren = 1
     ·subst h1
      by_cases h2 : dm < 0
      ·have hd : decide (dm < 0) = true := decide_eq_true h2
       have R := hput rfl (.inl h2)
       clear hsame hput
       have hb6H := Lib.hid hb6
       clear hb6
       have hb7H := Lib.hid hb7
       clear hb7
       have hrow6H := Lib.hid hrow6
       clear hrow6
       have hixeH := Lib.hid hixe
       clear hixe
       have hdmeH := Lib.hid hdme
       clear hdme
       have RH := Lib.hid R
       clear R
       go_wp2_with fail
       go_quiet (fail)
       have R := RH.out nq
       clear RH
       generalize hw8 : w6.drewN nq = w8 at R
       have hb8 : Below w6.heap.size w6 w8 := by rw [← hw8]; exact bel_drewN (Below.refl w6.heap.size w6) nq
       have y3 := keepC hb8 y3
       have g0 := keepC hb8 g0
       have g1 := ((hrow6H.out.bel hb8) ix hixl).2
       (try rw [hw8])
       have hb8H := Lib.hid hb8
       clear hb8
       have hw8H := Lib.hid hw8
       clear hw8
       have RH := Lib.hid R
       clear R
       go_wp2
       refine ⟨?rel, ?measure⟩
       case measure => (simp [intOf]; omega)
       case rel => first | exact RH.out | exact ⟨rfl, RH.out⟩ | ((try refine ⟨rfl, ?_⟩); (repeat apply Exists.intro); refine ⟨RH.out, ?_⟩; ((repeat' apply And.intro) <;> rfl))
      ·by_cases h3 : rto < dm
       ·have hd : decide (dm < 0) = false := decide_eq_false h2
        have hd3 : decide (rto < dm) = true := decide_eq_true h3
        have R := hput rfl (.inr h3)
        clear hsame hput
        have hb6H := Lib.hid hb6
        clear hb6
        have hb7H := Lib.hid hb7
        clear hb7
        have hrow6H := Lib.hid hrow6
        clear hrow6
        have hixeH := Lib.hid hixe
        clear hixe
        have hdmeH := Lib.hid hdme
        clear hdme
        have RH := Lib.hid R
        clear R
        go_wp2_with fail
        go_quiet (fail)
        have R := RH.out nq
        clear RH
        generalize hw8 : w6.drewN nq = w8 at R
        have hb8 : Below w6.heap.size w6 w8 := by rw [← hw8]; exact bel_drewN (Below.refl w6.heap.size w6) nq
        have y3 := keepC hb8 y3
        have g0 := keepC hb8 g0
        have g1 := ((hrow6H.out.bel hb8) ix hixl).2
        (try rw [hw8])
        have hb8H := Lib.hid hb8
        clear hb8
        have hw8H := Lib.hid hw8
        clear hw8
        have RH := Lib.hid R
        clear R
        go_wp2
        refine ⟨?rel, ?measure⟩
        case measure => (simp [intOf]; omega)
        case rel => first | exact RH.out | exact ⟨rfl, RH.out⟩ | ((try refine ⟨rfl, ?_⟩); (repeat apply Exists.intro); refine ⟨RH.out, ?_⟩; ((repeat' apply And.intro) <;> rfl))
       ·have hd : decide (dm < 0) = false := decide_eq_false h2
        have hd3 : decide (rto < dm) = false := decide_eq_false h3
        have R := fun nq => hsame (fun _ h => h.elim h2 h3) _ (bel_drewN (Below.refl w6.heap.size w6) nq)
        clear hsame hput
        have hb6H := Lib.hid hb6
        clear hb6
        have hb7H := Lib.hid hb7
        clear hb7
        have hrow6H := Lib.hid hrow6
        clear hrow6
        have hixeH := Lib.hid hixe
        clear hixe
        have hdmeH := Lib.hid hdme
        clear hdme
        have RH := Lib.hid R
        clear R
        go_wp2_with fail
        go_quiet (fail)
        go_wp2
        refine ⟨?rel, ?measure⟩
        case measure => (simp [intOf]; omega)
        case rel => first | exact (RH.out _) | exact ⟨rfl, (RH.out _)⟩ | ((try refine ⟨rfl, ?_⟩); (repeat apply Exists.intro); refine ⟨(RH.out _), ?_⟩; ((repeat' apply And.intro) <;> rfl))
     ·have h1' : (ren == 1) = false := by simpa using h1
      have R := fun nq => hsame (fun h => absurd h h1) _ (bel_drewN (Below.refl w6.heap.size w6) nq)
      clear hsame hput h1
      have hb6H := Lib.hid hb6
      clear hb6
      have hb7H := Lib.hid hb7
      clear hb7
      have hrow6H := Lib.hid hrow6
      clear hrow6
      have hixeH := Lib.hid hixe
      clear hixe
      have hdmeH := Lib.hid hdme
      clear hdme
      have RH := Lib.hid R
      clear R
      go_wp2_with fail
      go_quiet (fail)
      go_wp2
      refine ⟨?rel, ?measure⟩
      case measure => (simp [intOf]; omega)
      case rel => first | exact (RH.out _) | exact ⟨rfl, (RH.out _)⟩ | ((try refine ⟨rfl, ?_⟩); (repeat apply Exists.intro); refine ⟨(RH.out _), ?_⟩; ((repeat' apply And.intro) <;> rfl))
    ·obtain rfl : q = n := by omega
     have e : l.take q = l := List.take_of_length_le (by have := hllH.out; omega)
     rw [e] at hrow
     have R := RZH.out _ hrow hb
     clear e hrow hb
     have RH := Lib.hid R
     clear R
     go_wp2
     exact RH.out
end Go.Proofs.YtbnkoefljcekbaaGreatDoor.C9
