/-
 Several texts of mine as one, without what is not wanted here: XFmH, XLoK.
-/
import Derived.Test.YtbnkoefljcekbaaGreatDoorRbNC9
import Derived.Deep.QuietTactic
import Derived.BigQuiet
import Derived.Test.YtbnkoefljcekbaaGreatDoorRbGb
import Derived.Test.YtbnkoefljcekbaaGreatDoorRbAC9
import Derived.WideKeyArgs
import Derived.DeepKeys4
namespace Go.Proofs.YtbnkoefljcekbaaGreatDoor.C9
open Go.ChangeShapes Go.WideShapes Go.Deep Go.RowKit Go.Maps
set_option linter.unusedVariables false
set_option linter.unusedSimpArgs false

section
variable {X : FX} {K : KD Tryz.prog 71 Loss} {rv ov : Value} {s s' : PS} {w0 W W' : World}
theorem FC.congr (h : FC X K rv ov s w0 W) (h1 : s'.now = s.now) (h2 : s'.done = s.done) (h3 : s'.lost = s.lost) (h4 : s'.last = s.last) (h5 : s'.begun = s.begun) (h6 : s'.out = s.out) : FC X K rv ov s' w0 W :=
 ⟨by rw [h1]; exact h.blk, h.crit, by rw [h2]; exact h.done, by rw [h3]; exact h.lost, by rw [h4]; exact h.last, by rw [h5]; exact h.begun, h.map, by rw [h6]; exact h.out, h.nd, h.ge, h.lt, h.apart, h.base, h.bel⟩
theorem FA.farG (h : FA X K rv ov s w0 W) {row : Option Nat} (hg : W.grownBy W' row) (hb : ∀ b, row = some b → b ∉ X.bl ∧ ov.ownBlock ≠ some b ∧ rv.ownBlock ≠ some b ∧ X.base ≤ b) : FA X K rv ov s w0 W' :=
 ⟨h.core.far hg (fun b e => ⟨(hb b e).1, (hb b e).2.1, (hb b e).2.2.2⟩), own_kp h.runs hg (fun c hc e => (hb c e).2.2.1 hc) (fun x _ hx => grun_ok_any _ _ x hx), h.rap, h.rov⟩
theorem FA.sorted (h : FA X K rv ov s w0 W) (hg : W.grownBy W' rv.ownBlock) {P : List RR} (ho : Own RGRun 144 W' X.base rv (P.map (gr X.F))) : FA X K rv ov { s with runs := P } w0 W' :=
 ⟨(h.mid hg).congr rfl rfl rfl rfl rfl rfl, ho, h.rap, h.rov⟩
end
theorem tmap_heap {P : Program} {k : TypeId} {κ α : Type} {K : KD P k κ} {val : α → Value} {w w' : World} {b c : Nat} {f : κ → Option α} (h : TMap K val w b f c) (hb : w'.heap[b]? = w.heap[b]?) : TMap K val w' b f c := by
 obtain ⟨D, ⟨es, clock, he, r⟩, r2⟩ := h
 exact ⟨D, ⟨es, clock, hb.trans he, r⟩, r2⟩
theorem cand_iff {F : FP} {t : Int} {r : RR} (hg : going r = true) (h0 : 0 ≤ t) : cand F t r = ((F.endAt r.worker r.work r.from_).getD (-1) == t) := by
 unfold cand
 rw [hg, Bool.true_and, Bool.eq_iff_iff, beq_iff_eq, beq_iff_eq]
 cases h : F.endAt r.worker r.work r.from_ with
 | none => simp; omega
 | some a => simp
theorem byF_same {F : FP} {t : Int} {P : List RR} {k : Nat} {r : RR} (hr : P[k]? = some r) (h : cand F t r = false ∨ ∃ v, byF F t P k (r.work : Int) = some v) (i : Int) : byF F t P (k + 1) i = byF F t P k i := by
 rw [byF_succ hr]
 cases hb : byF F t P k i with
 | some v => rfl
 | none =>
  simp only
  rcases h with h | ⟨v, h⟩
  ·rw [h]; simp
  ·by_cases e : (r.work : Int) = i
   ·subst e; rw [h] at hb; cases hb
   ·have : ((r.work : Int) == i) = false := by simpa using e
    rw [this]; simp
theorem byF_put {F : FP} {t : Int} {P : List RR} {k : Nat} {r : RR} (hr : P[k]? = some r) (h : cand F t r = true) (hn : byF F t P k (r.work : Int) = none) (i : Int) : upd (byF F t P k) (r.work : Int) (r.worker : Int) i = byF F t P (k + 1) i := by
 rw [byF_succ hr]
 unfold upd
 by_cases e : i = (r.work : Int)
 ·subst e
  rw [if_pos rfl, hn]
  simp [h]
 ·rw [if_neg e]
  have : ((r.work : Int) == i) = false := by simpa using fun h => e h.symm
  cases hb : byF F t P k i with
  | some v => rfl
  | none => simp [this]
theorem grown_drewN {a b : World} {row : Option Nat} (h : a.grownBy b row) (q : Nat) : a.grownBy (b.drewN q) row := ⟨h.os, h.tape, h.output, h.size, h.block⟩
/-- what is so between finish's calls of its closure -/
def FnI (X : FX) (K : KD Tryz.prog 71 Loss) (rv : Value) (s : PS) (w0 : World) (rb qb pb mk c : Nat) (k : Nat) (W : World) : Prop :=
 ∃ ov', FC X K rv ov' (fnS X.F s k) w0 W ∧ ov'.ownBlock ≠ some rb ∧ ov'.ownBlock ≠ some qb ∧ ov'.ownBlock ≠ some pb ∧ ov'.ownBlock ≠ some mk ∧ W.cell? ⟨qb, 0, none⟩ = some (.map (some mk)) ∧ W.cell? ⟨pb, 0, none⟩ = some (.pointer (some ⟨X.f, 0, none⟩)) ∧ TMap KI (fun n : Int => Value.int .i64 n) W mk (byF X.F s.now s.runs s.runs.length) c ∧ rb < W.heap.size
theorem fn_del {X : FX} {K : KD Tryz.prog 71 Loss} {rv : Value} {s : PS} {w0 : World} {rb qb pb mk c : Nat} (hS : FS X s w0) (hso : s.runs.Pairwise fun a b => a.worker ≤ b.worker) (hdi : s.runs.Pairwise fun a b => a.work = b.work → a.worker ≠ b.worker) (hlen : s.out.length + s.runs.length ≤ 900000)
  (nb : rb ∉ X.bl ∧ qb ∉ X.bl ∧ pb ∉ X.bl ∧ mk ∉ X.bl) (hrb : X.base ≤ rb) (nrb : rb ≠ qb ∧ rb ≠ pb ∧ rb ≠ mk) :
  DelP 114 #[.pointer (some ⟨qb, 0, none⟩), .pointer (some ⟨pb, 0, none⟩)] (fun x => hasDone X.F s.now s.runs x.work.toNat) (s.runs.map (gr X.F)) rb (FnI X K rv s w0 rb qb pb mk c) := by
 obtain ⟨b1, b2, b3, b4⟩ := nb
 obtain ⟨r1, r2, r3⟩ := nrb
 refine ⟨fun k W W' h hg => ?_, fun k x W0 W hx hI hW => ?_⟩
 ·obtain ⟨ov', h1, h2, h3, h4, h5, h6, h7, h8, h9⟩ := h
  refine ⟨ov', h1.far hg (fun b hb => by injection hb with hb; subst hb; exact ⟨b1, h2, hrb⟩), h2, h3, h4, h5, hg.cell h6 (by simp; omega), hg.cell h7 (by simp; omega), h8.kept hg (by simp; omega), Nat.lt_of_lt_of_le h9 hg.size⟩
 ·obtain ⟨ov', h1, h2, h3, h4, h5, h6, h7, h8, hrl0⟩ := hI
  rw [List.getElem?_map] at hx
  obtain ⟨r, hr, rfl⟩ := Option.map_eq_some_iff.1 hx
  have hsz := hW.size
  have hq0 := cell?_lt h6
  have hp0 := cell?_lt h7
  have hm0 := h8.lt
  have hf2 := fin2_any (h1.below hW) hS hr hso hdi hlen ⟨b2, b3⟩ (keepC hW h6) (keepC hW h7) (h8.below hW h8.lt)
  refine hf2.mono ?_
  rintro e w' ⟨rfl, ov2, k1, k2, k3, k4⟩
  have hne : ∀ b, b < W0.heap.size → ov'.ownBlock ≠ some b → ov2.ownBlock ≠ some b := fun b hb hn e => by
   rcases k2 b e with h | h
   ·exact hn h
   ·omega
  have hkp : ∀ b, b < W0.heap.size → b ∉ X.bl → ov'.ownBlock ≠ some b → w'.heap[b]? = W.heap[b]? := fun b hb h1 h2 => k4 b (by omega) h1 h2
  refine ⟨by rw [show (gr X.F r).work.toNat = r.work from rfl], ⟨ov2, k1, hne rb hrl0 h2, hne qb hq0 h3, hne pb hp0 h4, hne mk hm0 h5, ?_, ?_, ?_, by omega⟩, k3, fun b hb hlt => ?_⟩
  ·exact (World.cell?_of_block (a := ⟨qb, 0, none⟩) (hkp qb hq0 b2 h3)).trans (keepC hW h6)
  ·exact (World.cell?_of_block (a := ⟨pb, 0, none⟩) (hkp pb hp0 b3 h4)).trans (keepC hW h7)
  ·exact tmap_heap (h8.below hW h8.lt) (hkp mk hm0 b4 h5)
  ·rcases hb with rfl | hb
   ·exact k4 b (by omega) b1 h2
   ·refine k4 b hlt (fun hm => ?_) (fun e => ?_)
    ·have := h1.lt b hm; omega
    ·have := (h1.out.1.lt b e).2; omega
def FiRel (F : FP) (t : Int) (P : List RR) (mk : Nat) (W4 : World) (i : Value) (wr : World) : Prop :=
 ∃ j c : Nat, j ≤ P.length ∧ i = .int .i64 j ∧ c ≤ j ∧ TMap KI (fun n : Int => Value.int .i64 n) wr mk (byF F t P j) c ∧ W4.grownBy wr (some mk)
def FinAns (X : FX) (K : KD Tryz.prog 71 Loss) (s : PS) (w0 : World) (e : Ending) (w' : World) : Prop :=
 e = .returned (.tuple #[]) ∧ ∃ (rs : List RR) (rv' ov' : Value), rs.Perm s.runs ∧ FA X K rv' ov' (finP X.F { s with runs := rs }) w0 w'
set_option maxRecDepth 100000 in
set_option maxHeartbeats 8000000 in
theorem finish_any {X : FX} {K : KD Tryz.prog 71 Loss} {rv ov : Value} {s : PS} {w0 w : World} (hA : FA X K rv ov s w0 w) (hS : FS X s w0) (hdi : s.runs.Pairwise fun a b => a.work = b.work → a.worker ≠ b.worker) (hlen : s.out.length + s.runs.length ≤ 900000) :
  Calls Tryz.prog 69 #[.pointer (some ⟨X.f, 0, none⟩)] w (FinAns X K s w0) := by
 obtain ⟨A, cap, hrv⟩ := hA.runs.form
 obtain ⟨n, hn⟩ : ∃ n, (s.runs.map (gr X.F)).length = n := ⟨_, rfl⟩
 rw [hn] at hrv
 subst hrv
 have hn9 : n ≤ 900000 := by rw [← hn, List.length_map]; omega
 have hba := (Below.refl w.heap.size w).alloc (Nat.le_refl _) (.cells #[.pointer (some ⟨X.f, 0, none⟩)] 54)
 have b0 := Boxed.new w 54 (.pointer (some ⟨X.f, 0, none⟩))
 have hA1 := hA.below hba
 have hnew := hA.new
 have c8 := (hA1.core.blk 8 _ rfl).1
 have c8w := (hA.core.blk 8 _ rfl).1
 have hfl := cell?_lt c8w
 have hst := sortG_any A n cap X.F s.runs _ X.base hA1.runs (by omega)
 obtain ⟨pb, hpb⟩ : ∃ b, w.heap.size = b := ⟨_, rfl⟩
 rw [hpb] at b0 hnew
 have hAH := Lib.hid hA
 clear hA
 have hSH := Lib.hid hS
 clear hS
 have hdiH := Lib.hid hdi
 clear hdi
 have hnH := Lib.hid hn
 clear hn
 have hbaH := Lib.hid hba
 clear hba
 have b0H := Lib.hid b0
 clear b0
 have hA1H := Lib.hid hA1
 clear hA1
 have hnewH := Lib.hid hnew
 clear hnew
 have hstH := Lib.hid hst
 clear hst
 have hpbH := Lib.hid hpb
 clear hpb
 go_enter Tryz.func69, Tryz.ntmps69
 go_wp2_with fail
 rw [hpbH.out]
 refine hstH.out.mono ?_
 rintro e w2 ⟨rfl, P, hperm, hso, hO2, hg2⟩
 have hA2 := hA1H.out.sorted hg2 hO2
 have q2 : w2.cell? ⟨pb, 0, none⟩ = some (.pointer (some ⟨X.f, 0, none⟩)) := hg2.cell b0H.out.cell (fun e => hnewH.out.2.2.1 e.symm)
 have hplt := cell?_lt q2
 have c8 := (hA2.core.blk 8 _ rfl).1
 have hpo : ov.ownBlock ≠ some pb := hnewH.out.2.1
 have hPl : P.length = n := by have := hnH.out; rw [List.length_map] at this; rw [← this]; exact hperm.length_eq
 have hSP : FS X { s with runs := P } w0 := ⟨hSH.out.ok, hSH.out.F, hSH.out.ws, hSH.out.xs, hSH.out.ls, hSH.out.t0, hSH.out.t1, fun r hr => hSH.out.rn r (hperm.mem_iff.1 hr)⟩
 have hdiP : P.Pairwise fun a b => a.work = b.work → a.worker ≠ b.worker := hperm.symm.pairwise hdiH.out (fun {a b} (h : a.work = b.work → a.worker ≠ b.worker) h1 h2 => h h1.symm h2.symm)
 have hnew2 := hA2.new
 have hlt2 := hA2.core.lt
 have hba2 : Below w2.heap.size w2 ((w2.alloc (.map #[] 0)).alloc (.cells #[.map (some w2.heap.size)] 146)) := ((Below.refl _ _).alloc (Nat.le_refl _) _).alloc (by simp) _
 have hA4 := hA2.below hba2
 have hm4 := (TMap.made w2 KI (fun n : Int => Value.int .i64 n)).alloc (.cells #[.map (some w2.heap.size)] 146)
 have hq4 := Boxed.new (w2.alloc (.map #[] 0)) 146 (.map (some w2.heap.size))
 rw [World.size_alloc] at hq4
 have hq4 := hq4.cell
 have hp4 := keepC hba2 q2
 clear hg2 hO2 hA1H hstH b0H hbaH c8w
 have hc4 := (hA4.core.blk 8 _ rfl).1
 obtain ⟨W4, hW4⟩ : ∃ Y, (w2.alloc (.map #[] 0)).alloc (.cells #[.map (some w2.heap.size)] 146) = Y := ⟨_, rfl⟩
 have hz4 : W4.heap.size = w2.heap.size + 2 := by rw [← hW4]; simp
 have hp4L := hp4
 have hc4L := hc4
 rw [hW4] at hA4 hm4 hq4 hp4 hba2 hc4
 have hmkA : w2.heap.size ∉ X.bl ∧ ov.ownBlock ≠ some w2.heap.size ∧ (Value.slice A n cap).ownBlock ≠ some w2.heap.size ∧ X.base ≤ w2.heap.size := hA2.new
 have hqbA : w2.heap.size + 1 ∉ X.bl ∧ ov.ownBlock ≠ some (w2.heap.size + 1) ∧ (Value.slice A n cap).ownBlock ≠ some (w2.heap.size + 1) :=
  ⟨fun hm => by have := hA2.core.lt _ hm; omega, fun e => by have := hA2.own_lt.2 _ e; omega, fun e => by have := hA2.own_lt.1 _ e; omega⟩
 have hpbA : pb ∉ X.bl ∧ (Value.slice A n cap).ownBlock ≠ some pb := ⟨hnewH.out.1, hnewH.out.2.2.1⟩
 have hst4 : FiRel X.F s.now P w2.heap.size W4 (.int .i64 0) W4 := ⟨0, 0, Nat.zero_le _, rfl, Nat.le_refl _, hm4.congr (fun x _ => by unfold byF; simp), World.grownBy.refl _ _⟩
 clear hm4 hnew2
 obtain ⟨mk, hmk⟩ : ∃ b, w2.heap.size = b := ⟨_, rfl⟩
 rw [hmk] at hq4 hz4 hmkA hqbA hst4 hplt
 have hpermH := Lib.hid hperm
 clear hperm
 have hsoH := Lib.hid hso
 clear hso
 have hA2H := Lib.hid hA2
 clear hA2
 have hPlH := Lib.hid hPl
 clear hPl
 have hSPH := Lib.hid hSP
 clear hSP
 have hdiPH := Lib.hid hdiP
 clear hdiP
 have hlt2H := Lib.hid hlt2
 clear hlt2
 have hba2H := Lib.hid hba2
 clear hba2
 have hA4H := Lib.hid hA4
 clear hA4
 have hq4H := Lib.hid hq4
 clear hq4
 have hp4H := Lib.hid hp4
 clear hp4
 have hpoH := Lib.hid hpo
 clear hpo
 have hst4H := Lib.hid hst4
 clear hst4
 have hmkH := Lib.hid hmk
 clear hmk
 have hc4H := Lib.hid hc4
 clear hc4
 have hmkAH := Lib.hid hmkA
 clear hmkA
 have hqbAH := Lib.hid hqbA
 clear hqbA
 have hpbAH := Lib.hid hpbA
 clear hpbA
 have hz4H := Lib.hid hz4
 clear hz4
 have hW4H := Lib.hid hW4
 clear hW4
 have hmkM := @run_makeMap Tryz.prog
 go_wp2_with fail

 clear hmkM hp4L hc4L
 have e4 := hW4H.out
 rw [hmkH.out] at e4
 simp only [hmkH.out]
 rw [e4]
 clear e4
 go_loopw [18] (fun i wr => FiRel X.F s.now P mk W4 i wr) (fun i _ => n - (intOf i).toNat)
 case atStart => exact hst4H.out
 case round =>
  clear hst4H
  obtain ⟨j, c, hj, rfl, hcj, hm, hg⟩ := hrel
  have hPl := hPlH.out
  have hAr := hA4H.out.farG hg (fun b hb => by injection hb with hb; subst hb; exact hmkAH.out)
  have hqr := hg.cell hq4H.out (by simp)
  have hpr := hg.cell hp4H.out (by simp; have := hz4H.out; omega)
  have c7 := (hAr.core.blk 7 _ rfl).1
  have c8r := (hAr.core.blk 8 _ rfl).1
  by_cases hlt : j < n
  ·obtain ⟨g, cur, hA9, _⟩ := own_block hAr.runs (by omega)
   subst hA9
   obtain ⟨r, hr⟩ : ∃ r, P[j]? = some r := ⟨P[j]'(by omega), List.getElem?_eq_getElem _⟩
   obtain ⟨hgr, _, hkW, hiX, hf0, hf1⟩ := hSPH.out.rn r (List.mem_of_getElem? hr)
   obtain ⟨d0, d1, d2, d3⟩ := cells_GRun hAr.runs.slAt (x := gr X.F r) (by rw [List.getElem?_map, hr]; rfl)
   rw [Nat.zero_add] at d0 d1 d2 d3
   have hcd := cand_iff (F := X.F) (t := s.now) hgr hSH.out.t0
   obtain ⟨n1, n2, n3, n4, n5, n6⟩ := hSH.out.nW
   have e0 : (gr X.F r).work = (r.work : Int) := rfl
   have e1 : (gr X.F r).worker = (r.worker : Int) := rfl
   have e3 : (gr X.F r).end_ = (X.F.endAt r.worker r.work r.from_).getD (-1) := rfl
   have hgood : KI.good (r.work : Int) := ki_good (by omega) (by omega)
   have hsame := byF_same (F := X.F) (t := s.now) hr
   have hput := byF_put (F := X.F) (t := s.now) hr
   obtain ⟨ed, hed⟩ : ∃ e, (X.F.endAt r.worker r.work r.from_).getD (-1) = e := ⟨_, rfl⟩
   obtain ⟨fr, hfr⟩ : ∃ e, (gr X.F r).from_ = e := ⟨_, rfl⟩
   rw [hed] at hcd e3
   rw [e0] at d0
   rw [e1] at d1
   rw [hfr] at d2
   rw [e3] at d3
   obtain ⟨iw, hiw⟩ : ∃ q, r.work = q := ⟨_, rfl⟩
   obtain ⟨ik, hik⟩ : ∃ q, r.worker = q := ⟨_, rfl⟩
   rw [hiw] at d0 hsame hput hgood
   rw [hik] at d1 hput
   have hgl := own_lt hAr.runs
   have hmlt := hm.lt
   have hbx := (Below.refl wr.heap.size wr).alloc (Nat.le_refl _) (.cells #[.int .i64 iw, .int .i64 ik, .int .i64 fr, .int .i64 ed] 144)
   have hma := hm.alloc (.cells #[.int .i64 iw, .int .i64 ik, .int .i64 fr, .int .i64 ed] 144)
   have hga : W4.grownBy (wr.alloc (.cells #[.int .i64 iw, .int .i64 ik, .int .i64 fr, .int .i64 ed] 144)) (some mk) := grown_trans hg (below_g hbx |> fun h => ⟨h.os, h.tape, h.output, h.size, fun k hk _ => h.block k hk (by simp)⟩)
   have hlk := (hma.look (t := 146) (e := 3) Tryz.underlying146 (z0 := (0 : Int)) (Tryz.zeroValue3 _) injInt (x := (iw : Int)) hgood).2
   rw [show KI.val (iw : Int) = Value.int .i64 (iw : Int) from rfl] at hlk
   have hqa := keepC hbx hqr
   have hpa := keepC hbx hpr
   have c7a := keepC hbx c7
   obtain ⟨bo, hbo⟩ : ∃ o, byF X.F s.now P j (iw : Int) = o := ⟨_, rfl⟩
   rw [hbo] at hlk
   have hn1 : j + 1 ≤ P.length := by omega
   have Rsame : cand X.F s.now r = false ∨ (∃ v, bo = some v) → ∀ nq, FiRel X.F s.now P mk W4 (.int .i64 ((j : Int) + 1)) ((wr.alloc (.cells #[.int .i64 iw, .int .i64 ik, .int .i64 fr, .int .i64 ed] 144)).drewN nq) := fun h nq =>
    ⟨j + 1, c, hn1, by go_num, by omega, (hma.congr (fun x _ => (hsame (by rw [hbo]; exact h) x).symm)).kept (row := none) ⟨rfl, rfl, rfl, Nat.le_refl _, fun _ _ _ => rfl⟩ (by simp), grown_trans hga ⟨rfl, rfl, rfl, Nat.le_refl _, fun _ _ _ => rfl⟩⟩
   clear hsame
   cases bo with
   | some v =>
    have R := Rsame (.inr ⟨v, rfl⟩)
    simp only [Option.getD_some, Option.isSome_some] at hlk
    clear Rsame hput hcd e0 e1 e3 hma hga hbx hg hm hAr
    have hrH := Lib.hid hr
    clear hr
    have RH := Lib.hid R
    clear R
    have hedH := Lib.hid hed
    clear hed
    have hfrH := Lib.hid hfr
    clear hfr
    have hiwH := Lib.hid hiw
    clear hiw
    have hikH := Lib.hid hik
    clear hik
    have hboH := Lib.hid hbo
    clear hbo
    have hPlH := Lib.hid hPl
    clear hPl
    go_wp2_with fail
    by_cases hc : ed = s.now
    ·have hc' : (ed == s.now) = true := by simpa using hc
     clear hc
     go_quiet (fail)
     go_wp2
     refine ⟨?rel, ?measure⟩
     case measure => (simp [intOf]; omega)
     case rel => first | exact (RH.out _) | exact ⟨rfl, (RH.out _)⟩ | ((try refine ⟨rfl, ?_⟩); (repeat apply Exists.intro); refine ⟨(RH.out _), ?_⟩; ((repeat' apply And.intro) <;> rfl))
    ·have hc' : (ed == s.now) = false := by simpa using hc
     go_quiet (fail)
     go_wp2
     refine ⟨?rel, ?measure⟩
     case measure => (simp [intOf]; omega)
     case rel => first | exact (RH.out _) | exact ⟨rfl, (RH.out _)⟩ | ((try refine ⟨rfl, ?_⟩); (repeat apply Exists.intro); refine ⟨(RH.out _), ?_⟩; ((repeat' apply And.intro) <;> rfl))
   | none =>
    simp only [Option.getD_none, Option.isSome_none] at hlk
    by_cases hc : ed = s.now
    ·have hc' : (ed == s.now) = true := by simpa using hc
     rw [hc'] at hcd
     have hmN : ∀ q, TMap KI (fun n : Int => Value.int .i64 n) ((wr.alloc (.cells #[.int .i64 iw, .int .i64 ik, .int .i64 fr, .int .i64 ed] 144)).drewN q) mk (byF X.F s.now P j) c := fun q => hma.kept (row := none) ⟨rfl, rfl, rfl, Nat.le_refl _, fun _ _ _ => rfl⟩ (by simp)
     have R : ∀ q w6, TMap KI (fun n : Int => Value.int .i64 n) w6 mk (upd (byF X.F s.now P j) (iw : Int) (ik : Int)) (if (byF X.F s.now P j (iw : Int)).isSome then c else c + 1) → ((wr.alloc (.cells #[.int .i64 iw, .int .i64 ik, .int .i64 fr, .int .i64 ed] 144)).drewN q).grownBy w6 (some mk) → FiRel X.F s.now P mk W4 (.int .i64 ((j : Int) + 1)) w6 := by
      intro q w6 h1 h2
      refine ⟨j + 1, _, hn1, by go_num, ?_, h1.congr (fun x _ => hput hcd hbo x), grown_trans (grown_drewN hga q) h2⟩
      have := ite_le_succ ((byF X.F s.now P j (iw : Int)).isSome = true) c
      omega
     have hcM : c < maxLen := by unfold maxLen; omega
     clear hc Rsame hput e0 e1 e3 hma hga hbx hg hm hAr hcd
     have hrH := Lib.hid hr
     clear hr
     have RH := Lib.hid R
     clear R
     have hedH := Lib.hid hed
     clear hed
     have hfrH := Lib.hid hfr
     clear hfr
     have hiwH := Lib.hid hiw
     clear hiw
     have hikH := Lib.hid hik
     clear hik
     have hboH := Lib.hid hbo
     clear hbo
     have hPlH := Lib.hid hPl
     clear hPl
     have hmNH := Lib.hid hmN
     clear hmN
     have hgoodH := Lib.hid hgood
     clear hgood
     go_wp2_with fail
     go_quiet (fail)
     go_wp2_with (at_mapUpdate; go_loud (refine wpList_tstore rfl (.tmp 40) (.tmp 42) (.tmp 44) 146 rfl Tryz.underlying146 injInt rfl (hmNH.out _) hcM (iw : Int) rfl hgoodH.out (ik : Int) rfl ?_); intro w6 hm6 hg6; have R6 := RH.out _ w6 hm6 hg6; have R6H := Lib.hid R6; clear hm6 hg6 R6)
     refine ⟨?rel, ?measure⟩
     case measure => (simp [intOf]; omega)
     case rel => first | exact R6H.out | exact ⟨rfl, R6H.out⟩ | ((try refine ⟨rfl, ?_⟩); (repeat apply Exists.intro); refine ⟨R6H.out, ?_⟩; ((repeat' apply And.intro) <;> rfl))
    ·have hc' : (ed == s.now) = false := by simpa using hc
     rw [hc'] at hcd
     have R := Rsame (.inl hcd)
     clear hc Rsame hput hcd e0 e1 e3 hma hga hbx hg hm hAr
     have hrH := Lib.hid hr
     clear hr
     have RH := Lib.hid R
     clear R
     have hedH := Lib.hid hed
     clear hed
     have hfrH := Lib.hid hfr
     clear hfr
     have hiwH := Lib.hid hiw
     clear hiw
     have hikH := Lib.hid hik
     clear hik
     have hboH := Lib.hid hbo
     clear hbo
     have hPlH := Lib.hid hPl
     clear hPl
     go_wp2_with fail
     go_quiet (fail)
     go_wp2
     refine ⟨?rel, ?measure⟩
     case measure => (simp [intOf]; omega)
     case rel => first | exact (RH.out _) | exact ⟨rfl, (RH.out _)⟩ | ((try refine ⟨rfl, ?_⟩); (repeat apply Exists.intro); refine ⟨(RH.out _), ?_⟩; ((repeat' apply And.intro) <;> rfl))
  ·obtain rfl : j = P.length := by omega
   obtain ⟨m1, m2, m3, m4⟩ := hmkAH.out
   obtain ⟨u1, u2, u3⟩ := hqbAH.out
   obtain ⟨v1, v2⟩ := hpbAH.out
   have eg : ∀ args w, (callFunc 114 args).run Tryz.prog w = .ok (.enter 114 args) w := enters_of Tryz.func114 (by kernel_rfl) rfl
   have hlenP : ({ s with runs := P } : PS).out.length + ({ s with runs := P } : PS).runs.length ≤ 900000 := by show s.out.length + P.length ≤ 900000; rw [hpermH.out.length_eq]; exact hlen
   have hI0 : ∀ rb, ov.ownBlock ≠ some rb → rb < wr.heap.size → FnI X K (.slice A n cap) { s with runs := P } w0 rb (mk + 1) pb mk c 0 wr := fun rb hrb hlt9 =>
    ⟨ov, by rw [fnS_zero]; exact hAr.core, hrb, u2, hpoH.out, m2, hqr, hpr, hm, hlt9⟩
   have hF0 : (fun w' : World => w'.cell? ⟨pb, 0, none⟩ = some (.pointer (some ⟨X.f, 0, none⟩)) ∧ w'.cell? ⟨X.f, 8, none⟩ = some (.slice A n cap)) wr := ⟨hpr, c8r⟩
   have f8 := (hAr.core.blk 8 _ rfl).2
   rcases hAr.runs.1.2 with ⟨hv, h0⟩ | ⟨g, cap', cur, hv, hgb, _⟩
   ·injection hv with x1 x2 x3
    subst x1 x3
    have hP0 : P = [] := by cases P with
     | nil => rfl
     | cons a b => simp at h0
    subst hP0
    have hfn := fnS_all X.F { s with runs := [] }
    rw [show ({ s with runs := [] } : PS).runs.length = 0 from rfl, fnS_zero] at hfn
    have R : ∀ W, Below wr.heap.size wr W → FinAns X K s w0 (.returned (.tuple #[])) (W.setCell ⟨X.f, 8, none⟩ (.slice none 0 0)) := by
     intro W hW
     refine ⟨rfl, [], .slice none 0 0, ov, hpermH.out, ?_⟩
     rw [← hfn]
     exact ⟨(hAr.core.below hW).setRuns _ _, Own.nil _ _, (fun b _ e => by cases e), fun b e => by cases e⟩
    have hn0 : n = 0 := by simpa using hPl.symm
    subst hn0
    clear hI0 hm hg hAr hlenP hfn hqr c7 c8r hcj hj hlt h0 hlen hPl
    have RH := Lib.hid R
    clear R
    have hF0H := Lib.hid hF0
    clear hF0
    have hF := hF0H.out
    have hC : True := trivial
    go_wp2_with fail
    refine startR (R := Rk (fun w' : World => w'.cell? ⟨pb, 0, none⟩ = some (.pointer (some ⟨X.f, 0, none⟩)) ∧ w'.cell? ⟨X.f, 8, none⟩ = some (.slice none 0 0)) (fun _ => True) 9 9) (by kernel_rfl) ?_
    refine takeF (i := 0) (d := some 46) (v := ?_) rfl rfl (by kernel_rfl) (by kernel_rfl) (by kernel_rfl) (by kernel_rfl) (by kernel_rfl) (fun _ _ _ h => h) (Or.inl ⟨by rfl, ?_⟩) hF ?_
    rotate_left
    ·(intro w hSw; (try dsimp only at hSw); go_simp; (try with_reducible rfl))
    (try simp only [Act.put, List.setIfInBounds_toArray, List.set_cons_zero, List.set_cons_succ])
    refine takeF (i := 1) (d := some 47) (v := ?_) rfl rfl (by kernel_rfl) (by kernel_rfl) (by kernel_rfl) (by kernel_rfl) (by kernel_rfl) (fun _ _ _ h => h) (Or.inl ⟨by rfl, ?_⟩) hF ?_
    rotate_left
    ·(intro w hSw; (try dsimp only at hSw); go_simp; (try with_reducible rfl))
    (try simp only [Act.put, List.setIfInBounds_toArray, List.set_cons_zero, List.set_cons_succ])
    refine takeF (i := 2) (d := some 48) (v := ?_) rfl rfl (by kernel_rfl) (by kernel_rfl) (by kernel_rfl) (by kernel_rfl) (by kernel_rfl) (fun _ _ _ h => h) (Or.inl ⟨by rfl, ?_⟩) hF ?_
    rotate_left
    ·(intro w hSw; (try dsimp only at hSw); go_simp; (try with_reducible rfl))
    (try simp only [Act.put, List.setIfInBounds_toArray, List.set_cons_zero, List.set_cons_succ])
    refine takeF (i := 3) (d := some 49) (v := ?_) rfl rfl (by kernel_rfl) (by kernel_rfl) (by kernel_rfl) (by kernel_rfl) (by kernel_rfl) (fun _ _ _ h => h) (Or.inl ⟨by rfl, ?_⟩) hF ?_
    rotate_left
    ·(intro w hSw; (try dsimp only at hSw); go_simp; (try with_reducible rfl))
    (try simp only [Act.put, List.setIfInBounds_toArray, List.set_cons_zero, List.set_cons_succ])
    refine takeF (i := 4) (d := some 50) (v := ?_) rfl rfl (by kernel_rfl) (by kernel_rfl) (by kernel_rfl) (by kernel_rfl) (by kernel_rfl) (fun _ _ _ h => h) (Or.inl ⟨by rfl, ?_⟩) hF ?_
    rotate_left
    ·(intro w hSw; (try dsimp only at hSw); go_simp; (try with_reducible rfl))
    (try simp only [Act.put, List.setIfInBounds_toArray, List.set_cons_zero, List.set_cons_succ])
    refine takeF (i := 5) (d := some 51) (v := ?_) rfl rfl (by kernel_rfl) (by kernel_rfl) (by kernel_rfl) (by kernel_rfl) (by kernel_rfl) (fun _ _ _ h => h) (Or.inl ⟨by rfl, ?_⟩) hF ?_
    rotate_left
    ·(intro w hSw; (try dsimp only at hSw); go_simp; (try with_reducible rfl))
    (try simp only [Act.put, List.setIfInBounds_toArray, List.set_cons_zero, List.set_cons_succ])
    refine oneR (i := 6) (by kernel_rfl) rfl (fun K hK => ?_)
    go_simp
    go_at_call 113
    refine (deleteG_nil _ _ _).mono ?_
    rintro e w5 ⟨rfl, rfl⟩
    refine hK.out _ _ ⟨fun _ _ _ => hF, fun _ _ => trivial⟩ ?_
    clear hK K
    (try simp only [Act.put, List.setIfInBounds_toArray, List.set_cons_zero, List.set_cons_succ])
    refine oneR (i := 7) (by kernel_rfl) rfl (fun K hK => ?_)
    go_simp
    refine hK.out _ _ ⟨fun _ _ _ => hF, fun _ _ => trivial⟩ ?_
    clear hK K
    (try simp only [Act.put, List.setIfInBounds_toArray, List.set_cons_zero, List.set_cons_succ])
    refine oneR (i := 8) (by kernel_rfl) rfl (fun K hK => ?_)
    go_simp
    refine hK.out _ _ ⟨fun _ _ _ => hF, fun _ _ => trivial⟩ ?_
    clear hK K
    (try simp only [Act.put, List.setIfInBounds_toArray, List.set_cons_zero, List.set_cons_succ])
    refine oneR (i := 9) (by kernel_rfl) rfl (fun K hK => ?_)
    go_simp
    refine hK.out _ _ ⟨fun h => absurd rfl h, fun h => absurd rfl h⟩ ?_
    clear hK K
    (try simp only [Act.put, List.setIfInBounds_toArray, List.set_cons_zero, List.set_cons_succ])
    refine doneR (by kernel_rfl) ?_ _
    clear hF f8 hpr
    go_wp2
    go_end0
    exact RH.out _ (Below.refl _ _).drew
   ·injection hv with x1 x2 x3
    subst x1 x3
    clear x2
    have hgo : ov.ownBlock ≠ some g := hAr.rov g rfl
    have hgbl : g ∉ X.bl := fun hm => hAr.rap g hm rfl
    have hgne : g ≠ mk + 1 ∧ g ≠ pb ∧ g ≠ mk := ⟨fun e => u3 (by rw [e]; rfl), fun e => v2 (by rw [e]; rfl), fun e => m3 (by rw [e]; rfl)⟩
    have hgl := own_lt hAr.runs
    have hmg : mk ≠ g := fun e => hgne.2.2 e.symm
    have hdp := fn_del (K := K) (rv := .slice (some ⟨g, 0, none⟩) n cap) (c := c) hSPH.out hsoH.out hdiPH.out hlenP ⟨hgbl, u1, v1, m1⟩ hgb hgne
    have hdl := deleteG_any 114 _ eg _ X.base g n cap (P.map (gr X.F)) _ wr.drew hdp (own_same hAr.runs rfl (fun y _ hy => grun_okW _ _ y hy)) (hdp.stab _ _ _ (hI0 g hgo hgl) ⟨rfl, rfl, rfl, Nat.le_refl _, fun _ _ _ => rfl⟩) (by omega)
    have hfl2 : (P.map (gr X.F)).filter (fun x => !hasDone X.F s.now P x.work.toNat) = (P.filter fun r => !hasDone X.F s.now P r.work).map (gr X.F) := by rw [List.filter_map]; rfl
    have R : ∀ (k : Nat) (w5 : World), Own RGRun 144 w5 X.base (.slice (some ⟨g, 0, none⟩) k cap) ((P.map (gr X.F)).filter fun x => !hasDone X.F s.now P x.work.toNat) → FnI X K (.slice (some ⟨g, 0, none⟩) n cap) { s with runs := P } w0 g (mk + 1) pb mk c n w5 →
      FinAns X K s w0 (.returned (.tuple #[])) (w5.setCell ⟨X.f, 8, none⟩ (.slice (some ⟨g, 0, none⟩) k cap)) := by
     intro k w5 hO hI
     obtain ⟨ov', h1, h2, _, _, _, h6, h7, h8, _⟩ := hI
     refine ⟨rfl, P, .slice (some ⟨g, 0, none⟩) k cap, ov', hpermH.out, ?_⟩
     have hfn := fnS_all X.F { s with runs := P }
     rw [show ({ s with runs := P } : PS).runs.length = n from hPl] at hfn
     rw [← hfn]
     rw [hfl2] at hO
     refine ⟨h1.setRuns _ _, own_kp hO (grown_setc w5 ⟨X.f, 8, none⟩ _) (fun b hb e => ?_) (fun x _ hx => grun_ok_any _ _ x hx), fun b hb e => ?_, fun b hb e => ?_⟩
     ·injection hb with hb
      injection e with e
      have e' : X.f = b := e
      have hb' : g = b := hb
      exact hgbl (by rw [hb', ← e']; exact h1.memf.1)
     ·injection e with e
      exact hgbl (by rw [show g = b from e]; exact hb)
     ·injection hb with hb
      exact h2 (by rw [e, ← hb])
    have hfr : ∀ w5, FnI X K (.slice (some ⟨g, 0, none⟩) n cap) { s with runs := P } w0 g (mk + 1) pb mk c n w5 → (w5.cell? ⟨pb, 0, none⟩ = some (.pointer (some ⟨X.f, 0, none⟩)) ∧ w5.cell? ⟨X.f, 8, none⟩ = some (.slice (some ⟨g, 0, none⟩) n cap)) ∧ w5.frozen? ⟨X.f, 8, none⟩ = false := by
     rintro w5 ⟨ov', h1, _, _, _, _, _, h7, _, _⟩
     exact ⟨⟨h7, (h1.blk 8 _ rfl).1⟩, (h1.blk 8 _ rfl).2⟩
    have hnj : n = P.length := hPl.symm
    clear hI0 hm hg hAr hlenP hqr c7 c8r hcj hj hlt hlen hPl hdp hfl2
    subst hnj
    have RH := Lib.hid R
    clear R
    have hF0H := Lib.hid hF0
    clear hF0
    have hdlH := Lib.hid hdl
    clear hdl
    have hfrH := Lib.hid hfr
    clear hfr
    have hgneH := Lib.hid hgne
    clear hgne
    have hF := hF0H.out
    have hC : True := trivial
    go_wp2_with fail
    refine startR (R := Rk (fun w' : World => w'.cell? ⟨pb, 0, none⟩ = some (.pointer (some ⟨X.f, 0, none⟩)) ∧ w'.cell? ⟨X.f, 8, none⟩ = some (.slice (some ⟨g, 0, none⟩) P.length cap)) (fun _ => True) 9 9) (by kernel_rfl) ?_
    refine takeF (i := 0) (d := some 46) (v := ?_) rfl rfl (by kernel_rfl) (by kernel_rfl) (by kernel_rfl) (by kernel_rfl) (by kernel_rfl) (fun _ _ _ h => h) (Or.inl ⟨by rfl, ?_⟩) hF ?_
    rotate_left
    ·(intro w hSw; (try dsimp only at hSw); go_simp; (try with_reducible rfl))
    (try simp only [Act.put, List.setIfInBounds_toArray, List.set_cons_zero, List.set_cons_succ])
    refine takeF (i := 1) (d := some 47) (v := ?_) rfl rfl (by kernel_rfl) (by kernel_rfl) (by kernel_rfl) (by kernel_rfl) (by kernel_rfl) (fun _ _ _ h => h) (Or.inl ⟨by rfl, ?_⟩) hF ?_
    rotate_left
    ·(intro w hSw; (try dsimp only at hSw); go_simp; (try with_reducible rfl))
    (try simp only [Act.put, List.setIfInBounds_toArray, List.set_cons_zero, List.set_cons_succ])
    refine takeF (i := 2) (d := some 48) (v := ?_) rfl rfl (by kernel_rfl) (by kernel_rfl) (by kernel_rfl) (by kernel_rfl) (by kernel_rfl) (fun _ _ _ h => h) (Or.inl ⟨by rfl, ?_⟩) hF ?_
    rotate_left
    ·(intro w hSw; (try dsimp only at hSw); go_simp; (try with_reducible rfl))
    (try simp only [Act.put, List.setIfInBounds_toArray, List.set_cons_zero, List.set_cons_succ])
    refine takeF (i := 3) (d := some 49) (v := ?_) rfl rfl (by kernel_rfl) (by kernel_rfl) (by kernel_rfl) (by kernel_rfl) (by kernel_rfl) (fun _ _ _ h => h) (Or.inl ⟨by rfl, ?_⟩) hF ?_
    rotate_left
    ·(intro w hSw; (try dsimp only at hSw); go_simp; (try with_reducible rfl))
    (try simp only [Act.put, List.setIfInBounds_toArray, List.set_cons_zero, List.set_cons_succ])
    refine takeF (i := 4) (d := some 50) (v := ?_) rfl rfl (by kernel_rfl) (by kernel_rfl) (by kernel_rfl) (by kernel_rfl) (by kernel_rfl) (fun _ _ _ h => h) (Or.inl ⟨by rfl, ?_⟩) hF ?_
    rotate_left
    ·(intro w hSw; (try dsimp only at hSw); go_simp; (try with_reducible rfl))
    (try simp only [Act.put, List.setIfInBounds_toArray, List.set_cons_zero, List.set_cons_succ])
    refine takeF (i := 5) (d := some 51) (v := ?_) rfl rfl (by kernel_rfl) (by kernel_rfl) (by kernel_rfl) (by kernel_rfl) (by kernel_rfl) (fun _ _ _ h => h) (Or.inl ⟨by rfl, ?_⟩) hF ?_
    rotate_left
    ·(intro w hSw; (try dsimp only at hSw); go_simp; (try with_reducible rfl))
    (try simp only [Act.put, List.setIfInBounds_toArray, List.set_cons_zero, List.set_cons_succ])
    refine oneR (i := 6) (by kernel_rfl) rfl (fun K hK => ?_)
    go_simp
    go_at_call 113
    refine hdlH.out.mono ?_
    rintro e w5 ⟨k, hk, rfl, hO5, hI5⟩
    obtain ⟨hF5, f85⟩ := hfrH.out w5 hI5
    have R5 := RH.out k w5 hO5 hI5
    clear hO5 hI5 hF f8 hpr
    have R5H := Lib.hid R5
    clear R5
    refine hK.out _ _ ⟨fun _ _ _ => hF5, fun _ _ => trivial⟩ ?_
    clear hK K
    (try simp only [Act.put, List.setIfInBounds_toArray, List.set_cons_zero, List.set_cons_succ])
    refine oneR (i := 7) (by kernel_rfl) rfl (fun K hK => ?_)
    go_simp
    refine hK.out _ _ ⟨fun _ _ _ => hF5, fun _ _ => trivial⟩ ?_
    clear hK K
    (try simp only [Act.put, List.setIfInBounds_toArray, List.set_cons_zero, List.set_cons_succ])
    refine oneR (i := 8) (by kernel_rfl) rfl (fun K hK => ?_)
    go_simp
    refine hK.out _ _ ⟨fun _ _ _ => hF5, fun _ _ => trivial⟩ ?_
    clear hK K
    (try simp only [Act.put, List.setIfInBounds_toArray, List.set_cons_zero, List.set_cons_succ])
    refine oneR (i := 9) (by kernel_rfl) rfl (fun K hK => ?_)
    go_simp
    refine hK.out _ _ ⟨fun h => absurd rfl h, fun h => absurd rfl h⟩ ?_
    clear hK K
    (try simp only [Act.put, List.setIfInBounds_toArray, List.set_cons_zero, List.set_cons_succ])
    refine doneR (by kernel_rfl) ?_ _
    clear hF5 f85
    go_wp2
    go_end0
    exact R5H.out
end Go.Proofs.YtbnkoefljcekbaaGreatDoor.C9

namespace Go.Proofs.YtbnkoefljcekbaaGreatDoor.C9
open Go.ChangeShapes Go.WideShapes Go.Deep Go.RowKit Go.Maps
set_option linter.unusedVariables false

theorem loRow : (71 : TypeId) < Tryz.prog.types.size := of_decide_eq_true (by kernel_rfl)
theorem loCells : Tryz.prog.cellsOf 71 = 2 := by kernel_rfl
theorem loStr : Tryz.prog.cellsOf 9 = 1 := by kernel_rfl
theorem loInt : Tryz.prog.cellsOf 3 = 1 := by kernel_rfl
theorem loWide : (match Tryz.prog.underlying 71 with | some (.array _ _) | some (.struct _) => true | _ => false) = true := by rw [Tryz.underlying71]
theorem loLaid : laidOutB Tryz.prog = true := by kernel_rfl
theorem loAt : Tryz.prog.keyTypeAt 2 71 = true := by kernel_rfl
theorem loPos : 0 < Tryz.prog.types.size := Nat.lt_of_le_of_lt (Nat.zero_le _) loRow
set_option maxRecDepth 100000 in
theorem loLaw : WideMaps.KeyLaw Tryz.prog 71 := deep_law_laid loLaid (m := 2) (Nat.le_of_ble_eq_true rfl) loRow loAt loWide
theorem loKeyed : Keyed Tryz.prog 71 := Keyed.of_law loLaw
theorem loKeyType : Tryz.prog.keyType 71 = true := by kernel_rfl

def loB (x : Loss) : Lit := .string (keyBytes [.string x.worker.data.toList, .int .i64 x.at_])
def loG (x : Loss) : Prop := x.worker.size ≤ maxLen ∧ (Lit.int .i64 x.at_).wf = true
def loV (x : Loss) : Value := .agg #[.string x.worker, .int .i64 x.at_]
set_option maxRecDepth 100000 in
theorem lo_of (x : Loss) (h : loG x) : keyOf Tryz.prog 71 (loV x) = some (loB x) := by
 obtain ⟨a, b⟩ := x
 obtain ⟨ha, hb⟩ := h
 simp only at ha hb
 unfold loV loB
 simp only
 have hf : (Value.agg #[.string a, .int .i64 b]).formed Tryz.prog 71 = true := by simp [Value.formed, Tryz.underlying71, loCells]
 have hr := loPos
 unfold keyOf
 rw [Tryz.underlying71]
 simp only [loKeyType, hf, Bool.and_self, if_true]
 obtain ⟨n, hn⟩ : ∃ n, Tryz.prog.types.size = n + 1 := ⟨Tryz.prog.types.size - 1, by omega⟩
 rw [hn]
 simp [Program.keyLits, Tryz.underlying71, Tryz.underlying9, Tryz.underlying3, loCells, loStr, loInt, Value.cells, ha, hb]
set_option maxRecDepth 100000 in
theorem lo_inv (v : Value) (l : Lit) (h : keyOf Tryz.prog 71 v = some l) : ∃ x : Loss, loG x ∧ v = loV x ∧ l = loB x := by
 have hr := loPos
 have h0 := h
 unfold keyOf at h
 rw [Tryz.underlying71] at h
 simp only [loKeyType, Bool.true_and] at h
 by_cases hf : v.formed Tryz.prog 71 = true
 ·rw [if_pos hf] at h
  cases v with
  | agg cs =>
   obtain ⟨n, hn⟩ : ∃ n, Tryz.prog.types.size = n + 1 := ⟨Tryz.prog.types.size - 1, by omega⟩
   have hs : cs.size = 2 := by simpa [Value.formed, Tryz.underlying71, loCells] using hf
   obtain ⟨c0, c1, rfl⟩ : ∃ c0 c1, cs = #[c0, c1] := by
    match cs, hs with
    | ⟨[c0, c1]⟩, _ => exact ⟨c0, c1, rfl⟩
   rw [hn] at h
   have hstr : ∀ (N : Nat) (c : Value) ls, Tryz.prog.keyLits N 9 [c] = some ls → ∃ a : ByteArray, c = .string a ∧ a.size ≤ maxLen := by
    intro N c ls hls
    cases N with
    | zero => cases hls
    | succ N =>
     unfold Program.keyLits at hls
     rw [Tryz.underlying9] at hls
     cases c with
     | string a =>
      simp only at hls
      split at hls
      ·exact ⟨a, rfl, by assumption⟩
      ·cases hls
     | _ => cases hls
   have hint : ∀ (N : Nat) (c : Value) ls, Tryz.prog.keyLits N 3 [c] = some ls → ∃ b : Int, c = .int .i64 b ∧ (Lit.int .i64 b).wf = true := by
    intro N c ls hls
    cases N with
    | zero => cases hls
    | succ N =>
     unfold Program.keyLits at hls
     rw [Tryz.underlying3] at hls
     cases c with
     | int q b =>
      simp only at hls
      split at hls
      ·rename_i hq
       obtain ⟨rfl, hw⟩ := hq
       exact ⟨b, rfl, hw⟩
      ·cases hls
     | _ => cases hls
   have hk : ∃ N l0 l1, Tryz.prog.keyLits N 9 [c0] = some l0 ∧ Tryz.prog.keyLits N 3 [c1] = some l1 := by
    unfold Program.keyLits at h
    simp only [Tryz.underlying71] at h
    simp [loStr, loInt, loCells, Value.cells] at h
    cases e0 : Tryz.prog.keyLits (n + 1) 9 [c0] with
    | none => rw [e0] at h; simp at h
    | some l0 =>
     cases e1 : Tryz.prog.keyLits (n + 1) 3 [c1] with
     | none => rw [e0, e1] at h; simp at h
     | some l1 => exact ⟨_, l0, l1, e0, e1⟩
   obtain ⟨N, l0, l1, e0, e1⟩ := hk
   obtain ⟨a, rfl, ha⟩ := hstr N c0 _ e0
   obtain ⟨b, rfl, hb⟩ := hint N c1 _ e1
   refine ⟨⟨a, b⟩, ⟨ha, hb⟩, rfl, ?_⟩
   have h1 := lo_of ⟨a, b⟩ ⟨ha, hb⟩
   unfold loV at h1
   simp only at h1
   rw [h1] at h0
   injection h0 with h0
   exact h0.symm
  | _ => simp [Value.formed, Tryz.underlying71] at hf
 ·rw [if_neg hf] at h
  cases h
/-- the keys that are losses -/
noncomputable def KLo : KD Tryz.prog 71 Loss :=
 ⟨loV, loB, loG, loKeyed, lo_of, lo_inv, fun x y hx hy he => by
   have h1 := lo_of x hx
   have h2 := lo_of y hy
   rw [← he] at h2
   have := loKeyed.inj h1 h2
   obtain ⟨a, b⟩ := x
   obtain ⟨c, d⟩ := y
   simp only [loV, Value.agg.injEq, Array.mk.injEq, List.cons.injEq, Value.string.injEq, Value.int.injEq, and_true, true_and] at this
   obtain ⟨rfl, rfl⟩ := this
   rfl⟩
end Go.Proofs.YtbnkoefljcekbaaGreatDoor.C9
