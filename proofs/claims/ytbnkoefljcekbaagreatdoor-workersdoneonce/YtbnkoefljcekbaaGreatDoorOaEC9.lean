/-
  Several texts of mine as one, without what is not wanted here: XFmH, XLoK, XFmI, XFmJ, XRkW, XFmK, XFstQ, XFmL, XFmM, XFmN, XFmO.
-/
import Derived.Test.YtbnkoefljcekbaaGreatDoorOaDC9
import Derived.Deep.QuietTactic
import Derived.BigQuiet
import Derived.Test.YtbnkoefljcekbaaGreatDoorOaG
import Derived.Test.YtbnkoefljcekbaaGreatDoorOaAC9
import Derived.WideKeyArgs
import Derived.DeepKeys4
import Derived.Test.YtbnkoefljcekbaaGreatDoorOaGC
import Derived.Test.YtbnkoefljcekbaaGreatDoorOaCC9
import Derived.IntWalk
namespace Go.Proofs.YtbnkoefljcekbaaGreatDoor.C9
open Go.ChangeShapes Go.WideShapes Go.Deep Go.RowKit Go.Maps
set_option linter.unusedVariables false
set_option linter.unusedSimpArgs false

section
variable {X : FX} {K : KD Tryz.prog 71 Loss} {rv ov : Value} {s s' : PS} {w0 W W' : World}
theorem FC.congr (h : FC X K rv ov s w0 W) (h1 : s'.now = s.now) (h2 : s'.done = s.done) (h3 : s'.lost = s.lost) (h4 : s'.last = s.last) (h5 : s'.begun = s.begun) (h6 : s'.out = s.out) : FC X K rv ov s' w0 W :=
  ⟨by rw [h1]; exact h.blk, h.crit, by rw [h2]; exact h.done, by rw [h3]; exact h.lost, by rw [h4]; exact h.last, by rw [h5]; exact h.begun, h.map, by rw [h6]; exact h.out, h.nd, h.ge, h.lt, h.apart, h.base, h.bel⟩
theorem FA.farG (h : FA X K rv ov s w0 W) {row : Option Nat} (hg : W.grownBy W' row) (hb : ∀ b, row = some b → b ∉ X.bl ∧ ov.ownBlock ≠ some b ∧ rv.ownBlock ≠ some b ∧ X.base ≤ b) : FA X K rv ov s w0 W' :=
  ⟨h.core.far hg (fun b e => ⟨(hb b e).1, (hb b e).2.1, (hb b e).2.2.2⟩), own_kp h.runs hg (fun c hc e => (hb c e).2.2.1 hc) (fun x _ hx => grun_ok_any _ _ x hx), h.rap, h.rov⟩
theorem FA.sorted (h : FA X K rv ov s w0 W) (hg : W.grownBy W' rv.ownBlock) {P : List RR} (ho : Own RGRun 144 W' X.base rv (P.map (gr X.F))) : FA X K rv ov { s with runs := P } w0 W' :=
  ⟨(h.mid hg).congr rfl rfl rfl rfl rfl rfl, ho, h.rap, h.rov⟩
end
theorem tmap_heap {P : Program} {k : TypeId} {κ α : Type} {K : KD P k κ} {val : α → Value} {w w' : World} {b c : Nat} {f : κ → Option α} (h : TMap K val w b f c) (hb : w'.heap[b]? = w.heap[b]?) : TMap K val w' b f c := by
  obtain ⟨D, ⟨es, clock, he, r⟩, r2⟩ := h
  exact ⟨D, ⟨es, clock, hb.trans he, r⟩, r2⟩
theorem cand_iff {F : FP} {t : Int} {r : RR} (hg : going r = true) (h0 : 0 ≤ t) : cand F t r = ((F.endAt r.worker r.work r.from_).getD (-1) == t) := by
  unfold cand
  rw [hg, Bool.true_and, Bool.eq_iff_iff, beq_iff_eq, beq_iff_eq]
  cases h : F.endAt r.worker r.work r.from_ with
  | none => simp; omega
  | some a => simp
theorem byF_same {F : FP} {t : Int} {P : List RR} {k : Nat} {r : RR} (hr : P[k]? = some r) (h : cand F t r = false ∨ ∃ v, byF F t P k (r.work : Int) = some v) (i : Int) : byF F t P (k + 1) i = byF F t P k i := by
  rw [byF_succ hr]
  cases hb : byF F t P k i with
  | some v => rfl
  | none =>
    simp only
    rcases h with h | ⟨v, h⟩
    · rw [h]; simp
    · by_cases e : (r.work : Int) = i
      · subst e; rw [h] at hb; cases hb
      · have : ((r.work : Int) == i) = false := by simpa using e
        rw [this]; simp
theorem byF_put {F : FP} {t : Int} {P : List RR} {k : Nat} {r : RR} (hr : P[k]? = some r) (h : cand F t r = true) (hn : byF F t P k (r.work : Int) = none) (i : Int) : upd (byF F t P k) (r.work : Int) (r.worker : Int) i = byF F t P (k + 1) i := by
  rw [byF_succ hr]
  unfold upd
  by_cases e : i = (r.work : Int)
  · subst e
    rw [if_pos rfl, hn]
    simp [h]
  · rw [if_neg e]
    have : ((r.work : Int) == i) = false := by simpa using fun h => e h.symm
    cases hb : byF F t P k i with
    | some v => rfl
    | none => simp [this]
theorem grown_drewN {a b : World} {row : Option Nat} (h : a.grownBy b row) (q : Nat) : a.grownBy (b.drewN q) row := ⟨h.os, h.tape, h.output, h.size, h.block⟩
/-- what is so between finish's calls of its closure -/
def FnI (X : FX) (K : KD Tryz.prog 71 Loss) (rv : Value) (s : PS) (w0 : World) (rb qb pb mk c : Nat) (k : Nat) (W : World) : Prop :=
  ∃ ov', FC X K rv ov' (fnS X.F s k) w0 W ∧ ov'.ownBlock ≠ some rb ∧ ov'.ownBlock ≠ some qb ∧ ov'.ownBlock ≠ some pb ∧ ov'.ownBlock ≠ some mk ∧ W.cell? ⟨qb, 0, none⟩ = some (.map (some mk)) ∧ W.cell? ⟨pb, 0, none⟩ = some (.pointer (some ⟨X.f, 0, none⟩)) ∧ TMap KI (fun n : Int => Value.int .i64 n) W mk (byF X.F s.now s.runs s.runs.length) c ∧ rb < W.heap.size
theorem fn_del {X : FX} {K : KD Tryz.prog 71 Loss} {rv : Value} {s : PS} {w0 : World} {rb qb pb mk c : Nat} (hS : FS X s w0) (hso : s.runs.Pairwise fun a b => a.worker ≤ b.worker) (hdi : s.runs.Pairwise fun a b => a.work = b.work → a.worker ≠ b.worker) (hlen : s.out.length + s.runs.length ≤ 900000)
    (nb : rb ∉ X.bl ∧ qb ∉ X.bl ∧ pb ∉ X.bl ∧ mk ∉ X.bl) (hrb : X.base ≤ rb) (nrb : rb ≠ qb ∧ rb ≠ pb ∧ rb ≠ mk) :
    DelP 114 #[.pointer (some ⟨qb, 0, none⟩), .pointer (some ⟨pb, 0, none⟩)] (fun x => hasDone X.F s.now s.runs x.work.toNat) (s.runs.map (gr X.F)) rb (FnI X K rv s w0 rb qb pb mk c) := by
  obtain ⟨b1, b2, b3, b4⟩ := nb
  obtain ⟨r1, r2, r3⟩ := nrb
  refine ⟨fun k W W' h hg => ?_, fun k x W0 W hx hI hW => ?_⟩
  · obtain ⟨ov', h1, h2, h3, h4, h5, h6, h7, h8, h9⟩ := h
    refine ⟨ov', h1.far hg (fun b hb => by injection hb with hb; subst hb; exact ⟨b1, h2, hrb⟩), h2, h3, h4, h5, hg.cell h6 (by simp; omega), hg.cell h7 (by simp; omega), h8.kept hg (by simp; omega), Nat.lt_of_lt_of_le h9 hg.size⟩
  · obtain ⟨ov', h1, h2, h3, h4, h5, h6, h7, h8, hrl0⟩ := hI
    rw [List.getElem?_map] at hx
    obtain ⟨r, hr, rfl⟩ := Option.map_eq_some_iff.1 hx
    have hsz := hW.size
    have hq0 := cell?_lt h6
    have hp0 := cell?_lt h7
    have hm0 := h8.lt
    have hf2 := fin2_any (h1.below hW) hS hr hso hdi hlen ⟨b2, b3⟩ (keepC hW h6) (keepC hW h7) (h8.below hW h8.lt)
    refine hf2.mono ?_
    rintro e w' ⟨rfl, ov2, k1, k2, k3, k4⟩
    have hne : ∀ b, b < W0.heap.size → ov'.ownBlock ≠ some b → ov2.ownBlock ≠ some b := fun b hb hn e => by
      rcases k2 b e with h | h
      · exact hn h
      · omega
    have hkp : ∀ b, b < W0.heap.size → b ∉ X.bl → ov'.ownBlock ≠ some b → w'.heap[b]? = W.heap[b]? := fun b hb h1 h2 => k4 b (by omega) h1 h2
    refine ⟨by rw [show (gr X.F r).work.toNat = r.work from rfl], ⟨ov2, k1, hne rb hrl0 h2, hne qb hq0 h3, hne pb hp0 h4, hne mk hm0 h5, ?_, ?_, ?_, by omega⟩, k3, fun b hb hlt => ?_⟩
    · exact (World.cell?_of_block (a := ⟨qb, 0, none⟩) (hkp qb hq0 b2 h3)).trans (keepC hW h6)
    · exact (World.cell?_of_block (a := ⟨pb, 0, none⟩) (hkp pb hp0 b3 h4)).trans (keepC hW h7)
    · exact tmap_heap (h8.below hW h8.lt) (hkp mk hm0 b4 h5)
    · rcases hb with rfl | hb
      · exact k4 b (by omega) b1 h2
      · refine k4 b hlt (fun hm => ?_) (fun e => ?_)
        · have := h1.lt b hm; omega
        · have := (h1.out.1.lt b e).2; omega
def FiRel (F : FP) (t : Int) (P : List RR) (mk : Nat) (W4 : World) (i : Value) (wr : World) : Prop :=
  ∃ j c : Nat, j ≤ P.length ∧ i = .int .i64 j ∧ c ≤ j ∧ TMap KI (fun n : Int => Value.int .i64 n) wr mk (byF F t P j) c ∧ W4.grownBy wr (some mk)
def FinAns (X : FX) (K : KD Tryz.prog 71 Loss) (s : PS) (w0 : World) (e : Ending) (w' : World) : Prop :=
  e = .returned (.tuple #[]) ∧ ∃ (rs : List RR) (rv' ov' : Value), rs.Perm s.runs ∧ FA X K rv' ov' (finP X.F { s with runs := rs }) w0 w'
set_option maxRecDepth 100000 in
set_option maxHeartbeats 8000000 in
theorem finish_any {X : FX} {K : KD Tryz.prog 71 Loss} {rv ov : Value} {s : PS} {w0 w : World} (hA : FA X K rv ov s w0 w) (hS : FS X s w0) (hdi : s.runs.Pairwise fun a b => a.work = b.work → a.worker ≠ b.worker) (hlen : s.out.length + s.runs.length ≤ 900000) :
    Calls Tryz.prog 69 #[.pointer (some ⟨X.f, 0, none⟩)] w (FinAns X K s w0) := by
  obtain ⟨A, cap, hrv⟩ := hA.runs.form
  obtain ⟨n, hn⟩ : ∃ n, (s.runs.map (gr X.F)).length = n := ⟨_, rfl⟩
  rw [hn] at hrv
  subst hrv
  have hn9 : n ≤ 900000 := by rw [← hn, List.length_map]; omega
  have hba := (Below.refl w.heap.size w).alloc (Nat.le_refl _) (.cells #[.pointer (some ⟨X.f, 0, none⟩)] 54)
  have b0 := Boxed.new w 54 (.pointer (some ⟨X.f, 0, none⟩))
  have hA1 := hA.below hba
  have hnew := hA.new
  have c8 := (hA1.core.blk 8 _ rfl).1
  have c8w := (hA.core.blk 8 _ rfl).1
  have hfl := cell?_lt c8w
  have hst := sortG_any A n cap X.F s.runs _ X.base hA1.runs (by omega)
  obtain ⟨pb, hpb⟩ : ∃ b, w.heap.size = b := ⟨_, rfl⟩
  rw [hpb] at b0 hnew
  have hAH := Lib.hid hA
  clear hA
  have hSH := Lib.hid hS
  clear hS
  have hdiH := Lib.hid hdi
  clear hdi
  have hnH := Lib.hid hn
  clear hn
  have hbaH := Lib.hid hba
  clear hba
  have b0H := Lib.hid b0
  clear b0
  have hA1H := Lib.hid hA1
  clear hA1
  have hnewH := Lib.hid hnew
  clear hnew
  have hstH := Lib.hid hst
  clear hst
  have hpbH := Lib.hid hpb
  clear hpb
  go_enter Tryz.func69, Tryz.ntmps69
  go_wp2_with fail
  rw [hpbH.out]
  refine hstH.out.mono ?_
  rintro e w2 ⟨rfl, P, hperm, hso, hO2, hg2⟩
  have hA2 := hA1H.out.sorted hg2 hO2
  have q2 : w2.cell? ⟨pb, 0, none⟩ = some (.pointer (some ⟨X.f, 0, none⟩)) := hg2.cell b0H.out.cell (fun e => hnewH.out.2.2.1 e.symm)
  have hplt := cell?_lt q2
  have c8 := (hA2.core.blk 8 _ rfl).1
  have hpo : ov.ownBlock ≠ some pb := hnewH.out.2.1
  have hPl : P.length = n := by have := hnH.out; rw [List.length_map] at this; rw [← this]; exact hperm.length_eq
  have hSP : FS X { s with runs := P } w0 := ⟨hSH.out.ok, hSH.out.F, hSH.out.ws, hSH.out.xs, hSH.out.ls, hSH.out.t0, hSH.out.t1, fun r hr => hSH.out.rn r (hperm.mem_iff.1 hr)⟩
  have hdiP : P.Pairwise fun a b => a.work = b.work → a.worker ≠ b.worker := hperm.symm.pairwise hdiH.out (fun {a b} (h : a.work = b.work → a.worker ≠ b.worker) h1 h2 => h h1.symm h2.symm)
  have hnew2 := hA2.new
  have hlt2 := hA2.core.lt
  have hba2 : Below w2.heap.size w2 ((w2.alloc (.map #[] 0)).alloc (.cells #[.map (some w2.heap.size)] 146)) := ((Below.refl _ _).alloc (Nat.le_refl _) _).alloc (by simp) _
  have hA4 := hA2.below hba2
  have hm4 := (TMap.made w2 KI (fun n : Int => Value.int .i64 n)).alloc (.cells #[.map (some w2.heap.size)] 146)
  have hq4 := Boxed.new (w2.alloc (.map #[] 0)) 146 (.map (some w2.heap.size))
  rw [World.size_alloc] at hq4
  have hq4 := hq4.cell
  have hp4 := keepC hba2 q2
  clear hg2 hO2 hA1H hstH b0H hbaH c8w
  have hc4 := (hA4.core.blk 8 _ rfl).1
  obtain ⟨W4, hW4⟩ : ∃ Y, (w2.alloc (.map #[] 0)).alloc (.cells #[.map (some w2.heap.size)] 146) = Y := ⟨_, rfl⟩
  have hz4 : W4.heap.size = w2.heap.size + 2 := by rw [← hW4]; simp
  have hp4L := hp4
  have hc4L := hc4
  rw [hW4] at hA4 hm4 hq4 hp4 hba2 hc4
  have hmkA : w2.heap.size ∉ X.bl ∧ ov.ownBlock ≠ some w2.heap.size ∧ (Value.slice A n cap).ownBlock ≠ some w2.heap.size ∧ X.base ≤ w2.heap.size := hA2.new
  have hqbA : w2.heap.size + 1 ∉ X.bl ∧ ov.ownBlock ≠ some (w2.heap.size + 1) ∧ (Value.slice A n cap).ownBlock ≠ some (w2.heap.size + 1) :=
    ⟨fun hm => by have := hA2.core.lt _ hm; omega, fun e => by have := hA2.own_lt.2 _ e; omega, fun e => by have := hA2.own_lt.1 _ e; omega⟩
  have hpbA : pb ∉ X.bl ∧ (Value.slice A n cap).ownBlock ≠ some pb := ⟨hnewH.out.1, hnewH.out.2.2.1⟩
  have hst4 : FiRel X.F s.now P w2.heap.size W4 (.int .i64 0) W4 := ⟨0, 0, Nat.zero_le _, rfl, Nat.le_refl _, hm4.congr (fun x _ => by unfold byF; simp), World.grownBy.refl _ _⟩
  clear hm4 hnew2
  obtain ⟨mk, hmk⟩ : ∃ b, w2.heap.size = b := ⟨_, rfl⟩
  rw [hmk] at hq4 hz4 hmkA hqbA hst4 hplt
  have hpermH := Lib.hid hperm
  clear hperm
  have hsoH := Lib.hid hso
  clear hso
  have hA2H := Lib.hid hA2
  clear hA2
  have hPlH := Lib.hid hPl
  clear hPl
  have hSPH := Lib.hid hSP
  clear hSP
  have hdiPH := Lib.hid hdiP
  clear hdiP
  have hlt2H := Lib.hid hlt2
  clear hlt2
  have hba2H := Lib.hid hba2
  clear hba2
  have hA4H := Lib.hid hA4
  clear hA4
  have hq4H := Lib.hid hq4
  clear hq4
  have hp4H := Lib.hid hp4
  clear hp4
  have hpoH := Lib.hid hpo
  clear hpo
  have hst4H := Lib.hid hst4
  clear hst4
  have hmkH := Lib.hid hmk
  clear hmk
  have hc4H := Lib.hid hc4
  clear hc4
  have hmkAH := Lib.hid hmkA
  clear hmkA
  have hqbAH := Lib.hid hqbA
  clear hqbA
  have hpbAH := Lib.hid hpbA
  clear hpbA
  have hz4H := Lib.hid hz4
  clear hz4
  have hW4H := Lib.hid hW4
  clear hW4
  have hmkM := @run_makeMap Tryz.prog
  go_wp2_with fail

  clear hmkM hp4L hc4L
  have e4 := hW4H.out
  rw [hmkH.out] at e4
  simp only [hmkH.out]
  rw [e4]
  clear e4
  go_loopw [18] (fun i wr => FiRel X.F s.now P mk W4 i wr) (fun i _ => n - (intOf i).toNat)
  case atStart => exact hst4H.out
  case round =>
    clear hst4H
    obtain ⟨j, c, hj, rfl, hcj, hm, hg⟩ := hrel
    have hPl := hPlH.out
    have hAr := hA4H.out.farG hg (fun b hb => by injection hb with hb; subst hb; exact hmkAH.out)
    have hqr := hg.cell hq4H.out (by simp)
    have hpr := hg.cell hp4H.out (by simp; have := hz4H.out; omega)
    have c7 := (hAr.core.blk 7 _ rfl).1
    have c8r := (hAr.core.blk 8 _ rfl).1
    by_cases hlt : j < n
    · obtain ⟨g, cur, hA9, _⟩ := own_block hAr.runs (by omega)
      subst hA9
      obtain ⟨r, hr⟩ : ∃ r, P[j]? = some r := ⟨P[j]'(by omega), List.getElem?_eq_getElem _⟩
      obtain ⟨hgr, _, hkW, hiX, hf0, hf1⟩ := hSPH.out.rn r (List.mem_of_getElem? hr)
      obtain ⟨d0, d1, d2, d3⟩ := cells_GRun hAr.runs.slAt (x := gr X.F r) (by rw [List.getElem?_map, hr]; rfl)
      rw [Nat.zero_add] at d0 d1 d2 d3
      have hcd := cand_iff (F := X.F) (t := s.now) hgr hSH.out.t0
      obtain ⟨n1, n2, n3, n4, n5, n6⟩ := hSH.out.nW
      have e0 : (gr X.F r).work = (r.work : Int) := rfl
      have e1 : (gr X.F r).worker = (r.worker : Int) := rfl
      have e3 : (gr X.F r).end_ = (X.F.endAt r.worker r.work r.from_).getD (-1) := rfl
      have hgood : KI.good (r.work : Int) := ki_good (by omega) (by omega)
      have hsame := byF_same (F := X.F) (t := s.now) hr
      have hput := byF_put (F := X.F) (t := s.now) hr
      obtain ⟨ed, hed⟩ : ∃ e, (X.F.endAt r.worker r.work r.from_).getD (-1) = e := ⟨_, rfl⟩
      obtain ⟨fr, hfr⟩ : ∃ e, (gr X.F r).from_ = e := ⟨_, rfl⟩
      rw [hed] at hcd e3
      rw [e0] at d0
      rw [e1] at d1
      rw [hfr] at d2
      rw [e3] at d3
      obtain ⟨iw, hiw⟩ : ∃ q, r.work = q := ⟨_, rfl⟩
      obtain ⟨ik, hik⟩ : ∃ q, r.worker = q := ⟨_, rfl⟩
      rw [hiw] at d0 hsame hput hgood
      rw [hik] at d1 hput
      have hgl := own_lt hAr.runs
      have hmlt := hm.lt
      have hbx := (Below.refl wr.heap.size wr).alloc (Nat.le_refl _) (.cells #[.int .i64 iw, .int .i64 ik, .int .i64 fr, .int .i64 ed] 144)
      have hma := hm.alloc (.cells #[.int .i64 iw, .int .i64 ik, .int .i64 fr, .int .i64 ed] 144)
      have hga : W4.grownBy (wr.alloc (.cells #[.int .i64 iw, .int .i64 ik, .int .i64 fr, .int .i64 ed] 144)) (some mk) := grown_trans hg (below_g hbx |> fun h => ⟨h.os, h.tape, h.output, h.size, fun k hk _ => h.block k hk (by simp)⟩)
      have hlk := (hma.look (t := 146) (e := 3) Tryz.underlying146 (z0 := (0 : Int)) (Tryz.zeroValue3 _) injInt (x := (iw : Int)) hgood).2
      rw [show KI.val (iw : Int) = Value.int .i64 (iw : Int) from rfl] at hlk
      have hqa := keepC hbx hqr
      have hpa := keepC hbx hpr
      have c7a := keepC hbx c7
      obtain ⟨bo, hbo⟩ : ∃ o, byF X.F s.now P j (iw : Int) = o := ⟨_, rfl⟩
      rw [hbo] at hlk
      have hn1 : j + 1 ≤ P.length := by omega
      have Rsame : cand X.F s.now r = false ∨ (∃ v, bo = some v) → ∀ nq, FiRel X.F s.now P mk W4 (.int .i64 ((j : Int) + 1)) ((wr.alloc (.cells #[.int .i64 iw, .int .i64 ik, .int .i64 fr, .int .i64 ed] 144)).drewN nq) := fun h nq =>
        ⟨j + 1, c, hn1, by go_num, by omega, (hma.congr (fun x _ => (hsame (by rw [hbo]; exact h) x).symm)).kept (row := none) ⟨rfl, rfl, rfl, Nat.le_refl _, fun _ _ _ => rfl⟩ (by simp), grown_trans hga ⟨rfl, rfl, rfl, Nat.le_refl _, fun _ _ _ => rfl⟩⟩
      clear hsame
      cases bo with
      | some v =>
        have R := Rsame (.inr ⟨v, rfl⟩)
        simp only [Option.getD_some, Option.isSome_some] at hlk
        clear Rsame hput hcd e0 e1 e3 hma hga hbx hg hm hAr
        have hrH := Lib.hid hr
        clear hr
        have RH := Lib.hid R
        clear R
        have hedH := Lib.hid hed
        clear hed
        have hfrH := Lib.hid hfr
        clear hfr
        have hiwH := Lib.hid hiw
        clear hiw
        have hikH := Lib.hid hik
        clear hik
        have hboH := Lib.hid hbo
        clear hbo
        have hPlH := Lib.hid hPl
        clear hPl
        go_wp2_with fail
        by_cases hc : ed = s.now
        · have hc' : (ed == s.now) = true := by simpa using hc
          clear hc
          go_quiet (fail)
          go_wp2
          refine ⟨?rel, ?measure⟩
          case measure => (simp [intOf]; omega)
          case rel => first | exact (RH.out _) | exact ⟨rfl, (RH.out _)⟩ | ((try refine ⟨rfl, ?_⟩); (repeat apply Exists.intro); refine ⟨(RH.out _), ?_⟩; ((repeat' apply And.intro) <;> rfl))
        · have hc' : (ed == s.now) = false := by simpa using hc
          go_quiet (fail)
          go_wp2
          refine ⟨?rel, ?measure⟩
          case measure => (simp [intOf]; omega)
          case rel => first | exact (RH.out _) | exact ⟨rfl, (RH.out _)⟩ | ((try refine ⟨rfl, ?_⟩); (repeat apply Exists.intro); refine ⟨(RH.out _), ?_⟩; ((repeat' apply And.intro) <;> rfl))
      | none =>
        simp only [Option.getD_none, Option.isSome_none] at hlk
        by_cases hc : ed = s.now
        · have hc' : (ed == s.now) = true := by simpa using hc
          rw [hc'] at hcd
          have hmN : ∀ q, TMap KI (fun n : Int => Value.int .i64 n) ((wr.alloc (.cells #[.int .i64 iw, .int .i64 ik, .int .i64 fr, .int .i64 ed] 144)).drewN q) mk (byF X.F s.now P j) c := fun q => hma.kept (row := none) ⟨rfl, rfl, rfl, Nat.le_refl _, fun _ _ _ => rfl⟩ (by simp)
          have R : ∀ q w6, TMap KI (fun n : Int => Value.int .i64 n) w6 mk (upd (byF X.F s.now P j) (iw : Int) (ik : Int)) (if (byF X.F s.now P j (iw : Int)).isSome then c else c + 1) → ((wr.alloc (.cells #[.int .i64 iw, .int .i64 ik, .int .i64 fr, .int .i64 ed] 144)).drewN q).grownBy w6 (some mk) → FiRel X.F s.now P mk W4 (.int .i64 ((j : Int) + 1)) w6 := by
            intro q w6 h1 h2
            refine ⟨j + 1, _, hn1, by go_num, ?_, h1.congr (fun x _ => hput hcd hbo x), grown_trans (grown_drewN hga q) h2⟩
            have := ite_le_succ ((byF X.F s.now P j (iw : Int)).isSome = true) c
            omega
          have hcM : c < maxLen := by unfold maxLen; omega
          clear hc Rsame hput e0 e1 e3 hma hga hbx hg hm hAr hcd
          have hrH := Lib.hid hr
          clear hr
          have RH := Lib.hid R
          clear R
          have hedH := Lib.hid hed
          clear hed
          have hfrH := Lib.hid hfr
          clear hfr
          have hiwH := Lib.hid hiw
          clear hiw
          have hikH := Lib.hid hik
          clear hik
          have hboH := Lib.hid hbo
          clear hbo
          have hPlH := Lib.hid hPl
          clear hPl
          have hmNH := Lib.hid hmN
          clear hmN
          have hgoodH := Lib.hid hgood
          clear hgood
          go_wp2_with fail
          go_quiet (fail)
          go_wp2_with (at_mapUpdate; go_loud (refine wpList_tstore rfl (.tmp 40) (.tmp 42) (.tmp 44) 146 rfl Tryz.underlying146 injInt rfl (hmNH.out _) hcM (iw : Int) rfl hgoodH.out (ik : Int) rfl ?_); intro w6 hm6 hg6; have R6 := RH.out _ w6 hm6 hg6; have R6H := Lib.hid R6; clear hm6 hg6 R6)
          refine ⟨?rel, ?measure⟩
          case measure => (simp [intOf]; omega)
          case rel => first | exact R6H.out | exact ⟨rfl, R6H.out⟩ | ((try refine ⟨rfl, ?_⟩); (repeat apply Exists.intro); refine ⟨R6H.out, ?_⟩; ((repeat' apply And.intro) <;> rfl))
        · have hc' : (ed == s.now) = false := by simpa using hc
          rw [hc'] at hcd
          have R := Rsame (.inl hcd)
          clear hc Rsame hput hcd e0 e1 e3 hma hga hbx hg hm hAr
          have hrH := Lib.hid hr
          clear hr
          have RH := Lib.hid R
          clear R
          have hedH := Lib.hid hed
          clear hed
          have hfrH := Lib.hid hfr
          clear hfr
          have hiwH := Lib.hid hiw
          clear hiw
          have hikH := Lib.hid hik
          clear hik
          have hboH := Lib.hid hbo
          clear hbo
          have hPlH := Lib.hid hPl
          clear hPl
          go_wp2_with fail
          go_quiet (fail)
          go_wp2
          refine ⟨?rel, ?measure⟩
          case measure => (simp [intOf]; omega)
          case rel => first | exact (RH.out _) | exact ⟨rfl, (RH.out _)⟩ | ((try refine ⟨rfl, ?_⟩); (repeat apply Exists.intro); refine ⟨(RH.out _), ?_⟩; ((repeat' apply And.intro) <;> rfl))
    · obtain rfl : j = P.length := by omega
      obtain ⟨m1, m2, m3, m4⟩ := hmkAH.out
      obtain ⟨u1, u2, u3⟩ := hqbAH.out
      obtain ⟨v1, v2⟩ := hpbAH.out
      have eg : ∀ args w, (callFunc 114 args).run Tryz.prog w = .ok (.enter 114 args) w := enters_of Tryz.func114 (by kernel_rfl) rfl
      have hlenP : ({ s with runs := P } : PS).out.length + ({ s with runs := P } : PS).runs.length ≤ 900000 := by show s.out.length + P.length ≤ 900000; rw [hpermH.out.length_eq]; exact hlen
      have hI0 : ∀ rb, ov.ownBlock ≠ some rb → rb < wr.heap.size → FnI X K (.slice A n cap) { s with runs := P } w0 rb (mk + 1) pb mk c 0 wr := fun rb hrb hlt9 =>
        ⟨ov, by rw [fnS_zero]; exact hAr.core, hrb, u2, hpoH.out, m2, hqr, hpr, hm, hlt9⟩
      have hF0 : (fun w' : World => w'.cell? ⟨pb, 0, none⟩ = some (.pointer (some ⟨X.f, 0, none⟩)) ∧ w'.cell? ⟨X.f, 8, none⟩ = some (.slice A n cap)) wr := ⟨hpr, c8r⟩
      have f8 := (hAr.core.blk 8 _ rfl).2
      rcases hAr.runs.1.2 with ⟨hv, h0⟩ | ⟨g, cap', cur, hv, hgb, _⟩
      · injection hv with x1 x2 x3
        subst x1 x3
        have hP0 : P = [] := by cases P with
          | nil => rfl
          | cons a b => simp at h0
        subst hP0
        have hfn := fnS_all X.F { s with runs := [] }
        rw [show ({ s with runs := [] } : PS).runs.length = 0 from rfl, fnS_zero] at hfn
        have R : ∀ W, Below wr.heap.size wr W → FinAns X K s w0 (.returned (.tuple #[])) (W.setCell ⟨X.f, 8, none⟩ (.slice none 0 0)) := by
          intro W hW
          refine ⟨rfl, [], .slice none 0 0, ov, hpermH.out, ?_⟩
          rw [← hfn]
          exact ⟨(hAr.core.below hW).setRuns _ _, Own.nil _ _, (fun b _ e => by cases e), fun b e => by cases e⟩
        have hn0 : n = 0 := by simpa using hPl.symm
        subst hn0
        clear hI0 hm hg hAr hlenP hfn hqr c7 c8r hcj hj hlt h0 hlen hPl
        have RH := Lib.hid R
        clear R
        have hF0H := Lib.hid hF0
        clear hF0
        have hF := hF0H.out
        have hC : True := trivial
        go_wp2_with fail
        refine startR (R := Rk (fun w' : World => w'.cell? ⟨pb, 0, none⟩ = some (.pointer (some ⟨X.f, 0, none⟩)) ∧ w'.cell? ⟨X.f, 8, none⟩ = some (.slice none 0 0)) (fun _ => True) 9 9) (by kernel_rfl) ?_
        refine takeF (i := 0) (d := some 46) (v := ?_) rfl rfl (by kernel_rfl) (by kernel_rfl) (by kernel_rfl) (by kernel_rfl) (by kernel_rfl) (fun _ _ _ h => h) (Or.inl ⟨by rfl, ?_⟩) hF ?_
        rotate_left
        · (intro w hSw; (try dsimp only at hSw); go_simp; (try with_reducible rfl))
        (try simp only [Act.put, List.setIfInBounds_toArray, List.set_cons_zero, List.set_cons_succ])
        refine takeF (i := 1) (d := some 47) (v := ?_) rfl rfl (by kernel_rfl) (by kernel_rfl) (by kernel_rfl) (by kernel_rfl) (by kernel_rfl) (fun _ _ _ h => h) (Or.inl ⟨by rfl, ?_⟩) hF ?_
        rotate_left
        · (intro w hSw; (try dsimp only at hSw); go_simp; (try with_reducible rfl))
        (try simp only [Act.put, List.setIfInBounds_toArray, List.set_cons_zero, List.set_cons_succ])
        refine takeF (i := 2) (d := some 48) (v := ?_) rfl rfl (by kernel_rfl) (by kernel_rfl) (by kernel_rfl) (by kernel_rfl) (by kernel_rfl) (fun _ _ _ h => h) (Or.inl ⟨by rfl, ?_⟩) hF ?_
        rotate_left
        · (intro w hSw; (try dsimp only at hSw); go_simp; (try with_reducible rfl))
        (try simp only [Act.put, List.setIfInBounds_toArray, List.set_cons_zero, List.set_cons_succ])
        refine takeF (i := 3) (d := some 49) (v := ?_) rfl rfl (by kernel_rfl) (by kernel_rfl) (by kernel_rfl) (by kernel_rfl) (by kernel_rfl) (fun _ _ _ h => h) (Or.inl ⟨by rfl, ?_⟩) hF ?_
        rotate_left
        · (intro w hSw; (try dsimp only at hSw); go_simp; (try with_reducible rfl))
        (try simp only [Act.put, List.setIfInBounds_toArray, List.set_cons_zero, List.set_cons_succ])
        refine takeF (i := 4) (d := some 50) (v := ?_) rfl rfl (by kernel_rfl) (by kernel_rfl) (by kernel_rfl) (by kernel_rfl) (by kernel_rfl) (fun _ _ _ h => h) (Or.inl ⟨by rfl, ?_⟩) hF ?_
        rotate_left
        · (intro w hSw; (try dsimp only at hSw); go_simp; (try with_reducible rfl))
        (try simp only [Act.put, List.setIfInBounds_toArray, List.set_cons_zero, List.set_cons_succ])
        refine takeF (i := 5) (d := some 51) (v := ?_) rfl rfl (by kernel_rfl) (by kernel_rfl) (by kernel_rfl) (by kernel_rfl) (by kernel_rfl) (fun _ _ _ h => h) (Or.inl ⟨by rfl, ?_⟩) hF ?_
        rotate_left
        · (intro w hSw; (try dsimp only at hSw); go_simp; (try with_reducible rfl))
        (try simp only [Act.put, List.setIfInBounds_toArray, List.set_cons_zero, List.set_cons_succ])
        refine oneR (i := 6) (by kernel_rfl) rfl (fun K hK => ?_)
        go_simp
        go_at_call 113
        refine (deleteG_nil _ _ _).mono ?_
        rintro e w5 ⟨rfl, rfl⟩
        refine hK.out _ _ ⟨fun _ _ _ => hF, fun _ _ => trivial⟩ ?_
        clear hK K
        (try simp only [Act.put, List.setIfInBounds_toArray, List.set_cons_zero, List.set_cons_succ])
        refine oneR (i := 7) (by kernel_rfl) rfl (fun K hK => ?_)
        go_simp
        refine hK.out _ _ ⟨fun _ _ _ => hF, fun _ _ => trivial⟩ ?_
        clear hK K
        (try simp only [Act.put, List.setIfInBounds_toArray, List.set_cons_zero, List.set_cons_succ])
        refine oneR (i := 8) (by kernel_rfl) rfl (fun K hK => ?_)
        go_simp
        refine hK.out _ _ ⟨fun _ _ _ => hF, fun _ _ => trivial⟩ ?_
        clear hK K
        (try simp only [Act.put, List.setIfInBounds_toArray, List.set_cons_zero, List.set_cons_succ])
        refine oneR (i := 9) (by kernel_rfl) rfl (fun K hK => ?_)
        go_simp
        refine hK.out _ _ ⟨fun h => absurd rfl h, fun h => absurd rfl h⟩ ?_
        clear hK K
        (try simp only [Act.put, List.setIfInBounds_toArray, List.set_cons_zero, List.set_cons_succ])
        refine doneR (by kernel_rfl) ?_ _
        clear hF f8 hpr
        go_wp2
        go_end0
        exact RH.out _ (Below.refl _ _).drew
      · injection hv with x1 x2 x3
        subst x1 x3
        clear x2
        have hgo : ov.ownBlock ≠ some g := hAr.rov g rfl
        have hgbl : g ∉ X.bl := fun hm => hAr.rap g hm rfl
        have hgne : g ≠ mk + 1 ∧ g ≠ pb ∧ g ≠ mk := ⟨fun e => u3 (by rw [e]; rfl), fun e => v2 (by rw [e]; rfl), fun e => m3 (by rw [e]; rfl)⟩
        have hgl := own_lt hAr.runs
        have hmg : mk ≠ g := fun e => hgne.2.2 e.symm
        have hdp := fn_del (K := K) (rv := .slice (some ⟨g, 0, none⟩) n cap) (c := c) hSPH.out hsoH.out hdiPH.out hlenP ⟨hgbl, u1, v1, m1⟩ hgb hgne
        have hdl := deleteG_any 114 _ eg _ X.base g n cap (P.map (gr X.F)) _ wr.drew hdp (own_same hAr.runs rfl (fun y _ hy => grun_okW _ _ y hy)) (hdp.stab _ _ _ (hI0 g hgo hgl) ⟨rfl, rfl, rfl, Nat.le_refl _, fun _ _ _ => rfl⟩) (by omega)
        have hfl2 : (P.map (gr X.F)).filter (fun x => !hasDone X.F s.now P x.work.toNat) = (P.filter fun r => !hasDone X.F s.now P r.work).map (gr X.F) := by rw [List.filter_map]; rfl
        have R : ∀ (k : Nat) (w5 : World), Own RGRun 144 w5 X.base (.slice (some ⟨g, 0, none⟩) k cap) ((P.map (gr X.F)).filter fun x => !hasDone X.F s.now P x.work.toNat) → FnI X K (.slice (some ⟨g, 0, none⟩) n cap) { s with runs := P } w0 g (mk + 1) pb mk c n w5 →
            FinAns X K s w0 (.returned (.tuple #[])) (w5.setCell ⟨X.f, 8, none⟩ (.slice (some ⟨g, 0, none⟩) k cap)) := by
          intro k w5 hO hI
          obtain ⟨ov', h1, h2, _, _, _, h6, h7, h8, _⟩ := hI
          refine ⟨rfl, P, .slice (some ⟨g, 0, none⟩) k cap, ov', hpermH.out, ?_⟩
          have hfn := fnS_all X.F { s with runs := P }
          rw [show ({ s with runs := P } : PS).runs.length = n from hPl] at hfn
          rw [← hfn]
          rw [hfl2] at hO
          refine ⟨h1.setRuns _ _, own_kp hO (grown_setc w5 ⟨X.f, 8, none⟩ _) (fun b hb e => ?_) (fun x _ hx => grun_ok_any _ _ x hx), fun b hb e => ?_, fun b hb e => ?_⟩
          · injection hb with hb
            injection e with e
            have e' : X.f = b := e
            have hb' : g = b := hb
            exact hgbl (by rw [hb', ← e']; exact h1.memf.1)
          · injection e with e
            exact hgbl (by rw [show g = b from e]; exact hb)
          · injection hb with hb
            exact h2 (by rw [e, ← hb])
        have hfr : ∀ w5, FnI X K (.slice (some ⟨g, 0, none⟩) n cap) { s with runs := P } w0 g (mk + 1) pb mk c n w5 → (w5.cell? ⟨pb, 0, none⟩ = some (.pointer (some ⟨X.f, 0, none⟩)) ∧ w5.cell? ⟨X.f, 8, none⟩ = some (.slice (some ⟨g, 0, none⟩) n cap)) ∧ w5.frozen? ⟨X.f, 8, none⟩ = false := by
          rintro w5 ⟨ov', h1, _, _, _, _, _, h7, _, _⟩
          exact ⟨⟨h7, (h1.blk 8 _ rfl).1⟩, (h1.blk 8 _ rfl).2⟩
        have hnj : n = P.length := hPl.symm
        clear hI0 hm hg hAr hlenP hqr c7 c8r hcj hj hlt hlen hPl hdp hfl2
        subst hnj
        have RH := Lib.hid R
        clear R
        have hF0H := Lib.hid hF0
        clear hF0
        have hdlH := Lib.hid hdl
        clear hdl
        have hfrH := Lib.hid hfr
        clear hfr
        have hgneH := Lib.hid hgne
        clear hgne
        have hF := hF0H.out
        have hC : True := trivial
        go_wp2_with fail
        refine startR (R := Rk (fun w' : World => w'.cell? ⟨pb, 0, none⟩ = some (.pointer (some ⟨X.f, 0, none⟩)) ∧ w'.cell? ⟨X.f, 8, none⟩ = some (.slice (some ⟨g, 0, none⟩) P.length cap)) (fun _ => True) 9 9) (by kernel_rfl) ?_
        refine takeF (i := 0) (d := some 46) (v := ?_) rfl rfl (by kernel_rfl) (by kernel_rfl) (by kernel_rfl) (by kernel_rfl) (by kernel_rfl) (fun _ _ _ h => h) (Or.inl ⟨by rfl, ?_⟩) hF ?_
        rotate_left
        · (intro w hSw; (try dsimp only at hSw); go_simp; (try with_reducible rfl))
        (try simp only [Act.put, List.setIfInBounds_toArray, List.set_cons_zero, List.set_cons_succ])
        refine takeF (i := 1) (d := some 47) (v := ?_) rfl rfl (by kernel_rfl) (by kernel_rfl) (by kernel_rfl) (by kernel_rfl) (by kernel_rfl) (fun _ _ _ h => h) (Or.inl ⟨by rfl, ?_⟩) hF ?_
        rotate_left
        · (intro w hSw; (try dsimp only at hSw); go_simp; (try with_reducible rfl))
        (try simp only [Act.put, List.setIfInBounds_toArray, List.set_cons_zero, List.set_cons_succ])
        refine takeF (i := 2) (d := some 48) (v := ?_) rfl rfl (by kernel_rfl) (by kernel_rfl) (by kernel_rfl) (by kernel_rfl) (by kernel_rfl) (fun _ _ _ h => h) (Or.inl ⟨by rfl, ?_⟩) hF ?_
        rotate_left
        · (intro w hSw; (try dsimp only at hSw); go_simp; (try with_reducible rfl))
        (try simp only [Act.put, List.setIfInBounds_toArray, List.set_cons_zero, List.set_cons_succ])
        refine takeF (i := 3) (d := some 49) (v := ?_) rfl rfl (by kernel_rfl) (by kernel_rfl) (by kernel_rfl) (by kernel_rfl) (by kernel_rfl) (fun _ _ _ h => h) (Or.inl ⟨by rfl, ?_⟩) hF ?_
        rotate_left
        · (intro w hSw; (try dsimp only at hSw); go_simp; (try with_reducible rfl))
        (try simp only [Act.put, List.setIfInBounds_toArray, List.set_cons_zero, List.set_cons_succ])
        refine takeF (i := 4) (d := some 50) (v := ?_) rfl rfl (by kernel_rfl) (by kernel_rfl) (by kernel_rfl) (by kernel_rfl) (by kernel_rfl) (fun _ _ _ h => h) (Or.inl ⟨by rfl, ?_⟩) hF ?_
        rotate_left
        · (intro w hSw; (try dsimp only at hSw); go_simp; (try with_reducible rfl))
        (try simp only [Act.put, List.setIfInBounds_toArray, List.set_cons_zero, List.set_cons_succ])
        refine takeF (i := 5) (d := some 51) (v := ?_) rfl rfl (by kernel_rfl) (by kernel_rfl) (by kernel_rfl) (by kernel_rfl) (by kernel_rfl) (fun _ _ _ h => h) (Or.inl ⟨by rfl, ?_⟩) hF ?_
        rotate_left
        · (intro w hSw; (try dsimp only at hSw); go_simp; (try with_reducible rfl))
        (try simp only [Act.put, List.setIfInBounds_toArray, List.set_cons_zero, List.set_cons_succ])
        refine oneR (i := 6) (by kernel_rfl) rfl (fun K hK => ?_)
        go_simp
        go_at_call 113
        refine hdlH.out.mono ?_
        rintro e w5 ⟨k, hk, rfl, hO5, hI5⟩
        obtain ⟨hF5, f85⟩ := hfrH.out w5 hI5
        have R5 := RH.out k w5 hO5 hI5
        clear hO5 hI5 hF f8 hpr
        have R5H := Lib.hid R5
        clear R5
        refine hK.out _ _ ⟨fun _ _ _ => hF5, fun _ _ => trivial⟩ ?_
        clear hK K
        (try simp only [Act.put, List.setIfInBounds_toArray, List.set_cons_zero, List.set_cons_succ])
        refine oneR (i := 7) (by kernel_rfl) rfl (fun K hK => ?_)
        go_simp
        refine hK.out _ _ ⟨fun _ _ _ => hF5, fun _ _ => trivial⟩ ?_
        clear hK K
        (try simp only [Act.put, List.setIfInBounds_toArray, List.set_cons_zero, List.set_cons_succ])
        refine oneR (i := 8) (by kernel_rfl) rfl (fun K hK => ?_)
        go_simp
        refine hK.out _ _ ⟨fun _ _ _ => hF5, fun _ _ => trivial⟩ ?_
        clear hK K
        (try simp only [Act.put, List.setIfInBounds_toArray, List.set_cons_zero, List.set_cons_succ])
        refine oneR (i := 9) (by kernel_rfl) rfl (fun K hK => ?_)
        go_simp
        refine hK.out _ _ ⟨fun h => absurd rfl h, fun h => absurd rfl h⟩ ?_
        clear hK K
        (try simp only [Act.put, List.setIfInBounds_toArray, List.set_cons_zero, List.set_cons_succ])
        refine doneR (by kernel_rfl) ?_ _
        clear hF5 f85
        go_wp2
        go_end0
        exact R5H.out
end Go.Proofs.YtbnkoefljcekbaaGreatDoor.C9

namespace Go.Proofs.YtbnkoefljcekbaaGreatDoor.C9
open Go.ChangeShapes Go.WideShapes Go.Deep Go.RowKit Go.Maps
set_option linter.unusedVariables false

theorem loRow : (71 : TypeId) < Tryz.prog.types.size := of_decide_eq_true (by kernel_rfl)
theorem loCells : Tryz.prog.cellsOf 71 = 2 := by kernel_rfl
theorem loStr : Tryz.prog.cellsOf 9 = 1 := by kernel_rfl
theorem loInt : Tryz.prog.cellsOf 3 = 1 := by kernel_rfl
theorem loWide : (match Tryz.prog.underlying 71 with | some (.array _ _) | some (.struct _) => true | _ => false) = true := by rw [Tryz.underlying71]
theorem loLaid : laidOutB Tryz.prog = true := by kernel_rfl
theorem loAt : Tryz.prog.keyTypeAt 2 71 = true := by kernel_rfl
theorem loPos : 0 < Tryz.prog.types.size := Nat.lt_of_le_of_lt (Nat.zero_le _) loRow
set_option maxRecDepth 100000 in
theorem loLaw : WideMaps.KeyLaw Tryz.prog 71 := deep_law_laid loLaid (m := 2) (Nat.le_of_ble_eq_true rfl) loRow loAt loWide
theorem loKeyed : Keyed Tryz.prog 71 := Keyed.of_law loLaw
theorem loKeyType : Tryz.prog.keyType 71 = true := by kernel_rfl

def loB (x : Loss) : Lit := .string (keyBytes [.string x.worker.data.toList, .int .i64 x.at_])
def loG (x : Loss) : Prop := x.worker.size ≤ maxLen ∧ (Lit.int .i64 x.at_).wf = true
def loV (x : Loss) : Value := .agg #[.string x.worker, .int .i64 x.at_]
set_option maxRecDepth 100000 in
theorem lo_of (x : Loss) (h : loG x) : keyOf Tryz.prog 71 (loV x) = some (loB x) := by
  obtain ⟨a, b⟩ := x
  obtain ⟨ha, hb⟩ := h
  simp only at ha hb
  unfold loV loB
  simp only
  have hf : (Value.agg #[.string a, .int .i64 b]).formed Tryz.prog 71 = true := by simp [Value.formed, Tryz.underlying71, loCells]
  have hr := loPos
  unfold keyOf
  rw [Tryz.underlying71]
  simp only [loKeyType, hf, Bool.and_self, if_true]
  obtain ⟨n, hn⟩ : ∃ n, Tryz.prog.types.size = n + 1 := ⟨Tryz.prog.types.size - 1, by omega⟩
  rw [hn]
  simp [Program.keyLits, Tryz.underlying71, Tryz.underlying9, Tryz.underlying3, loCells, loStr, loInt, Value.cells, ha, hb]
set_option maxRecDepth 100000 in
theorem lo_inv (v : Value) (l : Lit) (h : keyOf Tryz.prog 71 v = some l) : ∃ x : Loss, loG x ∧ v = loV x ∧ l = loB x := by
  have hr := loPos
  have h0 := h
  unfold keyOf at h
  rw [Tryz.underlying71] at h
  simp only [loKeyType, Bool.true_and] at h
  by_cases hf : v.formed Tryz.prog 71 = true
  · rw [if_pos hf] at h
    cases v with
    | agg cs =>
      obtain ⟨n, hn⟩ : ∃ n, Tryz.prog.types.size = n + 1 := ⟨Tryz.prog.types.size - 1, by omega⟩
      have hs : cs.size = 2 := by simpa [Value.formed, Tryz.underlying71, loCells] using hf
      obtain ⟨c0, c1, rfl⟩ : ∃ c0 c1, cs = #[c0, c1] := by
        match cs, hs with
        | ⟨[c0, c1]⟩, _ => exact ⟨c0, c1, rfl⟩
      rw [hn] at h
      have hstr : ∀ (N : Nat) (c : Value) ls, Tryz.prog.keyLits N 9 [c] = some ls → ∃ a : ByteArray, c = .string a ∧ a.size ≤ maxLen := by
        intro N c ls hls
        cases N with
        | zero => cases hls
        | succ N =>
          unfold Program.keyLits at hls
          rw [Tryz.underlying9] at hls
          cases c with
          | string a =>
            simp only at hls
            split at hls
            · exact ⟨a, rfl, by assumption⟩
            · cases hls
          | _ => cases hls
      have hint : ∀ (N : Nat) (c : Value) ls, Tryz.prog.keyLits N 3 [c] = some ls → ∃ b : Int, c = .int .i64 b ∧ (Lit.int .i64 b).wf = true := by
        intro N c ls hls
        cases N with
        | zero => cases hls
        | succ N =>
          unfold Program.keyLits at hls
          rw [Tryz.underlying3] at hls
          cases c with
          | int q b =>
            simp only at hls
            split at hls
            · rename_i hq
              obtain ⟨rfl, hw⟩ := hq
              exact ⟨b, rfl, hw⟩
            · cases hls
          | _ => cases hls
      have hk : ∃ N l0 l1, Tryz.prog.keyLits N 9 [c0] = some l0 ∧ Tryz.prog.keyLits N 3 [c1] = some l1 := by
        unfold Program.keyLits at h
        simp only [Tryz.underlying71] at h
        simp [loStr, loInt, loCells, Value.cells] at h
        cases e0 : Tryz.prog.keyLits (n + 1) 9 [c0] with
        | none => rw [e0] at h; simp at h
        | some l0 =>
          cases e1 : Tryz.prog.keyLits (n + 1) 3 [c1] with
          | none => rw [e0, e1] at h; simp at h
          | some l1 => exact ⟨_, l0, l1, e0, e1⟩
      obtain ⟨N, l0, l1, e0, e1⟩ := hk
      obtain ⟨a, rfl, ha⟩ := hstr N c0 _ e0
      obtain ⟨b, rfl, hb⟩ := hint N c1 _ e1
      refine ⟨⟨a, b⟩, ⟨ha, hb⟩, rfl, ?_⟩
      have h1 := lo_of ⟨a, b⟩ ⟨ha, hb⟩
      unfold loV at h1
      simp only at h1
      rw [h1] at h0
      injection h0 with h0
      exact h0.symm
    | _ => simp [Value.formed, Tryz.underlying71] at hf
  · rw [if_neg hf] at h
    cases h
/-- the keys that are losses -/
noncomputable def KLo : KD Tryz.prog 71 Loss :=
  ⟨loV, loB, loG, loKeyed, lo_of, lo_inv, fun x y hx hy he => by
      have h1 := lo_of x hx
      have h2 := lo_of y hy
      rw [← he] at h2
      have := loKeyed.inj h1 h2
      obtain ⟨a, b⟩ := x
      obtain ⟨c, d⟩ := y
      simp only [loV, Value.agg.injEq, Array.mk.injEq, List.cons.injEq, Value.string.injEq, Value.int.injEq, and_true, true_and] at this
      obtain ⟨rfl, rfl⟩ := this
      rfl⟩
end Go.Proofs.YtbnkoefljcekbaaGreatDoor.C9

namespace Go.Proofs.YtbnkoefljcekbaaGreatDoor.C9
open Go.ChangeShapes Go.WideShapes Go.Deep Go.RowKit Go.Maps
set_option linter.unusedVariables false
set_option linter.unusedSimpArgs false

/-! ### plain -/
section
variable {F : FP}
def lsS (F : FP) (s : PS) (k : Nat) : PS :=
  { s with out := s.out ++ ((s.runs.take k).filter fun r => goes F r.worker s.now).map (loseRun F s.now), lost := fun j => s.lost j + (lostNow F s.now (s.runs.take k) j : Nat), last := fun j => if lostNow F s.now (s.runs.take k) j = 0 then s.last j else s.now }
theorem lostNow_succ {t : Int} {P : List RR} {k : Nat} {r : RR} (hr : P[k]? = some r) (j : Nat) : lostNow F t (P.take (k + 1)) j = lostNow F t (P.take k) j + if (r.work == j && (going r && goes F r.worker t)) = true then 1 else 0 := by
  unfold lostNow
  rw [List.take_add_one, hr, Option.toList_some, List.countP_append, List.countP_singleton]
theorem lsS_zero (F : FP) (s : PS) : lsS F s 0 = s := by
  unfold lsS lostNow; simp
theorem lsS_all (F : FP) (s : PS) : { lsS F s s.runs.length with runs := s.runs.filter fun r => !goes F r.worker s.now } = loseP F s := by
  unfold lsS loseP
  simp only [List.take_length]
theorem lsS_no {s : PS} {k : Nat} {r : RR} (hr : s.runs[k]? = some r) (h : goes F r.worker s.now = false) : lsS F s (k + 1) = lsS F s k := by
  have hd : ∀ j, lostNow F s.now (s.runs.take (k + 1)) j = lostNow F s.now (s.runs.take k) j := fun j => by rw [lostNow_succ hr, h]; simp
  unfold lsS
  simp only [hd]
  rw [List.take_add_one, hr, Option.toList_some, List.filter_append, List.filter_cons_of_neg (by simp [h]), List.filter_nil, List.append_nil]
theorem lsS_yes {s : PS} {k : Nat} {r : RR} (hr : s.runs[k]? = some r) (hg : going r = true) (h : goes F r.worker s.now = true) :
    lsS F s (k + 1) = clS { lsS F s k with lost := fun j => if j = r.work then (lsS F s k).lost r.work + 1 else (lsS F s k).lost j } r 2 := by
  have hd : ∀ j, lostNow F s.now (s.runs.take (k + 1)) j = lostNow F s.now (s.runs.take k) j + if j = r.work then 1 else 0 := fun j => by
    rw [lostNow_succ hr, hg, h]
    by_cases e : j = r.work
    · subst e; simp
    · have : (r.work == j) = false := by simpa using fun h => e h.symm
      rw [if_neg e, this]; simp
  rw [clS_n _ r (by decide) rfl]
  unfold lsS
  simp only [hd]
  rw [List.take_add_one, hr, Option.toList_some, List.filter_append, List.filter_cons_of_pos (p := fun r : RR => goes F r.worker s.now) h, List.filter_nil, List.map_append, List.map_singleton, loseRun_yes (by rw [hg, h]; rfl)]
  simp only [List.append_assoc]
  congr 1
  · funext j
    by_cases e : j = r.work
    · subst e; simp; omega
    · rw [if_neg e, if_neg e]; simp
  · funext j
    by_cases e : j = r.work
    · subst e; simp
    · rw [if_neg e, if_neg e]; simp
end
theorem FS.goesV {X : FX} {s : PS} {w0 : World} (h : FS X s w0) {k : Nat} {y : Worker} (hy : X.x.workers.l[k]? = some y) (t : Int) : goes X.F k t = (y.to_ == t || decide ((⟨y.name, t⟩ : Loss) ∈ X.x.lost.l)) := by
  obtain ⟨o, e⟩ := h.F
  unfold goes
  rw [e]
  simp only [fpOf]
  rw [wkOf_get hy]
set_option maxRecDepth 100000 in
set_option maxHeartbeats 8000000 in
theorem lose1_any {X : FX} {rv ov : Value} {s : PS} {w0 W : World} {k pb : Nat} {r : RR} (hC : FC X KLo rv ov (lsS X.F s k) w0 W) (hS : FS X s w0) (hr : s.runs[k]? = some r) (hlen : s.out.length + s.runs.length ≤ 900000) (hlo : 0 ≤ (lsS X.F s k).lost r.work ∧ (lsS X.F s k).lost r.work ≤ 900000)
    (hpb : pb ∉ X.bl) (q2 : W.cell? ⟨pb, 0, none⟩ = some (.pointer (some ⟨X.f, 0, none⟩))) :
    Calls Tryz.prog 116 #[.agg (gvals (gr X.F r)), .pointer (some ⟨pb, 0, none⟩)] W (StepAns X KLo rv ov (goes X.F r.worker s.now) (lsS X.F s (k + 1)) w0 W) := by
  obtain ⟨n1, n2, n3, n4, n5, n6⟩ := hS.nW
  obtain ⟨hg, _, hkW, hiX, hf0, hf1⟩ := hS.rn r (List.mem_of_getElem? hr)
  obtain ⟨ed, hed⟩ : ∃ e, (X.F.endAt r.worker r.work r.from_).getD (-1) = e := ⟨_, rfl⟩
  rw [gr_agg, hed]
  obtain ⟨y, hy⟩ : ∃ y, X.x.workers.l[r.worker]? = some y := ⟨X.x.workers.l[r.worker]'(by omega), List.getElem?_eq_getElem _⟩
  have hgv := hS.goesV hy s.now
  obtain ⟨by_, oy, hYA, _⟩ := (hS.ws.1).2.1 (by omega)
  have hba := (Below.refl W.heap.size W).alloc (Nat.le_refl _) (.cells #[.int .i64 r.work, .int .i64 r.worker, .int .i64 r.from_, .int .i64 ed] 144)
  obtain ⟨W1, hW1⟩ : ∃ Y, W.alloc (.cells #[.int .i64 r.work, .int .i64 r.worker, .int .i64 r.from_, .int .i64 ed] 144) = Y := ⟨_, rfl⟩
  rw [hW1] at hba
  have hC1 := hC.below hba
  have hws1 := hS.ws.1.below hC1.bel
  rw [hYA] at hws1
  obtain ⟨d0, d1, d2, d3, d4, d5, d6⟩ := cells_Worker hws1 hy
  have c0 := (hC1.blk 0 _ rfl).1
  rw [hYA] at c0
  have g0 : W1.cell? ⟨W.heap.size, 0, none⟩ = some (.int .i64 r.work) := by rw [← hW1]; exact cell_new _ _ _ 0
  have g1 : W1.cell? ⟨W.heap.size, 1, none⟩ = some (.int .i64 r.worker) := by rw [← hW1]; exact cell_new _ _ _ 1
  have g2 : W1.cell? ⟨W.heap.size, 2, none⟩ = some (.int .i64 r.from_) := by rw [← hW1]; exact cell_new _ _ _ 2
  have g3 : W1.cell? ⟨W.heap.size, 3, none⟩ = some (.int .i64 ed) := by rw [← hW1]; exact cell_new _ _ _ 3
  have q1 := keepC hba q2
  obtain ⟨iw, hiw⟩ : ∃ q, r.work = q := ⟨_, rfl⟩
  obtain ⟨ik, hik⟩ : ∃ q, r.worker = q := ⟨_, rfl⟩
  obtain ⟨ifr, hifr⟩ : ∃ q, r.from_ = q := ⟨_, rfl⟩
  rw [hiw] at g0 hW1
  rw [hik] at g1 hW1 d0 d1 d2 d3 d4 d5 d6
  rw [hifr] at g2 hW1
  have hik2 : ik < X.x.workers.n := by omega
  rw [hiw, hik, hifr]
  obtain ⟨rb, hrb⟩ : ∃ b, W.heap.size = b := ⟨_, rfl⟩
  have hltr : W.heap.size < W1.heap.size := cell?_lt g0
  rw [hrb] at g0 g1 g2 g3 hltr
  have hp1 := cell?_lt q1
  have hf1' := cell?_lt c0
  have hb1 := cell?_lt d0
  have hr1 := cell?_lt g0
  simp only at hp1 hf1' hb1 hr1
  obtain ⟨Q, hQ⟩ : ∃ Q, StepAns X KLo rv ov (goes X.F ik s.now) (lsS X.F s (k + 1)) w0 W = Q := ⟨_, rfl⟩
  rw [hQ]
  have hCH := Lib.hid hC
  clear hC
  have hSH := Lib.hid hS
  clear hS
  have hrH := Lib.hid hr
  clear hr
  have hedH := Lib.hid hed
  clear hed
  have hgvH := Lib.hid hgv
  clear hgv
  have hbaH := Lib.hid hba
  clear hba
  have hC1H := Lib.hid hC1
  clear hC1
  have hws1H := Lib.hid hws1
  clear hws1
  have hyH := Lib.hid hy
  clear hy
  have hYAH := Lib.hid hYA
  clear hYA
  have hiwH := Lib.hid hiw
  clear hiw
  have hikH := Lib.hid hik
  clear hik
  have hifrH := Lib.hid hifr
  clear hifr
  have hrbH := Lib.hid hrb
  clear hrb
  have hloH := Lib.hid hlo
  clear hlo
  have hpbH := Lib.hid hpb
  clear hpb
  have hW1H := Lib.hid hW1
  clear hW1
  have n1H := Lib.hid n1
  clear n1
  have n2H := Lib.hid n2
  clear n2
  have n3H := Lib.hid n3
  clear n3
  have n4H := Lib.hid n4
  clear n4
  have hQH := Lib.hid hQ
  clear hQ
  go_enter Tryz.func116, Tryz.ntmps116
  go_wp2_with fail
  rw [hW1H.out, hrbH.out]
  go_region
  obtain ⟨W2, hW2⟩ : ∃ Y, (W1.alloc (.cells #[.string y.name, .slice y.has.A y.has.n y.has.cap, .int .i64 y.slots, .int .i64 y.speed, .int .i64 y.from_, .int .i64 y.to_, .slice y.stands.A y.stands.n y.stands.cap] 84)).drew = Y := ⟨_, rfl⟩
  have hb12 : Below W1.heap.size W1 W2 := by rw [← hW2]; exact ((Below.refl _ _).alloc (Nat.le_refl _) _).drew
  have hC2 := hC1H.out.below hb12
  have v0 : W2.cell? ⟨W1.heap.size, 0, none⟩ = some (.string y.name) := by rw [← hW2]; exact cell_new W1 _ _ 0
  have v5 : W2.cell? ⟨W1.heap.size, 5, none⟩ = some (.int .i64 y.to_) := by rw [← hW2]; exact cell_new W1 _ _ 5
  obtain ⟨vb, hvb⟩ : ∃ b, W1.heap.size = b := ⟨_, rfl⟩
  rw [hW2]
  rw [hvb] at v0 v5 ⊢
  have g0 := keepC hb12 g0
  have g1 := keepC hb12 g1
  have g2 := keepC hb12 g2
  have g3 := keepC hb12 g3
  have q1 := keepC hb12 q1
  have c7 : W2.cell? ⟨X.f, 7, none⟩ = some (.int .i64 s.now) := (hC2.blk 7 _ rfl).1
  have c6 := (hC2.blk 6 _ rfl).1
  have c10 := (hC2.blk 10 _ rfl).1
  rw [show X.N = X.x.works.n from rfl] at c10
  obtain ⟨m0, m1⟩ := hC2.lost iw (by show iw < X.x.works.n; have := n2H.out; have := hiwH.out; omega)
  have hyo := (hws1H.out.2.2 y (List.mem_of_getElem? hyH.out)).1
  have t0 := hSH.out.t0
  have t1 := hSH.out.t1
  have hlk := (hC2.map.below (Below.refl _ _).drew hC2.map.lt).look (t := 57) (e := 4) Tryz.underlying57 (z0 := false) (Tryz.zeroValue4 _) injBool (x := (⟨y.name, s.now⟩ : Loss)) ⟨hyo, by simp [Lit.wf, IntKind.min, IntKind.max, IntKind.signed, IntKind.bits]; omega⟩
  have hlk := hlk.1
  rw [show KLo.val (⟨y.name, s.now⟩ : Loss) = .agg #[.string y.name, .int .i64 s.now] from rfl] at hlk
  obtain ⟨lb, hlb⟩ : ∃ b, decide ((⟨y.name, s.now⟩ : Loss) ∈ X.x.lost.l) = b := ⟨_, rfl⟩
  have hlb2 : (if (⟨y.name, s.now⟩ : Loss) ∈ X.x.lost.l then some true else none).getD false = lb := by
    rw [← hlb]; split <;> simp [*]
  rw [hlb2] at hlk
  have hgv := hgvH.out
  rw [hikH.out, hlb] at hgv
  have hiN : iw < X.x.works.n := by have := n2H.out; have := hiwH.out; omega
  have hlo := hloH.out
  rw [hiwH.out] at hlo
  have hpb := hpbH.out
  have hLn : X.lb < W2.heap.size := hC2.lt _ hC2.memf.2.2.2.2.1
  have hrbn : rb ∉ X.bl := by rw [← hrbH.out]; exact fun hm => Nat.lt_irrefl _ (hCH.out.lt _ hm)
  obtain ⟨lv, hlv⟩ : ∃ v, (lsS X.F s k).lost iw = v := ⟨_, rfl⟩
  rw [hlv] at m0 hlo
  have hrl : rb ≠ X.lb := fun e => hrbn (by rw [e]; exact hC2.memf.2.2.2.2.1)
  have hpl : pb ≠ X.lb := fun e => hpb (by rw [e]; exact hC2.memf.2.2.2.2.1)
  have hb02 := hbaH.out.trans (hb12.mono hbaH.out.size)
  clear c0 d0 d1 d2 d3 d4 d5 d6 hp1 hf1' hb1 hr1 hbaH hlb2
  cases hgw : goes X.F ik s.now
  · rw [hgw] at hgv
    have h1 : (y.to_ == s.now) = false ∧ lb = false := by
      cases h1 : (y.to_ == s.now) <;> cases lb <;> simp [h1] at hgv ⊢
    obtain ⟨h1, rfl⟩ := h1
    have h2 : (y.to_ != s.now) = true := by unfold bne; rw [h1]; rfl
    have R : Q (.returned (.bool false)) W2.drew := by
      rw [← hQH.out]
      exact ⟨by rw [hgw], ov, by rw [lsS_no hrH.out (by rw [hikH.out]; exact hgw)]; exact hC2.below (Below.refl _ _).drew, fun b hb => .inl hb, hb02.size, fun b hb _ _ => hb02.block b hb⟩
    clear hgv hgw hC2 hb12 hb02
    have RH := Lib.hid R
    clear R
    have hlvH := Lib.hid hlv
    clear hlv
    have hlbH := Lib.hid hlb
    clear hlb
    have hvbH := Lib.hid hvb
    clear hvb
    have hW2H := Lib.hid hW2
    clear hW2
    go_wp2_with fail
    go_region
    go_wp2
    exact RH.out
  · rw [hgw] at hgv
    have hCl := (hC2.setLost iw (lv + 1))
    obtain ⟨s9, hs9⟩ : ∃ s9, { lsS X.F s k with lost := fun j => if j = iw then lv + 1 else (lsS X.F s k).lost j } = s9 := ⟨_, rfl⟩
    have hfn : lsS X.F s (k + 1) = clS s9 r 2 := by
      have := lsS_yes (F := X.F) hrH.out hg (by rw [hikH.out]; exact hgw)
      rw [hiwH.out, hlv] at this
      rw [this, hs9]
    have hSk : FS X (lsS X.F s k) w0 := hSH.out.congr rfl rfl
    have hS9 : FS X s9 w0 := hSk.congr (by rw [← hs9]) (by rw [← hs9])
    have ho9 : s9.out.length ≤ 900000 := by
      rw [← hs9]
      show (s.out ++ _).length ≤ _
      rw [List.length_append, List.length_map]
      have := List.length_filter_le (fun r : RR => goes X.F r.worker s.now) (s.runs.take k)
      rw [List.length_take] at this
      omega
    rw [hs9] at hCl
    have hcl := fun W3 (h : FC X KLo rv ov s9 w0 W3) => close_any h hS9 r hkW hiX hf0 (by omega) 2 (by omega) (by omega) ho9 ed
    have R : ∀ W3 w5, Below W2.heap.size (W2.setCell ⟨X.lb, iw, none⟩ (.int .i64 (lv + 1))) W3 → ClAns X KLo rv ov (clS s9 r 2) w0 W3 (.returned (.tuple #[])) w5 → Q (.returned (.bool true)) w5 := by
      rintro W3 w5 h23 ⟨_, ov', h5, h6, h7, h8⟩
      rw [← hQH.out, hfn, hgw]
      have z2 := hb02.size
      have z3 := h23.size
      simp only [World.size_setCell] at z3
      refine ⟨rfl, ov', h5, fun b hb => ?_, by omega, fun b a1 a2 a3 => ?_⟩
      · rcases h6 b hb with h | h
        · exact .inl h
        · right; omega
      · rw [h8 b (by omega) a2 a3, h23.block b (by omega), (grown_setc W2 ⟨X.lb, iw, none⟩ _).block b (by omega) (fun e => a2 (by injection e with e; rw [e]; exact hC2.memf.2.2.2.2.1))]
        exact hb02.block b a1
    have hF : ∀ W3, Below W2.heap.size (W2.setCell ⟨X.lb, iw, none⟩ (.int .i64 (lv + 1))) W3 → FC X KLo rv ov s9 w0 W3 := fun W3 h => hCl.below (by simpa using h)
    rw [hiwH.out, hikH.out, hifrH.out] at hcl
    clear hgw hb12 hfn hSk hS9 ho9 hCl
    by_cases hto : y.to_ = s.now
    · have h2 : (y.to_ != s.now) = false := by simpa using hto
      clear hgv hto hlk
      have RH := Lib.hid R
      clear R
      have hlvH := Lib.hid hlv
      clear hlv
      have hlbH := Lib.hid hlb
      clear hlb
      have hvbH := Lib.hid hvb
      clear hvb
      have hW2H := Lib.hid hW2
      clear hW2
      have hb02H := Lib.hid hb02
      clear hb02
      have hclH := Lib.hid hcl
      clear hcl
      have hFH := Lib.hid hF
      clear hF
      have hC2H := Lib.hid hC2
      clear hC2
      go_wp2_with fail
      go_region
      go_wp2_with fail
      go_region
      go_wp2_with fail
      have hz := hclH.out _ (hFH.out _ ((Below.refl W2.heap.size (W2.setCell ⟨X.lb, iw, none⟩ (.int .i64 (lv + 1)))).drew.drew))
      clear hclH hFH
      refine hz.mono ?_
      clear hz
      rintro e w5 h5
      have h50 : e = .returned (.tuple #[]) := h5.1
      subst h50
      have R5 := RH.out _ w5 ((Below.refl _ _).drew.drew) h5
      clear h5
      have R5H := Lib.hid R5
      clear R5
      go_wp2
      exact R5H.out
    · have h2 : (y.to_ != s.now) = true := by simpa using hto
      have hlb1 : lb = true := by
        have h1 : (y.to_ == s.now) = false := by simpa using hto
        rw [h1] at hgv; simpa using hgv.symm
      subst hlb1
      clear hgv hto
      have RH := Lib.hid R
      clear R
      have hlvH := Lib.hid hlv
      clear hlv
      have hlbH := Lib.hid hlb
      clear hlb
      have hvbH := Lib.hid hvb
      clear hvb
      have hW2H := Lib.hid hW2
      clear hW2
      have hb02H := Lib.hid hb02
      clear hb02
      have hclH := Lib.hid hcl
      clear hcl
      have hFH := Lib.hid hF
      clear hF
      have hC2H := Lib.hid hC2
      clear hC2
      go_wp2_with fail
      go_region
      go_wp2_with fail
      go_region
      go_wp2_with fail
      have hz := hclH.out _ (hFH.out _ ((Below.refl W2.heap.size (W2.setCell ⟨X.lb, iw, none⟩ (.int .i64 (lv + 1)))).drew.drew))
      clear hclH hFH
      refine hz.mono ?_
      clear hz
      rintro e w5 h5
      have h50 : e = .returned (.tuple #[]) := h5.1
      subst h50
      have R5 := RH.out _ w5 ((Below.refl _ _).drew.drew) h5
      clear h5
      have R5H := Lib.hid R5
      clear R5
      go_wp2
      exact R5H.out
end Go.Proofs.YtbnkoefljcekbaaGreatDoor.C9

namespace Go.Proofs.YtbnkoefljcekbaaGreatDoor.C9
open Go.ChangeShapes Go.WideShapes Go.Deep Go.RowKit Go.Maps
set_option linter.unusedVariables false
set_option linter.unusedSimpArgs false

/-- what is so between lose's calls of its closure -/
def LsI (X : FX) (rv : Value) (s : PS) (w0 : World) (rb pb : Nat) (k : Nat) (W : World) : Prop :=
  ∃ ov', FC X KLo rv ov' (lsS X.F s k) w0 W ∧ ov'.ownBlock ≠ some rb ∧ ov'.ownBlock ≠ some pb ∧ W.cell? ⟨pb, 0, none⟩ = some (.pointer (some ⟨X.f, 0, none⟩)) ∧ rb < W.heap.size
theorem ls_del {X : FX} {rv : Value} {s : PS} {w0 : World} {rb pb : Nat} (hS : FS X s w0) (hlen : s.out.length + s.runs.length ≤ 900000) (hlo : ∀ k r, s.runs[k]? = some r → 0 ≤ (lsS X.F s k).lost r.work ∧ (lsS X.F s k).lost r.work ≤ 900000)
    (nb : rb ∉ X.bl ∧ pb ∉ X.bl) (hrb : X.base ≤ rb) (nrb : rb ≠ pb) :
    DelP 116 #[.pointer (some ⟨pb, 0, none⟩)] (fun x => goes X.F x.worker.toNat s.now) (s.runs.map (gr X.F)) rb (LsI X rv s w0 rb pb) := by
  obtain ⟨b1, b3⟩ := nb
  refine ⟨fun k W W' h hg => ?_, fun k x W0 W hx hI hW => ?_⟩
  · obtain ⟨ov', h1, h2, h4, h7, h9⟩ := h
    refine ⟨ov', h1.far hg (fun b hb => by injection hb with hb; subst hb; exact ⟨b1, h2, hrb⟩), h2, h4, hg.cell h7 (by simp; omega), Nat.lt_of_lt_of_le h9 hg.size⟩
  · obtain ⟨ov', h1, h2, h4, h7, hrl0⟩ := hI
    rw [List.getElem?_map] at hx
    obtain ⟨r, hr, rfl⟩ := Option.map_eq_some_iff.1 hx
    have hsz := hW.size
    have hp0 := cell?_lt h7
    have hf2 := lose1_any (h1.below hW) hS hr hlen (hlo k r hr) b3 (keepC hW h7)
    refine hf2.mono ?_
    rintro e w' ⟨rfl, ov2, k1, k2, k3, k4⟩
    have hne : ∀ b, b < W0.heap.size → ov'.ownBlock ≠ some b → ov2.ownBlock ≠ some b := fun b hb hn e => by
      rcases k2 b e with h | h
      · exact hn h
      · omega
    have hkp : ∀ b, b < W0.heap.size → b ∉ X.bl → ov'.ownBlock ≠ some b → w'.heap[b]? = W.heap[b]? := fun b hb h1 h2 => k4 b (by omega) h1 h2
    refine ⟨by rw [show (gr X.F r).worker.toNat = r.worker from rfl], ⟨ov2, k1, hne rb hrl0 h2, hne pb hp0 h4, ?_, by omega⟩, k3, fun b hb hlt => ?_⟩
    · exact (World.cell?_of_block (a := ⟨pb, 0, none⟩) (hkp pb hp0 b3 h4)).trans (keepC hW h7)
    · rcases hb with rfl | hb
      · exact k4 b (by omega) b1 h2
      · refine k4 b hlt (fun hm => ?_) (fun e => ?_)
        · have := h1.lt b hm; omega
        · have := (h1.out.1.lt b e).2; omega
def LoseAns (X : FX) (s : PS) (w0 : World) (e : Ending) (w' : World) : Prop :=
  e = .returned (.tuple #[]) ∧ ∃ (rv' ov' : Value), FA X KLo rv' ov' (loseP X.F s) w0 w'
set_option maxRecDepth 100000 in
set_option maxHeartbeats 8000000 in
theorem lose_any {X : FX} {rv ov : Value} {s : PS} {w0 w : World} (hA : FA X KLo rv ov s w0 w) (hS : FS X s w0) (hlen : s.out.length + s.runs.length ≤ 900000) (hlo : ∀ k r, s.runs[k]? = some r → 0 ≤ (lsS X.F s k).lost r.work ∧ (lsS X.F s k).lost r.work ≤ 900000) :
    Calls Tryz.prog 70 #[.pointer (some ⟨X.f, 0, none⟩)] w (LoseAns X s w0) := by
  have hba := (Below.refl w.heap.size w).alloc (Nat.le_refl _) (.cells #[.pointer (some ⟨X.f, 0, none⟩)] 54)
  have b0 := Boxed.new w 54 (.pointer (some ⟨X.f, 0, none⟩))
  have hA1 := hA.below hba
  have hnew := hA.new
  have c8 := (hA1.core.blk 8 _ rfl).1
  have f8 := (hA1.core.blk 8 _ rfl).2
  have q0 := b0.cell
  obtain ⟨W1, hW1⟩ : ∃ Y, w.alloc (.cells #[.pointer (some ⟨X.f, 0, none⟩)] 54) = Y := ⟨_, rfl⟩
  rw [hW1] at c8 f8 q0 hA1 hba
  have eg : ∀ args w, (callFunc 116 args).run Tryz.prog w = .ok (.enter 116 args) w := enters_of Tryz.func116 (by kernel_rfl) rfl
  obtain ⟨pb, hpb⟩ : ∃ b, w.heap.size = b := ⟨_, rfl⟩
  rw [hpb] at q0 hnew
  have hlen1 : s.runs.length ≤ 900000 := by omega
  rcases hA1.runs.1.2 with ⟨hv, h0⟩ | ⟨g, cap, cur, hv, hgb, _⟩
  · subst hv
    have hP0 : s.runs = [] := by cases hs : s.runs with
      | nil => rfl
      | cons a b => rw [hs] at h0; simp at h0
    have hfn := lsS_all X.F s
    rw [hP0, show ([] : List RR).length = 0 from rfl, lsS_zero] at hfn
    have R : ∀ W, Below W1.heap.size W1 W → LoseAns X s w0 (.returned (.tuple #[])) (W.setCell ⟨X.f, 8, none⟩ (.slice none 0 0)) := by
      intro W hW
      refine ⟨rfl, .slice none 0 0, ov, ?_⟩
      rw [← hfn]
      exact ⟨(hA1.core.below hW).setRuns _ _, Own.nil _ _, (fun b _ e => by cases e), fun b e => by cases e⟩
    clear b0
    have hAH := Lib.hid hA
    clear hA
    have hSH := Lib.hid hS
    clear hS
    have hloH := Lib.hid hlo
    clear hlo
    have hbaH := Lib.hid hba
    clear hba
    have hA1H := Lib.hid hA1
    clear hA1
    have hnewH := Lib.hid hnew
    clear hnew
    have hW1H := Lib.hid hW1
    clear hW1
    have hpbH := Lib.hid hpb
    clear hpb
    have hP0H := Lib.hid hP0
    clear hP0
    have hfnH := Lib.hid hfn
    clear hfn
    have RH := Lib.hid R
    clear R
    go_enter Tryz.func70, Tryz.ntmps70
    go_wp2_with fail
    rw [hW1H.out, hpbH.out]
    have hF : W1.cell? ⟨pb, 0, none⟩ = some (.pointer (some ⟨X.f, 0, none⟩)) ∧ W1.cell? ⟨X.f, 8, none⟩ = some (.slice none 0 0) := ⟨q0, c8⟩
    have hC : True := trivial
    refine startR (R := Rk (fun w' : World => w'.cell? ⟨pb, 0, none⟩ = some (.pointer (some ⟨X.f, 0, none⟩)) ∧ w'.cell? ⟨X.f, 8, none⟩ = some (.slice none 0 0)) (fun _ => True) 9 9) (by kernel_rfl) ?_
    refine takeF (i := 0) (d := some 2) (v := ?_) rfl rfl (by kernel_rfl) (by kernel_rfl) (by kernel_rfl) (by kernel_rfl) (by kernel_rfl) (fun _ _ _ h => h) (Or.inl ⟨by rfl, ?_⟩) hF ?_
    rotate_left
    · (intro w hSw; (try dsimp only at hSw); go_simp; (try with_reducible rfl))
    (try simp only [Act.put, List.setIfInBounds_toArray, List.set_cons_zero, List.set_cons_succ])
    refine takeF (i := 1) (d := some 3) (v := ?_) rfl rfl (by kernel_rfl) (by kernel_rfl) (by kernel_rfl) (by kernel_rfl) (by kernel_rfl) (fun _ _ _ h => h) (Or.inl ⟨by rfl, ?_⟩) hF ?_
    rotate_left
    · (intro w hSw; (try dsimp only at hSw); go_simp; (try with_reducible rfl))
    (try simp only [Act.put, List.setIfInBounds_toArray, List.set_cons_zero, List.set_cons_succ])
    refine takeF (i := 2) (d := some 4) (v := ?_) rfl rfl (by kernel_rfl) (by kernel_rfl) (by kernel_rfl) (by kernel_rfl) (by kernel_rfl) (fun _ _ _ h => h) (Or.inl ⟨by rfl, ?_⟩) hF ?_
    rotate_left
    · (intro w hSw; (try dsimp only at hSw); go_simp; (try with_reducible rfl))
    (try simp only [Act.put, List.setIfInBounds_toArray, List.set_cons_zero, List.set_cons_succ])
    refine takeF (i := 3) (d := some 5) (v := ?_) rfl rfl (by kernel_rfl) (by kernel_rfl) (by kernel_rfl) (by kernel_rfl) (by kernel_rfl) (fun _ _ _ h => h) (Or.inl ⟨by rfl, ?_⟩) hF ?_
    rotate_left
    · (intro w hSw; (try dsimp only at hSw); go_simp; (try with_reducible rfl))
    (try simp only [Act.put, List.setIfInBounds_toArray, List.set_cons_zero, List.set_cons_succ])
    refine takeF (i := 4) (d := some 6) (v := ?_) rfl rfl (by kernel_rfl) (by kernel_rfl) (by kernel_rfl) (by kernel_rfl) (by kernel_rfl) (fun _ _ _ h => h) (Or.inl ⟨by rfl, ?_⟩) hF ?_
    rotate_left
    · (intro w hSw; (try dsimp only at hSw); go_simp; (try with_reducible rfl))
    (try simp only [Act.put, List.setIfInBounds_toArray, List.set_cons_zero, List.set_cons_succ])
    refine takeF (i := 5) (d := some 7) (v := ?_) rfl rfl (by kernel_rfl) (by kernel_rfl) (by kernel_rfl) (by kernel_rfl) (by kernel_rfl) (fun _ _ _ h => h) (Or.inl ⟨by rfl, ?_⟩) hF ?_
    rotate_left
    · (intro w hSw; (try dsimp only at hSw); go_simp; (try with_reducible rfl))
    (try simp only [Act.put, List.setIfInBounds_toArray, List.set_cons_zero, List.set_cons_succ])
    refine oneR (i := 6) (by kernel_rfl) rfl (fun K hK => ?_)
    go_simp
    go_at_call 113
    refine (deleteG_nil _ _ _).mono ?_
    rintro e w5 ⟨rfl, rfl⟩
    refine hK.out _ _ ⟨fun _ _ _ => hF, fun _ _ => trivial⟩ ?_
    clear hK K
    (try simp only [Act.put, List.setIfInBounds_toArray, List.set_cons_zero, List.set_cons_succ])
    refine oneR (i := 7) (by kernel_rfl) rfl (fun K hK => ?_)
    go_simp
    refine hK.out _ _ ⟨fun _ _ _ => hF, fun _ _ => trivial⟩ ?_
    clear hK K
    (try simp only [Act.put, List.setIfInBounds_toArray, List.set_cons_zero, List.set_cons_succ])
    refine oneR (i := 8) (by kernel_rfl) rfl (fun K hK => ?_)
    go_simp
    refine hK.out _ _ ⟨fun _ _ _ => hF, fun _ _ => trivial⟩ ?_
    clear hK K
    (try simp only [Act.put, List.setIfInBounds_toArray, List.set_cons_zero, List.set_cons_succ])
    refine oneR (i := 9) (by kernel_rfl) rfl (fun K hK => ?_)
    go_simp
    refine hK.out _ _ ⟨fun h => absurd rfl h, fun h => absurd rfl h⟩ ?_
    clear hK K
    (try simp only [Act.put, List.setIfInBounds_toArray, List.set_cons_zero, List.set_cons_succ])
    refine doneR (by kernel_rfl) ?_ _
    clear hF f8 q0 c8
    go_wp2
    go_end0
    exact RH.out _ (Below.refl _ _).drew
  · obtain ⟨n, hn⟩ : ∃ n, (s.runs.map (gr X.F)).length = n := ⟨_, rfl⟩
    rw [hn] at hv
    subst hv
    have hnl : s.runs.length = n := by rw [← hn, List.length_map]
    have hgo : ov.ownBlock ≠ some g := hA1.rov g rfl
    have hgbl : g ∉ X.bl := fun hm => hA1.rap g hm rfl
    have hgne : g ≠ pb := fun e => hnew.2.2.1 (by rw [e]; rfl)
    have hgl := own_lt hA1.runs
    have hdp := ls_del (rv := .slice (some ⟨g, 0, none⟩) n cap) hS hlen hlo ⟨hgbl, hnew.1⟩ hgb hgne
    have hI0 : LsI X (.slice (some ⟨g, 0, none⟩) n cap) s w0 g pb 0 W1 := ⟨ov, by rw [lsS_zero]; exact hA1.core, hgo, hnew.2.1, q0, hgl⟩
    have hdl := deleteG_any 116 _ eg _ X.base g n cap (s.runs.map (gr X.F)) _ W1.drew hdp (own_same hA1.runs rfl (fun y _ hy => grun_okW _ _ y hy)) (hdp.stab _ _ _ hI0 ⟨rfl, rfl, rfl, Nat.le_refl _, fun _ _ _ => rfl⟩) (by omega)
    have hfl2 : (s.runs.map (gr X.F)).filter (fun x => !goes X.F x.worker.toNat s.now) = (s.runs.filter fun r => !goes X.F r.worker s.now).map (gr X.F) := by rw [List.filter_map]; rfl
    have R : ∀ (k : Nat) (w5 : World), Own RGRun 144 w5 X.base (.slice (some ⟨g, 0, none⟩) k cap) ((s.runs.map (gr X.F)).filter fun x => !goes X.F x.worker.toNat s.now) → LsI X (.slice (some ⟨g, 0, none⟩) n cap) s w0 g pb n w5 →
        LoseAns X s w0 (.returned (.tuple #[])) (w5.setCell ⟨X.f, 8, none⟩ (.slice (some ⟨g, 0, none⟩) k cap)) := by
      intro k w5 hO hI
      obtain ⟨ov', h1, h2, _, h7, _⟩ := hI
      refine ⟨rfl, .slice (some ⟨g, 0, none⟩) k cap, ov', ?_⟩
      have hfn := lsS_all X.F s
      rw [hnl] at hfn
      rw [← hfn]
      rw [hfl2] at hO
      refine ⟨h1.setRuns _ _, own_kp hO (grown_setc w5 ⟨X.f, 8, none⟩ _) (fun b hb e => ?_) (fun x _ hx => grun_ok_any _ _ x hx), fun b hb e => ?_, fun b hb e => ?_⟩
      · injection hb with hb
        injection e with e
        have e' : X.f = b := e
        have hb' : g = b := hb
        exact hgbl (by rw [hb', ← e']; exact h1.memf.1)
      · injection e with e
        exact hgbl (by rw [show g = b from e]; exact hb)
      · injection hb with hb
        exact h2 (by rw [e, ← hb])
    have hfr : ∀ w5, LsI X (.slice (some ⟨g, 0, none⟩) n cap) s w0 g pb n w5 → (w5.cell? ⟨pb, 0, none⟩ = some (.pointer (some ⟨X.f, 0, none⟩)) ∧ w5.cell? ⟨X.f, 8, none⟩ = some (.slice (some ⟨g, 0, none⟩) n cap)) ∧ w5.frozen? ⟨X.f, 8, none⟩ = false := by
      rintro w5 ⟨ov', h1, _, _, h7, _⟩
      exact ⟨⟨h7, (h1.blk 8 _ rfl).1⟩, (h1.blk 8 _ rfl).2⟩
    clear hI0 hdp hfl2 b0
    have hAH := Lib.hid hA
    clear hA
    have hSH := Lib.hid hS
    clear hS
    have hloH := Lib.hid hlo
    clear hlo
    have hbaH := Lib.hid hba
    clear hba
    have hA1H := Lib.hid hA1
    clear hA1
    have hnewH := Lib.hid hnew
    clear hnew
    have hW1H := Lib.hid hW1
    clear hW1
    have hpbH := Lib.hid hpb
    clear hpb
    have RH := Lib.hid R
    clear R
    have hdlH := Lib.hid hdl
    clear hdl
    have hfrH := Lib.hid hfr
    clear hfr
    have hgneH := Lib.hid hgne
    clear hgne
    have hgoH := Lib.hid hgo
    clear hgo
    have hgblH := Lib.hid hgbl
    clear hgbl
    have hnH := Lib.hid hn
    clear hn
    have hnlH := Lib.hid hnl
    clear hnl
    go_enter Tryz.func70, Tryz.ntmps70
    go_wp2_with fail
    rw [hW1H.out, hpbH.out]
    have hF : W1.cell? ⟨pb, 0, none⟩ = some (.pointer (some ⟨X.f, 0, none⟩)) ∧ W1.cell? ⟨X.f, 8, none⟩ = some (.slice (some ⟨g, 0, none⟩) n cap) := ⟨q0, c8⟩
    have hC : True := trivial
    refine startR (R := Rk (fun w' : World => w'.cell? ⟨pb, 0, none⟩ = some (.pointer (some ⟨X.f, 0, none⟩)) ∧ w'.cell? ⟨X.f, 8, none⟩ = some (.slice (some ⟨g, 0, none⟩) n cap)) (fun _ => True) 9 9) (by kernel_rfl) ?_
    refine takeF (i := 0) (d := some 2) (v := ?_) rfl rfl (by kernel_rfl) (by kernel_rfl) (by kernel_rfl) (by kernel_rfl) (by kernel_rfl) (fun _ _ _ h => h) (Or.inl ⟨by rfl, ?_⟩) hF ?_
    rotate_left
    · (intro w hSw; (try dsimp only at hSw); go_simp; (try with_reducible rfl))
    (try simp only [Act.put, List.setIfInBounds_toArray, List.set_cons_zero, List.set_cons_succ])
    refine takeF (i := 1) (d := some 3) (v := ?_) rfl rfl (by kernel_rfl) (by kernel_rfl) (by kernel_rfl) (by kernel_rfl) (by kernel_rfl) (fun _ _ _ h => h) (Or.inl ⟨by rfl, ?_⟩) hF ?_
    rotate_left
    · (intro w hSw; (try dsimp only at hSw); go_simp; (try with_reducible rfl))
    (try simp only [Act.put, List.setIfInBounds_toArray, List.set_cons_zero, List.set_cons_succ])
    refine takeF (i := 2) (d := some 4) (v := ?_) rfl rfl (by kernel_rfl) (by kernel_rfl) (by kernel_rfl) (by kernel_rfl) (by kernel_rfl) (fun _ _ _ h => h) (Or.inl ⟨by rfl, ?_⟩) hF ?_
    rotate_left
    · (intro w hSw; (try dsimp only at hSw); go_simp; (try with_reducible rfl))
    (try simp only [Act.put, List.setIfInBounds_toArray, List.set_cons_zero, List.set_cons_succ])
    refine takeF (i := 3) (d := some 5) (v := ?_) rfl rfl (by kernel_rfl) (by kernel_rfl) (by kernel_rfl) (by kernel_rfl) (by kernel_rfl) (fun _ _ _ h => h) (Or.inl ⟨by rfl, ?_⟩) hF ?_
    rotate_left
    · (intro w hSw; (try dsimp only at hSw); go_simp; (try with_reducible rfl))
    (try simp only [Act.put, List.setIfInBounds_toArray, List.set_cons_zero, List.set_cons_succ])
    refine takeF (i := 4) (d := some 6) (v := ?_) rfl rfl (by kernel_rfl) (by kernel_rfl) (by kernel_rfl) (by kernel_rfl) (by kernel_rfl) (fun _ _ _ h => h) (Or.inl ⟨by rfl, ?_⟩) hF ?_
    rotate_left
    · (intro w hSw; (try dsimp only at hSw); go_simp; (try with_reducible rfl))
    (try simp only [Act.put, List.setIfInBounds_toArray, List.set_cons_zero, List.set_cons_succ])
    refine takeF (i := 5) (d := some 7) (v := ?_) rfl rfl (by kernel_rfl) (by kernel_rfl) (by kernel_rfl) (by kernel_rfl) (by kernel_rfl) (fun _ _ _ h => h) (Or.inl ⟨by rfl, ?_⟩) hF ?_
    rotate_left
    · (intro w hSw; (try dsimp only at hSw); go_simp; (try with_reducible rfl))
    (try simp only [Act.put, List.setIfInBounds_toArray, List.set_cons_zero, List.set_cons_succ])
    refine oneR (i := 6) (by kernel_rfl) rfl (fun K hK => ?_)
    go_simp
    go_at_call 113
    refine hdlH.out.mono ?_
    rintro e w5 ⟨k, hk, rfl, hO5, hI5⟩
    obtain ⟨hF5, f85⟩ := hfrH.out w5 hI5
    have R5 := RH.out k w5 hO5 hI5
    clear hO5 hI5 hF f8 q0 c8
    have R5H := Lib.hid R5
    clear R5
    refine hK.out _ _ ⟨fun _ _ _ => hF5, fun _ _ => trivial⟩ ?_
    clear hK K
    (try simp only [Act.put, List.setIfInBounds_toArray, List.set_cons_zero, List.set_cons_succ])
    refine oneR (i := 7) (by kernel_rfl) rfl (fun K hK => ?_)
    go_simp
    refine hK.out _ _ ⟨fun _ _ _ => hF5, fun _ _ => trivial⟩ ?_
    clear hK K
    (try simp only [Act.put, List.setIfInBounds_toArray, List.set_cons_zero, List.set_cons_succ])
    refine oneR (i := 8) (by kernel_rfl) rfl (fun K hK => ?_)
    go_simp
    refine hK.out _ _ ⟨fun _ _ _ => hF5, fun _ _ => trivial⟩ ?_
    clear hK K
    (try simp only [Act.put, List.setIfInBounds_toArray, List.set_cons_zero, List.set_cons_succ])
    refine oneR (i := 9) (by kernel_rfl) rfl (fun K hK => ?_)
    go_simp
    refine hK.out _ _ ⟨fun h => absurd rfl h, fun h => absurd rfl h⟩ ?_
    clear hK K
    (try simp only [Act.put, List.setIfInBounds_toArray, List.set_cons_zero, List.set_cons_succ])
    refine doneR (by kernel_rfl) ?_ _
    clear hF5 f85
    go_wp2
    go_end0
    exact R5H.out
end Go.Proofs.YtbnkoefljcekbaaGreatDoor.C9

namespace Go.Proofs.YtbnkoefljcekbaaGreatDoor.C9
open Go.ChangeShapes Go.WideShapes Go.Deep Go.RowKit
set_option linter.unusedVariables false
set_option linter.unusedSimpArgs false

def fR (S : List Int) (x : Int) : Int := - gt S x.toNat
end Go.Proofs.YtbnkoefljcekbaaGreatDoor.C9

namespace Go.Proofs.YtbnkoefljcekbaaGreatDoor.C9
open Go.ChangeShapes Go.WideShapes Go.Deep Go.RowKit
set_option linter.unusedVariables false
set_option linter.unusedSimpArgs false

theorem keep8 {W w' : World} {a0 a1 a2 a3 a4 a5 a6 a7 : Addr} {v0 v1 v2 v3 v4 v5 v6 v7 : Value} (hb : Below W.heap.size W w') (h : W.cell? a0 = some v0 ∧ W.cell? a1 = some v1 ∧ W.cell? a2 = some v2 ∧ W.cell? a3 = some v3 ∧ W.cell? a4 = some v4 ∧ W.cell? a5 = some v5 ∧ W.cell? a6 = some v6 ∧ W.cell? a7 = some v7) :
    w'.cell? a0 = some v0 ∧ w'.cell? a1 = some v1 ∧ w'.cell? a2 = some v2 ∧ w'.cell? a3 = some v3 ∧ w'.cell? a4 = some v4 ∧ w'.cell? a5 = some v5 ∧ w'.cell? a6 = some v6 ∧ w'.cell? a7 = some v7 :=
  ⟨keepC hb h.1, keepC hb h.2.1, keepC hb h.2.2.1, keepC hb h.2.2.2.1, keepC hb h.2.2.2.2.1, keepC hb h.2.2.2.2.2.1, keepC hb h.2.2.2.2.2.2.1, keepC hb h.2.2.2.2.2.2.2⟩
theorem goingOf_len {P : List RR} {i : Nat} : ((goingOf P i).length = 0) ↔ runsAny P i = false := by
  rw [runsAny_goingOf, List.length_eq_zero_iff]
set_option maxRecDepth 100000 in
set_option maxHeartbeats 8000000 in
theorem st1_any {X : FX} {rv ov : Value} {s : PS} {w0 W : World} {pb i : Nat} (hA : FA X KLo rv ov s w0 W) (hS : FS X s w0) (hi : i < X.F.nX) (hlen : s.runs.length ≤ 900000) (q0 : W.cell? ⟨pb, 0, none⟩ = some (.pointer (some ⟨X.f, 0, none⟩))) :
    Calls Tryz.prog 118 #[.int .i64 i, .pointer (some ⟨pb, 0, none⟩)] W fun e w' => e = .returned (.bool (canS X.F s.done s.lost s.runs i)) ∧ Below W.heap.size W w' := by
  obtain ⟨n1, n2, n3, n4, n5, n6⟩ := hS.nW
  obtain ⟨A, cap, hrv⟩ := hA.runs.form
  obtain ⟨n, hnn⟩ : ∃ n, (s.runs.map (gr X.F)).length = n := ⟨_, rfl⟩
  rw [hnn] at hrv
  subst hrv
  have hn : n ≤ 1000000 := by rw [← hnn, List.length_map]; omega
  have hiN : i < X.x.works.n := by omega
  obtain ⟨dn, hdn⟩ : ∃ v, s.done i = v := ⟨_, rfl⟩
  obtain ⟨ls, hls⟩ : ∃ v, s.lost i = v := ⟨_, rfl⟩
  have m1 := (hA.core.done i hiN).1
  have m2 := (hA.core.lost i hiN).1
  rw [hdn] at m1
  rw [hls] at m2
  have c9 := (hA.core.blk 9 _ rfl).1
  have c10 := (hA.core.blk 10 _ rfl).1
  rw [show X.N = X.x.works.n from rfl] at c9 c10
  have hH0 : (fun w' : World => w'.cell? ⟨pb, 0, none⟩ = some (.pointer (some ⟨X.f, 0, none⟩)) ∧ w'.cell? ⟨X.f, 9, none⟩ = some (.slice (some ⟨X.db, 0, none⟩) X.x.works.n X.x.works.n) ∧ w'.cell? ⟨X.db, i, none⟩ = some (.bool dn) ∧ w'.cell? ⟨X.f, 10, none⟩ = some (.slice (some ⟨X.lb, 0, none⟩) X.x.works.n X.x.works.n) ∧ w'.cell? ⟨X.lb, i, none⟩ = some (.int .i64 ls) ∧ w'.cell? ⟨X.f, 3, none⟩ = some (.int .i64 X.x.tries) ∧ w'.cell? ⟨X.f, 1, none⟩ = some (.slice X.x.works.A X.x.works.n X.x.works.cap) ∧ w'.cell? ⟨X.f, 8, none⟩ = some (.slice A n cap)) W := ⟨q0, c9, m1, c10, m2, (hA.core.blk 3 _ rfl).1, (hA.core.blk 1 _ rfl).1, (hA.core.blk 8 _ rfl).1⟩
  have hgo : ∀ r ∈ s.runs, going r = true := fun r hr => (hS.rn r hr).1
  have htr : X.F.tries = X.x.tries := by obtain ⟨o, e⟩ := hS.F; rw [e]; rfl
  have haf : X.F.after = gOf X.x.works.l := by obtain ⟨o, e⟩ := hS.F; rw [e]; rfl
  have hrd : readyB X.F s.done i = rdP X.x.works.l s.done i := by unfold readyB rdP; rw [haf]
  have hxs := hS.xs.1.below hA.core.bel
  have hdl := hA.core.lt X.db hA.core.memf.2.2.2.1
  have hrow : BRow W X.db X.x.works.n s.done := hA.core.done
  unfold canS
  rw [hdn, hls, htr, hrd]
  clear m1 m2 c9 c10 q0
  obtain ⟨rd, hrdv⟩ : ∃ b, rdP X.x.works.l s.done i = b := ⟨_, rfl⟩
  obtain ⟨ra, hrav⟩ : ∃ b, runsAny s.runs i = b := ⟨_, rfl⟩
  have hgl := goingOf_len (P := s.runs) (i := i)
  rw [hrav] at hgl
  rw [hrdv, hrav]
  have hAH := Lib.hid hA
  clear hA
  have hSH := Lib.hid hS
  clear hS
  have hnnH := Lib.hid hnn
  clear hnn
  have n1H := Lib.hid n1
  clear n1
  have n2H := Lib.hid n2
  clear n2
  have n3H := Lib.hid n3
  clear n3
  have n4H := Lib.hid n4
  clear n4
  have hdnH := Lib.hid hdn
  clear hdn
  have hlsH := Lib.hid hls
  clear hls
  have hgoH := Lib.hid hgo
  clear hgo
  have htrH := Lib.hid htr
  clear htr
  have hafH := Lib.hid haf
  clear haf
  have hrdH := Lib.hid hrd
  clear hrd
  have hxsH := Lib.hid hxs
  clear hxs
  have hrowH := Lib.hid hrow
  clear hrow
  have hrdvH := Lib.hid hrdv
  clear hrdv
  have hravH := Lib.hid hrav
  clear hrav
  cases dn
  · by_cases ht : ls < X.x.tries
    · have ht' : decide (ls < X.x.tries) = true := by simpa using ht
      cases ra
      · have hg0 := hgl.2 rfl
        have hg0H := Lib.hid hg0
        clear hg0
        clear hgl
        go_enter Tryz.func118, Tryz.ntmps118
        go_wp2_with fail
        refine wp_region_held_drew (S := fun w' : World => w'.cell? ⟨pb, 0, none⟩ = some (.pointer (some ⟨X.f, 0, none⟩)) ∧ w'.cell? ⟨X.f, 9, none⟩ = some (.slice (some ⟨X.db, 0, none⟩) X.x.works.n X.x.works.n) ∧ w'.cell? ⟨X.db, i, none⟩ = some (.bool false) ∧ w'.cell? ⟨X.f, 10, none⟩ = some (.slice (some ⟨X.lb, 0, none⟩) X.x.works.n X.x.works.n) ∧ w'.cell? ⟨X.lb, i, none⟩ = some (.int .i64 ls) ∧ w'.cell? ⟨X.f, 3, none⟩ = some (.int .i64 X.x.tries) ∧ w'.cell? ⟨X.f, 1, none⟩ = some (.slice X.x.works.A X.x.works.n X.x.works.cap) ∧ w'.cell? ⟨X.f, 8, none⟩ = some (.slice A n cap)) (by kernel_rfl) hH0 (fun hHeld => ?_)
        refine tkH (i := 0) (d := some 4) (v := ?_) (hy := Or.inl ⟨by rfl, ?_⟩) (h := ?_)
        rotate_left
        · (intro w hSw; (try dsimp only at hSw); go_simp; (try with_reducible rfl))
        (try simp only [Act.put, tkA, tkB, tkC])
        refine tkH (i := 1) (d := some 5) (v := ?_) (hy := Or.inl ⟨by rfl, ?_⟩) (h := ?_)
        rotate_left
        · (intro w hSw; (try dsimp only at hSw); go_simp; (try with_reducible rfl))
        (try simp only [Act.put, tkA, tkB, tkC])
        refine tkH (i := 2) (d := some 6) (v := ?_) (hy := Or.inl ⟨by rfl, ?_⟩) (h := ?_)
        rotate_left
        · (intro w hSw; (try dsimp only at hSw); go_simp; (try with_reducible rfl))
        (try simp only [Act.put, tkA, tkB, tkC])
        refine tkH (i := 3) (d := some 7) (v := ?_) (hy := Or.inl ⟨by rfl, ?_⟩) (h := ?_)
        rotate_left
        · (intro w hSw; (try dsimp only at hSw); go_simp; (try with_reducible rfl))
        (try simp only [Act.put, tkA, tkB, tkC])
        refine tkH (i := 4) (d := some 8) (v := ?_) (hy := Or.inl ⟨by rfl, ?_⟩) (h := ?_)
        rotate_left
        · (intro w hSw; (try dsimp only at hSw); go_simp; (try with_reducible rfl))
        (try simp only [Act.put, tkA, tkB, tkC])
        refine tkH (i := 5) (d := some 9) (v := ?_) (hy := Or.inl ⟨by rfl, ?_⟩) (h := ?_)
        rotate_left
        · (intro w hSw; (try dsimp only at hSw); go_simp; (try with_reducible rfl))
        (try simp only [Act.put, tkA, tkB, tkC])
        refine tkH (i := 6) (d := some 10) (v := ?_) (hy := Or.inl ⟨by rfl, ?_⟩) (h := ?_)
        rotate_left
        · (intro w hSw; (try dsimp only at hSw); go_simp; (try with_reducible rfl))
        (try simp only [Act.put, tkA, tkB, tkC])
        refine tkH (i := 7) (d := some 11) (v := ?_) (hy := Or.inl ⟨by rfl, ?_⟩) (h := ?_)
        rotate_left
        · (intro w hSw; (try dsimp only at hSw); go_simp; (try with_reducible rfl))
        (try simp only [Act.put, tkA, tkB, tkC])
        refine tkH (i := 8) (d := some 12) (v := ?_) (hy := Or.inl ⟨by rfl, ?_⟩) (h := ?_)
        rotate_left
        · (intro w hSw; (try dsimp only at hSw); go_simp; (try with_reducible rfl))
        (try simp only [Act.put, tkA, tkB, tkC])
        refine tkH (i := 9) (d := some 13) (v := ?_) (hy := Or.inl ⟨by rfl, ?_⟩) (h := ?_)
        rotate_left
        · (intro w hSw; (try dsimp only at hSw); go_simp; (try with_reducible rfl))
        (try simp only [Act.put, tkA, tkB, tkC])
        refine tkH (i := 10) (d := some 14) (v := ?_) (hy := Or.inl ⟨by rfl, ?_⟩) (h := ?_)
        rotate_left
        · (intro w hSw; (try dsimp only at hSw); go_simp; (try with_reducible rfl))
        (try simp only [Act.put, tkA, tkB, tkC])
        refine tkH (i := 11) (d := some 15) (v := ?_) (hy := Or.inl ⟨by rfl, ?_⟩) (h := ?_)
        rotate_left
        · (intro w hSw; (try dsimp only at hSw); go_simp; (try with_reducible rfl))
        (try simp only [Act.put, tkA, tkB, tkC])
        refine tkH (i := 12) (d := some 16) (v := ?_) (hy := Or.inl ⟨by rfl, ?_⟩) (h := ?_)
        rotate_left
        · (intro w hSw; (try dsimp only at hSw); go_simp; (try with_reducible rfl))
        (try simp only [Act.put, tkA, tkB, tkC])
        refine tkH (i := 13) (d := some 17) (v := ?_) (hy := Or.inl ⟨by rfl, ?_⟩) (h := ?_)
        rotate_left
        · (intro w hSw; (try dsimp only at hSw); go_simp; (try with_reducible rfl))
        (try simp only [Act.put, tkA, tkB, tkC])
        refine tkH (i := 14) (d := some 18) (v := ?_) (hy := Or.inl ⟨by rfl, ?_⟩) (h := ?_)
        rotate_left
        · (intro w hSw; (try dsimp only at hSw); go_simp; (try with_reducible rfl))
        (try simp only [Act.put, tkA, tkB, tkC])
        refine tkH (i := 15) (d := some 19) (v := ?_) (hy := Or.inl ⟨by rfl, ?_⟩) (h := ?_)
        rotate_left
        · (intro w hSw; (try dsimp only at hSw); go_simp; (try with_reducible rfl))
        (try simp only [Act.put, tkA, tkB, tkC])
        refine tkH (i := 16) (d := some 20) (v := ?_) (hy := Or.inl ⟨by rfl, ?_⟩) (h := ?_)
        rotate_left
        · (intro w hSw; (try dsimp only at hSw); go_simp; (try with_reducible rfl))
        (try simp only [Act.put, tkA, tkB, tkC])
        refine tkH (i := 17) (d := some 21) (v := ?_) (hy := Or.inl ⟨by rfl, ?_⟩) (h := ?_)
        rotate_left
        · (intro w hSw; (try dsimp only at hSw); go_simp; (try with_reducible rfl))
        (try simp only [Act.put, tkA, tkB, tkC])
        refine tkH (i := 18) (d := some 22) (v := ?_) (hy := Or.inl ⟨by rfl, ?_⟩) (h := ?_)
        rotate_left
        · (intro w hSw; (try dsimp only at hSw); go_simp; (try with_reducible rfl))
        (try simp only [Act.put, tkA, tkB, tkC])
        refine tkH (i := 19) (d := some 23) (v := ?_) (hy := Or.inl ⟨by rfl, ?_⟩) (h := ?_)
        rotate_left
        · (intro w hSw; (try dsimp only at hSw); go_simp; (try with_reducible rfl))
        (try simp only [Act.put, tkA, tkB, tkC])
        refine tkH (i := 20) (d := some 24) (v := ?_) (hy := Or.inl ⟨by rfl, ?_⟩) (h := ?_)
        rotate_left
        · (intro w hSw; (try dsimp only at hSw); go_simp; (try with_reducible rfl))
        (try simp only [Act.put, tkA, tkB, tkC])
        refine tkH (i := 21) (d := some 25) (v := ?_) (hy := Or.inl ⟨by rfl, ?_⟩) (h := ?_)
        rotate_left
        · (intro w hSw; (try dsimp only at hSw); go_simp; (try with_reducible rfl))
        (try simp only [Act.put, tkA, tkB, tkC])
        refine tkH (i := 22) (d := some 26) (v := ?_) (hy := Or.inl ⟨by rfl, ?_⟩) (h := ?_)
        rotate_left
        · (intro w hSw; (try dsimp only at hSw); go_simp; (try with_reducible rfl))
        (try simp only [Act.put, tkA, tkB, tkC])
        refine tkH (i := 23) (d := some 27) (v := ?_) (hy := Or.inl ⟨by rfl, ?_⟩) (h := ?_)
        rotate_left
        · (intro w hSw; (try dsimp only at hSw); go_simp; (try with_reducible rfl))
        (try simp only [Act.put, tkA, tkB, tkC])
        refine tkH (i := 24) (d := some 28) (v := ?_) (hy := Or.inl ⟨by rfl, ?_⟩) (h := ?_)
        rotate_left
        · (intro w hSw; (try dsimp only at hSw); go_simp; (try with_reducible rfl))
        (try simp only [Act.put, tkA, tkB, tkC])
        refine tkH (i := 25) (d := some 29) (v := ?_) (hy := Or.inl ⟨by rfl, ?_⟩) (h := ?_)
        rotate_left
        · (intro w hSw; (try dsimp only at hSw); go_simp; (try with_reducible rfl))
        (try simp only [Act.put, tkA, tkB, tkC])
        refine wpAnyH_ready (rs := [26]) (by kernel_rfl) (by simp) ?_
        refine AllReadyH.cons (i := 26) rfl (fun K hK => ?_) AllReadyH.nil
        go_simp
        go_at_call 119
        refine (runsOf_any X.f X.F A n cap s.runs i _ X.base (hHeld.2.2.2.2.2.2.2) (hAH.out.runs.below (Below.refl _ _).drew) hn hgoH.out).mono ?_
        rintro e w4 ⟨A4, k4, c4, rfl, hk4, _, hb4⟩
        have hHeld := keep8 hb4 hHeld
        have hbw4 : Below W.heap.size W w4 := (Below.refl _ _).drew.trans hb4
        clear hb4
        have hbw4H := Lib.hid hbw4
        clear hbw4
        refine hK.out _ _ hHeld (fun hHeld => ?_)
        clear hK K
        (try simp only [Act.put, List.setIfInBounds_toArray, List.set_cons_zero, List.set_cons_succ])
        have hk5 : k4 = 0 := hk4.trans hg0H.out
        subst hk5
        clear hk4
        refine tkH (i := 27) (d := some 31) (v := ?_) (hy := Or.inl ⟨by rfl, ?_⟩) (h := ?_)
        rotate_left
        · (intro w hSw; (try dsimp only at hSw); go_simp; (try with_reducible rfl))
        (try simp only [Act.put, tkA, tkB, tkC])
        refine tkH (i := 28) (d := some 32) (v := ?_) (hy := Or.inl ⟨by rfl, ?_⟩) (h := ?_)
        rotate_left
        · (intro w hSw; (try dsimp only at hSw); go_simp; (try with_reducible rfl))
        (try simp only [Act.put, tkA, tkB, tkC])
        refine tkH (i := 29) (d := some 33) (v := ?_) (hy := Or.inl ⟨by rfl, ?_⟩) (h := ?_)
        rotate_left
        · (intro w hSw; (try dsimp only at hSw); go_simp; (try with_reducible rfl))
        (try simp only [Act.put, tkA, tkB, tkC])
        refine tkH (i := 30) (d := some 34) (v := ?_) (hy := Or.inl ⟨by rfl, ?_⟩) (h := ?_)
        rotate_left
        · (intro w hSw; (try dsimp only at hSw); go_simp; (try with_reducible rfl))
        (try simp only [Act.put, tkA, tkB, tkC])
        refine tkH (i := 31) (d := some 35) (v := ?_) (hy := Or.inl ⟨by rfl, ?_⟩) (h := ?_)
        rotate_left
        · (intro w hSw; (try dsimp only at hSw); go_simp; (try with_reducible rfl))
        (try simp only [Act.put, tkA, tkB, tkC])
        refine tkH (i := 32) (d := some 36) (v := ?_) (hy := Or.inl ⟨by rfl, ?_⟩) (h := ?_)
        rotate_left
        · (intro w hSw; (try dsimp only at hSw); go_simp; (try with_reducible rfl))
        (try simp only [Act.put, tkA, tkB, tkC])
        refine tkH (i := 33) (d := some 37) (v := ?_) (hy := Or.inl ⟨by rfl, ?_⟩) (h := ?_)
        rotate_left
        · (intro w hSw; (try dsimp only at hSw); go_simp; (try with_reducible rfl))
        (try simp only [Act.put, tkA, tkB, tkC])
        refine tkH (i := 34) (d := some 38) (v := ?_) (hy := Or.inl ⟨by rfl, ?_⟩) (h := ?_)
        rotate_left
        · (intro w hSw; (try dsimp only at hSw); go_simp; (try with_reducible rfl))
        (try simp only [Act.put, tkA, tkB, tkC])
        refine tkH (i := 35) (d := some 39) (v := ?_) (hy := Or.inl ⟨by rfl, ?_⟩) (h := ?_)
        rotate_left
        · (intro w hSw; (try dsimp only at hSw); go_simp; (try with_reducible rfl))
        (try simp only [Act.put, tkA, tkB, tkC])
        refine tkH (i := 36) (d := some 40) (v := ?_) (hy := Or.inl ⟨by rfl, ?_⟩) (h := ?_)
        rotate_left
        · (intro w hSw; (try dsimp only at hSw); go_simp; (try with_reducible rfl))
        (try simp only [Act.put, tkA, tkB, tkC])
        refine tkH (i := 37) (d := some 41) (v := ?_) (hy := Or.inl ⟨by rfl, ?_⟩) (h := ?_)
        rotate_left
        · (intro w hSw; (try dsimp only at hSw); go_simp; (try with_reducible rfl))
        (try simp only [Act.put, tkA, tkB, tkC])
        refine tkH (i := 38) (d := some 42) (v := ?_) (hy := Or.inl ⟨by rfl, ?_⟩) (h := ?_)
        rotate_left
        · (intro w hSw; (try dsimp only at hSw); go_simp; (try with_reducible rfl))
        (try simp only [Act.put, tkA, tkB, tkC])
        refine tkH (i := 39) (d := some 43) (v := ?_) (hy := Or.inl ⟨by rfl, ?_⟩) (h := ?_)
        rotate_left
        · (intro w hSw; (try dsimp only at hSw); go_simp; (try with_reducible rfl))
        (try simp only [Act.put, tkA, tkB, tkC])
        refine tkH (i := 40) (d := some 44) (v := ?_) (hy := Or.inl ⟨by rfl, ?_⟩) (h := ?_)
        rotate_left
        · (intro w hSw; (try dsimp only at hSw); go_simp; (try with_reducible rfl))
        (try simp only [Act.put, tkA, tkB, tkC])
        refine wpAnyH_ready (rs := [41]) (by kernel_rfl) (by simp) ?_
        refine AllReadyH.cons (i := 41) rfl (fun K hK => ?_) AllReadyH.nil
        go_simp
        go_at_call 106
        refine (ready_any X.db X.x.works.n X.x.works.cap X.x.works.A s.done X.x.works.l i _ (by omega) (hrowH.out.below hbw4H.out hdl) (Nat.lt_of_lt_of_le hdl hbw4H.out.size) (hxsH.out.below hbw4H.out) hSH.out.ok.wo hiN).mono ?_
        rintro e w6 ⟨rfl, hb6⟩
        rw [hrdvH.out]
        have hHeld := keep8 hb6 hHeld
        have hb06 := hbw4H.out.trans (hb6.mono hbw4H.out.size)
        clear hb6
        have hb06H := Lib.hid hb06
        clear hb06
        refine hK.out _ _ hHeld (fun hHeld => ?_)
        clear hK K
        (try simp only [Act.put, List.setIfInBounds_toArray, List.set_cons_zero, List.set_cons_succ])
        refine tkH (i := 42) (d := some 46) (v := ?_) (hy := Or.inl ⟨by rfl, ?_⟩) (h := ?_)
        rotate_left
        · (intro w hSw; (try dsimp only at hSw); go_simp; (try with_reducible rfl))
        (try simp only [Act.put, tkA, tkB, tkC])
        refine tkH (i := 43) (d := some 3) (v := ?_) (hy := Or.inl ⟨by rfl, ?_⟩) (h := ?_)
        rotate_left
        · (intro w hSw; (try dsimp only at hSw); go_simp; (try with_reducible rfl))
        (try simp only [Act.put, tkA, tkB, tkC])
        refine wpAnyH_done (by kernel_rfl) ?_ _
        clear hHeld hH0
        go_wp2
        go_ret
        exact ⟨by simp [ht], hb06H.out⟩
      · have hg0 : (goingOf s.runs i).length ≠ 0 := fun e => by have := hgl.1 e; cases this
        have hg0H := Lib.hid hg0
        clear hg0
        clear hgl
        go_enter Tryz.func118, Tryz.ntmps118
        go_wp2_with fail
        refine wp_region_held_drew (S := fun w' : World => w'.cell? ⟨pb, 0, none⟩ = some (.pointer (some ⟨X.f, 0, none⟩)) ∧ w'.cell? ⟨X.f, 9, none⟩ = some (.slice (some ⟨X.db, 0, none⟩) X.x.works.n X.x.works.n) ∧ w'.cell? ⟨X.db, i, none⟩ = some (.bool false) ∧ w'.cell? ⟨X.f, 10, none⟩ = some (.slice (some ⟨X.lb, 0, none⟩) X.x.works.n X.x.works.n) ∧ w'.cell? ⟨X.lb, i, none⟩ = some (.int .i64 ls) ∧ w'.cell? ⟨X.f, 3, none⟩ = some (.int .i64 X.x.tries) ∧ w'.cell? ⟨X.f, 1, none⟩ = some (.slice X.x.works.A X.x.works.n X.x.works.cap) ∧ w'.cell? ⟨X.f, 8, none⟩ = some (.slice A n cap)) (by kernel_rfl) hH0 (fun hHeld => ?_)
        refine tkH (i := 0) (d := some 4) (v := ?_) (hy := Or.inl ⟨by rfl, ?_⟩) (h := ?_)
        rotate_left
        · (intro w hSw; (try dsimp only at hSw); go_simp; (try with_reducible rfl))
        (try simp only [Act.put, tkA, tkB, tkC])
        refine tkH (i := 1) (d := some 5) (v := ?_) (hy := Or.inl ⟨by rfl, ?_⟩) (h := ?_)
        rotate_left
        · (intro w hSw; (try dsimp only at hSw); go_simp; (try with_reducible rfl))
        (try simp only [Act.put, tkA, tkB, tkC])
        refine tkH (i := 2) (d := some 6) (v := ?_) (hy := Or.inl ⟨by rfl, ?_⟩) (h := ?_)
        rotate_left
        · (intro w hSw; (try dsimp only at hSw); go_simp; (try with_reducible rfl))
        (try simp only [Act.put, tkA, tkB, tkC])
        refine tkH (i := 3) (d := some 7) (v := ?_) (hy := Or.inl ⟨by rfl, ?_⟩) (h := ?_)
        rotate_left
        · (intro w hSw; (try dsimp only at hSw); go_simp; (try with_reducible rfl))
        (try simp only [Act.put, tkA, tkB, tkC])
        refine tkH (i := 4) (d := some 8) (v := ?_) (hy := Or.inl ⟨by rfl, ?_⟩) (h := ?_)
        rotate_left
        · (intro w hSw; (try dsimp only at hSw); go_simp; (try with_reducible rfl))
        (try simp only [Act.put, tkA, tkB, tkC])
        refine tkH (i := 5) (d := some 9) (v := ?_) (hy := Or.inl ⟨by rfl, ?_⟩) (h := ?_)
        rotate_left
        · (intro w hSw; (try dsimp only at hSw); go_simp; (try with_reducible rfl))
        (try simp only [Act.put, tkA, tkB, tkC])
        refine tkH (i := 6) (d := some 10) (v := ?_) (hy := Or.inl ⟨by rfl, ?_⟩) (h := ?_)
        rotate_left
        · (intro w hSw; (try dsimp only at hSw); go_simp; (try with_reducible rfl))
        (try simp only [Act.put, tkA, tkB, tkC])
        refine tkH (i := 7) (d := some 11) (v := ?_) (hy := Or.inl ⟨by rfl, ?_⟩) (h := ?_)
        rotate_left
        · (intro w hSw; (try dsimp only at hSw); go_simp; (try with_reducible rfl))
        (try simp only [Act.put, tkA, tkB, tkC])
        refine tkH (i := 8) (d := some 12) (v := ?_) (hy := Or.inl ⟨by rfl, ?_⟩) (h := ?_)
        rotate_left
        · (intro w hSw; (try dsimp only at hSw); go_simp; (try with_reducible rfl))
        (try simp only [Act.put, tkA, tkB, tkC])
        refine tkH (i := 9) (d := some 13) (v := ?_) (hy := Or.inl ⟨by rfl, ?_⟩) (h := ?_)
        rotate_left
        · (intro w hSw; (try dsimp only at hSw); go_simp; (try with_reducible rfl))
        (try simp only [Act.put, tkA, tkB, tkC])
        refine tkH (i := 10) (d := some 14) (v := ?_) (hy := Or.inl ⟨by rfl, ?_⟩) (h := ?_)
        rotate_left
        · (intro w hSw; (try dsimp only at hSw); go_simp; (try with_reducible rfl))
        (try simp only [Act.put, tkA, tkB, tkC])
        refine tkH (i := 11) (d := some 15) (v := ?_) (hy := Or.inl ⟨by rfl, ?_⟩) (h := ?_)
        rotate_left
        · (intro w hSw; (try dsimp only at hSw); go_simp; (try with_reducible rfl))
        (try simp only [Act.put, tkA, tkB, tkC])
        refine tkH (i := 12) (d := some 16) (v := ?_) (hy := Or.inl ⟨by rfl, ?_⟩) (h := ?_)
        rotate_left
        · (intro w hSw; (try dsimp only at hSw); go_simp; (try with_reducible rfl))
        (try simp only [Act.put, tkA, tkB, tkC])
        refine tkH (i := 13) (d := some 17) (v := ?_) (hy := Or.inl ⟨by rfl, ?_⟩) (h := ?_)
        rotate_left
        · (intro w hSw; (try dsimp only at hSw); go_simp; (try with_reducible rfl))
        (try simp only [Act.put, tkA, tkB, tkC])
        refine tkH (i := 14) (d := some 18) (v := ?_) (hy := Or.inl ⟨by rfl, ?_⟩) (h := ?_)
        rotate_left
        · (intro w hSw; (try dsimp only at hSw); go_simp; (try with_reducible rfl))
        (try simp only [Act.put, tkA, tkB, tkC])
        refine tkH (i := 15) (d := some 19) (v := ?_) (hy := Or.inl ⟨by rfl, ?_⟩) (h := ?_)
        rotate_left
        · (intro w hSw; (try dsimp only at hSw); go_simp; (try with_reducible rfl))
        (try simp only [Act.put, tkA, tkB, tkC])
        refine tkH (i := 16) (d := some 20) (v := ?_) (hy := Or.inl ⟨by rfl, ?_⟩) (h := ?_)
        rotate_left
        · (intro w hSw; (try dsimp only at hSw); go_simp; (try with_reducible rfl))
        (try simp only [Act.put, tkA, tkB, tkC])
        refine tkH (i := 17) (d := some 21) (v := ?_) (hy := Or.inl ⟨by rfl, ?_⟩) (h := ?_)
        rotate_left
        · (intro w hSw; (try dsimp only at hSw); go_simp; (try with_reducible rfl))
        (try simp only [Act.put, tkA, tkB, tkC])
        refine tkH (i := 18) (d := some 22) (v := ?_) (hy := Or.inl ⟨by rfl, ?_⟩) (h := ?_)
        rotate_left
        · (intro w hSw; (try dsimp only at hSw); go_simp; (try with_reducible rfl))
        (try simp only [Act.put, tkA, tkB, tkC])
        refine tkH (i := 19) (d := some 23) (v := ?_) (hy := Or.inl ⟨by rfl, ?_⟩) (h := ?_)
        rotate_left
        · (intro w hSw; (try dsimp only at hSw); go_simp; (try with_reducible rfl))
        (try simp only [Act.put, tkA, tkB, tkC])
        refine tkH (i := 20) (d := some 24) (v := ?_) (hy := Or.inl ⟨by rfl, ?_⟩) (h := ?_)
        rotate_left
        · (intro w hSw; (try dsimp only at hSw); go_simp; (try with_reducible rfl))
        (try simp only [Act.put, tkA, tkB, tkC])
        refine tkH (i := 21) (d := some 25) (v := ?_) (hy := Or.inl ⟨by rfl, ?_⟩) (h := ?_)
        rotate_left
        · (intro w hSw; (try dsimp only at hSw); go_simp; (try with_reducible rfl))
        (try simp only [Act.put, tkA, tkB, tkC])
        refine tkH (i := 22) (d := some 26) (v := ?_) (hy := Or.inl ⟨by rfl, ?_⟩) (h := ?_)
        rotate_left
        · (intro w hSw; (try dsimp only at hSw); go_simp; (try with_reducible rfl))
        (try simp only [Act.put, tkA, tkB, tkC])
        refine tkH (i := 23) (d := some 27) (v := ?_) (hy := Or.inl ⟨by rfl, ?_⟩) (h := ?_)
        rotate_left
        · (intro w hSw; (try dsimp only at hSw); go_simp; (try with_reducible rfl))
        (try simp only [Act.put, tkA, tkB, tkC])
        refine tkH (i := 24) (d := some 28) (v := ?_) (hy := Or.inl ⟨by rfl, ?_⟩) (h := ?_)
        rotate_left
        · (intro w hSw; (try dsimp only at hSw); go_simp; (try with_reducible rfl))
        (try simp only [Act.put, tkA, tkB, tkC])
        refine tkH (i := 25) (d := some 29) (v := ?_) (hy := Or.inl ⟨by rfl, ?_⟩) (h := ?_)
        rotate_left
        · (intro w hSw; (try dsimp only at hSw); go_simp; (try with_reducible rfl))
        (try simp only [Act.put, tkA, tkB, tkC])
        refine wpAnyH_ready (rs := [26]) (by kernel_rfl) (by simp) ?_
        refine AllReadyH.cons (i := 26) rfl (fun K hK => ?_) AllReadyH.nil
        go_simp
        go_at_call 119
        refine (runsOf_any X.f X.F A n cap s.runs i _ X.base (hHeld.2.2.2.2.2.2.2) (hAH.out.runs.below (Below.refl _ _).drew) hn hgoH.out).mono ?_
        rintro e w4 ⟨A4, k4, c4, rfl, hk4, _, hb4⟩
        have hHeld := keep8 hb4 hHeld
        have hbw4 : Below W.heap.size W w4 := (Below.refl _ _).drew.trans hb4
        clear hb4
        have hbw4H := Lib.hid hbw4
        clear hbw4
        refine hK.out _ _ hHeld (fun hHeld => ?_)
        clear hK K
        (try simp only [Act.put, List.setIfInBounds_toArray, List.set_cons_zero, List.set_cons_succ])
        have hk5 : ((k4 : Int) == 0) = false := by have := hg0H.out; rw [← hk4] at this; simpa using this
        clear hk4
        refine tkH (i := 27) (d := some 31) (v := ?_) (hy := Or.inl ⟨by rfl, ?_⟩) (h := ?_)
        rotate_left
        · (intro w hSw; (try dsimp only at hSw); go_simp; (try with_reducible rfl))
        (try simp only [Act.put, tkA, tkB, tkC])
        refine tkH (i := 28) (d := some 32) (v := ?_) (hy := Or.inl ⟨by rfl, ?_⟩) (h := ?_)
        rotate_left
        · (intro w hSw; (try dsimp only at hSw); go_simp; (try with_reducible rfl))
        (try simp only [Act.put, tkA, tkB, tkC])
        refine tkH (i := 29) (d := some 33) (v := ?_) (hy := Or.inl ⟨by rfl, ?_⟩) (h := ?_)
        rotate_left
        · (intro w hSw; (try dsimp only at hSw); go_simp; (try with_reducible rfl))
        (try simp only [Act.put, tkA, tkB, tkC])
        refine tkH (i := 30) (d := some 34) (v := ?_) (hy := Or.inl ⟨by rfl, ?_⟩) (h := ?_)
        rotate_left
        · (intro w hSw; (try dsimp only at hSw); go_simp; (try with_reducible rfl))
        (try simp only [Act.put, tkA, tkB, tkC])
        refine skH (i := 31) (d := some 35) ?_
        (try simp only [Act.put, tkA, tkB, tkC])
        refine skH (i := 32) (d := some 36) ?_
        (try simp only [Act.put, tkA, tkB, tkC])
        refine skH (i := 33) (d := some 37) ?_
        (try simp only [Act.put, tkA, tkB, tkC])
        refine skH (i := 34) (d := some 38) ?_
        (try simp only [Act.put, tkA, tkB, tkC])
        refine skH (i := 35) (d := some 39) ?_
        (try simp only [Act.put, tkA, tkB, tkC])
        refine skH (i := 36) (d := some 40) ?_
        (try simp only [Act.put, tkA, tkB, tkC])
        refine skH (i := 37) (d := some 41) ?_
        (try simp only [Act.put, tkA, tkB, tkC])
        refine skH (i := 38) (d := some 42) ?_
        (try simp only [Act.put, tkA, tkB, tkC])
        refine skH (i := 39) (d := some 43) ?_
        (try simp only [Act.put, tkA, tkB, tkC])
        refine skH (i := 40) (d := some 44) ?_
        (try simp only [Act.put, tkA, tkB, tkC])
        refine skH (i := 41) (d := some 45) ?_
        (try simp only [Act.put, tkA, tkB, tkC])
        refine tkH (i := 42) (d := some 46) (v := ?_) (hy := Or.inl ⟨by rfl, ?_⟩) (h := ?_)
        rotate_left
        · (intro w hSw; (try dsimp only at hSw); go_simp; (try with_reducible rfl))
        (try simp only [Act.put, tkA, tkB, tkC])
        refine tkH (i := 43) (d := some 3) (v := ?_) (hy := Or.inl ⟨by rfl, ?_⟩) (h := ?_)
        rotate_left
        · (intro w hSw; (try dsimp only at hSw); go_simp; (try with_reducible rfl))
        (try simp only [Act.put, tkA, tkB, tkC])
        refine wpAnyH_done (by kernel_rfl) ?_ _
        clear hHeld hH0
        go_wp2
        go_ret
        exact ⟨by simp, hbw4H.out⟩
    · have ht' : decide (ls < X.x.tries) = false := by simpa using ht
      have R : ∀ q, Below W.heap.size W (W.drewN q) := fun q => bel_drewN (Below.refl _ _) q
      clear hgl
      have RH := Lib.hid R
      clear R
      go_enter Tryz.func118, Tryz.ntmps118
      go_wp2_with fail
      refine wp_region_held_drew (S := fun w' : World => w'.cell? ⟨pb, 0, none⟩ = some (.pointer (some ⟨X.f, 0, none⟩)) ∧ w'.cell? ⟨X.f, 9, none⟩ = some (.slice (some ⟨X.db, 0, none⟩) X.x.works.n X.x.works.n) ∧ w'.cell? ⟨X.db, i, none⟩ = some (.bool false) ∧ w'.cell? ⟨X.f, 10, none⟩ = some (.slice (some ⟨X.lb, 0, none⟩) X.x.works.n X.x.works.n) ∧ w'.cell? ⟨X.lb, i, none⟩ = some (.int .i64 ls) ∧ w'.cell? ⟨X.f, 3, none⟩ = some (.int .i64 X.x.tries) ∧ w'.cell? ⟨X.f, 1, none⟩ = some (.slice X.x.works.A X.x.works.n X.x.works.cap) ∧ w'.cell? ⟨X.f, 8, none⟩ = some (.slice A n cap)) (by kernel_rfl) hH0 (fun hHeld => ?_)
      refine tkH (i := 0) (d := some 4) (v := ?_) (hy := Or.inl ⟨by rfl, ?_⟩) (h := ?_)
      rotate_left
      · (intro w hSw; (try dsimp only at hSw); go_simp; (try with_reducible rfl))
      (try simp only [Act.put, tkA, tkB, tkC])
      refine tkH (i := 1) (d := some 5) (v := ?_) (hy := Or.inl ⟨by rfl, ?_⟩) (h := ?_)
      rotate_left
      · (intro w hSw; (try dsimp only at hSw); go_simp; (try with_reducible rfl))
      (try simp only [Act.put, tkA, tkB, tkC])
      refine tkH (i := 2) (d := some 6) (v := ?_) (hy := Or.inl ⟨by rfl, ?_⟩) (h := ?_)
      rotate_left
      · (intro w hSw; (try dsimp only at hSw); go_simp; (try with_reducible rfl))
      (try simp only [Act.put, tkA, tkB, tkC])
      refine tkH (i := 3) (d := some 7) (v := ?_) (hy := Or.inl ⟨by rfl, ?_⟩) (h := ?_)
      rotate_left
      · (intro w hSw; (try dsimp only at hSw); go_simp; (try with_reducible rfl))
      (try simp only [Act.put, tkA, tkB, tkC])
      refine tkH (i := 4) (d := some 8) (v := ?_) (hy := Or.inl ⟨by rfl, ?_⟩) (h := ?_)
      rotate_left
      · (intro w hSw; (try dsimp only at hSw); go_simp; (try with_reducible rfl))
      (try simp only [Act.put, tkA, tkB, tkC])
      refine tkH (i := 5) (d := some 9) (v := ?_) (hy := Or.inl ⟨by rfl, ?_⟩) (h := ?_)
      rotate_left
      · (intro w hSw; (try dsimp only at hSw); go_simp; (try with_reducible rfl))
      (try simp only [Act.put, tkA, tkB, tkC])
      refine tkH (i := 6) (d := some 10) (v := ?_) (hy := Or.inl ⟨by rfl, ?_⟩) (h := ?_)
      rotate_left
      · (intro w hSw; (try dsimp only at hSw); go_simp; (try with_reducible rfl))
      (try simp only [Act.put, tkA, tkB, tkC])
      refine tkH (i := 7) (d := some 11) (v := ?_) (hy := Or.inl ⟨by rfl, ?_⟩) (h := ?_)
      rotate_left
      · (intro w hSw; (try dsimp only at hSw); go_simp; (try with_reducible rfl))
      (try simp only [Act.put, tkA, tkB, tkC])
      refine tkH (i := 8) (d := some 12) (v := ?_) (hy := Or.inl ⟨by rfl, ?_⟩) (h := ?_)
      rotate_left
      · (intro w hSw; (try dsimp only at hSw); go_simp; (try with_reducible rfl))
      (try simp only [Act.put, tkA, tkB, tkC])
      refine tkH (i := 9) (d := some 13) (v := ?_) (hy := Or.inl ⟨by rfl, ?_⟩) (h := ?_)
      rotate_left
      · (intro w hSw; (try dsimp only at hSw); go_simp; (try with_reducible rfl))
      (try simp only [Act.put, tkA, tkB, tkC])
      refine tkH (i := 10) (d := some 14) (v := ?_) (hy := Or.inl ⟨by rfl, ?_⟩) (h := ?_)
      rotate_left
      · (intro w hSw; (try dsimp only at hSw); go_simp; (try with_reducible rfl))
      (try simp only [Act.put, tkA, tkB, tkC])
      refine tkH (i := 11) (d := some 15) (v := ?_) (hy := Or.inl ⟨by rfl, ?_⟩) (h := ?_)
      rotate_left
      · (intro w hSw; (try dsimp only at hSw); go_simp; (try with_reducible rfl))
      (try simp only [Act.put, tkA, tkB, tkC])
      refine tkH (i := 12) (d := some 16) (v := ?_) (hy := Or.inl ⟨by rfl, ?_⟩) (h := ?_)
      rotate_left
      · (intro w hSw; (try dsimp only at hSw); go_simp; (try with_reducible rfl))
      (try simp only [Act.put, tkA, tkB, tkC])
      refine tkH (i := 13) (d := some 17) (v := ?_) (hy := Or.inl ⟨by rfl, ?_⟩) (h := ?_)
      rotate_left
      · (intro w hSw; (try dsimp only at hSw); go_simp; (try with_reducible rfl))
      (try simp only [Act.put, tkA, tkB, tkC])
      refine tkH (i := 14) (d := some 18) (v := ?_) (hy := Or.inl ⟨by rfl, ?_⟩) (h := ?_)
      rotate_left
      · (intro w hSw; (try dsimp only at hSw); go_simp; (try with_reducible rfl))
      (try simp only [Act.put, tkA, tkB, tkC])
      refine tkH (i := 15) (d := some 19) (v := ?_) (hy := Or.inl ⟨by rfl, ?_⟩) (h := ?_)
      rotate_left
      · (intro w hSw; (try dsimp only at hSw); go_simp; (try with_reducible rfl))
      (try simp only [Act.put, tkA, tkB, tkC])
      refine tkH (i := 16) (d := some 20) (v := ?_) (hy := Or.inl ⟨by rfl, ?_⟩) (h := ?_)
      rotate_left
      · (intro w hSw; (try dsimp only at hSw); go_simp; (try with_reducible rfl))
      (try simp only [Act.put, tkA, tkB, tkC])
      refine tkH (i := 17) (d := some 21) (v := ?_) (hy := Or.inl ⟨by rfl, ?_⟩) (h := ?_)
      rotate_left
      · (intro w hSw; (try dsimp only at hSw); go_simp; (try with_reducible rfl))
      (try simp only [Act.put, tkA, tkB, tkC])
      refine tkH (i := 18) (d := some 22) (v := ?_) (hy := Or.inl ⟨by rfl, ?_⟩) (h := ?_)
      rotate_left
      · (intro w hSw; (try dsimp only at hSw); go_simp; (try with_reducible rfl))
      (try simp only [Act.put, tkA, tkB, tkC])
      refine tkH (i := 19) (d := some 23) (v := ?_) (hy := Or.inl ⟨by rfl, ?_⟩) (h := ?_)
      rotate_left
      · (intro w hSw; (try dsimp only at hSw); go_simp; (try with_reducible rfl))
      (try simp only [Act.put, tkA, tkB, tkC])
      refine tkH (i := 20) (d := some 24) (v := ?_) (hy := Or.inl ⟨by rfl, ?_⟩) (h := ?_)
      rotate_left
      · (intro w hSw; (try dsimp only at hSw); go_simp; (try with_reducible rfl))
      (try simp only [Act.put, tkA, tkB, tkC])
      refine tkH (i := 21) (d := some 25) (v := ?_) (hy := Or.inl ⟨by rfl, ?_⟩) (h := ?_)
      rotate_left
      · (intro w hSw; (try dsimp only at hSw); go_simp; (try with_reducible rfl))
      (try simp only [Act.put, tkA, tkB, tkC])
      refine tkH (i := 22) (d := some 26) (v := ?_) (hy := Or.inl ⟨by rfl, ?_⟩) (h := ?_)
      rotate_left
      · (intro w hSw; (try dsimp only at hSw); go_simp; (try with_reducible rfl))
      (try simp only [Act.put, tkA, tkB, tkC])
      refine tkH (i := 23) (d := some 27) (v := ?_) (hy := Or.inl ⟨by rfl, ?_⟩) (h := ?_)
      rotate_left
      · (intro w hSw; (try dsimp only at hSw); go_simp; (try with_reducible rfl))
      (try simp only [Act.put, tkA, tkB, tkC])
      refine skH (i := 24) (d := some 28) ?_
      (try simp only [Act.put, tkA, tkB, tkC])
      refine skH (i := 25) (d := some 29) ?_
      (try simp only [Act.put, tkA, tkB, tkC])
      refine skH (i := 26) (d := some 30) ?_
      (try simp only [Act.put, tkA, tkB, tkC])
      refine skH (i := 27) (d := some 31) ?_
      (try simp only [Act.put, tkA, tkB, tkC])
      refine skH (i := 28) (d := some 32) ?_
      (try simp only [Act.put, tkA, tkB, tkC])
      refine tkH (i := 29) (d := some 33) (v := ?_) (hy := Or.inl ⟨by rfl, ?_⟩) (h := ?_)
      rotate_left
      · (intro w hSw; (try dsimp only at hSw); go_simp; (try with_reducible rfl))
      (try simp only [Act.put, tkA, tkB, tkC])
      refine tkH (i := 30) (d := some 34) (v := ?_) (hy := Or.inl ⟨by rfl, ?_⟩) (h := ?_)
      rotate_left
      · (intro w hSw; (try dsimp only at hSw); go_simp; (try with_reducible rfl))
      (try simp only [Act.put, tkA, tkB, tkC])
      refine skH (i := 31) (d := some 35) ?_
      (try simp only [Act.put, tkA, tkB, tkC])
      refine skH (i := 32) (d := some 36) ?_
      (try simp only [Act.put, tkA, tkB, tkC])
      refine skH (i := 33) (d := some 37) ?_
      (try simp only [Act.put, tkA, tkB, tkC])
      refine skH (i := 34) (d := some 38) ?_
      (try simp only [Act.put, tkA, tkB, tkC])
      refine skH (i := 35) (d := some 39) ?_
      (try simp only [Act.put, tkA, tkB, tkC])
      refine skH (i := 36) (d := some 40) ?_
      (try simp only [Act.put, tkA, tkB, tkC])
      refine skH (i := 37) (d := some 41) ?_
      (try simp only [Act.put, tkA, tkB, tkC])
      refine skH (i := 38) (d := some 42) ?_
      (try simp only [Act.put, tkA, tkB, tkC])
      refine skH (i := 39) (d := some 43) ?_
      (try simp only [Act.put, tkA, tkB, tkC])
      refine skH (i := 40) (d := some 44) ?_
      (try simp only [Act.put, tkA, tkB, tkC])
      refine skH (i := 41) (d := some 45) ?_
      (try simp only [Act.put, tkA, tkB, tkC])
      refine tkH (i := 42) (d := some 46) (v := ?_) (hy := Or.inl ⟨by rfl, ?_⟩) (h := ?_)
      rotate_left
      · (intro w hSw; (try dsimp only at hSw); go_simp; (try with_reducible rfl))
      (try simp only [Act.put, tkA, tkB, tkC])
      refine tkH (i := 43) (d := some 3) (v := ?_) (hy := Or.inl ⟨by rfl, ?_⟩) (h := ?_)
      rotate_left
      · (intro w hSw; (try dsimp only at hSw); go_simp; (try with_reducible rfl))
      (try simp only [Act.put, tkA, tkB, tkC])
      refine wpAnyH_done (by kernel_rfl) ?_ _
      clear hHeld hH0
      go_wp2
      go_ret
      exact ⟨by simp; intro h; omega, RH.out 1⟩
  · have R : ∀ q, Below W.heap.size W (W.drewN q) := fun q => bel_drewN (Below.refl _ _) q
    clear hgl
    have RH := Lib.hid R
    clear R
    go_enter Tryz.func118, Tryz.ntmps118
    go_wp2_with fail
    refine wp_region_held_drew (S := fun w' : World => w'.cell? ⟨pb, 0, none⟩ = some (.pointer (some ⟨X.f, 0, none⟩)) ∧ w'.cell? ⟨X.f, 9, none⟩ = some (.slice (some ⟨X.db, 0, none⟩) X.x.works.n X.x.works.n) ∧ w'.cell? ⟨X.db, i, none⟩ = some (.bool true) ∧ w'.cell? ⟨X.f, 10, none⟩ = some (.slice (some ⟨X.lb, 0, none⟩) X.x.works.n X.x.works.n) ∧ w'.cell? ⟨X.lb, i, none⟩ = some (.int .i64 ls) ∧ w'.cell? ⟨X.f, 3, none⟩ = some (.int .i64 X.x.tries) ∧ w'.cell? ⟨X.f, 1, none⟩ = some (.slice X.x.works.A X.x.works.n X.x.works.cap) ∧ w'.cell? ⟨X.f, 8, none⟩ = some (.slice A n cap)) (by kernel_rfl) hH0 (fun hHeld => ?_)
    refine tkH (i := 0) (d := some 4) (v := ?_) (hy := Or.inl ⟨by rfl, ?_⟩) (h := ?_)
    rotate_left
    · (intro w hSw; (try dsimp only at hSw); go_simp; (try with_reducible rfl))
    (try simp only [Act.put, tkA, tkB, tkC])
    refine tkH (i := 1) (d := some 5) (v := ?_) (hy := Or.inl ⟨by rfl, ?_⟩) (h := ?_)
    rotate_left
    · (intro w hSw; (try dsimp only at hSw); go_simp; (try with_reducible rfl))
    (try simp only [Act.put, tkA, tkB, tkC])
    refine tkH (i := 2) (d := some 6) (v := ?_) (hy := Or.inl ⟨by rfl, ?_⟩) (h := ?_)
    rotate_left
    · (intro w hSw; (try dsimp only at hSw); go_simp; (try with_reducible rfl))
    (try simp only [Act.put, tkA, tkB, tkC])
    refine tkH (i := 3) (d := some 7) (v := ?_) (hy := Or.inl ⟨by rfl, ?_⟩) (h := ?_)
    rotate_left
    · (intro w hSw; (try dsimp only at hSw); go_simp; (try with_reducible rfl))
    (try simp only [Act.put, tkA, tkB, tkC])
    refine tkH (i := 4) (d := some 8) (v := ?_) (hy := Or.inl ⟨by rfl, ?_⟩) (h := ?_)
    rotate_left
    · (intro w hSw; (try dsimp only at hSw); go_simp; (try with_reducible rfl))
    (try simp only [Act.put, tkA, tkB, tkC])
    refine tkH (i := 5) (d := some 9) (v := ?_) (hy := Or.inl ⟨by rfl, ?_⟩) (h := ?_)
    rotate_left
    · (intro w hSw; (try dsimp only at hSw); go_simp; (try with_reducible rfl))
    (try simp only [Act.put, tkA, tkB, tkC])
    refine tkH (i := 6) (d := some 10) (v := ?_) (hy := Or.inl ⟨by rfl, ?_⟩) (h := ?_)
    rotate_left
    · (intro w hSw; (try dsimp only at hSw); go_simp; (try with_reducible rfl))
    (try simp only [Act.put, tkA, tkB, tkC])
    refine tkH (i := 7) (d := some 11) (v := ?_) (hy := Or.inl ⟨by rfl, ?_⟩) (h := ?_)
    rotate_left
    · (intro w hSw; (try dsimp only at hSw); go_simp; (try with_reducible rfl))
    (try simp only [Act.put, tkA, tkB, tkC])
    refine tkH (i := 8) (d := some 12) (v := ?_) (hy := Or.inl ⟨by rfl, ?_⟩) (h := ?_)
    rotate_left
    · (intro w hSw; (try dsimp only at hSw); go_simp; (try with_reducible rfl))
    (try simp only [Act.put, tkA, tkB, tkC])
    refine skH (i := 9) (d := some 13) ?_
    (try simp only [Act.put, tkA, tkB, tkC])
    refine skH (i := 10) (d := some 14) ?_
    (try simp only [Act.put, tkA, tkB, tkC])
    refine skH (i := 11) (d := some 15) ?_
    (try simp only [Act.put, tkA, tkB, tkC])
    refine skH (i := 12) (d := some 16) ?_
    (try simp only [Act.put, tkA, tkB, tkC])
    refine skH (i := 13) (d := some 17) ?_
    (try simp only [Act.put, tkA, tkB, tkC])
    refine skH (i := 14) (d := some 18) ?_
    (try simp only [Act.put, tkA, tkB, tkC])
    refine skH (i := 15) (d := some 19) ?_
    (try simp only [Act.put, tkA, tkB, tkC])
    refine skH (i := 16) (d := some 20) ?_
    (try simp only [Act.put, tkA, tkB, tkC])
    refine skH (i := 17) (d := some 21) ?_
    (try simp only [Act.put, tkA, tkB, tkC])
    refine skH (i := 18) (d := some 22) ?_
    (try simp only [Act.put, tkA, tkB, tkC])
    refine skH (i := 19) (d := some 23) ?_
    (try simp only [Act.put, tkA, tkB, tkC])
    refine skH (i := 20) (d := some 24) ?_
    (try simp only [Act.put, tkA, tkB, tkC])
    refine skH (i := 21) (d := some 25) ?_
    (try simp only [Act.put, tkA, tkB, tkC])
    refine tkH (i := 22) (d := some 26) (v := ?_) (hy := Or.inl ⟨by rfl, ?_⟩) (h := ?_)
    rotate_left
    · (intro w hSw; (try dsimp only at hSw); go_simp; (try with_reducible rfl))
    (try simp only [Act.put, tkA, tkB, tkC])
    refine tkH (i := 23) (d := some 27) (v := ?_) (hy := Or.inl ⟨by rfl, ?_⟩) (h := ?_)
    rotate_left
    · (intro w hSw; (try dsimp only at hSw); go_simp; (try with_reducible rfl))
    (try simp only [Act.put, tkA, tkB, tkC])
    refine skH (i := 24) (d := some 28) ?_
    (try simp only [Act.put, tkA, tkB, tkC])
    refine skH (i := 25) (d := some 29) ?_
    (try simp only [Act.put, tkA, tkB, tkC])
    refine skH (i := 26) (d := some 30) ?_
    (try simp only [Act.put, tkA, tkB, tkC])
    refine skH (i := 27) (d := some 31) ?_
    (try simp only [Act.put, tkA, tkB, tkC])
    refine skH (i := 28) (d := some 32) ?_
    (try simp only [Act.put, tkA, tkB, tkC])
    refine tkH (i := 29) (d := some 33) (v := ?_) (hy := Or.inl ⟨by rfl, ?_⟩) (h := ?_)
    rotate_left
    · (intro w hSw; (try dsimp only at hSw); go_simp; (try with_reducible rfl))
    (try simp only [Act.put, tkA, tkB, tkC])
    refine tkH (i := 30) (d := some 34) (v := ?_) (hy := Or.inl ⟨by rfl, ?_⟩) (h := ?_)
    rotate_left
    · (intro w hSw; (try dsimp only at hSw); go_simp; (try with_reducible rfl))
    (try simp only [Act.put, tkA, tkB, tkC])
    refine skH (i := 31) (d := some 35) ?_
    (try simp only [Act.put, tkA, tkB, tkC])
    refine skH (i := 32) (d := some 36) ?_
    (try simp only [Act.put, tkA, tkB, tkC])
    refine skH (i := 33) (d := some 37) ?_
    (try simp only [Act.put, tkA, tkB, tkC])
    refine skH (i := 34) (d := some 38) ?_
    (try simp only [Act.put, tkA, tkB, tkC])
    refine skH (i := 35) (d := some 39) ?_
    (try simp only [Act.put, tkA, tkB, tkC])
    refine skH (i := 36) (d := some 40) ?_
    (try simp only [Act.put, tkA, tkB, tkC])
    refine skH (i := 37) (d := some 41) ?_
    (try simp only [Act.put, tkA, tkB, tkC])
    refine skH (i := 38) (d := some 42) ?_
    (try simp only [Act.put, tkA, tkB, tkC])
    refine skH (i := 39) (d := some 43) ?_
    (try simp only [Act.put, tkA, tkB, tkC])
    refine skH (i := 40) (d := some 44) ?_
    (try simp only [Act.put, tkA, tkB, tkC])
    refine skH (i := 41) (d := some 45) ?_
    (try simp only [Act.put, tkA, tkB, tkC])
    refine tkH (i := 42) (d := some 46) (v := ?_) (hy := Or.inl ⟨by rfl, ?_⟩) (h := ?_)
    rotate_left
    · (intro w hSw; (try dsimp only at hSw); go_simp; (try with_reducible rfl))
    (try simp only [Act.put, tkA, tkB, tkC])
    refine tkH (i := 43) (d := some 3) (v := ?_) (hy := Or.inl ⟨by rfl, ?_⟩) (h := ?_)
    rotate_left
    · (intro w hSw; (try dsimp only at hSw); go_simp; (try with_reducible rfl))
    (try simp only [Act.put, tkA, tkB, tkC])
    refine wpAnyH_done (by kernel_rfl) ?_ _
    clear hHeld hH0
    go_wp2
    go_ret
    exact ⟨by simp, RH.out 1⟩
end Go.Proofs.YtbnkoefljcekbaaGreatDoor.C9

namespace Go.Proofs.YtbnkoefljcekbaaGreatDoor.C9
open Go.ChangeShapes Go.WideShapes Go.Deep Go.RowKit
set_option linter.unusedVariables false
set_option linter.unusedSimpArgs false

def FsNew (p : Nat → Bool) (S : List Int) (CB N : Nat) (w : World) (e : Ending) (w' : World) : Prop :=
  ∃ (A' : Option Addr) (n' c' : Nat) (M : List Int), e = .returned (.slice A' n' c') ∧ n' ≤ N ∧ SlAt RInt w' A' n' M ∧ SortedBy (fI (CrBox S CB N w)) M ∧ SameCls (fI (CrBox S CB N w)) M (nz (upN p N)) ∧ Below w.heap.size w w' ∧ ∀ a, A' = some a → w.heap.size ≤ a.block

set_option maxRecDepth 100000 in
set_option maxHeartbeats 4000000 in
theorem first_new (g : Nat) (lb : Array Value) (eg : ∀ args w, (callFunc g args).run Tryz.prog w = .ok (.enter g args) w) (p : Nat → Bool) (A : Option Addr) (N c CB : Nat) (l : List Work) (S : List Int) (w : World) (hN : N ≤ 1000)
    (hl : SlAt RWork w A N l) (hS : Sms w CB N S) (hCB : CB < w.heap.size) (hp : PredN g lb p N w) :
    Calls Tryz.prog 117 #[.slice A N c, .slice (some ⟨CB, 0, none⟩) N N, .func (.func g) #[] lb] w (FsNew p S CB N w) := by
  have hst : FsR p S CB N w (.slice none 0 0) (.int .i64 0) (w.alloc (.cells #[.slice (some ⟨CB, 0, none⟩) N N] 56)) := by
    have hba : Below w.heap.size w (w.alloc (.cells #[.slice (some ⟨CB, 0, none⟩) N N] 56)) := (Below.refl _ _).alloc (Nat.le_refl _) _
    refine ⟨0, none, 0, 0, Nat.zero_le _, rfl, rfl, Own.nil _ _, hba, ⟨?_, fun j x hj => ?_⟩, by simp⟩
    · have := (Boxed.new w 56 (.slice (some ⟨CB, 0, none⟩) N N)).cell
      show _ = some (Value.slice (some ⟨CB, 0, none⟩) S.length N)
      rw [hS.len]; exact this
    · exact (hba.cell (p := ⟨CB, j, none⟩) hCB).trans (hS.cells j x hj).1
  have hlH := Lib.hid hl
  clear hl
  have hSH := Lib.hid hS
  clear hS
  have hpH := Lib.hid hp
  clear hp
  have hstH := Lib.hid hst
  clear hst
  go_enter Tryz.func117, Tryz.ntmps117
  go_wp2_with fail
  go_loopw [7, 11] (fun v i wr => FsR p S CB N w v i wr) (fun _ i _ => N - (intOf i).toNat)
  case atStart => exact hstH.out
  case round =>
    clear hstH
    obtain ⟨k, A1, n1, c1, hk, rfl, rfl, hown, hb, hcr, hsz⟩ := hrel
    have hnl := hown.len
    rw [nz_len] at hnl
    have hul := upN_len p k
    by_cases hlt : k < N
    · have hcall := hpH.out wr k hlt hb
      have hus := upN_succ p k
      cases hq : p k
      · rw [hq] at hcall hus
        rw [if_neg (by simp)] at hus
        have R : ∀ w', Below wr.heap.size wr w' → FsR p S CB N w (.slice A1 n1 c1) (.int .i64 ((k : Int) + 1)) w' := fun w' h =>
          ⟨k + 1, A1, n1, c1, hlt, by go_num, rfl, by rw [hus]; exact hown.below h, hb.trans (h.mono hb.size), hcr.below h, Nat.le_trans hsz h.size⟩
        clear hus hnl hul
        have hownH := Lib.hid hown
        clear hown
        have hbH := Lib.hid hb
        clear hb
        have hcrH := Lib.hid hcr
        clear hcr
        have hqH := Lib.hid hq
        clear hq
        have hcallH := Lib.hid hcall
        clear hcall
        have RH := Lib.hid R
        clear R
        go_wp2_with (go_at_fn g; refine hcallH.out.mono ?_; rintro e w' ⟨rfl, hb'⟩; have hb'H := Lib.hid hb'; clear hb')
        refine ⟨?rel, ?measure⟩
        case measure => (simp [intOf]; omega)
        case rel => first | exact (RH.out _ hb'H.out) | exact ⟨rfl, (RH.out _ hb'H.out)⟩ | ((try refine ⟨rfl, ?_⟩); (repeat apply Exists.intro); refine ⟨(RH.out _ hb'H.out), ?_⟩; ((repeat' apply And.intro) <;> rfl))
      · rw [hq] at hcall hus
        rw [if_pos rfl] at hus
        have hownH := Lib.hid hown
        clear hown
        have hbH := Lib.hid hb
        clear hb
        have hcrH := Lib.hid hcr
        clear hcr
        have hqH := Lib.hid hq
        clear hq
        have hcallH := Lib.hid hcall
        clear hcall
        have husH := Lib.hid hus
        clear hus
        go_wp2_with fail
        go_at_fn g
        refine hcallH.out.mono ?_
        rintro e w5 ⟨rfl, hb5⟩
        have hown5 := hownH.out.below hb5
        have hcr5 := hcrH.out.below hb5
        have hbw5 := hbH.out.trans (hb5.mono hbH.out.size)
        have hs5 : w.heap.size + 1 ≤ w5.heap.size := Nat.le_trans hsz hb5.size
        have hI : I64 (k : Int) := by unfold I64; omega
        have hnew : SlAt RInt (w5.alloc (.cells #[.int .i64 k] 3)) (some ⟨w5.heap.size, 0, none⟩) 1 [(k : Int)] := slAt_new (R := RInt) w5 3 (k : Int) hI
        have hown7 := hown5.alloc (.cells #[.int .i64 k] 3)
        have hba : Below w5.heap.size w5 (w5.alloc (.cells #[.int .i64 k] 3)) := (Below.refl _ _).alloc (Nat.le_refl _) _
        have hcr7 := hcr5.below hba
        have hb7 := hbw5.alloc hbw5.size (.cells #[.int .i64 k] 3)
        clear hown5 hcr5 hb5 hba
        have hown7H := Lib.hid hown7
        clear hown7
        have hcr7H := Lib.hid hcr7
        clear hcr7
        have hb7H := Lib.hid hb7
        clear hb7
        have hnewH := Lib.hid hnew
        clear hnew
        have hbw5H := Lib.hid hbw5
        clear hbw5
        go_wp2_with (at_builtin; go_loud (refine wpList_app rfl (.tmp 17) (.tmp 19) 56 rfl Tryz.underlying56 elem_IntQ (by decide) rfl hown7H.out (some ⟨w5.heap.size, 0, none⟩) 1 1 [(k : Int)] rfl hnewH.out ?nn ?ok ?c1 ?c2 ?c3 (n1 + 1) ?c4 ?_))
        case nn => intro h; cases h
        case ok => exact fun _ _ _ _ h => h
        case c1 => rw [nz_len]; simp [maxLen] <;> omega
        case c2 => rw [nz_len]; omega
        case c3 => simp <;> omega
        case c4 => rw [nz_len]; omega
        intro A' c' w8 hown8 hg8 hat8 hb8
        have R : FsR p S CB N w (.slice A' (n1 + 1) c') (.int .i64 ((k : Int) + 1)) w8 := by
          have hlt8 := hcr7H.out
          refine ⟨k + 1, A', n1 + 1, c', hlt, by go_num, rfl, by rw [husH.out, nz_snoc]; exact hown8, hb7H.out.trans (hb8.mono (by omega)), ⟨?_, fun j x hj => ?_⟩, ?_⟩
          · exact (hb8.cell (p := ⟨w.heap.size, 0, none⟩) (by show w.heap.size < _; omega)).trans hlt8.hd
          · exact (hb8.cell (p := ⟨CB, j, none⟩) (by show CB < _; omega)).trans (hlt8.at_ j x hj)
          · have := hg8.size
            simp at this; omega
        clear hg8 hat8 hb8 hown8
        have RH := Lib.hid R
        clear R
        go_wp2
        refine ⟨?rel, ?measure⟩
        case measure => (simp [intOf]; omega)
        case rel => first | exact RH.out | exact ⟨rfl, RH.out⟩ | ((try refine ⟨rfl, ?_⟩); (repeat apply Exists.intro); refine ⟨RH.out, ?_⟩; ((repeat' apply And.intro) <;> rfl))
    · obtain rfl : k = N := by omega
      rcases hown.1.2 with ⟨h1, h2⟩ | ⟨g1, cap1, cur, h1, h2, h3, h4, h5, h6, h7⟩
      · have hn0 : nz (upN p k) = [] := List.eq_nil_of_length_eq_zero h2
        simp only [Value.slice.injEq] at h1
        obtain ⟨rfl, rfl, rfl⟩ := h1
        have hsn := fun w2 => stable_nil (CrBox S CB k w) w2
        have R : ∀ nq, FsNew p S CB k w (.returned (.slice none 0 0)) (wr.drewN nq) := fun nq =>
          ⟨none, 0, 0, [], rfl, Nat.zero_le _, (Own.nil (R := RInt) (e := 3) _ 0).slAt, List.Pairwise.nil, by rw [hn0]; exact SameCls.refl _, bel_drewN hb nq, fun a h => by cases h⟩
        unfold gI CrBox at hsn
        clear hn0 h2
        have hownH := Lib.hid hown
        clear hown
        have hcrH := Lib.hid hcr
        clear hcr
        have hbH := Lib.hid hb
        clear hb
        have hsnH := Lib.hid hsn
        clear hsn
        have RH := Lib.hid R
        clear R
        go_wp2_with fail
        refine (hsnH.out _).mono ?_
        rintro e w2 ⟨rfl, rfl⟩
        go_wp2
        go_ret
        exact RH.out 0
      · simp only [Value.slice.injEq] at h1
        obtain ⟨rfl, rfl, rfl⟩ := h1
        have hSl := hSH.out.len
        have hg1 : g1 < wr.heap.size := (hown.1.lt g1 rfl).2
        have hg0 : w.heap.size + 1 ≤ g1 := (hown.1.lt g1 rfl).1
        have hrow : RowI (CrBox S CB k w) wr g1 0 (nz (upN p k)).length (nz (upN p k)) := by
          refine ⟨hown.slAt, fun j => hown.1.frozenAt _, hg1, hcr, fun x hx => ?_, ?_, ?_⟩
          · obtain ⟨q, hq, rfl⟩ := List.mem_map.1 hx
            have := List.mem_range.1 (List.mem_filter.1 hq).1
            refine ⟨by omega, ?_⟩
            show (q : Int) < (S.length : Int)
            omega
          · show g1 ≠ w.heap.size; omega
          · show g1 ≠ CB; omega
        have hsn := stable_any (CrBox S CB k w) g1 0 (nz (upN p k)).length c1 (nz (upN p k)) wr (by omega) hrow
        have R : ∀ w2 M, SortedBy (fI (CrBox S CB k w)) M → SameCls (fI (CrBox S CB k w)) M (nz (upN p k)) → RowI (CrBox S CB k w) w2 g1 0 (nz (upN p k)).length M → Srt g1 wr w2 → FsNew p S CB k w (.returned (.slice (some ⟨g1, 0, none⟩) (nz (upN p k)).length c1)) w2 := fun w2 M q1 q2 q3 q4 =>
          ⟨_, _, _, M, rfl, by rw [nz_len]; exact hul, q3.sl, q1, q2, hb.trans (grown_below q4 (by omega) hb.size), fun a h => by injection h with h; subst h; show w.heap.size ≤ g1; omega⟩
        unfold gI at hsn
        have hpc : (CrBox S CB k w).pc = w.heap.size := rfl
        rw [hpc] at hsn
        clear h2 h3 h4 h5 h6 h7 hrow hpc hul
        obtain ⟨D, hD⟩ : ∃ D, nz (upN p k) = D := ⟨_, rfl⟩
        rw [hD] at hsn R hown ⊢
        have hownH := Lib.hid hown
        clear hown
        have hcrH := Lib.hid hcr
        clear hcr
        have hbH := Lib.hid hb
        clear hb
        have hsnH := Lib.hid hsn
        clear hsn
        have RH := Lib.hid R
        clear R
        have hDH := Lib.hid hD
        clear hD
        have hSlH := Lib.hid hSl
        clear hSl
        go_wp2_with fail
        refine hsnH.out.mono ?_
        rintro e w2 ⟨rfl, M, q1, q2, q3, q4⟩
        have R2 := RH.out w2 M q1 q2 q3 q4
        clear q1 q2 q3 q4
        have R2H := Lib.hid R2
        clear R2
        go_wp2
        go_ret
        exact R2H.out
end Go.Proofs.YtbnkoefljcekbaaGreatDoor.C9

namespace Go.Proofs.YtbnkoefljcekbaaGreatDoor.C9
open Go.ChangeShapes Go.WideShapes Go.Deep Go.RowKit
set_option linter.unusedVariables false
set_option linter.unusedSimpArgs false

/-- the order is the program's, too -/
structure OrdX (X : FX) : Prop where
  so : SortedBy (fR X.S) (nz X.F.order)
  cl : SameCls (fR X.S) (nz X.F.order) (nz (List.range X.N))
theorem nz_fil (o : List Nat) (p : Nat → Bool) : (nz o).filter (fun x => p x.toNat) = nz (o.filter p) := by
  unfold nz
  rw [List.filter_map]
  congr 1
theorem first_is {X : FX} (hO : OrdX X) (p : Nat → Bool) {M : List Int} (h1 : SortedBy (fR X.S) M) (h2 : SameCls (fR X.S) M (nz (upN p X.N))) : M = nz (X.F.order.filter p) := by
  have a := filter_sorted (fun x : Int => p x.toNat) hO.so
  have b := filter_cls (fun x : Int => p x.toNat) hO.cl
  rw [nz_fil] at a b
  rw [nz_fil] at b
  exact sorted_uniq h1 a (h2.trans b.symm)
/-- the state behind so many beginnings -/
def stK (F : FP) (s : PS) (o : List Nat) (k : Nat) : PS :=
  { s with runs := ((o.take k).foldl (fun x i => beginP F s.now i none x) (s.runs, s.begun)).1, begun := ((o.take k).foldl (fun x i => beginP F s.now i none x) (s.runs, s.begun)).2 }
theorem stK_zero (F : FP) (s : PS) (o : List Nat) : stK F s o 0 = s := rfl
theorem stK_succ (F : FP) (s : PS) {o : List Nat} {k i : Nat} (h : o[k]? = some i) : stK F s o (k + 1) = begS F (stK F s o k) i none := by
  unfold stK begS
  rw [List.take_add_one, h, Option.toList_some, List.foldl_append]
  rfl
theorem beginP_len (F : FP) (t : Int) (i : Nat) (bo : Option Nat) (x : List RR × (Nat → Int)) : (beginP F t i bo x).1.length ≤ x.1.length + 1 ∧ ∀ j, x.2 j ≤ (beginP F t i bo x).2 j ∧ (beginP F t i bo x).2 j ≤ x.2 j + 1 := by
  unfold beginP
  split
  · exact ⟨by omega, fun j => ⟨by omega, by omega⟩⟩
  · refine ⟨by simp, fun j => ?_⟩
    simp only
    split <;> omega
theorem stK_b (F : FP) (s : PS) {o : List Nat} : ∀ k, k ≤ o.length → (stK F s o k).runs.length ≤ s.runs.length + k ∧ ∀ j, s.begun j ≤ (stK F s o k).begun j ∧ (stK F s o k).begun j ≤ s.begun j + k
  | 0, _ => ⟨Nat.le_refl _, fun j => ⟨Int.le_refl _, by rw [stK_zero]; simp⟩⟩
  | k + 1, h => by
    obtain ⟨h1, h2⟩ := stK_b F s (o := o) k (by omega)
    obtain ⟨i, hi⟩ : ∃ i, o[k]? = some i := ⟨o[k]'(by omega), List.getElem?_eq_getElem _⟩
    rw [stK_succ F s hi]
    obtain ⟨b1, b2⟩ := beginP_len F s.now i none ((stK F s o k).runs, (stK F s o k).begun)
    refine ⟨?_, fun j => ?_⟩
    · show (beginP F s.now i none ((stK F s o k).runs, (stK F s o k).begun)).1.length ≤ _
      simp only at b1; omega
    · have := b2 j
      have := h2 j
      show s.begun j ≤ (beginP F s.now i none ((stK F s o k).runs, (stK F s o k).begun)).2 j ∧ (beginP F s.now i none ((stK F s o k).runs, (stK F s o k).begun)).2 j ≤ _
      simp only at *
      omega
theorem stK_all (F : FP) (s : PS) : stK F s (F.order.filter fun i => canS F s.done s.lost s.runs i) (F.order.filter fun i => canS F s.done s.lost s.runs i).length = startP F s := by
  unfold stK startP
  rw [List.take_length]
theorem FS.stK {X : FX} {s : PS} {w0 : World} (h : FS X s w0) {o : List Nat} (ho : ∀ i ∈ o, i < X.F.nX) : ∀ k, k ≤ o.length → FS X (Go.Proofs.YtbnkoefljcekbaaGreatDoor.C9.stK X.F s o k) w0
  | 0, _ => h
  | k + 1, hk => by
    obtain ⟨i, hi⟩ : ∃ i, o[k]? = some i := ⟨o[k]'(by omega), List.getElem?_eq_getElem _⟩
    rw [stK_succ X.F s hi]
    exact (FS.stK h ho k (by omega)).beg (ho i (List.mem_of_getElem? hi)) none
def StAns (X : FX) (s' : PS) (ov : Value) (w0 : World) (e : Ending) (w' : World) : Prop := e = .returned (.tuple #[]) ∧ ∃ rv', FA X KLo rv' ov s' w0 w'
def StRel (X : FX) (s : PS) (ov : Value) (o : List Nat) (w0 : World) (pb : Nat) (A2 : Option Addr) (n2 : Nat) (i : Value) (wr : World) : Prop :=
  ∃ (k : Nat) (rv' : Value), k ≤ n2 ∧ i = .int .i64 k ∧ FA X KLo rv' ov (stK X.F s o k) w0 wr ∧ SlAt RInt wr A2 n2 (nz o) ∧ wr.cell? ⟨pb, 0, none⟩ = some (.pointer (some ⟨X.f, 0, none⟩)) ∧ rv'.ownBlock ≠ some pb ∧ ∀ a, A2 = some a → a.block ∉ X.bl ∧ rv'.ownBlock ≠ some a.block
theorem slAt_heap {A : Option Addr} {n : Nat} {l : List Int} {w w' : World} (h : SlAt RInt w A n l) (hk : ∀ a, A = some a → a.block < w.heap.size → w'.heap[a.block]? = w.heap[a.block]?) : SlAt RInt w' A n l := by
  refine ⟨h.1, fun hn => ?_, h.2.2⟩
  obtain ⟨b, off, rfl, hc⟩ := h.2.1 hn
  refine ⟨b, off, rfl, fun i x hx j v hv => ?_⟩
  have := hc i x hx j v hv
  exact (World.cell?_of_block (a := ⟨b, off + i * RInt.size + j, none⟩) (hk ⟨b, off, none⟩ rfl (show b < w.heap.size from cell?_lt this))).trans this
set_option maxRecDepth 100000 in
set_option maxHeartbeats 8000000 in
theorem start_any {X : FX} {rv ov : Value} {s : PS} {w0 w : World} (hA : FA X KLo rv ov s w0 w) (hS : FS X s w0) (hO : OrdX X) (hor : ∀ i ∈ X.F.order, i < X.F.nX) (hlen : s.runs.length ≤ 800000) (hbg : ∀ j, 0 ≤ s.begun j ∧ s.begun j ≤ 800000) :
    Calls Tryz.prog 71 #[.pointer (some ⟨X.f, 0, none⟩)] w (StAns X (startP X.F s) ov w0) := by
  obtain ⟨n1, n2', n3, n4, n5, n6⟩ := hS.nW
  have hba := (Below.refl w.heap.size w).alloc (Nat.le_refl _) (.cells #[.pointer (some ⟨X.f, 0, none⟩)] 54)
  have b0 := Boxed.new w 54 (.pointer (some ⟨X.f, 0, none⟩))
  have hA1 := hA.below hba
  have hnew := hA.new
  have q0 := b0.cell
  obtain ⟨W1, hW1⟩ : ∃ Y, w.alloc (.cells #[.pointer (some ⟨X.f, 0, none⟩)] 54) = Y := ⟨_, rfl⟩
  rw [hW1] at q0 hA1 hba
  have eg : ∀ args w, (callFunc 118 args).run Tryz.prog w = .ok (.enter 118 args) w := enters_of Tryz.func118 (by kernel_rfl) rfl
  obtain ⟨pb, hpb⟩ : ∃ b, w.heap.size = b := ⟨_, rfl⟩
  rw [hpb] at q0 hnew
  have hxs := hS.xs.1.below hA1.core.bel
  obtain ⟨o, ho⟩ : ∃ o, (X.F.order.filter fun i => canS X.F s.done s.lost s.runs i) = o := ⟨_, rfl⟩
  have hoX : ∀ i ∈ o, i < X.F.nX := fun i hi => by rw [← ho] at hi; exact hor i (List.mem_filter.1 hi).1
  have hPr : PredN 118 #[.pointer (some ⟨pb, 0, none⟩)] (canS X.F s.done s.lost s.runs) X.x.works.n W1.drew := fun W k hk hW =>
    st1_any ((hA1.below (Below.refl _ _).drew).below hW) hS (by omega) (by omega) (keepC hW q0)
  have hCB : X.cb < W1.drew.heap.size := hA1.core.lt X.cb hA1.core.memf.2.2.1
  have hfs := first_new 118 #[.pointer (some ⟨pb, 0, none⟩)] eg (canS X.F s.done s.lost s.runs) X.x.works.A X.x.works.n X.x.works.cap X.cb X.x.works.l X.S W1.drew (by omega) (hxs.below (Below.refl _ _).drew) (hA1.core.crit.keep rfl) hCB hPr
  have hH0 : (fun w' : World => w'.cell? ⟨pb, 0, none⟩ = some (.pointer (some ⟨X.f, 0, none⟩)) ∧ w'.cell? ⟨X.f, 1, none⟩ = some (.slice X.x.works.A X.x.works.n X.x.works.cap) ∧ w'.cell? ⟨X.f, 5, none⟩ = some (.slice (some ⟨X.cb, 0, none⟩) X.x.works.n X.x.works.n)) W1 := ⟨q0, (hA1.core.blk 1 _ rfl).1, (hA1.core.blk 5 _ rfl).1⟩
  have hpo : ov.ownBlock ≠ some pb := hnew.2.1
  clear hPr b0 q0
  have hAH := Lib.hid hA
  clear hA
  have hSH := Lib.hid hS
  clear hS
  have hOH := Lib.hid hO
  clear hO
  have horH := Lib.hid hor
  clear hor
  have n1H := Lib.hid n1
  clear n1
  have n2'H := Lib.hid n2'
  clear n2'
  have n3H := Lib.hid n3
  clear n3
  have n4H := Lib.hid n4
  clear n4
  have hbaH := Lib.hid hba
  clear hba
  have hA1H := Lib.hid hA1
  clear hA1
  have hnewH := Lib.hid hnew
  clear hnew
  have hW1H := Lib.hid hW1
  clear hW1
  have hpbH := Lib.hid hpb
  clear hpb
  have hxsH := Lib.hid hxs
  clear hxs
  have hfsH := Lib.hid hfs
  clear hfs
  have hoH := Lib.hid ho
  clear ho
  have hoXH := Lib.hid hoX
  clear hoX
  have hpoH := Lib.hid hpo
  clear hpo
  have hbgH := Lib.hid hbg
  clear hbg
  go_enter Tryz.func71, Tryz.ntmps71
  go_wp2_with fail
  rw [hW1H.out, hpbH.out]
  refine wp_region_held_drew (S := fun w' : World => w'.cell? ⟨pb, 0, none⟩ = some (.pointer (some ⟨X.f, 0, none⟩)) ∧ w'.cell? ⟨X.f, 1, none⟩ = some (.slice X.x.works.A X.x.works.n X.x.works.cap) ∧ w'.cell? ⟨X.f, 5, none⟩ = some (.slice (some ⟨X.cb, 0, none⟩) X.x.works.n X.x.works.n)) (by kernel_rfl) hH0 (fun hHeld => ?_)
  refine tkH (i := 0) (d := some 4) (v := ?_) (hy := Or.inl ⟨by rfl, ?_⟩) (h := ?_)
  rotate_left
  · (intro w hSw; (try dsimp only at hSw); go_simp; (try with_reducible rfl))
  (try simp only [Act.put, tkA, tkB, tkC])
  refine tkH (i := 1) (d := some 5) (v := ?_) (hy := Or.inl ⟨by rfl, ?_⟩) (h := ?_)
  rotate_left
  · (intro w hSw; (try dsimp only at hSw); go_simp; (try with_reducible rfl))
  (try simp only [Act.put, tkA, tkB, tkC])
  refine tkH (i := 2) (d := some 6) (v := ?_) (hy := Or.inl ⟨by rfl, ?_⟩) (h := ?_)
  rotate_left
  · (intro w hSw; (try dsimp only at hSw); go_simp; (try with_reducible rfl))
  (try simp only [Act.put, tkA, tkB, tkC])
  refine tkH (i := 3) (d := some 7) (v := ?_) (hy := Or.inl ⟨by rfl, ?_⟩) (h := ?_)
  rotate_left
  · (intro w hSw; (try dsimp only at hSw); go_simp; (try with_reducible rfl))
  (try simp only [Act.put, tkA, tkB, tkC])
  refine tkH (i := 4) (d := some 8) (v := ?_) (hy := Or.inl ⟨by rfl, ?_⟩) (h := ?_)
  rotate_left
  · (intro w hSw; (try dsimp only at hSw); go_simp; (try with_reducible rfl))
  (try simp only [Act.put, tkA, tkB, tkC])
  refine tkH (i := 5) (d := some 9) (v := ?_) (hy := Or.inl ⟨by rfl, ?_⟩) (h := ?_)
  rotate_left
  · (intro w hSw; (try dsimp only at hSw); go_simp; (try with_reducible rfl))
  (try simp only [Act.put, tkA, tkB, tkC])
  refine tkH (i := 6) (d := some 10) (v := ?_) (hy := Or.inl ⟨by rfl, ?_⟩) (h := ?_)
  rotate_left
  · (intro w hSw; (try dsimp only at hSw); go_simp; (try with_reducible rfl))
  (try simp only [Act.put, tkA, tkB, tkC])
  refine tkH (i := 7) (d := some 11) (v := ?_) (hy := Or.inl ⟨by rfl, ?_⟩) (h := ?_)
  rotate_left
  · (intro w hSw; (try dsimp only at hSw); go_simp; (try with_reducible rfl))
  (try simp only [Act.put, tkA, tkB, tkC])
  refine tkH (i := 8) (d := some 12) (v := ?_) (hy := Or.inl ⟨by rfl, ?_⟩) (h := ?_)
  rotate_left
  · (intro w hSw; (try dsimp only at hSw); go_simp; (try with_reducible rfl))
  (try simp only [Act.put, tkA, tkB, tkC])
  refine tkH (i := 9) (d := some 13) (v := ?_) (hy := Or.inl ⟨by rfl, ?_⟩) (h := ?_)
  rotate_left
  · (intro w hSw; (try dsimp only at hSw); go_simp; (try with_reducible rfl))
  (try simp only [Act.put, tkA, tkB, tkC])
  refine tkH (i := 12) (d := some 16) (v := ?_) (hy := Or.inl ⟨by rfl, ?_⟩) (h := ?_)
  rotate_left
  · (intro w hSw; (try dsimp only at hSw); go_simp; (try with_reducible rfl))
  (try simp only [Act.put, tkA, tkB, tkC])
  refine wpAnyH_ready (rs := [10]) (by kernel_rfl) (by simp) ?_
  refine AllReadyH.cons (i := 10) rfl (fun K hK => ?_) AllReadyH.nil
  go_simp
  go_at_call 117
  refine hfsH.out.mono ?_
  rintro e w2 ⟨A2, n2, c2, M, rfl, hn2, hs2, hq1, hq2, hb2, hnw⟩
  have hHeld2 : w2.cell? ⟨pb, 0, none⟩ = some (.pointer (some ⟨X.f, 0, none⟩)) ∧ w2.cell? ⟨X.f, 1, none⟩ = some (.slice X.x.works.A X.x.works.n X.x.works.cap) ∧ w2.cell? ⟨X.f, 5, none⟩ = some (.slice (some ⟨X.cb, 0, none⟩) X.x.works.n X.x.works.n) := ⟨keepC hb2 hHeld.1, keepC hb2 hHeld.2.1, keepC hb2 hHeld.2.2⟩
  obtain rfl : M = nz o := by rw [← hoH.out]; exact first_is hOH.out _ hq1 hq2
  have hA2 := (hA1H.out.below (Below.refl _ _).drew).below hb2
  have hol : o.length = n2 := by have := hs2.1; rwa [nz_len] at this
  have hz1 : W1.drew.heap.size = W1.heap.size := rfl
  have hst : StRel X s ov o w0 pb A2 n2 (.int .i64 0) w2 := by
    refine ⟨0, rv, Nat.zero_le _, rfl, by rw [stK_zero]; exact hA2, hs2, hHeld2.1, hnewH.out.2.2.1, fun a ha => ?_⟩
    have hge := hnw a ha
    exact ⟨fun hm => by have := hA1H.out.core.lt _ hm; omega, fun e => by have := hA1H.out.own_lt.1 _ e; omega⟩
  clear hs2 hq1 hq2 hb2 hnw hA2 hHeld
  have hstH := Lib.hid hst
  clear hst
  have holH := Lib.hid hol
  clear hol
  refine hK.out _ _ hHeld2 (fun hHeld => ?_)
  clear hK K
  (try simp only [Act.put, List.setIfInBounds_toArray, List.set_cons_zero, List.set_cons_succ])
  refine tkH (i := 11) (d := some 15) (v := ?_) (hy := Or.inl ⟨by rfl, ?_⟩) (h := ?_)
  rotate_left
  · (intro w hSw; (try dsimp only at hSw); go_simp; (try with_reducible rfl))
  (try simp only [Act.put, tkA, tkB, tkC])
  refine wpAnyH_done (by kernel_rfl) ?_ _
  clear hHeld hHeld2 hH0
  go_wp2_with fail
  go_loopw [16] (fun i wr => StRel X s ov o w0 pb A2 n2 i wr) (fun i _ => n2 - (intOf i).toNat)
  case atStart => exact hstH.out
  case round =>
    clear hstH
    obtain ⟨k, rv', hk, rfl, hAk, hsl, hpc, hrp, hMb⟩ := hrel
    by_cases hlt : k < n2
    · obtain ⟨mb, mo, hA9, _⟩ := hsl.2.1 (by omega)
      subst hA9
      obtain ⟨i, hi⟩ : ∃ i, o[k]? = some i := ⟨o[k]'(by have := holH.out; omega), List.getElem?_eq_getElem _⟩
      have d1 := cell_IntW hsl (x := (i : Int)) (k := k) (by unfold nz; rw [List.getElem?_map, hi]; rfl)
      have hiX := hoXH.out i (List.mem_of_getElem? hi)
      obtain ⟨hb1, hb2⟩ := stK_b X.F s (o := o) k (by have := holH.out; omega)
      have hbgi := hbgH.out i
      have hbk := hb2 i
      have hbn := begin_any hAk (hSH.out.stK hoXH.out k (by have := holH.out; omega)) i hiX none (by omega) (by omega)
      rw [← stK_succ X.F s hi] at hbn
      obtain ⟨hM1, hM2⟩ := hMb _ rfl
      have R : ∀ w5, BegAns X KLo rv' ov (stK X.F s o (k + 1)) w0 wr (.returned (.tuple #[])) w5 → StRel X s ov o w0 pb (some ⟨mb, mo, none⟩) n2 (.int .i64 ((k : Int) + 1)) w5 := by
        rintro w5 ⟨_, rv5, h5, h6, h7, h8⟩
        have hpl := cell?_lt hpc
        have hdl := cell?_lt d1
        refine ⟨k + 1, rv5, hlt, by go_num, h5, slAt_heap hsl (fun a ha hal => ?_), ?_, fun e => ?_, fun a ha => ?_⟩
        · injection ha with ha
          subst ha
          exact h8 mb hal hM1 hM2
        · exact (World.cell?_of_block (a := ⟨pb, 0, none⟩) (h8 pb hpl hnewH.out.1 hrp)).trans hpc
        · rcases h6 pb e with h | h
          · exact hrp h
          · have : pb < wr.heap.size := hpl; omega
        · injection ha with ha
          subst ha
          refine ⟨hM1, fun e => ?_⟩
          rcases h6 mb e with h | h
          · exact hM2 h
          · have : mb < wr.heap.size := hdl; omega
      have hbN : bI none = -1 := rfl
      rw [hbN] at hbn
      clear hb1 hb2 hbk hbgi hbN
      have hAkH := Lib.hid hAk
      clear hAk
      have hslH := Lib.hid hsl
      clear hsl
      have hiH := Lib.hid hi
      clear hi
      have hbnH := Lib.hid hbn
      clear hbn
      have RH := Lib.hid R
      clear R
      have hM1H := Lib.hid hM1
      clear hM1
      have hM2H := Lib.hid hM2
      clear hM2
      have hrpH := Lib.hid hrp
      clear hrp
      have hMbH := Lib.hid hMb
      clear hMb
      go_wp2_with fail
      refine hbnH.out.mono ?_
      rintro e w5 h5
      have h50 : e = .returned (.tuple #[]) := h5.1
      subst h50
      have R5 := RH.out w5 h5
      clear h5
      have R5H := Lib.hid R5
      clear R5
      go_wp2
      refine ⟨?rel, ?measure⟩
      case measure => (simp [intOf]; omega)
      case rel => first | exact R5H.out | exact ⟨rfl, R5H.out⟩ | ((try refine ⟨rfl, ?_⟩); (repeat apply Exists.intro); refine ⟨R5H.out, ?_⟩; ((repeat' apply And.intro) <;> rfl))
    · obtain rfl : k = n2 := by omega
      have R : StAns X (startP X.F s) ov w0 (.returned (.tuple #[])) wr := by
        refine ⟨rfl, rv', ?_⟩
        rw [← stK_all, hoH.out, holH.out]
        exact hAk
      clear hAk hsl hMb
      have RH := Lib.hid R
      clear R
      have hrpH := Lib.hid hrp
      clear hrp
      go_wp2
      go_end0
      exact RH.out
end Go.Proofs.YtbnkoefljcekbaaGreatDoor.C9

namespace Go.Proofs.YtbnkoefljcekbaaGreatDoor.C9
open Go.ChangeShapes Go.WideShapes Go.Deep Go.RowKit
set_option linter.unusedVariables false
set_option linter.unusedSimpArgs false

theorem keep13 {W w' : World} {a0 a1 a2 a3 a4 a5 a6 a7 a8 a9 a10 a11 a12 : Addr} {v0 v1 v2 v3 v4 v5 v6 v7 v8 v9 v10 v11 v12 : Value} (hb : Below W.heap.size W w') (h : W.cell? a0 = some v0 ∧ W.cell? a1 = some v1 ∧ W.cell? a2 = some v2 ∧ W.cell? a3 = some v3 ∧ W.cell? a4 = some v4 ∧ W.cell? a5 = some v5 ∧ W.cell? a6 = some v6 ∧ W.cell? a7 = some v7 ∧ W.cell? a8 = some v8 ∧ W.cell? a9 = some v9 ∧ W.cell? a10 = some v10 ∧ W.cell? a11 = some v11 ∧ W.cell? a12 = some v12) :
    w'.cell? a0 = some v0 ∧ w'.cell? a1 = some v1 ∧ w'.cell? a2 = some v2 ∧ w'.cell? a3 = some v3 ∧ w'.cell? a4 = some v4 ∧ w'.cell? a5 = some v5 ∧ w'.cell? a6 = some v6 ∧ w'.cell? a7 = some v7 ∧ w'.cell? a8 = some v8 ∧ w'.cell? a9 = some v9 ∧ w'.cell? a10 = some v10 ∧ w'.cell? a11 = some v11 ∧ w'.cell? a12 = some v12 :=
  ⟨keepC hb h.1, keepC hb h.2.1, keepC hb h.2.2.1, keepC hb h.2.2.2.1, keepC hb h.2.2.2.2.1, keepC hb h.2.2.2.2.2.1, keepC hb h.2.2.2.2.2.2.1, keepC hb h.2.2.2.2.2.2.2.1, keepC hb h.2.2.2.2.2.2.2.2.1, keepC hb h.2.2.2.2.2.2.2.2.2.1, keepC hb h.2.2.2.2.2.2.2.2.2.2.1, keepC hb h.2.2.2.2.2.2.2.2.2.2.2.1, keepC hb h.2.2.2.2.2.2.2.2.2.2.2.2⟩
theorem FS.secsV {X : FX} {s : PS} {w0 : World} (h : FS X s w0) {k i : Nat} {y : Worker} {z : Work} (hy : X.x.workers.l[k]? = some y) (hz : X.x.works.l[i]? = some z) : X.F.secs k i = secsF y z.size := by
  obtain ⟨o, e⟩ := h.F
  rw [e]
  simp only [fpOf]
  rw [wkOf_get hy, woOf_get hz]
set_option maxRecDepth 100000 in
set_option maxHeartbeats 8000000 in
theorem slow_any {X : FX} {K : KD Tryz.prog 71 Loss} {rv ov : Value} {s : PS} {w0 W : World} {r : RR} (hC : FC X K rv ov s w0 W) (hS : FS X s w0) (hkW : r.worker < X.F.nW) (hiX : r.work < X.F.nX) (hf0 : 0 ≤ r.from_) (hf1 : r.from_ ≤ 1000000000) (ed : Int) :
    Calls Tryz.prog 121 #[.pointer (some ⟨X.f, 0, none⟩), .agg #[.int .i64 r.work, .int .i64 r.worker, .int .i64 r.from_, .int .i64 ed]] W fun e w' => e = .returned (.int .i64 (late X.F r)) ∧ Below W.heap.size W w' := by
  obtain ⟨n1, n2, n3, n4, n5, n6⟩ := hS.nW
  obtain ⟨y, hy⟩ : ∃ y, X.x.workers.l[r.worker]? = some y := ⟨X.x.workers.l[r.worker]'(by omega), List.getElem?_eq_getElem _⟩
  obtain ⟨z, hz⟩ : ∃ z, X.x.works.l[r.work]? = some z := ⟨X.x.works.l[r.work]'(by omega), List.getElem?_eq_getElem _⟩
  obtain ⟨by_, oy, hYA, _⟩ := (hS.ws.1).2.1 (by omega)
  obtain ⟨bx, ox, hXA, _⟩ := (hS.xs.1).2.1 (by omega)
  obtain ⟨⟨g1, g2⟩, _, _, _⟩ := worker_good (hS.ok.wk y (List.mem_of_getElem? hy))
  obtain ⟨z0, z1⟩ := hS.wo hz
  have hsv := hS.secsV hy hz
  obtain ⟨c, hc⟩ : ∃ c, secsF y z.size = c := ⟨_, rfl⟩
  obtain ⟨c1, c2⟩ := secs_in z.size y.speed z0 z1 g1 g2
  have hcc : (z.size + y.speed - 1) / y.speed = c := hc
  rw [hcc] at c1 c2
  have hla : late X.F r = r.from_ + 2 * c := by unfold late; rw [hsv, hc]
  rw [hla]
  have hba := (Below.refl W.heap.size W).alloc (Nat.le_refl _) (.cells #[.int .i64 r.work, .int .i64 r.worker, .int .i64 r.from_, .int .i64 ed] 144)
  obtain ⟨W1, hW1⟩ : ∃ Y, W.alloc (.cells #[.int .i64 r.work, .int .i64 r.worker, .int .i64 r.from_, .int .i64 ed] 144) = Y := ⟨_, rfl⟩
  rw [hW1] at hba
  have hC1 := hC.below hba
  have hws1 := hS.ws.1.below hC1.bel
  have hxs1 := hS.xs.1.below hC1.bel
  rw [hYA] at hws1
  rw [hXA] at hxs1
  obtain ⟨d0, d1, d2, d3, d4, d5, d6⟩ := cells_Worker hws1 hy
  have e2 := (cells_Work hxs1 hz).2.2.1
  have c0 := (hC1.blk 0 _ rfl).1
  have c1' := (hC1.blk 1 _ rfl).1
  rw [hYA] at c0
  rw [hXA] at c1'
  have g0' : W1.cell? ⟨W.heap.size, 0, none⟩ = some (.int .i64 r.work) := by rw [← hW1]; exact cell_new _ _ _ 0
  have g1' : W1.cell? ⟨W.heap.size, 1, none⟩ = some (.int .i64 r.worker) := by rw [← hW1]; exact cell_new _ _ _ 1
  have g2' : W1.cell? ⟨W.heap.size, 2, none⟩ = some (.int .i64 r.from_) := by rw [← hW1]; exact cell_new _ _ _ 2
  obtain ⟨iw, hiw⟩ : ∃ q, r.work = q := ⟨_, rfl⟩
  obtain ⟨ik, hik⟩ : ∃ q, r.worker = q := ⟨_, rfl⟩
  obtain ⟨ifr, hifr⟩ : ∃ q, r.from_ = q := ⟨_, rfl⟩
  obtain ⟨rb, hrb⟩ : ∃ b, W.heap.size = b := ⟨_, rfl⟩
  rw [hrb, hiw] at g0'
  rw [hrb, hik] at g1'
  rw [hrb, hifr] at g2'
  rw [hiw] at hiX e2 hW1
  rw [hik] at hkW d0 d1 d2 d3 d4 d5 d6 hW1
  rw [hifr] at hf0 hf1 hW1
  have hH0 : (fun w' : World => w'.cell? ⟨rb, 0, none⟩ = some (.int .i64 iw) ∧ w'.cell? ⟨rb, 1, none⟩ = some (.int .i64 ik) ∧ w'.cell? ⟨rb, 2, none⟩ = some (.int .i64 ifr) ∧ w'.cell? ⟨X.f, 0, none⟩ = some (.slice (some ⟨by_, oy, none⟩) X.x.workers.n X.x.workers.cap) ∧ w'.cell? ⟨X.f, 1, none⟩ = some (.slice (some ⟨bx, ox, none⟩) X.x.works.n X.x.works.cap) ∧ w'.cell? ⟨bx, ox + iw * 4 + 2, none⟩ = some (.int .i64 z.size) ∧ w'.cell? ⟨by_, oy + ik * 7, none⟩ = some (.string y.name) ∧ w'.cell? ⟨by_, oy + ik * 7 + 1, none⟩ = some (.slice y.has.A y.has.n y.has.cap) ∧ w'.cell? ⟨by_, oy + ik * 7 + 2, none⟩ = some (.int .i64 y.slots) ∧ w'.cell? ⟨by_, oy + ik * 7 + 3, none⟩ = some (.int .i64 y.speed) ∧ w'.cell? ⟨by_, oy + ik * 7 + 4, none⟩ = some (.int .i64 y.from_) ∧ w'.cell? ⟨by_, oy + ik * 7 + 5, none⟩ = some (.int .i64 y.to_) ∧ w'.cell? ⟨by_, oy + ik * 7 + 6, none⟩ = some (.slice y.stands.A y.stands.n y.stands.cap)) W1 := ⟨g0', g1', g2', c0, c1', e2, d0, d1, d2, d3, d4, d5, d6⟩
  rw [hiw, hik, hifr]
  rw [n1] at hkW
  rw [n2] at hiX
  clear d0 d1 d2 d3 d4 d5 d6 e2 c0 c1' g0' g1' g2'
  have hw1 : IntKind.i64.wrap (2 * c) = 2 * c := IntWalk.i64_in _ (by omega)
  have hw2 : IntKind.i64.wrap (ifr + 2 * c) = ifr + 2 * c := IntWalk.i64_in _ (by omega)
  have hw1H := Lib.hid hw1
  clear hw1
  have hw2H := Lib.hid hw2
  clear hw2
  have hCH := Lib.hid hC
  clear hC
  have hSH := Lib.hid hS
  clear hS
  have n1H := Lib.hid n1
  clear n1
  have n2H := Lib.hid n2
  clear n2
  have n3H := Lib.hid n3
  clear n3
  have n4H := Lib.hid n4
  clear n4
  have hyH := Lib.hid hy
  clear hy
  have hzH := Lib.hid hz
  clear hz
  have hYAH := Lib.hid hYA
  clear hYA
  have hXAH := Lib.hid hXA
  clear hXA
  have hsvH := Lib.hid hsv
  clear hsv
  have hcH := Lib.hid hc
  clear hc
  have hccH := Lib.hid hcc
  clear hcc
  have hlaH := Lib.hid hla
  clear hla
  have hbaH := Lib.hid hba
  clear hba
  have hW1H := Lib.hid hW1
  clear hW1
  have hC1H := Lib.hid hC1
  clear hC1
  have hws1H := Lib.hid hws1
  clear hws1
  have hxs1H := Lib.hid hxs1
  clear hxs1
  have hiwH := Lib.hid hiw
  clear hiw
  have hikH := Lib.hid hik
  clear hik
  have hifrH := Lib.hid hifr
  clear hifr
  have hrbH := Lib.hid hrb
  clear hrb
  go_enter Tryz.func121, Tryz.ntmps121
  go_wp2_with fail
  rw [hW1H.out, hrbH.out]
  refine wp_region_held_drew (S := fun w' : World => w'.cell? ⟨rb, 0, none⟩ = some (.int .i64 iw) ∧ w'.cell? ⟨rb, 1, none⟩ = some (.int .i64 ik) ∧ w'.cell? ⟨rb, 2, none⟩ = some (.int .i64 ifr) ∧ w'.cell? ⟨X.f, 0, none⟩ = some (.slice (some ⟨by_, oy, none⟩) X.x.workers.n X.x.workers.cap) ∧ w'.cell? ⟨X.f, 1, none⟩ = some (.slice (some ⟨bx, ox, none⟩) X.x.works.n X.x.works.cap) ∧ w'.cell? ⟨bx, ox + iw * 4 + 2, none⟩ = some (.int .i64 z.size) ∧ w'.cell? ⟨by_, oy + ik * 7, none⟩ = some (.string y.name) ∧ w'.cell? ⟨by_, oy + ik * 7 + 1, none⟩ = some (.slice y.has.A y.has.n y.has.cap) ∧ w'.cell? ⟨by_, oy + ik * 7 + 2, none⟩ = some (.int .i64 y.slots) ∧ w'.cell? ⟨by_, oy + ik * 7 + 3, none⟩ = some (.int .i64 y.speed) ∧ w'.cell? ⟨by_, oy + ik * 7 + 4, none⟩ = some (.int .i64 y.from_) ∧ w'.cell? ⟨by_, oy + ik * 7 + 5, none⟩ = some (.int .i64 y.to_) ∧ w'.cell? ⟨by_, oy + ik * 7 + 6, none⟩ = some (.slice y.stands.A y.stands.n y.stands.cap)) (by kernel_rfl) hH0 (fun hHeld => ?_)
  refine tkH (i := 0) (d := some 5) (v := ?_) (hy := Or.inl ⟨by rfl, ?_⟩) (h := ?_)
  rotate_left
  · (intro w hSw; (try dsimp only at hSw); go_simp; (try with_reducible rfl))
  (try simp only [Act.put, tkA, tkB, tkC])
  refine tkH (i := 1) (d := some 6) (v := ?_) (hy := Or.inl ⟨by rfl, ?_⟩) (h := ?_)
  rotate_left
  · (intro w hSw; (try dsimp only at hSw); go_simp; (try with_reducible rfl))
  (try simp only [Act.put, tkA, tkB, tkC])
  refine tkH (i := 2) (d := some 7) (v := ?_) (hy := Or.inl ⟨by rfl, ?_⟩) (h := ?_)
  rotate_left
  · (intro w hSw; (try dsimp only at hSw); go_simp; (try with_reducible rfl))
  (try simp only [Act.put, tkA, tkB, tkC])
  refine tkH (i := 3) (d := some 8) (v := ?_) (hy := Or.inl ⟨by rfl, ?_⟩) (h := ?_)
  rotate_left
  · (intro w hSw; (try dsimp only at hSw); go_simp; (try with_reducible rfl))
  (try simp only [Act.put, tkA, tkB, tkC])
  refine tkH (i := 4) (d := some 9) (v := ?_) (hy := Or.inl ⟨by rfl, ?_⟩) (h := ?_)
  rotate_left
  · (intro w hSw; (try dsimp only at hSw); go_simp; (try with_reducible rfl))
  (try simp only [Act.put, tkA, tkB, tkC])
  refine tkH (i := 5) (d := some 10) (v := ?_) (hy := Or.inl ⟨by rfl, ?_⟩) (h := ?_)
  rotate_left
  · (intro w hSw; (try dsimp only at hSw); go_simp; (try with_reducible rfl))
  (try simp only [Act.put, tkA, tkB, tkC])
  refine tkH (i := 6) (d := some 11) (v := ?_) (hy := Or.inl ⟨by rfl, ?_⟩) (h := ?_)
  rotate_left
  · (intro w hSw; (try dsimp only at hSw); go_simp; (try with_reducible rfl))
  (try simp only [Act.put, tkA, tkB, tkC])
  refine tkH (i := 7) (d := some 12) (v := ?_) (hy := Or.inl ⟨by rfl, ?_⟩) (h := ?_)
  rotate_left
  · (intro w hSw; (try dsimp only at hSw); go_simp; (try with_reducible rfl))
  (try simp only [Act.put, tkA, tkB, tkC])
  refine tkH (i := 8) (d := some 13) (v := ?_) (hy := Or.inl ⟨by rfl, ?_⟩) (h := ?_)
  rotate_left
  · (intro w hSw; (try dsimp only at hSw); go_simp; (try with_reducible rfl))
  (try simp only [Act.put, tkA, tkB, tkC])
  refine tkH (i := 9) (d := some 14) (v := ?_) (hy := Or.inl ⟨by rfl, ?_⟩) (h := ?_)
  rotate_left
  · (intro w hSw; (try dsimp only at hSw); go_simp; (try with_reducible rfl))
  (try simp only [Act.put, tkA, tkB, tkC])
  refine tkH (i := 10) (d := some 15) (v := ?_) (hy := Or.inl ⟨by rfl, ?_⟩) (h := ?_)
  rotate_left
  · (intro w hSw; (try dsimp only at hSw); go_simp; (try with_reducible rfl))
  (try simp only [Act.put, tkA, tkB, tkC])
  refine tkH (i := 11) (d := some 16) (v := ?_) (hy := Or.inl ⟨by rfl, ?_⟩) (h := ?_)
  rotate_left
  · (intro w hSw; (try dsimp only at hSw); go_simp; (try with_reducible rfl))
  (try simp only [Act.put, tkA, tkB, tkC])
  refine tkH (i := 12) (d := some 17) (v := ?_) (hy := Or.inl ⟨by rfl, ?_⟩) (h := ?_)
  rotate_left
  · (intro w hSw; (try dsimp only at hSw); go_simp; (try with_reducible rfl))
  (try simp only [Act.put, tkA, tkB, tkC])
  refine tkH (i := 13) (d := some 18) (v := ?_) (hy := Or.inl ⟨by rfl, ?_⟩) (h := ?_)
  rotate_left
  · (intro w hSw; (try dsimp only at hSw); go_simp; (try with_reducible rfl))
  (try simp only [Act.put, tkA, tkB, tkC])
  refine tkH (i := 14) (d := some 19) (v := ?_) (hy := Or.inl ⟨by rfl, ?_⟩) (h := ?_)
  rotate_left
  · (intro w hSw; (try dsimp only at hSw); go_simp; (try with_reducible rfl))
  (try simp only [Act.put, tkA, tkB, tkC])
  refine tkH (i := 15) (d := some 20) (v := ?_) (hy := Or.inl ⟨by rfl, ?_⟩) (h := ?_)
  rotate_left
  · (intro w hSw; (try dsimp only at hSw); go_simp; (try with_reducible rfl))
  (try simp only [Act.put, tkA, tkB, tkC])
  refine tkH (i := 16) (d := some 21) (v := ?_) (hy := Or.inl ⟨by rfl, ?_⟩) (h := ?_)
  rotate_left
  · (intro w hSw; (try dsimp only at hSw); go_simp; (try with_reducible rfl))
  (try simp only [Act.put, tkA, tkB, tkC])
  refine tkH (i := 17) (d := some 22) (v := ?_) (hy := Or.inl ⟨by rfl, ?_⟩) (h := ?_)
  rotate_left
  · (intro w hSw; (try dsimp only at hSw); go_simp; (try with_reducible rfl))
  (try simp only [Act.put, tkA, tkB, tkC])
  refine tkH (i := 18) (d := some 23) (v := ?_) (hy := Or.inl ⟨by rfl, ?_⟩) (h := ?_)
  rotate_left
  · (intro w hSw; (try dsimp only at hSw); go_simp; (try with_reducible rfl))
  (try simp only [Act.put, tkA, tkB, tkC])
  refine tkH (i := 19) (d := some 24) (v := ?_) (hy := Or.inl ⟨by rfl, ?_⟩) (h := ?_)
  rotate_left
  · (intro w hSw; (try dsimp only at hSw); go_simp; (try with_reducible rfl))
  (try simp only [Act.put, tkA, tkB, tkC])
  refine tkH (i := 20) (d := some 25) (v := ?_) (hy := Or.inl ⟨by rfl, ?_⟩) (h := ?_)
  rotate_left
  · (intro w hSw; (try dsimp only at hSw); go_simp; (try with_reducible rfl))
  (try simp only [Act.put, tkA, tkB, tkC])
  refine wpAnyH_ready (rs := [21]) (by kernel_rfl) (by simp) ?_
  refine AllReadyH.cons (i := 21) rfl (fun K hK => ?_) AllReadyH.nil
  go_simp
  go_at_call 94
  refine (secs y z.size _ z0 z1 g1 g2 c hcH.out).mono ?_
  rintro e w4 ⟨rfl, hb4⟩
  have hHeld := keep13 hb4 hHeld
  have hb : Below W.heap.size W w4 := hbaH.out.trans (((Below.refl _ _).drew.trans hb4).mono hbaH.out.size)
  clear hb4
  have hbH := Lib.hid hb
  clear hb
  refine hK.out _ _ hHeld (fun hHeld => ?_)
  clear hK K
  (try simp only [Act.put, List.setIfInBounds_toArray, List.set_cons_zero, List.set_cons_succ])
  refine tkH (i := 22) (d := some 27) (v := ?_) (hy := Or.inl ⟨by rfl, ?_⟩) (h := ?_)
  rotate_left
  · (intro w hSw; (try dsimp only at hSw); go_simp; (try with_reducible rfl))
  (try simp only [Act.put, tkA, tkB, tkC])
  refine tkH (i := 23) (d := some 28) (v := ?_) (hy := Or.inl ⟨by rfl, ?_⟩) (h := ?_)
  rotate_left
  · (intro w hSw; (try dsimp only at hSw); go_simp; (try with_reducible rfl))
  (try simp only [Act.put, tkA, tkB, tkC])
  refine tkH (i := 24) (d := some 4) (v := ?_) (hy := Or.inl ⟨by rfl, ?_⟩) (h := ?_)
  rotate_left
  · (intro w hSw; (try dsimp only at hSw); go_simp; (try with_reducible rfl))
  (try simp only [Act.put, tkA, tkB, tkC])
  refine wpAnyH_done (by kernel_rfl) ?_ _
  clear hHeld hH0
  go_wp2
  go_ret
  exact ⟨ret1_int (by rw [hw1H.out, hw2H.out]), hbH.out⟩
end Go.Proofs.YtbnkoefljcekbaaGreatDoor.C9

namespace Go.Proofs.YtbnkoefljcekbaaGreatDoor.C9
open Go.ChangeShapes Go.WideShapes Go.Deep Go.RowKit
set_option linter.unusedVariables false
set_option linter.unusedSimpArgs false

def dbK (F : FP) (s : PS) (k : Nat) : PS :=
  { s with runs := ((List.range k).foldl (dblX F s.now s.lost) (s.runs, s.begun)).1, begun := ((List.range k).foldl (dblX F s.now s.lost) (s.runs, s.begun)).2 }
theorem dbK_zero (F : FP) (s : PS) : dbK F s 0 = s := rfl
theorem dbK_pair (F : FP) (s : PS) (k : Nat) : dbK F s (k + 1) = { s with runs := (dblX F s.now s.lost ((dbK F s k).runs, (dbK F s k).begun) k).1, begun := (dblX F s.now s.lost ((dbK F s k).runs, (dbK F s k).begun) k).2 } := by
  unfold dbK
  rw [List.range_succ, List.foldl_append]
  rfl
theorem dbK_one {F : FP} {s : PS} {k : Nat} {r : RR} (h : goingOf (dbK F s k).runs k = [r]) : dbK F s (k + 1) = if (decide (late F r ≤ s.now) && decide (s.lost k < F.tries)) = true then begS F (dbK F s k) k (some r.worker) else dbK F s k := by
  rw [dbK_pair]
  unfold dblX
  simp only [h]
  split
  · rfl
  · rfl
theorem dbK_no {F : FP} {s : PS} {k : Nat} (h : (goingOf (dbK F s k).runs k).length ≠ 1) : dbK F s (k + 1) = dbK F s k := by
  rw [dbK_pair]
  unfold dblX
  simp only
  match hg : goingOf (dbK F s k).runs k with
  | [] => simp only [hg]; rfl
  | [r] => rw [hg] at h; exact absurd rfl h
  | a :: b :: c => simp only [hg]; rfl
theorem dbK_b (F : FP) (s : PS) : ∀ k, (dbK F s k).runs.length ≤ s.runs.length + k ∧ ∀ j, s.begun j ≤ (dbK F s k).begun j ∧ (dbK F s k).begun j ≤ s.begun j + k
  | 0 => ⟨Nat.le_refl _, fun j => ⟨Int.le_refl _, by rw [dbK_zero]; simp⟩⟩
  | k + 1 => by
    obtain ⟨h1, h2⟩ := dbK_b F s k
    by_cases h : (goingOf (dbK F s k).runs k).length = 1
    · obtain ⟨r, hr⟩ := List.length_eq_one_iff.1 h
      rw [dbK_one hr]
      split
      · obtain ⟨b1, b2⟩ := beginP_len F s.now k (some r.worker) ((dbK F s k).runs, (dbK F s k).begun)
        refine ⟨?_, fun j => ?_⟩
        · show (beginP F s.now k (some r.worker) ((dbK F s k).runs, (dbK F s k).begun)).1.length ≤ _
          simp only at b1; omega
        · have := b2 j
          have := h2 j
          show s.begun j ≤ (beginP F s.now k (some r.worker) ((dbK F s k).runs, (dbK F s k).begun)).2 j ∧ (beginP F s.now k (some r.worker) ((dbK F s k).runs, (dbK F s k).begun)).2 j ≤ _
          simp only at *
          omega
      · exact ⟨by omega, fun j => by have := h2 j; omega⟩
    · rw [dbK_no h]
      exact ⟨by omega, fun j => by have := h2 j; omega⟩
theorem dbK_all {F : FP} {s : PS} (h : F.doubles = true) : dbK F s F.nX = dblP F s := by
  unfold dbK dblP
  rw [if_pos h]
theorem FS.dbK {X : FX} {s : PS} {w0 : World} (h : FS X s w0) : ∀ k, k ≤ X.F.nX → FS X (Go.Proofs.YtbnkoefljcekbaaGreatDoor.C9.dbK X.F s k) w0
  | 0, _ => h
  | k + 1, hk => by
    have ih := FS.dbK h k (by omega)
    by_cases h1 : (goingOf (Go.Proofs.YtbnkoefljcekbaaGreatDoor.C9.dbK X.F s k).runs k).length = 1
    · obtain ⟨r, hr⟩ := List.length_eq_one_iff.1 h1
      rw [dbK_one hr]
      split
      · exact ih.beg (by omega) _
      · exact ih
    · rw [dbK_no h1]; exact ih
def DbRel (X : FX) (s : PS) (ov : Value) (w0 : World) (i : Value) (wr : World) : Prop :=
  ∃ (k : Nat) (rv' : Value), k ≤ X.x.works.n ∧ i = .int .i64 k ∧ FA X KLo rv' ov (dbK X.F s k) w0 wr
set_option maxRecDepth 100000 in
set_option maxHeartbeats 16000000 in
theorem double_any {X : FX} {rv ov : Value} {s : PS} {w0 w : World} (hA : FA X KLo rv ov s w0 w) (hS : FS X s w0) (hlen : s.runs.length ≤ 800000) (hbg : ∀ j, 0 ≤ s.begun j ∧ s.begun j ≤ 800000) :
    Calls Tryz.prog 72 #[.pointer (some ⟨X.f, 0, none⟩)] w (StAns X (dblP X.F s) ov w0) := by
  obtain ⟨n1, n2, n3, n4, n5, n6⟩ := hS.nW
  have hdb : X.F.doubles = X.x.doubles := by obtain ⟨o, e⟩ := hS.F; rw [e]; rfl
  have htr : X.F.tries = X.x.tries := by obtain ⟨o, e⟩ := hS.F; rw [e]; rfl
  have c4 := (hA.core.blk 4 _ rfl).1
  have c1 := (hA.core.blk 1 _ rfl).1
  obtain ⟨db, hdbv⟩ : ∃ b, X.x.doubles = b := ⟨_, rfl⟩
  rw [hdbv] at c4
  cases db
  · have R : StAns X (dblP X.F s) ov w0 (.returned (.tuple #[])) w := ⟨rfl, rv, by unfold dblP; rw [hdb, hdbv, if_neg (by decide)]; exact hA⟩
    have hAH := Lib.hid hA
    clear hA
    have hSH := Lib.hid hS
    clear hS
    have n1H := Lib.hid n1
    clear n1
    have n2H := Lib.hid n2
    clear n2
    have n3H := Lib.hid n3
    clear n3
    have n4H := Lib.hid n4
    clear n4
    have hdbH := Lib.hid hdb
    clear hdb
    have htrH := Lib.hid htr
    clear htr
    have hdbvH := Lib.hid hdbv
    clear hdbv
    have RH := Lib.hid R
    clear R
    have hbgH := Lib.hid hbg
    clear hbg
    go_enter Tryz.func72, Tryz.ntmps72
    go_wp2
    go_end0
    exact RH.out
  · have hst : DbRel X s ov w0 (.int .i64 0) w := ⟨0, rv, Nat.zero_le _, rfl, by rw [dbK_zero]; exact hA⟩
    have hAH := Lib.hid hA
    clear hA
    have hSH := Lib.hid hS
    clear hS
    have n1H := Lib.hid n1
    clear n1
    have n2H := Lib.hid n2
    clear n2
    have n3H := Lib.hid n3
    clear n3
    have n4H := Lib.hid n4
    clear n4
    have hdbH := Lib.hid hdb
    clear hdb
    have htrH := Lib.hid htr
    clear htr
    have hdbvH := Lib.hid hdbv
    clear hdbv
    have hstH := Lib.hid hst
    clear hst
    have hbgH := Lib.hid hbg
    clear hbg
    go_enter Tryz.func72, Tryz.ntmps72
    go_wp2_with fail
    clear c4 c1
    go_loopw [16] (fun i wr => DbRel X s ov w0 i wr) (fun i _ => X.x.works.n - (intOf i).toNat)
    case atStart => exact hstH.out
    case round =>
      clear hstH
      obtain ⟨k, rv', hk, rfl, hAk⟩ := hrel
      by_cases hlt : k < X.x.works.n
      · obtain ⟨A, cap, hrv⟩ := hAk.runs.form
        obtain ⟨n, hnn⟩ : ∃ n, ((dbK X.F s k).runs.map (gr X.F)).length = n := ⟨_, rfl⟩
        rw [hnn] at hrv
        subst hrv
        obtain ⟨hl1, hl2⟩ := dbK_b X.F s k
        have hn : n ≤ 1000000 := by rw [← hnn, List.length_map]; omega
        have hSk := hSH.out.dbK k (by have := n2H.out; omega)
        have hgo : ∀ r ∈ (dbK X.F s k).runs, going r = true := fun r hr => (hSk.rn r hr).1
        have hro := runsOf_any X.f X.F A n cap (dbK X.F s k).runs k wr X.base (hAk.core.blk 8 _ rfl).1 hAk.runs hn hgo
        have hkX : k < X.F.nX := by have := n2H.out; omega
        have hbk := hl2 k
        have hbgk := hbgH.out k
        have hAkH := Lib.hid hAk
        clear hAk
        have hnnH := Lib.hid hnn
        clear hnn
        have hSkH := Lib.hid hSk
        clear hSk
        have hgoH := Lib.hid hgo
        clear hgo
        have hroH := Lib.hid hro
        clear hro
        have hl2H := Lib.hid hl2
        clear hl2
        go_wp2_with fail
        refine hroH.out.mono ?_
        rintro e w5 ⟨A4, k4, c4, rfl, hk4, hsl4, hb5⟩
        have hA5 := hAkH.out.below hb5
        clear hroH
        by_cases h1 : k4 = 1
        · subst h1
          obtain ⟨r, hr1⟩ := List.length_eq_one_iff.1 hk4.symm
          have hrm : r ∈ (dbK X.F s k).runs := by
            have : r ∈ goingOf (dbK X.F s k).runs k := by rw [hr1]; exact List.mem_cons_self
            exact (List.mem_filter.1 this).1
          obtain ⟨_, _, hkW, hiX, hf0, hf1⟩ := hSkH.out.rn r hrm
          rw [hr1] at hsl4
          obtain ⟨ab, ao, hA9, _⟩ := hsl4.2.1 (by omega)
          subst hA9
          obtain ⟨d0, d1, d2, d3⟩ := cells_GRun hsl4 (x := gr X.F r) (k := 0) rfl
          rw [show ao + 0 * 4 = ao by omega] at d0 d1 d2 d3
          obtain ⟨ed, hed⟩ : ∃ e, (gr X.F r).end_ = e := ⟨_, rfl⟩
          have hst1 := dbK_one hr1
          have ht1 := hSH.out.t1
          have hsl := fun W (h : Below w5.heap.size w5 W) => slow_any (hA5.core.below h) hSkH.out hkW hiX hf0 (by have : (dbK X.F s k).now = s.now := rfl; omega) ed
          obtain ⟨lt, hltv⟩ : ∃ l, late X.F r = l := ⟨_, rfl⟩
          rw [hltv] at hst1
          obtain ⟨ls, hls⟩ : ∃ l, s.lost k = l := ⟨_, rfl⟩
          rw [hls, htrH.out] at hst1
          have m2 := (hA5.core.lost k hlt).1
          rw [show (dbK X.F s k).lost k = s.lost k from rfl, hls] at m2
          have c10 := (hA5.core.blk 10 _ rfl).1
          rw [show X.N = X.x.works.n from rfl] at c10
          rw [hed] at d3
          replace d0 : w5.cell? ⟨ab, ao, none⟩ = some (.int .i64 r.work) := d0
          replace d1 : w5.cell? ⟨ab, ao + 1, none⟩ = some (.int .i64 r.worker) := d1
          replace d2 : w5.cell? ⟨ab, ao + 2, none⟩ = some (.int .i64 r.from_) := d2
          have hbn := fun W rvv (h : FA X KLo rvv ov (dbK X.F s k) w0 W) => begin_any h hSkH.out k hkX (some r.worker) (by omega) (by omega)
          have hbI : bI (some r.worker) = (r.worker : Int) := rfl
          simp only [hbI] at hbn
          have hc7 : w5.cell? ⟨X.f, 7, none⟩ = some (.int .i64 s.now) := (hA5.core.blk 7 _ rfl).1
          obtain ⟨iw, hiw⟩ : ∃ q, r.work = q := ⟨_, rfl⟩
          obtain ⟨ik, hik⟩ : ∃ q, r.worker = q := ⟨_, rfl⟩
          obtain ⟨ifr, hifr⟩ : ∃ q, r.from_ = q := ⟨_, rfl⟩
          rw [hiw] at d0 hsl
          rw [hik] at d1 hsl hbn hst1
          rw [hifr] at d2 hsl
          have hH0 : (fun w' : World => w'.cell? ⟨X.f, 7, none⟩ = some (.int .i64 s.now) ∧ w'.cell? ⟨X.f, 10, none⟩ = some (.slice (some ⟨X.lb, 0, none⟩) X.x.works.n X.x.works.n) ∧ w'.cell? ⟨X.lb, k, none⟩ = some (.int .i64 ls) ∧ w'.cell? ⟨X.f, 3, none⟩ = some (.int .i64 X.x.tries) ∧ w'.cell? ⟨ab, ao, none⟩ = some (.int .i64 iw) ∧ w'.cell? ⟨ab, ao + 1, none⟩ = some (.int .i64 ik) ∧ w'.cell? ⟨ab, ao + 2, none⟩ = some (.int .i64 ifr) ∧ w'.cell? ⟨ab, ao + 3, none⟩ = some (.int .i64 ed)) w5 := ⟨hc7, c10, m2, (hA5.core.blk 3 _ rfl).1, d0, d1, d2, d3⟩
          have Rno : dbK X.F s (k + 1) = dbK X.F s k → ∀ W, Below w5.heap.size w5 W → DbRel X s ov w0 (.int .i64 ((k : Int) + 1)) W := fun h W hW => ⟨k + 1, _, hlt, by go_num, by rw [h]; exact hA5.below hW⟩
          clear hbI d0 d1 d2 d3 c10 m2 hc7 hsl4 hb5 hk4 hf0 hf1 hrm hl1 hbk hbgk
          by_cases h2 : lt ≤ s.now
          · have h2' : decide (lt ≤ s.now) = true := by simpa using h2
            by_cases h3 : ls < X.x.tries
            · have h3' : decide (ls < X.x.tries) = true := by simpa using h3
              rw [h2', h3', if_pos (by decide)] at hst1
              have R : ∀ W5 w7 rvv, BegAns X KLo rvv ov (begS X.F (dbK X.F s k) k (some ik)) w0 W5 (.returned (.tuple #[])) w7 → DbRel X s ov w0 (.int .i64 ((k : Int) + 1)) w7 := by
                rintro W5 w7 rvv ⟨_, rv5, h5, _⟩
                exact ⟨k + 1, rv5, hlt, by go_num, by rw [hst1]; exact h5⟩
              clear Rno hst1
              have hA5H := Lib.hid hA5
              clear hA5
              have hr1H := Lib.hid hr1
              clear hr1
              have hedH := Lib.hid hed
              clear hed
              have hslH := Lib.hid hsl
              clear hsl
              have hltvH := Lib.hid hltv
              clear hltv
              have hlsH := Lib.hid hls
              clear hls
              have hbnH := Lib.hid hbn
              clear hbn
              have hiwH := Lib.hid hiw
              clear hiw
              have hikH := Lib.hid hik
              clear hik
              have hifrH := Lib.hid hifr
              clear hifr
              have RH := Lib.hid R
              clear R
              have hH0H := Lib.hid hH0
              clear hH0
              have hH0 := hH0H.out
              go_wp2_with fail
              refine wp_region_held_drew (S := fun w' : World => w'.cell? ⟨X.f, 7, none⟩ = some (.int .i64 s.now) ∧ w'.cell? ⟨X.f, 10, none⟩ = some (.slice (some ⟨X.lb, 0, none⟩) X.x.works.n X.x.works.n) ∧ w'.cell? ⟨X.lb, k, none⟩ = some (.int .i64 ls) ∧ w'.cell? ⟨X.f, 3, none⟩ = some (.int .i64 X.x.tries) ∧ w'.cell? ⟨ab, ao, none⟩ = some (.int .i64 iw) ∧ w'.cell? ⟨ab, ao + 1, none⟩ = some (.int .i64 ik) ∧ w'.cell? ⟨ab, ao + 2, none⟩ = some (.int .i64 ifr) ∧ w'.cell? ⟨ab, ao + 3, none⟩ = some (.int .i64 ed)) (by kernel_rfl) hH0 (fun hHeld => ?_)
              refine tkH (i := 0) (d := some 22) (v := ?_) (hy := Or.inl ⟨by rfl, ?_⟩) (h := ?_)
              rotate_left
              · (intro w hSw; (try dsimp only at hSw); go_simp; (try with_reducible rfl))
              (try simp only [Act.put, tkA, tkB, tkC])
              refine tkH (i := 1) (d := some 23) (v := ?_) (hy := Or.inl ⟨by rfl, ?_⟩) (h := ?_)
              rotate_left
              · (intro w hSw; (try dsimp only at hSw); go_simp; (try with_reducible rfl))
              (try simp only [Act.put, tkA, tkB, tkC])
              refine tkH (i := 2) (d := some 24) (v := ?_) (hy := Or.inl ⟨by rfl, ?_⟩) (h := ?_)
              rotate_left
              · (intro w hSw; (try dsimp only at hSw); go_simp; (try with_reducible rfl))
              (try simp only [Act.put, tkA, tkB, tkC])
              refine tkH (i := 3) (d := some 25) (v := ?_) (hy := Or.inl ⟨by rfl, ?_⟩) (h := ?_)
              rotate_left
              · (intro w hSw; (try dsimp only at hSw); go_simp; (try with_reducible rfl))
              (try simp only [Act.put, tkA, tkB, tkC])
              refine tkH (i := 4) (d := some 26) (v := ?_) (hy := Or.inl ⟨by rfl, ?_⟩) (h := ?_)
              rotate_left
              · (intro w hSw; (try dsimp only at hSw); go_simp; (try with_reducible rfl))
              (try simp only [Act.put, tkA, tkB, tkC])
              refine tkH (i := 5) (d := some 27) (v := ?_) (hy := Or.inl ⟨by rfl, ?_⟩) (h := ?_)
              rotate_left
              · (intro w hSw; (try dsimp only at hSw); go_simp; (try with_reducible rfl))
              (try simp only [Act.put, tkA, tkB, tkC])
              refine tkH (i := 6) (d := some 28) (v := ?_) (hy := Or.inl ⟨by rfl, ?_⟩) (h := ?_)
              rotate_left
              · (intro w hSw; (try dsimp only at hSw); go_simp; (try with_reducible rfl))
              (try simp only [Act.put, tkA, tkB, tkC])
              refine tkH (i := 7) (d := some 29) (v := ?_) (hy := Or.inl ⟨by rfl, ?_⟩) (h := ?_)
              rotate_left
              · (intro w hSw; (try dsimp only at hSw); go_simp; (try with_reducible rfl))
              (try simp only [Act.put, tkA, tkB, tkC])
              refine tkH (i := 9) (d := some 31) (v := ?_) (hy := Or.inl ⟨by rfl, ?_⟩) (h := ?_)
              rotate_left
              · (intro w hSw; (try dsimp only at hSw); go_simp; (try with_reducible rfl))
              (try simp only [Act.put, tkA, tkB, tkC])
              refine tkH (i := 10) (d := some 32) (v := ?_) (hy := Or.inl ⟨by rfl, ?_⟩) (h := ?_)
              rotate_left
              · (intro w hSw; (try dsimp only at hSw); go_simp; (try with_reducible rfl))
              (try simp only [Act.put, tkA, tkB, tkC])
              refine tkH (i := 11) (d := some 33) (v := ?_) (hy := Or.inl ⟨by rfl, ?_⟩) (h := ?_)
              rotate_left
              · (intro w hSw; (try dsimp only at hSw); go_simp; (try with_reducible rfl))
              (try simp only [Act.put, tkA, tkB, tkC])
              refine tkH (i := 12) (d := some 34) (v := ?_) (hy := Or.inl ⟨by rfl, ?_⟩) (h := ?_)
              rotate_left
              · (intro w hSw; (try dsimp only at hSw); go_simp; (try with_reducible rfl))
              (try simp only [Act.put, tkA, tkB, tkC])
              refine wpAnyH_ready (rs := [8]) (by kernel_rfl) (by simp) ?_
              refine AllReadyH.cons (i := 8) rfl (fun K hK => ?_) AllReadyH.nil
              go_simp
              go_at_call 121
              refine (hslH.out _ (Below.refl _ _).drew).mono ?_
              rintro e w6 ⟨rfl, hb6⟩
              rw [hltvH.out]
              have hHeld := keep8 hb6 hHeld
              have hb56 : Below w5.heap.size w5 w6 := (Below.refl _ _).drew.trans hb6
              clear hb6
              have hb56H := Lib.hid hb56
              clear hb56
              refine hK.out _ _ hHeld (fun hHeld => ?_)
              clear hK K
              (try simp only [Act.put, List.setIfInBounds_toArray, List.set_cons_zero, List.set_cons_succ])
              refine tkH (i := 13) (d := some 35) (v := ?_) (hy := Or.inl ⟨by rfl, ?_⟩) (h := ?_)
              rotate_left
              · (intro w hSw; (try dsimp only at hSw); go_simp; (try with_reducible rfl))
              (try simp only [Act.put, tkA, tkB, tkC])
              refine tkH (i := 14) (d := some 36) (v := ?_) (hy := Or.inl ⟨by rfl, ?_⟩) (h := ?_)
              rotate_left
              · (intro w hSw; (try dsimp only at hSw); go_simp; (try with_reducible rfl))
              (try simp only [Act.put, tkA, tkB, tkC])
              refine tkH (i := 15) (d := some 37) (v := ?_) (hy := Or.inl ⟨by rfl, ?_⟩) (h := ?_)
              rotate_left
              · (intro w hSw; (try dsimp only at hSw); go_simp; (try with_reducible rfl))
              (try simp only [Act.put, tkA, tkB, tkC])
              refine tkH (i := 16) (d := some 38) (v := ?_) (hy := Or.inl ⟨by rfl, ?_⟩) (h := ?_)
              rotate_left
              · (intro w hSw; (try dsimp only at hSw); go_simp; (try with_reducible rfl))
              (try simp only [Act.put, tkA, tkB, tkC])
              refine tkH (i := 17) (d := some 39) (v := ?_) (hy := Or.inl ⟨by rfl, ?_⟩) (h := ?_)
              rotate_left
              · (intro w hSw; (try dsimp only at hSw); go_simp; (try with_reducible rfl))
              (try simp only [Act.put, tkA, tkB, tkC])
              refine tkH (i := 18) (d := some 40) (v := ?_) (hy := Or.inl ⟨by rfl, ?_⟩) (h := ?_)
              rotate_left
              · (intro w hSw; (try dsimp only at hSw); go_simp; (try with_reducible rfl))
              (try simp only [Act.put, tkA, tkB, tkC])
              refine tkH (i := 19) (d := some 41) (v := ?_) (hy := Or.inl ⟨by rfl, ?_⟩) (h := ?_)
              rotate_left
              · (intro w hSw; (try dsimp only at hSw); go_simp; (try with_reducible rfl))
              (try simp only [Act.put, tkA, tkB, tkC])
              refine tkH (i := 20) (d := some 42) (v := ?_) (hy := Or.inl ⟨by rfl, ?_⟩) (h := ?_)
              rotate_left
              · (intro w hSw; (try dsimp only at hSw); go_simp; (try with_reducible rfl))
              (try simp only [Act.put, tkA, tkB, tkC])
              refine tkH (i := 21) (d := some 43) (v := ?_) (hy := Or.inl ⟨by rfl, ?_⟩) (h := ?_)
              rotate_left
              · (intro w hSw; (try dsimp only at hSw); go_simp; (try with_reducible rfl))
              (try simp only [Act.put, tkA, tkB, tkC])
              refine tkH (i := 22) (d := some 44) (v := ?_) (hy := Or.inl ⟨by rfl, ?_⟩) (h := ?_)
              rotate_left
              · (intro w hSw; (try dsimp only at hSw); go_simp; (try with_reducible rfl))
              (try simp only [Act.put, tkA, tkB, tkC])
              refine tkH (i := 23) (d := some 45) (v := ?_) (hy := Or.inl ⟨by rfl, ?_⟩) (h := ?_)
              rotate_left
              · (intro w hSw; (try dsimp only at hSw); go_simp; (try with_reducible rfl))
              (try simp only [Act.put, tkA, tkB, tkC])
              refine tkH (i := 24) (d := some 46) (v := ?_) (hy := Or.inl ⟨by rfl, ?_⟩) (h := ?_)
              rotate_left
              · (intro w hSw; (try dsimp only at hSw); go_simp; (try with_reducible rfl))
              (try simp only [Act.put, tkA, tkB, tkC])
              refine tkH (i := 25) (d := some 47) (v := ?_) (hy := Or.inl ⟨by rfl, ?_⟩) (h := ?_)
              rotate_left
              · (intro w hSw; (try dsimp only at hSw); go_simp; (try with_reducible rfl))
              (try simp only [Act.put, tkA, tkB, tkC])
              refine tkH (i := 26) (d := some 48) (v := ?_) (hy := Or.inl ⟨by rfl, ?_⟩) (h := ?_)
              rotate_left
              · (intro w hSw; (try dsimp only at hSw); go_simp; (try with_reducible rfl))
              (try simp only [Act.put, tkA, tkB, tkC])
              refine tkH (i := 27) (d := some 49) (v := ?_) (hy := Or.inl ⟨by rfl, ?_⟩) (h := ?_)
              rotate_left
              · (intro w hSw; (try dsimp only at hSw); go_simp; (try with_reducible rfl))
              (try simp only [Act.put, tkA, tkB, tkC])
              refine tkH (i := 28) (d := some 50) (v := ?_) (hy := Or.inl ⟨by rfl, ?_⟩) (h := ?_)
              rotate_left
              · (intro w hSw; (try dsimp only at hSw); go_simp; (try with_reducible rfl))
              (try simp only [Act.put, tkA, tkB, tkC])
              refine tkH (i := 29) (d := some 51) (v := ?_) (hy := Or.inl ⟨by rfl, ?_⟩) (h := ?_)
              rotate_left
              · (intro w hSw; (try dsimp only at hSw); go_simp; (try with_reducible rfl))
              (try simp only [Act.put, tkA, tkB, tkC])
              refine wpAnyH_done (by kernel_rfl) ?_ _
              have hbw := hbnH.out _ _ (hA5H.out.below hb56H.out)
              obtain ⟨u0, u1, u2, u3, u4, u5, u6, u7⟩ := hHeld
              clear hH0
              have hbwH := Lib.hid hbw
              clear hbw
              go_wp2_with fail
              refine hbwH.out.mono ?_
              rintro e w7 h7
              have h70 : e = .returned (.tuple #[]) := h7.1
              subst h70
              have R5 := RH.out _ w7 _ h7
              clear h7
              have R5H := Lib.hid R5
              clear R5
              go_wp2
              refine ⟨?rel, ?measure⟩
              case measure => (simp [intOf]; omega)
              case rel => first | exact R5H.out | exact ⟨rfl, R5H.out⟩ | ((try refine ⟨rfl, ?_⟩); (repeat apply Exists.intro); refine ⟨R5H.out, ?_⟩; ((repeat' apply And.intro) <;> rfl))
            · have h3' : decide (ls < X.x.tries) = false := by simpa using h3
              rw [h2', h3', if_neg (by decide)] at hst1
              have R := Rno hst1
              clear Rno hst1
              have hA5H := Lib.hid hA5
              clear hA5
              have hr1H := Lib.hid hr1
              clear hr1
              have hedH := Lib.hid hed
              clear hed
              have hslH := Lib.hid hsl
              clear hsl
              have hltvH := Lib.hid hltv
              clear hltv
              have hlsH := Lib.hid hls
              clear hls
              have hbnH := Lib.hid hbn
              clear hbn
              have hiwH := Lib.hid hiw
              clear hiw
              have hikH := Lib.hid hik
              clear hik
              have hifrH := Lib.hid hifr
              clear hifr
              have RH := Lib.hid R
              clear R
              have hH0H := Lib.hid hH0
              clear hH0
              have hH0 := hH0H.out
              go_wp2_with fail
              refine wp_region_held_drew (S := fun w' : World => w'.cell? ⟨X.f, 7, none⟩ = some (.int .i64 s.now) ∧ w'.cell? ⟨X.f, 10, none⟩ = some (.slice (some ⟨X.lb, 0, none⟩) X.x.works.n X.x.works.n) ∧ w'.cell? ⟨X.lb, k, none⟩ = some (.int .i64 ls) ∧ w'.cell? ⟨X.f, 3, none⟩ = some (.int .i64 X.x.tries) ∧ w'.cell? ⟨ab, ao, none⟩ = some (.int .i64 iw) ∧ w'.cell? ⟨ab, ao + 1, none⟩ = some (.int .i64 ik) ∧ w'.cell? ⟨ab, ao + 2, none⟩ = some (.int .i64 ifr) ∧ w'.cell? ⟨ab, ao + 3, none⟩ = some (.int .i64 ed)) (by kernel_rfl) hH0 (fun hHeld => ?_)
              refine tkH (i := 0) (d := some 22) (v := ?_) (hy := Or.inl ⟨by rfl, ?_⟩) (h := ?_)
              rotate_left
              · (intro w hSw; (try dsimp only at hSw); go_simp; (try with_reducible rfl))
              (try simp only [Act.put, tkA, tkB, tkC])
              refine tkH (i := 1) (d := some 23) (v := ?_) (hy := Or.inl ⟨by rfl, ?_⟩) (h := ?_)
              rotate_left
              · (intro w hSw; (try dsimp only at hSw); go_simp; (try with_reducible rfl))
              (try simp only [Act.put, tkA, tkB, tkC])
              refine tkH (i := 2) (d := some 24) (v := ?_) (hy := Or.inl ⟨by rfl, ?_⟩) (h := ?_)
              rotate_left
              · (intro w hSw; (try dsimp only at hSw); go_simp; (try with_reducible rfl))
              (try simp only [Act.put, tkA, tkB, tkC])
              refine tkH (i := 3) (d := some 25) (v := ?_) (hy := Or.inl ⟨by rfl, ?_⟩) (h := ?_)
              rotate_left
              · (intro w hSw; (try dsimp only at hSw); go_simp; (try with_reducible rfl))
              (try simp only [Act.put, tkA, tkB, tkC])
              refine tkH (i := 4) (d := some 26) (v := ?_) (hy := Or.inl ⟨by rfl, ?_⟩) (h := ?_)
              rotate_left
              · (intro w hSw; (try dsimp only at hSw); go_simp; (try with_reducible rfl))
              (try simp only [Act.put, tkA, tkB, tkC])
              refine tkH (i := 5) (d := some 27) (v := ?_) (hy := Or.inl ⟨by rfl, ?_⟩) (h := ?_)
              rotate_left
              · (intro w hSw; (try dsimp only at hSw); go_simp; (try with_reducible rfl))
              (try simp only [Act.put, tkA, tkB, tkC])
              refine tkH (i := 6) (d := some 28) (v := ?_) (hy := Or.inl ⟨by rfl, ?_⟩) (h := ?_)
              rotate_left
              · (intro w hSw; (try dsimp only at hSw); go_simp; (try with_reducible rfl))
              (try simp only [Act.put, tkA, tkB, tkC])
              refine tkH (i := 7) (d := some 29) (v := ?_) (hy := Or.inl ⟨by rfl, ?_⟩) (h := ?_)
              rotate_left
              · (intro w hSw; (try dsimp only at hSw); go_simp; (try with_reducible rfl))
              (try simp only [Act.put, tkA, tkB, tkC])
              refine tkH (i := 9) (d := some 31) (v := ?_) (hy := Or.inl ⟨by rfl, ?_⟩) (h := ?_)
              rotate_left
              · (intro w hSw; (try dsimp only at hSw); go_simp; (try with_reducible rfl))
              (try simp only [Act.put, tkA, tkB, tkC])
              refine tkH (i := 10) (d := some 32) (v := ?_) (hy := Or.inl ⟨by rfl, ?_⟩) (h := ?_)
              rotate_left
              · (intro w hSw; (try dsimp only at hSw); go_simp; (try with_reducible rfl))
              (try simp only [Act.put, tkA, tkB, tkC])
              refine tkH (i := 11) (d := some 33) (v := ?_) (hy := Or.inl ⟨by rfl, ?_⟩) (h := ?_)
              rotate_left
              · (intro w hSw; (try dsimp only at hSw); go_simp; (try with_reducible rfl))
              (try simp only [Act.put, tkA, tkB, tkC])
              refine tkH (i := 12) (d := some 34) (v := ?_) (hy := Or.inl ⟨by rfl, ?_⟩) (h := ?_)
              rotate_left
              · (intro w hSw; (try dsimp only at hSw); go_simp; (try with_reducible rfl))
              (try simp only [Act.put, tkA, tkB, tkC])
              refine wpAnyH_ready (rs := [8]) (by kernel_rfl) (by simp) ?_
              refine AllReadyH.cons (i := 8) rfl (fun K hK => ?_) AllReadyH.nil
              go_simp
              go_at_call 121
              refine (hslH.out _ (Below.refl _ _).drew).mono ?_
              rintro e w6 ⟨rfl, hb6⟩
              rw [hltvH.out]
              have hHeld := keep8 hb6 hHeld
              have hb56 : Below w5.heap.size w5 w6 := (Below.refl _ _).drew.trans hb6
              clear hb6
              have hb56H := Lib.hid hb56
              clear hb56
              refine hK.out _ _ hHeld (fun hHeld => ?_)
              clear hK K
              (try simp only [Act.put, List.setIfInBounds_toArray, List.set_cons_zero, List.set_cons_succ])
              refine tkH (i := 13) (d := some 35) (v := ?_) (hy := Or.inl ⟨by rfl, ?_⟩) (h := ?_)
              rotate_left
              · (intro w hSw; (try dsimp only at hSw); go_simp; (try with_reducible rfl))
              (try simp only [Act.put, tkA, tkB, tkC])
              refine tkH (i := 14) (d := some 36) (v := ?_) (hy := Or.inl ⟨by rfl, ?_⟩) (h := ?_)
              rotate_left
              · (intro w hSw; (try dsimp only at hSw); go_simp; (try with_reducible rfl))
              (try simp only [Act.put, tkA, tkB, tkC])
              refine tkH (i := 15) (d := some 37) (v := ?_) (hy := Or.inl ⟨by rfl, ?_⟩) (h := ?_)
              rotate_left
              · (intro w hSw; (try dsimp only at hSw); go_simp; (try with_reducible rfl))
              (try simp only [Act.put, tkA, tkB, tkC])
              refine tkH (i := 16) (d := some 38) (v := ?_) (hy := Or.inl ⟨by rfl, ?_⟩) (h := ?_)
              rotate_left
              · (intro w hSw; (try dsimp only at hSw); go_simp; (try with_reducible rfl))
              (try simp only [Act.put, tkA, tkB, tkC])
              refine tkH (i := 17) (d := some 39) (v := ?_) (hy := Or.inl ⟨by rfl, ?_⟩) (h := ?_)
              rotate_left
              · (intro w hSw; (try dsimp only at hSw); go_simp; (try with_reducible rfl))
              (try simp only [Act.put, tkA, tkB, tkC])
              refine tkH (i := 18) (d := some 40) (v := ?_) (hy := Or.inl ⟨by rfl, ?_⟩) (h := ?_)
              rotate_left
              · (intro w hSw; (try dsimp only at hSw); go_simp; (try with_reducible rfl))
              (try simp only [Act.put, tkA, tkB, tkC])
              refine tkH (i := 19) (d := some 41) (v := ?_) (hy := Or.inl ⟨by rfl, ?_⟩) (h := ?_)
              rotate_left
              · (intro w hSw; (try dsimp only at hSw); go_simp; (try with_reducible rfl))
              (try simp only [Act.put, tkA, tkB, tkC])
              refine tkH (i := 20) (d := some 42) (v := ?_) (hy := Or.inl ⟨by rfl, ?_⟩) (h := ?_)
              rotate_left
              · (intro w hSw; (try dsimp only at hSw); go_simp; (try with_reducible rfl))
              (try simp only [Act.put, tkA, tkB, tkC])
              refine tkH (i := 21) (d := some 43) (v := ?_) (hy := Or.inl ⟨by rfl, ?_⟩) (h := ?_)
              rotate_left
              · (intro w hSw; (try dsimp only at hSw); go_simp; (try with_reducible rfl))
              (try simp only [Act.put, tkA, tkB, tkC])
              refine tkH (i := 22) (d := some 44) (v := ?_) (hy := Or.inl ⟨by rfl, ?_⟩) (h := ?_)
              rotate_left
              · (intro w hSw; (try dsimp only at hSw); go_simp; (try with_reducible rfl))
              (try simp only [Act.put, tkA, tkB, tkC])
              refine tkH (i := 23) (d := some 45) (v := ?_) (hy := Or.inl ⟨by rfl, ?_⟩) (h := ?_)
              rotate_left
              · (intro w hSw; (try dsimp only at hSw); go_simp; (try with_reducible rfl))
              (try simp only [Act.put, tkA, tkB, tkC])
              refine tkH (i := 24) (d := some 46) (v := ?_) (hy := Or.inl ⟨by rfl, ?_⟩) (h := ?_)
              rotate_left
              · (intro w hSw; (try dsimp only at hSw); go_simp; (try with_reducible rfl))
              (try simp only [Act.put, tkA, tkB, tkC])
              refine tkH (i := 25) (d := some 47) (v := ?_) (hy := Or.inl ⟨by rfl, ?_⟩) (h := ?_)
              rotate_left
              · (intro w hSw; (try dsimp only at hSw); go_simp; (try with_reducible rfl))
              (try simp only [Act.put, tkA, tkB, tkC])
              refine tkH (i := 26) (d := some 48) (v := ?_) (hy := Or.inl ⟨by rfl, ?_⟩) (h := ?_)
              rotate_left
              · (intro w hSw; (try dsimp only at hSw); go_simp; (try with_reducible rfl))
              (try simp only [Act.put, tkA, tkB, tkC])
              refine tkH (i := 27) (d := some 49) (v := ?_) (hy := Or.inl ⟨by rfl, ?_⟩) (h := ?_)
              rotate_left
              · (intro w hSw; (try dsimp only at hSw); go_simp; (try with_reducible rfl))
              (try simp only [Act.put, tkA, tkB, tkC])
              refine tkH (i := 28) (d := some 50) (v := ?_) (hy := Or.inl ⟨by rfl, ?_⟩) (h := ?_)
              rotate_left
              · (intro w hSw; (try dsimp only at hSw); go_simp; (try with_reducible rfl))
              (try simp only [Act.put, tkA, tkB, tkC])
              refine tkH (i := 29) (d := some 51) (v := ?_) (hy := Or.inl ⟨by rfl, ?_⟩) (h := ?_)
              rotate_left
              · (intro w hSw; (try dsimp only at hSw); go_simp; (try with_reducible rfl))
              (try simp only [Act.put, tkA, tkB, tkC])
              refine wpAnyH_done (by kernel_rfl) ?_ _
              clear hHeld hH0
              go_wp2
              refine ⟨?rel, ?measure⟩
              case measure => (simp [intOf]; omega)
              case rel => first | exact (RH.out _ hb56H.out) | exact ⟨rfl, (RH.out _ hb56H.out)⟩ | ((try refine ⟨rfl, ?_⟩); (repeat apply Exists.intro); refine ⟨(RH.out _ hb56H.out), ?_⟩; ((repeat' apply And.intro) <;> rfl))
          · have h2' : decide (lt ≤ s.now) = false := by simpa using h2
            rw [h2', if_neg (by simp)] at hst1
            have R := Rno hst1
            clear Rno hst1
            have hA5H := Lib.hid hA5
            clear hA5
            have hr1H := Lib.hid hr1
            clear hr1
            have hedH := Lib.hid hed
            clear hed
            have hslH := Lib.hid hsl
            clear hsl
            have hltvH := Lib.hid hltv
            clear hltv
            have hlsH := Lib.hid hls
            clear hls
            have hbnH := Lib.hid hbn
            clear hbn
            have hiwH := Lib.hid hiw
            clear hiw
            have hikH := Lib.hid hik
            clear hik
            have hifrH := Lib.hid hifr
            clear hifr
            have RH := Lib.hid R
            clear R
            have hH0H := Lib.hid hH0
            clear hH0
            have hH0 := hH0H.out
            go_wp2_with fail
            refine wp_region_held_drew (S := fun w' : World => w'.cell? ⟨X.f, 7, none⟩ = some (.int .i64 s.now) ∧ w'.cell? ⟨X.f, 10, none⟩ = some (.slice (some ⟨X.lb, 0, none⟩) X.x.works.n X.x.works.n) ∧ w'.cell? ⟨X.lb, k, none⟩ = some (.int .i64 ls) ∧ w'.cell? ⟨X.f, 3, none⟩ = some (.int .i64 X.x.tries) ∧ w'.cell? ⟨ab, ao, none⟩ = some (.int .i64 iw) ∧ w'.cell? ⟨ab, ao + 1, none⟩ = some (.int .i64 ik) ∧ w'.cell? ⟨ab, ao + 2, none⟩ = some (.int .i64 ifr) ∧ w'.cell? ⟨ab, ao + 3, none⟩ = some (.int .i64 ed)) (by kernel_rfl) hH0 (fun hHeld => ?_)
            refine tkH (i := 0) (d := some 22) (v := ?_) (hy := Or.inl ⟨by rfl, ?_⟩) (h := ?_)
            rotate_left
            · (intro w hSw; (try dsimp only at hSw); go_simp; (try with_reducible rfl))
            (try simp only [Act.put, tkA, tkB, tkC])
            refine tkH (i := 1) (d := some 23) (v := ?_) (hy := Or.inl ⟨by rfl, ?_⟩) (h := ?_)
            rotate_left
            · (intro w hSw; (try dsimp only at hSw); go_simp; (try with_reducible rfl))
            (try simp only [Act.put, tkA, tkB, tkC])
            refine tkH (i := 2) (d := some 24) (v := ?_) (hy := Or.inl ⟨by rfl, ?_⟩) (h := ?_)
            rotate_left
            · (intro w hSw; (try dsimp only at hSw); go_simp; (try with_reducible rfl))
            (try simp only [Act.put, tkA, tkB, tkC])
            refine tkH (i := 3) (d := some 25) (v := ?_) (hy := Or.inl ⟨by rfl, ?_⟩) (h := ?_)
            rotate_left
            · (intro w hSw; (try dsimp only at hSw); go_simp; (try with_reducible rfl))
            (try simp only [Act.put, tkA, tkB, tkC])
            refine tkH (i := 4) (d := some 26) (v := ?_) (hy := Or.inl ⟨by rfl, ?_⟩) (h := ?_)
            rotate_left
            · (intro w hSw; (try dsimp only at hSw); go_simp; (try with_reducible rfl))
            (try simp only [Act.put, tkA, tkB, tkC])
            refine tkH (i := 5) (d := some 27) (v := ?_) (hy := Or.inl ⟨by rfl, ?_⟩) (h := ?_)
            rotate_left
            · (intro w hSw; (try dsimp only at hSw); go_simp; (try with_reducible rfl))
            (try simp only [Act.put, tkA, tkB, tkC])
            refine tkH (i := 6) (d := some 28) (v := ?_) (hy := Or.inl ⟨by rfl, ?_⟩) (h := ?_)
            rotate_left
            · (intro w hSw; (try dsimp only at hSw); go_simp; (try with_reducible rfl))
            (try simp only [Act.put, tkA, tkB, tkC])
            refine tkH (i := 7) (d := some 29) (v := ?_) (hy := Or.inl ⟨by rfl, ?_⟩) (h := ?_)
            rotate_left
            · (intro w hSw; (try dsimp only at hSw); go_simp; (try with_reducible rfl))
            (try simp only [Act.put, tkA, tkB, tkC])
            refine tkH (i := 9) (d := some 31) (v := ?_) (hy := Or.inl ⟨by rfl, ?_⟩) (h := ?_)
            rotate_left
            · (intro w hSw; (try dsimp only at hSw); go_simp; (try with_reducible rfl))
            (try simp only [Act.put, tkA, tkB, tkC])
            refine tkH (i := 10) (d := some 32) (v := ?_) (hy := Or.inl ⟨by rfl, ?_⟩) (h := ?_)
            rotate_left
            · (intro w hSw; (try dsimp only at hSw); go_simp; (try with_reducible rfl))
            (try simp only [Act.put, tkA, tkB, tkC])
            refine tkH (i := 11) (d := some 33) (v := ?_) (hy := Or.inl ⟨by rfl, ?_⟩) (h := ?_)
            rotate_left
            · (intro w hSw; (try dsimp only at hSw); go_simp; (try with_reducible rfl))
            (try simp only [Act.put, tkA, tkB, tkC])
            refine tkH (i := 12) (d := some 34) (v := ?_) (hy := Or.inl ⟨by rfl, ?_⟩) (h := ?_)
            rotate_left
            · (intro w hSw; (try dsimp only at hSw); go_simp; (try with_reducible rfl))
            (try simp only [Act.put, tkA, tkB, tkC])
            refine wpAnyH_ready (rs := [8]) (by kernel_rfl) (by simp) ?_
            refine AllReadyH.cons (i := 8) rfl (fun K hK => ?_) AllReadyH.nil
            go_simp
            go_at_call 121
            refine (hslH.out _ (Below.refl _ _).drew).mono ?_
            rintro e w6 ⟨rfl, hb6⟩
            rw [hltvH.out]
            have hHeld := keep8 hb6 hHeld
            have hb56 : Below w5.heap.size w5 w6 := (Below.refl _ _).drew.trans hb6
            clear hb6
            have hb56H := Lib.hid hb56
            clear hb56
            refine hK.out _ _ hHeld (fun hHeld => ?_)
            clear hK K
            (try simp only [Act.put, List.setIfInBounds_toArray, List.set_cons_zero, List.set_cons_succ])
            refine tkH (i := 13) (d := some 35) (v := ?_) (hy := Or.inl ⟨by rfl, ?_⟩) (h := ?_)
            rotate_left
            · (intro w hSw; (try dsimp only at hSw); go_simp; (try with_reducible rfl))
            (try simp only [Act.put, tkA, tkB, tkC])
            refine tkH (i := 14) (d := some 36) (v := ?_) (hy := Or.inl ⟨by rfl, ?_⟩) (h := ?_)
            rotate_left
            · (intro w hSw; (try dsimp only at hSw); go_simp; (try with_reducible rfl))
            (try simp only [Act.put, tkA, tkB, tkC])
            refine tkH (i := 15) (d := some 37) (v := ?_) (hy := Or.inl ⟨by rfl, ?_⟩) (h := ?_)
            rotate_left
            · (intro w hSw; (try dsimp only at hSw); go_simp; (try with_reducible rfl))
            (try simp only [Act.put, tkA, tkB, tkC])
            refine skH (i := 16) (d := some 38) ?_
            (try simp only [Act.put, tkA, tkB, tkC])
            refine skH (i := 17) (d := some 39) ?_
            (try simp only [Act.put, tkA, tkB, tkC])
            refine skH (i := 18) (d := some 40) ?_
            (try simp only [Act.put, tkA, tkB, tkC])
            refine skH (i := 19) (d := some 41) ?_
            (try simp only [Act.put, tkA, tkB, tkC])
            refine skH (i := 20) (d := some 42) ?_
            (try simp only [Act.put, tkA, tkB, tkC])
            refine skH (i := 21) (d := some 43) ?_
            (try simp only [Act.put, tkA, tkB, tkC])
            refine skH (i := 22) (d := some 44) ?_
            (try simp only [Act.put, tkA, tkB, tkC])
            refine skH (i := 23) (d := some 45) ?_
            (try simp only [Act.put, tkA, tkB, tkC])
            refine skH (i := 24) (d := some 46) ?_
            (try simp only [Act.put, tkA, tkB, tkC])
            refine skH (i := 25) (d := some 47) ?_
            (try simp only [Act.put, tkA, tkB, tkC])
            refine skH (i := 26) (d := some 48) ?_
            (try simp only [Act.put, tkA, tkB, tkC])
            refine skH (i := 27) (d := some 49) ?_
            (try simp only [Act.put, tkA, tkB, tkC])
            refine skH (i := 28) (d := some 50) ?_
            (try simp only [Act.put, tkA, tkB, tkC])
            refine tkH (i := 29) (d := some 51) (v := ?_) (hy := Or.inl ⟨by rfl, ?_⟩) (h := ?_)
            rotate_left
            · (intro w hSw; (try dsimp only at hSw); go_simp; (try with_reducible rfl))
            (try simp only [Act.put, tkA, tkB, tkC])
            refine wpAnyH_done (by kernel_rfl) ?_ _
            clear hHeld hH0
            go_wp2
            refine ⟨?rel, ?measure⟩
            case measure => (simp [intOf]; omega)
            case rel => first | exact (RH.out _ hb56H.out) | exact ⟨rfl, (RH.out _ hb56H.out)⟩ | ((try refine ⟨rfl, ?_⟩); (repeat apply Exists.intro); refine ⟨(RH.out _ hb56H.out), ?_⟩; ((repeat' apply And.intro) <;> rfl))
        · have h1' : ((k4 : Int) == 1) = false := by
            have : ¬ (k4 : Int) = 1 := by omega
            simpa using this
          have hst1 := dbK_no (F := X.F) (s := s) (k := k) (by rw [← hk4]; exact h1)
          have R : ∀ W, Below w5.heap.size w5 W → DbRel X s ov w0 (.int .i64 ((k : Int) + 1)) W := fun W hW => ⟨k + 1, _, hlt, by go_num, by rw [hst1]; exact hA5.below hW⟩
          clear hst1 hA5 hk4 hsl4 h1 hb5 hl1
          have RH := Lib.hid R
          clear R
          go_wp2_with fail
          refine wp_region_held_drew (S := fun _ => True) (by kernel_rfl) trivial (fun hHeld => ?_)
          refine tkH (i := 0) (d := some 22) (v := ?_) (hy := Or.inl ⟨by rfl, ?_⟩) (h := ?_)
          rotate_left
          · (intro w hSw; (try dsimp only at hSw); go_simp; (try with_reducible rfl))
          (try simp only [Act.put, tkA, tkB, tkC])
          refine tkH (i := 1) (d := some 23) (v := ?_) (hy := Or.inl ⟨by rfl, ?_⟩) (h := ?_)
          rotate_left
          · (intro w hSw; (try dsimp only at hSw); go_simp; (try with_reducible rfl))
          (try simp only [Act.put, tkA, tkB, tkC])
          refine tkH (i := 2) (d := some 24) (v := ?_) (hy := Or.inl ⟨by rfl, ?_⟩) (h := ?_)
          rotate_left
          · (intro w hSw; (try dsimp only at hSw); go_simp; (try with_reducible rfl))
          (try simp only [Act.put, tkA, tkB, tkC])
          refine tkH (i := 3) (d := some 25) (v := ?_) (hy := Or.inl ⟨by rfl, ?_⟩) (h := ?_)
          rotate_left
          · (intro w hSw; (try dsimp only at hSw); go_simp; (try with_reducible rfl))
          (try simp only [Act.put, tkA, tkB, tkC])
          refine skH (i := 4) (d := some 26) ?_
          (try simp only [Act.put, tkA, tkB, tkC])
          refine skH (i := 5) (d := some 27) ?_
          (try simp only [Act.put, tkA, tkB, tkC])
          refine skH (i := 6) (d := some 28) ?_
          (try simp only [Act.put, tkA, tkB, tkC])
          refine skH (i := 7) (d := some 29) ?_
          (try simp only [Act.put, tkA, tkB, tkC])
          refine skH (i := 8) (d := some 30) ?_
          (try simp only [Act.put, tkA, tkB, tkC])
          refine skH (i := 9) (d := some 31) ?_
          (try simp only [Act.put, tkA, tkB, tkC])
          refine skH (i := 10) (d := some 32) ?_
          (try simp only [Act.put, tkA, tkB, tkC])
          refine skH (i := 11) (d := some 33) ?_
          (try simp only [Act.put, tkA, tkB, tkC])
          refine skH (i := 12) (d := some 34) ?_
          (try simp only [Act.put, tkA, tkB, tkC])
          refine skH (i := 13) (d := some 35) ?_
          (try simp only [Act.put, tkA, tkB, tkC])
          refine tkH (i := 14) (d := some 36) (v := ?_) (hy := Or.inl ⟨by rfl, ?_⟩) (h := ?_)
          rotate_left
          · (intro w hSw; (try dsimp only at hSw); go_simp; (try with_reducible rfl))
          (try simp only [Act.put, tkA, tkB, tkC])
          refine tkH (i := 15) (d := some 37) (v := ?_) (hy := Or.inl ⟨by rfl, ?_⟩) (h := ?_)
          rotate_left
          · (intro w hSw; (try dsimp only at hSw); go_simp; (try with_reducible rfl))
          (try simp only [Act.put, tkA, tkB, tkC])
          refine skH (i := 16) (d := some 38) ?_
          (try simp only [Act.put, tkA, tkB, tkC])
          refine skH (i := 17) (d := some 39) ?_
          (try simp only [Act.put, tkA, tkB, tkC])
          refine skH (i := 18) (d := some 40) ?_
          (try simp only [Act.put, tkA, tkB, tkC])
          refine skH (i := 19) (d := some 41) ?_
          (try simp only [Act.put, tkA, tkB, tkC])
          refine skH (i := 20) (d := some 42) ?_
          (try simp only [Act.put, tkA, tkB, tkC])
          refine skH (i := 21) (d := some 43) ?_
          (try simp only [Act.put, tkA, tkB, tkC])
          refine skH (i := 22) (d := some 44) ?_
          (try simp only [Act.put, tkA, tkB, tkC])
          refine skH (i := 23) (d := some 45) ?_
          (try simp only [Act.put, tkA, tkB, tkC])
          refine skH (i := 24) (d := some 46) ?_
          (try simp only [Act.put, tkA, tkB, tkC])
          refine skH (i := 25) (d := some 47) ?_
          (try simp only [Act.put, tkA, tkB, tkC])
          refine skH (i := 26) (d := some 48) ?_
          (try simp only [Act.put, tkA, tkB, tkC])
          refine skH (i := 27) (d := some 49) ?_
          (try simp only [Act.put, tkA, tkB, tkC])
          refine skH (i := 28) (d := some 50) ?_
          (try simp only [Act.put, tkA, tkB, tkC])
          refine tkH (i := 29) (d := some 51) (v := ?_) (hy := Or.inl ⟨by rfl, ?_⟩) (h := ?_)
          rotate_left
          · (intro w hSw; (try dsimp only at hSw); go_simp; (try with_reducible rfl))
          (try simp only [Act.put, tkA, tkB, tkC])
          refine wpAnyH_done (by kernel_rfl) ?_ _
          clear hHeld
          go_wp2
          refine ⟨?rel, ?measure⟩
          case measure => (simp [intOf]; omega)
          case rel => first | exact (RH.out _ (Below.refl _ _).drew) | exact ⟨rfl, (RH.out _ (Below.refl _ _).drew)⟩ | ((try refine ⟨rfl, ?_⟩); (repeat apply Exists.intro); refine ⟨(RH.out _ (Below.refl _ _).drew), ?_⟩; ((repeat' apply And.intro) <;> rfl))
      · obtain rfl : k = X.x.works.n := by omega
        have R : StAns X (dblP X.F s) ov w0 (.returned (.tuple #[])) wr := ⟨rfl, rv', by rw [← dbK_all (by rw [hdbH.out, hdbvH.out]), n2H.out]; exact hAk⟩
        clear hAk
        have RH := Lib.hid R
        clear R
        go_wp2
        go_end0
        exact RH.out
end Go.Proofs.YtbnkoefljcekbaaGreatDoor.C9

namespace Go.Proofs.YtbnkoefljcekbaaGreatDoor.C9
open Go.ChangeShapes Go.WideShapes Go.Deep Go.RowKit
set_option linter.unusedVariables false
set_option linter.unusedSimpArgs false

/-! ### plain: looking at one moment after the other -/
def see1 (t : Int) (x : Int × Bool) (a : Int) : Int × Bool := if t < a ∧ (x.2 = false ∨ a < x.1) then (a, true) else x
def seeF (t : Int) (L : List Int) : Int × Bool := L.foldl (see1 t) (0, false)
theorem seeF_snoc (t : Int) (L : List Int) (a : Int) : seeF t (L ++ [a]) = see1 t (seeF t L) a := by unfold seeF; rw [List.foldl_append]; rfl
theorem seeF_spec (t : Int) (L : List Int) : ((seeF t L).2 = false → (seeF t L).1 = 0 ∧ ∀ x ∈ L, x ≤ t) ∧ ((seeF t L).2 = true → (seeF t L).1 ∈ L ∧ t < (seeF t L).1 ∧ ∀ x ∈ L, t < x → (seeF t L).1 ≤ x) := by
  have aux : ∀ k, k ≤ L.length → ((seeF t (L.take k)).2 = false → (seeF t (L.take k)).1 = 0 ∧ ∀ x ∈ L.take k, x ≤ t) ∧ ((seeF t (L.take k)).2 = true → (seeF t (L.take k)).1 ∈ L.take k ∧ t < (seeF t (L.take k)).1 ∧ ∀ x ∈ L.take k, t < x → (seeF t (L.take k)).1 ≤ x) := by
    intro k
    induction k with
    | zero => intro _; exact ⟨fun _ => ⟨rfl, fun x h => by simp at h⟩, fun h => by simp [seeF] at h⟩
    | succ k ih =>
      intro hk
      obtain ⟨h1, h2⟩ := ih (by omega)
      obtain ⟨a, ha⟩ : ∃ a, L[k]? = some a := ⟨L[k]'(by omega), List.getElem?_eq_getElem _⟩
      rw [List.take_add_one, ha, Option.toList_some, seeF_snoc]
      unfold see1
      split
      · rename_i hc
        refine ⟨fun h => (by cases h), fun _ => ⟨by simp, hc.1, fun x hx hxt => ?_⟩⟩
        rcases List.mem_append.1 hx with hx | hx
        · cases hb : (seeF t (L.take k)).2
          · have := (h1 hb).2 x hx; omega
          · have := (h2 hb).2.2 x hx hxt
            rcases hc.2 with h | h
            · rw [hb] at h; cases h
            · show a ≤ x; omega
        · rw [List.mem_singleton.1 hx]; exact Int.le_refl _
      · rename_i hc
        refine ⟨fun h => ⟨(h1 h).1, fun x hx => ?_⟩, fun h => ⟨List.mem_append_left _ (h2 h).1, (h2 h).2.1, fun x hx hxt => ?_⟩⟩
        · rcases List.mem_append.1 hx with hx | hx
          · exact (h1 h).2 x hx
          · rw [List.mem_singleton.1 hx]
            exact Classical.byContradiction fun hn => hc ⟨by omega, .inl h⟩
        · rcases List.mem_append.1 hx with hx | hx
          · exact (h2 h).2.2 x hx hxt
          · rw [List.mem_singleton.1 hx] at hxt ⊢
            exact Classical.byContradiction fun hn => hc ⟨hxt, .inr (by omega)⟩
  have := aux L.length (Nat.le_refl _)
  rwa [List.take_length] at this
def nxV : Option Int → Int × Bool
  | none => (0, false)
  | some m => (m, true)
theorem seeF_above (t : Int) (L : List Int) : seeF t L = nxV (above t L) := by
  obtain ⟨h1, h2⟩ := seeF_spec t L
  cases hb : (seeF t L).2
  · obtain ⟨a, b⟩ := h1 hb
    have : above t L = none := by
      cases h : above t L with
      | none => rfl
      | some m => obtain ⟨c, d, _⟩ := above_some h; have := b m c; omega
    rw [this]
    exact Prod.ext a hb
  · obtain ⟨a, b, c⟩ := h2 hb
    obtain ⟨m, hm, hle⟩ := above_ex a b
    obtain ⟨d, e, f⟩ := above_some hm
    rw [hm]
    exact Prod.ext (by have := c m d e; show (seeF t L).1 = m; omega) hb

/-! ### one look -/
structure NxC (X : FX) (t : Int) (pb lb fb : Nat) (x : Int × Bool) (W : World) : Prop where
  p : W.cell? ⟨pb, 0, none⟩ = some (.pointer (some ⟨X.f, 0, none⟩))
  n : W.cell? ⟨X.f, 7, none⟩ = some (.int .i64 t)
  l : W.cell? ⟨lb, 0, none⟩ = some (.int .i64 x.1)
  f : W.cell? ⟨fb, 0, none⟩ = some (.bool x.2)
  lf : W.frozen? ⟨lb, 0, none⟩ = false
  ff : W.frozen? ⟨fb, 0, none⟩ = false
theorem NxC.below {X : FX} {t : Int} {pb lb fb : Nat} {x : Int × Bool} {W W' : World} (h : NxC X t pb lb fb x W) (hb : Below W.heap.size W W') : NxC X t pb lb fb x W' :=
  ⟨keepC hb h.p, keepC hb h.n, keepC hb h.l, keepC hb h.f, (hb.frozen (p := ⟨lb, 0, none⟩) (cell?_lt h.l)).trans h.lf, (hb.frozen (p := ⟨fb, 0, none⟩) (cell?_lt h.f)).trans h.ff⟩
def SeeAns (X : FX) (t : Int) (B pb lb fb : Nat) (x : Int × Bool) (W : World) (e : Ending) (w' : World) : Prop := e = .returned (.tuple #[]) ∧ NxC X t pb lb fb x w' ∧ Below B W w' ∧ W.heap.size ≤ w'.heap.size ∧ ∀ c, c ≠ lb → c ≠ fb → c < W.heap.size → w'.heap[c]? = W.heap[c]?
set_option maxHeartbeats 2000000 in
theorem see_any {X : FX} {t : Int} {B pb lb fb : Nat} {x : Int × Bool} {W : World} (a : Int) (h : NxC X t pb lb fb x W) (hl : B ≤ lb) (hf : B ≤ fb) (hB : B ≤ W.heap.size) (n1 : lb ≠ fb) (n2 : lb ≠ pb) (n3 : fb ≠ pb) (n4 : lb ≠ X.f) (n5 : fb ≠ X.f) :
    Calls Tryz.prog 122 #[.int .i64 a, .pointer (some ⟨pb, 0, none⟩), .pointer (some ⟨fb, 0, none⟩), .pointer (some ⟨lb, 0, none⟩)] W (SeeAns X t B pb lb fb (see1 t x a) W) := by
  obtain ⟨p, n, l, f, lf, ff⟩ := h
  obtain ⟨v, b⟩ := x
  simp only at l f
  have R1 : (t < a ∧ (b = false ∨ a < v)) → SeeAns X t B pb lb fb (see1 t (v, b) a) W (.returned (.tuple #[])) ((W.setCell ⟨lb, 0, none⟩ (.int .i64 a)).setCell ⟨fb, 0, none⟩ (.bool true)) := by
    intro hc
    unfold see1
    rw [if_pos hc]
    have o : ∀ (c j : Nat) (u : Value), c ≠ lb → c ≠ fb → W.cell? ⟨c, j, none⟩ = some u → ((W.setCell ⟨lb, 0, none⟩ (.int .i64 a)).setCell ⟨fb, 0, none⟩ (.bool true)).cell? ⟨c, j, none⟩ = some u := fun c j u h1 h2 h3 => by
      rw [World.cell?_setCell_other _ _ _ _ (by simp <;> omega), World.cell?_setCell_other _ _ _ _ (by simp <;> omega)]; exact h3
    refine ⟨rfl, ⟨o pb 0 _ (Ne.symm n2) (Ne.symm n3) p, o X.f 7 _ (Ne.symm n4) (Ne.symm n5) n, ?_, ?_, by rw [World.frozen?_setCell, World.frozen?_setCell]; exact lf, by rw [World.frozen?_setCell, World.frozen?_setCell]; exact ff⟩, ?_⟩
    · rw [World.cell?_setCell_other _ _ _ _ (by simp <;> omega)]
      exact World.cell?_setCell_same' _ _ _ (by rw [l]; rfl)
    · exact World.cell?_setCell_same' _ _ _ (by rw [World.cell?_setCell_other _ _ _ _ (by simp <;> omega), f]; rfl)
    · refine ⟨((Below.mono (Below.refl W.heap.size W) hB).setCell (p := ⟨lb, 0, none⟩) hl _).setCell (p := ⟨fb, 0, none⟩) hf _, by simp, fun c h1 h2 h3 => ?_⟩
      rw [(grown_setc _ ⟨fb, 0, none⟩ _).block c (by simpa using h3) (by simp; omega), (grown_setc W ⟨lb, 0, none⟩ _).block c h3 (by simp; omega)]
  have R2 : ¬ (t < a ∧ (b = false ∨ a < v)) → SeeAns X t B pb lb fb (see1 t (v, b) a) W (.returned (.tuple #[])) W := by
    intro hc
    unfold see1
    rw [if_neg hc]
    exact ⟨rfl, ⟨p, n, l, f, lf, ff⟩, Below.mono (Below.refl W.heap.size W) hB, Nat.le_refl _, fun _ _ _ _ => rfl⟩
  obtain ⟨Q, hQ⟩ : ∃ Q, SeeAns X t B pb lb fb (see1 t (v, b) a) W = Q := ⟨_, rfl⟩
  rw [hQ] at R1 R2 ⊢
  by_cases h1 : t < a
  · cases b
    · have R := R1 ⟨h1, .inl rfl⟩
      clear R1 R2
      have RH := Lib.hid R
      clear R
      have hQH := Lib.hid hQ
      clear hQ
      go_enter Tryz.func122, Tryz.ntmps122
      go_wp2
      go_end0
      exact RH.out
    · by_cases h2 : a < v
      · have R := R1 ⟨h1, .inr h2⟩
        clear R1 R2
        have RH := Lib.hid R
        clear R
        have hQH := Lib.hid hQ
        clear hQ
        go_enter Tryz.func122, Tryz.ntmps122
        go_wp2
        go_end0
        exact RH.out
      · have R := R2 (fun h => by rcases h.2 with h | h; · cases h
                                  · exact h2 h)
        have h2' : decide (a < v) = false := by simpa using h2
        clear R1 R2 h2
        have RH := Lib.hid R
        clear R
        have hQH := Lib.hid hQ
        clear hQ
        go_enter Tryz.func122, Tryz.ntmps122
        go_wp2
        go_end0
        exact RH.out
  · have R := R2 (fun h => h1 h.1)
    have h1' : decide (t < a) = false := by simpa using h1
    clear R1 R2 h1
    have RH := Lib.hid R
    clear R
    have hQH := Lib.hid hQ
    clear hQ
    go_enter Tryz.func122, Tryz.ntmps122
    go_wp2
    go_end0
    exact RH.out
end Go.Proofs.YtbnkoefljcekbaaGreatDoor.C9
