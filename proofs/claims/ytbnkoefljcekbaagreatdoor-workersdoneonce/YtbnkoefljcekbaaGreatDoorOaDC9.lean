/-
  Several texts of mine as one, without what is not wanted here: XFmC, XFmD, XDelG, XSrtK, XDelW, XFmE, XFmF, XFmG.
-/
import Derived.Test.YtbnkoefljcekbaaGreatDoorOaCC9
import Derived.Test.YtbnkoefljcekbaaGreatDoorOaGC
import Derived.StillTailTactics
import Derived.Lib.SliceRun
import Derived.Test.YtbnkoefljcekbaaGreatDoorShelfB
import Derived.Shelf.SlSortCmp.NoneTotal
import Derived.Lib.OwnBridge
import Derived.Test.YtbnkoefljcekbaaGreatDoorOaG
namespace Go.Proofs.YtbnkoefljcekbaaGreatDoor.C9
open Go.ChangeShapes Go.WideShapes Go.Deep Go.RowKit
set_option linter.unusedVariables false
set_option linter.unusedSimpArgs false

theorem elem_GRun : Elem Tryz.prog 144 RGRun.size 32 := elem_of (z := .agg #[.int .i64 0, .int .i64 0, .int .i64 0, .int .i64 0]) (by kernel_rfl) (by decide)
section
variable {X : FX} {K : KD Tryz.prog 71 Loss} {rv ov : Value} {s : PS} {w0 W W' : World}
theorem FA.cell (h : FA X K rv ov s w0 W) {b o : Nat} {u : Value} (hb : b ∈ X.bl) {s' : PS} (hc : FC X K rv ov s' w0 (W.setCell ⟨b, o, none⟩ u)) (hr : s'.runs = s.runs) : FA X K rv ov s' w0 (W.setCell ⟨b, o, none⟩ u) :=
  ⟨hc, by rw [hr]; exact own_kp h.runs (grown_setc W ⟨b, o, none⟩ u) (fun c hc e => h.rap b hb (by rw [hc]; exact e.symm)) (fun x _ hx => grun_ok_any _ _ x hx), h.rap, h.rov⟩
theorem FA.own_lt (h : FA X K rv ov s w0 W) : (∀ b, rv.ownBlock = some b → b < W.heap.size) ∧ (∀ b, ov.ownBlock = some b → b < W.heap.size) := ⟨fun b hb => (h.runs.1.lt b hb).2, fun b hb => (h.core.out.1.lt b hb).2⟩
theorem FA.far (h : FA X K rv ov s w0 W) {b o : Nat} {u : Value} (h1 : b ∉ X.bl) (h2 : ov.ownBlock ≠ some b) (h3 : rv.ownBlock ≠ some b) (h4 : X.base ≤ b) : FA X K rv ov s w0 (W.setCell ⟨b, o, none⟩ u) := by
  have hg := grown_setc W ⟨b, o, none⟩ u
  exact ⟨h.core.far hg (fun c hc => by injection hc with hc; subst hc; exact ⟨h1, h2, h4⟩), own_kp h.runs hg (fun c hc e => h3 (by rw [hc]; exact e.symm)) (fun x _ hx => grun_ok_any _ _ x hx), h.rap, h.rov⟩
theorem FA.mid (h : FA X K rv ov s w0 W) (hg : W.grownBy W' rv.ownBlock) : FC X K rv ov s w0 W' := h.core.far hg (fun b hb => ⟨fun hm => h.rap b hm hb, h.rov b hb, (h.runs.1.lt b hb).1⟩)
/-- a block that is newer than the farm -/
theorem FA.new (h : FA X K rv ov s w0 W) : W.heap.size ∉ X.bl ∧ ov.ownBlock ≠ some W.heap.size ∧ rv.ownBlock ≠ some W.heap.size ∧ X.base ≤ W.heap.size :=
  ⟨fun hm => Nat.lt_irrefl _ (h.core.lt _ hm), fun e => Nat.lt_irrefl _ (h.own_lt.2 _ e), fun e => Nat.lt_irrefl _ (h.own_lt.1 _ e), by rw [h.core.base]; exact h.core.bel.size⟩
theorem FA.fr (h : FA X K rv ov s w0 W) {r : Nat} (hb : X.f < W.heap.size) : True := trivial
end
/-- the state behind a beginning -/
def begS (F : FP) (s : PS) (i : Nat) (bo : Option Nat) : PS := { s with runs := (beginP F s.now i bo (s.runs, s.begun)).1, begun := (beginP F s.now i bo (s.runs, s.begun)).2 }
theorem begS_none {F : FP} {s : PS} {i : Nat} {bo : Option Nat} (h : bestW (canW F s.now s.runs i bo) F.speed F.nW = none) : begS F s i bo = s := by
  unfold begS beginP; simp only [h]
theorem begS_some {F : FP} {s : PS} {i k : Nat} {bo : Option Nat} (h : bestW (canW F s.now s.runs i bo) F.speed F.nW = some k) :
    begS F s i bo = { s with runs := s.runs ++ [⟨i, k, s.now, 0, 0⟩], begun := fun j => if j = i then s.begun j + 1 else s.begun j } := by
  unfold begS beginP; simp only [h]
theorem FS.beg {X : FX} {s : PS} {w0 : World} (h : FS X s w0) {i : Nat} (hi : i < X.F.nX) (bo : Option Nat) : FS X (begS X.F s i bo) w0 := by
  cases hb : bestW (canW X.F s.now s.runs i bo) X.F.speed X.F.nW with
  | none => rw [begS_none hb]; exact h
  | some k =>
    rw [begS_some hb]
    refine ⟨h.ok, h.F, h.ws, h.xs, h.ls, h.t0, h.t1, fun r hr => ?_⟩
    rcases List.mem_append.1 hr with hr | hr
    · exact h.rn r hr
    · rw [List.mem_singleton.1 hr]
      exact ⟨rfl, rfl, (bestW_some hb).1, hi, h.t0, Int.le_refl _⟩
theorem FS.wo {X : FX} {s : PS} {w0 : World} (h : FS X s w0) {i : Nat} {z : Work} (hz : X.x.works.l[i]? = some z) : 1 ≤ z.size ∧ z.size ≤ 1000000 := h.ok.wo.size z (List.mem_of_getElem? hz)
theorem FS.ends {X : FX} {s : PS} {w0 : World} (h : FS X s w0) {k i : Nat} {y : Worker} {z : Work} (hy : X.x.workers.l[k]? = some y) (hz : X.x.works.l[i]? = some z) (t : Int) :
    X.F.endAt k i t = if (endsF y z.size t).2 = true then some (endsF y z.size t).1 else none := by
  obtain ⟨o, e⟩ := h.F
  rw [e]
  simp only [fpOf]
  rw [wkOf_get hy, woOf_get hz]
/-- 'end' in memory -/
theorem FS.endV {X : FX} {s : PS} {w0 : World} (h : FS X s w0) {k i : Nat} {y : Worker} {z : Work} (hy : X.x.workers.l[k]? = some y) (hz : X.x.works.l[i]? = some z) (t : Int) {a : Int} {b : Bool} (he : endsF y z.size t = (a, b)) :
    (X.F.endAt k i t).getD (-1) = if b = true then a else -1 := by
  rw [h.ends hy hz, he]
  cases b <;> rfl
theorem keep11 {W w' : World} {a0 a1 a2 a3 a4 a5 a6 a7 a8 a9 a10 : Addr} {v0 v1 v2 v3 v4 v5 v6 v7 v8 v9 v10 : Value} (hb : Below W.heap.size W w') (h : W.cell? a0 = some v0 ∧ W.cell? a1 = some v1 ∧ W.cell? a2 = some v2 ∧ W.cell? a3 = some v3 ∧ W.cell? a4 = some v4 ∧ W.cell? a5 = some v5 ∧ W.cell? a6 = some v6 ∧ W.cell? a7 = some v7 ∧ W.cell? a8 = some v8 ∧ W.cell? a9 = some v9 ∧ W.cell? a10 = some v10) :
    w'.cell? a0 = some v0 ∧ w'.cell? a1 = some v1 ∧ w'.cell? a2 = some v2 ∧ w'.cell? a3 = some v3 ∧ w'.cell? a4 = some v4 ∧ w'.cell? a5 = some v5 ∧ w'.cell? a6 = some v6 ∧ w'.cell? a7 = some v7 ∧ w'.cell? a8 = some v8 ∧ w'.cell? a9 = some v9 ∧ w'.cell? a10 = some v10 :=
  ⟨keepC hb h.1, keepC hb h.2.1, keepC hb h.2.2.1, keepC hb h.2.2.2.1, keepC hb h.2.2.2.2.1, keepC hb h.2.2.2.2.2.1, keepC hb h.2.2.2.2.2.2.1, keepC hb h.2.2.2.2.2.2.2.1, keepC hb h.2.2.2.2.2.2.2.2.1, keepC hb h.2.2.2.2.2.2.2.2.2.1, keepC hb h.2.2.2.2.2.2.2.2.2.2⟩
theorem endsGo_ge : ∀ (l : List Span) (L T : Int), 0 ≤ L → T ≤ endsGo L T l
  | [], L, T, h => by rw [endsGo]; omega
  | sp :: r, L, T, h => by
    rw [endsGo]
    split
    · exact endsGo_ge r L T h
    · split
      · split
        · omega
        · have := endsGo_ge r (L - (sp.from_ - T)) sp.to_ (by omega)
          omega
      · have := endsGo_ge r L sp.to_ h
        omega
theorem ends_b {y : Worker} {sz t a : Int} {b : Bool} (h : endsF y sz t = (a, b)) (hs : 0 ≤ secsF y sz) (ht : 0 ≤ t) : 0 ≤ a ∧ (b = true → a ≤ y.to_ ∧ t ≤ a ∧ y.from_ ≤ t ∧ a = endsGo (secsF y sz) t y.stands.l) ∧ (b = false → a = 0) := by
  unfold endsF at h
  have hg := endsGo_ge y.stands.l (secsF y sz) t hs
  split at h
  · simp only [Prod.mk.injEq] at h
    obtain ⟨rfl, rfl⟩ := h
    exact ⟨Int.le_refl _, (fun h => by cases h), fun _ => rfl⟩
  · split at h
    · simp only [Prod.mk.injEq] at h
      obtain ⟨rfl, rfl⟩ := h
      exact ⟨Int.le_refl _, (fun h => by cases h), fun _ => rfl⟩
    · simp only [Prod.mk.injEq] at h
      obtain ⟨rfl, rfl⟩ := h
      exact ⟨by omega, fun _ => ⟨by omega, hg, by omega, rfl⟩, (fun h => by cases h)⟩
def BegAns (X : FX) (K : KD Tryz.prog 71 Loss) (rv ov : Value) (s' : PS) (w0 w : World) (e : Ending) (w' : World) : Prop :=
  e = .returned (.tuple #[]) ∧ ∃ rv', FA X K rv' ov s' w0 w' ∧ (∀ b, rv'.ownBlock = some b → rv.ownBlock = some b ∨ w.heap.size ≤ b) ∧ w.heap.size ≤ w'.heap.size ∧ ∀ b, b < w.heap.size → b ∉ X.bl → rv.ownBlock ≠ some b → w'.heap[b]? = w.heap[b]?
theorem keep5f {W w' : World} {a0 a1 a2 a3 a4 : Addr} {v0 v1 v2 v3 v4 : Value} (hb : Below W.heap.size W w') (h : W.cell? a0 = some v0 ∧ W.cell? a1 = some v1 ∧ W.cell? a2 = some v2 ∧ W.cell? a3 = some v3 ∧ W.cell? a4 = some v4) :
    w'.cell? a0 = some v0 ∧ w'.cell? a1 = some v1 ∧ w'.cell? a2 = some v2 ∧ w'.cell? a3 = some v3 ∧ w'.cell? a4 = some v4 := ⟨keepC hb h.1, keepC hb h.2.1, keepC hb h.2.2.1, keepC hb h.2.2.2.1, keepC hb h.2.2.2.2⟩
theorem keep5g {W w' : World} {row : Option Nat} {a0 a1 a2 a3 a4 : Addr} {v0 v1 v2 v3 v4 : Value} (hg : W.grownBy w' row) (n0 : some a0.block ≠ row) (n1 : some a1.block ≠ row) (n2 : some a2.block ≠ row) (n3 : some a3.block ≠ row) (n4 : some a4.block ≠ row)
    (h : W.cell? a0 = some v0 ∧ W.cell? a1 = some v1 ∧ W.cell? a2 = some v2 ∧ W.cell? a3 = some v3 ∧ W.cell? a4 = some v4) :
    w'.cell? a0 = some v0 ∧ w'.cell? a1 = some v1 ∧ w'.cell? a2 = some v2 ∧ w'.cell? a3 = some v3 ∧ w'.cell? a4 = some v4 := ⟨hg.cell h.1 n0, hg.cell h.2.1 n1, hg.cell h.2.2.1 n2, hg.cell h.2.2.2.1 n3, hg.cell h.2.2.2.2 n4⟩
set_option maxRecDepth 100000 in
set_option maxHeartbeats 8000000 in
theorem begin_any {X : FX} {K : KD Tryz.prog 71 Loss} {rv ov : Value} {s : PS} {w0 w : World} (hA : FA X K rv ov s w0 w) (hS : FS X s w0) (i : Nat) (hi : i < X.F.nX) (bo : Option Nat) (hlen : s.runs.length ≤ 900000) (hbg : 0 ≤ s.begun i ∧ s.begun i ≤ 900000) :
    Calls Tryz.prog 120 #[.pointer (some ⟨X.f, 0, none⟩), .int .i64 i, .int .i64 (bI bo)] w (BegAns X K rv ov (begS X.F s i bo) w0 w) := by
  obtain ⟨n1, n2, n3, n4, n5, n6⟩ := hS.nW
  obtain ⟨bt, hbt⟩ : ∃ b, bI bo = b := ⟨_, rfl⟩
  have hbest := best_any hA hS i hi bo (by omega)
  rw [hbt] at hbest ⊢
  cases hbw : bestW (canW X.F s.now s.runs i bo) X.F.speed X.F.nW with
  | none =>
    rw [hbw] at hbest
    have R : ∀ w', Below w.heap.size w w' → BegAns X K rv ov (begS X.F s i bo) w0 w (.returned (.tuple #[])) w' := fun w' hw => ⟨rfl, rv, by rw [begS_none hbw]; exact hA.below hw, fun b hb => .inl hb, hw.size, fun b hb _ _ => hw.block b hb⟩
    have hAH := Lib.hid hA
    clear hA
    have hSH := Lib.hid hS
    clear hS
    have hbtH := Lib.hid hbt
    clear hbt
    have hbestH := Lib.hid hbest
    clear hbest
    have hbwH := Lib.hid hbw
    clear hbw
    have RH := Lib.hid R
    clear R
    have n1H := Lib.hid n1
    clear n1
    have n2H := Lib.hid n2
    clear n2
    have n3H := Lib.hid n3
    clear n3
    have n4H := Lib.hid n4
    clear n4
    go_enter Tryz.func120, Tryz.ntmps120
    go_wp2_with fail
    refine hbestH.out.mono ?_
    rintro e w1 ⟨rfl, hb1⟩
    have hb1H := Lib.hid hb1
    clear hb1
    have hbn : bI none = -1 := rfl
    simp only [hbn]
    clear hbn
    go_wp2
    go_end0
    exact RH.out _ hb1H.out
  | some k =>
    rw [hbw] at hbest
    have hk := (bestW_some hbw).1
    obtain ⟨A, cap, hrv⟩ := hA.runs.form
    obtain ⟨n, hn⟩ : ∃ n, (s.runs.map (gr X.F)).length = n := ⟨_, rfl⟩
    rw [hn] at hrv
    subst hrv
    have hn9 : n ≤ 900000 := by rw [← hn, List.length_map]; exact hlen
    have hfl := hA.core.lt X.f hA.core.memf.1
    obtain ⟨y, hy⟩ : ∃ y, X.x.workers.l[k]? = some y := ⟨X.x.workers.l[k]'(by omega), List.getElem?_eq_getElem _⟩
    obtain ⟨z, hz⟩ : ∃ z, X.x.works.l[i]? = some z := ⟨X.x.works.l[i]'(by omega), List.getElem?_eq_getElem _⟩
    obtain ⟨by_, oy, hYA, _⟩ := (hS.ws.1).2.1 (by omega)
    obtain ⟨bx, ox, hXA, _⟩ := (hS.xs.1).2.1 (by omega)
    obtain ⟨gk, _, gto, gs⟩ := worker_good (hS.ok.wk y (List.mem_of_getElem? hy))
    obtain ⟨z0, z1⟩ := hS.wo hz
    obtain ⟨at_, okk, hE⟩ : ∃ a b, endsF y z.size s.now = (a, b) := ⟨_, _, rfl⟩
    have hev := hS.endV hy hz s.now hE
    have t0 := hS.t0
    have t1 := hS.t1
    have hbk : bI (some k) = (k : Int) := rfl
    rw [hbk] at hbest
    have R : ∀ (W8 w9 : World) (A' : Option Addr) (c' : Nat) (ed : Int), (X.F.endAt k i s.now).getD (-1) = ed → FA X K (.slice A n cap) ov { s with begun := fun j => if j = i then s.begun i + 1 else s.begun j } w0 W8 → Own RGRun 144 w9 X.base (.slice A' (n + 1) c') (s.runs.map (gr X.F) ++ [⟨i, k, s.now, ed⟩]) → W8.grownBy w9 (Value.slice A n cap).ownBlock →
        (∀ b, (Value.slice A' (n + 1) c').ownBlock = some b → (Value.slice A n cap).ownBlock = some b ∨ W8.heap.size ≤ b) → w.heap.size ≤ W8.heap.size → (∀ b, b < w.heap.size → b ∉ X.bl → W8.heap[b]? = w.heap[b]?) → BegAns X K (.slice A n cap) ov (begS X.F s i bo) w0 w (.returned (.tuple #[])) (w9.setCell ⟨X.f, 8, none⟩ (.slice A' (n + 1) c')) := by
      intro W8 w9 A' c' ed hed hA8 ho hg hat hz8 hfr8
      have hz9 := hg.size
      refine ⟨rfl, .slice A' (n + 1) c', ?_, fun b hb => (hat b hb).imp id (fun h => Nat.le_trans hz8 h), by simp; omega, fun b h1 h2 h3 => ?_⟩
      rotate_left
      · rw [(grown_setc w9 ⟨X.f, 8, none⟩ _).block b (by omega) (fun e => h2 (by injection e with e; rw [e]; exact hA8.core.memf.1)), hg.block b (by omega) (fun e => h3 e.symm)]
        exact hfr8 b h1 h2
      rw [begS_some hbw]
      have hm : (s.runs ++ [(⟨i, k, s.now, 0, 0⟩ : RR)]).map (gr X.F) = s.runs.map (gr X.F) ++ [⟨i, k, s.now, ed⟩] := by
        rw [List.map_append, List.map_singleton]; unfold gr; rw [← hed]
      have := hA8.put (L := s.runs ++ [(⟨i, k, s.now, 0, 0⟩ : RR)]) hg (by rw [hm]; exact ho) hat
      have e : (fun j => if j = i then s.begun i + 1 else s.begun j) = fun j => if j = i then s.begun j + 1 else s.begun j := by
        funext j; by_cases h : j = i
        · rw [if_pos h, if_pos h, h]
        · rw [if_neg h, if_neg h]
      rw [e] at this
      exact this
    rw [n1] at hk
    rw [n2] at hi
    have hAH := Lib.hid hA
    clear hA
    have hSH := Lib.hid hS
    clear hS
    have hbtH := Lib.hid hbt
    clear hbt
    have hbestH := Lib.hid hbest
    clear hbest
    have hbwH := Lib.hid hbw
    clear hbw
    have RH := Lib.hid R
    clear R
    have n1H := Lib.hid n1
    clear n1
    have n2H := Lib.hid n2
    clear n2
    have n3H := Lib.hid n3
    clear n3
    have n4H := Lib.hid n4
    clear n4
    have hyH := Lib.hid hy
    clear hy
    have hzH := Lib.hid hz
    clear hz
    have hYAH := Lib.hid hYA
    clear hYA
    have hXAH := Lib.hid hXA
    clear hXA
    have gsH := Lib.hid gs
    clear gs
    have hEH := Lib.hid hE
    clear hE
    have hevH := Lib.hid hev
    clear hev
    have hnH := Lib.hid hn
    clear hn
    have hbkH := Lib.hid hbk
    clear hbk
    go_enter Tryz.func120, Tryz.ntmps120
    go_wp2_with fail
    refine hbestH.out.mono ?_
    rintro e w1 ⟨rfl, hb1⟩
    have hA1 := hAH.out.below hb1
    have c7 := (hA1.core.blk 7 _ rfl).1
    have c0 := (hA1.core.blk 0 _ rfl).1
    have c1 := (hA1.core.blk 1 _ rfl).1
    rw [hYAH.out] at c0
    rw [hXAH.out] at c1
    have hfl1 := hA1.core.lt X.f hA1.core.memf.1
    have hws1 := hSH.out.ws.1.below hA1.core.bel
    have hxs1 := hSH.out.xs.1.below hA1.core.bel
    rw [hYAH.out] at hws1
    rw [hXAH.out] at hxs1
    obtain ⟨d0, d1, d2, d3, d4, d5, d6⟩ := cells_Worker hws1 hyH.out
    have q2 := (cells_Work hxs1 hzH.out).2.2.1
    have hyo := hws1.2.2 y (List.mem_of_getElem? hyH.out)
    obtain ⟨rb, hrb⟩ : ∃ b, w1.heap.size = b := ⟨_, rfl⟩
    have hba1 := (Below.refl w1.heap.size w1).alloc (Nat.le_refl _) (.cells #[.int .i64 i, .int .i64 k, .int .i64 s.now, .int .i64 (-1)] 144)
    have hT0 : (fun w' : World => w'.cell? ⟨X.f, 0, none⟩ = some (.slice (some ⟨by_, oy, none⟩) X.x.workers.n X.x.workers.cap) ∧ w'.cell? ⟨X.f, 1, none⟩ = some (.slice (some ⟨bx, ox, none⟩) X.x.works.n X.x.works.cap) ∧ w'.cell? ⟨X.f, 7, none⟩ = some (.int .i64 s.now) ∧ w'.cell? ⟨bx, ox + i * 4 + 2, none⟩ = some (.int .i64 z.size) ∧
        w'.cell? ⟨by_, oy + k * 7, none⟩ = some (.string y.name) ∧ w'.cell? ⟨by_, oy + k * 7 + 1, none⟩ = some (.slice y.has.A y.has.n y.has.cap) ∧ w'.cell? ⟨by_, oy + k * 7 + 2, none⟩ = some (.int .i64 y.slots) ∧ w'.cell? ⟨by_, oy + k * 7 + 3, none⟩ = some (.int .i64 y.speed) ∧ w'.cell? ⟨by_, oy + k * 7 + 4, none⟩ = some (.int .i64 y.from_) ∧ w'.cell? ⟨by_, oy + k * 7 + 5, none⟩ = some (.int .i64 y.to_) ∧ w'.cell? ⟨by_, oy + k * 7 + 6, none⟩ = some (.slice y.stands.A y.stands.n y.stands.cap)) (w1.alloc (.cells #[.int .i64 i, .int .i64 k, .int .i64 s.now, .int .i64 (-1)] 144)) :=
      ⟨keepC hba1 c0, keepC hba1 c1, keepC hba1 c7, keepC hba1 q2, keepC hba1 d0, keepC hba1 d1, keepC hba1 d2, keepC hba1 d3, keepC hba1 d4, keepC hba1 d5, keepC hba1 d6⟩
    clear c0 c1 d0 d1 d2 d3 d4 d5 d6 q2
    obtain ⟨g1, g2⟩ := gk
    have hkn : bI (some k) = (k : Int) := rfl
    simp only [hkn]
    clear hkn
    have hn5 := n5
    clear hfl
    have hb1H := Lib.hid hb1
    clear hb1
    have hA1H := Lib.hid hA1
    clear hA1
    have hws1H := Lib.hid hws1
    clear hws1
    have hxs1H := Lib.hid hxs1
    clear hxs1
    have hyoH := Lib.hid hyo
    clear hyo
    have hrbH := Lib.hid hrb
    clear hrb
    have hba1H := Lib.hid hba1
    clear hba1
    have hT0H := Lib.hid hT0
    clear hT0
    have hT0 := hT0H.out
    clear hT0H
    go_wp2_with fail
    refine wp_region_held_drew (S := fun w' : World => w'.cell? ⟨X.f, 0, none⟩ = some (.slice (some ⟨by_, oy, none⟩) X.x.workers.n X.x.workers.cap) ∧ w'.cell? ⟨X.f, 1, none⟩ = some (.slice (some ⟨bx, ox, none⟩) X.x.works.n X.x.works.cap) ∧ w'.cell? ⟨X.f, 7, none⟩ = some (.int .i64 s.now) ∧ w'.cell? ⟨bx, ox + i * 4 + 2, none⟩ = some (.int .i64 z.size) ∧
        w'.cell? ⟨by_, oy + k * 7, none⟩ = some (.string y.name) ∧ w'.cell? ⟨by_, oy + k * 7 + 1, none⟩ = some (.slice y.has.A y.has.n y.has.cap) ∧ w'.cell? ⟨by_, oy + k * 7 + 2, none⟩ = some (.int .i64 y.slots) ∧ w'.cell? ⟨by_, oy + k * 7 + 3, none⟩ = some (.int .i64 y.speed) ∧ w'.cell? ⟨by_, oy + k * 7 + 4, none⟩ = some (.int .i64 y.from_) ∧ w'.cell? ⟨by_, oy + k * 7 + 5, none⟩ = some (.int .i64 y.to_) ∧ w'.cell? ⟨by_, oy + k * 7 + 6, none⟩ = some (.slice y.stands.A y.stands.n y.stands.cap)) (by kernel_rfl) hT0 (fun hHeld => ?_)
    refine tkH (i := 0) (d := some 24) (v := ?_) (hy := Or.inl ⟨by rfl, ?_⟩) (h := ?_)
    rotate_left
    · (intro w hSw; (try dsimp only at hSw); go_simp; (try with_reducible rfl))
    (try simp only [Act.put, tkA, tkB, tkC])
    refine tkH (i := 1) (d := some 25) (v := ?_) (hy := Or.inl ⟨by rfl, ?_⟩) (h := ?_)
    rotate_left
    · (intro w hSw; (try dsimp only at hSw); go_simp; (try with_reducible rfl))
    (try simp only [Act.put, tkA, tkB, tkC])
    refine tkH (i := 2) (d := some 26) (v := ?_) (hy := Or.inl ⟨by rfl, ?_⟩) (h := ?_)
    rotate_left
    · (intro w hSw; (try dsimp only at hSw); go_simp; (try with_reducible rfl))
    (try simp only [Act.put, tkA, tkB, tkC])
    refine tkH (i := 3) (d := some 27) (v := ?_) (hy := Or.inl ⟨by rfl, ?_⟩) (h := ?_)
    rotate_left
    · (intro w hSw; (try dsimp only at hSw); go_simp; (try with_reducible rfl))
    (try simp only [Act.put, tkA, tkB, tkC])
    refine tkH (i := 4) (d := some 28) (v := ?_) (hy := Or.inl ⟨by rfl, ?_⟩) (h := ?_)
    rotate_left
    · (intro w hSw; (try dsimp only at hSw); go_simp; (try with_reducible rfl))
    (try simp only [Act.put, tkA, tkB, tkC])
    refine tkH (i := 5) (d := some 29) (v := ?_) (hy := Or.inl ⟨by rfl, ?_⟩) (h := ?_)
    rotate_left
    · (intro w hSw; (try dsimp only at hSw); go_simp; (try with_reducible rfl))
    (try simp only [Act.put, tkA, tkB, tkC])
    refine tkH (i := 6) (d := some 30) (v := ?_) (hy := Or.inl ⟨by rfl, ?_⟩) (h := ?_)
    rotate_left
    · (intro w hSw; (try dsimp only at hSw); go_simp; (try with_reducible rfl))
    (try simp only [Act.put, tkA, tkB, tkC])
    refine tkH (i := 7) (d := some 31) (v := ?_) (hy := Or.inl ⟨by rfl, ?_⟩) (h := ?_)
    rotate_left
    · (intro w hSw; (try dsimp only at hSw); go_simp; (try with_reducible rfl))
    (try simp only [Act.put, tkA, tkB, tkC])
    refine tkH (i := 8) (d := some 32) (v := ?_) (hy := Or.inl ⟨by rfl, ?_⟩) (h := ?_)
    rotate_left
    · (intro w hSw; (try dsimp only at hSw); go_simp; (try with_reducible rfl))
    (try simp only [Act.put, tkA, tkB, tkC])
    refine tkH (i := 9) (d := some 33) (v := ?_) (hy := Or.inl ⟨by rfl, ?_⟩) (h := ?_)
    rotate_left
    · (intro w hSw; (try dsimp only at hSw); go_simp; (try with_reducible rfl))
    (try simp only [Act.put, tkA, tkB, tkC])
    refine tkH (i := 10) (d := some 34) (v := ?_) (hy := Or.inl ⟨by rfl, ?_⟩) (h := ?_)
    rotate_left
    · (intro w hSw; (try dsimp only at hSw); go_simp; (try with_reducible rfl))
    (try simp only [Act.put, tkA, tkB, tkC])
    refine tkH (i := 11) (d := some 35) (v := ?_) (hy := Or.inl ⟨by rfl, ?_⟩) (h := ?_)
    rotate_left
    · (intro w hSw; (try dsimp only at hSw); go_simp; (try with_reducible rfl))
    (try simp only [Act.put, tkA, tkB, tkC])
    refine tkH (i := 12) (d := some 36) (v := ?_) (hy := Or.inl ⟨by rfl, ?_⟩) (h := ?_)
    rotate_left
    · (intro w hSw; (try dsimp only at hSw); go_simp; (try with_reducible rfl))
    (try simp only [Act.put, tkA, tkB, tkC])
    refine tkH (i := 13) (d := some 37) (v := ?_) (hy := Or.inl ⟨by rfl, ?_⟩) (h := ?_)
    rotate_left
    · (intro w hSw; (try dsimp only at hSw); go_simp; (try with_reducible rfl))
    (try simp only [Act.put, tkA, tkB, tkC])
    refine tkH (i := 14) (d := some 38) (v := ?_) (hy := Or.inl ⟨by rfl, ?_⟩) (h := ?_)
    rotate_left
    · (intro w hSw; (try dsimp only at hSw); go_simp; (try with_reducible rfl))
    (try simp only [Act.put, tkA, tkB, tkC])
    refine tkH (i := 15) (d := some 39) (v := ?_) (hy := Or.inl ⟨by rfl, ?_⟩) (h := ?_)
    rotate_left
    · (intro w hSw; (try dsimp only at hSw); go_simp; (try with_reducible rfl))
    (try simp only [Act.put, tkA, tkB, tkC])
    refine tkH (i := 16) (d := some 40) (v := ?_) (hy := Or.inl ⟨by rfl, ?_⟩) (h := ?_)
    rotate_left
    · (intro w hSw; (try dsimp only at hSw); go_simp; (try with_reducible rfl))
    (try simp only [Act.put, tkA, tkB, tkC])
    refine tkH (i := 17) (d := some 41) (v := ?_) (hy := Or.inl ⟨by rfl, ?_⟩) (h := ?_)
    rotate_left
    · (intro w hSw; (try dsimp only at hSw); go_simp; (try with_reducible rfl))
    (try simp only [Act.put, tkA, tkB, tkC])
    refine tkH (i := 18) (d := some 42) (v := ?_) (hy := Or.inl ⟨by rfl, ?_⟩) (h := ?_)
    rotate_left
    · (intro w hSw; (try dsimp only at hSw); go_simp; (try with_reducible rfl))
    (try simp only [Act.put, tkA, tkB, tkC])
    refine tkH (i := 19) (d := some 43) (v := ?_) (hy := Or.inl ⟨by rfl, ?_⟩) (h := ?_)
    rotate_left
    · (intro w hSw; (try dsimp only at hSw); go_simp; (try with_reducible rfl))
    (try simp only [Act.put, tkA, tkB, tkC])
    refine tkH (i := 20) (d := some 44) (v := ?_) (hy := Or.inl ⟨by rfl, ?_⟩) (h := ?_)
    rotate_left
    · (intro w hSw; (try dsimp only at hSw); go_simp; (try with_reducible rfl))
    (try simp only [Act.put, tkA, tkB, tkC])
    refine wpAnyH_ready (rs := [21]) (by kernel_rfl) (by simp) ?_
    refine AllReadyH.cons (i := 21) rfl (fun K hK => ?_) AllReadyH.nil
    go_simp
    go_at_call 163
    refine (ends_any y z.size s.now _ (RWorker.mono _ _ _ (by first | exact hba1H.out.drew | skip) hyoH.out) z0 z1 g1 g2 t0 t1 gsH.out at_ okk hEH.out).mono ?_
    rintro e w4 ⟨rfl, hb4⟩
    have hHeld := keep11 hb4 hHeld
    have hb14 : Below w1.heap.size w1 w4 := hba1H.out.drew.trans (hb4.mono (by simp))
    have hrun : w4.cell? ⟨w1.heap.size, 0, none⟩ = some (.int .i64 i) ∧ w4.cell? ⟨w1.heap.size, 1, none⟩ = some (.int .i64 k) ∧ w4.cell? ⟨w1.heap.size, 2, none⟩ = some (.int .i64 s.now) ∧ w4.cell? ⟨w1.heap.size, 3, none⟩ = some (.int .i64 (-1)) :=
      ⟨keepC hb4 (cell_new w1 _ _ 0), keepC hb4 (cell_new w1 _ _ 1), keepC hb4 (cell_new w1 _ _ 2), keepC hb4 (cell_new w1 _ _ 3)⟩
    have hf3 : w4.frozen? ⟨w1.heap.size, 3, none⟩ = false := (hb4.frozen (p := ⟨w1.heap.size, 3, none⟩) (by simp)).trans (by simp [go_sem])
    clear hb4
    have hb14H := Lib.hid hb14
    clear hb14
    refine hK.out _ _ hHeld (fun hHeld => ?_)
    clear hK K
    (try simp only [Act.put, List.setIfInBounds_toArray, List.set_cons_zero, List.set_cons_succ])
    refine tkH (i := 22) (d := some 23) (v := ?_) (hy := Or.inl ⟨by rfl, ?_⟩) (h := ?_)
    rotate_left
    · (intro w hSw; (try dsimp only at hSw); go_simp; (try with_reducible rfl))
    (try simp only [Act.put, tkA, tkB, tkC])
    refine tkH (i := 23) (d := some 46) (v := ?_) (hy := Or.inl ⟨by rfl, ?_⟩) (h := ?_)
    rotate_left
    · (intro w hSw; (try dsimp only at hSw); go_simp; (try with_reducible rfl))
    (try simp only [Act.put, tkA, tkB, tkC])
    refine tkH (i := 24) (d := some 47) (v := ?_) (hy := Or.inl ⟨by rfl, ?_⟩) (h := ?_)
    rotate_left
    · (intro w hSw; (try dsimp only at hSw); go_simp; (try with_reducible rfl))
    (try simp only [Act.put, tkA, tkB, tkC])
    refine tkH (i := 25) (d := some 8) (v := ?_) (hy := Or.inl ⟨by rfl, ?_⟩) (h := ?_)
    rotate_left
    · (intro w hSw; (try dsimp only at hSw); go_simp; (try with_reducible rfl))
    (try simp only [Act.put, tkA, tkB, tkC])
    refine tkH (i := 26) (d := some 9) (v := ?_) (hy := Or.inl ⟨by rfl, ?_⟩) (h := ?_)
    rotate_left
    · (intro w hSw; (try dsimp only at hSw); go_simp; (try with_reducible rfl))
    (try simp only [Act.put, tkA, tkB, tkC])
    refine wpAnyH_done (by kernel_rfl) ?_ _
    clear hHeld hT0
    have hA4 := hA1H.out.below hb14H.out
    have hnew := hA1H.out.new
    have hnlt : rb < w4.heap.size := by have := hb14H.out.size; have := cell?_lt hrun.1; rw [← hrbH.out]; exact this
    rw [hrbH.out] at hnew hrun hf3 ⊢
    have hev := hevH.out
    clear hevH
    have hfr4 : w.heap.size ≤ w4.heap.size ∧ ∀ b, b < w.heap.size → b ∉ X.bl → w4.heap[b]? = w.heap[b]? := by
      have z1 := hb1H.out.size
      have z2 := hb14H.out.size
      exact ⟨by omega, fun b h1 _ => (hb14H.out.block b (by omega)).trans (hb1H.out.block b h1)⟩
    have hrbw : w.heap.size ≤ rb := by rw [← hrbH.out]; exact hb1H.out.size
    cases okk
    · have hA5 := hA4
      have hrun5 := hrun
      rw [if_neg (by decide)] at hev
      clear hA4 hrun hf3
      have hedb : I64 (-1) := by unfold I64; omega
      have hfr5 := hfr4
      have hA5H := Lib.hid hA5
      clear hA5
      have hnewH := Lib.hid hnew
      clear hnew
      have hrun5H := Lib.hid hrun5
      clear hrun5
      have hevH := Lib.hid hev
      clear hev
      have hfr5H := Lib.hid hfr5
      clear hfr5
      have c13 := hA5H.out.core.blk 13 _ rfl
      have cg := hA5H.out.core.begun i hi
      have hA6 := hA5H.out.cell hA5H.out.core.memf.2.2.2.2.2.2 (hA5H.out.core.setBegun i (s.begun i + 1)) rfl
      obtain ⟨bgv, hbgv⟩ : ∃ b, s.begun i = b := ⟨_, rfl⟩
      rw [hbgv] at cg hA6
      have hbg2 : 0 ≤ bgv ∧ bgv ≤ 900000 := by rw [← hbgv]; exact hbg
      obtain ⟨cg1, cg2⟩ := cg
      obtain ⟨c13a, _⟩ := c13
      have nG : rb ≠ X.gb := fun e => hnewH.out.1 (by rw [e]; exact hA1H.out.core.memf.2.2.2.2.2.2)
      obtain ⟨W8, hW8⟩ : ∃ Y, (w4).setCell ⟨X.gb, i, none⟩ (.int .i64 (bgv + 1)) = Y := ⟨_, rfl⟩
      have hr8 : W8.cell? ⟨rb, 0, none⟩ = some (.int .i64 i) ∧ W8.cell? ⟨rb, 1, none⟩ = some (.int .i64 k) ∧ W8.cell? ⟨rb, 2, none⟩ = some (.int .i64 s.now) ∧ W8.cell? ⟨rb, 3, none⟩ = some (.int .i64 (-1)) := by
        rw [← hW8]
        obtain ⟨r0, r1, r2, r3⟩ := hrun5H.out
        exact ⟨(World.cell?_setCell_other _ _ _ _ (by simp <;> omega)).trans r0, (World.cell?_setCell_other _ _ _ _ (by simp <;> omega)).trans r1, (World.cell?_setCell_other _ _ _ _ (by simp <;> omega)).trans r2, (World.cell?_setCell_other _ _ _ _ (by simp <;> omega)).trans r3⟩
      have hgbm := hA5H.out.core.memf.2.2.2.2.2.2
      have hfr8 : w.heap.size ≤ W8.heap.size ∧ ∀ b, b < w.heap.size → b ∉ X.bl → W8.heap[b]? = w.heap[b]? := by
        rw [← hW8]
        refine ⟨by simpa using hfr5H.out.1, fun b h1 h2 => ?_⟩
        have hz5 := hfr5H.out.1
        rw [(grown_setc _ ⟨X.gb, i, none⟩ _).block b (by omega) (fun e => h2 (by injection e with e; rw [e]; exact hgbm))]
        exact hfr5H.out.2 b h1 h2
      rw [hW8] at hA6
      have c8 := (hA6.core.blk 8 _ rfl).1
      have hT8 : (fun w' : World => w'.cell? ⟨X.f, 8, none⟩ = some (.slice A n cap) ∧ w'.cell? ⟨rb, 0, none⟩ = some (.int .i64 i) ∧ w'.cell? ⟨rb, 1, none⟩ = some (.int .i64 k) ∧ w'.cell? ⟨rb, 2, none⟩ = some (.int .i64 s.now) ∧ w'.cell? ⟨rb, 3, none⟩ = some (.int .i64 (-1))) W8 := ⟨c8, hr8⟩
      have hed : (X.F.endAt k i s.now).getD (-1) = (-1) := hevH.out
      have hgb8 : X.gb < W8.heap.size := hA6.core.lt _ hA6.core.memf.2.2.2.2.2.2
      have hRR := RH.out
      rw [hbgv] at hRR
      clear c8 hr8
      have hA6H := Lib.hid hA6
      clear hA6
      have hT8H := Lib.hid hT8
      clear hT8
      have hedH := Lib.hid hed
      clear hed
      have hW8H := Lib.hid hW8
      clear hW8
      have hbgvH := Lib.hid hbgv
      clear hbgv
      have hRRH := Lib.hid hRR
      clear hRR
      have hfr8H := Lib.hid hfr8
      clear hfr8
      have hT8 := hT8H.out
      clear hT8H
      go_wp2_with fail
      rw [hW8H.out]
      refine startR (R := Rk (fun w' => w'.cell? ⟨X.f, 8, none⟩ = some (.slice A n cap) ∧ w'.cell? ⟨rb, 0, none⟩ = some (.int .i64 i) ∧ w'.cell? ⟨rb, 1, none⟩ = some (.int .i64 k) ∧ w'.cell? ⟨rb, 2, none⟩ = some (.int .i64 s.now) ∧ w'.cell? ⟨rb, 3, none⟩ = some (.int .i64 (-1))) (fun _ => True) 10 10) (by kernel_rfl) ?_
      have hF := hT8
      have hC : True := trivial
      clear c13a cg1 cg2
      refine takeF (i := 0) (d := some 60) (v := ?_) rfl rfl (by kernel_rfl) (by kernel_rfl) (by kernel_rfl) (by kernel_rfl) (by kernel_rfl) (fun _ _ _ h => h) (Or.inl ⟨by rfl, ?_⟩) hF ?_
      rotate_left
      · (intro w hSw; (try dsimp only at hSw); go_simp; (try with_reducible rfl))
      (try simp only [Act.put, List.setIfInBounds_toArray, List.set_cons_zero, List.set_cons_succ])
      refine takeF (i := 1) (d := some 61) (v := ?_) rfl rfl (by kernel_rfl) (by kernel_rfl) (by kernel_rfl) (by kernel_rfl) (by kernel_rfl) (fun _ _ _ h => h) (Or.inl ⟨by rfl, ?_⟩) hF ?_
      rotate_left
      · (intro w hSw; (try dsimp only at hSw); go_simp; (try with_reducible rfl))
      (try simp only [Act.put, List.setIfInBounds_toArray, List.set_cons_zero, List.set_cons_succ])
      refine takeF (i := 2) (d := some 62) (v := ?_) rfl rfl (by kernel_rfl) (by kernel_rfl) (by kernel_rfl) (by kernel_rfl) (by kernel_rfl) (fun _ _ _ h => h) (Or.inl ⟨by rfl, ?_⟩) hF ?_
      rotate_left
      · (intro w hSw; (try dsimp only at hSw); go_simp; (try with_reducible rfl))
      (try simp only [Act.put, List.setIfInBounds_toArray, List.set_cons_zero, List.set_cons_succ])
      refine takeF (i := 3) (d := some 63) (v := ?_) rfl rfl (by kernel_rfl) (by kernel_rfl) (by kernel_rfl) (by kernel_rfl) (by kernel_rfl) (fun _ _ _ h => h) (Or.inl ⟨by rfl, ?_⟩) hF ?_
      rotate_left
      · (intro w hSw; (try dsimp only at hSw); go_simp; (try with_reducible rfl))
      (try simp only [Act.put, List.setIfInBounds_toArray, List.set_cons_zero, List.set_cons_succ])
      refine takeF (i := 4) (d := some 64) (v := ?_) rfl rfl (by kernel_rfl) (by kernel_rfl) (by kernel_rfl) (by kernel_rfl) (by kernel_rfl) (fun _ _ _ h => h) (Or.inl ⟨by rfl, ?_⟩) hF ?_
      rotate_left
      · (intro w hSw; (try dsimp only at hSw); go_simp; (try with_reducible rfl))
      (try simp only [Act.put, List.setIfInBounds_toArray, List.set_cons_zero, List.set_cons_succ])
      refine takeF (i := 5) (d := some 65) (v := ?_) rfl rfl (by kernel_rfl) (by kernel_rfl) (by kernel_rfl) (by kernel_rfl) (by kernel_rfl) (fun _ _ _ h => h) (Or.inl ⟨by rfl, ?_⟩) hF ?_
      rotate_left
      · (intro w hSw; (try dsimp only at hSw); go_simp; (try with_reducible rfl))
      (try simp only [Act.put, List.setIfInBounds_toArray, List.set_cons_zero, List.set_cons_succ])
      refine oneR (i := 6) (by kernel_rfl) rfl (fun K hK => ?_)
      go_simp
      have hbb : Below W8.heap.size W8 (W8.drew.alloc (.cells #[.int .i64 i, .int .i64 k, .int .i64 s.now, .int .i64 (-1)] 144)) := (Below.refl _ _).drew.alloc (by simp) _
      have hF2 := keep5f hbb hF
      clear hF
      have hA9 := hA6H.out.below hbb
      have hrlt : rb < W8.heap.size := cell?_lt hT8.2.1
      have hflt : X.f < W8.heap.size := cell?_lt hT8.1
      have hA9H := Lib.hid hA9
      clear hA9
      have hbbH := Lib.hid hbb
      clear hbb
      refine hK.out _ _ ⟨fun _ _ _ => hF2, fun _ _ => trivial⟩ ?_
      clear hK K
      (try simp only [Act.put, List.setIfInBounds_toArray, List.set_cons_zero, List.set_cons_succ])
      have hF := hF2
      refine oneR (i := 7) (by kernel_rfl) rfl (fun K hK => ?_)
      refine step_app1g (R := RGRun) (base := X.base) (v := .slice A n cap) (l := s.runs.map (gr X.F)) ?g1 (.tmp 64) (.tmp 66) 58 ?g2 Tryz.underlying58 elem_GRun (by decide) ?g3 ?own W8.heap.size (⟨i, k, s.now, (-1)⟩ : GRun) ?g4 ?g5 (fun _ _ _ _ h => h) ?a4 ?a5 ?a6 (n + 1) ?a7 ?_
      case g1 => rfl
      case g2 => rfl
      case g3 => rfl
      case g4 => rfl
      case own => exact hA9H.out.runs
      case g5 => exact slAt_new W8.drew _ _ ⟨show I64 (i : Int) by unfold I64; omega, show I64 (k : Int) by unfold I64; omega, show I64 s.now by unfold I64; omega, hedb⟩
      case a4 => rw [hnH.out]; unfold maxLen; omega
      case a5 => rw [hnH.out]; omega
      case a6 => exact hA9H.out.new.2.2.2
      case a7 => rw [hnH.out]
      intro A9 c9 w9 hq9 hg9 hat9
      have fz9 := ((hA9H.out.mid hg9).blk 8 _ rfl).2
      have R9 := hRRH.out _ w9 A9 c9 _ hedH.out hA9H.out hq9 hg9 hat9 (Nat.le_trans hfr8H.out.1 hbbH.out.size) (fun b h1 h2 => (hbbH.out.block b (Nat.lt_of_lt_of_le h1 hfr8H.out.1)).trans (hfr8H.out.2 b h1 h2))
      have nOf : ∀ b, (Value.slice A n cap).ownBlock = some b → X.f ≠ b := fun b hb e => hA9H.out.rap X.f hA9H.out.core.memf.1 (by rw [e]; exact hb)
      have nRb : (Value.slice A n cap).ownBlock ≠ some rb := hnewH.out.2.2.1
      have hF3 := keep5g hg9 (fun e => nOf _ e.symm rfl) (fun e => nRb e.symm) (fun e => nRb e.symm) (fun e => nRb e.symm) (fun e => nRb e.symm) hF
      clear hq9 hg9 hat9 nOf nRb hF hF2
      have R9H := Lib.hid R9
      clear R9
      refine hK.out _ _ ⟨fun _ _ _ => hF3, fun _ _ => trivial⟩ ?_
      clear hK K
      (try simp only [Act.put, List.setIfInBounds_toArray, List.set_cons_zero, List.set_cons_succ])
      have hF := hF3
      refine oneR (i := 8) (by kernel_rfl) rfl (fun K hK => ?_)
      go_simp
      refine hK.out _ _ ⟨fun _ _ _ => hF, fun _ _ => trivial⟩ ?_
      clear hK K
      (try simp only [Act.put, List.setIfInBounds_toArray, List.set_cons_zero, List.set_cons_succ])
      refine oneR (i := 9) (by kernel_rfl) rfl (fun K hK => ?_)
      go_simp
      refine hK.out _ _ ⟨fun _ _ _ => hF, fun _ _ => trivial⟩ ?_
      clear hK K
      (try simp only [Act.put, List.setIfInBounds_toArray, List.set_cons_zero, List.set_cons_succ])
      refine oneR (i := 10) (by kernel_rfl) rfl (fun K hK => ?_)
      go_simp
      refine hK.out _ _ ⟨fun h => absurd rfl h, fun h => absurd rfl h⟩ ?_
      clear hK K
      (try simp only [Act.put, List.setIfInBounds_toArray, List.set_cons_zero, List.set_cons_succ])
      refine doneR (by kernel_rfl) ?_ _
      clear hF hF3
      go_wp2
      go_end0
      exact R9H.out
    · have hA5 := hA4.far (o := 3) (u := .int .i64 at_) hnew.1 hnew.2.1 hnew.2.2.1 hnew.2.2.2
      have hrun5 : (w4.setCell ⟨rb, 3, none⟩ (.int .i64 at_)).cell? ⟨rb, 0, none⟩ = some (.int .i64 i) ∧ (w4.setCell ⟨rb, 3, none⟩ (.int .i64 at_)).cell? ⟨rb, 1, none⟩ = some (.int .i64 k) ∧ (w4.setCell ⟨rb, 3, none⟩ (.int .i64 at_)).cell? ⟨rb, 2, none⟩ = some (.int .i64 s.now) ∧ (w4.setCell ⟨rb, 3, none⟩ (.int .i64 at_)).cell? ⟨rb, 3, none⟩ = some (.int .i64 at_) := by
        obtain ⟨r0, r1, r2, r3⟩ := hrun
        exact ⟨(World.cell?_setCell_other _ _ _ _ (by simp)).trans r0, (World.cell?_setCell_other _ _ _ _ (by simp)).trans r1, (World.cell?_setCell_other _ _ _ _ (by simp)).trans r2, World.cell?_setCell_same' _ _ _ (by rw [r3]; rfl)⟩
      rw [if_pos rfl] at hev
      clear hA4
      have hat2 : at_ ≤ 1000000000 ∧ 0 ≤ at_ := by
        have hsc := secs_in z.size y.speed z0 z1 g1 g2
        obtain ⟨q0, q1, _⟩ := ends_b hEH.out (by show 0 ≤ (z.size + y.speed - 1) / y.speed; omega) t0
        have := (q1 rfl).1
        omega
      have hedb : I64 at_ := by unfold I64; omega
      have hfr5 : w.heap.size ≤ (w4.setCell ⟨rb, 3, none⟩ (.int .i64 at_)).heap.size ∧ ∀ b, b < w.heap.size → b ∉ X.bl → (w4.setCell ⟨rb, 3, none⟩ (.int .i64 at_)).heap[b]? = w.heap[b]? :=
        ⟨by simpa using hfr4.1, fun b h1 h2 => by rw [(grown_setc w4 ⟨rb, 3, none⟩ _).block b (by have := hfr4.1; omega) (by simp; omega)]; exact hfr4.2 b h1 h2⟩
      have hA5H := Lib.hid hA5
      clear hA5
      have hnewH := Lib.hid hnew
      clear hnew
      have hrun5H := Lib.hid hrun5
      clear hrun5
      have hevH := Lib.hid hev
      clear hev
      have hfr5H := Lib.hid hfr5
      clear hfr5
      have c13 := hA5H.out.core.blk 13 _ rfl
      have cg := hA5H.out.core.begun i hi
      have hA6 := hA5H.out.cell hA5H.out.core.memf.2.2.2.2.2.2 (hA5H.out.core.setBegun i (s.begun i + 1)) rfl
      obtain ⟨bgv, hbgv⟩ : ∃ b, s.begun i = b := ⟨_, rfl⟩
      rw [hbgv] at cg hA6
      have hbg2 : 0 ≤ bgv ∧ bgv ≤ 900000 := by rw [← hbgv]; exact hbg
      obtain ⟨cg1, cg2⟩ := cg
      obtain ⟨c13a, _⟩ := c13
      have nG : rb ≠ X.gb := fun e => hnewH.out.1 (by rw [e]; exact hA1H.out.core.memf.2.2.2.2.2.2)
      obtain ⟨W8, hW8⟩ : ∃ Y, (w4.setCell ⟨rb, 3, none⟩ (.int .i64 at_)).setCell ⟨X.gb, i, none⟩ (.int .i64 (bgv + 1)) = Y := ⟨_, rfl⟩
      have hr8 : W8.cell? ⟨rb, 0, none⟩ = some (.int .i64 i) ∧ W8.cell? ⟨rb, 1, none⟩ = some (.int .i64 k) ∧ W8.cell? ⟨rb, 2, none⟩ = some (.int .i64 s.now) ∧ W8.cell? ⟨rb, 3, none⟩ = some (.int .i64 at_) := by
        rw [← hW8]
        obtain ⟨r0, r1, r2, r3⟩ := hrun5H.out
        exact ⟨(World.cell?_setCell_other _ _ _ _ (by simp <;> omega)).trans r0, (World.cell?_setCell_other _ _ _ _ (by simp <;> omega)).trans r1, (World.cell?_setCell_other _ _ _ _ (by simp <;> omega)).trans r2, (World.cell?_setCell_other _ _ _ _ (by simp <;> omega)).trans r3⟩
      have hgbm := hA5H.out.core.memf.2.2.2.2.2.2
      have hfr8 : w.heap.size ≤ W8.heap.size ∧ ∀ b, b < w.heap.size → b ∉ X.bl → W8.heap[b]? = w.heap[b]? := by
        rw [← hW8]
        refine ⟨by simpa using hfr5H.out.1, fun b h1 h2 => ?_⟩
        have hz5 := hfr5H.out.1
        rw [(grown_setc _ ⟨X.gb, i, none⟩ _).block b (by omega) (fun e => h2 (by injection e with e; rw [e]; exact hgbm))]
        exact hfr5H.out.2 b h1 h2
      rw [hW8] at hA6
      have c8 := (hA6.core.blk 8 _ rfl).1
      have hT8 : (fun w' : World => w'.cell? ⟨X.f, 8, none⟩ = some (.slice A n cap) ∧ w'.cell? ⟨rb, 0, none⟩ = some (.int .i64 i) ∧ w'.cell? ⟨rb, 1, none⟩ = some (.int .i64 k) ∧ w'.cell? ⟨rb, 2, none⟩ = some (.int .i64 s.now) ∧ w'.cell? ⟨rb, 3, none⟩ = some (.int .i64 at_)) W8 := ⟨c8, hr8⟩
      have hed : (X.F.endAt k i s.now).getD (-1) = at_ := hevH.out
      have hgb8 : X.gb < W8.heap.size := hA6.core.lt _ hA6.core.memf.2.2.2.2.2.2
      have hRR := RH.out
      rw [hbgv] at hRR
      clear c8 hr8
      have hA6H := Lib.hid hA6
      clear hA6
      have hT8H := Lib.hid hT8
      clear hT8
      have hedH := Lib.hid hed
      clear hed
      have hW8H := Lib.hid hW8
      clear hW8
      have hbgvH := Lib.hid hbgv
      clear hbgv
      have hRRH := Lib.hid hRR
      clear hRR
      have hfr8H := Lib.hid hfr8
      clear hfr8
      have hT8 := hT8H.out
      clear hT8H
      go_wp2_with fail
      rw [hW8H.out]
      refine startR (R := Rk (fun w' => w'.cell? ⟨X.f, 8, none⟩ = some (.slice A n cap) ∧ w'.cell? ⟨rb, 0, none⟩ = some (.int .i64 i) ∧ w'.cell? ⟨rb, 1, none⟩ = some (.int .i64 k) ∧ w'.cell? ⟨rb, 2, none⟩ = some (.int .i64 s.now) ∧ w'.cell? ⟨rb, 3, none⟩ = some (.int .i64 at_)) (fun _ => True) 10 10) (by kernel_rfl) ?_
      have hF := hT8
      have hC : True := trivial
      clear c13a cg1 cg2
      refine takeF (i := 0) (d := some 60) (v := ?_) rfl rfl (by kernel_rfl) (by kernel_rfl) (by kernel_rfl) (by kernel_rfl) (by kernel_rfl) (fun _ _ _ h => h) (Or.inl ⟨by rfl, ?_⟩) hF ?_
      rotate_left
      · (intro w hSw; (try dsimp only at hSw); go_simp; (try with_reducible rfl))
      (try simp only [Act.put, List.setIfInBounds_toArray, List.set_cons_zero, List.set_cons_succ])
      refine takeF (i := 1) (d := some 61) (v := ?_) rfl rfl (by kernel_rfl) (by kernel_rfl) (by kernel_rfl) (by kernel_rfl) (by kernel_rfl) (fun _ _ _ h => h) (Or.inl ⟨by rfl, ?_⟩) hF ?_
      rotate_left
      · (intro w hSw; (try dsimp only at hSw); go_simp; (try with_reducible rfl))
      (try simp only [Act.put, List.setIfInBounds_toArray, List.set_cons_zero, List.set_cons_succ])
      refine takeF (i := 2) (d := some 62) (v := ?_) rfl rfl (by kernel_rfl) (by kernel_rfl) (by kernel_rfl) (by kernel_rfl) (by kernel_rfl) (fun _ _ _ h => h) (Or.inl ⟨by rfl, ?_⟩) hF ?_
      rotate_left
      · (intro w hSw; (try dsimp only at hSw); go_simp; (try with_reducible rfl))
      (try simp only [Act.put, List.setIfInBounds_toArray, List.set_cons_zero, List.set_cons_succ])
      refine takeF (i := 3) (d := some 63) (v := ?_) rfl rfl (by kernel_rfl) (by kernel_rfl) (by kernel_rfl) (by kernel_rfl) (by kernel_rfl) (fun _ _ _ h => h) (Or.inl ⟨by rfl, ?_⟩) hF ?_
      rotate_left
      · (intro w hSw; (try dsimp only at hSw); go_simp; (try with_reducible rfl))
      (try simp only [Act.put, List.setIfInBounds_toArray, List.set_cons_zero, List.set_cons_succ])
      refine takeF (i := 4) (d := some 64) (v := ?_) rfl rfl (by kernel_rfl) (by kernel_rfl) (by kernel_rfl) (by kernel_rfl) (by kernel_rfl) (fun _ _ _ h => h) (Or.inl ⟨by rfl, ?_⟩) hF ?_
      rotate_left
      · (intro w hSw; (try dsimp only at hSw); go_simp; (try with_reducible rfl))
      (try simp only [Act.put, List.setIfInBounds_toArray, List.set_cons_zero, List.set_cons_succ])
      refine takeF (i := 5) (d := some 65) (v := ?_) rfl rfl (by kernel_rfl) (by kernel_rfl) (by kernel_rfl) (by kernel_rfl) (by kernel_rfl) (fun _ _ _ h => h) (Or.inl ⟨by rfl, ?_⟩) hF ?_
      rotate_left
      · (intro w hSw; (try dsimp only at hSw); go_simp; (try with_reducible rfl))
      (try simp only [Act.put, List.setIfInBounds_toArray, List.set_cons_zero, List.set_cons_succ])
      refine oneR (i := 6) (by kernel_rfl) rfl (fun K hK => ?_)
      go_simp
      have hbb : Below W8.heap.size W8 (W8.drew.alloc (.cells #[.int .i64 i, .int .i64 k, .int .i64 s.now, .int .i64 at_] 144)) := (Below.refl _ _).drew.alloc (by simp) _
      have hF2 := keep5f hbb hF
      clear hF
      have hA9 := hA6H.out.below hbb
      have hrlt : rb < W8.heap.size := cell?_lt hT8.2.1
      have hflt : X.f < W8.heap.size := cell?_lt hT8.1
      have hA9H := Lib.hid hA9
      clear hA9
      have hbbH := Lib.hid hbb
      clear hbb
      refine hK.out _ _ ⟨fun _ _ _ => hF2, fun _ _ => trivial⟩ ?_
      clear hK K
      (try simp only [Act.put, List.setIfInBounds_toArray, List.set_cons_zero, List.set_cons_succ])
      have hF := hF2
      refine oneR (i := 7) (by kernel_rfl) rfl (fun K hK => ?_)
      refine step_app1g (R := RGRun) (base := X.base) (v := .slice A n cap) (l := s.runs.map (gr X.F)) ?g1 (.tmp 64) (.tmp 66) 58 ?g2 Tryz.underlying58 elem_GRun (by decide) ?g3 ?own W8.heap.size (⟨i, k, s.now, at_⟩ : GRun) ?g4 ?g5 (fun _ _ _ _ h => h) ?a4 ?a5 ?a6 (n + 1) ?a7 ?_
      case g1 => rfl
      case g2 => rfl
      case g3 => rfl
      case g4 => rfl
      case own => exact hA9H.out.runs
      case g5 => exact slAt_new W8.drew _ _ ⟨show I64 (i : Int) by unfold I64; omega, show I64 (k : Int) by unfold I64; omega, show I64 s.now by unfold I64; omega, hedb⟩
      case a4 => rw [hnH.out]; unfold maxLen; omega
      case a5 => rw [hnH.out]; omega
      case a6 => exact hA9H.out.new.2.2.2
      case a7 => rw [hnH.out]
      intro A9 c9 w9 hq9 hg9 hat9
      have fz9 := ((hA9H.out.mid hg9).blk 8 _ rfl).2
      have R9 := hRRH.out _ w9 A9 c9 _ hedH.out hA9H.out hq9 hg9 hat9 (Nat.le_trans hfr8H.out.1 hbbH.out.size) (fun b h1 h2 => (hbbH.out.block b (Nat.lt_of_lt_of_le h1 hfr8H.out.1)).trans (hfr8H.out.2 b h1 h2))
      have nOf : ∀ b, (Value.slice A n cap).ownBlock = some b → X.f ≠ b := fun b hb e => hA9H.out.rap X.f hA9H.out.core.memf.1 (by rw [e]; exact hb)
      have nRb : (Value.slice A n cap).ownBlock ≠ some rb := hnewH.out.2.2.1
      have hF3 := keep5g hg9 (fun e => nOf _ e.symm rfl) (fun e => nRb e.symm) (fun e => nRb e.symm) (fun e => nRb e.symm) (fun e => nRb e.symm) hF
      clear hq9 hg9 hat9 nOf nRb hF hF2
      have R9H := Lib.hid R9
      clear R9
      refine hK.out _ _ ⟨fun _ _ _ => hF3, fun _ _ => trivial⟩ ?_
      clear hK K
      (try simp only [Act.put, List.setIfInBounds_toArray, List.set_cons_zero, List.set_cons_succ])
      have hF := hF3
      refine oneR (i := 8) (by kernel_rfl) rfl (fun K hK => ?_)
      go_simp
      refine hK.out _ _ ⟨fun _ _ _ => hF, fun _ _ => trivial⟩ ?_
      clear hK K
      (try simp only [Act.put, List.setIfInBounds_toArray, List.set_cons_zero, List.set_cons_succ])
      refine oneR (i := 9) (by kernel_rfl) rfl (fun K hK => ?_)
      go_simp
      refine hK.out _ _ ⟨fun _ _ _ => hF, fun _ _ => trivial⟩ ?_
      clear hK K
      (try simp only [Act.put, List.setIfInBounds_toArray, List.set_cons_zero, List.set_cons_succ])
      refine oneR (i := 10) (by kernel_rfl) rfl (fun K hK => ?_)
      go_simp
      refine hK.out _ _ ⟨fun h => absurd rfl h, fun h => absurd rfl h⟩ ?_
      clear hK K
      (try simp only [Act.put, List.setIfInBounds_toArray, List.set_cons_zero, List.set_cons_succ])
      refine doneR (by kernel_rfl) ?_ _
      clear hF hF3
      go_wp2
      go_end0
      exact R9H.out
end Go.Proofs.YtbnkoefljcekbaaGreatDoor.C9

namespace Go.Proofs.YtbnkoefljcekbaaGreatDoor.C9
open Go.ChangeShapes Go.WideShapes Go.Deep Go.RowKit
set_option linter.unusedVariables false
set_option linter.unusedSimpArgs false

theorem keep9 {W w' : World} {a0 a1 a2 a3 a4 a5 a6 a7 a8 : Addr} {v0 v1 v2 v3 v4 v5 v6 v7 v8 : Value} (hb : Below W.heap.size W w') (h : W.cell? a0 = some v0 ∧ W.cell? a1 = some v1 ∧ W.cell? a2 = some v2 ∧ W.cell? a3 = some v3 ∧ W.cell? a4 = some v4 ∧ W.cell? a5 = some v5 ∧ W.cell? a6 = some v6 ∧ W.cell? a7 = some v7 ∧ W.cell? a8 = some v8) :
    w'.cell? a0 = some v0 ∧ w'.cell? a1 = some v1 ∧ w'.cell? a2 = some v2 ∧ w'.cell? a3 = some v3 ∧ w'.cell? a4 = some v4 ∧ w'.cell? a5 = some v5 ∧ w'.cell? a6 = some v6 ∧ w'.cell? a7 = some v7 ∧ w'.cell? a8 = some v8 :=
  ⟨keepC hb h.1, keepC hb h.2.1, keepC hb h.2.2.1, keepC hb h.2.2.2.1, keepC hb h.2.2.2.2.1, keepC hb h.2.2.2.2.2.1, keepC hb h.2.2.2.2.2.2.1, keepC hb h.2.2.2.2.2.2.2.1, keepC hb h.2.2.2.2.2.2.2.2⟩
theorem keep9g {W w' : World} {row : Option Nat} {a0 a1 a2 a3 a4 a5 a6 a7 a8 : Addr} {v0 v1 v2 v3 v4 v5 v6 v7 v8 : Value} (hg : W.grownBy w' row) (hn : some a0.block ≠ row ∧ some a1.block ≠ row ∧ some a2.block ≠ row ∧ some a3.block ≠ row ∧ some a4.block ≠ row ∧ some a5.block ≠ row ∧ some a6.block ≠ row ∧ some a7.block ≠ row ∧ some a8.block ≠ row) (h : W.cell? a0 = some v0 ∧ W.cell? a1 = some v1 ∧ W.cell? a2 = some v2 ∧ W.cell? a3 = some v3 ∧ W.cell? a4 = some v4 ∧ W.cell? a5 = some v5 ∧ W.cell? a6 = some v6 ∧ W.cell? a7 = some v7 ∧ W.cell? a8 = some v8) :
    w'.cell? a0 = some v0 ∧ w'.cell? a1 = some v1 ∧ w'.cell? a2 = some v2 ∧ w'.cell? a3 = some v3 ∧ w'.cell? a4 = some v4 ∧ w'.cell? a5 = some v5 ∧ w'.cell? a6 = some v6 ∧ w'.cell? a7 = some v7 ∧ w'.cell? a8 = some v8 := by
  obtain ⟨n0, n1, n2, n3, n4, n5, n6, n7, n8⟩ := hn
  exact ⟨hg.cell h.1 n0, hg.cell h.2.1 n1, hg.cell h.2.2.1 n2, hg.cell h.2.2.2.1 n3, hg.cell h.2.2.2.2.1 n4, hg.cell h.2.2.2.2.2.1 n5, hg.cell h.2.2.2.2.2.2.1 n6, hg.cell h.2.2.2.2.2.2.2.1 n7, hg.cell h.2.2.2.2.2.2.2.2 n8⟩
theorem elem_Run : Elem Tryz.prog 34 RRun.size 56 := elem_of (z := .agg #[.string ByteArray.empty, .string ByteArray.empty, .int .i64 0, .int .i64 0, .int .i64 0]) (by kernel_rfl) (by decide)
/-- the state behind a closing -/
def clS (s : PS) (r : RR) (en : Int) : PS := { s with out := s.out ++ [{ r with to_ := s.now, end_ := en }], last := fun j => if j = r.work then (if en = 3 then s.last j else s.now) else s.last j }
/-- what a closing leaves: all but the farm's own blocks and what came out -/
def ClAns (X : FX) (K : KD Tryz.prog 71 Loss) (rv ov : Value) (s' : PS) (w0 W : World) (e : Ending) (w' : World) : Prop :=
  e = .returned (.tuple #[]) ∧ ∃ ov', FC X K rv ov' s' w0 w' ∧ (∀ b, ov'.ownBlock = some b → ov.ownBlock = some b ∨ W.heap.size ≤ b) ∧ W.heap.size ≤ w'.heap.size ∧ ∀ b, b < W.heap.size → b ∉ X.bl → ov.ownBlock ≠ some b → w'.heap[b]? = W.heap[b]?
theorem clS_3 (s : PS) (r : RR) : clS s r 3 = { s with out := s.out ++ [{ r with to_ := s.now, end_ := 3 }] } := by
  unfold clS
  have : (fun j => if j = r.work then (if (3 : Int) = 3 then s.last j else s.now) else s.last j) = s.last := by funext j; simp
  rw [this]
theorem clS_n (s : PS) (r : RR) {en : Int} (h : en ≠ 3) {iw : Nat} (hi : r.work = iw) : clS s r en = { s with out := s.out ++ [{ r with to_ := s.now, end_ := en }], last := fun j => if j = iw then s.now else s.last j } := by
  unfold clS
  simp only [if_neg h, hi]
set_option maxRecDepth 100000 in
set_option maxHeartbeats 8000000 in
theorem close_any {X : FX} {K : KD Tryz.prog 71 Loss} {rv ov : Value} {s : PS} {w0 w : World} (hC : FC X K rv ov s w0 w) (hS : FS X s w0) (r : RR) (hk : r.worker < X.F.nW) (hi : r.work < X.F.nX) (hr0 : 0 ≤ r.from_) (hr1 : r.from_ ≤ 1000000000) (en : Int) (he0 : 1 ≤ en) (he1 : en ≤ 3) (hlen : s.out.length ≤ 900000) (ed : Int) :
    Calls Tryz.prog 115 #[.pointer (some ⟨X.f, 0, none⟩), .agg #[.int .i64 r.work, .int .i64 r.worker, .int .i64 r.from_, .int .i64 ed], .int .i64 en] w (ClAns X K rv ov (clS s r en) w0 w) := by
  obtain ⟨n1, n2, n3, n4, n5, n6⟩ := hS.nW
  obtain ⟨A, cap, hov⟩ := hC.out.form
  obtain ⟨n, hn⟩ : ∃ n, (s.out.map (toRun X.x)).length = n := ⟨_, rfl⟩
  rw [hn] at hov
  subst hov
  have hn9 : n ≤ 900000 := by rw [← hn, List.length_map]; exact hlen
  obtain ⟨y, hy⟩ : ∃ y, X.x.workers.l[r.worker]? = some y := ⟨X.x.workers.l[r.worker]'(by omega), List.getElem?_eq_getElem _⟩
  obtain ⟨z, hz⟩ : ∃ z, X.x.works.l[r.work]? = some z := ⟨X.x.works.l[r.work]'(by omega), List.getElem?_eq_getElem _⟩
  obtain ⟨by_, oy, hYA, _⟩ := (hS.ws.1).2.1 (by omega)
  obtain ⟨bx, ox, hXA, _⟩ := (hS.xs.1).2.1 (by omega)
  have hba := (Below.refl w.heap.size w).alloc (Nat.le_refl _) (.cells #[.int .i64 r.work, .int .i64 r.worker, .int .i64 r.from_, .int .i64 ed] 144)
  obtain ⟨rb, hrb⟩ : ∃ b, w.heap.size = b := ⟨_, rfl⟩
  obtain ⟨W1, hW1⟩ : ∃ Y, w.alloc (.cells #[.int .i64 r.work, .int .i64 r.worker, .int .i64 r.from_, .int .i64 ed] 144) = Y := ⟨_, rfl⟩
  have hC1 := hC.below hba
  have hrun : W1.cell? ⟨rb, 0, none⟩ = some (.int .i64 r.work) ∧ W1.cell? ⟨rb, 1, none⟩ = some (.int .i64 r.worker) ∧ W1.cell? ⟨rb, 2, none⟩ = some (.int .i64 r.from_) := by
    rw [← hW1, ← hrb]; exact ⟨cell_new _ _ _ 0, cell_new _ _ _ 1, cell_new _ _ _ 2⟩
  rw [hW1] at hC1 hba
  have c0 := (hC1.blk 0 _ rfl).1
  have c1 := (hC1.blk 1 _ rfl).1
  have c7 := (hC1.blk 7 _ rfl).1
  have c11 := (hC1.blk 11 _ rfl).1
  rw [hYA] at c0
  rw [hXA] at c1
  have hws1 := hS.ws.1.below hC1.bel
  have hxs1 := hS.xs.1.below hC1.bel
  rw [hYA] at hws1
  rw [hXA] at hxs1
  have d0 := (cells_Worker hws1 hy).1
  have e0 := (cells_Work hxs1 hz).1
  have hyo := (hws1.2.2 y (List.mem_of_getElem? hy)).1
  have hzo := (hxs1.2.2 z (List.mem_of_getElem? hz)).1
  have hto : toRun X.x { r with to_ := s.now, end_ := en } = ⟨z.id_, y.name, r.from_, s.now, en⟩ := by
    unfold toRun; rw [woOf_get hz, wkOf_get hy]
  have t0 := hS.t0
  have t1 := hS.t1
  have hF0 : (fun w' : World => w'.cell? ⟨X.f, 11, none⟩ = some (.slice A n cap) ∧ w'.cell? ⟨X.f, 1, none⟩ = some (.slice (some ⟨bx, ox, none⟩) X.x.works.n X.x.works.cap) ∧ w'.cell? ⟨X.f, 0, none⟩ = some (.slice (some ⟨by_, oy, none⟩) X.x.workers.n X.x.workers.cap) ∧ w'.cell? ⟨X.f, 7, none⟩ = some (.int .i64 s.now) ∧ w'.cell? ⟨rb, 0, none⟩ = some (.int .i64 r.work) ∧ w'.cell? ⟨rb, 1, none⟩ = some (.int .i64 r.worker) ∧ w'.cell? ⟨rb, 2, none⟩ = some (.int .i64 r.from_) ∧ w'.cell? ⟨bx, ox + r.work * 4, none⟩ = some (.string z.id_) ∧ w'.cell? ⟨by_, oy + r.worker * 7, none⟩ = some (.string y.name)) W1 :=
    ⟨c11, c1, c0, c7, hrun.1, hrun.2.1, hrun.2.2, e0, d0⟩
  obtain ⟨iw, hiw⟩ : ∃ q, r.work = q := ⟨_, rfl⟩
  obtain ⟨ik, hik⟩ : ∃ q, r.worker = q := ⟨_, rfl⟩
  obtain ⟨ifr, hifr⟩ : ∃ q, r.from_ = q := ⟨_, rfl⟩
  rw [hiw] at hi hF0 hz hW1 e0 hrun ⊢
  rw [hik] at hk hF0 hy hW1 d0 hrun ⊢
  rw [hifr] at hr0 hr1 hF0 hW1 hrun ⊢
  rw [n1] at hk
  rw [n2] at hi
  clear c0 c1 c7 c11 d0 e0
  have hnew : rb ∉ X.bl ∧ Value.ownBlock (.slice A n cap) ≠ some rb := by
    rw [← hrb]
    exact ⟨fun hm => Nat.lt_irrefl _ (hC.lt _ hm), fun e => Nat.lt_irrefl _ (hC.out.1.lt _ e).2⟩
  have R : ∀ (W8 w9 : World) (A' : Option Addr) (c' : Nat), FC X K rv (.slice A n cap) s w0 W8 → Below w.heap.size w W8 → Own RRun 34 w9 X.base (.slice A' (n + 1) c') (s.out.map (toRun X.x) ++ [⟨z.id_, y.name, ifr, s.now, en⟩]) → W8.grownBy w9 (Value.slice A n cap).ownBlock →
      (∀ b, (Value.slice A' (n + 1) c').ownBlock = some b → (Value.slice A n cap).ownBlock = some b ∨ W8.heap.size ≤ b) →
      FC X K rv (.slice A' (n + 1) c') { s with out := s.out ++ [{ r with to_ := s.now, end_ := en }] } w0 (w9.setCell ⟨X.f, 11, none⟩ (.slice A' (n + 1) c')) ∧ (∀ b, (Value.slice A' (n + 1) c').ownBlock = some b → (Value.slice A n cap).ownBlock = some b ∨ w.heap.size ≤ b) ∧ w.heap.size ≤ (w9.setCell ⟨X.f, 11, none⟩ (.slice A' (n + 1) c')).heap.size ∧
        ∀ b, b < w.heap.size → b ∉ X.bl → (Value.slice A n cap).ownBlock ≠ some b → (w9.setCell ⟨X.f, 11, none⟩ (.slice A' (n + 1) c')).heap[b]? = w.heap[b]? := by
    intro W8 w9 A' c' hC8 hb8 ho hg hat
    have hm : (s.out ++ [{ r with to_ := s.now, end_ := en }]).map (toRun X.x) = s.out.map (toRun X.x) ++ [⟨z.id_, y.name, ifr, s.now, en⟩] := by rw [List.map_append, List.map_singleton, hto, hifr]
    have h89 := hg.size
    have h8 := hb8.size
    refine ⟨hC8.setOut hg (by rw [hm]; exact ho) hat, fun b hb => ?_, by simp; omega, fun b hb hbn hbo => ?_⟩
    · rcases hat b hb with h | h
      · exact .inl h
      · right; omega
    · have e1 := (grown_setc w9 ⟨X.f, 11, none⟩ (.slice A' (n + 1) c')).block b (by omega) (fun e => hbn (by injection e with e; rw [e]; exact hC.memf.1))
      rw [e1, hg.block b (by omega) (fun e => hbo e.symm)]
      exact hb8.block b hb
  have hold : ∀ b, b < w.heap.size → b ∉ X.bl → True := fun _ _ _ => trivial
  have hownb : ∀ b, (Value.slice A n cap).ownBlock = some b → X.base ≤ b := fun b hb => (hC.out.1.lt b hb).1
  have hbxl : bx < X.base ∧ by_ < X.base := by
    rw [hC.base]
    have a := hS.xs.1
    have b := hS.ws.1
    rw [hXA] at a
    rw [hYA] at b
    exact ⟨cell?_lt (cells_Work a hz).1, cell?_lt (cells_Worker b hy).1⟩
  have hfap : (Value.slice A n cap).ownBlock ≠ some X.f := hC.apart X.f hC.memf.1
  have hfl := hC.lt X.f hC.memf.1
  have htl := hC.lt X.tb hC.memf.2.2.2.2.2.1
  have htm := hC.memf.2.2.2.2.2.1
  have hfm := hC.memf.1
  have hbz := hC1.bel.size
  have hW1s : W1.heap.size = rb + 1 := by rw [← hW1, ← hrb]; simp
  have hidb : RStr.ok w z.id_ ∧ RStr.ok w y.name := ⟨hzo, hyo⟩
  clear hold
  rw [hiw] at hto
  have hCH := Lib.hid hC
  clear hC
  have hSH := Lib.hid hS
  clear hS
  have hyH := Lib.hid hy
  clear hy
  have hzH := Lib.hid hz
  clear hz
  have hYAH := Lib.hid hYA
  clear hYA
  have hXAH := Lib.hid hXA
  clear hXA
  have hbaH := Lib.hid hba
  clear hba
  have hW1H := Lib.hid hW1
  clear hW1
  have hC1H := Lib.hid hC1
  clear hC1
  have hrunH := Lib.hid hrun
  clear hrun
  have hws1H := Lib.hid hws1
  clear hws1
  have hxs1H := Lib.hid hxs1
  clear hxs1
  have hyoH := Lib.hid hyo
  clear hyo
  have hzoH := Lib.hid hzo
  clear hzo
  have htoH := Lib.hid hto
  clear hto
  have hnewH := Lib.hid hnew
  clear hnew
  have RH := Lib.hid R
  clear R
  have hnH := Lib.hid hn
  clear hn
  have hiwH := Lib.hid hiw
  clear hiw
  have hikH := Lib.hid hik
  clear hik
  have hifrH := Lib.hid hifr
  clear hifr
  have hownbH := Lib.hid hownb
  clear hownb
  have hbxlH := Lib.hid hbxl
  clear hbxl
  have hfapH := Lib.hid hfap
  clear hfap
  have hbzH := Lib.hid hbz
  clear hbz
  have hidbH := Lib.hid hidb
  clear hidb
  have hrbH := Lib.hid hrb
  clear hrb
  have htmH := Lib.hid htm
  clear htm
  have hfmH := Lib.hid hfm
  clear hfm
  have hF0H := Lib.hid hF0
  clear hF0
  have hW1sH := Lib.hid hW1s
  clear hW1s
  go_enter Tryz.func115, Tryz.ntmps115
  go_wp2_with fail
  rw [hW1H.out, hrbH.out]
  have hF := hF0H.out
  have hC : True := trivial
  refine startR (R := Rk (fun w' : World => w'.cell? ⟨X.f, 11, none⟩ = some (.slice A n cap) ∧ w'.cell? ⟨X.f, 1, none⟩ = some (.slice (some ⟨bx, ox, none⟩) X.x.works.n X.x.works.cap) ∧ w'.cell? ⟨X.f, 0, none⟩ = some (.slice (some ⟨by_, oy, none⟩) X.x.workers.n X.x.workers.cap) ∧ w'.cell? ⟨X.f, 7, none⟩ = some (.int .i64 s.now) ∧ w'.cell? ⟨rb, 0, none⟩ = some (.int .i64 iw) ∧ w'.cell? ⟨rb, 1, none⟩ = some (.int .i64 ik) ∧ w'.cell? ⟨rb, 2, none⟩ = some (.int .i64 ifr) ∧ w'.cell? ⟨bx, ox + iw * 4, none⟩ = some (.string z.id_) ∧ w'.cell? ⟨by_, oy + ik * 7, none⟩ = some (.string y.name)) (fun _ => True) 37 37) (by kernel_rfl) ?_
  refine takeF (i := 0) (d := some 6) (v := ?_) rfl rfl (by kernel_rfl) (by kernel_rfl) (by kernel_rfl) (by kernel_rfl) (by kernel_rfl) (fun _ _ _ h => h) (Or.inl ⟨by rfl, ?_⟩) hF ?_
  rotate_left
  · (intro w hSw; (try dsimp only at hSw); go_simp; (try with_reducible rfl))
  (try simp only [Act.put, List.setIfInBounds_toArray, List.set_cons_zero, List.set_cons_succ])
  refine takeF (i := 1) (d := some 7) (v := ?_) rfl rfl (by kernel_rfl) (by kernel_rfl) (by kernel_rfl) (by kernel_rfl) (by kernel_rfl) (fun _ _ _ h => h) (Or.inl ⟨by rfl, ?_⟩) hF ?_
  rotate_left
  · (intro w hSw; (try dsimp only at hSw); go_simp; (try with_reducible rfl))
  (try simp only [Act.put, List.setIfInBounds_toArray, List.set_cons_zero, List.set_cons_succ])
  refine takeF (i := 2) (d := some 8) (v := ?_) rfl rfl (by kernel_rfl) (by kernel_rfl) (by kernel_rfl) (by kernel_rfl) (by kernel_rfl) (fun _ _ _ h => h) (Or.inl ⟨by rfl, ?_⟩) hF ?_
  rotate_left
  · (intro w hSw; (try dsimp only at hSw); go_simp; (try with_reducible rfl))
  (try simp only [Act.put, List.setIfInBounds_toArray, List.set_cons_zero, List.set_cons_succ])
  refine takeF (i := 3) (d := some 9) (v := ?_) rfl rfl (by kernel_rfl) (by kernel_rfl) (by kernel_rfl) (by kernel_rfl) (by kernel_rfl) (fun _ _ _ h => h) (Or.inl ⟨by rfl, ?_⟩) hF ?_
  rotate_left
  · (intro w hSw; (try dsimp only at hSw); go_simp; (try with_reducible rfl))
  (try simp only [Act.put, List.setIfInBounds_toArray, List.set_cons_zero, List.set_cons_succ])
  refine takeF (i := 4) (d := some 10) (v := ?_) rfl rfl (by kernel_rfl) (by kernel_rfl) (by kernel_rfl) (by kernel_rfl) (by kernel_rfl) (fun _ _ _ h => h) (Or.inl ⟨by rfl, ?_⟩) hF ?_
  rotate_left
  · (intro w hSw; (try dsimp only at hSw); go_simp; (try with_reducible rfl))
  (try simp only [Act.put, List.setIfInBounds_toArray, List.set_cons_zero, List.set_cons_succ])
  refine takeF (i := 5) (d := some 11) (v := ?_) rfl rfl (by kernel_rfl) (by kernel_rfl) (by kernel_rfl) (by kernel_rfl) (by kernel_rfl) (fun _ _ _ h => h) (Or.inl ⟨by rfl, ?_⟩) hF ?_
  rotate_left
  · (intro w hSw; (try dsimp only at hSw); go_simp; (try with_reducible rfl))
  (try simp only [Act.put, List.setIfInBounds_toArray, List.set_cons_zero, List.set_cons_succ])
  refine takeF (i := 6) (d := some 12) (v := ?_) rfl rfl (by kernel_rfl) (by kernel_rfl) (by kernel_rfl) (by kernel_rfl) (by kernel_rfl) (fun _ _ _ h => h) (Or.inl ⟨by rfl, ?_⟩) hF ?_
  rotate_left
  · (intro w hSw; (try dsimp only at hSw); go_simp; (try with_reducible rfl))
  (try simp only [Act.put, List.setIfInBounds_toArray, List.set_cons_zero, List.set_cons_succ])
  refine takeF (i := 7) (d := some 13) (v := ?_) rfl rfl (by kernel_rfl) (by kernel_rfl) (by kernel_rfl) (by kernel_rfl) (by kernel_rfl) (fun _ _ _ h => h) (Or.inl ⟨by rfl, ?_⟩) hF ?_
  rotate_left
  · (intro w hSw; (try dsimp only at hSw); go_simp; (try with_reducible rfl))
  (try simp only [Act.put, List.setIfInBounds_toArray, List.set_cons_zero, List.set_cons_succ])
  refine takeF (i := 8) (d := some 14) (v := ?_) rfl rfl (by kernel_rfl) (by kernel_rfl) (by kernel_rfl) (by kernel_rfl) (by kernel_rfl) (fun _ _ _ h => h) (Or.inl ⟨by rfl, ?_⟩) hF ?_
  rotate_left
  · (intro w hSw; (try dsimp only at hSw); go_simp; (try with_reducible rfl))
  (try simp only [Act.put, List.setIfInBounds_toArray, List.set_cons_zero, List.set_cons_succ])
  refine takeF (i := 9) (d := some 15) (v := ?_) rfl rfl (by kernel_rfl) (by kernel_rfl) (by kernel_rfl) (by kernel_rfl) (by kernel_rfl) (fun _ _ _ h => h) (Or.inl ⟨by rfl, ?_⟩) hF ?_
  rotate_left
  · (intro w hSw; (try dsimp only at hSw); go_simp; (try with_reducible rfl))
  (try simp only [Act.put, List.setIfInBounds_toArray, List.set_cons_zero, List.set_cons_succ])
  refine takeF (i := 10) (d := some 16) (v := ?_) rfl rfl (by kernel_rfl) (by kernel_rfl) (by kernel_rfl) (by kernel_rfl) (by kernel_rfl) (fun _ _ _ h => h) (Or.inl ⟨by rfl, ?_⟩) hF ?_
  rotate_left
  · (intro w hSw; (try dsimp only at hSw); go_simp; (try with_reducible rfl))
  (try simp only [Act.put, List.setIfInBounds_toArray, List.set_cons_zero, List.set_cons_succ])
  refine takeF (i := 11) (d := some 17) (v := ?_) rfl rfl (by kernel_rfl) (by kernel_rfl) (by kernel_rfl) (by kernel_rfl) (by kernel_rfl) (fun _ _ _ h => h) (Or.inl ⟨by rfl, ?_⟩) hF ?_
  rotate_left
  · (intro w hSw; (try dsimp only at hSw); go_simp; (try with_reducible rfl))
  (try simp only [Act.put, List.setIfInBounds_toArray, List.set_cons_zero, List.set_cons_succ])
  refine takeF (i := 12) (d := some 18) (v := ?_) rfl rfl (by kernel_rfl) (by kernel_rfl) (by kernel_rfl) (by kernel_rfl) (by kernel_rfl) (fun _ _ _ h => h) (Or.inl ⟨by rfl, ?_⟩) hF ?_
  rotate_left
  · (intro w hSw; (try dsimp only at hSw); go_simp; (try with_reducible rfl))
  (try simp only [Act.put, List.setIfInBounds_toArray, List.set_cons_zero, List.set_cons_succ])
  refine takeF (i := 13) (d := some 19) (v := ?_) rfl rfl (by kernel_rfl) (by kernel_rfl) (by kernel_rfl) (by kernel_rfl) (by kernel_rfl) (fun _ _ _ h => h) (Or.inl ⟨by rfl, ?_⟩) hF ?_
  rotate_left
  · (intro w hSw; (try dsimp only at hSw); go_simp; (try with_reducible rfl))
  (try simp only [Act.put, List.setIfInBounds_toArray, List.set_cons_zero, List.set_cons_succ])
  refine takeF (i := 14) (d := some 20) (v := ?_) rfl rfl (by kernel_rfl) (by kernel_rfl) (by kernel_rfl) (by kernel_rfl) (by kernel_rfl) (fun _ _ _ h => h) (Or.inl ⟨by rfl, ?_⟩) hF ?_
  rotate_left
  · (intro w hSw; (try dsimp only at hSw); go_simp; (try with_reducible rfl))
  (try simp only [Act.put, List.setIfInBounds_toArray, List.set_cons_zero, List.set_cons_succ])
  refine takeF (i := 15) (d := some 21) (v := ?_) rfl rfl (by kernel_rfl) (by kernel_rfl) (by kernel_rfl) (by kernel_rfl) (by kernel_rfl) (fun _ _ _ h => h) (Or.inl ⟨by rfl, ?_⟩) hF ?_
  rotate_left
  · (intro w hSw; (try dsimp only at hSw); go_simp; (try with_reducible rfl))
  (try simp only [Act.put, List.setIfInBounds_toArray, List.set_cons_zero, List.set_cons_succ])
  refine takeF (i := 16) (d := some 22) (v := ?_) rfl rfl (by kernel_rfl) (by kernel_rfl) (by kernel_rfl) (by kernel_rfl) (by kernel_rfl) (fun _ _ _ h => h) (Or.inl ⟨by rfl, ?_⟩) hF ?_
  rotate_left
  · (intro w hSw; (try dsimp only at hSw); go_simp; (try with_reducible rfl))
  (try simp only [Act.put, List.setIfInBounds_toArray, List.set_cons_zero, List.set_cons_succ])
  refine takeF (i := 17) (d := some 23) (v := ?_) rfl rfl (by kernel_rfl) (by kernel_rfl) (by kernel_rfl) (by kernel_rfl) (by kernel_rfl) (fun _ _ _ h => h) (Or.inl ⟨by rfl, ?_⟩) hF ?_
  rotate_left
  · (intro w hSw; (try dsimp only at hSw); go_simp; (try with_reducible rfl))
  (try simp only [Act.put, List.setIfInBounds_toArray, List.set_cons_zero, List.set_cons_succ])
  refine takeF (i := 18) (d := some 24) (v := ?_) rfl rfl (by kernel_rfl) (by kernel_rfl) (by kernel_rfl) (by kernel_rfl) (by kernel_rfl) (fun _ _ _ h => h) (Or.inl ⟨by rfl, ?_⟩) hF ?_
  rotate_left
  · (intro w hSw; (try dsimp only at hSw); go_simp; (try with_reducible rfl))
  (try simp only [Act.put, List.setIfInBounds_toArray, List.set_cons_zero, List.set_cons_succ])
  refine takeF (i := 19) (d := some 25) (v := ?_) rfl rfl (by kernel_rfl) (by kernel_rfl) (by kernel_rfl) (by kernel_rfl) (by kernel_rfl) (fun _ _ _ h => h) (Or.inl ⟨by rfl, ?_⟩) hF ?_
  rotate_left
  · (intro w hSw; (try dsimp only at hSw); go_simp; (try with_reducible rfl))
  (try simp only [Act.put, List.setIfInBounds_toArray, List.set_cons_zero, List.set_cons_succ])
  refine takeF (i := 20) (d := some 26) (v := ?_) rfl rfl (by kernel_rfl) (by kernel_rfl) (by kernel_rfl) (by kernel_rfl) (by kernel_rfl) (fun _ _ _ h => h) (Or.inl ⟨by rfl, ?_⟩) hF ?_
  rotate_left
  · (intro w hSw; (try dsimp only at hSw); go_simp; (try with_reducible rfl))
  (try simp only [Act.put, List.setIfInBounds_toArray, List.set_cons_zero, List.set_cons_succ])
  refine takeF (i := 21) (d := some 27) (v := ?_) rfl rfl (by kernel_rfl) (by kernel_rfl) (by kernel_rfl) (by kernel_rfl) (by kernel_rfl) (fun _ _ _ h => h) (Or.inl ⟨by rfl, ?_⟩) hF ?_
  rotate_left
  · (intro w hSw; (try dsimp only at hSw); go_simp; (try with_reducible rfl))
  (try simp only [Act.put, List.setIfInBounds_toArray, List.set_cons_zero, List.set_cons_succ])
  refine takeF (i := 22) (d := some 28) (v := ?_) rfl rfl (by kernel_rfl) (by kernel_rfl) (by kernel_rfl) (by kernel_rfl) (by kernel_rfl) (fun _ _ _ h => h) (Or.inl ⟨by rfl, ?_⟩) hF ?_
  rotate_left
  · (intro w hSw; (try dsimp only at hSw); go_simp; (try with_reducible rfl))
  (try simp only [Act.put, List.setIfInBounds_toArray, List.set_cons_zero, List.set_cons_succ])
  refine takeF (i := 23) (d := some 29) (v := ?_) rfl rfl (by kernel_rfl) (by kernel_rfl) (by kernel_rfl) (by kernel_rfl) (by kernel_rfl) (fun _ _ _ h => h) (Or.inl ⟨by rfl, ?_⟩) hF ?_
  rotate_left
  · (intro w hSw; (try dsimp only at hSw); go_simp; (try with_reducible rfl))
  (try simp only [Act.put, List.setIfInBounds_toArray, List.set_cons_zero, List.set_cons_succ])
  refine takeF (i := 24) (d := some 30) (v := ?_) rfl rfl (by kernel_rfl) (by kernel_rfl) (by kernel_rfl) (by kernel_rfl) (by kernel_rfl) (fun _ _ _ h => h) (Or.inl ⟨by rfl, ?_⟩) hF ?_
  rotate_left
  · (intro w hSw; (try dsimp only at hSw); go_simp; (try with_reducible rfl))
  (try simp only [Act.put, List.setIfInBounds_toArray, List.set_cons_zero, List.set_cons_succ])
  refine takeF (i := 25) (d := some 31) (v := ?_) rfl rfl (by kernel_rfl) (by kernel_rfl) (by kernel_rfl) (by kernel_rfl) (by kernel_rfl) (fun _ _ _ h => h) (Or.inl ⟨by rfl, ?_⟩) hF ?_
  rotate_left
  · (intro w hSw; (try dsimp only at hSw); go_simp; (try with_reducible rfl))
  (try simp only [Act.put, List.setIfInBounds_toArray, List.set_cons_zero, List.set_cons_succ])
  refine takeF (i := 26) (d := some 32) (v := ?_) rfl rfl (by kernel_rfl) (by kernel_rfl) (by kernel_rfl) (by kernel_rfl) (by kernel_rfl) (fun _ _ _ h => h) (Or.inl ⟨by rfl, ?_⟩) hF ?_
  rotate_left
  · (intro w hSw; (try dsimp only at hSw); go_simp; (try with_reducible rfl))
  (try simp only [Act.put, List.setIfInBounds_toArray, List.set_cons_zero, List.set_cons_succ])
  refine takeF (i := 27) (d := some 33) (v := ?_) rfl rfl (by kernel_rfl) (by kernel_rfl) (by kernel_rfl) (by kernel_rfl) (by kernel_rfl) (fun _ _ _ h => h) (Or.inl ⟨by rfl, ?_⟩) hF ?_
  rotate_left
  · (intro w hSw; (try dsimp only at hSw); go_simp; (try with_reducible rfl))
  (try simp only [Act.put, List.setIfInBounds_toArray, List.set_cons_zero, List.set_cons_succ])
  refine takeF (i := 28) (d := some 34) (v := ?_) rfl rfl (by kernel_rfl) (by kernel_rfl) (by kernel_rfl) (by kernel_rfl) (by kernel_rfl) (fun _ _ _ h => h) (Or.inl ⟨by rfl, ?_⟩) hF ?_
  rotate_left
  · (intro w hSw; (try dsimp only at hSw); go_simp; (try with_reducible rfl))
  (try simp only [Act.put, List.setIfInBounds_toArray, List.set_cons_zero, List.set_cons_succ])
  refine takeF (i := 29) (d := some 35) (v := ?_) rfl rfl (by kernel_rfl) (by kernel_rfl) (by kernel_rfl) (by kernel_rfl) (by kernel_rfl) (fun _ _ _ h => h) (Or.inl ⟨by rfl, ?_⟩) hF ?_
  rotate_left
  · (intro w hSw; (try dsimp only at hSw); go_simp; (try with_reducible rfl))
  (try simp only [Act.put, List.setIfInBounds_toArray, List.set_cons_zero, List.set_cons_succ])
  refine takeF (i := 30) (d := some 36) (v := ?_) rfl rfl (by kernel_rfl) (by kernel_rfl) (by kernel_rfl) (by kernel_rfl) (by kernel_rfl) (fun _ _ _ h => h) (Or.inl ⟨by rfl, ?_⟩) hF ?_
  rotate_left
  · (intro w hSw; (try dsimp only at hSw); go_simp; (try with_reducible rfl))
  (try simp only [Act.put, List.setIfInBounds_toArray, List.set_cons_zero, List.set_cons_succ])
  refine takeF (i := 31) (d := some 37) (v := ?_) rfl rfl (by kernel_rfl) (by kernel_rfl) (by kernel_rfl) (by kernel_rfl) (by kernel_rfl) (fun _ _ _ h => h) (Or.inl ⟨by rfl, ?_⟩) hF ?_
  rotate_left
  · (intro w hSw; (try dsimp only at hSw); go_simp; (try with_reducible rfl))
  (try simp only [Act.put, List.setIfInBounds_toArray, List.set_cons_zero, List.set_cons_succ])
  refine takeF (i := 32) (d := some 38) (v := ?_) rfl rfl (by kernel_rfl) (by kernel_rfl) (by kernel_rfl) (by kernel_rfl) (by kernel_rfl) (fun _ _ _ h => h) (Or.inl ⟨by rfl, ?_⟩) hF ?_
  rotate_left
  · (intro w hSw; (try dsimp only at hSw); go_simp; (try with_reducible rfl))
  (try simp only [Act.put, List.setIfInBounds_toArray, List.set_cons_zero, List.set_cons_succ])
  refine oneR (i := 33) (by kernel_rfl) rfl (fun K hK => ?_)
  go_simp
  have hbb : Below W1.heap.size W1 (W1.drew.alloc (.cells #[.string z.id_, .string y.name, .int .i64 ifr, .int .i64 s.now, .int .i64 en] 34)) := (Below.refl _ _).drew.alloc (by simp) _
  have hF2 := keep9 hbb hF
  have hC9 := hC1H.out.below hbb
  have hb9 := hbaH.out.trans (hbb.mono hbaH.out.size)
  have hsz9 := hbb.size
  have hown9 := hC9.out
  have hlt9 : X.base ≤ (W1.drew.alloc (.cells #[.string z.id_, .string y.name, .int .i64 ifr, .int .i64 s.now, .int .i64 en] 34)).heap.size := by have := hC9.bel.size; rw [hC9.base]; exact this
  clear hF
  have hC9H := Lib.hid hC9
  clear hC9
  have hb9H := Lib.hid hb9
  clear hb9
  have hown9H := Lib.hid hown9
  clear hown9
  have hlt9H := Lib.hid hlt9
  clear hlt9
  have hsz9H := Lib.hid hsz9
  clear hsz9
  refine hK.out _ _ ⟨fun _ _ _ => hF2, fun _ _ => trivial⟩ ?_
  clear hK K
  (try simp only [Act.put, List.setIfInBounds_toArray, List.set_cons_zero, List.set_cons_succ])
  have hF := hF2
  refine oneR (i := 34) (by kernel_rfl) rfl (fun K hK => ?_)
  refine step_app1g (R := RRun) (base := X.base) (v := .slice A n cap) (l := s.out.map (toRun X.x)) ?g1 (.tmp 10) (.tmp 39) 27 ?g2 Tryz.underlying27 elem_Run (by decide) ?g3 ?own W1.heap.size (⟨z.id_, y.name, ifr, s.now, en⟩ : Run) ?g4 ?g5 (fun _ _ _ _ h => h) ?a4 ?a5 ?a6 (n + 1) ?a7 ?_
  case g1 => rfl
  case g2 => rfl
  case g3 => rfl
  case g4 => rfl
  case own => exact hown9H.out
  case g5 => exact slAt_new W1.drew _ _ ⟨hidbH.out.1, hidbH.out.2, show I64 ifr by unfold I64; omega, show I64 s.now by unfold I64; omega, show I64 en by unfold I64; omega⟩
  case a4 => rw [hnH.out]; unfold maxLen; omega
  case a5 => rw [hnH.out]; omega
  case a6 => exact hlt9H.out
  case a7 => rw [hnH.out]
  intro A9 c9 w9 hq9 hg9 hat9
  have fz9 := ((hC9H.out.parts hg9).1 hfapH.out 11 _ rfl).2
  obtain ⟨r1, r2, r3, r4⟩ := RH.out _ w9 A9 c9 hC9H.out hb9H.out hq9 hg9 hat9
  have hF3 := keep9g hg9 ⟨hfapH.out.symm, hfapH.out.symm, hfapH.out.symm, hfapH.out.symm, hnewH.out.2.symm, hnewH.out.2.symm, hnewH.out.2.symm, fun e => by have := hownbH.out bx e.symm; have := hbxlH.out.1; omega, fun e => by have := hownbH.out by_ e.symm; have := hbxlH.out.2; omega⟩ hF
  clear hq9 hg9 hat9 hF hF2
  have r1H := Lib.hid r1
  clear r1
  have r2H := Lib.hid r2
  clear r2
  have r3H := Lib.hid r3
  clear r3
  have r4H := Lib.hid r4
  clear r4
  refine hK.out _ _ ⟨fun _ _ _ => hF3, fun _ _ => trivial⟩ ?_
  clear hK K
  (try simp only [Act.put, List.setIfInBounds_toArray, List.set_cons_zero, List.set_cons_succ])
  have hF := hF3
  refine oneR (i := 35) (by kernel_rfl) rfl (fun K hK => ?_)
  go_simp
  refine hK.out _ _ ⟨fun _ _ _ => hF, fun _ _ => trivial⟩ ?_
  clear hK K
  (try simp only [Act.put, List.setIfInBounds_toArray, List.set_cons_zero, List.set_cons_succ])
  refine oneR (i := 36) (by kernel_rfl) rfl (fun K hK => ?_)
  go_simp
  refine hK.out _ _ ⟨fun _ _ _ => hF, fun _ _ => trivial⟩ ?_
  clear hK K
  (try simp only [Act.put, List.setIfInBounds_toArray, List.set_cons_zero, List.set_cons_succ])
  refine oneR (i := 37) (by kernel_rfl) rfl (fun K hK => ?_)
  go_simp
  refine hK.out _ _ ⟨fun h => absurd rfl h, fun h => absurd rfl h⟩ ?_
  clear hK K
  (try simp only [Act.put, List.setIfInBounds_toArray, List.set_cons_zero, List.set_cons_succ])
  refine doneR (by kernel_rfl) ?_ _
  clear hF
  have m12 := (r1H.out.blk 12 _ rfl).1
  have m7 := (r1H.out.blk 7 _ rfl).1
  have ml := r1H.out.last iw hi
  obtain ⟨ml1, ml2⟩ := ml
  have hrbf : rb ≠ X.f := fun e => hnewH.out.1 (by rw [e]; exact hfmH.out)
  have mr : (w9.setCell ⟨X.f, 11, none⟩ (.slice A9 (n + 1) c9)).cell? ⟨rb, 0, none⟩ = some (.int .i64 iw) := (World.cell?_setCell_other _ _ _ _ (by simp <;> omega)).trans hF3.2.2.2.2.1
  obtain ⟨W10, hW10⟩ : ∃ Y, w9.setCell ⟨X.f, 11, none⟩ (.slice A9 (n + 1) c9) = Y := ⟨_, rfl⟩
  rw [hW10] at m12 m7 ml1 ml2 mr ⊢
  have r1 := r1H.out
  have r3 := r3H.out
  have r4 := r4H.out
  rw [hW10] at r1 r3 r4
  obtain ⟨lv, hlv⟩ : ∃ v, s.last iw = v := ⟨_, rfl⟩
  rw [hlv] at ml1
  clear r1H r3H r4H hF3 fz9
  by_cases h3 : en = 3
  · subst h3
    have Q : ClAns X K rv (.slice A n cap) (clS s r 3) w0 w (.returned (.tuple #[])) W10 := ⟨rfl, _, by rw [clS_3]; exact r1, r2H.out, r3, r4⟩
    clear r1 r3 r4
    have QH := Lib.hid Q
    clear Q
    have hlvH := Lib.hid hlv
    clear hlv
    have hW10H := Lib.hid hW10
    clear hW10
    go_wp2
    go_end0
    exact QH.out
  · have h3' : (en != 3) = true := by simpa using h3
    have hS2 := r1.setLast iw s.now
    have r4' : ∀ b, b < w.heap.size → b ∉ X.bl → (Value.slice A n cap).ownBlock ≠ some b → (W10.setCell ⟨X.tb, iw, none⟩ (.int .i64 s.now)).heap[b]? = w.heap[b]? := fun b hb hbn hbo => by
      rw [(grown_setc W10 ⟨X.tb, iw, none⟩ _).block b (by omega) (fun e => hbn (by injection e with e; rw [e]; exact htmH.out))]
      exact r4 b hb hbn hbo
    have Q : ClAns X K rv (.slice A n cap) (clS s r en) w0 w (.returned (.tuple #[])) (W10.setCell ⟨X.tb, iw, none⟩ (.int .i64 s.now)).drew :=
      ⟨rfl, _, by rw [clS_n s r h3 hiwH.out]; exact hS2.below (Below.refl _ _).drew, r2H.out, by simpa using r3, r4'⟩
    clear r1 r3 r4 r4' hS2 h3
    have hN : X.N = X.x.works.n := rfl
    rw [hN] at m12
    have QH := Lib.hid Q
    clear Q
    have hlvH := Lib.hid hlv
    clear hlv
    have hW10H := Lib.hid hW10
    clear hW10
    have hNH := Lib.hid hN
    clear hN
    go_wp2_with fail
    go_still_tail 11, (by kernel_rfl)
    go_wp2
    go_end0
    exact QH.out
end Go.Proofs.YtbnkoefljcekbaaGreatDoor.C9

namespace Go.Proofs.YtbnkoefljcekbaaGreatDoor.C9
open Go.ChangeShapes Go.WideShapes Go.Deep Go.RowKit
set_option linter.unusedVariables false
set_option linter.unusedSimpArgs false

section
variable {α : Type} {R : Rd α} {e : TypeId} {w w' : World} {base g n cap : Nat} {l : List α}
theorem own_open (h : Own R e w base (.slice (some ⟨g, 0, none⟩) n cap) l) : ∃ cur, base ≤ g ∧ w.heap[g]? = some (.cells cur e (0, 0)) ∧ n ≤ cap ∧ cap ≤ maxLen ∧ cur.size = cap * R.size ∧ cur.toList.take (n * R.size) = l.flatMap R.vals ∧ l.length = n := by
  have hl := h.len
  rcases h.1.2 with ⟨hv, _⟩ | ⟨g', cap', cur, hv, a, b, c, d, e1, f⟩
  · cases hv
  · injection hv with h1 h2 h3
    injection h1 with h1
    injection h1 with h1
    subst h1 h3
    rw [hl] at c f
    exact ⟨cur, a, b, c, d, e1, f, hl⟩
theorem own_make {cur : Array Value} (a : base ≤ g) (b : w.heap[g]? = some (.cells cur e (0, 0))) (c : n ≤ cap) (d : cap ≤ maxLen) (e1 : cur.size = cap * R.size) (f : cur.toList.take (n * R.size) = l.flatMap R.vals) (hl : l.length = n) (hok : ∀ x ∈ l, R.ok w x) :
    Own R e w base (.slice (some ⟨g, 0, none⟩) n cap) l := by
  subst hl
  exact ⟨⟨flatMap_vals_length l, .inr ⟨g, cap, cur, rfl, a, b, c, d, e1, f⟩⟩, hok⟩
theorem own_same (h : Own R e w base (.slice (some ⟨g, 0, none⟩) n cap) l) (hg : w'.heap[g]? = w.heap[g]?) (hok : ∀ x ∈ l, R.ok w x → R.ok w' x) : Own R e w' base (.slice (some ⟨g, 0, none⟩) n cap) l := by
  obtain ⟨cur, a, b, c, d, e1, f, hl⟩ := own_open h
  exact own_make a (hg.trans b) c d e1 f hl (fun x hx => hok x hx (h.2 x hx))
theorem flatMap_take (l : List α) (i : Nat) : (l.take i).flatMap R.vals = (l.flatMap R.vals).take (i * R.size) := by
  induction l generalizing i with
  | nil => simp
  | cons x l ih =>
    cases i with
    | zero => simp
    | succ i =>
      have hx : (R.vals x).length ≤ (i + 1) * R.size := by rw [R.len, Nat.add_mul]; omega
      have e1 : (i + 1) * R.size - R.size = i * R.size := by rw [Nat.add_mul]; omega
      rw [List.take_succ_cons, List.flatMap_cons, List.flatMap_cons, ih, List.take_append, List.take_of_length_le hx, R.len, e1]
theorem flatMap_drop (l : List α) (i : Nat) : (l.drop i).flatMap R.vals = (l.flatMap R.vals).drop (i * R.size) := by
  induction l generalizing i with
  | nil => simp
  | cons x l ih =>
    cases i with
    | zero => simp
    | succ i =>
      have hx : (R.vals x).length ≤ (i + 1) * R.size := by rw [R.len, Nat.add_mul]; omega
      have e1 : (i + 1) * R.size - R.size = i * R.size := by rw [Nat.add_mul]; omega
      rw [List.drop_succ_cons, List.flatMap_cons, ih, List.drop_append, List.drop_eq_nil_of_le hx, R.len, e1, List.nil_append]
theorem own_put (h : Own R e w base (.slice (some ⟨g, 0, none⟩) n cap) l) {i : Nat} (hi : i < n) (x : α) (hx : R.ok w x) (hok : ∀ y, R.ok w y → R.ok (w.setCells g (i * R.size) (R.vals x)) y) :
    Own R e (w.setCells g (i * R.size) (R.vals x)) base (.slice (some ⟨g, 0, none⟩) n cap) (l.set i x) := by
  obtain ⟨cur, a, b, c, d, e1, f, hl⟩ := own_open h
  have hin : (i + 1) * R.size ≤ n * R.size := Nat.mul_le_mul_right _ hi
  have hnc : n * R.size ≤ cap * R.size := Nat.mul_le_mul_right _ c
  rw [Nat.add_mul, Nat.one_mul] at hin
  obtain ⟨cur', h1, h2⟩ := heap_setCells g e (R.vals x) (i * R.size) w cur b (by rw [R.len, e1]; omega)
  have hcl : cur.toList.length = cap * R.size := by simpa using e1
  have hlen : cur'.size = cap * R.size := by
    have := congrArg List.length h2
    simp only [Array.length_toList, List.length_append, List.length_take, List.length_drop, R.len] at this
    omega
  refine own_make a h1 c d hlen ?_ (by rw [List.length_set]; exact hl) (fun y hy => ?_)
  · rw [h2]
    have hset : l.set i x = l.take i ++ x :: l.drop (i + 1) := by rw [List.set_eq_take_append_cons_drop, if_pos (by omega)]
    rw [hset, List.flatMap_append, List.flatMap_cons, flatMap_take, flatMap_drop, ← f]
    have e2 : (cur.toList.take (i * R.size)).length = i * R.size := by rw [List.length_take]; omega
    have e3 : (R.vals x).length ≤ n * R.size - i * R.size := by rw [R.len]; omega
    have e4 : (cur.toList.take (n * R.size)).take (i * R.size) = cur.toList.take (i * R.size) := by rw [List.take_take, Nat.min_eq_left (by omega)]
    have e5 : (cur.toList.take (n * R.size)).drop ((i + 1) * R.size) = (cur.toList.drop (i * R.size + R.size)).take (n * R.size - i * R.size - R.size) := by
      rw [List.drop_take, Nat.add_mul, Nat.one_mul]
      congr 1
      omega
    rw [e4, e5, List.append_assoc, List.take_append, e2, List.take_of_length_le (by omega), List.take_append, List.take_of_length_le e3, R.len]
  · rcases List.mem_or_eq_of_mem_set hy with hy | rfl
    · exact hok _ (h.2 _ hy)
    · exact hok _ hx
theorem own_wipe (h : Own R e w base (.slice (some ⟨g, 0, none⟩) n cap) l) {i : Nat} (hi : i ≤ n) (vs : List Value) (hv : vs.length = (n - i) * R.size) (hok : ∀ y, R.ok w y → R.ok (w.setCells g (i * R.size) vs) y) :
    Own R e (w.setCells g (i * R.size) vs) base (.slice (some ⟨g, 0, none⟩) i cap) (l.take i) := by
  obtain ⟨cur, a, b, c, d, e1, f, hl⟩ := own_open h
  have hin : i * R.size ≤ n * R.size := Nat.mul_le_mul_right _ hi
  have hnc : n * R.size ≤ cap * R.size := Nat.mul_le_mul_right _ c
  rw [Nat.sub_mul] at hv
  obtain ⟨cur', h1, h2⟩ := heap_setCells g e vs (i * R.size) w cur b (by rw [e1]; omega)
  have hcl : cur.toList.length = cap * R.size := by simpa using e1
  have hlen : cur'.size = cap * R.size := by
    have := congrArg List.length h2
    simp only [Array.length_toList, List.length_append, List.length_take, List.length_drop] at this
    omega
  refine own_make a h1 (by omega) d hlen ?_ (by rw [List.length_take]; omega) (fun y hy => hok _ (h.2 _ (List.mem_of_mem_take hy)))
  rw [h2, flatMap_take, ← f, List.append_assoc, List.take_append, List.length_take, hcl, Nat.min_eq_left (by omega), Nat.sub_self, List.take_zero, List.append_nil, List.take_take, List.take_take, Nat.min_self, Nat.min_eq_left hin]
end

/-- 'clear(s)' at a slice of structs -/
theorem run_clear_N {P : Program} (w : World) (t e ty : TypeId) (z : Value) (s : Nat) (ht : P.underlying t = some (.slice e)) (hv : ∀ w, (zeroValue e).run P w = .ok z w) (hz : z.cells.size = s) (h1 : ∀ v ∈ z.cells.toList, v.oneCell' = true) (b o n c : Nat) (hn : 0 < n) (hs : 0 < s)
    (hc : ∀ j, j < n * s → (w.cell? ⟨b, o + j, none⟩).isSome = true) (hf : ∀ j, j < n * s → w.frozen? ⟨b, o + j, none⟩ = false) :
    (Builtin.zeroCells z.cells n).toList.length = n * s ∧ (Builtin.clear_ #[t] ty #[.slice (some ⟨b, o, none⟩) n c]).run P w = .ok (.tuple #[]) (w.setCells b o (Builtin.zeroCells z.cells n).toList) := by
  refine ⟨by simp [Builtin.zeroCells, hz], ?_⟩
  have hl : (Builtin.zeroCells z.cells n).toList.length = n * s := by simp [Builtin.zeroCells, hz]
  have hst := run_storeCells_cells (P := P) b o (Builtin.zeroCells z.cells n).toList 0 w (by rw [hl]; simpa using hc) (by rw [hl]; simpa using hf) (by
    intro v hv'
    simp only [Builtin.zeroCells, Array.toList_map, List.mem_map] at hv'
    obtain ⟨i, _, rfl⟩ := hv'
    have hlt : i % z.cells.size < z.cells.size := Nat.mod_lt _ (by omega)
    rw [getElem!_pos z.cells _ hlt]
    exact h1 _ (by simp))
  simp only [Nat.add_zero] at hst
  obtain ⟨m, rfl⟩ : ∃ m, n = m + 1 := ⟨n - 1, by omega⟩
  simp [Builtin.clear_, run_underlying ht, hv, hst]
end Go.Proofs.YtbnkoefljcekbaaGreatDoor.C9

namespace Go.Proofs.YtbnkoefljcekbaaGreatDoor.C9
open Go.ChangeShapes Go.WideShapes Go.Deep Go.RowKit Go.Sort
set_option linter.unusedVariables false
set_option linter.unusedSimpArgs false

section
variable {α : Type} [Inhabited α] {R : Rd α} {e : TypeId} {w w' : World} {base g n cap : Nat} {l : List α}
theorem flat_toList (l : List α) : (flatK R.vals R.size l.toArray).toList = l.flatMap R.vals := by
  apply List.ext_getElem?
  intro t
  by_cases ht : t < l.length * R.size
  · have hs : 0 < R.size := by
      rcases Nat.eq_zero_or_pos R.size with h | h
      · rw [h] at ht; simp at ht
      · exact h
    have hi : t / R.size < l.length := Nat.div_lt_of_lt_mul (by rw [Nat.mul_comm]; exact ht)
    have hj : t % R.size < R.size := Nat.mod_lt _ hs
    have hte : t = t / R.size * R.size + t % R.size := by rw [Nat.mul_comm]; exact (Nat.div_add_mod t R.size).symm
    have hv : (R.vals (l[t / R.size]'hi))[t % R.size]? = some ((R.vals (l[t / R.size]'hi))[t % R.size]'(by rw [R.len]; exact hj)) := List.getElem?_eq_getElem _
    have hg := flatMap_vals_get l (t / R.size) (t % R.size) _ _ (List.getElem?_eq_getElem hi) hv
    rw [← hte] at hg
    rw [hg]
    have h1 : (flatK R.vals R.size l.toArray).toList[t]? = some ((flatK R.vals R.size l.toArray)[t]!) := by
      rw [Array.getElem?_toList, Array.getElem?_eq_getElem (by simpa using ht), getElem!_pos _ _ (by simpa using ht)]
    rw [h1, get_flatK _ _ _ _ (by simpa using ht)]
    congr 1
    simp only [List.getElem!_toArray]
    rw [getElem!_pos l _ hi, getElem!_pos (R.vals (l[t / R.size]'hi)) _ (by rw [R.len]; exact hj)]
  · rw [List.getElem?_eq_none (by simp; omega), List.getElem?_eq_none (by rw [flatMap_vals_length]; omega)]
theorem holdsK_of_own (h : Own R e w base (.slice (some ⟨g, 0, none⟩) n cap) l) : HoldsK R.vals R.size w g 0 l.toArray := by
  obtain ⟨cur, a, b, c, d, e1, f, hl⟩ := own_open h
  intro j hj
  have hj' : j < n * R.size := by rw [← hl]; simpa using hj
  have hnc : n * R.size ≤ cap * R.size := Nat.mul_le_mul_right _ c
  refine ⟨?_, by simp [World.frozen?, b]⟩
  have e2 : (cur.toList.take (n * R.size))[j]? = (flatK R.vals R.size l.toArray).toList[j]? := by rw [f, flat_toList]
  rw [List.getElem?_take, if_pos hj', Array.getElem?_toList, Array.getElem?_toList] at e2
  simp only [World.cell?, b, Nat.zero_add, Option.isSome_none, Bool.false_eq_true, if_false]
  rw [e2, Array.getElem?_eq_getElem hj, getElem!_pos (flatK R.vals R.size l.toArray) j hj]
  rfl
theorem heap_sortK (d : Array α) (m : Nat) (os : Array Obj) (k : Nat) (hk : k < w.heap.size) (hne : k ≠ g) : (sortWorldK R.vals R.size w g 0 m d os).heap[k]? = w.heap[k]? := by
  unfold sortWorldK putRowK putRow mapBlock grow Sort.ahead
  simp only
  rw [Array.getElem?_append_left (by simpa using hk), Array.getElem?_modify, if_neg (Ne.symm hne)]
theorem grown_sortK (d : Array α) (m : Nat) (os : Array Obj) : w.grownBy (sortWorldK R.vals R.size w g 0 m d os) (some g) :=
  ⟨rfl, rfl, rfl, by unfold sortWorldK putRowK putRow mapBlock grow Sort.ahead; simp, fun k hk hne => heap_sortK d m os k hk (fun e => hne (by rw [e]))⟩
theorem own_sortK (h : Own R e w base (.slice (some ⟨g, 0, none⟩) n cap) l) (l' : List α) (hl' : l'.length = n) (m : Nat) (os : Array Obj) (hok : ∀ x ∈ l', R.ok (sortWorldK R.vals R.size w g 0 m l'.toArray os) x) :
    Own R e (sortWorldK R.vals R.size w g 0 m l'.toArray os) base (.slice (some ⟨g, 0, none⟩) n cap) l' := by
  obtain ⟨cur, a, b, c, d, e1, f, hl⟩ := own_open h
  have hnc : n * R.size ≤ cap * R.size := Nat.mul_le_mul_right _ c
  have hg : g < w.heap.size := (h.1.lt g rfl).2
  have hcur : (sortWorldK R.vals R.size w g 0 m l'.toArray os).heap[g]? = some (.cells (putCells id 0 (flatK R.vals R.size l'.toArray) cur) e (0, 0)) := by
    unfold sortWorldK putRowK putRow mapBlock grow Sort.ahead
    simp only
    rw [Array.getElem?_append_left (by simpa using hg), Array.getElem?_modify, if_pos rfl, b]
    rfl
  refine own_make a hcur c d (by simpa [putCells] using e1) ?_ hl' hok
  rw [← flat_toList]
  apply List.ext_getElem?
  intro j
  rw [List.getElem?_take, Array.getElem?_toList, Array.getElem?_toList]
  have hsz : (flatK R.vals R.size l'.toArray).size = n * R.size := by simp [hl']
  by_cases hj : j < n * R.size
  · have hjc : j < cur.size := by omega
    simp only [if_pos hj, putCells, Array.getElem?_mapIdx, Array.getElem?_eq_getElem hjc, Option.map_some]
    rw [if_pos (by omega), Array.getElem?_eq_getElem (by omega), Nat.sub_zero, getElem!_pos (flatK R.vals R.size l'.toArray) j (by omega)]
    rfl
  · rw [if_neg hj, Array.getElem?_eq_none (by omega)]
theorem perm_of_in {d d' : Array α} (h : PermIn 0 d.size d d') : d'.toList.Perm d.toList ∧ d'.size = d.size := by
  obtain ⟨h1, _, h3⟩ := h
  refine ⟨?_, h1⟩
  have e1 : d.extract 0 d.size = d := by simp
  have e2 : d'.extract 0 d.size = d' := by rw [← h1]; simp
  rw [e1, e2] at h3
  exact h3
theorem sorted_of_in {lt : α → α → Bool} {d : Array α} {n : Nat} (hn : d.size = n) (h : SortedIn lt 0 n d) : d.toList.Pairwise fun x y => lt y x = false := by
  rw [List.pairwise_iff_getElem]
  intro i j hi hj hij
  have := h i j (Nat.zero_le _) hij (by rw [← hn]; simpa using hj)
  rw [getElem!_pos d j (by simpa using hj), getElem!_pos d i (by simpa using hi)] at this
  simpa using this
end
end Go.Proofs.YtbnkoefljcekbaaGreatDoor.C9

namespace Go.Proofs.YtbnkoefljcekbaaGreatDoor.C9
open Go.ChangeShapes Go.WideShapes Go.Deep Go.RowKit
set_option linter.unusedVariables false
set_option linter.unusedSimpArgs false

def gvals (x : GRun) : Array Value := #[.int .i64 x.work, .int .i64 x.worker, .int .i64 x.from_, .int .i64 x.end_]
/-- what is asked of a closure that is called once at each of L: I k ahead of the k-th call, the row in block rb -/
structure DelP (g : Nat) (lb : Array Value) (p : GRun → Bool) (L : List GRun) (rb : Nat) (I : Nat → World → Prop) : Prop where
  stab : ∀ k W W', I k W → W.grownBy W' (some rb) → I k W'
  call : ∀ k x W0 W, L[k]? = some x → I k W0 → Below W0.heap.size W0 W → Calls Tryz.prog g (#[.agg (gvals x)] ++ lb) W fun e w' => e = .returned (.bool (p x)) ∧ I (k + 1) w' ∧ W.heap.size ≤ w'.heap.size ∧ ∀ b, (b = rb ∨ W0.heap.size ≤ b) → b < W.heap.size → w'.heap[b]? = W.heap[b]?
def IxRel (base rb n cap : Nat) (L : List GRun) (p : GRun → Bool) (I : Nat → World → Prop) (i : Value) (wr : World) : Prop :=
  ∃ k : Nat, k ≤ n ∧ i = .int .i64 k ∧ Own RGRun 144 wr base (.slice (some ⟨rb, 0, none⟩) n cap) L ∧ I k wr ∧ (∀ x ∈ L.take k, p x = false)
def IxAns (base rb n cap : Nat) (L : List GRun) (p : GRun → Bool) (I : Nat → World → Prop) (e : Ending) (w' : World) : Prop :=
  Own RGRun 144 w' base (.slice (some ⟨rb, 0, none⟩) n cap) L ∧ ((e = .returned (.int .i64 (-1)) ∧ I n w' ∧ (∀ x ∈ L, p x = false)) ∨ ∃ k : Nat, k < n ∧ e = .returned (.int .i64 k) ∧ I (k + 1) w' ∧ (∀ x ∈ L.take k, p x = false) ∧ ∃ x, L[k]? = some x ∧ p x = true)
theorem own_lt {base rb n cap : Nat} {L : List GRun} {w : World} (h : Own RGRun 144 w base (.slice (some ⟨rb, 0, none⟩) n cap) L) : rb < w.heap.size := (h.1.lt rb rfl).2
theorem own_fz {base rb n cap : Nat} {L : List GRun} {w : World} (h : Own RGRun 144 w base (.slice (some ⟨rb, 0, none⟩) n cap) L) (j : Nat) : w.frozen? ⟨rb, j, none⟩ = false := by
  obtain ⟨cur, a, b, _⟩ := own_open h
  exact frozen_of_row w rb _ cur _ b
theorem grun_okW (w w' : World) (y : GRun) (h : RGRun.ok w y) : RGRun.ok w' y := h
theorem take_all {L : List GRun} {p : GRun → Bool} {k : Nat} {x : GRun} (h : ∀ y ∈ L.take k, p y = false) (hx : L[k]? = some x) (hp : p x = false) : ∀ y ∈ L.take (k + 1), p y = false := fun y hy => by
  rw [List.take_add_one, hx, Option.toList_some] at hy
  rcases List.mem_append.1 hy with hy | hy
  · exact h y hy
  · rw [List.mem_singleton.1 hy]; exact hp
set_option maxHeartbeats 2000000 in
theorem indexG_any (g : Nat) (lb : Array Value) (eg : ∀ args w, (callFunc g args).run Tryz.prog w = .ok (.enter g args) w) (p : GRun → Bool) (base rb n cap : Nat) (L : List GRun) (I : Nat → World → Prop) (w : World)
    (hP : DelP g lb p L rb I) (hO : Own RGRun 144 w base (.slice (some ⟨rb, 0, none⟩) n cap) L) (hI : I 0 w) (hn : n ≤ 1000000) :
    Calls Tryz.prog 157 #[.slice (some ⟨rb, 0, none⟩) n cap, .func (.func g) #[] lb] w (IxAns base rb n cap L p I) := by
  have hl := hO.len
  have hPH := Lib.hid hP
  clear hP
  have hOH := Lib.hid hO
  clear hO
  have hIH := Lib.hid hI
  clear hI
  have hlH := Lib.hid hl
  clear hl
  go_enter Tryz.func157, Tryz.ntmps157
  go_wp2_with fail
  go_loopw [8] (fun i wr => IxRel base rb n cap L p I i wr) (fun i _ => n - (intOf i).toNat)
  case atStart => exact ⟨0, Nat.zero_le _, rfl, hOH.out, hIH.out, by simp⟩
  case round =>
    clear hOH hIH
    obtain ⟨k, hk, rfl, hO, hI, hall⟩ := hrel
    by_cases hlt : k < n
    · obtain ⟨x, hx⟩ : ∃ x, L[k]? = some x := ⟨L[k]'(by have := hlH.out; omega), List.getElem?_eq_getElem _⟩
      obtain ⟨d0, d1, d2, d3⟩ := cells_GRun hO.slAt hx
      rw [Nat.zero_add] at d0 d1 d2 d3
      have hcall := hPH.out.call k x wr wr hx hI (Below.refl _ _)
      have hlt2 := own_lt hO
      unfold gvals at hcall
      cases hp : p x
      · rw [hp] at hcall
        have hall2 := take_all hall hx hp
        have R : ∀ w', I (k + 1) w' → w'.heap[rb]? = wr.heap[rb]? → IxRel base rb n cap L p I (.int .i64 ((k : Int) + 1)) w' := fun w' h1 h2 =>
          ⟨k + 1, hlt, by go_num, own_same hO h2 (fun y _ hy => grun_okW _ _ y hy), h1, hall2⟩
        clear hall hall2
        have hOH := Lib.hid hO
        clear hO
        have hIH := Lib.hid hI
        clear hI
        have hxH := Lib.hid hx
        clear hx
        have hpH := Lib.hid hp
        clear hp
        have hcallH := Lib.hid hcall
        clear hcall
        have RH := Lib.hid R
        clear R
        have hlt2H := Lib.hid hlt2
        clear hlt2
        go_wp2_with fail
        go_at_fn g
        refine hcallH.out.mono ?_
        rintro e w5 ⟨rfl, h5, h6, h7⟩
        have R5 := RH.out w5 h5 (h7 rb (.inl rfl) hlt2H.out)
        clear h5 h6 h7
        have R5H := Lib.hid R5
        clear R5
        go_wp2
        refine ⟨?rel, ?measure⟩
        case measure => (simp [intOf]; omega)
        case rel => first | exact R5H.out | exact ⟨rfl, R5H.out⟩ | ((try refine ⟨rfl, ?_⟩); (repeat apply Exists.intro); refine ⟨R5H.out, ?_⟩; ((repeat' apply And.intro) <;> rfl))
      · rw [hp] at hcall
        have R : ∀ w', I (k + 1) w' → w'.heap[rb]? = wr.heap[rb]? → IxAns base rb n cap L p I (.returned (.int .i64 (k : Int))) w' := fun w' h1 h2 =>
          ⟨own_same hO h2 (fun y _ hy => grun_okW _ _ y hy), .inr ⟨k, hlt, rfl, h1, hall, x, hx, hp⟩⟩
        clear hall
        have hOH := Lib.hid hO
        clear hO
        have hIH := Lib.hid hI
        clear hI
        have hxH := Lib.hid hx
        clear hx
        have hpH := Lib.hid hp
        clear hp
        have hcallH := Lib.hid hcall
        clear hcall
        have RH := Lib.hid R
        clear R
        have hlt2H := Lib.hid hlt2
        clear hlt2
        go_wp2_with fail
        go_at_fn g
        refine hcallH.out.mono ?_
        rintro e w5 ⟨rfl, h5, h6, h7⟩
        have R5 := RH.out w5 h5 (h7 rb (.inl rfl) hlt2H.out)
        clear h5 h6 h7
        have R5H := Lib.hid R5
        clear R5
        go_wp2
        go_ret
        exact R5H.out
    · obtain rfl : k = n := by omega
      rw [List.take_of_length_le (by have := hlH.out; omega)] at hall
      have R : IxAns base rb k cap L p I (.returned (.int .i64 (-1))) wr := ⟨hO, .inl ⟨rfl, hI, hall⟩⟩
      clear hall
      have hOH := Lib.hid hO
      clear hO
      have hIH := Lib.hid hI
      clear hI
      have RH := Lib.hid R
      clear R
      go_wp2
      go_ret
      exact RH.out

/-- deleting: at j, those before j that stay lie ahead of i -/
structure DelI (L M : List GRun) (p : GRun → Bool) (i j : Nat) : Prop where
  len : M.length = L.length
  low : M.take i = (L.take j).filter fun x => !p x
  high : M.drop j = L.drop j
  lt : i < j
theorem DelI.start {L : List GRun} {p : GRun → Bool} {k : Nat} {x : GRun} (h : ∀ y ∈ L.take k, p y = false) (hx : L[k]? = some x) (hp : p x = true) : DelI L L p k (k + 1) := by
  refine ⟨rfl, ?_, rfl, by omega⟩
  rw [List.take_add_one, hx, Option.toList_some, List.filter_append, List.filter_eq_self.2 (fun y hy => by rw [h y hy]; rfl)]
  simp [hp]
theorem DelI.skip {L M : List GRun} {p : GRun → Bool} {i j : Nat} {x : GRun} (h : DelI L M p i j) (hx : L[j]? = some x) (hp : p x = true) : DelI L M p i (j + 1) := by
  refine ⟨h.len, ?_, ?_, by have := h.lt; omega⟩
  · rw [h.low, List.take_add_one, hx, Option.toList_some, List.filter_append]; simp [hp]
  · rw [show j + 1 = j + 1 from rfl, ← List.drop_drop, h.high, List.drop_drop]
theorem DelI.keep {L M : List GRun} {p : GRun → Bool} {i j : Nat} {x : GRun} (h : DelI L M p i j) (hx : L[j]? = some x) (hp : p x = false) : DelI L (M.set i x) p (i + 1) (j + 1) := by
  have hlt := h.lt
  have hj := (List.getElem?_eq_some_iff.1 hx).1
  have hl := h.len
  refine ⟨by rw [List.length_set]; exact hl, ?_, ?_, by omega⟩
  · rw [List.take_add_one, List.take_set_of_le (Nat.le_refl _), List.getElem?_set_self (by omega), Option.toList_some, h.low, List.take_add_one, hx, Option.toList_some, List.filter_append]
    simp [hp]
  · rw [List.drop_set_of_lt (by omega), ← List.drop_drop, h.high, List.drop_drop]
def DeRel (base rb n cap : Nat) (L : List GRun) (p : GRun → Bool) (I : Nat → World → Prop) (iv jv : Value) (wr : World) : Prop :=
  ∃ (i j : Nat) (M : List GRun), j ≤ n ∧ iv = .int .i64 i ∧ jv = .int .i64 j ∧ DelI L M p i j ∧ Own RGRun 144 wr base (.slice (some ⟨rb, 0, none⟩) n cap) M ∧ I j wr
def DeAns (base : Nat) (A : Option Addr) (n cap : Nat) (L : List GRun) (p : GRun → Bool) (I : Nat → World → Prop) (e : Ending) (w' : World) : Prop :=
  ∃ k, k ≤ n ∧ e = .returned (.slice A k cap) ∧ Own RGRun 144 w' base (.slice A k cap) (L.filter fun x => !p x) ∧ I n w'
set_option maxRecDepth 100000 in
set_option maxHeartbeats 4000000 in
theorem deleteG_any (g : Nat) (lb : Array Value) (eg : ∀ args w, (callFunc g args).run Tryz.prog w = .ok (.enter g args) w) (p : GRun → Bool) (base rb n cap : Nat) (L : List GRun) (I : Nat → World → Prop) (w : World)
    (hP : DelP g lb p L rb I) (hO : Own RGRun 144 w base (.slice (some ⟨rb, 0, none⟩) n cap) L) (hI : I 0 w) (hn : n ≤ 1000000) :
    Calls Tryz.prog 113 #[.slice (some ⟨rb, 0, none⟩) n cap, .func (.func g) #[] lb] w (DeAns base (some ⟨rb, 0, none⟩) n cap L p I) := by
  have hl := hO.len
  have hcap := hO.cap_le
  have hix := indexG_any g lb eg p base rb n cap L I w hP hO hI hn
  have hPH := Lib.hid hP
  clear hP
  have hOH := Lib.hid hO
  clear hO
  have hIH := Lib.hid hI
  clear hI
  have hlH := Lib.hid hl
  clear hl
  have hixH := Lib.hid hix
  clear hix
  go_enter Tryz.func113, Tryz.ntmps113
  go_wp2_with fail
  refine hixH.out.mono ?_
  rintro e w1 ⟨hO1, ⟨rfl, hI1, hno⟩ | ⟨k, hk, rfl, hI1, hall, x, hx, hpx⟩⟩
  · have R : DeAns base (some ⟨rb, 0, none⟩) n cap L p I (.returned (.slice (some ⟨rb, 0, none⟩) n cap)) w1 :=
      ⟨n, Nat.le_refl _, rfl, by rw [List.filter_eq_self.2 (fun y hy => by rw [hno y hy]; rfl)]; exact hO1, hI1⟩
    clear hO1 hI1 hno
    have RH := Lib.hid R
    clear R
    go_wp2
    go_ret
    exact RH.out
  · have hst : DeRel base rb n cap L p I (.int .i64 (k : Int)) (.int .i64 ((k : Int) + 1)) w1 := ⟨k, k + 1, L, hk, rfl, by go_num, DelI.start hall hx hpx, hO1, hI1⟩
    have hk1 : ((k : Int) == -1) = false := beq_eq_false_iff_ne.2 (by omega)
    clear hO1 hI1 hall hx hpx
    have hstH := Lib.hid hst
    clear hst
    go_wp2_with fail
    clear hOH hIH hixH hk1
    go_loopw [5, 6] (fun i j wr => DeRel base rb n cap L p I i j wr) (fun _ j _ => n - (intOf j).toNat)
    case atStart => exact hstH.out
    case round =>
      clear hstH
      obtain ⟨i, j, M, hj, rfl, rfl, hD, hO, hI⟩ := hrel
      have hij := hD.lt
      have hMl : M.length = n := hD.len.trans hlH.out
      have hlt2 := own_lt hO
      by_cases hlt : j < n
      · obtain ⟨x, hx⟩ : ∃ x, L[j]? = some x := ⟨L[j]'(by have := hlH.out; omega), List.getElem?_eq_getElem _⟩
        have hMx : M[j]? = some x := by
          have h1 : M[j]? = (M.drop j)[0]? := by rw [List.getElem?_drop, Nat.add_zero]
          rw [h1, hD.high, List.getElem?_drop, Nat.add_zero]; exact hx
        obtain ⟨d0, d1, d2, d3⟩ := cells_GRun hO.slAt hMx
        rw [Nat.zero_add] at d0 d1 d2 d3
        obtain ⟨o, ho⟩ : ∃ o, M[i]? = some o := ⟨M[i]'(by omega), List.getElem?_eq_getElem _⟩
        have hba := (Below.refl wr.heap.size wr).alloc (Nat.le_refl _) (.cells #[.int .i64 x.work, .int .i64 x.worker, .int .i64 x.from_, .int .i64 x.end_] 144)
        have hcall := hPH.out.call j x wr _ hx hI hba
        unfold gvals at hcall
        have hxok : RGRun.ok wr x := hO.2 x (List.mem_of_getElem? hMx)
        cases hp : p x
        · rw [hp] at hcall
          have hD2 := hD.keep hx hp
          have R : ∀ w', I (j + 1) w' → w'.heap[rb]? = (wr.alloc (.cells #[.int .i64 x.work, .int .i64 x.worker, .int .i64 x.from_, .int .i64 x.end_] 144)).heap[rb]? →
              (∀ c, c < 4 → w'.frozen? ⟨rb, 0 + i * 4 + c, none⟩ = false ∧ ∃ u, w'.cell? ⟨rb, 0 + i * 4 + c, none⟩ = some u) ∧ DeRel base rb n cap L p I (.int .i64 ((i : Int) + 1)) (.int .i64 ((j : Int) + 1)) ((((w'.setCell ⟨rb, i * 4, none⟩ (.int .i64 x.work)).setCell ⟨rb, i * 4 + 1, none⟩ (.int .i64 x.worker)).setCell ⟨rb, i * 4 + 2, none⟩ (.int .i64 x.from_)).setCell ⟨rb, i * 4 + 3, none⟩ (.int .i64 x.end_)) := by
            intro w' h1 h2
            have hO2 : Own RGRun 144 w' base (.slice (some ⟨rb, 0, none⟩) n cap) M := own_same hO (h2.trans (hba.block rb hlt2)) (fun y _ hy => grun_okW _ _ y hy)
            obtain ⟨u0, u1, u2, u3⟩ := cells_GRun hO2.slAt ho
            refine ⟨fun c hc => ⟨own_fz hO2 _, ?_⟩, i + 1, j + 1, M.set i x, hlt, by go_num, by go_num, hD2, ?_, ?_⟩
            · match c, hc with
              | 0, _ => exact ⟨_, u0⟩
              | 1, _ => exact ⟨_, u1⟩
              | 2, _ => exact ⟨_, u2⟩
              | 3, _ => exact ⟨_, u3⟩
            · exact own_put hO2 (by omega) x (grun_okW _ _ x hxok) (fun y hy => grun_okW _ _ y hy)
            · exact hPH.out.stab _ _ _ h1 (grown_setCells rb (RGRun.vals x) (i * 4) w')
          clear hD hD2
          have hOH := Lib.hid hO
          clear hO
          have hIH := Lib.hid hI
          clear hI
          have hxH := Lib.hid hx
          clear hx
          have hpH := Lib.hid hp
          clear hp
          have hcallH := Lib.hid hcall
          clear hcall
          have RH := Lib.hid R
          clear R
          have hlt2H := Lib.hid hlt2
          clear hlt2
          have hMxH := Lib.hid hMx
          clear hMx
          have hoH := Lib.hid ho
          clear ho
          have hbaH := Lib.hid hba
          clear hba
          have hMlH := Lib.hid hMl
          clear hMl
          have hxokH := Lib.hid hxok
          clear hxok
          go_wp2_with fail
          go_at_fn g
          refine hcallH.out.mono ?_
          rintro e w5 ⟨rfl, h5, h6, h7⟩
          have hv := h7 wr.heap.size (.inr (Nat.le_refl _)) (by simp)
          have v0 := (World.cell?_of_block (a := ⟨wr.heap.size, 0, none⟩) hv).trans (cell_new wr _ _ 0)
          have v1 := (World.cell?_of_block (a := ⟨wr.heap.size, 1, none⟩) hv).trans (cell_new wr _ _ 1)
          have v2 := (World.cell?_of_block (a := ⟨wr.heap.size, 2, none⟩) hv).trans (cell_new wr _ _ 2)
          have v3 := (World.cell?_of_block (a := ⟨wr.heap.size, 3, none⟩) hv).trans (cell_new wr _ _ 3)
          simp only [List.getElem?_toArray, List.getElem?_cons_succ, List.getElem?_cons_zero] at v0 v1 v2 v3
          obtain ⟨R4, R5⟩ := RH.out w5 h5 (h7 rb (.inl rfl) (by simp; have := hlt2H.out; omega))
          obtain ⟨f0, c0', k0⟩ := R4 0 (by omega)
          obtain ⟨f1, c1', k1⟩ := R4 1 (by omega)
          obtain ⟨f2, c2', k2⟩ := R4 2 (by omega)
          obtain ⟨f3, c3', k3⟩ := R4 3 (by omega)
          simp only [Nat.add_zero, Nat.zero_add] at f0 f1 f2 f3 k0 k1 k2 k3
          clear h5 h6 h7 hv R4
          have R5H := Lib.hid R5
          clear R5
          go_wp2
          refine ⟨?rel, ?measure⟩
          case measure => (simp [intOf]; omega)
          case rel => first | exact R5H.out | exact ⟨rfl, R5H.out⟩ | ((try refine ⟨rfl, ?_⟩); (repeat apply Exists.intro); refine ⟨R5H.out, ?_⟩; ((repeat' apply And.intro) <;> rfl))
        · rw [hp] at hcall
          have hD2 := hD.skip hx hp
          have R : ∀ w', I (j + 1) w' → w'.heap[rb]? = (wr.alloc (.cells #[.int .i64 x.work, .int .i64 x.worker, .int .i64 x.from_, .int .i64 x.end_] 144)).heap[rb]? →
              DeRel base rb n cap L p I (.int .i64 (i : Int)) (.int .i64 ((j : Int) + 1)) w' := fun w' h1 h2 =>
            ⟨i, j + 1, M, hlt, rfl, by go_num, hD2, own_same hO (h2.trans (hba.block rb hlt2)) (fun y _ hy => grun_okW _ _ y hy), h1⟩
          clear hD hD2
          have hOH := Lib.hid hO
          clear hO
          have hIH := Lib.hid hI
          clear hI
          have hxH := Lib.hid hx
          clear hx
          have hpH := Lib.hid hp
          clear hp
          have hcallH := Lib.hid hcall
          clear hcall
          have RH := Lib.hid R
          clear R
          have hlt2H := Lib.hid hlt2
          clear hlt2
          have hMxH := Lib.hid hMx
          clear hMx
          have hoH := Lib.hid ho
          clear ho
          have hbaH := Lib.hid hba
          clear hba
          have hMlH := Lib.hid hMl
          clear hMl
          have hxokH := Lib.hid hxok
          clear hxok
          go_wp2_with fail
          go_at_fn g
          refine hcallH.out.mono ?_
          rintro e w5 ⟨rfl, h5, h6, h7⟩
          have R5 := RH.out w5 h5 (h7 rb (.inl rfl) (by simp; have := hlt2H.out; omega))
          clear h5 h6 h7
          have R5H := Lib.hid R5
          clear R5
          go_wp2
          refine ⟨?rel, ?measure⟩
          case measure => (simp [intOf]; omega)
          case rel => first | exact R5H.out | exact ⟨rfl, R5H.out⟩ | ((try refine ⟨rfl, ?_⟩); (repeat apply Exists.intro); refine ⟨R5H.out, ?_⟩; ((repeat' apply And.intro) <;> rfl))
      · obtain rfl : j = n := by omega
        have hcells : ∀ q, q < (j - i) * 4 → (wr.cell? ⟨rb, i * 4 + q, none⟩).isSome = true ∧ wr.frozen? ⟨rb, i * 4 + q, none⟩ = false := by
          intro q hq
          obtain ⟨cur, a, b, c, d, e1, f, _⟩ := own_open hO
          refine ⟨?_, own_fz hO _⟩
          have hlt4 : i * 4 + q < cur.size := by rw [e1]; show _ < cap * 4; omega
          unfold World.cell?
          rw [b]
          simp [hlt4]
        obtain ⟨vs, hvl, hclr⟩ : ∃ vs : List Value, vs.length = (j - i) * 4 ∧ ∀ ty, (Builtin.clear_ #[58] ty #[.slice (some ⟨rb, i * 4, none⟩) (j - i) (cap - i)]).run Tryz.prog wr = .ok (.tuple #[]) (wr.setCells rb (i * 4) vs) := by
          have h0 := fun ty => run_clear_N (P := Tryz.prog) wr 58 144 ty (.agg #[.int .i64 0, .int .i64 0, .int .i64 0, .int .i64 0]) 4 Tryz.underlying58 Tryz.zeroValue144 (by decide) (by decide) rb (i * 4) (j - i) (cap - i) (by omega) (by omega) (fun q hq => (hcells q hq).1) (fun q hq => (hcells q hq).2)
          exact ⟨_, (h0 0).1, fun ty => (h0 ty).2⟩
        have hO2 := own_wipe hO (i := i) (by omega) vs hvl (fun y hy => grun_okW _ _ y hy)
        have hI2 := hPH.out.stab _ _ _ hI (grown_setCells rb vs (i * 4) wr)
        have R : DeAns base (some ⟨rb, 0, none⟩) j cap L p I (.returned (.slice (some ⟨rb, 0, none⟩) i cap)) (wr.setCells rb (i * 4) vs) :=
          ⟨i, by omega, rfl, by rw [hD.low, List.take_of_length_le (by have := hlH.out; omega)] at hO2; exact hO2, hI2⟩
        have hji : i ≤ j := by omega
        have hjc : j ≤ cap := by omega
        clear hD hO2 hI2 hcells hcap
        have hOH := Lib.hid hO
        clear hO
        have hIH := Lib.hid hI
        clear hI
        have hvlH := Lib.hid hvl
        clear hvl
        have RH := Lib.hid R
        clear R
        have hMlH := Lib.hid hMl
        clear hMl
        have hlt2H := Lib.hid hlt2
        clear hlt2
        go_wp2
        go_ret
        exact RH.out
end Go.Proofs.YtbnkoefljcekbaaGreatDoor.C9

namespace Go.Proofs.YtbnkoefljcekbaaGreatDoor.C9
open Go.ChangeShapes Go.WideShapes Go.Deep Go.RowKit
set_option linter.unusedVariables false
set_option linter.unusedSimpArgs false

theorem own_nil_new (w : World) (base : Nat) (hb : base ≤ w.heap.size) : Own RGRun 144 (w.alloc (.cells #[] 144)) base (.slice (some ⟨w.heap.size, 0, none⟩) 0 0) [] :=
  own_make (cur := #[]) hb (by show (w.heap.push _)[w.heap.size]? = _; exact Array.getElem?_push_size) (Nat.le_refl _) (Nat.zero_le _) rfl (by simp) rfl (fun x hx => by cases hx)
set_option maxRecDepth 100000 in
set_option maxHeartbeats 4000000 in
theorem cloneG_any (A : Option Addr) (n cap : Nat) (L : List GRun) (w : World) (base : Nat) (hO : Own RGRun 144 w base (.slice A n cap) L) (hn : n ≤ 1000000) :
    Calls Tryz.prog 160 #[.slice A n cap] w fun e w' => ∃ A' c', e = .returned (.slice A' n c') ∧ Own RGRun 144 w' w.heap.size (.slice A' n c') L ∧ Below w.heap.size w w' := by
  have q22 : ∀ (w : World) (a : Option Addr) (n c n' c' : Nat), (binOp .eql 58 (.slice a n c) (.slice none n' c')).run Tryz.prog w = .ok (.bool a.isNone) w := fun w a n c n' c' => Lib.run_eql_slice_nil w _ _ a n c n' c' Tryz.underlying58
  have hl := hO.len
  rcases hO.1.2 with ⟨hv, h0⟩ | ⟨g, cap', cur, hv, _⟩
  · injection hv with e1 e2 e3
    subst e1 e2 e3
    obtain rfl : L = [] := List.eq_nil_of_length_eq_zero h0
    have R : Own RGRun 144 w w.heap.size (.slice none 0 0) [] := Own.nil _ _
    have hOH := Lib.hid hO
    clear hO
    have hlH := Lib.hid hl
    clear hl
    have RH := Lib.hid R
    clear R
    go_enter Tryz.func160, Tryz.ntmps160
    go_wp2
    go_ret
    exact ⟨none, 0, rfl, RH.out, Below.refl _ _⟩
  · injection hv with e1 e2 e3
    subst e1 e3
    clear e2
    have hs := hO.slAt
    have hem := own_nil_new w w.heap.size (Nat.le_refl _)
    have hOH := Lib.hid hO
    clear hO
    have hlH := Lib.hid hl
    clear hl
    have hsH := Lib.hid hs
    clear hs
    have hemH := Lib.hid hem
    clear hem
    go_enter Tryz.func160, Tryz.ntmps160
    go_wp2_with (at_builtin; go_loud (refine wpList_app (R := RGRun) (base := w.heap.size) rfl (.tmp 5) (.tmp 6) 58 rfl Tryz.underlying58 elem_GRun (by decide) rfl hemH.out (some ⟨g, 0, none⟩) n cap L rfl (hsH.out.below ((Below.refl _ _).alloc (Nat.le_refl _) _)) (fun _ h => by cases h) (fun _ _ _ _ h => h) (by simp only [List.length_nil]; unfold maxLen; omega) (by simp only [List.length_nil]; omega) (by simp) n (by simp) ?_); intro A' c' w' hq hg hat hbl)
    go_ret
    rw [List.nil_append] at hq
    exact ⟨A', c', rfl, hq, ((Below.refl w.heap.size w).alloc (Nat.le_refl _) (.cells #[] 144)).trans hbl⟩

set_option maxHeartbeats 1000000 in
theorem indexG_nil (g : Nat) (lb : Array Value) (w : World) :
    Calls Tryz.prog 157 #[.slice none 0 0, .func (.func g) #[] lb] w fun e w' => e = .returned (.int .i64 (-1)) ∧ w = w' := by
  go_enter Tryz.func157, Tryz.ntmps157
  go_wp2_with fail
  go_loopw [8] (fun i wr => i = .int .i64 0 ∧ w = wr) (fun i _ => 0)
  case atStart => exact ⟨rfl, rfl⟩
  case round =>
    obtain ⟨rfl, rfl⟩ := hrel
    go_wp2
    go_ret
    exact ⟨rfl, rfl⟩
set_option maxHeartbeats 1000000 in
theorem deleteG_nil (g : Nat) (lb : Array Value) (w : World) :
    Calls Tryz.prog 113 #[.slice none 0 0, .func (.func g) #[] lb] w fun e w' => e = .returned (.slice none 0 0) ∧ w = w' := by
  go_enter Tryz.func113, Tryz.ntmps113
  go_wp2_with fail
  refine (indexG_nil g lb w).mono ?_
  rintro e w' ⟨rfl, rfl⟩
  go_wp2
  go_ret
  exact ⟨rfl, rfl⟩

set_option maxHeartbeats 1000000 in
theorem ro1_any (pb : Nat) (i : Int) (x : GRun) (W : World) (hc : W.cell? ⟨pb, 0, none⟩ = some (.int .i64 i)) :
    Calls Tryz.prog 161 #[.agg (gvals x), .pointer (some ⟨pb, 0, none⟩)] W fun e w' => e = .returned (.bool (x.work != i)) ∧ Below W.heap.size W w' := by
  unfold gvals
  obtain ⟨a, b, c, d⟩ := x
  have hlt := cell?_lt hc
  have hba := (Below.refl W.heap.size W).alloc (Nat.le_refl _) (.cells #[.int .i64 a, .int .i64 b, .int .i64 c, .int .i64 d] 144)
  have hbaH := Lib.hid hba
  clear hba
  go_enter Tryz.func161, Tryz.ntmps161
  go_wp2
  go_ret
  exact ⟨rfl, hbaH.out⟩
theorem filter_gr (F : FP) (P : List RR) (i : Nat) (hg : ∀ r ∈ P, going r = true) : (P.map (gr F)).filter (fun x => !(x.work != (i : Int))) = (goingOf P i).map (gr F) := by
  unfold goingOf
  rw [List.filter_map]
  congr 1
  refine List.filter_congr fun r hr => ?_
  simp only [Function.comp, hg r hr, Bool.true_and]
  show (!!((r.work : Int) == (i : Int))) = (r.work == i)
  rw [Bool.not_not, Bool.eq_iff_iff, beq_iff_eq, beq_iff_eq]
  omega
def RoAns (F : FP) (P : List RR) (i : Nat) (w : World) (e : Ending) (w' : World) : Prop :=
  ∃ A k c, e = .returned (.slice A k c) ∧ k = (goingOf P i).length ∧ SlAt RGRun w' A k ((goingOf P i).map (gr F)) ∧ Below w.heap.size w w'
set_option maxRecDepth 100000 in
set_option maxHeartbeats 4000000 in
theorem runsOf_any (fb : Nat) (F : FP) (A : Option Addr) (n cap : Nat) (P : List RR) (i : Nat) (w : World) (base : Nat) (h8 : w.cell? ⟨fb, 8, none⟩ = some (.slice A n cap)) (hO : Own RGRun 144 w base (.slice A n cap) (P.map (gr F))) (hn : n ≤ 1000000) (hg : ∀ r ∈ P, going r = true) :
    Calls Tryz.prog 119 #[.pointer (some ⟨fb, 0, none⟩), .int .i64 i] w (RoAns F P i w) := by
  have hlt := cell?_lt h8
  have hba := (Below.refl w.heap.size w).alloc (Nat.le_refl _) (.cells #[.int .i64 i] 3)
  have b0 := Boxed.new w 3 (.int .i64 i)
  have hcl := cloneG_any A n cap (P.map (gr F)) _ base (hO.below hba) hn
  have hfl := filter_gr F P i hg
  have eg : ∀ args w, (callFunc 161 args).run Tryz.prog w = .ok (.enter 161 args) w := enters_of Tryz.func161 (by kernel_rfl) rfl
  have hOH := Lib.hid hO
  clear hO
  have hbaH := Lib.hid hba
  clear hba
  have hclH := Lib.hid hcl
  clear hcl
  have hflH := Lib.hid hfl
  clear hfl
  have hgH := Lib.hid hg
  clear hg
  go_enter Tryz.func119, Tryz.ntmps119
  go_wp2_with fail
  refine hclH.out.mono ?_
  rintro e w1 ⟨A1, c1, rfl, hO1, hb1⟩
  have hb01 := hbaH.out.trans (hb1.mono hbaH.out.size)
  have q0 : w1.cell? ⟨w.heap.size, 0, none⟩ = some (.int .i64 i) := (hb1.cell (p := ⟨w.heap.size, 0, none⟩) (by simp)).trans b0.cell
  clear b0 hclH hbaH
  rcases hO1.1.2 with ⟨hv, h0⟩ | ⟨g, cap', cur, hv, hge, _⟩
  · injection hv with e1 e2 e3
    subst e1 e2 e3
    have hP0 : P = [] := by cases P with
      | nil => rfl
      | cons a b => simp at h0
    subst hP0
    have R : RoAns F [] i w (.returned (.slice none 0 0)) w1 := ⟨none, 0, 0, rfl, rfl, ⟨rfl, fun h => absurd h (Nat.lt_irrefl 0), fun x hx => by cases hx⟩, hb01⟩
    clear hO1 hb1 hb01 q0 h0
    have RH := Lib.hid R
    clear R
    go_wp2_with fail
    refine (deleteG_nil _ _ w1).mono ?_
    rintro e w2 ⟨rfl, rfl⟩
    go_wp2
    go_ret
    exact RH.out
  · injection hv with e1 e2 e3
    subst e1 e3
    clear e2
    have hgl := own_lt hO1
    have hgw : w.heap.size ≠ g := by simp at hge; omega
    have hwl : w.heap.size < w1.heap.size := cell?_lt q0
    have hcellW : ∀ W, w1.grownBy W (some g) → W.cell? ⟨w.heap.size, 0, none⟩ = some (.int .i64 i) := fun W hW => hW.cell q0 (by intro e; injection e with e; exact hgw e)
    have hP : DelP 161 #[.pointer (some ⟨w.heap.size, 0, none⟩)] (fun x => x.work != (i : Int)) (P.map (gr F)) g (fun _ W => w1.grownBy W (some g)) := by
      refine ⟨fun _ W W' h h2 => grown_trans h h2, fun k x W0 W hx hI hW => ?_⟩
      have hIW : w1.grownBy W (some g) := grown_trans hI ⟨hW.os, hW.tape, hW.output, hW.size, fun k hk _ => hW.block k hk⟩
      refine (ro1_any w.heap.size i x W (hcellW W hIW)).mono ?_
      rintro e w' ⟨rfl, hb⟩
      exact ⟨rfl, grown_trans hIW ⟨hb.os, hb.tape, hb.output, hb.size, fun k hk _ => hb.block k hk⟩, hb.size, fun b _ hb2 => hb.block b hb2⟩
    have hdl := deleteG_any 161 #[.pointer (some ⟨w.heap.size, 0, none⟩)] eg (fun x => x.work != (i : Int)) _ g n c1 (P.map (gr F)) _ w1 hP hO1 (World.grownBy.refl _ _) hn
    clear hP hcellW hO1 q0
    have hge2 : w.heap.size ≤ g := by simp at hge; omega
    have hb1H := Lib.hid hb1
    clear hb1
    have hb01H := Lib.hid hb01
    clear hb01
    have hdlH := Lib.hid hdl
    clear hdl
    go_wp2_with fail
    refine hdlH.out.mono ?_
    rintro e w2 ⟨k, hk, rfl, hO2, hg2⟩
    rw [hflH.out] at hO2
    have R : RoAns F P i w (.returned (.slice (some ⟨g, 0, none⟩) k c1)) w2 :=
      ⟨_, k, c1, rfl, by have := hO2.len; rw [List.length_map] at this; exact this.symm, hO2.slAt, hb01H.out.grown hg2 hb01H.out.size (fun b hb => by injection hb with hb; omega)⟩
    clear hO2 hg2 hk
    have RH := Lib.hid R
    clear R
    go_wp2
    go_ret
    exact RH.out
end Go.Proofs.YtbnkoefljcekbaaGreatDoor.C9

namespace Go.Proofs.YtbnkoefljcekbaaGreatDoor.C9
open Go.ChangeShapes Go.WideShapes Go.Deep Go.RowKit Go.Sort
set_option linter.unusedVariables false
set_option linter.unusedSimpArgs false

def cfW (x y : GRun) : Int := Lib.compareInt x.worker y.worker
theorem ltW (x y : GRun) : ltOf cfW x y = decide (x.worker < y.worker) := by
  unfold ltOf cfW Lib.compareInt
  by_cases h1 : x.worker < y.worker
  · simp [h1]
  · by_cases h2 : y.worker < x.worker <;> simp [h1, h2]
theorem swoW : SWO (ltOf cfW) where
  irrefl x := by rw [ltW]; simp
  trans x y z h1 h2 := by rw [ltW] at *; simp at *; omega
  ntrans x y z h1 h2 := by rw [ltW] at *; simp at *; omega
set_option maxHeartbeats 1000000 in
theorem fin1_any (x y : GRun) (W : World) : Calls Tryz.prog 112 #[.agg (RGRun.vals x).toArray, .agg (RGRun.vals y).toArray] W fun e w' => e = .returned (.int .i64 (cfW x y)) ∧ ∃ q os', w' = grow (W.drewN q) os' := by
  have hcon := fun W' => Tryz.cmp_Compare_int x.worker y.worker W'
  unfold cfW
  generalize Lib.compareInt x.worker y.worker = r at hcon ⊢
  obtain ⟨xa, xb, xc, xd⟩ := x
  obtain ⟨ya, yb, yc, yd⟩ := y
  show Calls Tryz.prog 112 #[.agg #[.int .i64 xa, .int .i64 xb, .int .i64 xc, .int .i64 xd], .agg #[.int .i64 ya, .int .i64 yb, .int .i64 yc, .int .i64 yd]] W _
  have hconH := Lib.hid hcon
  clear hcon
  go_enter Tryz.func112, Tryz.ntmps112
  go_wp2_with fail
  refine (hconH.out _).mono ?_
  rintro e w' ⟨rfl, rfl⟩
  go_wp2
  go_ret
  exact ⟨rfl, 0, _, by rw [alloc_eq_grow, alloc_eq_grow, grow_grow]; rfl⟩
theorem perm_map_inv {α β : Type} {f : α → β} {L M : List β} (h : L.Perm M) : ∀ P : List α, M = P.map f → ∃ P' : List α, P'.Perm P ∧ L = P'.map f := by
  induction h with
  | nil => intro P hP; exact ⟨P, List.Perm.refl _, hP⟩
  | cons x _ ih =>
    intro P hP
    cases P with
    | nil => cases hP
    | cons a P =>
      rw [List.map_cons] at hP
      injection hP with h1 h2
      obtain ⟨P', h3, h4⟩ := ih P h2
      exact ⟨a :: P', h3.cons a, by rw [List.map_cons, h1, h4]⟩
  | swap x y l =>
    intro P hP
    match P, hP with
    | a :: b :: P, hP =>
      simp only [List.map_cons, List.cons.injEq] at hP
      obtain ⟨h1, h2, h3⟩ := hP
      exact ⟨b :: a :: P, List.Perm.swap _ _ _, by simp [h1, h2, h3]⟩
  | trans _ _ ih1 ih2 =>
    intro P hP
    obtain ⟨P1, h1, h2⟩ := ih2 P hP
    obtain ⟨P2, h3, h4⟩ := ih1 P1 h2
    exact ⟨P2, h3.trans h1, h4⟩
def SrtAns (base : Nat) (v : Value) (F : FP) (P : List RR) (w : World) (e : Ending) (w' : World) : Prop :=
  e = .returned (.tuple #[]) ∧ ∃ P' : List RR, P'.Perm P ∧ (P'.Pairwise fun a b => a.worker ≤ b.worker) ∧ Own RGRun 144 w' base v (P'.map (gr F)) ∧ w.grownBy w' v.ownBlock
set_option maxHeartbeats 1000000 in
theorem sortG_any (A : Option Addr) (n cap : Nat) (F : FP) (P : List RR) (w : World) (base : Nat) (hO : Own RGRun 144 w base (.slice A n cap) (P.map (gr F))) (hn : n ≤ 1000000) :
    Calls Tryz.prog 111 #[.slice A n cap, .func (.func 112) #[] #[]] w (SrtAns base (.slice A n cap) F P w) := by
  have hl := hO.len
  rcases hO.1.2 with ⟨hv, h0⟩ | ⟨g, cap', cur, hv, _⟩
  · injection hv with e1 e2 e3
    subst e1 e2 e3
    have hP0 : P = [] := by cases P with
      | nil => rfl
      | cons a b => simp at h0
    subst hP0
    have hcon := AnyF.slices_SortFunc_none { Tryz.sortG with } none 0 (.func (.func 112) #[] #[]) w
    change Calls Tryz.prog 111 _ _ _ at hcon
    refine hcon.mono ?_
    rintro e w' ⟨rfl, rfl⟩
    exact ⟨rfl, [], List.Perm.refl _, List.Pairwise.nil, hO, World.grownBy.refl _ _⟩
  · injection hv with e1 e2 e3
    subst e1 e3
    clear e2
    have eg : ∀ args w, (callFunc 112 args).run Tryz.prog w = .ok (.enter 112 args) w := enters_of Tryz.func112 (by kernel_rfl) rfl
    have hH := holdsK_of_own hO
    have hsz : (P.map (gr F)).toArray.size = n := by simpa using hl
    have hcon := AnyQ.slices_SortFunc Tryz.sortG 4 Tryz.isAgg144 Tryz.sizeOf144 RGRun.vals (fun _ => rfl) RGRun.one cfW swoW 112 #[] g 0 cap (P.map (gr F)).toArray w eg
      (fun m os dk _ x y => fin1_any x y _) hH (own_lt hO) (by rw [hsz]; omega)
    change Calls Tryz.prog 111 _ _ _ at hcon
    rw [hsz] at hcon
    refine hcon.mono ?_
    rintro e w' ⟨rfl, d', m, os, hp, hs, rfl⟩
    rw [← hsz] at hp hs
    obtain ⟨p1, p2⟩ := perm_of_in hp
    obtain ⟨P', h1, h2⟩ := perm_map_inv p1 P rfl
    have hso := sorted_of_in p2 hs
    rw [h2] at hso
    have hd : d' = (P'.map (gr F)).toArray := by rw [← h2]
    have hlen : (P'.map (gr F)).length = n := by rw [← hl, List.length_map, List.length_map]; exact h1.length_eq
    refine ⟨rfl, P', h1, ?_, ?_, ?_⟩
    · rw [List.pairwise_map] at hso
      refine hso.imp fun {a b} hab => ?_
      rw [ltW] at hab
      have h9 : (gr F a).worker ≤ (gr F b).worker := by simpa using hab
      have e1 : (gr F a).worker = (a.worker : Int) := rfl
      have e2 : (gr F b).worker = (b.worker : Int) := rfl
      omega
    · rw [hd]
      refine own_sortK hO _ hlen m os (fun x hx => ?_)
      obtain ⟨r, hr, rfl⟩ := List.mem_map.1 hx
      exact grun_okW w _ _ (hO.2 _ (List.mem_map_of_mem (h1.mem_iff.1 hr)))
    · exact grown_sortK _ _ _

/-! ### finish, run by run: plain -/
section
variable {F : FP} {t : Int} {P : List RR}
/-- the worker that has done a work now, by the first so many runs -/
def byF (F : FP) (t : Int) (P : List RR) (k : Nat) (i : Int) : Option Int := ((P.take k).find? fun r => (r.work : Int) == i && cand F t r).map fun r => (r.worker : Int)
theorem byF_succ {k : Nat} {r : RR} (hr : P[k]? = some r) (i : Int) : byF F t P (k + 1) i = match byF F t P k i with
    | some v => some v
    | none => if ((r.work : Int) == i && cand F t r) = true then some (r.worker : Int) else none := by
  unfold byF
  rw [List.take_add_one, hr, Option.toList_some, List.find?_append]
  cases h : (P.take k).find? fun r => (r.work : Int) == i && cand F t r with
  | some x => rfl
  | none =>
    simp only [Option.none_or, Option.map_none, List.find?_singleton]
    split
    · rfl
    · rfl
theorem byF_all (hs : P.Pairwise fun a b => a.worker ≤ b.worker) (i : Nat) : (byF F t P P.length (i : Int) = none ∧ hasDone F t P i = false) ∨
    (hasDone F t P i = true ∧ ∃ c ∈ P, byF F t P P.length (i : Int) = some (c.worker : Int) ∧ c.work = i ∧ isBest F t P c = true) := by
  unfold byF
  rw [List.take_length]
  cases h : P.find? fun r => (r.work : Int) == (i : Int) && cand F t r with
  | none =>
    left
    refine ⟨rfl, ?_⟩
    rw [List.find?_eq_none] at h
    unfold hasDone
    rw [List.any_eq_false]
    intro r hr hc
    simp only [Bool.and_eq_true, beq_iff_eq] at hc
    exact h r hr (by simp [hc.1, hc.2])
  | some c =>
    right
    obtain ⟨hc1, a, b, hab, hno⟩ := List.find?_eq_some_iff_append.1 h
    simp only [Bool.and_eq_true, beq_iff_eq] at hc1
    have hcm : c ∈ P := by rw [hab]; simp
    have hw : c.work = i := by omega
    refine ⟨List.any_eq_true.2 ⟨c, hcm, by rw [hc1.2, hw]; simp⟩, c, hcm, rfl, hw, ?_⟩
    unfold isBest
    rw [hc1.2, Bool.true_and, List.all_eq_true]
    intro x hx
    cases hcx : (x.work == c.work && cand F t x)
    · rfl
    · simp only [Bool.and_eq_true, beq_iff_eq] at hcx
      have hle : c.worker ≤ x.worker := by
        rw [hab] at hx hs
        rcases List.mem_append.1 hx with hx | hx
        · have := hno x hx
          simp [hcx.1, hw, hcx.2] at this
        · rcases List.mem_cons.1 hx with rfl | hx
          · exact Nat.le_refl _
          · exact (List.pairwise_cons.1 (List.pairwise_append.1 hs).2.1).1 x hx
      simp [hle]
/-- which of the runs of a work is the one that is done -/
theorem best_iff (hs : P.Pairwise fun a b => a.worker ≤ b.worker) (hd : P.Pairwise fun a b => a.work = b.work → a.worker ≠ b.worker) {r : RR} (hr : r ∈ P) {v : Int} (hv : byF F t P P.length (r.work : Int) = some v) : (v == (r.worker : Int)) = isBest F t P r := by
  rcases byF_all (F := F) (t := t) hs r.work with ⟨h1, _⟩ | ⟨h1, c, hc, h2, h3, h4⟩
  · rw [h1] at hv; cases hv
  · rw [h2] at hv
    injection hv with hv
    subst hv
    rw [Bool.eq_iff_iff, beq_iff_eq]
    constructor
    · intro e
      have hcr : c = r := by
        apply Classical.byContradiction
        intro hne
        obtain ⟨i, hi, hci⟩ := List.getElem_of_mem hc
        obtain ⟨j, hj, hrj⟩ := List.getElem_of_mem hr
        rw [List.pairwise_iff_getElem] at hd
        rcases Nat.lt_trichotomy i j with h | h | h
        · have := hd i j hi hj h; rw [hci, hrj] at this; exact this h3 (by omega)
        · subst h; rw [hci] at hrj; exact hne hrj
        · have := hd j i hj hi h; rw [hci, hrj] at this; exact this h3.symm (by omega)
      rw [← hcr]; exact h4
    · intro hb
      have hcand := isBest_cand hb
      unfold isBest at h4 hb
      simp only [Bool.and_eq_true, List.all_eq_true] at h4 hb
      have a := h4.2 r hr
      have b := hb.2 c hc
      rw [h3, hcand] at a
      rw [h3, h4.1] at b
      simp at a b
      omega
/-- which works are done by the first so many runs -/
def doneF (F : FP) (t : Int) (P : List RR) (k j : Nat) : Bool := (P.take k).any fun r => r.work == j && isBest F t P r
theorem doneF_succ {k : Nat} {r : RR} (hr : P[k]? = some r) (j : Nat) : doneF F t P (k + 1) j = (doneF F t P k j || (r.work == j && isBest F t P r)) := by
  unfold doneF
  rw [List.take_add_one, hr, Option.toList_some, List.any_append]; simp
theorem doneF_all (j : Nat) : doneF F t P P.length j = hasDone F t P j := by
  unfold doneF
  rw [List.take_length, Bool.eq_iff_iff]
  constructor
  · intro h
    obtain ⟨r, hr, hc⟩ := List.any_eq_true.1 h
    simp only [Bool.and_eq_true, beq_iff_eq] at hc
    exact List.any_eq_true.2 ⟨r, hr, by rw [hc.1, isBest_cand hc.2]; simp⟩
  · intro h
    obtain ⟨r, hr, hw, hb⟩ := hasDone_ex h
    exact List.any_eq_true.2 ⟨r, hr, by rw [hw, hb]; simp⟩
/-- the state behind so many runs -/
def fnS (F : FP) (s : PS) (k : Nat) : PS :=
  { s with out := s.out ++ ((s.runs.take k).filter fun r => hasDone F s.now s.runs r.work).map (finRun F s.now s.runs), done := fun j => s.done j || doneF F s.now s.runs k j, last := fun j => if doneF F s.now s.runs k j = true then s.now else s.last j }
theorem fnS_zero (F : FP) (s : PS) : fnS F s 0 = s := by
  unfold fnS doneF
  simp
theorem fnS_all (F : FP) (s : PS) : { fnS F s s.runs.length with runs := s.runs.filter fun r => !hasDone F s.now s.runs r.work } = finP F s := by
  unfold fnS finP
  simp only [List.take_length]
  have : doneF F s.now s.runs s.runs.length = hasDone F s.now s.runs := by funext j; exact doneF_all j
  simp only [this]
theorem fnS_no {s : PS} {k : Nat} {r : RR} (hr : s.runs[k]? = some r) (h : hasDone F s.now s.runs r.work = false) : fnS F s (k + 1) = fnS F s k := by
  have hb : isBest F s.now s.runs r = false := by
    cases hb : isBest F s.now s.runs r
    · rfl
    · have h9 : hasDone F s.now s.runs r.work = true := List.any_eq_true.2 ⟨r, List.mem_of_getElem? hr, by simp [isBest_cand hb]⟩
      rw [h] at h9; cases h9
  have hd : doneF F s.now s.runs (k + 1) = doneF F s.now s.runs k := by funext j; rw [doneF_succ hr, hb]; simp
  unfold fnS
  rw [hd, List.take_add_one, hr, Option.toList_some, List.filter_append, List.filter_cons_of_neg (by simp [h]), List.filter_nil, List.append_nil]
theorem fnS_stop {s : PS} {k : Nat} {r : RR} (hr : s.runs[k]? = some r) (hg : going r = true) (h : hasDone F s.now s.runs r.work = true) (hb : isBest F s.now s.runs r = false) : fnS F s (k + 1) = clS (fnS F s k) r 3 := by
  have hd : doneF F s.now s.runs (k + 1) = doneF F s.now s.runs k := by funext j; rw [doneF_succ hr, hb]; simp
  rw [clS_3]
  unfold fnS
  rw [hd, List.take_add_one, hr, Option.toList_some, List.filter_append, List.filter_cons_of_pos (p := fun r : RR => hasDone F s.now s.runs r.work) h, List.filter_nil, List.map_append, List.map_singleton, finRun_yes (by rw [hg, h]; rfl), hb]
  simp
theorem fnS_done {s : PS} {k : Nat} {r : RR} (hr : s.runs[k]? = some r) (hg : going r = true) (h : hasDone F s.now s.runs r.work = true) (hb : isBest F s.now s.runs r = true) :
    fnS F s (k + 1) = clS { fnS F s k with done := fun j => if j = r.work then true else (fnS F s k).done j } r 1 := by
  rw [clS_n _ r (by decide) rfl]
  unfold fnS
  rw [List.take_add_one, hr, Option.toList_some, List.filter_append, List.filter_cons_of_pos (p := fun r : RR => hasDone F s.now s.runs r.work) h, List.filter_nil, List.map_append, List.map_singleton, finRun_yes (by rw [hg, h]; rfl), hb]
  simp only [if_true, List.append_assoc]
  congr 1
  · funext j
    rw [doneF_succ hr, hb]
    by_cases e : j = r.work
    · subst e; simp
    · have : (r.work == j) = false := by simpa using fun h => e h.symm
      rw [if_neg e, this]; simp
  · funext j
    rw [doneF_succ hr, hb]
    by_cases e : j = r.work
    · subst e; simp
    · have : (r.work == j) = false := by simpa using fun h => e h.symm
      rw [if_neg e, this]; simp
end
end Go.Proofs.YtbnkoefljcekbaaGreatDoor.C9

namespace Go.Proofs.YtbnkoefljcekbaaGreatDoor.C9
open Go.ChangeShapes Go.WideShapes Go.Deep Go.RowKit Go.Maps
set_option linter.unusedVariables false
set_option linter.unusedSimpArgs false

noncomputable def KI : KD Tryz.prog 3 Int := KInt Tryz.underlying3
theorem ki_good {n : Int} (h0 : 0 ≤ n) (h1 : n ≤ 1000000) : KI.good n := by
  show (Lit.int .i64 n).wf = true
  simp [Lit.wf, IntKind.min, IntKind.max, IntKind.signed, IntKind.bits]; omega
theorem FS.congr {X : FX} {s s' : PS} {w0 : World} (h : FS X s w0) (h1 : s'.now = s.now) (h2 : s'.runs = s.runs) : FS X s' w0 :=
  ⟨h.ok, h.F, h.ws, h.xs, h.ls, by rw [h1]; exact h.t0, by rw [h1]; exact h.t1, by rw [h1, h2]; exact h.rn⟩
/-- what a closure's call leaves -/
def StepAns (X : FX) (K : KD Tryz.prog 71 Loss) (rv ov : Value) (b : Bool) (s' : PS) (w0 W : World) (e : Ending) (w' : World) : Prop :=
  e = .returned (.bool b) ∧ ∃ ov', FC X K rv ov' s' w0 w' ∧ (∀ b, ov'.ownBlock = some b → ov.ownBlock = some b ∨ W.heap.size ≤ b) ∧ W.heap.size ≤ w'.heap.size ∧ ∀ b, b < W.heap.size → b ∉ X.bl → ov.ownBlock ≠ some b → w'.heap[b]? = W.heap[b]?
theorem gr_agg (F : FP) (r : RR) : gvals (gr F r) = #[.int .i64 r.work, .int .i64 r.worker, .int .i64 r.from_, .int .i64 ((F.endAt r.worker r.work r.from_).getD (-1))] := rfl
set_option maxRecDepth 100000 in
set_option maxHeartbeats 8000000 in
theorem fin2_any {X : FX} {K : KD Tryz.prog 71 Loss} {rv ov : Value} {s : PS} {w0 W : World} {k c qb pb mk : Nat} {r : RR} (hC : FC X K rv ov (fnS X.F s k) w0 W) (hS : FS X s w0) (hr : s.runs[k]? = some r)
    (hso : s.runs.Pairwise fun a b => a.worker ≤ b.worker) (hdi : s.runs.Pairwise fun a b => a.work = b.work → a.worker ≠ b.worker) (hlen : s.out.length + s.runs.length ≤ 900000)
    (hqp : qb ∉ X.bl ∧ pb ∉ X.bl) (q1 : W.cell? ⟨qb, 0, none⟩ = some (.map (some mk))) (q2 : W.cell? ⟨pb, 0, none⟩ = some (.pointer (some ⟨X.f, 0, none⟩))) (hM : TMap KI (fun n : Int => Value.int .i64 n) W mk (byF X.F s.now s.runs s.runs.length) c) :
    Calls Tryz.prog 114 #[.agg (gvals (gr X.F r)), .pointer (some ⟨qb, 0, none⟩), .pointer (some ⟨pb, 0, none⟩)] W (StepAns X K rv ov (hasDone X.F s.now s.runs r.work) (fnS X.F s (k + 1)) w0 W) := by
  obtain ⟨n1, n2, n3, n4, n5, n6⟩ := hS.nW
  obtain ⟨hg, _, hkW, hiX, hf0, hf1⟩ := hS.rn r (List.mem_of_getElem? hr)
  have hrm := List.mem_of_getElem? hr
  have hall := byF_all (F := X.F) (t := s.now) hso r.work
  have hbi := fun v => best_iff (F := X.F) (t := s.now) hso hdi hrm (v := v)
  obtain ⟨ed, hed⟩ : ∃ e, (X.F.endAt r.worker r.work r.from_).getD (-1) = e := ⟨_, rfl⟩
  rw [gr_agg, hed]
  have hba := (Below.refl W.heap.size W).alloc (Nat.le_refl _) (.cells #[.int .i64 r.work, .int .i64 r.worker, .int .i64 r.from_, .int .i64 ed] 144)
  have hC1 := hC.below hba
  have hlk0 := (hM.alloc (.cells #[.int .i64 r.work, .int .i64 r.worker, .int .i64 r.from_, .int .i64 ed] 144)).look (t := 146) (e := 3) Tryz.underlying146 (z0 := (0 : Int)) (Tryz.zeroValue3 _) injInt (x := (r.work : Int)) (ki_good (by omega) (by omega))
  have hlk := hlk0.2
  clear hlk0
  rw [show KI.val (r.work : Int) = Value.int .i64 (r.work : Int) from rfl] at hlk
  have hlen2 : (fnS X.F s k).out.length ≤ 900000 := by
    show (s.out ++ _).length ≤ _
    rw [List.length_append, List.length_map]
    have := List.length_filter_le (fun r : RR => hasDone X.F s.now s.runs r.work) (s.runs.take k)
    rw [List.length_take] at this
    omega
  have hqlt := cell?_lt q1
  have hplt := cell?_lt q2
  rcases hall with ⟨hby, hno⟩ | ⟨hyes, c0, hc0, hby, hcw, hcb⟩
  · rw [hby] at hlk
    have q1' := keepC hba q1
    have R : StepAns X K rv ov (hasDone X.F s.now s.runs r.work) (fnS X.F s (k + 1)) w0 W (.returned (.bool false)) (W.alloc (.cells #[.int .i64 r.work, .int .i64 r.worker, .int .i64 r.from_, .int .i64 ed] 144)) :=
      ⟨by rw [hno], ov, by rw [fnS_no hr hno]; exact hC1, fun b hb => .inl hb, hba.size, fun b hb _ _ => hba.block b hb⟩
    obtain ⟨iw, hiw⟩ : ∃ q, r.work = q := ⟨_, rfl⟩
    obtain ⟨ik, hik⟩ : ∃ q, r.worker = q := ⟨_, rfl⟩
    obtain ⟨ifr, hifr⟩ : ∃ q, r.from_ = q := ⟨_, rfl⟩
    rw [hiw, hik, hifr] at hlk q1'
    obtain ⟨Q, hQ⟩ : ∃ Q, StepAns X K rv ov (hasDone X.F s.now s.runs r.work) (fnS X.F s (k + 1)) w0 W = Q := ⟨_, rfl⟩
    rw [hQ] at R ⊢
    rw [hiw, hik, hifr] at R ⊢
    clear hbi hlen2 hS hC hC1 hso hdi hqp
    simp only [Option.getD_none, Option.isSome_none] at hlk
    have hrH := Lib.hid hr
    clear hr
    have hbaH := Lib.hid hba
    clear hba
    have RH := Lib.hid R
    clear R
    have hMH := Lib.hid hM
    clear hM
    have hbyH := Lib.hid hby
    clear hby
    have hnoH := Lib.hid hno
    clear hno
    have hedH := Lib.hid hed
    clear hed
    have hgH := Lib.hid hg
    clear hg
    have hiwH := Lib.hid hiw
    clear hiw
    have hikH := Lib.hid hik
    clear hik
    have hifrH := Lib.hid hifr
    clear hifr
    have hrmH := Lib.hid hrm
    clear hrm
    have hQH := Lib.hid hQ
    clear hQ
    go_enter Tryz.func114, Tryz.ntmps114
    go_wp2
    exact RH.out
  · rw [hby] at hlk
    have hbv := hbi _ hby
    have hSk : FS X (fnS X.F s k) w0 := hS.congr rfl rfl
    have t0 := hS.t0
    have t1 := hS.t1
    simp only [Option.getD_some, Option.isSome_some] at hlk
    have q1' := keepC hba q1
    have q2' := keepC hba q2
    have hnew : W.heap.size ∉ X.bl ∧ ov.ownBlock ≠ some W.heap.size := ⟨fun hm => Nat.lt_irrefl _ (hC.lt _ hm), fun e => Nat.lt_irrefl _ (hC.out.1.lt _ e).2⟩
    have hdm := hC.memf.2.2.2.1
    have Rall : ∀ (W2 : World) (s' : PS) (ov' : Value) (w5 : World), hasDone X.F s.now s.runs r.work = true → (W.heap.size ≤ W2.heap.size) → (∀ b, b < W.heap.size → b ∉ X.bl → ov.ownBlock ≠ some b → W2.heap[b]? = W.heap[b]?) → FC X K rv ov' s' w0 w5 → (∀ b, ov'.ownBlock = some b → ov.ownBlock = some b ∨ W2.heap.size ≤ b) → W2.heap.size ≤ w5.heap.size →
        (∀ b, b < W2.heap.size → b ∉ X.bl → ov.ownBlock ≠ some b → w5.heap[b]? = W2.heap[b]?) → StepAns X K rv ov true s' w0 W (.returned (.bool true)) w5 := by
      intro W2 s' ov' w5 _ a1 a2 a3 a4 a5 a6
      refine ⟨rfl, ov', a3, fun b hb => ?_, by omega, fun b h1 h2 h3 => (a6 b (by omega) h2 h3).trans (a2 b h1 h2 h3)⟩
      rcases a4 b hb with h | h
      · exact .inl h
      · right; omega
    cases hb : isBest X.F s.now s.runs r
    · rw [hb] at hbv
      have hcl := close_any hC1 hSk r hkW hiX hf0 (by omega) 3 (by omega) (by omega) hlen2 ed
      have R : ∀ w5, ClAns X K rv ov (clS (fnS X.F s k) r 3) w0 (W.alloc (.cells #[.int .i64 r.work, .int .i64 r.worker, .int .i64 r.from_, .int .i64 ed] 144)) (.returned (.tuple #[])) w5 → StepAns X K rv ov (hasDone X.F s.now s.runs r.work) (fnS X.F s (k + 1)) w0 W (.returned (.bool true)) w5 := by
        rintro w5 ⟨_, ov', h5, h6, h7, h8⟩
        rw [fnS_stop hr hg hyes hb, hyes]
        exact Rall (W.alloc (.cells #[.int .i64 r.work, .int .i64 r.worker, .int .i64 r.from_, .int .i64 ed] 144)) _ ov' w5 hyes hba.size (fun b h1 _ _ => hba.block b h1) h5 h6 h7 h8
      obtain ⟨iw, hiw⟩ : ∃ q, r.work = q := ⟨_, rfl⟩
      obtain ⟨ik, hik⟩ : ∃ q, r.worker = q := ⟨_, rfl⟩
      obtain ⟨ifr, hifr⟩ : ∃ q, r.from_ = q := ⟨_, rfl⟩
      obtain ⟨Q, hQ⟩ : ∃ Q, StepAns X K rv ov (hasDone X.F s.now s.runs r.work) (fnS X.F s (k + 1)) w0 W = Q := ⟨_, rfl⟩
      obtain ⟨Z, hZ⟩ : ∃ Q, ClAns X K rv ov (clS (fnS X.F s k) r 3) w0 (W.alloc (.cells #[.int .i64 r.work, .int .i64 r.worker, .int .i64 r.from_, .int .i64 ed] 144)) = Q := ⟨_, rfl⟩
      obtain ⟨vc, hvc⟩ : ∃ v, (c0.worker : Int) = v := ⟨_, rfl⟩
      rw [hQ] at R ⊢
      rw [hZ] at R hcl
      rw [hvc, hik] at hbv
      rw [hvc, hiw, hik, hifr] at hlk
      rw [hiw, hik, hifr] at hcl q1' q2' hba ⊢
      clear hbi hlen2 hS hSk hC hC1 hso hdi Rall hnew hby hcw hcb hc0 q1 q2 hqp hf0 hf1 hkW hiX
      have hrH := Lib.hid hr
      clear hr
      have hbaH := Lib.hid hba
      clear hba
      have RH := Lib.hid R
      clear R
      have hMH := Lib.hid hM
      clear hM
      have hyesH := Lib.hid hyes
      clear hyes
      have hedH := Lib.hid hed
      clear hed
      have hgH := Lib.hid hg
      clear hg
      have hiwH := Lib.hid hiw
      clear hiw
      have hikH := Lib.hid hik
      clear hik
      have hifrH := Lib.hid hifr
      clear hifr
      have hrmH := Lib.hid hrm
      clear hrm
      have hQH := Lib.hid hQ
      clear hQ
      have hZH := Lib.hid hZ
      clear hZ
      have hvcH := Lib.hid hvc
      clear hvc
      have hclH := Lib.hid hcl
      clear hcl
      have hbH := Lib.hid hb
      clear hb
      go_enter Tryz.func114, Tryz.ntmps114
      go_wp2_with fail
      refine hclH.out.mono ?_
      rintro e w5 h5
      have h50 : e = .returned (.tuple #[]) := by rw [← hZH.out] at h5; exact h5.1
      subst h50
      have R5 := RH.out w5 h5
      clear h5
      have R5H := Lib.hid R5
      clear R5
      go_wp2
      exact R5H.out
    · rw [hb] at hbv
      have hCd := (hC1.setDone r.work true).below (Below.refl _ _).drew
      obtain ⟨s9, hs9⟩ : ∃ s9, { fnS X.F s k with done := fun j => if j = r.work then true else (fnS X.F s k).done j } = s9 := ⟨_, rfl⟩
      have hfn : fnS X.F s (k + 1) = clS s9 r 1 := by rw [← hs9]; exact fnS_done hr hg hyes hb
      have hS9 : FS X s9 w0 := hSk.congr (by rw [← hs9]) (by rw [← hs9])
      have ho9 : s9.out.length ≤ 900000 := by rw [← hs9]; exact hlen2
      rw [hs9] at hCd
      have hcl := close_any hCd hS9 r hkW hiX hf0 (by omega) 1 (by omega) (by omega) ho9 ed
      have R : ∀ w5, ClAns X K rv ov (clS s9 r 1) w0 ((W.alloc (.cells #[.int .i64 r.work, .int .i64 r.worker, .int .i64 r.from_, .int .i64 ed] 144)).setCell ⟨X.db, r.work, none⟩ (.bool true)).drew (.returned (.tuple #[])) w5 → StepAns X K rv ov (hasDone X.F s.now s.runs r.work) (fnS X.F s (k + 1)) w0 W (.returned (.bool true)) w5 := by
        rintro w5 ⟨_, ov', h5, h6, h7, h8⟩
        rw [hfn, hyes]
        have hbs := hba.size
        refine Rall _ _ ov' w5 hyes (by simp at hbs ⊢) (fun b h1 h2 _ => ?_) h5 h6 h7 h8
        have e1 := (grown_setc (W.alloc (.cells #[.int .i64 r.work, .int .i64 r.worker, .int .i64 r.from_, .int .i64 ed] 144)) ⟨X.db, r.work, none⟩ (.bool true)).block b (by simp; omega) (fun e => h2 (by injection e with e; rw [e]; exact hdm))
        exact Eq.trans e1 (hba.block b h1)
      have c9 := (hC1.blk 9 _ rfl).1
      have dd := hC1.done r.work (by show r.work < X.x.works.n; omega)
      obtain ⟨dd1, dd2⟩ := dd
      obtain ⟨dv, hdv⟩ : ∃ v, (fnS X.F s k).done r.work = v := ⟨_, rfl⟩
      rw [hdv] at dd1
      have hqd : qb ≠ X.db := fun e => hqp.1 (by rw [e]; exact hdm)
      have hpd : pb ≠ X.db := fun e => hqp.2 (by rw [e]; exact hdm)
      have hwd : W.heap.size ≠ X.db := fun e => hnew.1 (by rw [e]; exact hdm)
      have hNN : X.N = X.x.works.n := rfl
      rw [hNN] at c9
      have hiN : r.work < X.x.works.n := by omega
      have hlt9 : X.db < W.heap.size := hC.lt _ hdm
      have c9w := (hC.blk 9 _ rfl).1
      rw [show X.N = X.x.works.n from rfl] at c9w
      obtain ⟨iw, hiw⟩ : ∃ q, r.work = q := ⟨_, rfl⟩
      obtain ⟨ik, hik⟩ : ∃ q, r.worker = q := ⟨_, rfl⟩
      obtain ⟨ifr, hifr⟩ : ∃ q, r.from_ = q := ⟨_, rfl⟩
      obtain ⟨Q, hQ⟩ : ∃ Q, StepAns X K rv ov (hasDone X.F s.now s.runs r.work) (fnS X.F s (k + 1)) w0 W = Q := ⟨_, rfl⟩
      rw [hQ] at R ⊢
      obtain ⟨vc, hvc⟩ : ∃ v, (c0.worker : Int) = v := ⟨_, rfl⟩
      rw [hvc, hik] at hbv
      rw [hvc, hiw, hik, hifr] at hlk
      rw [hiw, hik, hifr] at hcl q1' q2' hba R c9 dd1 dd2 ⊢
      rw [hiw] at hiN
      clear hbi hlen2 hS hSk hC hC1 hso hdi Rall hnew hby hcw hcb hc0 hqp hf0 hf1 hkW hiX hNN hCd hS9 ho9 hfn
      have hrH := Lib.hid hr
      clear hr
      have hbaH := Lib.hid hba
      clear hba
      have RH := Lib.hid R
      clear R
      have hMH := Lib.hid hM
      clear hM
      have hyesH := Lib.hid hyes
      clear hyes
      have hedH := Lib.hid hed
      clear hed
      have hgH := Lib.hid hg
      clear hg
      have hiwH := Lib.hid hiw
      clear hiw
      have hikH := Lib.hid hik
      clear hik
      have hifrH := Lib.hid hifr
      clear hifr
      have hrmH := Lib.hid hrm
      clear hrm
      have hQH := Lib.hid hQ
      clear hQ
      have hvcH := Lib.hid hvc
      clear hvc
      have hclH := Lib.hid hcl
      clear hcl
      have hbH := Lib.hid hb
      clear hb
      have hdvH := Lib.hid hdv
      clear hdv
      have hs9H := Lib.hid hs9
      clear hs9
      go_enter Tryz.func114, Tryz.ntmps114
      go_wp2_with fail
      have g0 := cell_new W #[.int .i64 iw, .int .i64 ik, .int .i64 ifr, .int .i64 ed] 144 0
      have g1 := cell_new W #[.int .i64 iw, .int .i64 ik, .int .i64 ifr, .int .i64 ed] 144 1
      have g2 := cell_new W #[.int .i64 iw, .int .i64 ik, .int .i64 ifr, .int .i64 ed] 144 2
      have g3 := cell_new W #[.int .i64 iw, .int .i64 ik, .int .i64 ifr, .int .i64 ed] 144 3
      simp only [List.getElem?_toArray, List.getElem?_cons_succ, List.getElem?_cons_zero] at g0 g1 g2 g3
      have hcl := hclH.out
      have R := RH.out
      have hba := hbaH.out
      clear hclH RH hbaH q1 q2 c9w hlk q1'
      obtain ⟨W1, hW1⟩ : ∃ Y, W.alloc (.cells #[.int .i64 iw, .int .i64 ik, .int .i64 ifr, .int .i64 ed] 144) = Y := ⟨_, rfl⟩
      rw [hW1] at g0 g1 g2 g3 hcl R hba q2' c9 dd1 dd2 ⊢
      obtain ⟨rb, hrb⟩ : ∃ b, W.heap.size = b := ⟨_, rfl⟩
      have hltr : W.heap.size < W1.heap.size := cell?_lt g0
      rw [hrb] at g0 g1 g2 g3 hwd hqlt hplt hlt9 hltr ⊢
      have hclH := Lib.hid hcl
      clear hcl
      have RH := Lib.hid R
      clear R
      have hbaH := Lib.hid hba
      clear hba
      have hW1H := Lib.hid hW1
      clear hW1
      have hrbH := Lib.hid hrb
      clear hrb
      go_still_tail 7, (by kernel_rfl)
      go_wp2_with fail
      refine hclH.out.mono ?_
      rintro e w5 h5
      have h50 : e = .returned (.tuple #[]) := h5.1
      subst h50
      have R5 := RH.out w5 h5
      clear h5
      have R5H := Lib.hid R5
      clear R5
      go_wp2
      exact R5H.out
end Go.Proofs.YtbnkoefljcekbaaGreatDoor.C9
