/-
  Several texts of mine as one, without what is not wanted here: XFmP, XRunsG, XSrtR, XFmQ, XFmR, XOpnD, XFmS, XFarmO, XCheckRuns, XRunsD, XPlayW, XWtD, XOutD.
-/
import Derived.Test.YtbnkoefljcekbaaGreatDoorOaEC9
import Derived.Test.YtbnkoefljcekbaaGreatDoorOaBC9
import Derived.Sort.Grow
import Derived.Test.YtbnkoefljcekbaaGreatDoorOaDC9
import Derived.Test.YtbnkoefljcekbaaGreatDoorOaGC
import Derived.Test.YtbnkoefljcekbaaGreatDoorOaAC9
import Derived.IntWalk
import Derived.Test.YtbnkoefljcekbaaGreatDoorOaCC9
namespace Go.Proofs.YtbnkoefljcekbaaGreatDoor.C9
open Go.ChangeShapes Go.WideShapes Go.Deep Go.RowKit
set_option linter.unusedVariables false
set_option linter.unusedSimpArgs false

def runC (F : FP) (r : RR) : List Int := [(F.endAt r.worker r.work r.from_).getD (-1), F.wto r.worker] ++ (if F.doubles = true then [late F r] else [])
theorem candsP_eq (F : FP) (P : List RR) : candsP F P = ((List.range F.nW).map F.wfrom) ++ P.flatMap (runC F) ++ F.lossAt := rfl
theorem take_map_succ {α β : Type} (f : α → β) {L : List α} {k : Nat} {x : α} (h : L[k]? = some x) : (L.take (k + 1)).map f = (L.take k).map f ++ [f x] := by rw [List.take_add_one, h, Option.toList_some, List.map_append, List.map_singleton]
def Nx1 (X : FX) (t : Int) (pb lb fb : Nat) (w : World) (i : Value) (wr : World) : Prop :=
  ∃ k : Nat, k ≤ X.x.workers.n ∧ i = .int .i64 k ∧ NxC X t pb lb fb (seeF t ((List.range k).map X.F.wfrom)) wr ∧ Below w.heap.size w wr
def Nx2 (X : FX) (t : Int) (P : List RR) (pb lb fb : Nat) (w : World) (i : Value) (wr : World) : Prop :=
  ∃ k : Nat, k ≤ P.length ∧ i = .int .i64 k ∧ NxC X t pb lb fb (seeF t ((List.range X.F.nW).map X.F.wfrom ++ (P.take k).flatMap (runC X.F))) wr ∧ Below w.heap.size w wr
def Nx3 (X : FX) (t : Int) (P : List RR) (pb lb fb : Nat) (w : World) (i : Value) (wr : World) : Prop :=
  ∃ k : Nat, k ≤ X.x.lost.n ∧ i = .int .i64 k ∧ NxC X t pb lb fb (seeF t ((List.range X.F.nW).map X.F.wfrom ++ P.flatMap (runC X.F) ++ (X.x.lost.l.take k).map (·.at_))) wr ∧ Below w.heap.size w wr
def NextAns (x : Int × Bool) (w : World) (e : Ending) (w' : World) : Prop := e = .returned (.tuple #[.int .i64 x.1, .bool x.2]) ∧ Below w.heap.size w w'
set_option maxRecDepth 100000 in
set_option maxHeartbeats 16000000 in
theorem next_any {X : FX} {Kd : KD Tryz.prog 71 Loss} {rv ov : Value} {s : PS} {w0 w : World} (hA : FA X Kd rv ov s w0 w) (hS : FS X s w0) (hlen : s.runs.length ≤ 900000) :
    Calls Tryz.prog 73 #[.pointer (some ⟨X.f, 0, none⟩)] w (NextAns (nxV (nextP X.F s)) w) := by
  obtain ⟨n1, n2, n3, n4, n5, n6⟩ := hS.nW
  obtain ⟨A, cap, hrv⟩ := hA.runs.form
  obtain ⟨n, hnn⟩ : ∃ n, (s.runs.map (gr X.F)).length = n := ⟨_, rfl⟩
  rw [hnn] at hrv
  subst hrv
  have hn : n ≤ 900000 := by rw [← hnn, List.length_map]; exact hlen
  have hPl : s.runs.length = n := by rw [← hnn, List.length_map]
  have hnx : nextP X.F s = above s.now ((List.range X.F.nW).map X.F.wfrom ++ s.runs.flatMap (runC X.F) ++ X.x.lost.l.map (·.at_)) := by
    unfold nextP; rw [candsP_eq]; congr 1
    obtain ⟨o, e⟩ := hS.F; rw [e]; rfl
  rw [hnx, ← seeF_above]
  have hba : Below w.heap.size w (((w.alloc (.cells #[.pointer (some ⟨X.f, 0, none⟩)] 54)).alloc (.cells #[.int .i64 0] 3)).alloc (.cells #[.bool false] 4)) := (((Below.refl _ _).alloc (Nat.le_refl _) _).alloc (by simp) _).alloc (by simp; omega) _
  have hln : X.x.lost.l.length = X.x.lost.n := hS.ls.1.1
  have hlon := hS.ok.lon
  have hdb : X.F.doubles = X.x.doubles := by obtain ⟨o, e⟩ := hS.F; rw [e]; rfl
  have hgb := hA.core.ge X.f hA.core.memf.1
  have hfl := hA.core.lt X.f hA.core.memf.1
  have eg : ∀ args w, (callFunc 122 args).run Tryz.prog w = .ok (.enter 122 args) w := enters_of Tryz.func122 (by kernel_rfl) rfl
  have c0 := (hA.core.blk 0 _ rfl).1
  have hst : Nx1 X s.now w.heap.size (w.heap.size + 1) (w.heap.size + 2) w (.int .i64 0) (((w.alloc (.cells #[.pointer (some ⟨X.f, 0, none⟩)] 54)).alloc (.cells #[.int .i64 0] 3)).alloc (.cells #[.bool false] 4)) := by
    refine ⟨0, Nat.zero_le _, rfl, ⟨?_, ?_, ?_, ?_, ?_, ?_⟩, hba⟩
    · have := ((Boxed.new w 54 (.pointer (some ⟨X.f, 0, none⟩))).alloc (.cells #[.int .i64 0] 3)).alloc (.cells #[.bool false] 4)
      exact this.cell
    · exact keepC hba (hA.core.blk 7 _ rfl).1
    · have := (Boxed.new (w.alloc (.cells #[.pointer (some ⟨X.f, 0, none⟩)] 54)) 3 (.int .i64 0)).alloc (.cells #[.bool false] 4)
      rw [World.size_alloc] at this
      exact this.cell
    · have := Boxed.new ((w.alloc (.cells #[.pointer (some ⟨X.f, 0, none⟩)] 54)).alloc (.cells #[.int .i64 0] 3)) 4 (.bool false)
      rw [World.size_alloc, World.size_alloc] at this
      exact this.cell
    · simp [go_sem]
    · simp [go_sem]
  have c0L := keepC hba c0
  have cpL : (((w.alloc (.cells #[.pointer (some ⟨X.f, 0, none⟩)] 54)).alloc (.cells #[.int .i64 0] 3)).alloc (.cells #[.bool false] 4)).cell? ⟨w.heap.size, 0, none⟩ = some (.pointer (some ⟨X.f, 0, none⟩)) := by
    obtain ⟨_, _, _, h, _⟩ := hst; exact h.p
  obtain ⟨WA, hWA⟩ : ∃ a, X.x.workers.A = a := ⟨_, rfl⟩
  rw [hWA] at c0 c0L
  have n7 : X.x.lost.n ≤ 200 := by rw [← hln]; exact hlon
  obtain ⟨Z, hZ⟩ : ∃ Z, NextAns (seeF s.now ((List.range X.F.nW).map X.F.wfrom ++ s.runs.flatMap (runC X.F) ++ X.x.lost.l.map (·.at_))) w = Z := ⟨_, rfl⟩
  rw [hZ]
  have hZH := Lib.hid hZ
  clear hZ
  have hAH := Lib.hid hA
  clear hA
  have hSH := Lib.hid hS
  clear hS
  have hnnH := Lib.hid hnn
  clear hnn
  have hPlH := Lib.hid hPl
  clear hPl
  have hnxH := Lib.hid hnx
  clear hnx
  have hbaH := Lib.hid hba
  clear hba
  have hlnH := Lib.hid hln
  clear hln
  have hlonH := Lib.hid hlon
  clear hlon
  have hdbH := Lib.hid hdb
  clear hdb
  have hstH := Lib.hid hst
  clear hst
  have n1H := Lib.hid n1
  clear n1
  have n2H := Lib.hid n2
  clear n2
  have n3H := Lib.hid n3
  clear n3
  have n4H := Lib.hid n4
  clear n4
  have hgbH := Lib.hid hgb
  clear hgb
  have hWAH := Lib.hid hWA
  clear hWA
  go_enter Tryz.func73, Tryz.ntmps73
  go_wp2_with fail
  clear c0L cpL
  obtain ⟨pb, hpb⟩ : ∃ b, w.heap.size = b := ⟨_, rfl⟩
  have hst1 := hstH.out
  rw [hpb] at hst1 ⊢
  have nn : pb + 1 ≠ pb + 2 ∧ pb + 1 ≠ pb ∧ pb + 2 ≠ pb ∧ pb + 1 ≠ X.f ∧ pb + 2 ≠ X.f := ⟨by omega, by omega, by omega, by omega, by omega⟩
  have hsee := fun (x : Int × Bool) (W : World) (a : Int) (h : NxC X s.now pb (pb + 1) (pb + 2) x W) => see_any (B := w.heap.size) a h (by omega) (by omega) (by have := cell?_lt h.p; simp only at this; omega) nn.1 nn.2.1 nn.2.2.1 nn.2.2.2.1 nn.2.2.2.2
  clear hstH
  have hst1H := Lib.hid hst1
  clear hst1
  have hseeH := Lib.hid hsee
  clear hsee
  have hpbH := Lib.hid hpb
  clear hpb
  have nnH := Lib.hid nn
  clear nn
  go_loopw [20] (fun i wr => Nx1 X s.now pb (pb + 1) (pb + 2) w i wr) (fun i _ => X.x.workers.n - (intOf i).toNat)
  case atStart => exact hst1H.out
  case round =>
    clear hst1H
    obtain ⟨k, hk, rfl, hx, hb⟩ := hrel
    obtain ⟨x, hxe⟩ : ∃ x, seeF s.now ((List.range k).map X.F.wfrom) = x := ⟨_, rfl⟩
    rw [hxe] at hx
    have hbs := hb.size
    by_cases hlt : k < X.x.workers.n
    · have hws := hSH.out.ws.1.below (hAH.out.core.bel.trans (hb.mono hAH.out.core.bel.size))
      rw [hWAH.out] at hws
      obtain ⟨by_, oy, hA9, _⟩ := hws.2.1 (by omega)
      subst hA9
      obtain ⟨y, hy⟩ : ∃ y, X.x.workers.l[k]? = some y := ⟨X.x.workers.l[k]'(by have := n3H.out; omega), List.getElem?_eq_getElem _⟩
      obtain ⟨d0, d1, d2, d3, d4, d5, d6⟩ := cells_Worker hws hy
      have hyf := (hSH.out.wk hy).1
      obtain ⟨yf, hyfe⟩ : ∃ f, y.from_ = f := ⟨_, rfl⟩
      rw [hyfe] at hyf d4
      have hba9 := (Below.refl wr.heap.size wr).alloc (Nat.le_refl _) (.cells #[.string y.name, .slice y.has.A y.has.n y.has.cap, .int .i64 y.slots, .int .i64 y.speed, .int .i64 yf, .int .i64 y.to_, .slice y.stands.A y.stands.n y.stands.cap] 84)
      have hx9 := hx.below hba9
      have hsn : seeF s.now ((List.range (k + 1)).map X.F.wfrom) = see1 s.now x yf := by
        rw [List.range_succ, List.map_append, List.map_singleton, seeF_snoc, hxe, hyf]
      have hc9 := hseeH.out x _ yf hx9
      have R : ∀ w5, SeeAns X s.now w.heap.size pb (pb + 1) (pb + 2) (see1 s.now x yf) (wr.alloc (.cells #[.string y.name, .slice y.has.A y.has.n y.has.cap, .int .i64 y.slots, .int .i64 y.speed, .int .i64 yf, .int .i64 y.to_, .slice y.stands.A y.stands.n y.stands.cap] 84)) (.returned (.tuple #[])) w5 → Nx1 X s.now pb (pb + 1) (pb + 2) w (.int .i64 ((k : Int) + 1)) w5 := by
        rintro w5 ⟨_, h5, h6, _⟩
        exact ⟨k + 1, hlt, by go_num, by rw [hsn]; exact h5, (hb.trans (hba9.mono hbs)).trans h6⟩
      clear hx hx9 hws hyf hsn hba9
      have hxeH := Lib.hid hxe
      clear hxe
      have hbH := Lib.hid hb
      clear hb
      have hyH := Lib.hid hy
      clear hy
      have hyfeH := Lib.hid hyfe
      clear hyfe
      have hc9H := Lib.hid hc9
      clear hc9
      have RH := Lib.hid R
      clear R
      go_wp2_with fail
      go_at_fn 122
      refine hc9H.out.mono ?_
      rintro e w5 h5
      have h50 : e = .returned (.tuple #[]) := h5.1
      subst h50
      have R5 := RH.out w5 h5
      clear h5
      have R5H := Lib.hid R5
      clear R5
      go_wp2
      refine ⟨?rel, ?measure⟩
      case measure => (simp [intOf]; omega)
      case rel => first | exact R5H.out | exact ⟨rfl, R5H.out⟩ | ((try refine ⟨rfl, ?_⟩); (repeat apply Exists.intro); refine ⟨R5H.out, ?_⟩; ((repeat' apply And.intro) <;> rfl))
    · obtain rfl : k = X.x.workers.n := by omega
      have hst2 : Nx2 X s.now s.runs pb (pb + 1) (pb + 2) w (.int .i64 0) wr := ⟨0, Nat.zero_le _, rfl, by rw [n1H.out, List.take_zero, List.flatMap_nil, List.append_nil, hxe]; exact hx, hb⟩
      have cp := hx.p
      have c8 := keepC (hb.mono (Nat.le_refl _)) (hAH.out.core.blk 8 _ rfl).1
      clear hx hxe c0
      have hst2H := Lib.hid hst2
      clear hst2
      have hbH := Lib.hid hb
      clear hb
      go_wp2_with fail
      clear cp c8
      go_loopw [34] (fun i wr => Nx2 X s.now s.runs pb (pb + 1) (pb + 2) w i wr) (fun i _ => n - (intOf i).toNat)
      case atStart => exact hst2H.out
      case round =>
        clear hst2H hbs hbH
        obtain ⟨k, hk, rfl, hx, hb⟩ := hrel
        obtain ⟨L0, hL0⟩ : ∃ L, (List.range X.F.nW).map X.F.wfrom = L := ⟨_, rfl⟩
        rw [hL0] at hx
        obtain ⟨x, hxe⟩ : ∃ x, seeF s.now (L0 ++ (s.runs.take k).flatMap (runC X.F)) = x := ⟨_, rfl⟩
        rw [hxe] at hx
        have hbs := hb.size
        have hPl := hPlH.out
        by_cases hlt2 : k < n
        · obtain ⟨g, cur, hA9, _⟩ := own_block hAH.out.runs (by omega)
          subst hA9
          obtain ⟨r, hr⟩ : ∃ r, s.runs[k]? = some r := ⟨s.runs[k]'(by omega), List.getElem?_eq_getElem _⟩
          obtain ⟨hgr, _, hkW, hiX, hf0, hf1⟩ := hSH.out.rn r (List.mem_of_getElem? hr)
          have hAr := hAH.out
          obtain ⟨e0, e1, e2, e3⟩ := cells_GRun (hAr.runs.slAt.below hb) (x := gr X.F r) (by rw [List.getElem?_map, hr]; rfl)
          rw [Nat.zero_add] at e0 e1 e2 e3
          obtain ⟨y, hy⟩ : ∃ y, X.x.workers.l[r.worker]? = some y := ⟨X.x.workers.l[r.worker]'(by have := n1H.out; have := n3H.out; omega), List.getElem?_eq_getElem _⟩
          obtain ⟨by_, oy, hYA, _⟩ := (hSH.out.ws.1).2.1 (by have := n1H.out; omega)
          have hwto := (hSH.out.wk hy).2.1
          have hC : FC X Kd (.slice (some ⟨g, 0, none⟩) n cap) ov s w0 wr := hAr.core.below hb
          have c0 := (hC.blk 0 _ rfl).1
          have c4 := (hC.blk 4 _ rfl).1
          rw [hYA] at c0
          have hws := hSH.out.ws.1.below hC.bel
          rw [hYA] at hws
          have d5 := (cells_Worker hws hy).2.2.2.2.2.1
          have t1 := hSH.out.t1
          obtain ⟨ed, hed⟩ : ∃ e, (gr X.F r).end_ = e := ⟨_, rfl⟩
          have hev : (X.F.endAt r.worker r.work r.from_).getD (-1) = ed := hed
          have hrc : runC X.F r = [ed, y.to_] ++ (if X.F.doubles = true then [late X.F r] else []) := by unfold runC; rw [hev, hwto]
          obtain ⟨lt, hltv⟩ : ∃ l, late X.F r = l := ⟨_, rfl⟩
          rw [hltv] at hrc
          have hsl := fun W (h : Below w.heap.size w W) => slow_any (hAr.core.below h) hSH.out hkW hiX hf0 (by omega) ed
          rw [hltv] at hsl
          replace e0 : wr.cell? ⟨g, k * 4, none⟩ = some (.int .i64 r.work) := e0
          replace e1 : wr.cell? ⟨g, k * 4 + 1, none⟩ = some (.int .i64 r.worker) := e1
          replace e2 : wr.cell? ⟨g, k * 4 + 2, none⟩ = some (.int .i64 r.from_) := e2
          rw [hed] at e3
          obtain ⟨iw, hiw⟩ : ∃ q, r.work = q := ⟨_, rfl⟩
          obtain ⟨ik, hik⟩ : ∃ q, r.worker = q := ⟨_, rfl⟩
          obtain ⟨ifr, hifr⟩ : ∃ q, r.from_ = q := ⟨_, rfl⟩
          rw [hiw] at e0 hsl
          rw [hik] at e1 hsl d5 hkW
          rw [hifr] at e2 hsl
          have hba9 := (Below.refl wr.heap.size wr).alloc (Nat.le_refl _) (.cells #[.int .i64 iw, .int .i64 ik, .int .i64 ifr, .int .i64 ed] 144)
          have hx9 := hx.below hba9
          have cl1 := hx.l
          have cf1 := hx.f
          have hc9 := hseeH.out x _ ed hx9
          have hsn : seeF s.now (L0 ++ (s.runs.take (k + 1)).flatMap (runC X.F)) = if X.F.doubles = true then see1 s.now (see1 s.now (see1 s.now x ed) y.to_) lt else see1 s.now (see1 s.now x ed) y.to_ := by
            rw [List.take_add_one, hr, Option.toList_some, List.flatMap_append, List.flatMap_singleton, hrc, ← List.append_assoc]
            split
            · rw [← List.append_assoc, seeF_snoc, show ([ed, y.to_] : List Int) = [ed] ++ [y.to_] from rfl, ← List.append_assoc, seeF_snoc, seeF_snoc, hxe]
            · rw [List.append_nil, show ([ed, y.to_] : List Int) = [ed] ++ [y.to_] from rfl, ← List.append_assoc, seeF_snoc, seeF_snoc, hxe]
          have hgbl : g ∉ X.bl := fun hm => hAr.rap g hm rfl
          have hkW2 : ik < X.x.workers.n := by have := n1H.out; omega
          have hk1 : k + 1 ≤ s.runs.length := by omega
          clear hx hx9 hws hwto hev hrc hf0 hf1
          have cl1H := Lib.hid cl1
          clear cl1
          have cf1H := Lib.hid cf1
          clear cf1
          have hL0H := Lib.hid hL0
          clear hL0
          have hxeH := Lib.hid hxe
          clear hxe
          have hbH := Lib.hid hb
          clear hb
          have hrH := Lib.hid hr
          clear hr
          have hArH := Lib.hid hAr
          clear hAr
          have hyH := Lib.hid hy
          clear hy
          have hYAH := Lib.hid hYA
          clear hYA
          have hedH := Lib.hid hed
          clear hed
          have hltvH := Lib.hid hltv
          clear hltv
          have hslH := Lib.hid hsl
          clear hsl
          have hiwH := Lib.hid hiw
          clear hiw
          have hikH := Lib.hid hik
          clear hik
          have hifrH := Lib.hid hifr
          clear hifr
          have hba9H := Lib.hid hba9
          clear hba9
          have hc9H := Lib.hid hc9
          clear hc9
          have hsnH := Lib.hid hsn
          clear hsn
          have hCH := Lib.hid hC
          clear hC
          have hgblH := Lib.hid hgbl
          clear hgbl
          have hPlH := Lib.hid hPl
          clear hPl
          go_wp2_with fail
          go_at_fn 122
          refine hc9H.out.mono ?_
          rintro e w5 ⟨rfl, h5, h6, h7, h8⟩
          have hrbn : wr.heap.size ≠ pb + 1 ∧ wr.heap.size ≠ pb + 2 := by
            have a := cell?_lt cl1H.out
            have b := cell?_lt cf1H.out
            simp only at a b
            omega
          have hkp : ∀ c j u, c ≠ pb + 1 → c ≠ pb + 2 → (wr.alloc (.cells #[.int .i64 iw, .int .i64 ik, .int .i64 ifr, .int .i64 ed] 144)).cell? ⟨c, j, none⟩ = some u → w5.cell? ⟨c, j, none⟩ = some u := fun c j u a1 a2 h => (World.cell?_of_block (a := ⟨c, j, none⟩) (h8 c a1 a2 (cell?_lt h))).trans h
          have v0 := hkp _ _ _ hrbn.1 hrbn.2 (cell_new wr #[.int .i64 iw, .int .i64 ik, .int .i64 ifr, .int .i64 ed] 144 0)
          have v1 := hkp _ _ _ hrbn.1 hrbn.2 (cell_new wr #[.int .i64 iw, .int .i64 ik, .int .i64 ifr, .int .i64 ed] 144 1)
          have v2 := hkp _ _ _ hrbn.1 hrbn.2 (cell_new wr #[.int .i64 iw, .int .i64 ik, .int .i64 ifr, .int .i64 ed] 144 2)
          have v3 := hkp _ _ _ hrbn.1 hrbn.2 (cell_new wr #[.int .i64 iw, .int .i64 ik, .int .i64 ifr, .int .i64 ed] 144 3)
          have hb5 : Below w.heap.size w w5 := (hbH.out.trans (hba9H.out.mono hbs)).trans h6
          have hC5 : FC X Kd (.slice (some ⟨g, 0, none⟩) n cap) ov s w0 w5 := hArH.out.core.below hb5
          have k0 := (hC5.blk 0 _ rfl).1
          rw [hYAH.out] at k0
          have hws5 := hSH.out.ws.1.below hC5.bel
          rw [hYAH.out] at hws5
          have k5 := (cells_Worker hws5 hyH.out).2.2.2.2.2.1
          rw [hikH.out] at k5
          have hT0 : (fun w' : World => w'.cell? ⟨pb, 0, none⟩ = some (.pointer (some ⟨X.f, 0, none⟩)) ∧ w'.cell? ⟨X.f, 0, none⟩ = some (.slice (some ⟨by_, oy, none⟩) X.x.workers.n X.x.workers.cap) ∧ w'.cell? ⟨wr.heap.size, 1, none⟩ = some (.int .i64 ik) ∧ w'.cell? ⟨by_, oy + ik * 7 + 5, none⟩ = some (.int .i64 y.to_)) w5 := ⟨h5.p, k0, v1, k5⟩
          have hx5 := h5.below (Below.refl _ _).drew
          have hc5 := hseeH.out _ _ y.to_ hx5
          have h5p := h5.p
          obtain ⟨rb, hrb⟩ : ∃ b, wr.heap.size = b := ⟨_, rfl⟩
          rw [hrb] at v0 v1 v2 v3 hT0 hrbn ⊢
          have hrlt := cell?_lt v0
          simp only at hrlt
          have hbyl : by_ < w.heap.size := by
            have := hSH.out.ws.1.below hArH.out.core.bel
            rw [hYAH.out] at this
            exact cell?_lt (cells_Worker this hyH.out).1
          clear h5 h6 h7 h8 hws5 hx5 k0 k5 hkp c0 d5 e0 e1 e2 e3 c4
          have hb5H := Lib.hid hb5
          clear hb5
          have hC5H := Lib.hid hC5
          clear hC5
          have hc5H := Lib.hid hc5
          clear hc5
          have hT0H := Lib.hid hT0
          clear hT0
          have hrbH := Lib.hid hrb
          clear hrb
          have hT0 := hT0H.out
          go_wp2_with fail
          refine wp_region_held_drew (S := fun w' : World => w'.cell? ⟨pb, 0, none⟩ = some (.pointer (some ⟨X.f, 0, none⟩)) ∧ w'.cell? ⟨X.f, 0, none⟩ = some (.slice (some ⟨by_, oy, none⟩) X.x.workers.n X.x.workers.cap) ∧ w'.cell? ⟨rb, 1, none⟩ = some (.int .i64 ik) ∧ w'.cell? ⟨by_, oy + ik * 7 + 5, none⟩ = some (.int .i64 y.to_)) (by kernel_rfl) hT0 (fun hHeld => ?_)
          refine tkH (i := 0) (d := some 42) (v := ?_) (hy := Or.inl ⟨by rfl, ?_⟩) (h := ?_)
          rotate_left
          · (intro w hSw; (try dsimp only at hSw); go_simp; (try with_reducible rfl))
          (try simp only [Act.put, tkA, tkB, tkC])
          refine tkH (i := 1) (d := some 43) (v := ?_) (hy := Or.inl ⟨by rfl, ?_⟩) (h := ?_)
          rotate_left
          · (intro w hSw; (try dsimp only at hSw); go_simp; (try with_reducible rfl))
          (try simp only [Act.put, tkA, tkB, tkC])
          refine tkH (i := 2) (d := some 44) (v := ?_) (hy := Or.inl ⟨by rfl, ?_⟩) (h := ?_)
          rotate_left
          · (intro w hSw; (try dsimp only at hSw); go_simp; (try with_reducible rfl))
          (try simp only [Act.put, tkA, tkB, tkC])
          refine tkH (i := 3) (d := some 45) (v := ?_) (hy := Or.inl ⟨by rfl, ?_⟩) (h := ?_)
          rotate_left
          · (intro w hSw; (try dsimp only at hSw); go_simp; (try with_reducible rfl))
          (try simp only [Act.put, tkA, tkB, tkC])
          refine tkH (i := 4) (d := some 46) (v := ?_) (hy := Or.inl ⟨by rfl, ?_⟩) (h := ?_)
          rotate_left
          · (intro w hSw; (try dsimp only at hSw); go_simp; (try with_reducible rfl))
          (try simp only [Act.put, tkA, tkB, tkC])
          refine tkH (i := 5) (d := some 47) (v := ?_) (hy := Or.inl ⟨by rfl, ?_⟩) (h := ?_)
          rotate_left
          · (intro w hSw; (try dsimp only at hSw); go_simp; (try with_reducible rfl))
          (try simp only [Act.put, tkA, tkB, tkC])
          refine tkH (i := 6) (d := some 48) (v := ?_) (hy := Or.inl ⟨by rfl, ?_⟩) (h := ?_)
          rotate_left
          · (intro w hSw; (try dsimp only at hSw); go_simp; (try with_reducible rfl))
          (try simp only [Act.put, tkA, tkB, tkC])
          refine tkH (i := 7) (d := some 49) (v := ?_) (hy := Or.inl ⟨by rfl, ?_⟩) (h := ?_)
          rotate_left
          · (intro w hSw; (try dsimp only at hSw); go_simp; (try with_reducible rfl))
          (try simp only [Act.put, tkA, tkB, tkC])
          refine tkH (i := 8) (d := some 50) (v := ?_) (hy := Or.inl ⟨by rfl, ?_⟩) (h := ?_)
          rotate_left
          · (intro w hSw; (try dsimp only at hSw); go_simp; (try with_reducible rfl))
          (try simp only [Act.put, tkA, tkB, tkC])
          refine tkH (i := 9) (d := some 51) (v := ?_) (hy := Or.inl ⟨by rfl, ?_⟩) (h := ?_)
          rotate_left
          · (intro w hSw; (try dsimp only at hSw); go_simp; (try with_reducible rfl))
          (try simp only [Act.put, tkA, tkB, tkC])
          refine tkH (i := 10) (d := some 52) (v := ?_) (hy := Or.inl ⟨by rfl, ?_⟩) (h := ?_)
          rotate_left
          · (intro w hSw; (try dsimp only at hSw); go_simp; (try with_reducible rfl))
          (try simp only [Act.put, tkA, tkB, tkC])
          refine wpAnyH_ready (rs := [11]) (by kernel_rfl) (by simp) ?_
          refine AllReadyH.cons (i := 11) rfl (fun K hK => ?_) AllReadyH.nil
          go_simp
          go_at_fn 122
          refine hc5H.out.mono ?_
          rintro e w6 ⟨rfl, h5, h6, h7, h8⟩
          have hkp : ∀ c j u, c ≠ pb + 1 → c ≠ pb + 2 → w5.cell? ⟨c, j, none⟩ = some u → w6.cell? ⟨c, j, none⟩ = some u := fun c j u a1 a2 h => (World.cell?_of_block (a := ⟨c, j, none⟩) (h8 c a1 a2 (cell?_lt h))).trans h
          have v0' := hkp _ _ _ hrbn.1 hrbn.2 v0
          have v1' := hkp _ _ _ hrbn.1 hrbn.2 v1
          have v2' := hkp _ _ _ hrbn.1 hrbn.2 v2
          have v3' := hkp _ _ _ hrbn.1 hrbn.2 v3
          have hpb2 := hpbH.out
          have hHeld : w6.cell? ⟨pb, 0, none⟩ = some (.pointer (some ⟨X.f, 0, none⟩)) ∧ w6.cell? ⟨X.f, 0, none⟩ = some (.slice (some ⟨by_, oy, none⟩) X.x.workers.n X.x.workers.cap) ∧ w6.cell? ⟨rb, 1, none⟩ = some (.int .i64 ik) ∧ w6.cell? ⟨by_, oy + ik * 7 + 5, none⟩ = some (.int .i64 y.to_) :=
            ⟨h5.p, hkp _ _ _ (by omega) (by omega) hHeld.2.1, v1', hkp _ _ _ (by omega) (by omega) hHeld.2.2.2⟩
          have hb6 : Below w.heap.size w w6 := hb5H.out.trans ((Below.refl w.heap.size w5).drew.trans h6)
          have hC6 : FC X Kd (.slice (some ⟨g, 0, none⟩) n cap) ov s w0 w6 := hArH.out.core.below hb6
          have k4 := (hC6.blk 4 _ rfl).1
          clear v0 v1 v2 v3 h6 h7 h8 hkp hpb2
          have hb6H := Lib.hid hb6
          clear hb6
          have hC6H := Lib.hid hC6
          clear hC6
          have h5H := Lib.hid h5
          clear h5
          refine hK.out _ _ hHeld (fun hHeld => ?_)
          clear hK K
          (try simp only [Act.put, List.setIfInBounds_toArray, List.set_cons_zero, List.set_cons_succ])
          refine wpAnyH_done (by kernel_rfl) ?_ _
          have h5p := hHeld.1
          clear hHeld hT0
          obtain ⟨dbv, hdbv⟩ : ∃ b, X.x.doubles = b := ⟨_, rfl⟩
          rw [hdbv] at k4
          have hsn := hsnH.out
          rw [hdbH.out, hdbv] at hsn
          cases dbv
          · rw [if_neg (by decide)] at hsn
            have R : Nx2 X s.now s.runs pb (pb + 1) (pb + 2) w (.int .i64 ((k : Int) + 1)) w6 := ⟨k + 1, hk1, by go_num, by rw [hL0H.out, hsn]; exact h5H.out, hb6H.out⟩
            clear hsn
            have RH := Lib.hid R
            clear R
            have hdbvH := Lib.hid hdbv
            clear hdbv
            go_wp2
            refine ⟨?rel, ?measure⟩
            case measure => (simp [intOf]; omega)
            case rel => first | exact RH.out | exact ⟨rfl, RH.out⟩ | ((try refine ⟨rfl, ?_⟩); (repeat apply Exists.intro); refine ⟨RH.out, ?_⟩; ((repeat' apply And.intro) <;> rfl))
          · rw [if_pos rfl] at hsn
            have hs6 := hslH.out w6 hb6H.out
            have R : ∀ w7 w8, Below w6.heap.size w6 w7 → SeeAns X s.now w.heap.size pb (pb + 1) (pb + 2) (see1 s.now (see1 s.now (see1 s.now x ed) y.to_) lt) w7 (.returned (.tuple #[])) w8 → Nx2 X s.now s.runs pb (pb + 1) (pb + 2) w (.int .i64 ((k : Int) + 1)) w8 := by
              rintro w7 w8 h67 ⟨_, h9, h10, _⟩
              exact ⟨k + 1, hk1, by go_num, by rw [hL0H.out, hsn]; exact h9, (hb6H.out.trans (h67.mono hb6H.out.size)).trans h10⟩
            clear hsn
            have RH := Lib.hid R
            clear R
            have hdbvH := Lib.hid hdbv
            clear hdbv
            have hs6H := Lib.hid hs6
            clear hs6
            go_wp2_with fail
            refine hs6H.out.mono ?_
            rintro e w7 ⟨rfl, h67⟩
            have hx7 := h5H.out.below h67
            have hc7 := hseeH.out _ _ lt hx7
            have R7 := fun w8 => RH.out w7 w8 h67
            clear h67 hx7
            have hc7H := Lib.hid hc7
            clear hc7
            have R7H := Lib.hid R7
            clear R7
            go_wp2_with fail
            go_at_fn 122
            refine hc7H.out.mono ?_
            rintro e w8 h8
            have h80 : e = .returned (.tuple #[]) := h8.1
            subst h80
            have R8 := R7H.out w8 h8
            clear h8
            have R8H := Lib.hid R8
            clear R8
            go_wp2
            refine ⟨?rel, ?measure⟩
            case measure => (simp [intOf]; omega)
            case rel => first | exact R8H.out | exact ⟨rfl, R8H.out⟩ | ((try refine ⟨rfl, ?_⟩); (repeat apply Exists.intro); refine ⟨R8H.out, ?_⟩; ((repeat' apply And.intro) <;> rfl))
        · obtain rfl : k = n := by omega
          have hst3 : Nx3 X s.now s.runs pb (pb + 1) (pb + 2) w (.int .i64 0) wr := by
            refine ⟨0, Nat.zero_le _, rfl, ?_, hb⟩
            rw [List.take_zero, List.map_nil, List.append_nil, hL0]
            rw [List.take_of_length_le (by omega)] at hxe
            rw [hxe]; exact hx
          have cp := hx.p
          have c2 := (hAH.out.core.below hb).blk 2 _ rfl |>.1
          obtain ⟨LA, hLA⟩ : ∃ a, X.x.lost.A = a := ⟨_, rfl⟩
          rw [hLA] at c2
          clear hx hxe hL0 hPl
          have hst3H := Lib.hid hst3
          clear hst3
          have hbH := Lib.hid hb
          clear hb
          have hLAH := Lib.hid hLA
          clear hLA
          go_wp2_with fail
          clear cp c2
          go_loopw [71] (fun i wr => Nx3 X s.now s.runs pb (pb + 1) (pb + 2) w i wr) (fun i _ => X.x.lost.n - (intOf i).toNat)
          case atStart => exact hst3H.out
          case round =>
            clear hst3H hbs hbH
            obtain ⟨q, hq, rfl, hx, hb⟩ := hrel
            obtain ⟨L1, hL1⟩ : ∃ L, (List.range X.F.nW).map X.F.wfrom ++ s.runs.flatMap (runC X.F) = L := ⟨_, rfl⟩
            rw [hL1] at hx
            obtain ⟨x, hxe⟩ : ∃ x, seeF s.now (L1 ++ (X.x.lost.l.take q).map (·.at_)) = x := ⟨_, rfl⟩
            rw [hxe] at hx
            have hbs := hb.size
            by_cases hlt3 : q < X.x.lost.n
            · have hls := hSH.out.ls.1.below (hAH.out.core.bel.trans (hb.mono hAH.out.core.bel.size))
              rw [hLAH.out] at hls
              obtain ⟨bl_, ol, hA9, _⟩ := hls.2.1 (by omega)
              subst hA9
              obtain ⟨y, hy⟩ : ∃ y, X.x.lost.l[q]? = some y := ⟨X.x.lost.l[q]'(by have := hlnH.out; omega), List.getElem?_eq_getElem _⟩
              obtain ⟨d0, d1⟩ := cells_Loss hls hy
              have hba9 := (Below.refl wr.heap.size wr).alloc (Nat.le_refl _) (.cells #[.string y.worker, .int .i64 y.at_] 71)
              have hx9 := hx.below hba9
              have hsn : seeF s.now (L1 ++ (X.x.lost.l.take (q + 1)).map (·.at_)) = see1 s.now x y.at_ := by
                rw [take_map_succ _ hy, ← List.append_assoc, seeF_snoc, hxe]
              have hc9 := hseeH.out x _ y.at_ hx9
              have R : ∀ w5, SeeAns X s.now w.heap.size pb (pb + 1) (pb + 2) (see1 s.now x y.at_) (wr.alloc (.cells #[.string y.worker, .int .i64 y.at_] 71)) (.returned (.tuple #[])) w5 → Nx3 X s.now s.runs pb (pb + 1) (pb + 2) w (.int .i64 ((q : Int) + 1)) w5 := by
                rintro w5 ⟨_, h5, h6, _⟩
                exact ⟨q + 1, hlt3, by go_num, by rw [hL1, hsn]; exact h5, (hb.trans (hba9.mono hbs)).trans h6⟩
              clear hx hx9 hls hsn hba9
              have hxeH := Lib.hid hxe
              clear hxe
              have hbH := Lib.hid hb
              clear hb
              have hyH := Lib.hid hy
              clear hy
              have hc9H := Lib.hid hc9
              clear hc9
              have RH := Lib.hid R
              clear R
              have hL1H := Lib.hid hL1
              clear hL1
              go_wp2_with fail
              go_at_fn 122
              refine hc9H.out.mono ?_
              rintro e w5 h5
              have h50 : e = .returned (.tuple #[]) := h5.1
              subst h50
              have R5 := RH.out w5 h5
              clear h5
              have R5H := Lib.hid R5
              clear R5
              go_wp2
              refine ⟨?rel, ?measure⟩
              case measure => (simp [intOf]; omega)
              case rel => first | exact R5H.out | exact ⟨rfl, R5H.out⟩ | ((try refine ⟨rfl, ?_⟩); (repeat apply Exists.intro); refine ⟨R5H.out, ?_⟩; ((repeat' apply And.intro) <;> rfl))
            · obtain rfl : q = X.x.lost.n := by omega
              rw [List.take_of_length_le (by have := hlnH.out; omega), ← hL1] at hxe
              have hl := hx.l
              have hf := hx.f
              have R : ∀ q, Z (.returned (.tuple #[.int .i64 x.1, .bool x.2])) (wr.drewN q) := fun q => by rw [← hZH.out]; exact ⟨by rw [hxe], bel_drewN hb q⟩
              clear hx hxe hL1
              have RH := Lib.hid R
              clear R
              have hbH := Lib.hid hb
              clear hb
              go_wp2_with fail
              go_quiet (fail)
              go_wp2
              exact RH.out _
end Go.Proofs.YtbnkoefljcekbaaGreatDoor.C9

namespace Go.Proofs.YtbnkoefljcekbaaGreatDoor.C9
open Go.RowKit Go.Sort
set_option linter.unusedVariables false

theorem compareRuns_grow (a b : Run) (w : World) (c : Int) (hF : runCmp a b = c) :
    Calls Tryz.prog 59 #[.agg #[.string a.id_, .string a.worker, .int .i64 a.from_, .int .i64 a.to_, .int .i64 a.end_], .agg #[.string b.id_, .string b.worker, .int .i64 b.from_, .int .i64 b.to_, .int .i64 b.end_]] w fun e w' => e = .returned (.int .i64 c) ∧ ∃ q os', w' = grow (w.drewN q) os' := by
  have hba := ((Below.refl w.heap.size w).alloc (Nat.le_refl _) (.cells #[.string a.id_, .string a.worker, .int .i64 a.from_, .int .i64 a.to_, .int .i64 a.end_] 34)).alloc (by simp) (.cells #[.string b.id_, .string b.worker, .int .i64 b.from_, .int .i64 b.to_, .int .i64 b.end_] 34)
  obtain ⟨w0, hw0⟩ : ∃ w0, w0 = (w.alloc (.cells #[.string a.id_, .string a.worker, .int .i64 a.from_, .int .i64 a.to_, .int .i64 a.end_] 34)).alloc (.cells #[.string b.id_, .string b.worker, .int .i64 b.from_, .int .i64 b.to_, .int .i64 b.end_] 34) := ⟨_, rfl⟩
  rw [← hw0] at hba
  have hbaH := Lib.hid hba
  clear hba
  have hFH := Lib.hid hF
  clear hF
  have hw0H := Lib.hid hw0
  clear hw0
  go_enter Tryz.func59, Tryz.ntmps59
  go_wp2_with fail
  go_region_held3 (fun w' => w'.cell? ⟨w.heap.size, 2, none⟩ = some (.int .i64 a.from_) ∧ w'.cell? ⟨w.heap.size + 1, 2, none⟩ = some (.int .i64 b.from_) ∧ w'.cell? ⟨w.heap.size, 0, none⟩ = some (.string a.id_) ∧ w'.cell? ⟨w.heap.size + 1, 0, none⟩ = some (.string b.id_) ∧ w'.cell? ⟨w.heap.size, 1, none⟩ = some (.string a.worker) ∧ w'.cell? ⟨w.heap.size + 1, 1, none⟩ = some (.string b.worker)) (go_keep)
    (first
      | (go_at_call 41; refine (Tryz.cmp_Compare_int _ _ _).mono ?_; rintro e w1 ⟨rfl, rfl⟩)
      | (go_at_call 42; refine (Tryz.strings_Compare _ _ _).mono ?_; rintro e w1 ⟨rfl, rfl⟩)
      | (go_at_call 40; refine (or_any _ 3 _ [Lib.compareInt a.from_ b.from_, cmpS a.id_ b.id_, cmpS a.worker b.worker] _ (by omega) (or_cells rfl ?_ ?_ ?_ (I64_of (cmpI_range _ _)) (I64_of (cmpS_range _ _)) (I64_of (cmpS_range _ _))) c (by exact hFH.out)).mono ?_; (simp [go_sem]); (simp [go_sem]; rfl); (simp [go_sem]; rfl); rintro e w1 ⟨rfl, rfl⟩))
  go_wp2
  go_ret
  obtain rfl := hw0H.out
  exact ⟨rfl, _, #[_, _, _], rfl⟩
end Go.Proofs.YtbnkoefljcekbaaGreatDoor.C9

namespace Go.Proofs.YtbnkoefljcekbaaGreatDoor.C9
open Go.ChangeShapes Go.WideShapes Go.Deep Go.RowKit Go.Sort
set_option linter.unusedVariables false
set_option linter.unusedSimpArgs false

theorem cmpS_le {a b c : ByteArray} (h1 : cmpS a b ≤ 0) (h2 : cmpS b c ≤ 0) : cmpS a c ≤ 0 := by
  rcases cmpS_range a b with e | e | e
  · rcases cmpS_range b c with f | f | f
    · rw [cmpS_trans e f]; omega
    · rw [cmpS_zero] at f; subst f; omega
    · omega
  · rw [cmpS_zero] at e; subst e; exact h2
  · omega
theorem runCmp_swap (a b : Run) : runCmp b a = - runCmp a b := by
  rw [runCmp_eq, runCmp_eq]
  by_cases h1 : a.from_ = b.from_
  · rw [if_pos h1, if_pos h1.symm]
    by_cases h2 : a.id_ = b.id_
    · rw [if_pos h2, if_pos h2.symm]; exact cmpS_swap _ _
    · rw [if_neg h2, if_neg (Ne.symm h2)]; exact cmpS_swap _ _
  · rw [if_neg h1, if_neg (Ne.symm h1)]
    by_cases h3 : a.from_ < b.from_
    · rw [if_pos h3, if_neg (by omega)]; rfl
    · rw [if_neg h3, if_pos (by omega)]
theorem runCmp_le_trans {a b c : Run} (h1 : runCmp a b ≤ 0) (h2 : runCmp b c ≤ 0) : runCmp a c ≤ 0 := by
  rw [runCmp_eq] at h1 h2 ⊢
  by_cases e1 : a.from_ = b.from_
  · by_cases e2 : b.from_ = c.from_
    · rw [if_pos e1] at h1
      rw [if_pos e2] at h2
      rw [if_pos (e1.trans e2)]
      by_cases i1 : a.id_ = b.id_
      · by_cases i2 : b.id_ = c.id_
        · rw [if_pos i1] at h1
          rw [if_pos i2] at h2
          rw [if_pos (i1.trans i2)]
          exact cmpS_le h1 h2
        · rw [if_neg i2] at h2
          rw [if_neg (by rw [i1]; exact i2), i1]
          exact h2
      · rw [if_neg i1] at h1
        by_cases i2 : b.id_ = c.id_
        · rw [if_neg (by rw [← i2]; exact i1), ← i2]; exact h1
        · rw [if_neg i2] at h2
          have := cmpS_le h1 h2
          by_cases i3 : a.id_ = c.id_
          · exfalso
            rw [← i3, cmpS_swap] at h2
            have : cmpS a.id_ b.id_ = 0 := by omega
            rw [cmpS_zero] at this
            exact i1 this
          · rw [if_neg i3]; exact this
    · rw [if_neg e2] at h2
      rw [if_neg (by omega)]
      split at h2
      · rw [if_pos (by omega)]; omega
      · omega
  · rw [if_neg e1] at h1
    split at h1
    · by_cases e2 : b.from_ = c.from_
      · rw [if_neg (by omega), if_pos (by omega)]; omega
      · rw [if_neg e2] at h2
        split at h2
        · rw [if_neg (by omega), if_pos (by omega)]; omega
        · omega
    · omega
theorem ltR (x y : Run) : ltOf runCmp x y = decide (runCmp x y < 0) := rfl
theorem swoR : SWO (ltOf runCmp) where
  irrefl x := by
    rw [ltR]
    have := runCmp_swap x x
    simp; omega
  trans x y z h1 h2 := by
    rw [ltR] at *
    simp only [decide_eq_true_eq] at *
    have a := runCmp_le_trans (Int.le_of_lt h1) (Int.le_of_lt h2)
    apply Classical.byContradiction
    intro hn
    have hz : runCmp z x ≤ 0 := by rw [runCmp_swap]; omega
    have := runCmp_le_trans hz (Int.le_of_lt h1)
    rw [runCmp_swap] at this
    omega
  ntrans x y z h1 h2 := by
    rw [ltR] at *
    simp only [decide_eq_false_iff_not] at *
    have a : runCmp y x ≤ 0 := by rw [runCmp_swap]; omega
    have b : runCmp z y ≤ 0 := by rw [runCmp_swap]; omega
    have := runCmp_le_trans b a
    rw [runCmp_swap] at this
    omega
def SrtRAns (base : Nat) (v : Value) (x : Farm) (P : List RR) (w : World) (e : Ending) (w' : World) : Prop :=
  e = .returned (.tuple #[]) ∧ ∃ P' : List RR, P'.Perm P ∧ (P'.Pairwise fun a b => runCmp (toRun x a) (toRun x b) ≤ 0) ∧ Own RRun 34 w' base v (P'.map (toRun x)) ∧ w.grownBy w' v.ownBlock
set_option maxHeartbeats 1000000 in
theorem sortR_any (A : Option Addr) (n cap : Nat) (x : Farm) (P : List RR) (w : World) (base : Nat) (hO : Own RRun 34 w base (.slice A n cap) (P.map (toRun x))) (hn : n ≤ 1000000) :
    Calls Tryz.prog 74 #[.slice A n cap, .func (.func 59) #[] #[]] w (SrtRAns base (.slice A n cap) x P w) := by
  have hl := hO.len
  rcases hO.1.2 with ⟨hv, h0⟩ | ⟨g, cap', cur, hv, _⟩
  · injection hv with e1 e2 e3
    subst e1 e2 e3
    have hP0 : P = [] := by cases P with
      | nil => rfl
      | cons a b => simp at h0
    subst hP0
    have hcon := AnyF.slices_SortFunc_none { Tryz.sortR with } none 0 (.func (.func 59) #[] #[]) w
    change Calls Tryz.prog 74 _ _ _ at hcon
    refine hcon.mono ?_
    rintro e w' ⟨rfl, rfl⟩
    exact ⟨rfl, [], List.Perm.refl _, List.Pairwise.nil, hO, World.grownBy.refl _ _⟩
  · injection hv with e1 e2 e3
    subst e1 e3
    clear e2
    have eg : ∀ args w, (callFunc 59 args).run Tryz.prog w = .ok (.enter 59 args) w := enters_of Tryz.func59 (by kernel_rfl) rfl
    have hH := holdsK_of_own hO
    have hsz : (P.map (toRun x)).toArray.size = n := by simpa using hl
    have hcon := AnyQ.slices_SortFunc Tryz.sortR 5 Tryz.isAgg34 Tryz.sizeOf34 RRun.vals (fun _ => rfl) RRun.one runCmp swoR 59 #[] g 0 cap (P.map (toRun x)).toArray w eg
      (fun m os dk _ a b => compareRuns_grow a b _ _ rfl) hH (hO.1.lt g rfl).2 (by rw [hsz]; omega)
    change Calls Tryz.prog 74 _ _ _ at hcon
    rw [hsz] at hcon
    refine hcon.mono ?_
    rintro e w' ⟨rfl, d', m, os, hp, hs, rfl⟩
    rw [← hsz] at hp hs
    obtain ⟨p1, p2⟩ := perm_of_in hp
    obtain ⟨P', h1, h2⟩ := perm_map_inv p1 P rfl
    have hso := sorted_of_in p2 hs
    rw [h2] at hso
    have hd : d' = (P'.map (toRun x)).toArray := by rw [← h2]
    have hlen : (P'.map (toRun x)).length = n := by rw [← hl, List.length_map, List.length_map]; exact h1.length_eq
    refine ⟨rfl, P', h1, ?_, ?_, ?_⟩
    · rw [List.pairwise_map] at hso
      refine hso.imp fun {a b} hab => ?_
      rw [ltR] at hab
      simp only [decide_eq_false_iff_not] at hab
      rw [runCmp_swap]
      omega
    · rw [hd]
      refine own_sortK hO _ hlen m os (fun y hy => ?_)
      obtain ⟨r, hr, rfl⟩ := List.mem_map.1 hy
      exact run_ok_any w _ _ (hO.2 _ (List.mem_map_of_mem (h1.mem_iff.1 hr)))
    · exact grown_sortK _ _ _
end Go.Proofs.YtbnkoefljcekbaaGreatDoor.C9

namespace Go.Proofs.YtbnkoefljcekbaaGreatDoor.C9
open Go.ChangeShapes Go.WideShapes Go.Deep Go.RowKit Go.Maps
set_option linter.unusedVariables false
set_option linter.unusedSimpArgs false

theorem worker_times {x : Worker} (h : workerF x = 0) : 0 ≤ x.from_ ∧ x.from_ ≤ 1000000000 ∧ 0 ≤ x.to_ ∧ x.to_ ≤ 1000000000 := by
  unfold workerF at h
  split at h
  · split at h
    · split at h
      · rename_i hh
        obtain ⟨_, _, a, b⟩ := hh
        unfold inR at a b
        simp only [Bool.and_eq_true, decide_eq_true_eq] at a b
        exact ⟨a.1, a.2, b.1, b.2⟩
      · exact absurd h (by decide)
    · rename_i hh
      exact absurd h hh
  · exact absurd h (by decide)
theorem FS.nums {X : FX} {s : PS} {w0 : World} (h : FS X s w0) : (∀ k, k < X.F.nW → X.F.wfrom k ≤ 1000000000 ∧ X.F.wto k ≤ 1000000000) ∧ (∀ t ∈ X.F.lossAt, t ≤ 1000000000) ∧ X.F.nX ≤ 200 ∧ X.F.tries ≤ 10 := by
  obtain ⟨n1, n2, n3, n4, n5, n6⟩ := h.nW
  refine ⟨fun k hk => ?_, fun t ht => ?_, by omega, ?_⟩
  · obtain ⟨y, hy⟩ : ∃ y, X.x.workers.l[k]? = some y := ⟨X.x.workers.l[k]'(by omega), List.getElem?_eq_getElem _⟩
    obtain ⟨a, b, _⟩ := h.wk hy
    rw [a, b]
    have := worker_times (h.ok.wk y (List.mem_of_getElem? hy))
    exact ⟨this.2.1, this.2.2.2⟩
  · obtain ⟨o, e⟩ := h.F
    rw [e] at ht
    obtain ⟨l, hl, rfl⟩ := List.mem_map.1 ht
    exact (h.ok.lo l hl).2.2
  · obtain ⟨o, e⟩ := h.F
    rw [e]
    exact h.ok.tri.2
theorem FS.of {X : FX} {s0 s : PS} {w0 : World} (h : FS X s0 w0) {t : Int} (hr : Room X.F s) (hf : ∀ r ∈ s.runs, r.from_ ≤ t) (ht : s.now = t) (h0 : 0 ≤ t) (h1 : t ≤ 1000000000) : FS X s w0 :=
  ⟨h.ok, h.F, h.ws, h.xs, h.ls, by omega, by omega, fun r hr' => by
    obtain ⟨a, b, c, d, e⟩ := hr.rn r hr'
    exact ⟨a, b, c, d, e, by rw [ht]; exact hf r hr'⟩⟩
theorem room_small {X : FX} {s0 s : PS} {w0 : World} (hr : Room X.F s) (h : FS X s0 w0) (hF : FFine X.F) : s.runs.length + s.out.length ≤ 2200 ∧ (∀ j, 0 ≤ s.begun j ∧ s.begun j ≤ 11) ∧ ∀ j, 0 ≤ s.lost j ∧ s.lost j ≤ 11 := by
  obtain ⟨_, _, a, b⟩ := h.nums
  have c := hF.tri
  refine ⟨?_, fun j => by have := hr.beg j; omega, fun j => by have := hr.los j; omega⟩
  have h1 := hr.len
  have h2 : (X.F.nX : Int) * (X.F.tries + 1) ≤ 200 * 11 := Int.mul_le_mul (by omega) (by omega) (by omega) (by omega)
  omega
theorem ls_small {F : FP} {s : PS} (k : Nat) (j : Nat) (h : 0 ≤ s.lost j ∧ s.lost j ≤ 11) (hl : s.runs.length ≤ 2200) : 0 ≤ (lsS F s k).lost j ∧ (lsS F s k).lost j ≤ 900000 := by
  have h1 : lostNow F s.now (s.runs.take k) j ≤ (s.runs.take k).length := List.countP_le_length
  have h2 : (s.runs.take k).length ≤ s.runs.length := by rw [List.length_take]; omega
  show 0 ≤ s.lost j + (lostNow F s.now (s.runs.take k) j : Nat) ∧ s.lost j + (lostNow F s.now (s.runs.take k) j : Nat) ≤ 900000
  omega
section
variable {X : FX} {K : KD Tryz.prog 71 Loss} {rv ov : Value} {s : PS} {w0 W W' : World}
theorem FA.setNow (h : FA X K rv ov s w0 W) (u : Int) : FA X K rv ov { s with now := u } w0 (W.setCell ⟨X.f, 7, none⟩ (.int .i64 u)) :=
  ⟨h.core.setNow u, own_kp h.runs (grown_setc W ⟨X.f, 7, none⟩ _) (fun b hb e => h.rap X.f h.core.memf.1 (by rw [hb]; exact e.symm)) (fun x _ hx => grun_ok_any _ _ x hx), h.rap, h.rov⟩
theorem FA.srt (h : FA X K rv ov s w0 W) {L : List RR} (hg : W.grownBy W' ov.ownBlock) (ho : Own RRun 34 W' X.base ov (L.map (toRun X.x))) : FA X K rv ov { s with out := L } w0 W' := by
  obtain ⟨m1, m2, m3, m4, m5, m6, m7⟩ := h.core.memf
  obtain ⟨p1, p2, p3, p4, p5, p6, p7, p8, p9, p10⟩ := h.core.parts hg
  have ne : ∀ c ∈ X.bl, ov.ownBlock ≠ some c := fun c hc => h.core.apart c hc
  refine ⟨⟨p1 (ne _ m1), p2 (ne _ m3), p3 (ne _ m4), p4 (ne _ m5), p5 (ne _ m6), p6 (ne _ m7), p7 (ne _ m2), ho, h.core.nd, h.core.ge, p9, h.core.apart, h.core.base, p10 (fun b hb => (h.core.out.1.lt b hb).1)⟩, ?_, h.rap, h.rov⟩
  exact own_kp h.runs hg (fun b hb => h.rov b hb) (fun x _ hx => grun_ok_any _ _ x hx)
end
/-- how far a farm still has to go -/
def leftN (f : Nat) (w : World) : Nat := match w.cell? ⟨f, 7, none⟩ with
  | some (.int .i64 t) => (1000000001 - t).toNat
  | _ => 0
theorem leftN_of {f : Nat} {w : World} {t : Int} (h : w.cell? ⟨f, 7, none⟩ = some (.int .i64 t)) : leftN f w = (1000000001 - t).toNat := by unfold leftN; rw [h]
def PlayAns (X : FX) (w0 : World) (e : Ending) (w' : World) : Prop :=
  e = .returned (.tuple #[]) ∧ ∃ (rv ov : Value) (p' : PS) (L : List RR), PTrace X.F p0 p' ∧ L.Perm p'.out ∧ (L.Pairwise fun a b => runCmp (toRun X.x a) (toRun X.x b) ≤ 0) ∧ FA X KLo rv ov { p' with out := L } w0 w'
def PlRel (X : FX) (w0 wr : World) : Prop := ∃ (s : PS) (rv ov : Value) (q : QS), FA X KLo rv ov s w0 wr ∧ WayP X.F s q ∧ 0 ≤ s.now ∧ s.now ≤ 1000000000 ∧ ∀ p', PTrace X.F s p' → PTrace X.F p0 p'
/-- a step whole, as the four calls take it -/
theorem play_round {X : FX} {w0 : World} (hS : FS X p0 w0) (hF : FFine X.F) {s : PS} {q : QS} (hW : WayP X.F s q) (h0 : 0 ≤ s.now) (h1 : s.now ≤ 1000000000) :
    (FS X s w0 ∧ (s.runs.Pairwise fun a b => a.work = b.work → a.worker ≠ b.worker) ∧ s.out.length + s.runs.length ≤ 900000) ∧
    (∀ rs : List RR, rs.Perm s.runs → FS X (finP X.F { s with runs := rs }) w0 ∧ (finP X.F { s with runs := rs }).out.length + (finP X.F { s with runs := rs }).runs.length ≤ 900000 ∧
      (∀ k r, (finP X.F { s with runs := rs }).runs[k]? = some r → 0 ≤ (lsS X.F (finP X.F { s with runs := rs }) k).lost r.work ∧ (lsS X.F (finP X.F { s with runs := rs }) k).lost r.work ≤ 900000)) ∧
    (∀ rs : List RR, rs.Perm s.runs → FS X (loseP X.F (finP X.F { s with runs := rs })) w0 ∧ (loseP X.F (finP X.F { s with runs := rs })).runs.length ≤ 800000 ∧ ∀ j, 0 ≤ (loseP X.F (finP X.F { s with runs := rs })).begun j ∧ (loseP X.F (finP X.F { s with runs := rs })).begun j ≤ 800000) ∧
    (∀ rs : List RR, rs.Perm s.runs → FS X (startP X.F (loseP X.F (finP X.F { s with runs := rs }))) w0 ∧ (startP X.F (loseP X.F (finP X.F { s with runs := rs }))).runs.length ≤ 800000 ∧ ∀ j, 0 ≤ (startP X.F (loseP X.F (finP X.F { s with runs := rs }))).begun j ∧ (startP X.F (loseP X.F (finP X.F { s with runs := rs }))).begun j ≤ 800000) ∧
    (∀ rs : List RR, rs.Perm s.runs → FS X (dblP X.F (startP X.F (loseP X.F (finP X.F { s with runs := rs })))) w0 ∧ (dblP X.F (startP X.F (loseP X.F (finP X.F { s with runs := rs })))).runs.length + (dblP X.F (startP X.F (loseP X.F (finP X.F { s with runs := rs })))).out.length ≤ 900000 ∧ (dblP X.F (startP X.F (loseP X.F (finP X.F { s with runs := rs })))).now = s.now ∧
      ∀ n, nextP X.F (dblP X.F (startP X.F (loseP X.F (finP X.F { s with runs := rs })))) = some n → s.now < n ∧ n ≤ 1000000000 ∧ WayP X.F { dblP X.F (startP X.F (loseP X.F (finP X.F { s with runs := rs }))) with now := n } { stepQ X.F q with at_ := n }) := by
  refine ⟨?_, fun rs hp => ?_, fun rs hp => ?_, fun rs hp => ?_, fun rs hp => ?_⟩
  · obtain ⟨r, f⟩ := hW.r0 hF
    have := (room_small r hS hF).1
    exact ⟨hS.of r f rfl h0 h1, r.two, by omega⟩
  · obtain ⟨r, f⟩ := (hW.perm hF hp).r1 hF
    obtain ⟨a, b, c⟩ := room_small r hS hF
    exact ⟨hS.of r f rfl h0 h1, by omega, fun k x _ => ls_small k x.work (c x.work) (by omega)⟩
  · obtain ⟨r, f⟩ := (hW.perm hF hp).r2 hF
    obtain ⟨a, b, c⟩ := room_small r hS hF
    exact ⟨hS.of r f rfl h0 h1, by omega, fun j => by have := b j; omega⟩
  · obtain ⟨r, f⟩ := (hW.perm hF hp).r3 hF
    obtain ⟨a, b, c⟩ := room_small r hS hF
    exact ⟨hS.of r f rfl h0 h1, by omega, fun j => by have := b j; omega⟩
  · obtain ⟨r, f⟩ := (hW.perm hF hp).r4 hF
    obtain ⟨a, b, c⟩ := room_small r hS hF
    have hnow : (dblP X.F (startP X.F (loseP X.F (finP X.F { s with runs := rs })))).now = s.now := by unfold dblP; split <;> rfl
    obtain ⟨u1, u2, _⟩ := hS.nums
    exact ⟨hS.of r f hnow h0 h1, by omega, hnow, fun n hn => (hW.perm hF hp).next hF hn u1 u2⟩
set_option maxRecDepth 100000 in
set_option maxHeartbeats 8000000 in
theorem play_any {X : FX} {rv ov : Value} {w0 w : World} (hA : FA X KLo rv ov p0 w0 w) (hS : FS X p0 w0) (hF : FFine X.F) (hO : OrdX X) :
    Calls Tryz.prog 32 #[.pointer (some ⟨X.f, 0, none⟩)] w (PlayAns X w0) := by
  have hst : PlRel X w0 w := ⟨p0, rv, ov, q0, hA, wayp0 hF, Int.le_refl _, by decide, fun p' h => h⟩
  clear hA
  obtain ⟨Z, hZ⟩ : ∃ Z, PlayAns X w0 = Z := ⟨_, rfl⟩
  rw [hZ]
  have hZH := Lib.hid hZ
  clear hZ
  have hSH := Lib.hid hS
  clear hS
  have hFH := Lib.hid hF
  clear hF
  have hOH := Lib.hid hO
  clear hO
  have hstH := Lib.hid hst
  clear hst
  go_enter Tryz.func32, Tryz.ntmps32
  go_wp2_with fail
  go_loopw [] (fun wr => PlRel X w0 wr) (fun wr => leftN X.f wr)
  case atStart => exact hstH.out
  case round =>
    clear hstH
    obtain ⟨s, rv, ov, q, hA, hW, h0, h1, hT⟩ := hrel
    have hleft := leftN_of (hA.core.blk 7 _ rfl).1
    obtain ⟨⟨s1, s2, s3⟩, r1, r2, r3, r4⟩ := play_round hSH.out hFH.out hW h0 h1
    have hfin := finish_any hA s1 s2 s3
    clear s1 s2 s3 hA
    have hleftH := Lib.hid hleft
    clear hleft
    have r1H := Lib.hid r1
    clear r1
    have r2H := Lib.hid r2
    clear r2
    have r3H := Lib.hid r3
    clear r3
    have r4H := Lib.hid r4
    clear r4
    have hfinH := Lib.hid hfin
    clear hfin
    have hWH := Lib.hid hW
    clear hW
    have hTH := Lib.hid hT
    clear hT
    have h0H := Lib.hid h0
    clear h0
    have h1H := Lib.hid h1
    clear h1
    go_wp2_with fail
    go_at_call 69
    refine hfinH.out.mono ?_
    rintro e w1 ⟨rfl, rs, rv1, ov1, hp, hA1⟩
    obtain ⟨a1, a2, a3⟩ := r1H.out rs hp
    have hlo := lose_any hA1 a1 a2 a3
    clear a1 a2 a3 hA1 hfinH r1H
    have hpH := Lib.hid hp
    clear hp
    have hloH := Lib.hid hlo
    clear hlo
    go_wp2_with fail
    go_at_call 70
    refine hloH.out.mono ?_
    rintro e w2 ⟨rfl, rv2, ov2, hA2⟩
    obtain ⟨a1, a2, a3⟩ := r2H.out rs hpH.out
    have hsta := start_any hA2 a1 hOH.out hFH.out.lt a2 a3
    clear a1 a2 a3 hA2 hloH r2H
    have hstaH := Lib.hid hsta
    clear hsta
    go_wp2_with fail
    go_at_call 71
    refine hstaH.out.mono ?_
    rintro e w3 ⟨rfl, rv3, hA3⟩
    obtain ⟨a1, a2, a3⟩ := r3H.out rs hpH.out
    have hdb := double_any hA3 a1 a2 a3
    clear a1 a2 a3 hA3 hstaH r3H
    have hdbH := Lib.hid hdb
    clear hdb
    go_wp2_with fail
    go_at_call 72
    refine hdbH.out.mono ?_
    rintro e w4 ⟨rfl, rv4, hA4⟩
    obtain ⟨a1, a2, a3, a4⟩ := r4H.out rs hpH.out
    have hps : PStep X.F s (dblP X.F (startP X.F (loseP X.F (finP X.F { s with runs := rs })))) := ⟨rs, hpH.out, rfl⟩
    obtain ⟨p4, hp4⟩ : ∃ p, dblP X.F (startP X.F (loseP X.F (finP X.F { s with runs := rs }))) = p := ⟨_, rfl⟩
    rw [hp4] at hA4 a1 a2 a3 a4 hps
    have hnx := next_any hA4 a1 (by omega)
    clear hdbH r4H hp4 hpH
    cases hnp : nextP X.F p4 with
    | none =>
      rw [hnp] at hnx
      obtain ⟨A, cap, hov⟩ := hA4.core.out.form
      obtain ⟨n, hnn⟩ : ∃ n, (p4.out.map (toRun X.x)).length = n := ⟨_, rfl⟩
      rw [hnn] at hov
      subst hov
      have hn : n ≤ 1000000 := by rw [← hnn, List.length_map]; omega
      have R : ∀ w5 w6, Below w4.heap.size w4 w5 → SrtRAns X.base (.slice A n cap) X.x p4.out w5 (.returned (.tuple #[])) w6 → PlayAns X w0 (.returned (.tuple #[])) w6 := by
        rintro w5 w6 hb5 ⟨_, L, hL1, hL2, hL3, hL4⟩
        exact ⟨rfl, rv4, _, p4, L, hTH.out _ (.last _ _ hps hnp), hL1, hL2, (hA4.below hb5).srt hL4 hL3⟩
      have hnxH := Lib.hid hnx
      clear hnx
      have hA4H := Lib.hid hA4
      clear hA4
      have hnH := Lib.hid hn
      clear hn
      have hpsH := Lib.hid hps
      clear hps
      have hnpH := Lib.hid hnp
      clear hnp
      have RH := Lib.hid R
      clear R
      have a1H := Lib.hid a1
      clear a1
      have a2H := Lib.hid a2
      clear a2
      have a3H := Lib.hid a3
      clear a3
      have a4H := Lib.hid a4
      clear a4
      go_wp2_with fail
      go_at_call 73
      refine hnxH.out.mono ?_
      rintro e w5 ⟨rfl, hb5⟩
      have hsr := sortR_any A n cap X.x p4.out w5 X.base (hA4H.out.below hb5).core.out hnH.out
      have c11 := ((hA4H.out.below hb5).core.blk 11 _ rfl).1
      have hb5H := Lib.hid hb5
      clear hb5
      have hsrH := Lib.hid hsr
      clear hsr
      simp only [nxV]
      go_wp2_with fail
      go_at_call 74
      refine hsrH.out.mono ?_
      intro e w6 h6
      have h60 : e = .returned (.tuple #[]) := h6.1
      subst h60
      have R6 := RH.out w5 w6 hb5H.out h6
      rw [hZH.out] at R6
      clear h6
      have R6H := Lib.hid R6
      clear R6
      go_wp2
      go_end0
      exact R6H.out
    | some m =>
      rw [hnp] at hnx
      obtain ⟨b1, b2, b3⟩ := a4 m hnp
      have R : ∀ w5, Below w4.heap.size w4 w5 → PlRel X w0 (w5.setCell ⟨X.f, 7, none⟩ (.int .i64 m)) ∧ leftN X.f (w5.setCell ⟨X.f, 7, none⟩ (.int .i64 m)) < leftN X.f wr := by
        intro w5 hb5
        have hA5 := (hA4.below hb5).setNow m
        have h0 := h0H.out
        refine ⟨⟨_, rv4, ov2, _, hA5, b3, by show 0 ≤ m; omega, b2, fun p' h => hTH.out _ (.more _ _ _ _ hps hnp h)⟩, ?_⟩
        rw [hleftH.out, leftN_of (hA5.core.blk 7 _ rfl).1]
        show (1000000001 - m).toNat < _
        have := h1H.out
        omega
      have hnxH := Lib.hid hnx
      clear hnx
      have hA4H := Lib.hid hA4
      clear hA4
      have hpsH := Lib.hid hps
      clear hps
      have hnpH := Lib.hid hnp
      clear hnp
      have RH := Lib.hid R
      clear R
      have a1H := Lib.hid a1
      clear a1
      have a2H := Lib.hid a2
      clear a2
      have a3H := Lib.hid a3
      clear a3
      have a4H := Lib.hid a4
      clear a4
      have b1H := Lib.hid b1
      clear b1
      have b2H := Lib.hid b2
      clear b2
      have b3H := Lib.hid b3
      clear b3
      go_wp2_with fail
      go_at_call 73
      refine hnxH.out.mono ?_
      rintro e w5 ⟨rfl, hb5⟩
      have f7 := ((hA4H.out.below hb5).core.blk 7 _ rfl).2
      have c7 := ((hA4H.out.below hb5).core.blk 7 _ rfl).1
      obtain ⟨R1, R2⟩ := RH.out w5 hb5
      have hb5H := Lib.hid hb5
      clear hb5
      have R1H := Lib.hid R1
      clear R1
      have R2H := Lib.hid R2
      clear R2
      simp only [nxV]
      go_wp2
      refine ⟨?rel, ?measure⟩
      case measure => exact R2H.out
      case rel => first | exact R1H.out | exact ⟨rfl, R1H.out⟩ | ((try refine ⟨rfl, ?_⟩); (repeat apply Exists.intro); refine ⟨R1H.out, ?_⟩; ((repeat' apply And.intro) <;> rfl))
end Go.Proofs.YtbnkoefljcekbaaGreatDoor.C9

namespace Go.Proofs.YtbnkoefljcekbaaGreatDoor.C9
open Go.ChangeShapes Go.WideShapes Go.Deep Go.RowKit Go.Maps
set_option linter.unusedVariables false
set_option linter.unusedSimpArgs false

def insO (f : Nat → Int) (x : Nat) : List Nat → List Nat
  | [] => [x]
  | y :: l => if f x < f y then x :: y :: l else y :: insO f x l
theorem insO_split {f : Nat → Int} {x : Nat} : ∀ {L : List Nat}, SortedBy f L → ∃ X Y, L = X ++ Y ∧ insO f x L = X ++ x :: Y ∧ (∀ a ∈ X, f a ≤ f x) ∧ ∀ y ∈ Y, f x < f y
  | [], _ => ⟨[], [], rfl, rfl, (fun _ h => by cases h), fun _ h => by cases h⟩
  | y :: L, h => by
    obtain ⟨h1, h2⟩ := List.pairwise_cons.1 h
    by_cases hy : f x < f y
    · refine ⟨[], y :: L, rfl, by rw [insO, if_pos hy]; rfl, (fun _ h => by cases h), fun z hz => ?_⟩
      rcases List.mem_cons.1 hz with rfl | hz
      · exact hy
      · have := h1 z hz; omega
    · obtain ⟨X, Y, e1, e2, e3, e4⟩ := insO_split (x := x) h2
      refine ⟨y :: X, Y, by rw [e1]; rfl, by rw [insO, if_neg hy, e2]; rfl, fun a ha => ?_, e4⟩
      rcases List.mem_cons.1 ha with rfl | ha
      · omega
      · exact e3 a ha
def ordF (f : Nat → Int) (l : List Nat) : List Nat := l.foldl (fun a x => insO f x a) []
theorem ord_go {f : Nat → Int} : ∀ (l A Z : List Nat), SortedBy f A → SameCls f A Z → A.Perm Z → SortedBy f (l.foldl (fun a x => insO f x a) A) ∧ SameCls f (l.foldl (fun a x => insO f x a) A) (Z ++ l) ∧ (l.foldl (fun a x => insO f x a) A).Perm (Z ++ l)
  | [], A, Z, h1, h2, h3 => ⟨h1, by rw [List.append_nil]; exact h2, by rw [List.append_nil]; exact h3⟩
  | x :: l, A, Z, h1, h2, h3 => by
    obtain ⟨X, Y, rfl, e2, e3, e4⟩ := insO_split (x := x) h1
    have a1 : SortedBy f (insO f x (X ++ Y)) := by rw [e2]; exact ins_sorted h1 (fun a ha => e3 a (List.mem_of_getLast? ha)) e4
    have a2 : SameCls f (insO f x (X ++ Y)) (Z ++ [x]) := by rw [e2]; exact ins_cls h2 e4
    have a3 : (insO f x (X ++ Y)).Perm (Z ++ [x]) := by
      rw [e2]
      exact (List.perm_middle.trans (List.Perm.cons x h3)).trans (List.perm_append_singleton x Z).symm
    have := ord_go l _ _ a1 a2 a3
    rw [List.append_assoc] at this
    exact this
theorem ord_ok (f : Nat → Int) (l : List Nat) : SortedBy f (ordF f l) ∧ SameCls f (ordF f l) l ∧ (ordF f l).Perm l := ord_go l [] [] List.Pairwise.nil (SameCls.refl _) (List.Perm.refl _)
/-- the order of the works -/
def ordOf (S : List Int) (N : Nat) : List Nat := ordF (fun k : Nat => fR S k) (List.range N)
theorem ordOf_so (S : List Int) (N : Nat) : SortedBy (fR S) (nz (ordOf S N)) := by
  have := (ord_ok (fun k : Nat => fR S k) (List.range N)).1
  unfold SortedBy nz at *
  rw [List.pairwise_map]
  exact this
theorem ordOf_cl (S : List Int) (N : Nat) : SameCls (fR S) (nz (ordOf S N)) (nz (List.range N)) := fun v => by
  have := (ord_ok (fun k : Nat => fR S k) (List.range N)).2.1 v
  unfold cls nz at *
  rw [List.filter_map, List.filter_map]
  exact congrArg _ this
theorem ordOf_perm (S : List Int) (N : Nat) : (ordOf S N).Perm (List.range N) := (ord_ok _ _).2.2
theorem ordX_of {X : FX} (hF : X.F = fpOf X.x (ordOf X.S X.N)) : OrdX X := ⟨by rw [hF]; exact ordOf_so _ _, by rw [hF]; exact ordOf_cl _ _⟩
theorem worker_nums {x : Worker} (h : workerF x = 0) : 1 ≤ x.slots ∧ 1 ≤ x.speed := by
  unfold workerF at h
  split at h
  · split at h
    · split at h
      · rename_i hh
        obtain ⟨a, b, _, _⟩ := hh
        unfold inR at a b
        simp only [Bool.and_eq_true, decide_eq_true_eq] at a b
        exact ⟨a.1, b.1⟩
      · exact absurd h (by decide)
    · rename_i hh
      exact absurd h hh
  · exact absurd h (by decide)
/-- what a right farm asks is fine -/
theorem fine_of {x : Farm} (h : FarmOk x) {S : List Int} {N : Nat} (hN : N = x.works.l.length) : FFine (fpOf x (ordOf S N)) ∧ ∀ i, i < (fpOf x (ordOf S N)).nX → i ∈ (fpOf x (ordOf S N)).order := by
  have hp := ordOf_perm S N
  refine ⟨⟨⟨?_, fun i hi => ?_, fun k t hk hl => ?_⟩, fun k i hk hi => ?_, fun k hk => ?_, fun k hk => ?_, h.tri.1⟩, fun i hi => ?_⟩
  · exact hp.nodup_iff.2 List.nodup_range
  · have := hp.mem_iff.1 hi
    rw [List.mem_range, hN] at this
    exact this
  · simp only [fpOf, decide_eq_true_eq] at hl
    exact List.mem_map.2 ⟨_, hl, rfl⟩
  · have hk' : k < x.workers.l.length := hk
    have hi' : i < x.works.l.length := hi
    show 1 ≤ secsF (wkOf x k) (woOf x i).size
    rw [wkOf_get (List.getElem?_eq_getElem hk'), woOf_get (List.getElem?_eq_getElem hi')]
    have a := (worker_nums (h.wk _ (List.getElem_mem hk'))).2
    have b := (h.wo.size _ (List.getElem_mem hi')).1
    unfold secsF
    exact (Int.le_ediv_iff_mul_le (by omega)).2 (by omega)
  · have hk' : k < x.workers.l.length := hk
    show 0 ≤ (wkOf x k).from_
    rw [wkOf_get (List.getElem?_eq_getElem hk')]
    exact (worker_times (h.wk _ (List.getElem_mem hk'))).1
  · have hk' : k < x.workers.l.length := hk
    show 0 ≤ (wkOf x k).slots
    rw [wkOf_get (List.getElem?_eq_getElem hk')]
    have := (worker_nums (h.wk _ (List.getElem_mem hk'))).1
    omega
  · have hi' : i < x.works.l.length := hi
    exact hp.mem_iff.2 (List.mem_range.2 (by omega))
end Go.Proofs.YtbnkoefljcekbaaGreatDoor.C9

namespace Go.Proofs.YtbnkoefljcekbaaGreatDoor.C9
open Go.ChangeShapes Go.WideShapes Go.Deep Go.RowKit Go.Maps
set_option linter.unusedVariables false
set_option linter.unusedSimpArgs false

/-- what the pool of open's making knows -/
structure PJ (x : Farm) (xb N : Nat) (w0 : World) (o : Nat → Option Nat) (t : List Int) (w : World) : Prop where
  bel : Below w0.heap.size w0 w
  xlt : xb < w.heap.size
  ge : ∀ k b, o k = some b → xb < b ∧ b < w.heap.size
  inj : ∀ i j b, o i = some b → o j = some b → i = j
  k3 : ∀ b, o 3 = some b → Sms w b N t ∧ Crit (gOf x.works.l) (szOf x.works.l) N (gt t)
  k4 : ∀ b, o 4 = some b → TMap KLo (fun b : Bool => Value.bool b) w b (fun _ => none) 0
  k6 : ∀ b, o 6 = some b → BRow w b N (fun _ => false)
  k8 : ∀ b, o 8 = some b → IRow w b N (fun _ => 0)
  k10 : ∀ b, o 10 = some b → IRow w b N (fun _ => 0)
  k12 : ∀ b, o 12 = some b → IRow w b N (fun _ => 0)
theorem PJ.keep {x : Farm} {xb N : Nat} {w0 : World} {o : Nat → Option Nat} {t : List Int} {w w' : World} (h : PJ x xb N w0 o t w) (hb : Below w.heap.size w w') : PJ x xb N w0 o t w' := by
  have hk : ∀ k b, o k = some b → w'.heap[b]? = w.heap[b]? := fun k b hk => hb.block b (h.ge k b hk).2
  exact ⟨h.bel.trans (hb.mono h.bel.size), Nat.lt_of_lt_of_le h.xlt hb.size, fun k b e => ⟨(h.ge k b e).1, Nat.lt_of_lt_of_le (h.ge k b e).2 hb.size⟩, h.inj, fun b e => ⟨(h.k3 b e).1.keep (hk _ _ e), (h.k3 b e).2⟩, fun b e => (h.k4 b e).below hb (h.ge _ _ e).2,
    fun b e => brow_kp (h.k6 b e) (hk _ _ e), fun b e => (h.k8 b e).keep (hk _ _ e), fun b e => (h.k10 b e).keep (hk _ _ e), fun b e => (h.k12 b e).keep (hk _ _ e)⟩
/-- one more is made -/
theorem PJ.more {x : Farm} {xb N : Nat} {w0 : World} {o : Nat → Option Nat} {t t' : List Int} {w w' : World} (h : PJ x xb N w0 o t w) (hb : Below w.heap.size w w') {k b : Nat} (hk : o k = none) (h1 : w.heap.size ≤ b) (h2 : b < w'.heap.size)
    (ht : k ≠ 3 → t' = t) (h3 : k = 3 → Sms w' b N t' ∧ Crit (gOf x.works.l) (szOf x.works.l) N (gt t')) (h4 : k = 4 → TMap KLo (fun b : Bool => Value.bool b) w' b (fun _ => none) 0) (h6 : k = 6 → BRow w' b N (fun _ => false)) (h8 : k = 8 ∨ k = 10 ∨ k = 12 → IRow w' b N (fun _ => 0)) :
    PJ x xb N w0 (upo o k b) t' w' := by
  have h' := h.keep hb
  have hx := h.xlt
  have ho : ∀ j c, upo o k b j = some c → (j = k ∧ c = b) ∨ (j ≠ k ∧ o j = some c) := fun j c e => by
    unfold upo at e
    by_cases hj : j = k
    · rw [if_pos hj] at e; injection e with e; exact .inl ⟨hj, e.symm⟩
    · rw [if_neg hj] at e; exact .inr ⟨hj, e⟩
  refine ⟨h'.bel, h'.xlt, fun j c e => ?_, fun i j c ei ej => ?_, fun c e => ?_, fun c e => ?_, fun c e => ?_, fun c e => ?_, fun c e => ?_, fun c e => ?_⟩
  · rcases ho j c e with ⟨rfl, rfl⟩ | ⟨_, e⟩
    · exact ⟨by omega, h2⟩
    · exact h'.ge j c e
  · rcases ho i c ei with ⟨u1, u2⟩ | ⟨_, ei2⟩
    · rcases ho j c ej with ⟨u3, u4⟩ | ⟨_, ej2⟩
      · rw [u1, u3]
      · have := (h.ge j _ ej2).2; omega
    · rcases ho j c ej with ⟨u3, u4⟩ | ⟨_, ej2⟩
      · have := (h.ge i _ ei2).2; omega
      · exact h.inj i j c ei2 ej2
  · rcases ho _ c e with ⟨e3, rfl⟩ | ⟨hne, e⟩
    · exact h3 e3.symm
    · rw [ht (Ne.symm hne)]; exact h'.k3 c e
  · rcases ho _ c e with ⟨e3, rfl⟩ | ⟨hne, e⟩
    · exact h4 e3.symm
    · exact h'.k4 c e
  · rcases ho _ c e with ⟨e3, rfl⟩ | ⟨hne, e⟩
    · exact h6 e3.symm
    · exact h'.k6 c e
  · rcases ho _ c e with ⟨e3, rfl⟩ | ⟨hne, e⟩
    · exact h8 (.inl e3.symm)
    · exact h'.k8 c e
  · rcases ho _ c e with ⟨e3, rfl⟩ | ⟨hne, e⟩
    · exact h8 (.inr (.inl e3.symm))
    · exact h'.k10 c e
  · rcases ho _ c e with ⟨e3, rfl⟩ | ⟨hne, e⟩
    · exact h8 (.inr (.inr e3.symm))
    · exact h'.k12 c e
theorem irow_made (w : World) (n : Nat) : IRow (w.alloc (.cells (madeI n) 3)) w.heap.size n (fun _ => 0) := fun j hj => by
  have : (w.alloc (.cells (madeI n) 3)).cell? ⟨w.heap.size, j, none⟩ = (madeI n)[j]? := by simp [go_sem]
  rw [this]
  exact ⟨madeI_get n j hj, by simp [go_sem]⟩
theorem blk_new (w : World) (vs : List Value) (T : TypeId) : Blk (w.alloc (.cells vs.toArray T)) w.heap.size vs := fun j v hj => by
  have : (w.alloc (.cells vs.toArray T)).cell? ⟨w.heap.size, j, none⟩ = vs.toArray[j]? := by simp [go_sem]
  rw [this]
  exact ⟨by simpa using hj, by simp [go_sem]⟩
/-- the farm that was opened -/
def fxOf (x : Farm) (t : List Int) (N base f b3 b4 b6 b8 b10 b12 c : Nat) : FX := ⟨x, t, fpOf x (ordOf t N), base, f, b4, b3, b6, b8, b10, b12, c⟩
theorem open_end {x : Farm} {xb N : Nat} {w0 : World} {o : Nat → Option Nat} {t : List Int} {wr W9 W : World} {b3 b4 b6 b8 b10 b12 c : Nat} (hJ : PJ x xb N w0 o t wr) (hxb : w0.heap.size = xb) (hN : x.works.n = N) (g3 : o 3 = some b3) (g4 : o 4 = some b4) (g6 : o 6 = some b6) (g8 : o 8 = some b8) (g10 : o 10 = some b10) (g12 : o 12 = some b12)
    (h9 : wr.alloc (.cells (FX.cells (fxOf x t N w0.heap.size wr.heap.size b3 b4 b6 b8 b10 b12 c) 0 (.slice none 0 0) (.slice none 0 0)).toArray 61) = W9) (hg : W9.grownBy W (some b4)) (hm : TMap KLo (fun b : Bool => Value.bool b) W b4 (fun l => if l ∈ x.lost.l then some true else none) c) :
    FA (fxOf x t N w0.heap.size wr.heap.size b3 b4 b6 b8 b10 b12 c) KLo (.slice none 0 0) (.slice none 0 0) p0 w0 W := by
  have hb9 : Below wr.heap.size wr W9 := by rw [← h9]; exact (Below.refl _ _).alloc (Nat.le_refl _) _
  have hJ9 := hJ.keep hb9
  have hsz : W9.heap.size = wr.heap.size + 1 := by rw [← h9]; simp
  have hbk : Blk W9 wr.heap.size (FX.cells (fxOf x t N w0.heap.size wr.heap.size b3 b4 b6 b8 b10 b12 c) 0 (.slice none 0 0) (.slice none 0 0)) := by rw [← h9]; exact blk_new _ _ _
  have hk : ∀ b, b < W9.heap.size → b ≠ b4 → W.heap[b]? = W9.heap[b]? := fun b hb hne => hg.block b hb (fun e => hne (Option.some.inj e))
  have ne : ∀ i j b b', o i = some b → o j = some b' → i ≠ j → b ≠ b' := fun i j b b' e1 e2 hij e => hij (hJ.inj i j b e1 (by rw [e2, e]))
  have l3 := hJ.ge 3 b3 g3
  have l4 := hJ.ge 4 b4 g4
  have l6 := hJ.ge 6 b6 g6
  have l8 := hJ.ge 8 b8 g8
  have l10 := hJ.ge 10 b10 g10
  have l12 := hJ.ge 12 b12 g12
  have hXN : (fxOf x t N w0.heap.size wr.heap.size b3 b4 b6 b8 b10 b12 c).N = N := hN
  have n34 := ne 3 4 b3 b4 g3 g4 (by decide)
  have n36 := ne 3 6 b3 b6 g3 g6 (by decide)
  have n38 := ne 3 8 b3 b8 g3 g8 (by decide)
  have n3a := ne 3 10 b3 b10 g3 g10 (by decide)
  have n3c := ne 3 12 b3 b12 g3 g12 (by decide)
  have n46 := ne 4 6 b4 b6 g4 g6 (by decide)
  have n48 := ne 4 8 b4 b8 g4 g8 (by decide)
  have n4a := ne 4 10 b4 b10 g4 g10 (by decide)
  have n4c := ne 4 12 b4 b12 g4 g12 (by decide)
  have n68 := ne 6 8 b6 b8 g6 g8 (by decide)
  have n6a := ne 6 10 b6 b10 g6 g10 (by decide)
  have n6c := ne 6 12 b6 b12 g6 g12 (by decide)
  have n8a := ne 8 10 b8 b10 g8 g10 (by decide)
  have n8c := ne 8 12 b8 b12 g8 g12 (by decide)
  have nac := ne 10 12 b10 b12 g10 g12 (by decide)
  refine ⟨⟨?_, ?_, ?_, ?_, ?_, ?_, hm, Own.nil _ _, ?_, ?_, ?_, (fun b _ e => by cases e), rfl, ?_⟩, Own.nil _ _, (fun b _ e => by cases e), (fun b e => by cases e)⟩
  · exact hbk.keep (hk wr.heap.size (by omega) (by omega))
  · rw [hXN]; exact (hJ9.k3 b3 g3).1.keep (hk b3 (by omega) n34)
  · rw [hXN]; exact brow_kp (hJ9.k6 b6 g6) (hk b6 (by omega) (Ne.symm n46))
  · rw [hXN]; exact (hJ9.k8 b8 g8).keep (hk b8 (by omega) (Ne.symm n48))
  · rw [hXN]; exact (hJ9.k10 b10 g10).keep (hk b10 (by omega) (Ne.symm n4a))
  · rw [hXN]; exact (hJ9.k12 b12 g12).keep (hk b12 (by omega) (Ne.symm n4c))
  · simp only [FX.bl, fxOf, List.nodup_cons, List.mem_cons, List.not_mem_nil, or_false, not_or, not_false_eq_true, List.nodup_nil, and_true]
    refine ⟨⟨?_, ?_, ?_, ?_, ?_, ?_⟩, ⟨Ne.symm n34, n46, n48, n4a, n4c⟩, ⟨n36, n38, n3a, n3c⟩, ⟨n68, n6a, n6c⟩, ⟨n8a, n8c⟩, nac⟩ <;> omega
  · intro b hb
    simp only [FX.bl, fxOf, List.mem_cons, List.not_mem_nil, or_false] at hb
    show w0.heap.size ≤ b
    rcases hb with rfl | rfl | rfl | rfl | rfl | rfl | rfl <;> omega
  · intro b hb
    simp only [FX.bl, fxOf, List.mem_cons, List.not_mem_nil, or_false] at hb
    have := hg.size
    rcases hb with rfl | rfl | rfl | rfl | rfl | rfl | rfl <;> omega
  · exact hJ9.bel.grown hg hJ9.bel.size (fun b hb => by injection hb with hb; omega)
end Go.Proofs.YtbnkoefljcekbaaGreatDoor.C9

namespace Go.Proofs.YtbnkoefljcekbaaGreatDoor.C9
open Go.ChangeShapes Go.WideShapes Go.Deep Go.RowKit Go.Maps
set_option linter.unusedVariables false
set_option linter.unusedSimpArgs false

def OpRel (l : List Loss) (b4 n : Nat) (W9 : World) (i : Value) (wr : World) : Prop :=
  ∃ k c : Nat, k ≤ n ∧ i = .int .i64 k ∧ c ≤ k ∧ TMap KLo (fun b : Bool => Value.bool b) wr b4 (fun y => if y ∈ l.take k then some true else none) c ∧ W9.grownBy wr (some b4)
def OpenAns (x : Farm) (w : World) (e : Ending) (w' : World) : Prop :=
  ∃ (X : FX) (rv ov : Value), e = .returned (.pointer (some ⟨X.f, 0, none⟩)) ∧ X.x = x ∧ X.F = fpOf x (ordOf X.S X.N) ∧ Crit (gOf x.works.l) (szOf x.works.l) X.N (gt X.S) ∧ FA X KLo rv ov p0 w w'
set_option maxRecDepth 100000 in
set_option maxHeartbeats 8000000 in
theorem open_any (x : Farm) (w : World) (hx : RFarm.ok w x) (hok : FarmOk x) :
    Calls Tryz.prog 31 #[.agg #[.slice x.workers.A x.workers.n x.workers.cap, .slice x.works.A x.works.n x.works.cap, .slice x.lost.A x.lost.n x.lost.cap, .int .i64 x.tries, .bool x.doubles]] w (OpenAns x w) := by
  obtain ⟨hx0, hx1, hx2, hx3, hx4⟩ := hx
  have hN : x.works.l.length = x.works.n := hx1.1.1
  have hN2 : x.works.n ≤ 200 := by have := hok.wo.len; omega
  obtain ⟨W1, hW1⟩ : ∃ Y, w.alloc (.cells #[.slice x.workers.A x.workers.n x.workers.cap, .slice x.works.A x.works.n x.works.cap, .slice x.lost.A x.lost.n x.lost.cap, .int .i64 x.tries, .bool x.doubles] 26) = Y := ⟨_, rfl⟩
  obtain ⟨xb, hxb⟩ : ∃ b, w.heap.size = b := ⟨_, rfl⟩
  have hba : Below w.heap.size w W1 := by rw [← hW1]; exact (Below.refl _ _).alloc (Nat.le_refl _) _
  have c0 : W1.cell? ⟨xb, 0, none⟩ = some (.slice x.workers.A x.workers.n x.workers.cap) := by rw [← hW1, ← hxb]; exact cell_new _ _ _ 0
  have c1 : W1.cell? ⟨xb, 1, none⟩ = some (.slice x.works.A x.works.n x.works.cap) := by rw [← hW1, ← hxb]; exact cell_new _ _ _ 1
  have c2 : W1.cell? ⟨xb, 2, none⟩ = some (.slice x.lost.A x.lost.n x.lost.cap) := by rw [← hW1, ← hxb]; exact cell_new _ _ _ 2
  have c3 : W1.cell? ⟨xb, 3, none⟩ = some (.int .i64 x.tries) := by rw [← hW1, ← hxb]; exact cell_new _ _ _ 3
  have c4 : W1.cell? ⟨xb, 4, none⟩ = some (.bool x.doubles) := by rw [← hW1, ← hxb]; exact cell_new _ _ _ 4
  obtain ⟨N, hNe⟩ : ∃ n, x.works.n = n := ⟨_, rfl⟩
  obtain ⟨Z, hZ⟩ : ∃ Z, OpenAns x w = Z := ⟨_, rfl⟩
  rw [hZ]
  have hlt : xb < W1.heap.size := cell?_lt c0
  have hS0 : (fun w' : World => w'.cell? ⟨xb, 0, none⟩ = some (.slice x.workers.A x.workers.n x.workers.cap) ∧ w'.cell? ⟨xb, 1, none⟩ = some (.slice x.works.A N x.works.cap) ∧ w'.cell? ⟨xb, 2, none⟩ = some (.slice x.lost.A x.lost.n x.lost.cap) ∧ w'.cell? ⟨xb, 3, none⟩ = some (.int .i64 x.tries) ∧ w'.cell? ⟨xb, 4, none⟩ = some (.bool x.doubles)) W1 := ⟨c0, by rw [← hNe]; exact c1, c2, c3, c4⟩
  have hZH := Lib.hid hZ
  clear hZ
  have hx0H := Lib.hid hx0
  clear hx0
  have hx1H := Lib.hid hx1
  clear hx1
  have hx2H := Lib.hid hx2
  clear hx2
  have hx3H := Lib.hid hx3
  clear hx3
  have hx4H := Lib.hid hx4
  clear hx4
  have hokH := Lib.hid hok
  clear hok
  have hNH := Lib.hid hN
  clear hN
  have hN2H := Lib.hid hN2
  clear hN2
  have hW1H := Lib.hid hW1
  clear hW1
  have hxbH := Lib.hid hxb
  clear hxb
  have hbaH := Lib.hid hba
  clear hba
  have hltH := Lib.hid hlt
  clear hlt
  have hS0H := Lib.hid hS0
  clear hS0
  have hNeH := Lib.hid hNe
  clear hNe
  go_enter Tryz.func31, Tryz.ntmps31
  go_wp2_with fail
  rw [hW1H.out, hxbH.out, hNeH.out]
  clear c0 c1 c2 c3 c4
  refine wp_region_held_drew (S := fun w' : World => w'.cell? ⟨xb, 0, none⟩ = some (.slice x.workers.A x.workers.n x.workers.cap) ∧ w'.cell? ⟨xb, 1, none⟩ = some (.slice x.works.A N x.works.cap) ∧ w'.cell? ⟨xb, 2, none⟩ = some (.slice x.lost.A x.lost.n x.lost.cap) ∧ w'.cell? ⟨xb, 3, none⟩ = some (.int .i64 x.tries) ∧ w'.cell? ⟨xb, 4, none⟩ = some (.bool x.doubles)) (by kernel_rfl) hS0H.out (fun hHeld => ?_)
  refine tkH (i := 0) (d := some 10) (v := ?_) (hy := Or.inl ⟨by rfl, ?_⟩) (h := ?_)
  rotate_left
  · (intro w hSw; (try dsimp only at hSw); go_simp; (try with_reducible rfl))
  (try simp only [Act.put, tkA, tkB, tkC])
  refine tkH (i := 1) (d := some 11) (v := ?_) (hy := Or.inl ⟨by rfl, ?_⟩) (h := ?_)
  rotate_left
  · (intro w hSw; (try dsimp only at hSw); go_simp; (try with_reducible rfl))
  (try simp only [Act.put, tkA, tkB, tkC])
  refine tkH (i := 2) (d := some 12) (v := ?_) (hy := Or.inl ⟨by rfl, ?_⟩) (h := ?_)
  rotate_left
  · (intro w hSw; (try dsimp only at hSw); go_simp; (try with_reducible rfl))
  (try simp only [Act.put, tkA, tkB, tkC])
  refine tkH (i := 5) (d := some 15) (v := ?_) (hy := Or.inl ⟨by rfl, ?_⟩) (h := ?_)
  rotate_left
  · (intro w hSw; (try dsimp only at hSw); go_simp; (try with_reducible rfl))
  (try simp only [Act.put, tkA, tkB, tkC])
  refine tkH (i := 7) (d := some 17) (v := ?_) (hy := Or.inl ⟨by rfl, ?_⟩) (h := ?_)
  rotate_left
  · (intro w hSw; (try dsimp only at hSw); go_simp; (try with_reducible rfl))
  (try simp only [Act.put, tkA, tkB, tkC])
  refine tkH (i := 9) (d := some 19) (v := ?_) (hy := Or.inl ⟨by rfl, ?_⟩) (h := ?_)
  rotate_left
  · (intro w hSw; (try dsimp only at hSw); go_simp; (try with_reducible rfl))
  (try simp only [Act.put, tkA, tkB, tkC])
  refine tkH (i := 11) (d := some 21) (v := ?_) (hy := Or.inl ⟨by rfl, ?_⟩) (h := ?_)
  rotate_left
  · (intro w hSw; (try dsimp only at hSw); go_simp; (try with_reducible rfl))
  (try simp only [Act.put, tkA, tkB, tkC])
  have hkS : ∀ W W' : World, Below W.heap.size W W' → (W.cell? ⟨xb, 0, none⟩ = some (.slice x.workers.A x.workers.n x.workers.cap) ∧ W.cell? ⟨xb, 1, none⟩ = some (.slice x.works.A N x.works.cap) ∧ W.cell? ⟨xb, 2, none⟩ = some (.slice x.lost.A x.lost.n x.lost.cap) ∧ W.cell? ⟨xb, 3, none⟩ = some (.int .i64 x.tries) ∧ W.cell? ⟨xb, 4, none⟩ = some (.bool x.doubles)) →
      (W'.cell? ⟨xb, 0, none⟩ = some (.slice x.workers.A x.workers.n x.workers.cap) ∧ W'.cell? ⟨xb, 1, none⟩ = some (.slice x.works.A N x.works.cap) ∧ W'.cell? ⟨xb, 2, none⟩ = some (.slice x.lost.A x.lost.n x.lost.cap) ∧ W'.cell? ⟨xb, 3, none⟩ = some (.int .i64 x.tries) ∧ W'.cell? ⟨xb, 4, none⟩ = some (.bool x.doubles)) :=
    fun W W' hb h => ⟨keepC hb h.1, keepC hb h.2.1, keepC hb h.2.2.1, keepC hb h.2.2.2.1, keepC hb h.2.2.2.2⟩
  change wpAnyH _ _ _ _ _ 9 (L6b false false false false false false) _ _
  refine pool6a (τ := List Int) N (PJ x xb N w) _ rfl ?hR [] _ ?hJ hHeld ?H0 ?h3 ?h4 ?h6 ?h8 ?h10 ?h12
  case hR => intro b3 b4 b6 b8 b10 b12; cases b3 <;> cases b4 <;> cases b6 <;> cases b8 <;> cases b10 <;> cases b12 <;> kernel_rfl
  case hJ => exact ⟨hbaH.out.trans (Below.refl _ _).drew, hltH.out, (fun k b e => by cases e), (fun i j b e => by cases e), (fun b e => by cases e), (fun b e => by cases e), (fun b e => by cases e), (fun b e => by cases e), (fun b e => by cases e), fun b e => by cases e⟩
  case H0 =>
    rintro o t wr ⟨e3, e4, e6, e8, e10, e12⟩ hJ hS
    obtain ⟨b3, g3⟩ := Option.isSome_iff_exists.1 e3
    obtain ⟨b4, g4⟩ := Option.isSome_iff_exists.1 e4
    obtain ⟨b6, g6⟩ := Option.isSome_iff_exists.1 e6
    obtain ⟨b8, g8⟩ := Option.isSome_iff_exists.1 e8
    obtain ⟨b10, g10⟩ := Option.isSome_iff_exists.1 e10
    obtain ⟨b12, g12⟩ := Option.isSome_iff_exists.1 e12
    simp only [putAll, g3, g4, g6, g8, g10, g12, pvS, pvM, Act.put, List.setIfInBounds_toArray, List.set_cons_zero, List.set_cons_succ]
    have hJH := Lib.hid hJ
    clear hJ
    have hkSH := Lib.hid hkS
    clear hkS
    refine wpAnyH_ready (rs := [13]) (by kernel_rfl) (by simp) ?_
    refine AllReadyH.cons (i := 13) rfl (fun K hK => ?_) AllReadyH.nil
    go_simp
    refine hK.out _ _ hS (fun hHeld => ?_)
    clear hK K
    (try simp only [Act.put, List.setIfInBounds_toArray, List.set_cons_zero, List.set_cons_succ])
    refine wpAnyH_ready (rs := [14]) (by kernel_rfl) (by simp) ?_
    refine AllReadyH.cons (i := 14) rfl (fun K hK => ?_) AllReadyH.nil
    go_simp
    refine hK.out _ _ (hkSH.out _ _ ((Below.refl _ _).alloc (Nat.le_refl _) _) hHeld) (fun hHeld => ?_)
    clear hK K
    (try simp only [Act.put, List.setIfInBounds_toArray, List.set_cons_zero, List.set_cons_succ])
    refine wpAnyH_ready (rs := [15]) (by kernel_rfl) (by simp) ?_
    refine AllReadyH.cons (i := 15) rfl (fun K hK => ?_) AllReadyH.nil
    go_simp
    refine hK.out _ _ hHeld (fun hHeld => ?_)
    clear hK K
    (try simp only [Act.put, List.setIfInBounds_toArray, List.set_cons_zero, List.set_cons_succ])
    refine wpAnyH_done (by kernel_rfl) ?_ _
    have hJ := hJH.out
    have hnw : x.works.n = N := hNeH.out
    obtain ⟨W9, hW9⟩ : ∃ Y, wr.alloc (.cells (FX.cells (fxOf x t N w.heap.size wr.heap.size b3 b4 b6 b8 b10 b12 0) 0 (.slice none 0 0) (.slice none 0 0)).toArray 61) = Y := ⟨_, rfl⟩
    have hb9 : Below wr.heap.size wr W9 := by rw [← hW9]; exact (Below.refl _ _).alloc (Nat.le_refl _) _
    have hS9 := hkSH.out _ _ hb9 hS
    have hend := fun (c : Nat) (W : World) (hg : W9.grownBy W (some b4)) (hm : TMap KLo (fun b : Bool => Value.bool b) W b4 (fun l => if l ∈ x.lost.l then some true else none) c) => open_end (xb := xb) (w0 := w) (wr := wr) (W := W) (c := c) hJ hxbH.out hnw g3 g4 g6 g8 g10 g12 hW9 hg hm
    have hblk := (blk_new wr (FX.cells (fxOf x t N w.heap.size wr.heap.size b3 b4 b6 b8 b10 b12 0) 0 (.slice none 0 0) (.slice none 0 0)) 61 6 _ rfl).1
    have hm0 := ((hJ.k4 b4 g4).below hb9 (hJ.ge 4 b4 g4).2)
    have hbW9 := hJ.bel.trans (hb9.mono hJ.bel.size)
    have l4 := hJ.ge 4 b4 g4
    have hC9 := (hJ.k3 b3 g3).2
    have hsz9 : wr.heap.size < W9.heap.size := by rw [← hW9]; simp
    rw [hW9] at hblk
    simp only [FX.cells, fxOf, FX.N, hnw] at hW9 hblk
    rw [hW9]
    obtain ⟨f, hf⟩ : ∃ f, wr.heap.size = f := ⟨_, rfl⟩
    rw [hf] at hblk l4 hsz9 ⊢
    have cx2 := hS9.2.2.1
    have hlon : x.lost.n ≤ 200 := by have := hokH.out.lon; have := hx2H.out.1.1; omega
    have hxlt := hJ.xlt
    rw [hf] at hxlt
    have hst : OpRel x.lost.l b4 x.lost.n W9 (.int .i64 0) W9 := ⟨0, 0, Nat.zero_le _, rfl, Nat.le_refl _, by simpa using hm0, World.grownBy.refl _ _⟩
    clear hHeld hS hS9 hkSH hm0 hJ hJH hb9 g3 g4 g6 g8 g10 g12 e3 e4 e6 e8 e10 e12
    obtain ⟨A, hA⟩ : ∃ A, x.lost.A = A := ⟨_, rfl⟩
    obtain ⟨ln, hln⟩ : ∃ n, x.lost.n = n := ⟨_, rfl⟩
    rw [hA, hln] at cx2
    rw [hln] at hst hlon
    have hendH := Lib.hid hend
    clear hend
    have hblkH := Lib.hid hblk
    clear hblk
    have hbW9H := Lib.hid hbW9
    clear hbW9
    have l4H := Lib.hid l4
    clear l4
    have hC9H := Lib.hid hC9
    clear hC9
    have hsz9H := Lib.hid hsz9
    clear hsz9
    have hW9H := Lib.hid hW9
    clear hW9
    have hfH := Lib.hid hf
    clear hf
    have hstH := Lib.hid hst
    clear hst
    have hxltH := Lib.hid hxlt
    clear hxlt
    have hAH := Lib.hid hA
    clear hA
    have hlnH := Lib.hid hln
    clear hln
    have hlonH := Lib.hid hlon
    clear hlon
    have hnwH := Lib.hid hnw
    clear hnw
    go_wp2_with fail
    go_loopw [28] (fun i w5 => OpRel x.lost.l b4 ln W9 i w5) (fun i _ => ln - (intOf i).toNat)
    case atStart => exact hstH.out
    case round =>
      clear hstH
      obtain ⟨k, c, hk, rfl, hc, hm, hg⟩ := hrel
      have hlon := hlonH.out
      have hgs := hg.size
      by_cases hlt : k < ln
      · have hbel := hbW9H.out.grown hg hbW9H.out.size (fun b hb => by injection hb with hb; have := l4H.out; have := hxbH.out; omega)
        have hsl := hx2H.out.1.below hbel
        rw [hAH.out, hlnH.out] at hsl
        obtain ⟨bl, ol, hA9, _⟩ := hsl.2.1 (by omega)
        subst hA9
        obtain ⟨y, hy⟩ : ∃ y, x.lost.l[k]? = some y := ⟨x.lost.l[k]'(by have := hsl.1; omega), List.getElem?_eq_getElem _⟩
        obtain ⟨d0, d1⟩ := cells_Loss hsl hy
        have hym := List.mem_of_getElem? hy
        have hyl := hokH.out.lo y hym
        have hgood : KLo.good y := ⟨(hsl.2.2 y hym).1, by simp [Lit.wf, IntKind.min, IntKind.max, IntKind.signed, IntKind.bits]; omega⟩
        have f6 := hg.cell hblkH.out (by simp; have := l4H.out; omega)
        obtain ⟨nm, hnm⟩ : ∃ n, y.worker = n := ⟨_, rfl⟩
        obtain ⟨mt, hmt⟩ : ∃ n, y.at_ = n := ⟨_, rfl⟩
        rw [hnm] at d0
        rw [hmt] at d1
        have hye : y = ⟨nm, mt⟩ := by rw [← hnm, ← hmt]
        have hba := (Below.refl wr.heap.size wr).alloc (Nat.le_refl _) (.cells #[.string nm, .int .i64 mt] 71)
        have hma := hm.below hba hm.lt
        have f6a := keepC hba f6
        have hga : W9.grownBy (wr.alloc (.cells #[.string nm, .int .i64 mt] 71)) (some b4) := grown_trans hg ⟨(below_g hba).os, (below_g hba).tape, (below_g hba).output, (below_g hba).size, fun q hq _ => (below_g hba).block q hq (by simp)⟩
        have hmN : ∀ q, TMap KLo (fun b : Bool => Value.bool b) ((wr.alloc (.cells #[.string nm, .int .i64 mt] 71)).drewN q) b4 (fun y => if y ∈ x.lost.l.take k then some true else none) c := fun q => hma.kept (row := none) ⟨rfl, rfl, rfl, Nat.le_refl _, fun _ _ _ => rfl⟩ (by simp)
        have R : ∀ q w6, TMap KLo (fun b : Bool => Value.bool b) w6 b4 (upd (fun y => if y ∈ x.lost.l.take k then some true else none) (⟨nm, mt⟩ : Loss) true) (if ((fun y => if y ∈ x.lost.l.take k then some true else none) (⟨nm, mt⟩ : Loss)).isSome then c else c + 1) → ((wr.alloc (.cells #[.string nm, .int .i64 mt] 71)).drewN q).grownBy w6 (some b4) → OpRel x.lost.l b4 ln W9 (.int .i64 ((k : Int) + 1)) w6 := by
          intro q w6 h1 h2
          refine ⟨k + 1, _, hlt, by go_num, ?_, h1.congr (fun z _ => ?_), grown_trans (grown_drewN hga q) h2⟩
          · have := ite_le_succ ((((fun y => if y ∈ x.lost.l.take k then some true else none) (⟨nm, mt⟩ : Loss)).isSome) = true) c
            omega
          · rw [← hye]
            unfold upd
            rw [List.take_add_one, hy, Option.toList_some]
            by_cases hz : z = y
            · subst hz; simp
            · simp [hz]
        have hcM : c < maxLen := by unfold maxLen; omega
        rw [hye] at hgood
        have hmlt := hm.lt
        clear hm hg hga hma hba hsl hbel f6
        have hyH := Lib.hid hy
        clear hy
        have RH := Lib.hid R
        clear R
        have hnmH := Lib.hid hnm
        clear hnm
        have hmtH := Lib.hid hmt
        clear hmt
        have hmNH := Lib.hid hmN
        clear hmN
        have hgoodH := Lib.hid hgood
        clear hgood
        have hyeH := Lib.hid hye
        clear hye
        have hymH := Lib.hid hym
        clear hym
        have hylH := Lib.hid hyl
        clear hyl
        go_wp2_with fail
        obtain ⟨Wa, hWa⟩ : ∃ Y, wr.alloc (.cells #[.string nm, .int .i64 mt] 71) = Y := ⟨_, rfl⟩
        have hmD := hmNH.out 1
        have RD := RH.out 1
        have ga := cell_new wr #[.string nm, .int .i64 mt] 71 0
        have gb := cell_new wr #[.string nm, .int .i64 mt] 71 1
        rw [hWa] at ga gb f6a hmD RD ⊢
        change TMap KLo _ Wa.drew _ _ _ at hmD
        change ∀ w6, _ → Wa.drew.grownBy w6 _ → _ at RD
        obtain ⟨w6, hrun, hm6, ht6⟩ := hmD.store (t := 57) (e := 4) Tryz.underlying57 injBool hcM hgoodH.out true
        rw [show KLo.val (⟨nm, mt⟩ : Loss) = .agg #[.string nm, .int .i64 mt] from rfl] at hrun
        have R6 := RD w6 hm6 (World.mapTurned.grown ht6)
        have hq0 : (fun w' : World => w'.cell? ⟨f, 6, none⟩ = some (.map (some b4)) ∧ w'.cell? ⟨wr.heap.size, 0, none⟩ = some (.string nm) ∧ w'.cell? ⟨wr.heap.size, 1, none⟩ = some (.int .i64 mt)) Wa := ⟨f6a, ga, gb⟩
        have hg6 : Wa.drew.grownBy w6 (some b4) := World.mapTurned.grown ht6
        have hq6 : w6.cell? ⟨f, 6, none⟩ = some (.map (some b4)) ∧ w6.cell? ⟨wr.heap.size, 0, none⟩ = some (.string nm) ∧ w6.cell? ⟨wr.heap.size, 1, none⟩ = some (.int .i64 mt) := ⟨hg6.cell f6a (by simp; have := l4H.out; omega), hg6.cell ga (by simp; omega), hg6.cell gb (by simp; omega)⟩
        clear hmD RD hm6 ht6 hg6 ga gb f6a
        have R6H := Lib.hid R6
        clear R6
        refine wp_region_held_drew (S := fun w' : World => w'.cell? ⟨f, 6, none⟩ = some (.map (some b4)) ∧ w'.cell? ⟨wr.heap.size, 0, none⟩ = some (.string nm) ∧ w'.cell? ⟨wr.heap.size, 1, none⟩ = some (.int .i64 mt)) (by kernel_rfl) hq0 (fun hHeld => ?_)
        refine tkH (i := 0) (d := some 32) (v := ?_) (hy := Or.inl ⟨by rfl, ?_⟩) (h := ?_)
        rotate_left
        · (intro w hSw; (try dsimp only at hSw); go_simp; (try with_reducible rfl))
        (try simp only [Act.put, tkA, tkB, tkC])
        refine tkH (i := 1) (d := some 33) (v := ?_) (hy := Or.inl ⟨by rfl, ?_⟩) (h := ?_)
        rotate_left
        · (intro w hSw; (try dsimp only at hSw); go_simp; (try with_reducible rfl))
        (try simp only [Act.put, tkA, tkB, tkC])
        refine tkH (i := 2) (d := some 34) (v := ?_) (hy := Or.inl ⟨by rfl, ?_⟩) (h := ?_)
        rotate_left
        · (intro w hSw; (try dsimp only at hSw); go_simp; (try with_reducible rfl))
        (try simp only [Act.put, tkA, tkB, tkC])
        refine tkH (i := 3) (d := some 35) (v := ?_) (hy := Or.inl ⟨by rfl, ?_⟩) (h := ?_)
        rotate_left
        · (intro w hSw; (try dsimp only at hSw); go_simp; (try with_reducible rfl))
        (try simp only [Act.put, tkA, tkB, tkC])
        refine tkH (i := 4) (d := some 36) (v := ?_) (hy := Or.inl ⟨by rfl, ?_⟩) (h := ?_)
        rotate_left
        · (intro w hSw; (try dsimp only at hSw); go_simp; (try with_reducible rfl))
        (try simp only [Act.put, tkA, tkB, tkC])
        refine wpAnyH_ready (rs := [5]) (by kernel_rfl) (by simp) ?_
        refine AllReadyH.cons (i := 5) rfl (fun K hK => ?_) AllReadyH.nil
        go_simp
        (try simp only [hrun])
        refine hK.out _ _ hq6 (fun hHeld => ?_)
        clear hK K
        (try simp only [Act.put, List.setIfInBounds_toArray, List.set_cons_zero, List.set_cons_succ])
        refine wpAnyH_done (by kernel_rfl) ?_ _
        clear hHeld hq0 hq6 hrun
        go_wp2
        refine ⟨?rel, ?measure⟩
        case measure => (simp [intOf]; omega)
        case rel => first | exact R6H.out | exact ⟨rfl, R6H.out⟩ | ((try refine ⟨rfl, ?_⟩); (repeat apply Exists.intro); refine ⟨R6H.out, ?_⟩; ((repeat' apply And.intro) <;> rfl))
      · obtain rfl : k = ln := by omega
        have hm2 := hm.congr (f' := fun l => if l ∈ x.lost.l then some true else none) (fun z _ => by rw [List.take_of_length_le (by have := hx2H.out.1.1; have := hlnH.out; omega)])
        have R : Z (.returned (.pointer (some ⟨f, 0, none⟩))) wr := by
          rw [← hZH.out]
          refine ⟨_, _, _, ?_, rfl, ?_, ?_, hendH.out c wr hg hm2⟩
          · simp only [fxOf]; rw [hfH.out]
          · simp only [fxOf, FX.N, hnwH.out]
          · simp only [fxOf, FX.N, hnwH.out]; exact hC9H.out
        clear hm hm2 hg
        have RH := Lib.hid R
        clear R
        go_wp2
        exact RH.out
  case h3 =>
    intro o t wr ho hJ hS
    have hl := hx1H.out.1.below hJ.bel
    rw [hNeH.out] at hl
    have hcr := crit_any x.works.A N x.works.cap x.works.l wr hl hokH.out.wo
    refine ⟨_, rfl, fun K hK => ?_⟩
    have hKH := Lib.hid hK
    clear hK hl
    have hJH := Lib.hid hJ
    clear hJ
    have hSH := Lib.hid hS
    clear hS
    have hoH := Lib.hid ho
    clear ho
    have hkSH := Lib.hid hkS
    clear hkS
    simp only [putAll, Act.put, List.setIfInBounds_toArray, List.set_cons_zero, List.set_cons_succ]
    go_simp
    go_at_call 55
    refine hcr.mono ?_
    rintro e w2 ⟨B, Sx, rfl, q1, q2, _, q3, q4, q5⟩
    exact hKH.out.out B Sx w2 (hJH.out.more q5 hoH.out q3 q4 (fun h => absurd rfl h) (fun _ => ⟨q1, q2⟩) (fun e => absurd e (by decide)) (fun e => absurd e (by decide)) (fun e => by rcases e with e | e | e <;> exact absurd e (by decide))) (hkSH.out _ _ q5 hSH.out)
  case h4 =>
    intro o t wr ho hJ hS
    have hm := @run_makeMap Tryz.prog
    have hb7 := (Below.refl wr.heap.size wr).alloc (Nat.le_refl _) (.map #[] 0)
    have hS7 := hkS wr _ hb7 hS
    have hJ7 := hJ.more (t' := t) hb7 (k := 4) (b := wr.heap.size) ho (Nat.le_refl _) (by simp) (fun _ => rfl) (fun e => absurd e (by decide)) (fun _ => TMap.made _ _ _) (fun e => absurd e (by decide)) (fun e => by rcases e with e | e | e <;> exact absurd e (by decide))
    refine ⟨_, rfl, fun K hK => ?_⟩
    have hKH := Lib.hid hK
    clear hK hkS
    have hJH := Lib.hid hJ
    clear hJ
    have hSH := Lib.hid hS
    clear hS
    have hb7H := Lib.hid hb7
    clear hb7
    have hS7H := Lib.hid hS7
    clear hS7
    have hJ7H := Lib.hid hJ7
    clear hJ7
    have hoH := Lib.hid ho
    clear ho
    simp only [putAll, Act.put, List.setIfInBounds_toArray, List.set_cons_zero, List.set_cons_succ]
    go_simp
    exact hKH.out.out _ t _ hJ7H.out hS7H.out
  case h6 =>
    intro o t wr ho hJ hS
    have hm := run_makeB N (by have := hN2H.out; have := hNeH.out; omega)
    have hb7 := (Below.refl wr.heap.size wr).alloc (Nat.le_refl _) (.cells (madeB N) 4)
    have hS7 := hkS wr _ hb7 hS
    have hJ7 := hJ.more (t' := t) hb7 (k := 6) (b := wr.heap.size) ho (Nat.le_refl _) (by simp) (fun _ => rfl) (fun e => absurd e (by decide)) (fun e => absurd e (by decide)) (fun _ => BRow.made _ _) (fun e => by rcases e with e | e | e <;> exact absurd e (by decide))
    refine ⟨_, rfl, fun K hK => ?_⟩
    have hKH := Lib.hid hK
    clear hK hkS
    have hJH := Lib.hid hJ
    clear hJ
    have hSH := Lib.hid hS
    clear hS
    have hb7H := Lib.hid hb7
    clear hb7
    have hS7H := Lib.hid hS7
    clear hS7
    have hJ7H := Lib.hid hJ7
    clear hJ7
    have hoH := Lib.hid ho
    clear ho
    simp only [putAll, Act.put, List.setIfInBounds_toArray, List.set_cons_zero, List.set_cons_succ]
    go_simp
    exact hKH.out.out _ t _ hJ7H.out hS7H.out
  case h8 =>
    intro o t wr ho hJ hS
    have hm := run_makeInts N (by have := hN2H.out; have := hNeH.out; omega)
    have hb7 := (Below.refl wr.heap.size wr).alloc (Nat.le_refl _) (.cells (madeI N) 3)
    have hS7 := hkS wr _ hb7 hS
    have hJ7 := hJ.more (t' := t) hb7 (k := 8) (b := wr.heap.size) ho (Nat.le_refl _) (by simp) (fun _ => rfl) (fun e => absurd e (by decide)) (fun e => absurd e (by decide)) (fun e => absurd e (by decide)) (fun _ => irow_made _ _)
    refine ⟨_, rfl, fun K hK => ?_⟩
    have hKH := Lib.hid hK
    clear hK hkS
    have hJH := Lib.hid hJ
    clear hJ
    have hSH := Lib.hid hS
    clear hS
    have hb7H := Lib.hid hb7
    clear hb7
    have hS7H := Lib.hid hS7
    clear hS7
    have hJ7H := Lib.hid hJ7
    clear hJ7
    have hoH := Lib.hid ho
    clear ho
    simp only [putAll, Act.put, List.setIfInBounds_toArray, List.set_cons_zero, List.set_cons_succ]
    go_simp
    exact hKH.out.out _ t _ hJ7H.out hS7H.out
  case h10 =>
    intro o t wr ho hJ hS
    have hm := run_makeInts N (by have := hN2H.out; have := hNeH.out; omega)
    have hb7 := (Below.refl wr.heap.size wr).alloc (Nat.le_refl _) (.cells (madeI N) 3)
    have hS7 := hkS wr _ hb7 hS
    have hJ7 := hJ.more (t' := t) hb7 (k := 10) (b := wr.heap.size) ho (Nat.le_refl _) (by simp) (fun _ => rfl) (fun e => absurd e (by decide)) (fun e => absurd e (by decide)) (fun e => absurd e (by decide)) (fun _ => irow_made _ _)
    refine ⟨_, rfl, fun K hK => ?_⟩
    have hKH := Lib.hid hK
    clear hK hkS
    have hJH := Lib.hid hJ
    clear hJ
    have hSH := Lib.hid hS
    clear hS
    have hb7H := Lib.hid hb7
    clear hb7
    have hS7H := Lib.hid hS7
    clear hS7
    have hJ7H := Lib.hid hJ7
    clear hJ7
    have hoH := Lib.hid ho
    clear ho
    simp only [putAll, Act.put, List.setIfInBounds_toArray, List.set_cons_zero, List.set_cons_succ]
    go_simp
    exact hKH.out.out _ t _ hJ7H.out hS7H.out
  case h12 =>
    intro o t wr ho hJ hS
    have hm := run_makeInts N (by have := hN2H.out; have := hNeH.out; omega)
    have hb7 := (Below.refl wr.heap.size wr).alloc (Nat.le_refl _) (.cells (madeI N) 3)
    have hS7 := hkS wr _ hb7 hS
    have hJ7 := hJ.more (t' := t) hb7 (k := 12) (b := wr.heap.size) ho (Nat.le_refl _) (by simp) (fun _ => rfl) (fun e => absurd e (by decide)) (fun e => absurd e (by decide)) (fun e => absurd e (by decide)) (fun _ => irow_made _ _)
    refine ⟨_, rfl, fun K hK => ?_⟩
    have hKH := Lib.hid hK
    clear hK hkS
    have hJH := Lib.hid hJ
    clear hJ
    have hSH := Lib.hid hS
    clear hS
    have hb7H := Lib.hid hb7
    clear hb7
    have hS7H := Lib.hid hS7
    clear hS7
    have hJ7H := Lib.hid hJ7
    clear hJ7
    have hoH := Lib.hid ho
    clear ho
    simp only [putAll, Act.put, List.setIfInBounds_toArray, List.set_cons_zero, List.set_cons_succ]
    go_simp
    exact hKH.out.out _ t _ hJ7H.out hS7H.out
end Go.Proofs.YtbnkoefljcekbaaGreatDoor.C9

namespace Go.Proofs.YtbnkoefljcekbaaGreatDoor.C9
open Go.ChangeShapes Go.WideShapes Go.Deep Go.RowKit Go.Maps
set_option linter.unusedVariables false
set_option linter.unusedSimpArgs false

theorem insO_congr {f g : Nat → Int} {x : Nat} (hx : f x = g x) : ∀ {L : List Nat}, (∀ a ∈ L, f a = g a) → insO f x L = insO g x L ∧ ∀ a ∈ insO g x L, a = x ∨ a ∈ L
  | [], _ => ⟨rfl, fun a ha => by rw [insO, List.mem_singleton] at ha; exact .inl ha⟩
  | y :: L, h => by
    obtain ⟨e, m⟩ := insO_congr hx (L := L) (fun a ha => h a (List.mem_cons_of_mem _ ha))
    have hy := h y List.mem_cons_self
    unfold insO
    rw [hx, hy, e]
    refine ⟨rfl, fun a ha => ?_⟩
    split at ha
    · rcases List.mem_cons.1 ha with ha | ha
      · exact .inl ha
      · exact .inr ha
    · rcases List.mem_cons.1 ha with ha | ha
      · exact .inr (by rw [ha]; exact List.mem_cons_self)
      · rcases m a ha with ha | ha
        · exact .inl ha
        · exact .inr (List.mem_cons_of_mem _ ha)
theorem ordF_go {f g : Nat → Int} : ∀ (l A : List Nat), (∀ a ∈ l, f a = g a) → (∀ a ∈ A, f a = g a) → l.foldl (fun a x => insO f x a) A = l.foldl (fun a x => insO g x a) A
  | [], A, _, _ => rfl
  | x :: l, A, h1, h2 => by
    obtain ⟨e, m⟩ := insO_congr (h1 x List.mem_cons_self) h2
    rw [List.foldl_cons, List.foldl_cons, e]
    refine ordF_go l _ (fun a ha => h1 a (List.mem_cons_of_mem _ ha)) fun a ha => ?_
    rcases m a ha with rfl | ha
    · exact h1 _ List.mem_cons_self
    · exact h2 a ha
theorem ordOf_congr {S S' : List Int} {N : Nat} (h : ∀ j, j < N → gt S j = gt S' j) : ordOf S N = ordOf S' N := by
  unfold ordOf ordF
  refine ordF_go _ _ (fun a ha => ?_) (fun a ha => by cases ha)
  unfold fR
  rw [Int.toNat_natCast, h a (List.mem_range.1 ha)]
open Classical in
/-- the order of a farm's works: the longest ways first -/
noncomputable def orx (x : Farm) : List Nat := if h : ∃ S : List Int, Crit (gOf x.works.l) (szOf x.works.l) x.works.l.length (gt S) then ordOf h.choose x.works.l.length else []
theorem orx_eq {x : Farm} (h : WOk x.works.l) {S : List Int} (hC : Crit (gOf x.works.l) (szOf x.works.l) x.works.l.length (gt S)) : ordOf S x.works.l.length = orx x := by
  have hex : ∃ S : List Int, Crit (gOf x.works.l) (szOf x.works.l) x.works.l.length (gt S) := ⟨S, hC⟩
  unfold orx
  rw [dif_pos hex]
  exact ordOf_congr (h.uniq hC hex.choose_spec)
/-- what a farm asks -/
noncomputable def fpx (x : Farm) : FP := fpOf x (orx x)
theorem fpx_of {x : Farm} (h : FarmOk x) {S : List Int} (hC : Crit (gOf x.works.l) (szOf x.works.l) x.works.l.length (gt S)) : fpOf x (ordOf S x.works.l.length) = fpx x := by
  unfold fpx
  rw [orx_eq h.wo hC]
theorem fpx_fine {x : Farm} (h : FarmOk x) {S : List Int} (hC : Crit (gOf x.works.l) (szOf x.works.l) x.works.l.length (gt S)) : FFine (fpx x) ∧ ∀ i, i < (fpx x).nX → i ∈ (fpx x).order := by
  rw [← fpx_of h hC]
  exact fine_of h rfl
theorem endsF_le {y : Worker} {size t : Int} (h : (endsF y size t).2 = true) : (endsF y size t).1 ≤ y.to_ := by
  unfold endsF at *
  by_cases h1 : t < y.from_
  · rw [if_pos h1] at h; cases h
  · rw [if_neg h1] at h ⊢
    by_cases h2 : y.to_ < endsGo (secsF y size) t y.stands.l
    · rw [if_pos h2] at h; cases h
    · rw [if_neg h2]
      show endsGo (secsF y size) t y.stands.l ≤ y.to_
      omega
theorem secsF_le {y : Worker} {sz : Int} (h1 : 1 ≤ sz) (h2 : 1 ≤ y.speed) : secsF y sz ≤ sz := by
  unfold secsF
  refine Int.ediv_le_of_le_mul (by omega) ?_
  have := Int.mul_nonneg (a := sz - 1) (b := y.speed - 1) (by omega) (by omega)
  rw [Int.sub_mul, Int.mul_sub] at this
  omega
theorem bnd_of {x : Farm} (h : FarmOk x) (o : List Nat) : Bnd (fpOf x o) 1000000000 1000000 := by
  refine ⟨fun k hk => ?_, fun t ht => ?_, fun k i hk hi => ?_, fun k i t u hk hi e => ?_, by decide⟩
  · have hk' : k < x.workers.l.length := hk
    show (wkOf x k).from_ ≤ _ ∧ (wkOf x k).to_ ≤ _
    rw [wkOf_get (List.getElem?_eq_getElem hk')]
    have := worker_times (h.wk _ (List.getElem_mem hk'))
    exact ⟨this.2.1, this.2.2.2⟩
  · obtain ⟨l, hl, rfl⟩ := List.mem_map.1 ht
    exact (h.lo l hl).2.2
  · have hk' : k < x.workers.l.length := hk
    have hi' : i < x.works.l.length := hi
    show secsF (wkOf x k) (woOf x i).size ≤ _
    rw [wkOf_get (List.getElem?_eq_getElem hk'), woOf_get (List.getElem?_eq_getElem hi')]
    have a := (worker_nums (h.wk _ (List.getElem_mem hk'))).2
    have b := h.wo.size _ (List.getElem_mem hi')
    have := secsF_le b.1 a
    omega
  · have hk' : k < x.workers.l.length := hk
    simp only [fpOf] at e
    by_cases h2 : (endsF (wkOf x k) (woOf x i).size t).2 = true
    · rw [if_pos h2] at e
      injection e with e
      have h3 := endsF_le h2
      rw [e, wkOf_get (List.getElem?_eq_getElem hk')] at h3
      have := worker_times (h.wk _ (List.getElem_mem hk'))
      omega
    · rw [if_neg h2] at e; cases e
theorem farm_ends {x : Farm} (h : FarmOk x) {S : List Int} (hC : Crit (gOf x.works.l) (szOf x.works.l) x.works.l.length (gt S)) : ∃ q, QTrace (fpx x) q0 q :=
  q_ends (fpx_fine h hC).1 (bnd_of h _)
end Go.Proofs.YtbnkoefljcekbaaGreatDoor.C9

namespace Go.Proofs.YtbnkoefljcekbaaGreatDoor.C9
open Go.RowKit
set_option linter.unusedVariables false

def runsErr : Option Run → List Run → Int
  | _, [] => 0
  | p, r :: s => if wordB r.id_ = true ∧ wordB r.worker = true then (if inR 0 1000000000 r.from_ = true ∧ inR 0 1000000000 r.to_ = true then (if r.to_ < r.from_ then 8 else if inR 1 3 r.end_ = true then (if p.map (fun q => runLt q r) = some false then 8 else runsErr (some r) s) else 4) else 1) else 5
def runsF (l : List Run) : Int := if l.length ≤ 4000 then runsErr none l else 2
end Go.Proofs.YtbnkoefljcekbaaGreatDoor.C9

namespace Go.Proofs.YtbnkoefljcekbaaGreatDoor.C9
open Go.ChangeShapes Go.WideShapes Go.Deep Go.RowKit Go.Maps
set_option linter.unusedVariables false
set_option linter.unusedSimpArgs false

theorem rise_inj {α : Type} {f : α → ByteArray} {l : List α} (hr : l.Pairwise fun a b => cmpS (f a) (f b) = -1) {i j : Nat} {a b : α} (hi : l[i]? = some a) (hj : l[j]? = some b) (e : f a = f b) : i = j := by
  obtain ⟨hi1, hi2⟩ := List.getElem?_eq_some_iff.1 hi
  obtain ⟨hj1, hj2⟩ := List.getElem?_eq_some_iff.1 hj
  have hp := List.pairwise_iff_getElem.1 hr
  have z : ∀ s : ByteArray, cmpS s s = 0 := fun s => (cmpS_zero s s).2 rfl
  rcases Nat.lt_trichotomy i j with h | h | h
  · have := hp _ _ hi1 hj1 h
    rw [hi2, hj2, e, z] at this; cases this
  · exact h
  · have := hp _ _ hj1 hi1 h
    rw [hi2, hj2, e, z] at this; cases this
theorem idInj {x : Farm} (h : FarmOk x) {i j : Nat} (hi : i < x.works.l.length) (hj : j < x.works.l.length) (e : (woOf x i).id_ = (woOf x j).id_) : i = j := by
  rw [woOf_get (List.getElem?_eq_getElem hi), woOf_get (List.getElem?_eq_getElem hj)] at e
  exact rise_inj (f := Work.id_) h.wo.rise (List.getElem?_eq_getElem hi) (List.getElem?_eq_getElem hj) e
theorem nmInj {x : Farm} (h : FarmOk x) {i j : Nat} (hi : i < x.workers.l.length) (hj : j < x.workers.l.length) (e : (wkOf x i).name = (wkOf x j).name) : i = j := by
  rw [wkOf_get (List.getElem?_eq_getElem hi), wkOf_get (List.getElem?_eq_getElem hj)] at e
  exact rise_inj (f := Worker.name) h.wkr (List.getElem?_eq_getElem hi) (List.getElem?_eq_getElem hj) e
theorem worksErr_word : ∀ (l : List Work) (p : Option ByteArray), worksErr p l = 0 → ∀ x ∈ l, wordB x.id_ = true
  | [], _, _, x, hx => by cases hx
  | y :: l, p, h, x, hx => by
    unfold worksErr at h
    by_cases h1 : workF y = 0
    · rw [if_pos h1] at h
      by_cases h2 : p.map (sle y.id_ ·) = some true
      · rw [if_pos h2] at h; exact absurd h (by decide)
      · rw [if_neg h2] at h
        rcases List.mem_cons.1 hx with rfl | hx
        · unfold workF at h1
          by_cases h3 : wordB x.id_ = true
          · exact h3
          · rw [if_neg h3] at h1; exact absurd h1 (by decide)
        · exact worksErr_word l _ h x hx
    · rw [if_neg h1] at h; exact absurd h h1
theorem farm_words {x : Farm} (h : farmF x = 0) : (∀ w ∈ x.workers.l, wordB w.name = true) ∧ ∀ w ∈ x.works.l, wordB w.id_ = true := by
  have hok := farmOk_of h
  refine ⟨fun w hw => ?_, ?_⟩
  · have := hok.wk w hw
    unfold workerF at this
    by_cases h3 : wordB w.name = true
    · exact h3
    · rw [if_neg h3] at this; exact absurd this (by decide)
  · unfold farmF at h
    by_cases h1 : workersF x.workers.l = 0
    · rw [if_pos h1] at h
      by_cases h2 : worksF x.works.l = 0
      · unfold worksF at h2
        by_cases h3 : x.works.l.length ≤ 200
        · rw [if_pos h3] at h2
          by_cases h4 : worksErr none x.works.l = 0
          · exact worksErr_word _ _ h4
          · rw [if_neg h4] at h2; exact absurd h2 h4
        · rw [if_neg h3] at h2; exact absurd h2 (by decide)
      · rw [if_neg h2] at h; exact absurd h h2
    · rw [if_neg h1] at h; exact absurd h h1
theorem runLt_of {a b : Run} (h : runCmp a b ≤ 0) (hne : ¬ (a.from_ = b.from_ ∧ a.id_ = b.id_ ∧ a.worker = b.worker)) : runLt a b = true := by
  rw [runCmp_eq] at h
  unfold runLt
  by_cases h1 : a.from_ = b.from_
  · rw [if_pos h1] at h ⊢
    by_cases h2 : a.id_ = b.id_
    · rw [if_pos h2] at h ⊢
      rw [ltS_cmp]
      have := cmpS_range a.worker b.worker
      have h3 : cmpS a.worker b.worker ≠ 0 := fun e => hne ⟨h1, h2, (cmpS_zero _ _).1 e⟩
      exact decide_eq_true (by omega)
    · rw [if_neg h2] at h ⊢
      rw [ltS_cmp]
      have := cmpS_range a.id_ b.id_
      have h3 : cmpS a.id_ b.id_ ≠ 0 := fun e => h2 ((cmpS_zero _ _).1 e)
      exact decide_eq_true (by omega)
  · rw [if_neg h1] at h ⊢
    by_cases h2 : a.from_ < b.from_
    · exact decide_eq_true h2
    · rw [if_neg h2] at h; omega
theorem runsErr_zero : ∀ (l : List Run) (p : Option Run), (∀ r ∈ l, (wordB r.id_ = true ∧ wordB r.worker = true) ∧ (inR 0 1000000000 r.from_ = true ∧ inR 0 1000000000 r.to_ = true) ∧ ¬ r.to_ < r.from_ ∧ inR 1 3 r.end_ = true) → (l.Pairwise fun a b => runLt a b = true) → (∀ q, p = some q → ∀ r ∈ l, runLt q r = true) → runsErr p l = 0
  | [], _, _, _, _ => rfl
  | r :: l, p, h1, h2, h3 => by
    obtain ⟨a, b, c, d⟩ := h1 r List.mem_cons_self
    obtain ⟨e, f⟩ := List.pairwise_cons.1 h2
    unfold runsErr
    rw [if_pos a, if_pos b, if_neg c, if_pos d, if_neg]
    · exact runsErr_zero l _ (fun s hs => h1 s (List.mem_cons_of_mem _ hs)) f (fun q hq s hs => by injection hq with hq; subst hq; exact e s hs)
    · cases p with
      | none => simp
      | some q => rw [Option.map_some, h3 q rfl r List.mem_cons_self]; simp
theorem len_runs {F : FP} (hF : FFine F) {q : QS} (h : Inv F q.at_ (q.at_ + 1) q) : ((q.runs.length : Nat) : Int) ≤ F.nX * (F.tries + 1) := by
  have ht := hF.tri
  have := cnt_len (m := (F.tries + 1).toNat) F.nX q.runs (fun r hr => (h.named r hr).2) (fun k => by have := h.cnt k; omega)
  have h2 : ((F.nX * (F.tries + 1).toNat : Nat) : Int) = F.nX * (F.tries + 1) := by rw [Int.natCast_mul, Int.toNat_of_nonneg (by omega)]
  omega
/-- what the runs of a right farm are -/
structure Done (x : Farm) (q : QS) (L : List RR) : Prop where
  ok : farmF x = 0
  fin : FinQ (fpx x) q
  fine : FFine (fpx x)
  perm : L.Perm q.runs
  sort : L.Pairwise fun a b => runCmp (toRun x a) (toRun x b) ≤ 0
section
variable {x : Farm} {q : QS} {L : List RR}
theorem Done.mem (h : Done x q L) {r : RR} (hr : r ∈ L) : r ∈ q.runs := h.perm.mem_iff.1 hr
theorem Done.lt (h : Done x q L) {r : RR} (hr : r ∈ L) : r.worker < x.workers.l.length ∧ r.work < x.works.l.length := h.fin.inv.named r (h.mem hr)
theorem Done.len (h : Done x q L) : L.length ≤ 2200 := by
  have hok := farmOk_of h.ok
  have h1 := len_runs h.fine h.fin.inv
  have h2 : ((fpx x).nX : Int) ≤ 200 := by have : (fpx x).nX = x.works.l.length := rfl; have := hok.wo.len; omega
  have h3 : (fpx x).tries ≤ 10 := hok.tri.2
  have h4 : 1 ≤ (fpx x).tries := hok.tri.1
  have h5 : ((fpx x).nX : Int) * ((fpx x).tries + 1) ≤ 200 * 11 := Int.mul_le_mul h2 (by omega) (by omega) (by omega)
  have := h.perm.length_eq
  omega
theorem Done.ends (h : Done x q L) {r : RR} (hr : r ∈ L) : (wkOf x r.worker).from_ ≤ r.from_ ∧ 0 ≤ r.from_ ∧ r.from_ < r.to_ ∧ r.to_ ≤ (wkOf x r.worker).to_ ∧ r.to_ ≤ 1000000000 ∧ 1 ≤ r.end_ ∧ r.end_ ≤ 3 ∧ fitF (woOf x r.work).needs.l (wkOf x r.worker).has.l = true := by
  have hm := h.mem hr
  obtain ⟨a1, a2, a3, a4, a5⟩ := h.fin.inv.en r hm (h.fin.ended r hm)
  obtain ⟨b1, b2, b3, b4⟩ := h.fin.inv.fr r hm
  have hlt := (h.lt hr).1
  have c : (wkOf x r.worker).to_ ≤ 1000000000 := by
    rw [wkOf_get (List.getElem?_eq_getElem hlt)]
    exact (worker_times ((farmOk_of h.ok).wk _ (List.getElem_mem hlt))).2.2.2
  have a3' : r.to_ ≤ (wkOf x r.worker).to_ := a3
  exact ⟨b1, b2, a1, a3', by omega, a4, a5, b4⟩
theorem Done.lt_run (h : Done x q L) : (L.map (toRun x)).Pairwise fun a b => runLt a b = true := by
  rw [List.pairwise_map]
  have hd : L.Pairwise fun a b => ¬ (a.from_ = b.from_ ∧ a.work = b.work ∧ a.worker = b.worker) :=
    (h.perm.pairwise_iff (fun {a b} hab e => hab ⟨e.1.symm, e.2.1.symm, e.2.2.symm⟩)).2 h.fin.inv.dis
  have hall : L.Pairwise fun a b => runCmp (toRun x a) (toRun x b) ≤ 0 ∧ ¬ (a.from_ = b.from_ ∧ a.work = b.work ∧ a.worker = b.worker) := List.Pairwise.and h.sort hd
  refine List.Pairwise.imp_of_mem (fun {a b} ha hb hc => ?_) hall
  have hok := farmOk_of h.ok
  exact runLt_of hc.1 (fun e => hc.2 ⟨e.1, idInj hok (h.lt ha).2 (h.lt hb).2 e.2.1, nmInj hok (h.lt ha).1 (h.lt hb).1 e.2.2⟩)
theorem Done.runs (h : Done x q L) : runsF (L.map (toRun x)) = 0 := by
  have hl := h.len
  unfold runsF
  rw [if_pos (by rw [List.length_map]; omega)]
  refine runsErr_zero _ _ (fun r hr => ?_) h.lt_run (fun q hq => by cases hq)
  obtain ⟨s, hs, rfl⟩ := List.mem_map.1 hr
  obtain ⟨a1, a2, a3, a4, a5, a6, a7, a8⟩ := h.ends hs
  obtain ⟨w1, w2⟩ := farm_words h.ok
  obtain ⟨l1, l2⟩ := h.lt hs
  refine ⟨⟨?_, ?_⟩, ⟨?_, ?_⟩, ?_, ?_⟩
  · show wordB (woOf x s.work).id_ = true
    rw [woOf_get (List.getElem?_eq_getElem l2)]
    exact w2 _ (List.getElem_mem l2)
  · show wordB (wkOf x s.worker).name = true
    rw [wkOf_get (List.getElem?_eq_getElem l1)]
    exact w1 _ (List.getElem_mem l1)
  · show inR 0 1000000000 s.from_ = true
    simp only [inR, Bool.and_eq_true, decide_eq_true_eq]; omega
  · show inR 0 1000000000 s.to_ = true
    simp only [inR, Bool.and_eq_true, decide_eq_true_eq]; omega
  · show ¬ s.to_ < s.from_
    omega
  · show inR 1 3 s.end_ = true
    simp only [inR, Bool.and_eq_true, decide_eq_true_eq]; omega
end
end Go.Proofs.YtbnkoefljcekbaaGreatDoor.C9

namespace Go.Proofs.YtbnkoefljcekbaaGreatDoor.C9
open Go.ChangeShapes Go.WideShapes Go.Deep Go.RowKit Go.Maps
set_option linter.unusedVariables false
set_option linter.unusedSimpArgs false

/-- what a farm that was followed has come to -/
theorem farm_done {x : Farm} (h0 : farmF x = 0) {X : FX} (hx : X.x = x) (hF : X.F = fpOf x (ordOf X.S X.N)) (hN : X.N = x.works.l.length) (hC : Crit (gOf x.works.l) (szOf x.works.l) X.N (gt X.S)) {p' : PS} (hp : PTrace X.F p0 p') :
    X.F = fpx x ∧ FFine X.F ∧ ∃ q, QTrace (fpx x) q0 q ∧ EndP (fpx x) p' q ∧ ∀ L : List RR, L.Perm p'.out → (L.Pairwise fun a b => runCmp (toRun x a) (toRun x b) ≤ 0) → Done x q L := by
  have hok := farmOk_of h0
  rw [hN] at hC hF
  have e := fpx_of hok hC
  rw [← hF] at e
  obtain ⟨f1, f2⟩ := fpx_fine hok hC
  obtain ⟨q, hq⟩ := farm_ends hok hC
  rw [e] at hp ⊢
  have hE := end_of f1 f2 hp hq
  exact ⟨rfl, f1, q, hq, hE, fun L hL hs => ⟨h0, hE.fin, f1, hL.trans hE.out, hs⟩⟩
theorem farm_fine {x : Farm} (h0 : farmF x = 0) {X : FX} (hF : X.F = fpOf x (ordOf X.S X.N)) (hN : X.N = x.works.l.length) (hC : Crit (gOf x.works.l) (szOf x.works.l) X.N (gt X.S)) : FFine X.F := by
  have hok := farmOk_of h0
  rw [hN] at hC hF
  have e := fpx_of hok hC
  rw [← hF] at e
  rw [e]
  exact (fpx_fine hok hC).1
theorem fs_start {x : Farm} {w : World} (h0 : farmF x = 0) (hx : RFarm.ok w x) {X : FX} (hX : X.x = x) (hF : X.F = fpOf x (ordOf X.S X.N)) : FS X p0 w := by
  subst hX
  obtain ⟨a, b, c, _, _⟩ := hx
  exact ⟨farmOk_of h0, ⟨_, hF⟩, a, b, c, Int.le_refl _, by decide, fun r hr => by cases hr⟩
def PlAns (x : Farm) (c : Int) (w : World) (e : Ending) (w' : World) : Prop :=
  (c ≠ 0 ∧ e = .returned (.tuple #[.slice none 0 0, .int .i64 c]) ∧ Below w.heap.size w w') ∨
  (c = 0 ∧ ∃ (A : Option Addr) (n cap : Nat) (q : QS) (L : List RR), e = .returned (.tuple #[.slice A n cap, .int .i64 0]) ∧ SlAt RRun w' A n (L.map (toRun x)) ∧ QTrace (fpx x) q0 q ∧ Done x q L ∧ Below w.heap.size w w')
set_option maxRecDepth 100000 in
set_option maxHeartbeats 8000000 in
theorem Play_any (x : Farm) (w : World) (hx : RFarm.ok w x) (c : Int) (hF : farmF x = c) :
    Calls Tryz.prog 10 #[farmV x] w (PlAns x c w) := by
  unfold farmV
  have hN : x.works.n = x.works.l.length := hx.2.1.1.1.symm
  obtain ⟨W1, hW1⟩ : ∃ Y, w.alloc (.cells #[.slice x.workers.A x.workers.n x.workers.cap, .slice x.works.A x.works.n x.works.cap, .slice x.lost.A x.lost.n x.lost.cap, .int .i64 x.tries, .bool x.doubles] 26) = Y := ⟨_, rfl⟩
  obtain ⟨xb, hxb⟩ : ∃ b, w.heap.size = b := ⟨_, rfl⟩
  have hba : Below w.heap.size w W1 := by rw [← hW1]; exact (Below.refl _ _).alloc (Nat.le_refl _) _
  have hx1 := RFarm.mono _ _ _ hba hx
  have c0 : W1.cell? ⟨xb, 0, none⟩ = some (.slice x.workers.A x.workers.n x.workers.cap) := by rw [← hW1, ← hxb]; exact cell_new _ _ _ 0
  have c1 : W1.cell? ⟨xb, 1, none⟩ = some (.slice x.works.A x.works.n x.works.cap) := by rw [← hW1, ← hxb]; exact cell_new _ _ _ 1
  have c2 : W1.cell? ⟨xb, 2, none⟩ = some (.slice x.lost.A x.lost.n x.lost.cap) := by rw [← hW1, ← hxb]; exact cell_new _ _ _ 2
  have c3 : W1.cell? ⟨xb, 3, none⟩ = some (.int .i64 x.tries) := by rw [← hW1, ← hxb]; exact cell_new _ _ _ 3
  have c4 : W1.cell? ⟨xb, 4, none⟩ = some (.bool x.doubles) := by rw [← hW1, ← hxb]; exact cell_new _ _ _ 4
  obtain ⟨Z, hZ⟩ : ∃ Z, PlAns x c w = Z := ⟨_, rfl⟩
  rw [hZ]
  have hZH := Lib.hid hZ
  clear hZ
  have hxH := Lib.hid hx
  clear hx
  have hx1H := Lib.hid hx1
  clear hx1
  have hW1H := Lib.hid hW1
  clear hW1
  have hxbH := Lib.hid hxb
  clear hxb
  have hbaH := Lib.hid hba
  clear hba
  have hFH := Lib.hid hF
  clear hF
  have hNH := Lib.hid hN
  clear hN
  go_enter Tryz.func10, Tryz.ntmps10
  go_wp2_with fail
  rw [hW1H.out, hxbH.out]
  refine (farm_any x _ hx1H.out c hFH.out).mono ?_
  rintro e w1 ⟨rfl, hb1⟩
  have c0 := keepC hb1 c0
  have c1 := keepC hb1 c1
  have c2 := keepC hb1 c2
  have c3 := keepC hb1 c3
  have c4 := keepC hb1 c4
  have hx2 := RFarm.mono _ _ _ hb1 hx1H.out
  have hbb := hbaH.out.trans (hb1.mono hbaH.out.size)
  by_cases h1 : c = 0
  · subst h1
    have hb1H := Lib.hid hb1
    clear hb1
    have hx2H := Lib.hid hx2
    clear hx2
    have hbbH := Lib.hid hbb
    clear hbb
    go_wp2_with fail
    refine (open_any x _ hx2H.out (farmOk_of hFH.out)).mono ?_
    rintro e w2 ⟨X, rv, ov, rfl, hXx, hXF, hC, hA⟩
    have hXN : X.N = x.works.l.length := by unfold FX.N; rw [hXx]; exact hNH.out
    have hfin := farm_fine hFH.out hXF hXN hC
    have hp := play_any hA (fs_start hFH.out hx2H.out hXx hXF) hfin (ordX_of (by rw [hXx]; exact hXF))
    clear c0 c1 c2 c3 c4 hA
    have hXxH := Lib.hid hXx
    clear hXx
    have hXFH := Lib.hid hXF
    clear hXF
    have hCH := Lib.hid hC
    clear hC
    have hXNH := Lib.hid hXN
    clear hXN
    have hfinH := Lib.hid hfin
    clear hfin
    have hpH := Lib.hid hp
    clear hp
    go_wp2_with fail
    go_at_call 32
    refine hpH.out.mono ?_
    rintro e w3 ⟨rfl, rv2, ov2, p', L, hT, hL, hs, hA3⟩
    have c11 := (hA3.core.blk 11 _ rfl).1
    have hown := hA3.core.out
    have hbe := hA3.core.bel
    obtain ⟨A, cap, rfl⟩ := hown.form
    obtain ⟨_, _, q, hq, hE, hD⟩ := farm_done hFH.out hXxH.out hXFH.out hXNH.out hCH.out hT
    have hs' : L.Pairwise fun a b => runCmp (toRun x a) (toRun x b) ≤ 0 := by rw [← hXxH.out]; exact hs
    have hD2 := hD L hL hs'
    have hsl := hown.slAt
    rw [hXxH.out] at hsl c11
    have R : Z (.returned (.tuple #[.slice A (L.map (toRun x)).length cap, .int .i64 0])) w3 := by
      rw [← hZH.out]
      exact .inr ⟨rfl, A, _, cap, q, L, rfl, hsl, hq, hD2, hbbH.out.trans (hbe.mono hbbH.out.size)⟩
    obtain ⟨n, hn⟩ : ∃ n, (L.map (toRun x)).length = n := ⟨_, rfl⟩
    have c11' : w3.cell? ⟨X.f, 11, none⟩ = some (.slice A n cap) := by rw [← hn]; exact c11
    rw [hn] at R
    clear c11 hown hA3 hsl hs hs' hD hD2 hE hT hbe
    have RH := Lib.hid R
    clear R
    go_wp2
    exact RH.out
  · have R : Z (.returned (.tuple #[.slice none 0 0, .int .i64 c])) w1 := by
      rw [← hZH.out]; exact .inl ⟨h1, rfl, hbb⟩
    have h1' : (c != 0) = true := by simpa using h1
    clear h1
    have RH := Lib.hid R
    clear R
    have hb1H := Lib.hid hb1
    clear hb1
    have hx2H := Lib.hid hx2
    clear hx2
    have hbbH := Lib.hid hbb
    clear hbb
    go_wp2
    exact RH.out
end Go.Proofs.YtbnkoefljcekbaaGreatDoor.C9

namespace Go.Proofs.YtbnkoefljcekbaaGreatDoor.C9
open Go.ChangeShapes Go.WideShapes Go.Deep Go.RowKit Go.Maps
set_option linter.unusedVariables false
set_option linter.unusedSimpArgs false

def dnB (l : List Run) (s : ByteArray) (t : Int) : Bool := l.any fun r => decide (r.id_ = s) && (decide (r.end_ = 1) && decide (r.to_ ≤ t))
def rnB (l : List Run) (s : ByteArray) (t : Int) : Bool := l.any fun r => decide (r.id_ = s) && (decide (r.from_ ≤ t) && decide (t < r.to_))
def lsN (l : List Run) (s : ByteArray) (t : Int) : Nat := l.countP fun r => decide (r.id_ = s) && (decide (r.end_ = 2) && decide (r.to_ ≤ t))
def bsN (l : List Run) (s : ByteArray) (t : Int) : Nat := l.countP fun r => decide (r.worker = s) && (decide (r.from_ ≤ t) && decide (t < r.to_))
def frB (l : List Run) (t : Int) (y : Worker) : Bool := decide (y.from_ ≤ t) && (decide (t < y.to_) && decide ((bsN l y.name t : Int) < y.slots))
def wtB (tries : Int) (l : List Run) (z : Work) (t : Int) : Bool := !dnB l z.id_ t && (!rnB l z.id_ t && (decide ((lsN l z.id_ t : Int) < tries) && z.after.l.all fun s => dnB l s t))
def waitB (x : Farm) (l : List Run) (z : Work) (t : Int) : Bool := wtB x.tries l z t && x.workers.l.any fun y => frB l t y && fitF z.needs.l y.has.l
def momP (x : Farm) (l : List Run) : List Int := 0 :: (l.flatMap fun r => [r.from_, r.to_]) ++ (x.workers.l.flatMap fun y => [y.from_, y.to_])
def waitedF (M : List Int) (x : Farm) (l : List Run) : List ByteArray := (x.works.l.filter fun z => M.any (waitB x l z)).map (·.id_)

theorem mem_momP {x : Farm} {l : List Run} {t : Int} : t ∈ momP x l ↔ t = 0 ∨ (∃ r ∈ l, t = r.from_ ∨ t = r.to_) ∨ ∃ y ∈ x.workers.l, t = y.from_ ∨ t = y.to_ := by
  unfold momP
  simp only [List.cons_append, List.mem_cons, List.mem_append, List.mem_flatMap, List.not_mem_nil, or_false]
section
variable {x : Farm} {q : QS} {L : List RR}
theorem Done.idEq (h : Done x q L) {r : RR} (hr : r ∈ L) {i : Nat} (hi : i < x.works.l.length) : ((toRun x r).id_ = (woOf x i).id_) ↔ r.work = i :=
  ⟨fun e => idInj (farmOk_of h.ok) (h.lt hr).2 hi e, fun e => by rw [← e]; rfl⟩
theorem Done.nmEq (h : Done x q L) {r : RR} (hr : r ∈ L) {k : Nat} (hk : k < x.workers.l.length) : ((toRun x r).worker = (wkOf x k).name) ↔ r.worker = k :=
  ⟨fun e => nmInj (farmOk_of h.ok) (h.lt hr).1 hk e, fun e => by rw [← e]; rfl⟩
theorem Done.dn (h : Done x q L) {i : Nat} (hi : i < x.works.l.length) {t : Int} : dnB (L.map (toRun x)) (woOf x i).id_ t = true ↔ DoneBy q.runs t i := by
  unfold dnB
  rw [List.any_map, List.any_eq_true]
  constructor
  · rintro ⟨r, hr, e⟩
    simp only [Function.comp, Bool.and_eq_true, decide_eq_true_eq] at e
    exact ⟨r, h.mem hr, (h.idEq hr hi).1 e.1, e.2.1, e.2.2⟩
  · rintro ⟨r, hr, e1, e2, e3⟩
    have hr' := h.perm.mem_iff.2 hr
    refine ⟨r, hr', ?_⟩
    simp only [Function.comp, Bool.and_eq_true, decide_eq_true_eq]
    exact ⟨(h.idEq hr' hi).2 e1, e2, e3⟩
/-- of what is played nobody waits -/
theorem Done.none (h : Done x q L) (hN : NA (fpx x) q.at_ q.runs ∧ ∀ k, k < (fpx x).nW → (fpx x).wto k ≤ q.at_) : waitedF (momP x (L.map (toRun x))) x (L.map (toRun x)) = [] := by
  have hok := farmOk_of h.ok
  unfold waitedF
  rw [List.map_eq_nil_iff, List.filter_eq_nil_iff]
  intro z hz hw
  obtain ⟨i, hi, hzi⟩ := List.mem_iff_getElem.1 hz
  have hzw : woOf x i = z := woOf_get (by rw [List.getElem?_eq_getElem hi, hzi])
  rw [List.any_eq_true] at hw
  obtain ⟨t, ht, hw⟩ := hw
  have ht0 : 0 ≤ t ∧ t ≤ q.at_ := by
    rcases mem_momP.1 ht with e | ⟨r', hr', e⟩ | ⟨y, hy, e⟩
    · have := h.fin.inv.t0; omega
    · obtain ⟨r, hr, rfl⟩ := List.mem_map.1 hr'
      have a := h.ends hr
      have b := h.fin.inv.en r (h.mem hr) (h.fin.ended r (h.mem hr))
      have e' : t = r.from_ ∨ t = r.to_ := e
      omega
    · obtain ⟨k, hk, hky⟩ := List.mem_iff_getElem.1 hy
      have hyk : wkOf x k = y := wkOf_get (by rw [List.getElem?_eq_getElem hk, hky])
      have a : y.to_ ≤ q.at_ := by have := hN.2 k hk; rw [← hyk]; exact this
      have b : y.from_ ≤ q.at_ := by have := h.fin.from_ k hk; rw [← hyk]; exact this
      have c := worker_times (hok.wk y hy)
      omega
  unfold waitB at hw
  rw [Bool.and_eq_true] at hw
  obtain ⟨a, c⟩ := hw
  unfold wtB at a
  simp only [Bool.and_eq_true, Bool.not_eq_true', decide_eq_true_eq] at a
  obtain ⟨a1, a2, a3, a4⟩ := a
  rw [List.any_eq_true] at c
  obtain ⟨y, hy, hc⟩ := c
  rw [Bool.and_eq_true] at hc
  obtain ⟨hf, hfit⟩ := hc
  obtain ⟨k, hk, hky⟩ := List.mem_iff_getElem.1 hy
  have hyk : wkOf x k = y := wkOf_get (by rw [List.getElem?_eq_getElem hk, hky])
  unfold frB at hf
  simp only [Bool.and_eq_true, decide_eq_true_eq] at hf
  have hWa : WaitsAt (fpx x) q.runs t i := by
    refine ⟨fun s hs => ?_, fun hd => ?_, fun hr => ?_, ?_⟩
    · have hs' : s ∈ gOf x.works.l i := hs
      rw [gOf_get (List.getElem?_eq_getElem hi), hzi] at hs'
      obtain ⟨u, hu, rfl⟩ := List.mem_map.1 hs'
      obtain ⟨v, hv, hvu⟩ := ixOf_get (allThere_get hok.wo.all (by rw [List.getElem?_eq_getElem hi, hzi]) hu)
      have := List.all_eq_true.1 a4 u hu
      have hlt := (List.getElem?_eq_some_iff.1 hv).1
      refine (h.dn hlt).1 ?_
      rw [woOf_get hv, hvu]; exact this
    · have := (h.dn hi).2 hd
      rw [hzw] at this
      rw [this] at a1; cases a1
    · obtain ⟨r, hr, e1, e2, e3⟩ := hr
      have hr' := h.perm.mem_iff.2 hr
      have e4 : t < r.to_ := by
        rcases e3 with e3 | e3
        · rw [h.fin.ended r hr] at e3; cases e3
        · exact e3
      unfold rnB at a2
      rw [List.any_eq_false] at a2
      refine a2 (toRun x r) (List.mem_map_of_mem hr') ?_
      simp only [Bool.and_eq_true, decide_eq_true_eq]
      refine ⟨?_, e2, e4⟩
      rw [← hzw]
      exact (h.idEq hr' hi).2 e1
    · have e1 : LostBy q.runs t i = lsN (L.map (toRun x)) z.id_ t := by
        unfold LostBy lsN
        rw [List.countP_map, ← h.perm.countP_eq]
        refine countP_eq_of fun r hr => ?_
        have := h.idEq hr hi
        rw [hzw] at this
        simp only [Function.comp, isEnd]
        rw [show (decide ((toRun x r).id_ = z.id_)) = (r.work == i) from by rw [Bool.eq_iff_iff, decide_eq_true_eq, beq_iff_eq]; exact this]
        rw [Bool.and_assoc]
        rfl
      rw [e1]; exact a3
  have hFr : FreeAt (fpx x) q.runs t k := by
    refine ⟨?_, ?_, ?_⟩
    · show (wkOf x k).from_ ≤ t
      rw [hyk]; exact hf.1
    · show t < (wkOf x k).to_
      rw [hyk]; exact hf.2.1
    · show (cntAt q.runs t k : Int) < (wkOf x k).slots
      have e1 : cntAt q.runs t k = bsN (L.map (toRun x)) y.name t := by
        unfold cntAt bsN
        rw [List.countP_map, ← h.perm.countP_eq]
        refine countP_eq_of fun r hr => ?_
        have h2 := h.nmEq hr hk
        rw [hyk] at h2
        simp only [Function.comp]
        rw [show (decide ((toRun x r).worker = y.name)) = (r.worker == k) from by rw [Bool.eq_iff_iff, decide_eq_true_eq, beq_iff_eq]; exact h2]
        rw [h.fin.ended r (h.mem hr), Bool.false_or]
        rfl
      rw [e1, hyk]; exact hf.2.2
  have := hN.1 t ht0.1 ht0.2 i hi hWa k hk hFr
  have e2 : (fpx x).fit k i = fitF (woOf x i).needs.l (wkOf x k).has.l := rfl
  rw [e2, hzw, hyk, hfit] at this
  cases this
end
end Go.Proofs.YtbnkoefljcekbaaGreatDoor.C9

namespace Go.Proofs.YtbnkoefljcekbaaGreatDoor.C9
open Go.ChangeShapes Go.WideShapes Go.Deep Go.RowKit Go.Maps
set_option linter.unusedVariables false
set_option linter.unusedSimpArgs false

def outS (x : Farm) (p : PS) (i : Nat) : Int := if p.done i = true then 1 else if x.tries ≤ p.lost i then 2 else 3
def outT (x : Farm) (p : PS) (i : Nat) : Int := if p.done i = true then p.last i else if x.tries ≤ p.lost i then p.last i else 0
def outOf (x : Farm) (p : PS) (i : Nat) : Outcome := ⟨(woOf x i).id_, outS x p i, outT x p i, p.begun i⟩
structure OnceOk (l : List Run) (y : Outcome) : Prop where
  tr : ((l.countP fun r => decide (r.id_ = y.id_) : Nat) : Int) = y.tries
  dn : l.countP (fun r => decide (r.id_ = y.id_) && decide (r.end_ = 1)) ≤ 1
  st : l.countP (fun r => decide (r.id_ = y.id_) && decide (r.end_ = 1)) = 1 ↔ y.state = 1
  at1 : ∀ r ∈ l, r.id_ = y.id_ → r.end_ = 1 → r.to_ = y.at_
  at2 : y.state = 1 → ∀ r ∈ l, r.id_ = y.id_ → r.to_ ≤ y.at_
section
variable {x : Farm} {p : PS} {q : QS} {L : List RR}
theorem outS_one {i : Nat} : outS x p i = 1 ↔ p.done i = true := by
  unfold outS
  by_cases h : p.done i = true
  · rw [if_pos h]; exact ⟨fun _ => h, fun _ => rfl⟩
  · rw [if_neg h]
    constructor
    · intro e
      split at e
      · exact absurd e (by decide)
      · exact absurd e (by decide)
    · intro e; exact absurd e h
theorem once_of (hE : EndP (fpx x) p q) (hD : Done x q L) {i : Nat} (hi : i < x.works.l.length) : OnceOk (L.map (toRun x)) (outOf x p i) := by
  obtain ⟨a, b, c, d, e⟩ := hE.once hD.perm i
  have h1 : (L.map (toRun x)).countP (fun r => decide (r.id_ = (outOf x p i).id_) && decide (r.end_ = 1)) = L.countP (isEnd 1 i) := by
    rw [List.countP_map]
    refine countP_eq_of fun r hr => ?_
    simp only [Function.comp, isEnd]
    rw [show (decide ((toRun x r).id_ = (outOf x p i).id_)) = (r.work == i) from by rw [Bool.eq_iff_iff, decide_eq_true_eq, beq_iff_eq]; exact hD.idEq hr hi]
    congr 1
  have h2 : (L.map (toRun x)).countP (fun r => decide (r.id_ = (outOf x p i).id_)) = L.countP (onWork i) := by
    rw [List.countP_map]
    refine countP_eq_of fun r hr => ?_
    simp only [Function.comp, onWork]
    rw [Bool.eq_iff_iff, decide_eq_true_eq, beq_iff_eq]; exact hD.idEq hr hi
  refine ⟨?_, ?_, ?_, fun r hr h3 h4 => ?_, fun hs r hr h3 => ?_⟩
  · rw [h2]; exact a.symm
  · rw [h1]; exact b
  · rw [h1]; exact c.trans outS_one.symm
  · obtain ⟨s, hs, rfl⟩ := List.mem_map.1 hr
    have hw := (hD.idEq hs hi).1 h3
    have h5 : s.to_ = p.last i := d s hs hw h4
    have hdn : p.done i = true := by
      rw [hE.sim.done i]
      exact (hE.fin.inv.don i).2 ⟨s, hD.mem hs, hw, h4⟩
    show s.to_ = outT x p i
    unfold outT
    rw [if_pos hdn]; exact h5
  · obtain ⟨s, hs', rfl⟩ := List.mem_map.1 hr
    have hdn : p.done i = true := outS_one.1 hs
    show s.to_ ≤ outT x p i
    unfold outT
    rw [if_pos hdn]
    exact e hdn s hs' ((hD.idEq hs' hi).1 h3)
/-- the numbers are small -/
theorem endP_nums (hE : EndP (fpx x) p q) (h0 : farmF x = 0) (i : Nat) : 0 ≤ p.begun i ∧ p.begun i ≤ 11 ∧ 0 ≤ p.last i ∧ p.last i ≤ 1000000000 := by
  have hok := farmOk_of h0
  have h1 := hE.sim.begun i
  have h2 := hE.fin.inv.cnt i
  have h3 : (fpx x).tries ≤ 10 := hok.tri.2
  have h4 : (q.runs.countP fun r => r.work == i) = q.runs.countP (onWork i) := rfl
  rw [h4] at h1
  refine ⟨by omega, by omega, ?_⟩
  rcases (hE.last i).2 with e | ⟨r, hr, _, _, e⟩
  · omega
  · have hI := hE.fin.inv
    obtain ⟨a1, a2, a3, _⟩ := hI.en r hr (hE.fin.ended r hr)
    obtain ⟨b1, b2, b3, _⟩ := hI.fr r hr
    have hlt : r.worker < x.workers.l.length := (hI.named r hr).1
    have c : (wkOf x r.worker).to_ ≤ 1000000000 := by
      rw [wkOf_get (List.getElem?_eq_getElem hlt)]
      exact (worker_times (hok.wk _ (List.getElem_mem hlt))).2.2.2
    have a3' : r.to_ ≤ (wkOf x r.worker).to_ := a3
    omega
end
end Go.Proofs.YtbnkoefljcekbaaGreatDoor.C9
