/-
 Several texts of mine as one, without what is not wanted here: XLawNob, XNobRow.
-/
import Derived.Test.YtbnkoefljcekbaaGreatDoorNbTC9
import Derived.Test.YtbnkoefljcekbaaGreatDoorNbYC9
import Derived.Test.YtbnkoefljcekbaaGreatDoorNbKC9
import Derived.Test.YtbnkoefljcekbaaGreatDoorCards
import Derived.Test.YtbnkoefljcekbaaGreatDoorTie
import Derived.OpenShut
import Derived.ShutString
import Derived.ChangeOld
import Derived.Deep.DeepHandedRow
import Derived.Lib.LaidTab
import Derived.Lib.LaidU8
import Derived.JoinedCond
import Derived.Deep.CondSized
namespace Go.Proofs.YtbnkoefljcekbaaGreatDoor.C9
open Go.ChangeShapes Go.WideShapes Go.Deep Go.RowKit Go.Maps
set_option linter.unusedVariables false
set_option linter.unusedSimpArgs false

theorem crit_list {g : Nat → List Nat} {sz : Nat → Int} {N : Nat} {C : Nat → Int} (h : Crit g sz N C) : Crit g sz N (gt ((List.range N).map C)) := by
 have e : ∀ k, k < N → gt ((List.range N).map C) k = C k := fun k hk => by
  unfold gt
  rw [List.getD_eq_getElem?_getD, List.getElem?_map, List.getElem?_range hk]; rfl
 intro j hj
 obtain ⟨m, h1, h2⟩ := h j hj
 exact ⟨m, h1.congr (fun _ _ => Iff.rfl) (fun k hk _ => (e k hk).symm), by rw [e j hj]; exact h2⟩
theorem fpx_cov {x : Farm} (h : FarmOk x) : FFine (fpx x) ∧ ∀ i, i < (fpx x).nX → i ∈ (fpx x).order := by
 obtain ⟨C, hC, _⟩ := h.wo.crit
 exact fpx_fine h (crit_list hC)
theorem na_ofx {x : Farm} {q : QS} {L : List RR} (hD : Done x q L) (hq : QTrace (fpx x) q0 q) : NA (fpx x) q.at_ q.runs ∧ ∀ k, k < (fpx x).nW → (fpx x).wto k ≤ q.at_ :=
 na_of hD.fine (fpx_cov (farmOk_of hD.ok)).2 hq
theorem okIds_done {x : Farm} {q : QS} {L : List RR} (h : Done x q L) : okIds x (L.map (toRun x)) = true := by
 have hok := farmOk_of h.ok
 unfold okIds
 rw [List.all_eq_true]
 intro r hr
 obtain ⟨s, hs, rfl⟩ := List.mem_map.1 hr
 have h1 : hasId x.works.l (toRun x s).id_ = true := (wo_ix hok (h.lt hs).2).2
 have h2 : hasNm x.workers.l (toRun x s).worker = true := (wk_ix hok (h.lt hs).1).2
 rw [h1, h2]; rfl
set_option maxRecDepth 100000 in
set_option maxHeartbeats 8000000 in
theorem law_nob (x : Farm) (w : World) (hx : RFarm.ok w x) :
  Calls Tryz.prog 9 #[.agg (RFarm.vals x).toArray] w fun e w' => e = .returned (.bool true) ∧ Below w.heap.size w w' := by
 simp only [RFarm]
 obtain ⟨W1, hW1⟩ : ∃ Y, w.alloc (.cells #[.slice x.workers.A x.workers.n x.workers.cap, .slice x.works.A x.works.n x.works.cap, .slice x.lost.A x.lost.n x.lost.cap, .int .i64 x.tries, .bool x.doubles] 26) = Y := ⟨_, rfl⟩
 obtain ⟨xb, hxb⟩ : ∃ b, w.heap.size = b := ⟨_, rfl⟩
 have hba : Below w.heap.size w W1 := by rw [← hW1]; exact (Below.refl _ _).alloc (Nat.le_refl _) _
 have hx1 := RFarm.mono _ _ _ hba hx
 have c0 : W1.cell? ⟨xb, 0, none⟩ = some (.slice x.workers.A x.workers.n x.workers.cap) := by rw [← hW1, ← hxb]; exact cell_new _ _ _ 0
 have c1 : W1.cell? ⟨xb, 1, none⟩ = some (.slice x.works.A x.works.n x.works.cap) := by rw [← hW1, ← hxb]; exact cell_new _ _ _ 1
 have c2 : W1.cell? ⟨xb, 2, none⟩ = some (.slice x.lost.A x.lost.n x.lost.cap) := by rw [← hW1, ← hxb]; exact cell_new _ _ _ 2
 have c3 : W1.cell? ⟨xb, 3, none⟩ = some (.int .i64 x.tries) := by rw [← hW1, ← hxb]; exact cell_new _ _ _ 3
 have c4 : W1.cell? ⟨xb, 4, none⟩ = some (.bool x.doubles) := by rw [← hW1, ← hxb]; exact cell_new _ _ _ 4
 obtain ⟨c, hF⟩ : ∃ c, farmF x = c := ⟨_, rfl⟩
 obtain ⟨Z, hZ⟩ : ∃ Z, (fun (e : Ending) (w' : World) => e = .returned (.bool true) ∧ Below w.heap.size w w') = Z := ⟨_, rfl⟩
 rw [hZ]
 have RZ : ∀ W, Below w.heap.size w W → Z (.returned (.bool true)) W := fun W h => by rw [← hZ]; exact ⟨rfl, h⟩
 have hZH := Lib.hid hZ; have RZH := Lib.hid RZ; have hxH := Lib.hid hx; have hx1H := Lib.hid hx1; have hW1H := Lib.hid hW1; have hxbH := Lib.hid hxb; have hbaH := Lib.hid hba; have hFH := Lib.hid hF; clear hZ RZ hx hx1 hW1 hxb hba hF
 go_enter Tryz.func9, Tryz.ntmps9
 go_wp2_with fail
 rw [hW1H.out, hxbH.out]
 refine (Play_any x _ hx1H.out c hFH.out).mono ?_
 rintro e w1 hP
 have hb1 : Below W1.heap.size W1 w1 := by
  rcases hP with ⟨_, _, hb⟩ | ⟨_, _, _, _, _, _, _, _, _, _, hb⟩
  ·exact hb
  ·exact hb
 have c0 := keepC hb1 c0
 have c1 := keepC hb1 c1
 have c2 := keepC hb1 c2
 have c3 := keepC hb1 c3
 have c4 := keepC hb1 c4
 have hx2 := RFarm.mono _ _ _ hb1 hx1H.out
 have hbb := hbaH.out.trans (hb1.mono hbaH.out.size)
 by_cases h1 : c = 0
 ·subst h1
  rcases hP with ⟨h, _⟩ | ⟨_, A, n, cap, q, L, rfl, hsl, hq, hD, _⟩
  ·exact absurd rfl h
  have hn : n ≤ 4000 := by
   have h1 := hD.len
   have h2 := hsl.1
   rw [List.length_map] at h2
   omega
  have hno := hD.none (na_ofx hD hq)
  have hok := okIds_done hD
  have hwc : waitC x (L.map (toRun x)) = 0 := by
   unfold waitC
   rw [if_pos hD.ok, if_pos hD.runs, if_pos hok]
  clear hok
  have hb1H := Lib.hid hb1; have hx2H := Lib.hid hx2; have hbbH := Lib.hid hbb; have hslH := Lib.hid hsl; have hqH := Lib.hid hq; have hDH := Lib.hid hD; have hnoH := Lib.hid hno; have hwcH := Lib.hid hwc; clear hb1 hx2 hbb hsl hq hD hno hwc
  go_wp2_with fail
  refine (Waited_any x A n cap _ _ hx2H.out hslH.out 0 hwcH.out).mono ?_
  rintro e w2 hW
  rcases hW with ⟨h, _⟩ | ⟨_, A2, n2, cap2, rfl, hs2, hn2, hb2⟩
  ·exact absurd rfl h
  rw [hnoH.out] at hs2
  have hn0 : n2 = 0 := by have := hs2.1; simpa using this.symm
  subst hn0
  have hbb2 := hbbH.out.trans (hb2.mono hbbH.out.size)
  clear c0 c1 c2 c3 c4 hs2
  have hb2H := Lib.hid hb2; have hbb2H := Lib.hid hbb2; clear hb2 hbb2
  go_wp2_with (go_at_call 15; refine (awake_any _).mono ?_; rintro e w9 ⟨rfl, hb9⟩)
  exact RZH.out _ (hbb2H.out.trans (hb9.mono hbb2H.out.size))
 ·rcases hP with ⟨_, rfl, _⟩ | ⟨h, _⟩
  rotate_left
  ·exact absurd h h1
  have h1' : (c != 0) = true := by simpa using h1
  clear h1
  have hb1H := Lib.hid hb1; have hx2H := Lib.hid hx2; have hbbH := Lib.hid hbb; clear hb1 hx2 hbb
  go_wp2_with (go_at_call 15; refine (awake_any _).mono ?_; rintro e w9 ⟨rfl, hb9⟩)
  exact RZH.out _ (hbbH.out.trans (hb9.mono hbbH.out.size))
end Go.Proofs.YtbnkoefljcekbaaGreatDoor.C9

namespace Go.Proofs.YtbnkoefljcekbaaGreatDoor.workersNobodyWaits
open Go.Proofs.YtbnkoefljcekbaaGreatDoor.C9
open Go.ChangeShapes Go.WideShapes Go.ChangeAt Go.RowKit
open Go.ChangeMaps (open_string shut_string)
set_option linter.unusedVariables false

theorem own : ownKnob Tryz.prog.godebug = none := by kernel_rfl
theorem laidOut : laidOutB Tryz.prog = true := by kernel_rfl

set_option maxRecDepth 100000 in
theorem contract (H : Type) (enc : TypeId × Value → H) (W : World) (base : Nat) (args : Array Value) (ds gs : List (DataW H)) (before : List MemPlace)
  (hval0 : ∀ (j : Nat) t v, Tryz.f9.params[j]? = some t → args[j]? = some v → Value.okWide Tryz.prog W .any base t v)
  (hW : DataW.Whole enc Tryz.prog Tryz.f9.params.toList Rows.workersNobodyWaitsSpec.vars false W args.toList ds gs before) :
  Calls Tryz.prog 9 args W fun e W' => ∃ v, e = .returned v ∧ Rows.workersNobodyWaitsSpec.post enc Tryz.prog Tryz.f9 false true false false W args v W' := by
 have hval := hval0
 have hW' := hW
 obtain ⟨p, q, hA0, hV, rfl, hfz, hnd⟩ := hW
 have hA : DataW.TrodAll enc Tryz.prog W 0 (fun _ => true) true Tryz.f9.params.toList args.toList ds p := hA0
 rw [Tryz.params9] at hA hval
 obtain ⟨v0, vs0, d0, ds0, p0, q0, hargs, rfl, rfl, h0, r0⟩ := trodAll_cons hA
 obtain ⟨rfl, rfl, rfl⟩ := trodAll_nil r0
 obtain rfl : args = #[v0] := by cases args; simp_all
 obtain ⟨rfl, rfl⟩ := trodVars_none hV
 have m0 := h0
 have lt0 : ∀ x ∈ p0, x.block < W.heap.size := by obtain ⟨m, hm⟩ := m0; exact DataW.trod_lt m _ _ _ hm
 obtain ⟨a0, rfl, k0, b0⟩ := param_struct Tryz.underlying26 opens_Farm (hval 0 26 v0 rfl rfl) h0
 clear hA0 hval0
 refine (law_nob a0 W k0).mono fun e W' ⟨he, bel⟩ => ?_
 subst he
 exact ⟨_, rfl, _, _, _, [], _, [], hW', trodAll_mk1 (shut_bool Tryz.underlying4 _), (trodAll_cons_mk (Below.trod laidOut (by kernel_rfl) (of_decide_eq_true (by kernel_rfl)) m0 bel lt0) trodAll_mk0), rfl, bel.frame _, fun h => by cases h⟩

/-- the two tables, laid -/
noncomputable def laidWorld (os : Os) : World :=
 let put (h : Array Obj) (g : Nat) (cs : Array Value) : Array Obj := h.modify g fun
  | .cells _ t frozen => .cells cs t frozen
  | o => o
 { World.holding Tryz.prog os ⟨#[], #[], []⟩ with heap := put (put (World.holding Tryz.prog os ⟨#[], #[], []⟩).heap 1 (Lib.firstTab.map fun z => Value.int .u8 z).toArray) 2 ((List.range 16).flatMap fun i => [Value.int .u8 (Lib.accLo i), Value.int .u8 (Lib.accHi i)]).toArray }
set_option maxRecDepth 1000000 in
theorem laid_met (os : Os) : laidMet Tryz.prog Rows.workersNobodyWaitsRow.laid ((laidWorld os).forCall (fun _ _ => 0) ⟨#[], #[.agg #[.slice none 0 0, .slice none 0 0, .slice none 0 0, .int .i64 0, .bool false]], []⟩).memory :=
 laidMet_of_run' 8 (by kernel_rfl) (by kernel_rfl)
theorem reads (os : Os) {H : Type} (enc : TypeId × Value → H) : ∃ places, DataW.whole enc Tryz.prog ((laidWorld os).forCall (fun _ _ => 0) ⟨#[], #[.agg #[.slice none 0 0, .slice none 0 0, .slice none 0 0, .int .i64 0, .bool false]], []⟩).memory Tryz.f9.params.toList Rows.workersNobodyWaitsSpec.vars false (#[.agg #[.slice none 0 0, .slice none 0 0, .slice none 0 0, .int .i64 0, .bool false]] : Array Value).toList 8 = some ([.agg [.nil, .nil, .nil, .lit (.int .i64 0), .lit (.bool false)]], [], places) :=
 ⟨[], by kernel_rfl⟩

set_option maxRecDepth 100000 in
theorem lifted (os : Os) (started : os.Started) (H : Type) (enc : TypeId × Value → H) (F : Stop.Interp) :
  ReturnsInHanded {} Tryz.checked os 9 .any ((OpenSpec.ofChange Rows.workersNobodyWaitsSpec).preRow enc Tryz.prog Tryz.f9 Rows.workersNobodyWaitsRow.domain false Rows.workersNobodyWaitsRow.laid) (((OpenSpec.ofChange Rows.workersNobodyWaitsSpec).at F).post enc Tryz.prog Tryz.f9 false true false false) := by
 obtain ⟨places, hx⟩ := reads os enc
 refine returnsInHanded_of_row (C := Tryz.checked) (s := (OpenSpec.ofChange Rows.workersNobodyWaitsSpec)) own started (by kernel_rfl) Tryz.func9
  (witness_row_at (enc := enc) (C := Tryz.checked) false (laidWorld os) #[.agg #[.slice none 0 0, .slice none 0 0, .slice none 0 0, .int .i64 0, .bool false]] rfl (by kernel_rfl) (by kernel_rfl) (by kernel_rfl)
   (OpenSpec.preRow_of_cond 8 hx (by kernel_rfl) (fun k hk => by cases hk) (by kernel_rfl) (laid_met os))) ?_
 intro W base args ds gs before hval hW _ hcond hsz hlaid hsh _
 exact contract H enc W base args ds gs before hval hW

theorem said : Rows.WorkersNobodyWaitsSaid :=
 OpenClaim.holds_of_cond 9 Tryz.f9 rfl rfl rfl rfl rfl rfl rfl ⟨rfl, rfl, rfl, rfl, rfl⟩ rfl rfl rfl rfl rfl (by kernel_rfl) Tryz.func9 (by kernel_rfl)
  (of_decide_eq_true (by kernel_rfl)) (by unfold Func.isWrapper; first | (rw [if_pos (by decide +kernel)]; kernel_rfl) | (rw [if_neg (by decide +kernel)]; exact ⟨rfl, rfl⟩))
  (fun os started H enc _ F => by rw [OpenClaim.pre_eq_preRow]; exact lifted os started H enc F)

theorem plain (f : FuncId) (fn : Func) (hf : Tryz.pinned.checked.prog.funcNamed "smithyard/smithyardlaw9.WorkersNobodyWaits" = some f) (hfn : Tryz.pinned.checked.prog.funcs[f]? = some fn) :
  false = Tryz.pinned.checked.prog.looks [] ∧ ∀ (j : Nat) t, fn.params[j]? = some t → Tryz.pinned.checked.prog.wantsStandIn t = false := by
 obtain rfl : f = 9 := Option.some.inj ((show Tryz.prog.funcNamed "smithyard/smithyardlaw9.WorkersNobodyWaits" = some 9 by kernel_rfl).symm.trans hf) |>.symm
 obtain rfl : fn = Tryz.f9 := (Option.some.inj (Tryz.func9.symm.trans hfn)).symm
 refine ⟨by kernel_rfl, fun j t ht => ?_⟩
 rw [Tryz.params9] at ht
 have hm : t = 26 := by have := Array.mem_of_getElem? ht; simpa using this
 obtain rfl := hm
 ·exact (show Tryz.prog.wantsStandIn 26 = false by kernel_rfl)

theorem card : Rows.WorkersNobodyWaitsCardSaid :=
 Claim7.holds_tied_plain_at .later [] _ _ _ _ said (fun _ h => by cases h) (by kernel_rfl) (fun _ h => by cases h) workersNobodyWaits_row_tie rfl ⟨rfl, rfl⟩ (by kernel_rfl) rfl plain (by kernel_rfl)
end Go.Proofs.YtbnkoefljcekbaaGreatDoor.workersNobodyWaits
