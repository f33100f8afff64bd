/-
 Several texts of mine as one, without what is not wanted here: XLawRun, XRunRow.
-/
import Derived.Test.YtbnkoefljcekbaaGreatDoorRbUC9
import Derived.Test.YtbnkoefljcekbaaGreatDoorRbVC9
import Derived.Test.YtbnkoefljcekbaaGreatDoorRbKC9
import Derived.Test.YtbnkoefljcekbaaGreatDoorCards
import Derived.Test.YtbnkoefljcekbaaGreatDoorTie
import Derived.OpenShut
import Derived.ShutString
import Derived.ChangeOld
import Derived.Deep.DeepHandedRow
import Derived.Lib.LaidTab
import Derived.Lib.LaidU8
import Derived.JoinedCond
import Derived.Deep.CondSized
namespace Go.Proofs.YtbnkoefljcekbaaGreatDoor.C9
open Go.ChangeShapes Go.WideShapes Go.Deep Go.RowKit Go.Maps
set_option linter.unusedVariables false
set_option linter.unusedSimpArgs false

theorem wo_ix {x : Farm} (hok : FarmOk x) {i : Nat} (hi : i < x.works.l.length) : ixOf x.works.l (woOf x i).id_ = i ∧ hasId x.works.l (woOf x i).id_ = true := by
 rw [woOf_get (List.getElem?_eq_getElem hi)]
 exact ixOf_eq hok.wo.rise (List.getElem?_eq_getElem hi)
theorem wk_ix {x : Farm} (hok : FarmOk x) {i : Nat} (hi : i < x.workers.l.length) : ixNm x.workers.l (wkOf x i).name = i ∧ hasNm x.workers.l (wkOf x i).name = true := by
 rw [wkOf_get (List.getElem?_eq_getElem hi)]
 exact ixNm_eq hok.wkr (List.getElem?_eq_getElem hi)
theorem done_bs {x : Farm} {q : QS} {L : List RR} (h : Done x q L) {k : Nat} (hk : k < x.workers.l.length) (t : Int) : bsN (L.map (toRun x)) (wkOf x k).name t = cntAt q.runs t k := by
 unfold cntAt bsN
 rw [List.countP_map, ← h.perm.countP_eq]
 refine (countP_eq_of fun r hr => ?_).symm
 have h2 := h.nmEq hr hk
 simp only [Function.comp]
 rw [show (decide ((toRun x r).worker = (wkOf x k).name)) = (r.worker == k) from by rw [Bool.eq_iff_iff, decide_eq_true_eq, beq_iff_eq]; exact h2]
 rw [h.fin.ended r (h.mem hr), Bool.false_or]
 rfl
theorem done_right {x : Farm} {q : QS} {L : List RR} (h : Done x q L) : RightOk x (L.map (toRun x)) := by
 have hok := farmOk_of h.ok
 refine ⟨fun r hr => ?_, fun r hr => ?_, fun r hr y z hy hz => ?_⟩
 ·obtain ⟨s, hs, rfl⟩ := List.mem_map.1 hr
  exact (wo_ix hok (h.lt hs).2).2
 ·obtain ⟨s, hs, rfl⟩ := List.mem_map.1 hr
  exact (wk_ix hok (h.lt hs).1).2
 ·obtain ⟨s, hs, rfl⟩ := List.mem_map.1 hr
  obtain ⟨l1, l2⟩ := h.lt hs
  have e1 : ixNm x.workers.l (toRun x s).worker = s.worker := (wk_ix hok l1).1
  have e2 : ixOf x.works.l (toRun x s).id_ = s.work := (wo_ix hok l2).1
  rw [e1] at hy
  rw [e2] at hz
  obtain ⟨a1, a2, a3, a4, a5, a6, a7, a8⟩ := h.ends hs
  have hm := h.mem hs
  have hat := (h.fin.inv.en s hm (h.fin.ended s hm)).2.1
  have hbs : bsN (L.map (toRun x)) (toRun x s).worker (toRun x s).from_ = cntAt q.runs s.from_ s.worker := done_bs h l1 s.from_
  have hh := h.fin.inv.hist s.from_ (by omega) s.worker l1
  have hsl : (fpx x).slots s.worker = (wkOf x s.worker).slots := rfl
  rw [wkOf_get hy] at a1 a4 a8 hsl
  rw [woOf_get hz] at a8
  refine ⟨a8, a1, a4, ?_⟩
  rw [hbs, ← hsl]
  exact hh
theorem done_in {x : Farm} {q : QS} {L : List RR} (h : Done x q L) : InOk x (L.map (toRun x)) := by
 have hok := farmOk_of h.ok
 have hr := done_right h
 refine ⟨hr.hid, hr.hnm, fun r hr => ?_, fun r hr z hz u hu => ?_⟩
 ·obtain ⟨s, hs, rfl⟩ := List.mem_map.1 hr
  obtain ⟨a1, a2, a3, a4, a5, a6, a7, a8⟩ := h.ends hs
  show 0 ≤ s.to_ ∧ s.to_ ≤ 1000000000
  omega
 ·obtain ⟨s, hs, rfl⟩ := List.mem_map.1 hr
  obtain ⟨l1, l2⟩ := h.lt hs
  have e2 : ixOf x.works.l (toRun x s).id_ = s.work := (wo_ix hok l2).1
  rw [e2] at hz
  have hth := allThere_get hok.wo.all hz hu
  obtain ⟨v, hv, hvu⟩ := ixOf_get hth
  have hlt := (List.getElem?_eq_some_iff.1 hv).1
  have hd := h.fin.inv.ord s (h.mem hs) (ixOf x.works.l u) (by
   show ixOf x.works.l u ∈ gOf x.works.l s.work
   rw [gOf_get hz]
   exact List.mem_map_of_mem hu)
  have := (h.dn hlt (t := s.from_)).2 hd
  rw [woOf_get hv, hvu] at this
  exact this
set_option maxRecDepth 100000 in
set_option maxHeartbeats 8000000 in
theorem law_run (x : Farm) (w : World) (hx : RFarm.ok w x) :
  Calls Tryz.prog 7 #[.agg (RFarm.vals x).toArray] w fun e w' => e = .returned (.bool true) ∧ Below w.heap.size w w' := by
 simp only [RFarm]
 obtain ⟨W1, hW1⟩ : ∃ Y, w.alloc (.cells #[.slice x.workers.A x.workers.n x.workers.cap, .slice x.works.A x.works.n x.works.cap, .slice x.lost.A x.lost.n x.lost.cap, .int .i64 x.tries, .bool x.doubles] 26) = Y := ⟨_, rfl⟩
 obtain ⟨xb, hxb⟩ : ∃ b, w.heap.size = b := ⟨_, rfl⟩
 have hba : Below w.heap.size w W1 := by rw [← hW1]; exact (Below.refl _ _).alloc (Nat.le_refl _) _
 have hx1 := RFarm.mono _ _ _ hba hx
 have c0 : W1.cell? ⟨xb, 0, none⟩ = some (.slice x.workers.A x.workers.n x.workers.cap) := by rw [← hW1, ← hxb]; exact cell_new _ _ _ 0
 have c1 : W1.cell? ⟨xb, 1, none⟩ = some (.slice x.works.A x.works.n x.works.cap) := by rw [← hW1, ← hxb]; exact cell_new _ _ _ 1
 have c2 : W1.cell? ⟨xb, 2, none⟩ = some (.slice x.lost.A x.lost.n x.lost.cap) := by rw [← hW1, ← hxb]; exact cell_new _ _ _ 2
 have c3 : W1.cell? ⟨xb, 3, none⟩ = some (.int .i64 x.tries) := by rw [← hW1, ← hxb]; exact cell_new _ _ _ 3
 have c4 : W1.cell? ⟨xb, 4, none⟩ = some (.bool x.doubles) := by rw [← hW1, ← hxb]; exact cell_new _ _ _ 4
 obtain ⟨c, hF⟩ : ∃ c, farmF x = c := ⟨_, rfl⟩
 obtain ⟨Z, hZ⟩ : ∃ Z, (fun (e : Ending) (w' : World) => e = .returned (.bool true) ∧ Below w.heap.size w w') = Z := ⟨_, rfl⟩
 rw [hZ]
 have RZ : ∀ W, Below w.heap.size w W → Z (.returned (.bool true)) W := fun W h => by rw [← hZ]; exact ⟨rfl, h⟩
 have hZH := Lib.hid hZ
 clear hZ
 have RZH := Lib.hid RZ
 clear RZ
 have hxH := Lib.hid hx
 clear hx
 have hx1H := Lib.hid hx1
 clear hx1
 have hW1H := Lib.hid hW1
 clear hW1
 have hxbH := Lib.hid hxb
 clear hxb
 have hbaH := Lib.hid hba
 clear hba
 have hFH := Lib.hid hF
 clear hF
 go_enter Tryz.func7, Tryz.ntmps7
 go_wp2_with fail
 rw [hW1H.out, hxbH.out]
 refine (Play_any x _ hx1H.out c hFH.out).mono ?_
 rintro e w1 hP
 have hb1 : Below W1.heap.size W1 w1 := by
  rcases hP with ⟨_, _, hb⟩ | ⟨_, _, _, _, _, _, _, _, _, _, hb⟩
  ·exact hb
  ·exact hb
 have c0 := keepC hb1 c0
 have c1 := keepC hb1 c1
 have c2 := keepC hb1 c2
 have c3 := keepC hb1 c3
 have c4 := keepC hb1 c4
 have hx2 := RFarm.mono _ _ _ hb1 hx1H.out
 have hbb := hbaH.out.trans (hb1.mono hbaH.out.size)
 by_cases h1 : c = 0
 ·subst h1
  rcases hP with ⟨h, _⟩ | ⟨_, A, n, cap, q, L, rfl, hsl, hq, hD, _⟩
  ·exact absurd rfl h
  have hn : n ≤ 4000 := by
   have h1 := hD.len
   have h2 := hsl.1
   rw [List.length_map] at h2
   omega
  have hb1H := Lib.hid hb1
  clear hb1
  have hx2H := Lib.hid hx2
  clear hx2
  have hbbH := Lib.hid hbb
  clear hbb
  have hslH := Lib.hid hsl
  clear hsl
  have hqH := Lib.hid hq
  clear hq
  have hDH := Lib.hid hD
  clear hD
  go_wp2_with fail
  refine (runs_any A n cap _ _ hslH.out 0 hDH.out.runs).mono ?_
  rintro e w2 ⟨rfl, hb2⟩
  have c0 := keepC hb2 c0
  have c1 := keepC hb2 c1
  have c2 := keepC hb2 c2
  have c3 := keepC hb2 c3
  have c4 := keepC hb2 c4
  have hx3 := RFarm.mono _ _ _ hb2 hx2H.out
  have hsl2 := hslH.out.below hb2
  have hbb2 := hbbH.out.trans (hb2.mono hbbH.out.size)
  have hb2H := Lib.hid hb2
  clear hb2
  have hx3H := Lib.hid hx3
  clear hx3
  have hsl2H := Lib.hid hsl2
  clear hsl2
  have hbb2H := Lib.hid hbb2
  clear hbb2
  go_wp2_with fail
  refine (right_any x A n cap _ _ hx3H.out hsl2H.out hn (farmOk_of hFH.out) (done_right hDH.out)).mono ?_
  rintro e w3 ⟨rfl, hb3⟩
  have c0 := keepC hb3 c0
  have c1 := keepC hb3 c1
  have c2 := keepC hb3 c2
  have c3 := keepC hb3 c3
  have c4 := keepC hb3 c4
  have hx4 := RFarm.mono _ _ _ hb3 hx3H.out
  have hsl3 := hsl2H.out.below hb3
  have hbb3 := hbb2H.out.trans (hb3.mono hbb2H.out.size)
  have hb3H := Lib.hid hb3
  clear hb3
  have hx4H := Lib.hid hx4
  clear hx4
  have hsl3H := Lib.hid hsl3
  clear hsl3
  have hbb3H := Lib.hid hbb3
  clear hbb3
  go_wp2_with fail
  refine (inorder_any x A n cap _ _ hx4H.out hsl3H.out hn (farmOk_of hFH.out) (done_in hDH.out)).mono ?_
  rintro e w4 ⟨rfl, hb4⟩
  have hbb4 := hbb3H.out.trans (hb4.mono hbb3H.out.size)
  clear c0 c1 c2 c3 c4
  have hb4H := Lib.hid hb4
  clear hb4
  have hbb4H := Lib.hid hbb4
  clear hbb4
  go_wp2_with (go_at_call 15; refine (awake_any _).mono ?_; rintro e w9 ⟨rfl, hb9⟩)
  exact RZH.out _ (hbb4H.out.trans (hb9.mono hbb4H.out.size))
 ·rcases hP with ⟨_, rfl, _⟩ | ⟨h, _⟩
  rotate_left
  ·exact absurd h h1
  have h1' : (c != 0) = true := by simpa using h1
  clear h1
  have hb1H := Lib.hid hb1
  clear hb1
  have hx2H := Lib.hid hx2
  clear hx2
  have hbbH := Lib.hid hbb
  clear hbb
  go_wp2_with (go_at_call 15; refine (awake_any _).mono ?_; rintro e w9 ⟨rfl, hb9⟩)
  exact RZH.out _ (hbbH.out.trans (hb9.mono hbbH.out.size))
end Go.Proofs.YtbnkoefljcekbaaGreatDoor.C9

namespace Go.Proofs.YtbnkoefljcekbaaGreatDoor.workersRunsAreRight
open Go.Proofs.YtbnkoefljcekbaaGreatDoor.C9
open Go.ChangeShapes Go.WideShapes Go.ChangeAt Go.RowKit
open Go.ChangeMaps (open_string shut_string)
set_option linter.unusedVariables false

theorem own : ownKnob Tryz.prog.godebug = none := by kernel_rfl
theorem laidOut : laidOutB Tryz.prog = true := by kernel_rfl

set_option maxRecDepth 100000 in
theorem contract (H : Type) (enc : TypeId × Value → H) (W : World) (base : Nat) (args : Array Value) (ds gs : List (DataW H)) (before : List MemPlace)
  (hval0 : ∀ (j : Nat) t v, Tryz.f7.params[j]? = some t → args[j]? = some v → Value.okWide Tryz.prog W .any base t v)
  (hW : DataW.Whole enc Tryz.prog Tryz.f7.params.toList Rows.workersRunsAreRightSpec.vars false W args.toList ds gs before) :
  Calls Tryz.prog 7 args W fun e W' => ∃ v, e = .returned v ∧ Rows.workersRunsAreRightSpec.post enc Tryz.prog Tryz.f7 false true false false W args v W' := by
 have hval := hval0
 have hW' := hW
 obtain ⟨p, q, hA0, hV, rfl, hfz, hnd⟩ := hW
 have hA : DataW.TrodAll enc Tryz.prog W 0 (fun _ => true) true Tryz.f7.params.toList args.toList ds p := hA0
 rw [Tryz.params7] at hA hval
 obtain ⟨v0, vs0, d0, ds0, p0, q0, hargs, rfl, rfl, h0, r0⟩ := trodAll_cons hA
 obtain ⟨rfl, rfl, rfl⟩ := trodAll_nil r0
 obtain rfl : args = #[v0] := by cases args; simp_all
 obtain ⟨rfl, rfl⟩ := trodVars_none hV
 have m0 := h0
 have lt0 : ∀ x ∈ p0, x.block < W.heap.size := by obtain ⟨m, hm⟩ := m0; exact DataW.trod_lt m _ _ _ hm
 obtain ⟨a0, rfl, k0, b0⟩ := param_struct Tryz.underlying26 opens_Farm (hval 0 26 v0 rfl rfl) h0
 clear hA0 hval0
 refine (law_run a0 W k0).mono fun e W' ⟨he, bel⟩ => ?_
 subst he
 exact ⟨_, rfl, _, _, _, [], _, [], hW', trodAll_mk1 (shut_bool Tryz.underlying4 _), (trodAll_cons_mk (Below.trod laidOut (by kernel_rfl) (of_decide_eq_true (by kernel_rfl)) m0 bel lt0) trodAll_mk0), rfl, bel.frame _, fun h => by cases h⟩

/-- the two tables, laid -/
noncomputable def laidWorld (os : Os) : World :=
 let put (h : Array Obj) (g : Nat) (cs : Array Value) : Array Obj := h.modify g fun
  | .cells _ t frozen => .cells cs t frozen
  | o => o
 { World.holding Tryz.prog os ⟨#[], #[], []⟩ with heap := put (put (World.holding Tryz.prog os ⟨#[], #[], []⟩).heap 1 (Lib.firstTab.map fun z => Value.int .u8 z).toArray) 2 ((List.range 16).flatMap fun i => [Value.int .u8 (Lib.accLo i), Value.int .u8 (Lib.accHi i)]).toArray }
set_option maxRecDepth 1000000 in
theorem laid_met (os : Os) : laidMet Tryz.prog Rows.workersRunsAreRightRow.laid ((laidWorld os).forCall (fun _ _ => 0) ⟨#[], #[.agg #[.slice none 0 0, .slice none 0 0, .slice none 0 0, .int .i64 0, .bool false]], []⟩).memory :=
 laidMet_of_run' 8 (by kernel_rfl) (by kernel_rfl)
theorem reads (os : Os) {H : Type} (enc : TypeId × Value → H) : ∃ places, DataW.whole enc Tryz.prog ((laidWorld os).forCall (fun _ _ => 0) ⟨#[], #[.agg #[.slice none 0 0, .slice none 0 0, .slice none 0 0, .int .i64 0, .bool false]], []⟩).memory Tryz.f7.params.toList Rows.workersRunsAreRightSpec.vars false (#[.agg #[.slice none 0 0, .slice none 0 0, .slice none 0 0, .int .i64 0, .bool false]] : Array Value).toList 8 = some ([.agg [.nil, .nil, .nil, .lit (.int .i64 0), .lit (.bool false)]], [], places) :=
 ⟨[], by kernel_rfl⟩

set_option maxRecDepth 100000 in
theorem lifted (os : Os) (started : os.Started) (H : Type) (enc : TypeId × Value → H) (F : Stop.Interp) :
  ReturnsInHanded {} Tryz.checked os 7 .any ((OpenSpec.ofChange Rows.workersRunsAreRightSpec).preRow enc Tryz.prog Tryz.f7 Rows.workersRunsAreRightRow.domain false Rows.workersRunsAreRightRow.laid) (((OpenSpec.ofChange Rows.workersRunsAreRightSpec).at F).post enc Tryz.prog Tryz.f7 false true false false) := by
 obtain ⟨places, hx⟩ := reads os enc
 refine returnsInHanded_of_row (C := Tryz.checked) (s := (OpenSpec.ofChange Rows.workersRunsAreRightSpec)) own started (by kernel_rfl) Tryz.func7
  (witness_row_at (enc := enc) (C := Tryz.checked) false (laidWorld os) #[.agg #[.slice none 0 0, .slice none 0 0, .slice none 0 0, .int .i64 0, .bool false]] rfl (by kernel_rfl) (by kernel_rfl) (by kernel_rfl)
   (OpenSpec.preRow_of_cond 8 hx (by kernel_rfl) (fun k hk => by cases hk) (by kernel_rfl) (laid_met os))) ?_
 intro W base args ds gs before hval hW _ hcond hsz hlaid hsh _
 exact contract H enc W base args ds gs before hval hW

theorem said : Rows.WorkersRunsAreRightSaid :=
 OpenClaim.holds_of_cond 7 Tryz.f7 rfl rfl rfl rfl rfl rfl rfl ⟨rfl, rfl, rfl, rfl, rfl⟩ rfl rfl rfl rfl rfl (by kernel_rfl) Tryz.func7 (by kernel_rfl)
  (of_decide_eq_true (by kernel_rfl)) (by unfold Func.isWrapper; first | (rw [if_pos (by decide +kernel)]; kernel_rfl) | (rw [if_neg (by decide +kernel)]; exact ⟨rfl, rfl⟩))
  (fun os started H enc _ F => by rw [OpenClaim.pre_eq_preRow]; exact lifted os started H enc F)

theorem plain (f : FuncId) (fn : Func) (hf : Tryz.pinned.checked.prog.funcNamed "smithyard/smithyardlaw9.WorkersRunsAreRight" = some f) (hfn : Tryz.pinned.checked.prog.funcs[f]? = some fn) :
  false = Tryz.pinned.checked.prog.looks [] ∧ ∀ (j : Nat) t, fn.params[j]? = some t → Tryz.pinned.checked.prog.wantsStandIn t = false := by
 obtain rfl : f = 7 := Option.some.inj ((show Tryz.prog.funcNamed "smithyard/smithyardlaw9.WorkersRunsAreRight" = some 7 by kernel_rfl).symm.trans hf) |>.symm
 obtain rfl : fn = Tryz.f7 := (Option.some.inj (Tryz.func7.symm.trans hfn)).symm
 refine ⟨by kernel_rfl, fun j t ht => ?_⟩
 rw [Tryz.params7] at ht
 have hm : t = 26 := by have := Array.mem_of_getElem? ht; simpa using this
 obtain rfl := hm
 ·exact (show Tryz.prog.wantsStandIn 26 = false by kernel_rfl)

theorem card : Rows.WorkersRunsAreRightCardSaid :=
 Claim7.holds_tied_plain_at .later [] _ _ _ _ said (fun _ h => by cases h) (by kernel_rfl) (fun _ h => by cases h) workersRunsAreRight_row_tie rfl ⟨rfl, rfl⟩ (by kernel_rfl) rfl plain (by kernel_rfl)
end Go.Proofs.YtbnkoefljcekbaaGreatDoor.workersRunsAreRight
