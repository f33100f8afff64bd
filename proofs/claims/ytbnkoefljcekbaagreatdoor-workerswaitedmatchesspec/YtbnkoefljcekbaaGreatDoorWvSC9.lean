/-
 Several texts of mine as one, without what is not wanted here: XEqJ, XLawWtd, XWtdRow.
-/
import Derived.Test.YtbnkoefljcekbaaGreatDoorWvFC9
import Derived.Test.YtbnkoefljcekbaaGreatDoorWvRC9
import Derived.Test.YtbnkoefljcekbaaGreatDoorWvKC9
import Derived.Test.YtbnkoefljcekbaaGreatDoorCards
import Derived.Test.YtbnkoefljcekbaaGreatDoorTie
import Derived.OpenShut
import Derived.ShutString
import Derived.ChangeOld
import Derived.Deep.DeepHandedRow
import Derived.Lib.LaidTab
import Derived.Lib.LaidU8
import Derived.JoinedCond
import Derived.Deep.CondSized
namespace Go.Proofs.YtbnkoefljcekbaaGreatDoor.C9
open Go.ChangeShapes Go.WideShapes Go.Deep Go.RowKit
set_option linter.unusedVariables false
set_option linter.unusedSimpArgs false

def EqRel (n : Nat) (w0 : World) (i : Value) (wr : World) : Prop := ∃ k : Nat, k ≤ n ∧ i = .int .i64 k ∧ Below w0.heap.size w0 wr

set_option maxRecDepth 100000 in
set_option maxHeartbeats 2000000 in
theorem equal_strs (A1 A2 : Option Addr) (n1 c1 n2 c2 : Nat) (L : List ByteArray) (w : World) (h1 : SlAt RStr w A1 n1 L) (h2 : SlAt RStr w A2 n2 L) (hn : n1 ≤ 9223372036854775807) :
  Calls Tryz.prog 21 #[.slice A1 n1 c1, .slice A2 n2 c2] w fun e w' => e = .returned (.bool true) ∧ Below w.heap.size w w' := by
 obtain rfl : n1 = n2 := h1.1.symm.trans h2.1
 have h1H := Lib.hid h1
 clear h1
 have h2H := Lib.hid h2
 clear h2
 go_enter Tryz.func21, Tryz.ntmps21
 go_wp2_with fail
 go_loopw [13] (fun i wr => EqRel n1 w i wr) (fun i _ => n1 - (intOf i).toNat)
 case atStart => exact ⟨0, Nat.zero_le _, rfl, Below.refl _ _⟩
 case round =>
  obtain ⟨k, hk, rfl, hb⟩ := hrel
  by_cases hlt : k < n1
  ·obtain ⟨b1, o1, hA1, hd1⟩ := h1H.out.2.1 (by omega)
   obtain ⟨b2, o2, hA2, hd2⟩ := h2H.out.2.1 (by omega)
   subst hA1
   subst hA2
   obtain ⟨x, hx⟩ : ∃ x, L[k]? = some x := ⟨L[k]'(by have := h1H.out.1; omega), List.getElem?_eq_getElem _⟩
   have c0 : wr.cell? ⟨b1, o1 + k, none⟩ = some (.string x) := by
    have h := hd1 k x hx 0 (.string x) rfl
    have := (hb.cell (cell?_lt h)).trans h
    simpa [RStr] using this
   have d0 : wr.cell? ⟨b2, o2 + k, none⟩ = some (.string x) := by
    have h := hd2 k x hx 0 (.string x) rfl
    have := (hb.cell (cell?_lt h)).trans h
    simpa [RStr] using this
   have R : ∀ nq, EqRel n1 w (.int .i64 (k + 1)) (wr.drewN nq) := fun nq => ⟨k + 1, by omega, by go_num, bel_drewN hb nq⟩
   clear hd1 hd2
   have hxH := Lib.hid hx
   clear hx
   have hbH := Lib.hid hb
   clear hb
   have RH := Lib.hid R
   clear R
   go_wp2_with fail
   go_quiet (fail)
   go_wp2
   refine ⟨?rel, ?measure⟩
   case measure => (simp [intOf]; omega)
   case rel => first | exact (RH.out _) | exact ⟨rfl, (RH.out _)⟩ | ((try refine ⟨rfl, ?_⟩); (repeat apply Exists.intro); refine ⟨(RH.out _), ?_⟩; ((repeat' apply And.intro) <;> rfl))
  ·have hbH := Lib.hid hb
   clear hb
   go_wp2
   go_ret
   exact ⟨rfl, hbH.out⟩


end Go.Proofs.YtbnkoefljcekbaaGreatDoor.C9

namespace Go.Proofs.YtbnkoefljcekbaaGreatDoor.C9
open Go.ChangeShapes Go.WideShapes Go.Deep Go.RowKit Go.Maps
set_option linter.unusedVariables false
set_option linter.unusedSimpArgs false

set_option maxRecDepth 100000 in
set_option maxHeartbeats 8000000 in
theorem law_wtd (x : Farm) (a1 : SlD Run) (w : World) (hx : RFarm.ok w x) (k1 : (RSl RRun).ok w a1) :
  Calls Tryz.prog 8 #[.agg (RFarm.vals x).toArray, .slice a1.A a1.n a1.cap] w fun e w' => e = .returned (.bool true) ∧ Below w.heap.size w w' := by
 obtain ⟨A, n, cap, l⟩ := a1
 have hl : SlAt RRun w A n l := k1.1
 clear k1
 simp only [RFarm]
 obtain ⟨W1, hW1⟩ : ∃ Y, w.alloc (.cells #[.slice x.workers.A x.workers.n x.workers.cap, .slice x.works.A x.works.n x.works.cap, .slice x.lost.A x.lost.n x.lost.cap, .int .i64 x.tries, .bool x.doubles] 26) = Y := ⟨_, rfl⟩
 obtain ⟨xb, hxb⟩ : ∃ b, w.heap.size = b := ⟨_, rfl⟩
 have hba : Below w.heap.size w W1 := by rw [← hW1]; exact (Below.refl _ _).alloc (Nat.le_refl _) _
 have hx1 := RFarm.mono _ _ _ hba hx
 have hl1 := hl.below hba
 have c0 : W1.cell? ⟨xb, 0, none⟩ = some (.slice x.workers.A x.workers.n x.workers.cap) := by rw [← hW1, ← hxb]; exact cell_new _ _ _ 0
 have c1 : W1.cell? ⟨xb, 1, none⟩ = some (.slice x.works.A x.works.n x.works.cap) := by rw [← hW1, ← hxb]; exact cell_new _ _ _ 1
 have c2 : W1.cell? ⟨xb, 2, none⟩ = some (.slice x.lost.A x.lost.n x.lost.cap) := by rw [← hW1, ← hxb]; exact cell_new _ _ _ 2
 have c3 : W1.cell? ⟨xb, 3, none⟩ = some (.int .i64 x.tries) := by rw [← hW1, ← hxb]; exact cell_new _ _ _ 3
 have c4 : W1.cell? ⟨xb, 4, none⟩ = some (.bool x.doubles) := by rw [← hW1, ← hxb]; exact cell_new _ _ _ 4
 obtain ⟨c, hF⟩ : ∃ c, waitC x l = c := ⟨_, rfl⟩
 obtain ⟨Z, hZ⟩ : ∃ Z, (fun (e : Ending) (w' : World) => e = .returned (.bool true) ∧ Below w.heap.size w w') = Z := ⟨_, rfl⟩
 rw [hZ]
 have RZ : ∀ W, Below w.heap.size w W → Z (.returned (.bool true)) W := fun W h => by rw [← hZ]; exact ⟨rfl, h⟩
 have hZH := Lib.hid hZ
 clear hZ
 have RZH := Lib.hid RZ
 clear RZ
 have hxH := Lib.hid hx
 clear hx
 have hx1H := Lib.hid hx1
 clear hx1
 have hlH := Lib.hid hl
 clear hl
 have hl1H := Lib.hid hl1
 clear hl1
 have hW1H := Lib.hid hW1
 clear hW1
 have hxbH := Lib.hid hxb
 clear hxb
 have hbaH := Lib.hid hba
 clear hba
 have hFH := Lib.hid hF
 clear hF
 go_enter Tryz.func8, Tryz.ntmps8
 go_wp2_with fail
 rw [hW1H.out, hxbH.out]
 refine (Waited_any x A n cap l _ hx1H.out hl1H.out c hFH.out).mono ?_
 rintro e w1 hP
 have key : ∃ (A1 : Option Addr) (n1 cap1 : Nat), e = .returned (.tuple #[.slice A1 n1 cap1, .int .i64 c]) ∧ n1 ≤ 1000 ∧ (c ≠ 0 → n1 = 0) ∧ (c = 0 → SlAt RStr w1 A1 n1 (waitedF (momP x l) x l)) ∧ Below W1.heap.size W1 w1 := by
  rcases hP with ⟨h, e1, hb⟩ | ⟨h, A1, n1, cap1, e1, hs, hn, hb⟩
  ·exact ⟨none, 0, 0, e1, by omega, fun _ => rfl, fun h0 => absurd h0 h, hb⟩
  ·exact ⟨A1, n1, cap1, by rw [e1, h], hn, fun h0 => absurd h h0, fun _ => hs, hb⟩
 obtain ⟨A1, n1, cap1, rfl, hn1, hz1, hs1, hb1⟩ := key
 clear hP
 have c0 := keepC hb1 c0
 have c1 := keepC hb1 c1
 have c2 := keepC hb1 c2
 have c3 := keepC hb1 c3
 have c4 := keepC hb1 c4
 have hx2 := RFarm.mono _ _ _ hb1 hx1H.out
 have hl2 := hl1H.out.below hb1
 have hbb := hbaH.out.trans (hb1.mono hbaH.out.size)
 have hb1H := Lib.hid hb1
 clear hb1
 have hx2H := Lib.hid hx2
 clear hx2
 have hl2H := Lib.hid hl2
 clear hl2
 have hbbH := Lib.hid hbb
 clear hbb
 have hz1H := Lib.hid hz1
 clear hz1
 have hs1H := Lib.hid hs1
 clear hs1
 go_wp2_with fail
 refine (rWaited_any x A n cap l _ hx2H.out hl2H.out c hFH.out).mono ?_
 rintro e w2 hP
 have key : ∃ (A1 : Option Addr) (n1 cap1 : Nat), e = .returned (.tuple #[.slice A1 n1 cap1, .int .i64 c]) ∧ n1 ≤ 1000 ∧ (c ≠ 0 → n1 = 0) ∧ (c = 0 → SlAt RStr w2 A1 n1 (waitedF (momR x l) x l)) ∧ Below w1.heap.size w1 w2 := by
  rcases hP with ⟨h, e1, hb⟩ | ⟨h, A1, n1, cap1, e1, hs, hn, hb⟩
  ·exact ⟨none, 0, 0, e1, by omega, fun _ => rfl, fun h0 => absurd h0 h, hb⟩
  ·exact ⟨A1, n1, cap1, by rw [e1, h], hn, fun h0 => absurd h h0, fun _ => hs, hb⟩
 obtain ⟨A2, n2, cap2, rfl, hn2, hz2, hs2, hb2⟩ := key
 clear hP c0 c1 c2 c3 c4
 have hL : ∃ L, SlAt RStr w2 A1 n1 L ∧ SlAt RStr w2 A2 n2 L := by
  by_cases h0 : c = 0
  ·have h1 := hs2 h0
   have hfr : farmF x = 0 ∧ runsF l = 0 := by
    have h9 := hFH.out
    unfold waitC at h9
    by_cases a : farmF x = 0
    ·rw [if_pos a] at h9
     by_cases b : runsF l = 0
     ·exact ⟨a, b⟩
     ·rw [if_neg b] at h9; exact absurd (h9.trans h0) b
    ·rw [if_neg a] at h9; exact absurd (h9.trans h0) a
   have hok := farmOk_of hfr.1
   rw [← waited_same (fun r hr => by have := (runsF_facts hfr.2).2 r hr; omega) (fun y hy => by have := worker_times (hok.wk y hy); omega)] at h1
   exact ⟨_, (hs1H.out h0).below hb2, h1⟩
  ·have e1 := hz1H.out h0
   have e2 := hz2 h0
   subst e1 e2
   exact ⟨[], ⟨rfl, (fun h => absurd h (by omega)), fun y hy => by cases hy⟩, ⟨rfl, (fun h => absurd h (by omega)), fun y hy => by cases hy⟩⟩
 obtain ⟨L, hs3, hs4⟩ := hL
 have hbb2 := hbbH.out.trans (hb2.mono hbbH.out.size)
 clear hs2 hz2
 have hb2H := Lib.hid hb2
 clear hb2
 have hbb2H := Lib.hid hbb2
 clear hbb2
 have hs3H := Lib.hid hs3
 clear hs3
 have hs4H := Lib.hid hs4
 clear hs4
 go_wp2_with fail
 refine (equal_strs A1 A2 n1 cap1 n2 cap2 L w2 hs3H.out hs4H.out (by omega)).mono ?_
 rintro e w3 ⟨rfl, hb3⟩
 have hbb3 := hbb2H.out.trans (hb3.mono hbb2H.out.size)
 have hb3H := Lib.hid hb3
 clear hb3
 have hbb3H := Lib.hid hbb3
 clear hbb3
 go_wp2_with (go_at_call 15; refine (awake_any _).mono ?_; rintro e w9 ⟨rfl, hb9⟩)
 exact RZH.out _ (hbb3H.out.trans (hb9.mono hbb3H.out.size))
end Go.Proofs.YtbnkoefljcekbaaGreatDoor.C9

namespace Go.Proofs.YtbnkoefljcekbaaGreatDoor.workersWaitedMatchesSpec
open Go.Proofs.YtbnkoefljcekbaaGreatDoor.C9
open Go.ChangeShapes Go.WideShapes Go.ChangeAt Go.RowKit
open Go.ChangeMaps (open_string shut_string)
set_option linter.unusedVariables false

theorem own : ownKnob Tryz.prog.godebug = none := by kernel_rfl
theorem laidOut : laidOutB Tryz.prog = true := by kernel_rfl

set_option maxRecDepth 100000 in
theorem contract (H : Type) (enc : TypeId × Value → H) (W : World) (base : Nat) (args : Array Value) (ds gs : List (DataW H)) (before : List MemPlace)
  (hval0 : ∀ (j : Nat) t v, Tryz.f8.params[j]? = some t → args[j]? = some v → Value.okWide Tryz.prog W .any base t v)
  (hW : DataW.Whole enc Tryz.prog Tryz.f8.params.toList Rows.workersWaitedMatchesSpecSpec.vars false W args.toList ds gs before) :
  Calls Tryz.prog 8 args W fun e W' => ∃ v, e = .returned v ∧ Rows.workersWaitedMatchesSpecSpec.post enc Tryz.prog Tryz.f8 false true false false W args v W' := by
 have hval := hval0
 have hW' := hW
 obtain ⟨p, q, hA0, hV, rfl, hfz, hnd⟩ := hW
 have hA : DataW.TrodAll enc Tryz.prog W 0 (fun _ => true) true Tryz.f8.params.toList args.toList ds p := hA0
 rw [Tryz.params8] at hA hval
 obtain ⟨v0, vs0, d0, ds0, p0, q0, hargs, rfl, rfl, h0, r0⟩ := trodAll_cons hA
 obtain ⟨v1, vs1, d1, ds1, p1, q1, rfl, rfl, rfl, h1, r1⟩ := trodAll_cons r0
 obtain ⟨rfl, rfl, rfl⟩ := trodAll_nil r1
 obtain rfl : args = #[v0, v1] := by cases args; simp_all
 obtain ⟨rfl, rfl⟩ := trodVars_none hV
 have m0 := h0
 have lt0 : ∀ x ∈ p0, x.block < W.heap.size := by obtain ⟨m, hm⟩ := m0; exact DataW.trod_lt m _ _ _ hm
 obtain ⟨a0, rfl, k0, b0⟩ := param_struct Tryz.underlying26 opens_Farm (hval 0 26 v0 rfl rfl) h0
 have m1 := h1
 have lt1 : ∀ x ∈ p1, x.block < W.heap.size := by obtain ⟨m, hm⟩ := m1; exact DataW.trod_lt m _ _ _ hm
 obtain ⟨a1, rfl, k1, b1⟩ := param_slice Tryz.underlying27 opens_t_sl_Run (hval 1 27 v1 rfl rfl) h1
 clear hA0 hval0
 refine (law_wtd a0 a1 W k0 k1).mono fun e W' ⟨he, bel⟩ => ?_
 subst he
 exact ⟨_, rfl, _, _, _, [], _, [], hW', trodAll_mk1 (shut_bool Tryz.underlying4 _), (trodAll_cons_mk (Below.trod laidOut (by kernel_rfl) (of_decide_eq_true (by kernel_rfl)) m0 bel lt0) (trodAll_cons_mk (Below.trod laidOut (by kernel_rfl) (of_decide_eq_true (by kernel_rfl)) m1 bel lt1) trodAll_mk0)), rfl, bel.frame _, fun h => by cases h⟩

/-- the two tables, laid -/
noncomputable def laidWorld (os : Os) : World :=
 let put (h : Array Obj) (g : Nat) (cs : Array Value) : Array Obj := h.modify g fun
  | .cells _ t frozen => .cells cs t frozen
  | o => o
 { World.holding Tryz.prog os ⟨#[], #[], []⟩ with heap := put (put (World.holding Tryz.prog os ⟨#[], #[], []⟩).heap 1 (Lib.firstTab.map fun z => Value.int .u8 z).toArray) 2 ((List.range 16).flatMap fun i => [Value.int .u8 (Lib.accLo i), Value.int .u8 (Lib.accHi i)]).toArray }
set_option maxRecDepth 1000000 in
theorem laid_met (os : Os) : laidMet Tryz.prog Rows.workersWaitedMatchesSpecRow.laid ((laidWorld os).forCall (fun _ _ => 0) ⟨#[], #[.agg #[.slice none 0 0, .slice none 0 0, .slice none 0 0, .int .i64 0, .bool false], .slice none 0 0], []⟩).memory :=
 laidMet_of_run' 8 (by kernel_rfl) (by kernel_rfl)
theorem reads (os : Os) {H : Type} (enc : TypeId × Value → H) : ∃ places, DataW.whole enc Tryz.prog ((laidWorld os).forCall (fun _ _ => 0) ⟨#[], #[.agg #[.slice none 0 0, .slice none 0 0, .slice none 0 0, .int .i64 0, .bool false], .slice none 0 0], []⟩).memory Tryz.f8.params.toList Rows.workersWaitedMatchesSpecSpec.vars false (#[.agg #[.slice none 0 0, .slice none 0 0, .slice none 0 0, .int .i64 0, .bool false], .slice none 0 0] : Array Value).toList 8 = some ([.agg [.nil, .nil, .nil, .lit (.int .i64 0), .lit (.bool false)], .nil], [], places) :=
 ⟨[], by kernel_rfl⟩

set_option maxRecDepth 100000 in
theorem lifted (os : Os) (started : os.Started) (H : Type) (enc : TypeId × Value → H) (F : Stop.Interp) :
  ReturnsInHanded {} Tryz.checked os 8 .any ((OpenSpec.ofChange Rows.workersWaitedMatchesSpecSpec).preRow enc Tryz.prog Tryz.f8 Rows.workersWaitedMatchesSpecRow.domain false Rows.workersWaitedMatchesSpecRow.laid) (((OpenSpec.ofChange Rows.workersWaitedMatchesSpecSpec).at F).post enc Tryz.prog Tryz.f8 false true false false) := by
 obtain ⟨places, hx⟩ := reads os enc
 refine returnsInHanded_of_row (C := Tryz.checked) (s := (OpenSpec.ofChange Rows.workersWaitedMatchesSpecSpec)) own started (by kernel_rfl) Tryz.func8
  (witness_row_at (enc := enc) (C := Tryz.checked) false (laidWorld os) #[.agg #[.slice none 0 0, .slice none 0 0, .slice none 0 0, .int .i64 0, .bool false], .slice none 0 0] rfl (by kernel_rfl) (by kernel_rfl) (by kernel_rfl)
   (OpenSpec.preRow_of_cond 8 hx (by kernel_rfl) (fun k hk => by cases hk) (by kernel_rfl) (laid_met os))) ?_
 intro W base args ds gs before hval hW _ hcond hsz hlaid hsh _
 exact contract H enc W base args ds gs before hval hW

theorem said : Rows.WorkersWaitedMatchesSpecSaid :=
 OpenClaim.holds_of_cond 8 Tryz.f8 rfl rfl rfl rfl rfl rfl rfl ⟨rfl, rfl, rfl, rfl, rfl⟩ rfl rfl rfl rfl rfl (by kernel_rfl) Tryz.func8 (by kernel_rfl)
  (of_decide_eq_true (by kernel_rfl)) (by unfold Func.isWrapper; first | (rw [if_pos (by decide +kernel)]; kernel_rfl) | (rw [if_neg (by decide +kernel)]; exact ⟨rfl, rfl⟩))
  (fun os started H enc _ F => by rw [OpenClaim.pre_eq_preRow]; exact lifted os started H enc F)

theorem plain (f : FuncId) (fn : Func) (hf : Tryz.pinned.checked.prog.funcNamed "smithyard/smithyardlaw9.WorkersWaitedMatchesSpec" = some f) (hfn : Tryz.pinned.checked.prog.funcs[f]? = some fn) :
  false = Tryz.pinned.checked.prog.looks [] ∧ ∀ (j : Nat) t, fn.params[j]? = some t → Tryz.pinned.checked.prog.wantsStandIn t = false := by
 obtain rfl : f = 8 := Option.some.inj ((show Tryz.prog.funcNamed "smithyard/smithyardlaw9.WorkersWaitedMatchesSpec" = some 8 by kernel_rfl).symm.trans hf) |>.symm
 obtain rfl : fn = Tryz.f8 := (Option.some.inj (Tryz.func8.symm.trans hfn)).symm
 refine ⟨by kernel_rfl, fun j t ht => ?_⟩
 rw [Tryz.params8] at ht
 have hm : t = 26 ∨ t = 27 := by have := Array.mem_of_getElem? ht; simpa using this
 rcases hm with rfl | rfl
 ·exact (show Tryz.prog.wantsStandIn 26 = false by kernel_rfl)
 ·exact (show Tryz.prog.wantsStandIn 27 = false by kernel_rfl)

theorem card : Rows.WorkersWaitedMatchesSpecCardSaid :=
 Claim7.holds_tied_plain_at .later [] _ _ _ _ said (fun _ h => by cases h) (by kernel_rfl) (fun _ h => by cases h) workersWaitedMatchesSpec_row_tie rfl ⟨rfl, rfl⟩ (by kernel_rfl) rfl plain (by kernel_rfl)
end Go.Proofs.YtbnkoefljcekbaaGreatDoor.workersWaitedMatchesSpec
