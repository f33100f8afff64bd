/-
  smithyardlaw10.TrialsShardsMatchSpec: the card of Rows.TrialsShardsMatchSpecUptoSaid: for every input of bulk at most 1048576 the law returns true, and each argument reads as it did. The row's step, printed by a program of mine (frame2.py) over the walk 'law_match'.
-/
import Derived.Test.YtpcgfodiikljdaaDoorLawMatchC10
import Derived.Test.YtpcgfodiikljdaaDoorShelfB
import Derived.Test.YtpcgfodiikljdaaDoorCards
import Derived.Test.YtpcgfodiikljdaaDoorTie
import Derived.OpenShut
import Derived.ShutString
import Derived.ChangeOld
import Derived.Deep.DeepHandedRow
import Derived.Lib.LaidTab
import Derived.Lib.LaidU8
import Derived.JoinedCond
import Derived.Deep.CondSized
namespace Go.Proofs.YtpcgfodiikljdaaDoor.trialsShardsMatchSpec
open Go.Proofs.YtpcgfodiikljdaaDoor.C10
open Go.ChangeShapes Go.WideShapes Go.ChangeAt Go.RowKit
open Go.ChangeMaps (open_string shut_string)
set_option linter.unusedVariables false

theorem own : ownKnob Tryd.prog.godebug = none := by kernel_rfl
theorem laidOut : laidOutB Tryd.prog = true := by kernel_rfl

set_option maxRecDepth 100000 in
theorem contract (H : Type) (enc : TypeId × Value → H) (W : World) (base : Nat) (args : Array Value) (ds gs : List (DataW H)) (before : List MemPlace)
    (hval0 : ∀ (j : Nat) t v, Tryd.f4.params[j]? = some t → args[j]? = some v → Value.okWide Tryd.prog W .any base t v)
    (hW : DataW.Whole enc Tryd.prog Tryd.f4.params.toList Rows.trialsShardsMatchSpecSpec.vars false W args.toList ds gs before) (hmx : MaxLenAt W) (hk : Rows.uptoSmall H (ds ++ gs) = true) :
    Calls Tryd.prog 4 args W fun e W' => ∃ v, e = .returned v ∧ Rows.trialsShardsMatchSpecSpec.post enc Tryd.prog Tryd.f4 false true false false W args v W' := by
  have hval := hval0
  have hW' := hW
  obtain ⟨p, q, hA0, hV, rfl, hfz, hnd⟩ := hW
  have hA : DataW.TrodAll enc Tryd.prog W 0 (fun _ => true) true Tryd.f4.params.toList args.toList ds p := hA0
  rw [Tryd.params4] at hA hval
  obtain ⟨v0, vs0, d0, ds0, p0, q0, hargs, rfl, rfl, h0, r0⟩ := trodAll_cons hA
  obtain ⟨v1, vs1, d1, ds1, p1, q1, rfl, rfl, rfl, h1, r1⟩ := trodAll_cons r0
  obtain ⟨v2, vs2, d2, ds2, p2, q2, rfl, rfl, rfl, h2, r2⟩ := trodAll_cons r1
  obtain ⟨rfl, rfl, rfl⟩ := trodAll_nil r2
  obtain rfl : args = #[v0, v1, v2] := by cases args; simp_all
  obtain ⟨rfl, rfl⟩ := trodVars_none hV
  have m0 := h0
  have lt0 : ∀ x ∈ p0, x.block < W.heap.size := by obtain ⟨m, hm⟩ := m0; exact DataW.trod_lt m _ _ _ hm
  obtain ⟨a0, rfl, k0, b0⟩ := param_struct Tryd.underlying24 opens_Test (hval 0 24 v0 rfl rfl) h0
  obtain ⟨a1, rfl, rfl, rfl, w1⟩ := open_int Tryd.underlying3 (hval 1 3 v1 rfl rfl) h1
  have k1 : RInt.ok W a1 := by show I64 a1; simpa [I64, Lit.wf, IntKind.min, IntKind.max, IntKind.signed, IntKind.bits] using w1
  have m2 := h2
  have lt2 : ∀ x ∈ p2, x.block < W.heap.size := by obtain ⟨m, hm⟩ := m2; exact DataW.trod_lt m _ _ _ hm
  obtain ⟨a2, rfl, k2, b2⟩ := param_slice Tryd.underlying25 opens_t_rows (hval 2 25 v2 rfl rfl) h2
  clear hA0 hval0
  have hbulk : RTest.bulk a0 + RInt.bulk a1 + (RSl (RSl RStr)).bulk a2 ≤ 1048576 := by
    have hk2 := of_decide_eq_true hk
    simp only [List.append_nil, Rows.uptoBulkAll] at hk2
    have b1 : RInt.bulk a1 ≤ Rows.uptoBulk (DataW.lit (H := H) (.int .i64 a1)) := bulk_one _
    omega
  refine (law_match a0 a1 a2 W k0 k1 k2 hbulk hmx).mono fun e W' ⟨he, bel⟩ => ?_
  subst he
  exact ⟨_, rfl, _, _, _, [], _, [], hW', trodAll_mk1 (shut_bool Tryd.underlying4 _), (trodAll_cons_mk (Below.trod laidOut (by kernel_rfl) (of_decide_eq_true (by kernel_rfl)) m0 bel lt0) (trodAll_cons_mk (shut_int Tryd.underlying3 w1) (trodAll_cons_mk (Below.trod laidOut (by kernel_rfl) (of_decide_eq_true (by kernel_rfl)) m2 bel lt2) trodAll_mk0))), rfl, bel.frame _, fun h => by cases h⟩

/-- the two tables, laid -/
noncomputable def laidWorld (os : Os) : World :=
  let put (h : Array Obj) (g : Nat) (cs : Array Value) : Array Obj := h.modify g fun
    | .cells _ t frozen => .cells cs t frozen
    | o => o
  { World.holding Tryd.prog os ⟨#[], #[], []⟩ with heap := put (put (World.holding Tryd.prog os ⟨#[], #[], []⟩).heap 1 (Lib.firstTab.map fun z => Value.int .u8 z).toArray) 2 ((List.range 16).flatMap fun i => [Value.int .u8 (Lib.accLo i), Value.int .u8 (Lib.accHi i)]).toArray }
set_option maxRecDepth 1000000 in
theorem laid_met (os : Os) : laidMet Tryd.prog Rows.trialsShardsMatchSpecUptoRow.laid ((laidWorld os).forCall (fun _ _ => 0) ⟨#[], #[.agg #[.string ByteArray.empty, .slice none 0 0], .int .i64 0, .slice none 0 0], []⟩).memory :=
  laidMet_of_run' 8 (by kernel_rfl) (by kernel_rfl)
theorem reads (os : Os) {H : Type} (enc : TypeId × Value → H) : ∃ places, DataW.whole enc Tryd.prog ((laidWorld os).forCall (fun _ _ => 0) ⟨#[], #[.agg #[.string ByteArray.empty, .slice none 0 0], .int .i64 0, .slice none 0 0], []⟩).memory Tryd.f4.params.toList Rows.trialsShardsMatchSpecSpec.vars false (#[.agg #[.string ByteArray.empty, .slice none 0 0], .int .i64 0, .slice none 0 0] : Array Value).toList 8 = some ([.agg [.lit (.string []), .nil], .lit (.int .i64 0), .nil], [], places) :=
  ⟨[], by kernel_rfl⟩

set_option maxRecDepth 100000 in
theorem lifted (os : Os) (started : os.Started) (H : Type) (enc : TypeId × Value → H) (F : Stop.Interp) :
    ReturnsInHanded {} Tryd.checked os 4 .any ((Rows.OpenSpec.upto Rows.trialsShardsMatchSpecSpec).preRow enc Tryd.prog Tryd.f4 Rows.trialsShardsMatchSpecUptoRow.domain false Rows.trialsShardsMatchSpecUptoRow.laid) (((Rows.OpenSpec.upto Rows.trialsShardsMatchSpecSpec).at F).post enc Tryd.prog Tryd.f4 false true false false) := by
  obtain ⟨places, hx⟩ := reads os enc
  refine returnsInHanded_of_row (C := Tryd.checked) (s := (Rows.OpenSpec.upto Rows.trialsShardsMatchSpecSpec)) own started (by kernel_rfl) Tryd.func4
    (witness_row_at (enc := enc) (C := Tryd.checked) false (laidWorld os) #[.agg #[.string ByteArray.empty, .slice none 0 0], .int .i64 0, .slice none 0 0] rfl (by kernel_rfl) (by kernel_rfl) (by kernel_rfl)
      (OpenSpec.preRow_of_cond 8 hx (by kernel_rfl) (fun k hk => by cases hk; kernel_rfl) (by kernel_rfl) (laid_met os))) ?_
  intro W base args ds gs before hval hW _ hcond hsz hlaid hsh _
  exact contract H enc W base args ds gs before hval hW (Tryd.laysM146.s1_3 W hsh) (hcond _ rfl)

theorem said : Rows.TrialsShardsMatchSpecUptoSaid :=
  OpenClaim.holds_of_cond 4 Tryd.f4 rfl rfl rfl rfl rfl rfl rfl ⟨rfl, rfl, rfl, rfl, rfl⟩ rfl rfl rfl rfl rfl (by kernel_rfl) Tryd.func4 (by kernel_rfl)
    (of_decide_eq_true (by kernel_rfl)) (by unfold Func.isWrapper; first | (rw [if_pos (by decide +kernel)]; kernel_rfl) | (rw [if_neg (by decide +kernel)]; exact ⟨rfl, rfl⟩))
    (fun os started H enc _ F => by rw [OpenClaim.pre_eq_preRow]; exact lifted os started H enc F)

theorem plain (f : FuncId) (fn : Func) (hf : Tryd.pinned.checked.prog.funcNamed "smithyard/smithyardlaw10.TrialsShardsMatchSpec" = some f) (hfn : Tryd.pinned.checked.prog.funcs[f]? = some fn) :
    false = Tryd.pinned.checked.prog.looks [] ∧ ∀ (j : Nat) t, fn.params[j]? = some t → Tryd.pinned.checked.prog.wantsStandIn t = false := by
  obtain rfl : f = 4 := Option.some.inj ((show Tryd.prog.funcNamed "smithyard/smithyardlaw10.TrialsShardsMatchSpec" = some 4 by kernel_rfl).symm.trans hf) |>.symm
  obtain rfl : fn = Tryd.f4 := (Option.some.inj (Tryd.func4.symm.trans hfn)).symm
  refine ⟨by kernel_rfl, fun j t ht => ?_⟩
  rw [Tryd.params4] at ht
  have hm : t = 24 ∨ t = 3 ∨ t = 25 := by have := Array.mem_of_getElem? ht; simpa using this
  rcases hm with rfl | rfl | rfl
  · exact (show Tryd.prog.wantsStandIn 24 = false by kernel_rfl)
  · exact (show Tryd.prog.wantsStandIn 3 = false by kernel_rfl)
  · exact (show Tryd.prog.wantsStandIn 25 = false by kernel_rfl)

theorem card : Rows.TrialsShardsMatchSpecUptoCardSaid :=
  Claim7.holds_tied_plain_at .later [] _ _ _ _ said (fun _ h => by cases h) (by kernel_rfl) (fun _ h => by cases h) trialsShardsMatchSpecUpto_row_tie rfl ⟨rfl, rfl⟩ (by kernel_rfl) rfl plain (by kernel_rfl)
end Go.Proofs.YtpcgfodiikljdaaDoor.trialsShardsMatchSpec
