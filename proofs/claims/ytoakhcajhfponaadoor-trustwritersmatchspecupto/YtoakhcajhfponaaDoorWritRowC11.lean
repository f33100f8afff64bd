/-
  smithyardlaw11.TrustWritersMatchSpec: the card of Rows.TrustWritersMatchSpecUptoSaid: for every input of bulk at most 1048576 the law returns true, and each argument reads as it did. The row's step, printed by a program of mine (frame2.py) over the walk 'law_writers'.
-/
import Derived.Test.YtoakhcajhfponaaDoorLawWritC11
import Derived.Test.YtoakhcajhfponaaDoorCards
import Derived.Test.YtoakhcajhfponaaDoorTie
import Derived.OpenShut
import Derived.ShutString
import Derived.ChangeOld
import Derived.Deep.DeepHandedRow
import Derived.Lib.LaidTab
import Derived.Lib.LaidU8
import Derived.JoinedCond
import Derived.Deep.CondSized
namespace Go.Proofs.YtoakhcajhfponaaDoor.trustWritersMatchSpec
open Go.Proofs.YtoakhcajhfponaaDoor.C11
open Go.ChangeShapes Go.WideShapes Go.ChangeAt Go.RowKit
open Go.ChangeMaps (open_string shut_string)
set_option linter.unusedVariables false

theorem own : ownKnob Tryd.prog.godebug = none := by kernel_rfl
theorem laidOut : laidOutB Tryd.prog = true := by kernel_rfl

set_option maxRecDepth 100000 in
theorem contract (H : Type) (enc : TypeId × Value → H) (W : World) (base : Nat) (args : Array Value) (ds gs : List (DataW H)) (before : List MemPlace)
    (hval0 : ∀ (j : Nat) t v, Tryd.f5.params[j]? = some t → args[j]? = some v → Value.okWide Tryd.prog W .any base t v)
    (hW : DataW.Whole enc Tryd.prog Tryd.f5.params.toList Rows.trustWritersMatchSpecSpec.vars false W args.toList ds gs before) (hmx : MaxLenAt W) (hk : Rows.uptoSmall H (ds ++ gs) = true) :
    Calls Tryd.prog 5 args W fun e W' => ∃ v, e = .returned v ∧ Rows.trustWritersMatchSpecSpec.post enc Tryd.prog Tryd.f5 false true false false W args v W' := by
  have hval := hval0
  have hW' := hW
  obtain ⟨p, q, hA0, hV, rfl, hfz, hnd⟩ := hW
  have hA : DataW.TrodAll enc Tryd.prog W 0 (fun _ => true) true Tryd.f5.params.toList args.toList ds p := hA0
  rw [Tryd.params5] at hA hval
  obtain ⟨v0, vs0, d0, ds0, p0, q0, hargs, rfl, rfl, h0, r0⟩ := trodAll_cons hA
  obtain ⟨v1, vs1, d1, ds1, p1, q1, rfl, rfl, rfl, h1, r1⟩ := trodAll_cons r0
  obtain ⟨v2, vs2, d2, ds2, p2, q2, rfl, rfl, rfl, h2, r2⟩ := trodAll_cons r1
  obtain ⟨v3, vs3, d3, ds3, p3, q3, rfl, rfl, rfl, h3, r3⟩ := trodAll_cons r2
  obtain ⟨rfl, rfl, rfl⟩ := trodAll_nil r3
  obtain rfl : args = #[v0, v1, v2, v3] := by cases args; simp_all
  obtain ⟨rfl, rfl⟩ := trodVars_none hV
  have m0 := h0
  have lt0 : ∀ x ∈ p0, x.block < W.heap.size := by obtain ⟨m, hm⟩ := m0; exact DataW.trod_lt m _ _ _ hm
  obtain ⟨a0, rfl, k0, b0⟩ := param_slice Tryd.underlying46 opens_t_sl_Writer (hval 0 46 v0 rfl rfl) h0
  obtain ⟨a1, rfl, rfl, rfl, w1⟩ := open_string Tryd.underlying9 (hval 1 9 v1 rfl rfl) h1
  have k1 : RStr.ok W a1 := w1
  obtain ⟨a2, rfl, rfl, rfl, w2⟩ := open_string Tryd.underlying9 (hval 2 9 v2 rfl rfl) h2
  have k2 : RStr.ok W a2 := w2
  obtain ⟨a3, rfl, rfl, rfl, w3⟩ := open_int Tryd.underlying3 (hval 3 3 v3 rfl rfl) h3
  have k3 : RInt.ok W a3 := by show I64 a3; simpa [I64, Lit.wf, IntKind.min, IntKind.max, IntKind.signed, IntKind.bits] using w3
  clear hA0 hval0
  have hbulk : (RSl RWriter).bulk a0 + RStr.bulk a1 + RStr.bulk a2 + RInt.bulk a3 ≤ 1048576 := by
    have hk2 := of_decide_eq_true hk
    simp only [List.append_nil, Rows.uptoBulkAll] at hk2
    have b1 : RStr.bulk a1 ≤ Rows.uptoBulk (DataW.lit (H := H) (.string a1.data.toList)) := by simp [RStr, Rows.uptoBulk]
    have b2 : RStr.bulk a2 ≤ Rows.uptoBulk (DataW.lit (H := H) (.string a2.data.toList)) := by simp [RStr, Rows.uptoBulk]
    have b3 : RInt.bulk a3 ≤ Rows.uptoBulk (DataW.lit (H := H) (.int .i64 a3)) := bulk_one _
    omega
  refine (law_writers a0 a1 a2 a3 W k0 k1 k2 k3 hbulk hmx).mono fun e W' ⟨he, bel⟩ => ?_
  subst he
  exact ⟨_, rfl, _, _, _, [], _, [], hW', trodAll_mk1 (shut_bool Tryd.underlying4 _), (trodAll_cons_mk (Below.trod laidOut (by kernel_rfl) (of_decide_eq_true (by kernel_rfl)) m0 bel lt0) (trodAll_cons_mk (shut_string Tryd.underlying9 w1) (trodAll_cons_mk (shut_string Tryd.underlying9 w2) (trodAll_cons_mk (shut_int Tryd.underlying3 w3) trodAll_mk0)))), rfl, bel.frame _, fun h => by cases h⟩

/-- the two tables, laid -/
noncomputable def laidWorld (os : Os) : World :=
  let put (h : Array Obj) (g : Nat) (cs : Array Value) : Array Obj := h.modify g fun
    | .cells _ t frozen => .cells cs t frozen
    | o => o
  { World.holding Tryd.prog os ⟨#[], #[], []⟩ with heap := put (put (World.holding Tryd.prog os ⟨#[], #[], []⟩).heap 1 (Lib.firstTab.map fun z => Value.int .u8 z).toArray) 2 ((List.range 16).flatMap fun i => [Value.int .u8 (Lib.accLo i), Value.int .u8 (Lib.accHi i)]).toArray }
set_option maxRecDepth 1000000 in
theorem laid_met (os : Os) : laidMet Tryd.prog Rows.trustWritersMatchSpecUptoRow.laid ((laidWorld os).forCall (fun _ _ => 0) ⟨#[], #[.slice none 0 0, .string ByteArray.empty, .string ByteArray.empty, .int .i64 0], []⟩).memory :=
  laidMet_of_run' 8 (by kernel_rfl) (by kernel_rfl)
theorem reads (os : Os) {H : Type} (enc : TypeId × Value → H) : ∃ places, DataW.whole enc Tryd.prog ((laidWorld os).forCall (fun _ _ => 0) ⟨#[], #[.slice none 0 0, .string ByteArray.empty, .string ByteArray.empty, .int .i64 0], []⟩).memory Tryd.f5.params.toList Rows.trustWritersMatchSpecSpec.vars false (#[.slice none 0 0, .string ByteArray.empty, .string ByteArray.empty, .int .i64 0] : Array Value).toList 8 = some ([.nil, .lit (.string []), .lit (.string []), .lit (.int .i64 0)], [], places) :=
  ⟨[], by kernel_rfl⟩

set_option maxRecDepth 100000 in
theorem lifted (os : Os) (started : os.Started) (H : Type) (enc : TypeId × Value → H) (F : Stop.Interp) :
    ReturnsInHanded {} Tryd.checked os 5 .any ((Rows.OpenSpec.upto Rows.trustWritersMatchSpecSpec).preRow enc Tryd.prog Tryd.f5 Rows.trustWritersMatchSpecUptoRow.domain false Rows.trustWritersMatchSpecUptoRow.laid) (((Rows.OpenSpec.upto Rows.trustWritersMatchSpecSpec).at F).post enc Tryd.prog Tryd.f5 false true false false) := by
  obtain ⟨places, hx⟩ := reads os enc
  refine returnsInHanded_of_row (C := Tryd.checked) (s := (Rows.OpenSpec.upto Rows.trustWritersMatchSpecSpec)) own started (by kernel_rfl) Tryd.func5
    (witness_row_at (enc := enc) (C := Tryd.checked) false (laidWorld os) #[.slice none 0 0, .string ByteArray.empty, .string ByteArray.empty, .int .i64 0] rfl (by kernel_rfl) (by kernel_rfl) (by kernel_rfl)
      (OpenSpec.preRow_of_cond 8 hx (by kernel_rfl) (fun k hk => by cases hk; kernel_rfl) (by kernel_rfl) (laid_met os))) ?_
  intro W base args ds gs before hval hW _ hcond hsz _ hsh _
  exact contract H enc W base args ds gs before hval hW (Tryd.laysM146.s1_3 W hsh) (hcond _ rfl)

theorem said : Rows.TrustWritersMatchSpecUptoSaid :=
  OpenClaim.holds_of_cond 5 Tryd.f5 rfl rfl rfl rfl rfl rfl rfl ⟨rfl, rfl, rfl, rfl, rfl⟩ rfl rfl rfl rfl rfl (by kernel_rfl) Tryd.func5 (by kernel_rfl)
    (of_decide_eq_true (by kernel_rfl)) (by unfold Func.isWrapper; first | (rw [if_pos (by decide +kernel)]; kernel_rfl) | (rw [if_neg (by decide +kernel)]; exact ⟨rfl, rfl⟩))
    (fun os started H enc _ F => by rw [OpenClaim.pre_eq_preRow]; exact lifted os started H enc F)

theorem plain (f : FuncId) (fn : Func) (hf : Tryd.pinned.checked.prog.funcNamed "smithyard/smithyardlaw11.TrustWritersMatchSpec" = some f) (hfn : Tryd.pinned.checked.prog.funcs[f]? = some fn) :
    false = Tryd.pinned.checked.prog.looks [] ∧ ∀ (j : Nat) t, fn.params[j]? = some t → Tryd.pinned.checked.prog.wantsStandIn t = false := by
  obtain rfl : f = 5 := Option.some.inj ((show Tryd.prog.funcNamed "smithyard/smithyardlaw11.TrustWritersMatchSpec" = some 5 by kernel_rfl).symm.trans hf) |>.symm
  obtain rfl : fn = Tryd.f5 := (Option.some.inj (Tryd.func5.symm.trans hfn)).symm
  refine ⟨by kernel_rfl, fun j t ht => ?_⟩
  rw [Tryd.params5] at ht
  have hm : t = 46 ∨ t = 9 ∨ t = 9 ∨ t = 3 := by have := Array.mem_of_getElem? ht; simpa using this
  rcases hm with rfl | rfl | rfl | rfl
  · exact (show Tryd.prog.wantsStandIn 46 = false by kernel_rfl)
  · exact (show Tryd.prog.wantsStandIn 9 = false by kernel_rfl)
  · exact (show Tryd.prog.wantsStandIn 9 = false by kernel_rfl)
  · exact (show Tryd.prog.wantsStandIn 3 = false by kernel_rfl)

theorem card : Rows.TrustWritersMatchSpecUptoCardSaid :=
  Claim7.holds_tied_plain_at .later [] _ _ _ _ said (fun _ h => by cases h) (by kernel_rfl) (fun _ h => by cases h) trustWritersMatchSpecUpto_row_tie rfl ⟨rfl, rfl⟩ (by kernel_rfl) rfl plain (by kernel_rfl)
end Go.Proofs.YtoakhcajhfponaaDoor.trustWritersMatchSpec
