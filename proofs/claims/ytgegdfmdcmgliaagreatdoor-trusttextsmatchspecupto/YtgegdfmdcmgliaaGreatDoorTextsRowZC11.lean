/-
  smithyardlaw11.TrustTextsMatchSpec: the card of Rows.TrustTextsMatchSpecUptoSaid: for every input of bulk at most 1048576 the law returns true, and each argument reads as it did. The row's step, printed by a program of mine (frame2.py) over the walk 'law_texts'.
-/
import Derived.Test.YtgegdfmdcmgliaaGreatDoorPowJ
import Derived.Test.YtgegdfmdcmgliaaGreatDoorTextsAllQC11
import Derived.Test.YtgegdfmdcmgliaaGreatDoorCards
import Derived.Test.YtgegdfmdcmgliaaGreatDoorTie
import Derived.OpenShut
import Derived.ShutString
import Derived.ChangeOld
import Derived.Deep.DeepHandedRow
import Derived.Lib.LaidTab
import Derived.Lib.LaidU8
import Derived.JoinedCond
import Derived.Deep.CondSized
namespace Go.Proofs.YtgegdfmdcmgliaaGreatDoor.trustTextsMatchSpec
open Go.Proofs.YtgegdfmdcmgliaaGreatDoor.C11
open Go.ChangeShapes Go.WideShapes Go.ChangeAt Go.RowKit
open Go.ChangeMaps (open_string shut_string)
set_option linter.unusedVariables false

theorem pow_row {W : World} (h : laidMetH Tryz.prog Rows.trustTextsMatchSpecUptoRow.laid W) : PowJ W := powJ_one (laidMetH.filter (fun x => x.1 == "internal/strconv.uint64pow10") h)
theorem own : ownKnob Tryz.prog.godebug = none := by kernel_rfl
theorem laidOut : laidOutB Tryz.prog = true := by kernel_rfl

set_option maxRecDepth 100000 in
theorem contract (H : Type) (enc : TypeId × Value → H) (W : World) (base : Nat) (args : Array Value) (ds gs : List (DataW H)) (before : List MemPlace)
    (hval0 : ∀ (j : Nat) t v, Tryz.f6.params[j]? = some t → args[j]? = some v → Value.okWide Tryz.prog W .any base t v)
    (hW : DataW.Whole enc Tryz.prog Tryz.f6.params.toList Rows.trustTextsMatchSpecSpec.vars false W args.toList ds gs before) (hmx : MaxLenAt W) (hk : Rows.uptoSmall H (ds ++ gs) = true) (hpw : PowJ W) :
    Calls Tryz.prog 6 args W fun e W' => ∃ v, e = .returned v ∧ Rows.trustTextsMatchSpecSpec.post enc Tryz.prog Tryz.f6 false true false false W args v W' := by
  have hval := hval0
  have hW' := hW
  obtain ⟨p, q, hA0, hV, rfl, hfz, hnd⟩ := hW
  have hA : DataW.TrodAll enc Tryz.prog W 0 (fun _ => true) true Tryz.f6.params.toList args.toList ds p := hA0
  rw [Tryz.params6] at hA hval
  obtain ⟨v0, vs0, d0, ds0, p0, q0, hargs, rfl, rfl, h0, r0⟩ := trodAll_cons hA
  obtain ⟨rfl, rfl, rfl⟩ := trodAll_nil r0
  obtain rfl : args = #[v0] := by cases args; simp_all
  obtain ⟨rfl, rfl⟩ := trodVars_none hV
  have m0 := h0
  have lt0 : ∀ x ∈ p0, x.block < W.heap.size := by obtain ⟨m, hm⟩ := m0; exact DataW.trod_lt m _ _ _ hm
  obtain ⟨a0, rfl, k0, b0⟩ := param_slice Tryz.underlying22 opens_t_sl_Claimed (hval 0 22 v0 rfl rfl) h0
  clear hA0 hval0
  have hbulk : (RSl RClaimed).bulk a0 ≤ 1048576 := by
    have hk2 := of_decide_eq_true hk
    simp only [List.append_nil, Rows.uptoBulkAll] at hk2
    omega
  refine (law_texts a0 W k0 hbulk hmx hpw).mono fun e W' ⟨he, bel⟩ => ?_
  subst he
  exact ⟨_, rfl, _, _, _, [], _, [], hW', trodAll_mk1 (shut_bool Tryz.underlying4 _), (trodAll_cons_mk (Below.trod laidOut (by kernel_rfl) (of_decide_eq_true (by kernel_rfl)) m0 bel lt0) trodAll_mk0), rfl, bel.frame _, fun h => by cases h⟩

/-- the two tables, laid -/
def litsOf : DataW Unit → List Value
  | .agg l => l.map fun
    | .lit (.int k n) => .int k n
    | _ => undef
  | _ => []
noncomputable def low : Nat := (World.holding Tryz.prog default ⟨#[], #[], []⟩).heap.size
noncomputable def laidWorld (os : Os) : World :=
  let put (h : Array Obj) (g : Nat) (cs : Array Value) : Array Obj := h.modify g fun
    | .cells _ t frozen => .cells cs t frozen
    | o => o
  { World.holding Tryz.prog os ⟨#[.cells #[.string ⟨#[118, 97, 108, 117, 101, 32, 111, 117, 116, 32, 111, 102, 32, 114, 97, 110, 103, 101]⟩] 186, .cells #[.string ⟨#[105, 110, 118, 97, 108, 105, 100, 32, 115, 121, 110, 116, 97, 120]⟩] 186], #[], []⟩ with heap := put (put (put (put (put (put (put (World.holding Tryz.prog os ⟨#[.cells #[.string ⟨#[118, 97, 108, 117, 101, 32, 111, 117, 116, 32, 111, 102, 32, 114, 97, 110, 103, 101]⟩] 186, .cells #[.string ⟨#[105, 110, 118, 97, 108, 105, 100, 32, 115, 121, 110, 116, 97, 120]⟩] 186], #[], []⟩).heap 6 ((litsOf Rows.laid_math_bits_deBruijn32tab).toArray)) 7 ((litsOf Rows.laid_math_bits_deBruijn64tab).toArray)) 3 ((litsOf Rows.laid_internal_strconv_uint64pow10).toArray)) 5 (((List.range 16).flatMap fun i => [Value.int .u8 (Lib.accLo i), Value.int .u8 (Lib.accHi i)]).toArray)) 2 (#[.iface 184 (.pointer (some ⟨low + 0, 0, none⟩))])) 1 (#[.iface 184 (.pointer (some ⟨low + 1, 0, none⟩))])) 4 ((Lib.firstTab.map fun z => Value.int .u8 z).toArray) }
set_option maxRecDepth 1000000 in
theorem laid_met (os : Os) : laidMet Tryz.prog Rows.trustTextsMatchSpecUptoRow.laid ((laidWorld os).forCall (fun _ _ => 0) ⟨#[], #[.slice none 0 0], []⟩).memory :=
  laidMet_of_run' 8 (by kernel_rfl) (by kernel_rfl)
theorem reads (os : Os) {H : Type} (enc : TypeId × Value → H) : ∃ places, DataW.whole enc Tryz.prog ((laidWorld os).forCall (fun _ _ => 0) ⟨#[], #[.slice none 0 0], []⟩).memory Tryz.f6.params.toList Rows.trustTextsMatchSpecSpec.vars false (#[.slice none 0 0] : Array Value).toList 8 = some ([.nil], [], places) :=
  ⟨[], by kernel_rfl⟩

set_option maxRecDepth 100000 in
theorem lifted (os : Os) (started : os.Started) (H : Type) (enc : TypeId × Value → H) (F : Stop.Interp) :
    ReturnsInHanded {} Tryz.checked os 6 .any ((Rows.OpenSpec.upto Rows.trustTextsMatchSpecSpec).preRow enc Tryz.prog Tryz.f6 Rows.trustTextsMatchSpecUptoRow.domain false Rows.trustTextsMatchSpecUptoRow.laid) (((Rows.OpenSpec.upto Rows.trustTextsMatchSpecSpec).at F).post enc Tryz.prog Tryz.f6 false true false false) := by
  obtain ⟨places, hx⟩ := reads os enc
  refine returnsInHanded_of_row (C := Tryz.checked) (s := (Rows.OpenSpec.upto Rows.trustTextsMatchSpecSpec)) own started (by kernel_rfl) Tryz.func6
    (witness_row_at (enc := enc) (C := Tryz.checked) false (laidWorld os) #[.slice none 0 0] rfl (by kernel_rfl) (by kernel_rfl) (by kernel_rfl)
      (OpenSpec.preRow_of_cond 8 hx (by kernel_rfl) (fun k hk => by cases hk; kernel_rfl) (by kernel_rfl) (laid_met os))) ?_
  intro W base args ds gs before hval hW _ hcond hsz hlaid hsh _
  exact contract H enc W base args ds gs before hval hW (Tryz.laysM146.s1_3 W hsh) (hcond _ rfl) (pow_row hlaid)

theorem said : Rows.TrustTextsMatchSpecUptoSaid :=
  OpenClaim.holds_of_cond 6 Tryz.f6 rfl rfl rfl rfl rfl rfl rfl ⟨rfl, rfl, rfl, rfl, rfl⟩ rfl rfl rfl rfl rfl (by kernel_rfl) Tryz.func6 (by kernel_rfl)
    (of_decide_eq_true (by kernel_rfl)) (by unfold Func.isWrapper; first | (rw [if_pos (by decide +kernel)]; kernel_rfl) | (rw [if_neg (by decide +kernel)]; exact ⟨rfl, rfl⟩))
    (fun os started H enc _ F => by rw [OpenClaim.pre_eq_preRow]; exact lifted os started H enc F)

theorem plain (f : FuncId) (fn : Func) (hf : Tryz.pinned.checked.prog.funcNamed "smithyard/smithyardlaw11.TrustTextsMatchSpec" = some f) (hfn : Tryz.pinned.checked.prog.funcs[f]? = some fn) :
    true = Tryz.pinned.checked.prog.looks [] ∧ ∀ (j : Nat) t, fn.params[j]? = some t → Tryz.pinned.checked.prog.wantsStandIn t = false := by
  obtain rfl : f = 6 := Option.some.inj ((show Tryz.prog.funcNamed "smithyard/smithyardlaw11.TrustTextsMatchSpec" = some 6 by kernel_rfl).symm.trans hf) |>.symm
  obtain rfl : fn = Tryz.f6 := (Option.some.inj (Tryz.func6.symm.trans hfn)).symm
  refine ⟨by kernel_rfl, fun j t ht => ?_⟩
  rw [Tryz.params6] at ht
  have hm : t = 22 := by have := Array.mem_of_getElem? ht; simpa using this
  obtain rfl := hm
  · exact (show Tryz.prog.wantsStandIn 22 = false by kernel_rfl)

theorem card : Rows.TrustTextsMatchSpecUptoCardSaid :=
  Claim7.holds_tied_plain_at .later [] _ _ _ _ said (fun _ h => by cases h) (by kernel_rfl) (fun _ h => by cases h) trustTextsMatchSpecUpto_row_tie rfl ⟨rfl, rfl⟩ (by kernel_rfl) rfl plain (by kernel_rfl)
end Go.Proofs.YtgegdfmdcmgliaaGreatDoor.trustTextsMatchSpec
