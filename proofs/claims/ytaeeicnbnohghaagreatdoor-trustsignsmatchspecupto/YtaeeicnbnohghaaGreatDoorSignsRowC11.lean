/-
  smithyardlaw11.TrustSignsMatchSpec: the card of Rows.TrustSignsMatchSpecUptoSaid: for every input of bulk at most 1048576 the law returns true, and each argument reads as it did. The row's step, printed by a program of mine (frame2.py) over the walk 'law_signs'.
-/
import Derived.Test.YtaeeicnbnohghaaGreatDoorPowRowC11
import Derived.Test.YtaeeicnbnohghaaGreatDoorLawSignsC11
import Derived.Test.YtaeeicnbnohghaaGreatDoorCards
import Derived.Test.YtaeeicnbnohghaaGreatDoorTie
import Derived.OpenShut
import Derived.ShutString
import Derived.ChangeOld
import Derived.Deep.DeepHandedRow
import Derived.Lib.LaidTab
import Derived.Lib.LaidU8
import Derived.JoinedCond
import Derived.Deep.CondSized
namespace Go.Proofs.YtaeeicnbnohghaaGreatDoor.trustSignsMatchSpec
open Go.Proofs.YtaeeicnbnohghaaGreatDoor.C11
open Go.ChangeShapes Go.WideShapes Go.ChangeAt Go.RowKit
open Go.ChangeMaps (open_string shut_string)
set_option linter.unusedVariables false

theorem pow_row {W : World} (h : laidMetH Tryz.prog Rows.trustSignsMatchSpecUptoRow.laid W) : PowTab W := pow_one (laidMetH.filter (fun x => x.1 == "internal/strconv.uint64pow10") h)
theorem own : ownKnob Tryz.prog.godebug = none := by kernel_rfl
theorem laidOut : laidOutB Tryz.prog = true := by kernel_rfl

set_option maxRecDepth 100000 in
theorem contract (H : Type) (enc : TypeId × Value → H) (W : World) (base : Nat) (args : Array Value) (ds gs : List (DataW H)) (before : List MemPlace)
    (hval0 : ∀ (j : Nat) t v, Tryz.f4.params[j]? = some t → args[j]? = some v → Value.okWide Tryz.prog W .any base t v)
    (hW : DataW.Whole enc Tryz.prog Tryz.f4.params.toList Rows.trustSignsMatchSpecSpec.vars false W args.toList ds gs before) (hmx : MaxLenAt W) (hk : Rows.uptoSmall H (ds ++ gs) = true) (hpw : PowTab W) :
    Calls Tryz.prog 4 args W fun e W' => ∃ v, e = .returned v ∧ Rows.trustSignsMatchSpecSpec.post enc Tryz.prog Tryz.f4 false true false false W args v W' := by
  have hval := hval0
  have hW' := hW
  obtain ⟨p, q, hA0, hV, rfl, hfz, hnd⟩ := hW
  have hA : DataW.TrodAll enc Tryz.prog W 0 (fun _ => true) true Tryz.f4.params.toList args.toList ds p := hA0
  rw [Tryz.params4] at hA hval
  obtain ⟨v0, vs0, d0, ds0, p0, q0, hargs, rfl, rfl, h0, r0⟩ := trodAll_cons hA
  obtain ⟨v1, vs1, d1, ds1, p1, q1, rfl, rfl, rfl, h1, r1⟩ := trodAll_cons r0
  obtain ⟨v2, vs2, d2, ds2, p2, q2, rfl, rfl, rfl, h2, r2⟩ := trodAll_cons r1
  obtain ⟨rfl, rfl, rfl⟩ := trodAll_nil r2
  obtain rfl : args = #[v0, v1, v2] := by cases args; simp_all
  obtain ⟨rfl, rfl⟩ := trodVars_none hV
  have m0 := h0
  have lt0 : ∀ x ∈ p0, x.block < W.heap.size := by obtain ⟨m, hm⟩ := m0; exact DataW.trod_lt m _ _ _ hm
  obtain ⟨a0, rfl, k0, b0⟩ := param_slice Tryz.underlying22 opens_t_sl_Writer (hval 0 22 v0 rfl rfl) h0
  obtain ⟨a1, rfl, rfl, rfl, w1⟩ := open_string Tryz.underlying9 (hval 1 9 v1 rfl rfl) h1
  have k1 : RStr.ok W a1 := w1
  have m2 := h2
  have lt2 : ∀ x ∈ p2, x.block < W.heap.size := by obtain ⟨m, hm⟩ := m2; exact DataW.trod_lt m _ _ _ hm
  obtain ⟨a2, rfl, k2, b2⟩ := param_struct Tryz.underlying25 opens_Claimed (hval 2 25 v2 rfl rfl) h2
  clear hA0 hval0
  have hbulk : (RSl RWriter).bulk a0 + RStr.bulk a1 + RClaimed.bulk a2 ≤ 1048576 := by
    have hk2 := of_decide_eq_true hk
    simp only [List.append_nil, Rows.uptoBulkAll] at hk2
    have b1 : RStr.bulk a1 ≤ Rows.uptoBulk (DataW.lit (H := H) (.string a1.data.toList)) := by simp [RStr, Rows.uptoBulk]
    omega
  refine (law_signs a0 a1 a2 W k0 k1 k2 hbulk hmx hpw).mono fun e W' ⟨he, bel⟩ => ?_
  subst he
  exact ⟨_, rfl, _, _, _, [], _, [], hW', trodAll_mk1 (shut_bool Tryz.underlying4 _), (trodAll_cons_mk (Below.trod laidOut (by kernel_rfl) (of_decide_eq_true (by kernel_rfl)) m0 bel lt0) (trodAll_cons_mk (shut_string Tryz.underlying9 w1) (trodAll_cons_mk (Below.trod laidOut (by kernel_rfl) (of_decide_eq_true (by kernel_rfl)) m2 bel lt2) trodAll_mk0))), rfl, bel.frame _, fun h => by cases h⟩

/-- the two tables, laid -/
def litsOf : DataW Unit → List Value
  | .agg l => l.map fun
    | .lit (.int k n) => .int k n
    | _ => undef
  | _ => []
noncomputable def laidWorld (os : Os) : World :=
  let put (h : Array Obj) (g : Nat) (cs : Array Value) : Array Obj := h.modify g fun
    | .cells _ t frozen => .cells cs t frozen
    | o => o
  { World.holding Tryz.prog os ⟨#[], #[], []⟩ with heap := put (put (put (put (put (World.holding Tryz.prog os ⟨#[], #[], []⟩).heap 4 ((litsOf Rows.laid_math_bits_deBruijn32tab).toArray)) 5 ((litsOf Rows.laid_math_bits_deBruijn64tab).toArray)) 3 ((litsOf Rows.laid_internal_strconv_uint64pow10).toArray)) 2 (((List.range 16).flatMap fun i => [Value.int .u8 (Lib.accLo i), Value.int .u8 (Lib.accHi i)]).toArray)) 1 ((Lib.firstTab.map fun z => Value.int .u8 z).toArray) }
set_option maxRecDepth 1000000 in
theorem laid_met (os : Os) : laidMet Tryz.prog Rows.trustSignsMatchSpecUptoRow.laid ((laidWorld os).forCall (fun _ _ => 0) ⟨#[], #[.slice none 0 0, .string ByteArray.empty, .agg #[.string ByteArray.empty, .string ByteArray.empty, .string ByteArray.empty, .string ByteArray.empty, .int .i64 0, .slice none 0 0, .string ByteArray.empty]], []⟩).memory :=
  laidMet_of_run' 8 (by kernel_rfl) (by kernel_rfl)
theorem reads (os : Os) {H : Type} (enc : TypeId × Value → H) : ∃ places, DataW.whole enc Tryz.prog ((laidWorld os).forCall (fun _ _ => 0) ⟨#[], #[.slice none 0 0, .string ByteArray.empty, .agg #[.string ByteArray.empty, .string ByteArray.empty, .string ByteArray.empty, .string ByteArray.empty, .int .i64 0, .slice none 0 0, .string ByteArray.empty]], []⟩).memory Tryz.f4.params.toList Rows.trustSignsMatchSpecSpec.vars false (#[.slice none 0 0, .string ByteArray.empty, .agg #[.string ByteArray.empty, .string ByteArray.empty, .string ByteArray.empty, .string ByteArray.empty, .int .i64 0, .slice none 0 0, .string ByteArray.empty]] : Array Value).toList 8 = some ([.nil, .lit (.string []), .agg [.lit (.string []), .lit (.string []), .lit (.string []), .lit (.string []), .lit (.int .i64 0), .nil, .lit (.string [])]], [], places) :=
  ⟨[], by kernel_rfl⟩

set_option maxRecDepth 100000 in
theorem lifted (os : Os) (started : os.Started) (H : Type) (enc : TypeId × Value → H) (F : Stop.Interp) :
    ReturnsInHanded {} Tryz.checked os 4 .any ((Rows.OpenSpec.upto Rows.trustSignsMatchSpecSpec).preRow enc Tryz.prog Tryz.f4 Rows.trustSignsMatchSpecUptoRow.domain false Rows.trustSignsMatchSpecUptoRow.laid) (((Rows.OpenSpec.upto Rows.trustSignsMatchSpecSpec).at F).post enc Tryz.prog Tryz.f4 false true false false) := by
  obtain ⟨places, hx⟩ := reads os enc
  refine returnsInHanded_of_row (C := Tryz.checked) (s := (Rows.OpenSpec.upto Rows.trustSignsMatchSpecSpec)) own started (by kernel_rfl) Tryz.func4
    (witness_row_at (enc := enc) (C := Tryz.checked) false (laidWorld os) #[.slice none 0 0, .string ByteArray.empty, .agg #[.string ByteArray.empty, .string ByteArray.empty, .string ByteArray.empty, .string ByteArray.empty, .int .i64 0, .slice none 0 0, .string ByteArray.empty]] rfl (by kernel_rfl) (by kernel_rfl) (by kernel_rfl)
      (OpenSpec.preRow_of_cond 8 hx (by kernel_rfl) (fun k hk => by cases hk; kernel_rfl) (by kernel_rfl) (laid_met os))) ?_
  intro W base args ds gs before hval hW _ hcond hsz hlaid hsh _
  exact contract H enc W base args ds gs before hval hW (Tryz.laysM146.s1_3 W hsh) (hcond _ rfl) (pow_row hlaid)

theorem said : Rows.TrustSignsMatchSpecUptoSaid :=
  OpenClaim.holds_of_cond 4 Tryz.f4 rfl rfl rfl rfl rfl rfl rfl ⟨rfl, rfl, rfl, rfl, rfl⟩ rfl rfl rfl rfl rfl (by kernel_rfl) Tryz.func4 (by kernel_rfl)
    (of_decide_eq_true (by kernel_rfl)) (by unfold Func.isWrapper; first | (rw [if_pos (by decide +kernel)]; kernel_rfl) | (rw [if_neg (by decide +kernel)]; exact ⟨rfl, rfl⟩))
    (fun os started H enc _ F => by rw [OpenClaim.pre_eq_preRow]; exact lifted os started H enc F)

theorem plain (f : FuncId) (fn : Func) (hf : Tryz.pinned.checked.prog.funcNamed "smithyard/smithyardlaw11.TrustSignsMatchSpec" = some f) (hfn : Tryz.pinned.checked.prog.funcs[f]? = some fn) :
    false = Tryz.pinned.checked.prog.looks [] ∧ ∀ (j : Nat) t, fn.params[j]? = some t → Tryz.pinned.checked.prog.wantsStandIn t = false := by
  obtain rfl : f = 4 := Option.some.inj ((show Tryz.prog.funcNamed "smithyard/smithyardlaw11.TrustSignsMatchSpec" = some 4 by kernel_rfl).symm.trans hf) |>.symm
  obtain rfl : fn = Tryz.f4 := (Option.some.inj (Tryz.func4.symm.trans hfn)).symm
  refine ⟨by kernel_rfl, fun j t ht => ?_⟩
  rw [Tryz.params4] at ht
  have hm : t = 22 ∨ t = 9 ∨ t = 25 := by have := Array.mem_of_getElem? ht; simpa using this
  rcases hm with rfl | rfl | rfl
  · exact (show Tryz.prog.wantsStandIn 22 = false by kernel_rfl)
  · exact (show Tryz.prog.wantsStandIn 9 = false by kernel_rfl)
  · exact (show Tryz.prog.wantsStandIn 25 = false by kernel_rfl)

theorem card : Rows.TrustSignsMatchSpecUptoCardSaid :=
  Claim7.holds_tied_plain_at .later [] _ _ _ _ said (fun _ h => by cases h) (by kernel_rfl) (fun _ h => by cases h) trustSignsMatchSpecUpto_row_tie rfl ⟨rfl, rfl⟩ (by kernel_rfl) rfl plain (by kernel_rfl)
end Go.Proofs.YtaeeicnbnohghaaGreatDoor.trustSignsMatchSpec
