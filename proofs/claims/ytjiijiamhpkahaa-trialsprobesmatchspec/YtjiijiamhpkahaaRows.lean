/-
  No cell of these rows narrows 'for every input' (looked for: loops, veiled, ifaces, maps, wideKeys, modest, calm, conditions, laid).
  DERIVED. THE GIVEN ROWS OF THIS SEAT. 4 by the template 'for every input the law returns true; each argument reads behind the call as it read before'; 0 by the template 'total and deterministic' (their statements: YtjiijiamhpkahaaTotals.lean).
  GIVEN WITH THE SEED: the statements are not yours to turn. If you find one false, say at which input.
  Laid BY PROGRAM, IN A SANDBOX (cutbox-rows.mjs): the forced cells as the released guide's own fill.sh prints them over the translation 4413e8d63499bd37… (all of the seat's roots in one cut). By AI agents, Wed Nov 11 2026. No macro, syntax, notation, axiom, sorry.
-/
import Derived.Test.YtjiijiamhpkahaaChecked
import GoSem.Claim
import GoSem.ClaimJoined
import GoSem.ClaimMapViews
import Derived.JoinedTies
import Derived.KernelRfl
namespace Go.Proofs.Ytjiijiamhpkahaa
/- THE CELL 'sum', in the pinned program and in every row, IS THE sha256 OF THE DUMP (.gsa) THAT YtjiijiamhpkahaaProg.lean LOADS. Nothing in Lean hashes anything: it is a label: what it is worth is what the hold of that sum in a sandbox is worth. -/
noncomputable def Try.pinned : Pinned := { name := "ytjiijiamhpkahaa", sum := "4413e8d63499bd37b216f8defae149ef8a0e3eb1b7da1875f5d07a6ff4583dc0", checked := Try.checked }
namespace Rows
def none {H : Type} : Left H := { results := [], args := [] }

/-- 'smithyardlaw10.TrialsTriedMatchesSpec': WHATEVER THE INPUT: true; the input reads as it did. -/
def trialsTriedMatchesSpecSpec : ChangeSpec := { name := "trialsTriedMatchesSpec", fn := fun _ => fun
  | [d1, d2, d3] => { results := [.lit (.bool true)], args := [d1, d2, d3] }
  | _ => none }
def trialsTriedMatchesSpecRow : OpenClaim := { program := "ytjiijiamhpkahaa", sum := "4413e8d63499bd37b216f8defae149ef8a0e3eb1b7da1875f5d07a6ff4583dc0", func := "smithyard/smithyardlaw10.TrialsTriedMatchesSpec", spec := "trialsTriedMatchesSpec", apart := false }
def TrialsTriedMatchesSpecSaid : Prop := trialsTriedMatchesSpecRow.holds Try.pinned (OpenSpec.ofChange trialsTriedMatchesSpecSpec)

/-- ITS FALSE NEIGHBOUR: 'it returns false'. Refute it at one input. -/
def trialsTriedMatchesSpecWrong : ChangeSpec := { name := "trialsTriedMatchesSpec", fn := fun _ => fun
  | [d1, d2, d3] => { results := [.lit (.bool false)], args := [d1, d2, d3] }
  | _ => none }
def TrialsTriedMatchesSpecWrongFalsely : Prop := trialsTriedMatchesSpecRow.holds Try.pinned (OpenSpec.ofChange trialsTriedMatchesSpecWrong)

/-- 'smithyardlaw10.TrialsTriedStopsInTime': WHATEVER THE INPUT: true; the input reads as it did. -/
def trialsTriedStopsInTimeSpec : ChangeSpec := { name := "trialsTriedStopsInTime", fn := fun _ => fun
  | [d1, d2, d3, d4] => { results := [.lit (.bool true)], args := [d1, d2, d3, d4] }
  | _ => none }
def trialsTriedStopsInTimeRow : OpenClaim := { program := "ytjiijiamhpkahaa", sum := "4413e8d63499bd37b216f8defae149ef8a0e3eb1b7da1875f5d07a6ff4583dc0", func := "smithyard/smithyardlaw10.TrialsTriedStopsInTime", spec := "trialsTriedStopsInTime", apart := false }
def TrialsTriedStopsInTimeSaid : Prop := trialsTriedStopsInTimeRow.holds Try.pinned (OpenSpec.ofChange trialsTriedStopsInTimeSpec)

/-- ITS FALSE NEIGHBOUR: 'it returns false'. Refute it at one input. -/
def trialsTriedStopsInTimeWrong : ChangeSpec := { name := "trialsTriedStopsInTime", fn := fun _ => fun
  | [d1, d2, d3, d4] => { results := [.lit (.bool false)], args := [d1, d2, d3, d4] }
  | _ => none }
def TrialsTriedStopsInTimeWrongFalsely : Prop := trialsTriedStopsInTimeRow.holds Try.pinned (OpenSpec.ofChange trialsTriedStopsInTimeWrong)

/-- 'smithyardlaw10.TrialsProbesMatchSpec': WHATEVER THE INPUT: true; the input reads as it did. -/
def trialsProbesMatchSpecSpec : ChangeSpec := { name := "trialsProbesMatchSpec", fn := fun _ => fun
  | [d1, d2, d3] => { results := [.lit (.bool true)], args := [d1, d2, d3] }
  | _ => none }
def trialsProbesMatchSpecRow : OpenClaim := { program := "ytjiijiamhpkahaa", sum := "4413e8d63499bd37b216f8defae149ef8a0e3eb1b7da1875f5d07a6ff4583dc0", func := "smithyard/smithyardlaw10.TrialsProbesMatchSpec", spec := "trialsProbesMatchSpec", apart := false }
def TrialsProbesMatchSpecSaid : Prop := trialsProbesMatchSpecRow.holds Try.pinned (OpenSpec.ofChange trialsProbesMatchSpecSpec)

/-- ITS FALSE NEIGHBOUR: 'it returns false'. Refute it at one input. -/
def trialsProbesMatchSpecWrong : ChangeSpec := { name := "trialsProbesMatchSpec", fn := fun _ => fun
  | [d1, d2, d3] => { results := [.lit (.bool false)], args := [d1, d2, d3] }
  | _ => none }
def TrialsProbesMatchSpecWrongFalsely : Prop := trialsProbesMatchSpecRow.holds Try.pinned (OpenSpec.ofChange trialsProbesMatchSpecWrong)

/-- 'smithyardlaw10.TrialsProbesFindIt': WHATEVER THE INPUT: true; the input reads as it did. -/
def trialsProbesFindItSpec : ChangeSpec := { name := "trialsProbesFindIt", fn := fun _ => fun
  | [d1, d2] => { results := [.lit (.bool true)], args := [d1, d2] }
  | _ => none }
def trialsProbesFindItRow : OpenClaim := { program := "ytjiijiamhpkahaa", sum := "4413e8d63499bd37b216f8defae149ef8a0e3eb1b7da1875f5d07a6ff4583dc0", func := "smithyard/smithyardlaw10.TrialsProbesFindIt", spec := "trialsProbesFindIt", apart := false }
def TrialsProbesFindItSaid : Prop := trialsProbesFindItRow.holds Try.pinned (OpenSpec.ofChange trialsProbesFindItSpec)

/-- ITS FALSE NEIGHBOUR: 'it returns false'. Refute it at one input. -/
def trialsProbesFindItWrong : ChangeSpec := { name := "trialsProbesFindIt", fn := fun _ => fun
  | [d1, d2] => { results := [.lit (.bool false)], args := [d1, d2] }
  | _ => none }
def TrialsProbesFindItWrongFalsely : Prop := trialsProbesFindItRow.holds Try.pinned (OpenSpec.ofChange trialsProbesFindItWrong)

/- THE SECOND FORM. 'bulk': how many values and letters a reading holds, each counted each time it is reached (what is shared counts as often as it is met; a slice's spare places count too). A statement '..UptoSaid' is the law's where the arguments, and the package variables that the reading takes, are together of bulk at most 1048576: NARROWER than '..Said'. Prove '..Said' where nothing that the law and all that it calls make is longer than what came in: it says more and counts as full. Else prove '..UptoSaid'. A law counts once. -/
mutual
def uptoBulk {H : Type} : DataW H → Nat
  | .lit (.string bytes) => bytes.length + 1
  | .lit _ => 1
  | .nil => 1
  | .ptr d => uptoBulk d + 1
  | .slice elems spare => uptoBulkAll elems + uptoBulkAll spare + 1
  | .agg parts => uptoBulkAll parts + 1
  | .iface _ d => uptoBulk d + 1
  | .map entries => uptoBulkEntries entries + 1
  | .held _ => 1
def uptoBulkAll {H : Type} : List (DataW H) → Nat
  | [] => 0
  | d :: r => uptoBulk d + uptoBulkAll r
def uptoBulkEntries {H : Type} : List (Lit × DataW H) → Nat
  | [] => 0
  | x :: r => uptoBulkEntry x + uptoBulkEntries r
def uptoBulkEntry {H : Type} : Lit × DataW H → Nat
  | (.string bytes, d) => bytes.length + uptoBulk d + 1
  | (_, d) => uptoBulk d + 1
 end
def uptoSmall : (H : Type) → List (DataW H) → Bool := fun _ ds => decide (uptoBulkAll ds ≤ 1048576)
def OpenSpec.upto (s : _root_.Go.ChangeSpec) : _root_.Go.OpenSpec := { _root_.Go.OpenSpec.ofChange s with cond := some uptoSmall }

/-- 'smithyardlaw10.TrialsTriedMatchesSpec', WHERE WHAT IT READS IS OF BULK AT MOST 1048576: true; the input reads as it did. -/
def trialsTriedMatchesSpecUptoRow : OpenClaim := { program := "ytjiijiamhpkahaa", sum := "4413e8d63499bd37b216f8defae149ef8a0e3eb1b7da1875f5d07a6ff4583dc0", func := "smithyard/smithyardlaw10.TrialsTriedMatchesSpec", spec := "trialsTriedMatchesSpec", apart := false, narrowed := true }
def TrialsTriedMatchesSpecUptoSaid : Prop := trialsTriedMatchesSpecUptoRow.holds Try.pinned (OpenSpec.upto trialsTriedMatchesSpecSpec)

/-- 'smithyardlaw10.TrialsTriedStopsInTime', WHERE WHAT IT READS IS OF BULK AT MOST 1048576: true; the input reads as it did. -/
def trialsTriedStopsInTimeUptoRow : OpenClaim := { program := "ytjiijiamhpkahaa", sum := "4413e8d63499bd37b216f8defae149ef8a0e3eb1b7da1875f5d07a6ff4583dc0", func := "smithyard/smithyardlaw10.TrialsTriedStopsInTime", spec := "trialsTriedStopsInTime", apart := false, narrowed := true }
def TrialsTriedStopsInTimeUptoSaid : Prop := trialsTriedStopsInTimeUptoRow.holds Try.pinned (OpenSpec.upto trialsTriedStopsInTimeSpec)

/-- 'smithyardlaw10.TrialsProbesMatchSpec', WHERE WHAT IT READS IS OF BULK AT MOST 1048576: true; the input reads as it did. -/
def trialsProbesMatchSpecUptoRow : OpenClaim := { program := "ytjiijiamhpkahaa", sum := "4413e8d63499bd37b216f8defae149ef8a0e3eb1b7da1875f5d07a6ff4583dc0", func := "smithyard/smithyardlaw10.TrialsProbesMatchSpec", spec := "trialsProbesMatchSpec", apart := false, narrowed := true }
def TrialsProbesMatchSpecUptoSaid : Prop := trialsProbesMatchSpecUptoRow.holds Try.pinned (OpenSpec.upto trialsProbesMatchSpecSpec)

/-- 'smithyardlaw10.TrialsProbesFindIt', WHERE WHAT IT READS IS OF BULK AT MOST 1048576: true; the input reads as it did. -/
def trialsProbesFindItUptoRow : OpenClaim := { program := "ytjiijiamhpkahaa", sum := "4413e8d63499bd37b216f8defae149ef8a0e3eb1b7da1875f5d07a6ff4583dc0", func := "smithyard/smithyardlaw10.TrialsProbesFindIt", spec := "trialsProbesFindIt", apart := false, narrowed := true }
def TrialsProbesFindItUptoSaid : Prop := trialsProbesFindItUptoRow.holds Try.pinned (OpenSpec.upto trialsProbesFindItSpec)

end Rows
end Go.Proofs.Ytjiijiamhpkahaa
