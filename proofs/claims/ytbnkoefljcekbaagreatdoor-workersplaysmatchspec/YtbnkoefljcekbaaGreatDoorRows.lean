/-
  NARROWER THAN 'FOR EVERY INPUT', by the rows' own cells (each row's printed sentence says how): WorkersPlaysMatchSpec: laid · WorkersOutcomesMatchSpec: laid · WorkersLeastMatchesSpec: laid · WorkersDoneOnce: laid · WorkersRunsAreRight: laid · WorkersWaitedMatchesSpec: laid · WorkersNobodyWaits: laid.
  DERIVED. THE GIVEN ROWS OF THIS SEAT. 7 by the template 'for every input the law returns true; each argument reads behind the call as it read before'; 0 by the template 'total and deterministic' (their statements: YtbnkoefljcekbaaGreatDoorTotals.lean).
  GIVEN WITH THE SEED: the statements are not yours to turn. If you find one false, say at which input.
  Laid BY PROGRAM, IN A SANDBOX (cutbox-rows.mjs): the forced cells as the released guide's own fill.sh prints them over the translation 2d2a704d2ea75812… (all of the seat's roots in one cut). By AI agents, Wed Nov 11 2026. No macro, syntax, notation, axiom, sorry.
-/
import Derived.Test.YtbnkoefljcekbaaGreatDoorChecked
import GoSem.PinnedTables
import GoSem.Claim
import GoSem.ClaimJoined
import GoSem.ClaimMapViews
import Derived.JoinedTies
import Derived.KernelRfl
namespace Go.Proofs.YtbnkoefljcekbaaGreatDoor
/- THE CELL 'sum', in the pinned program and in every row, IS THE sha256 OF THE DUMP (.gsa) THAT YtbnkoefljcekbaaGreatDoorProg.lean LOADS. Nothing in Lean hashes anything: it is a label: what it is worth is what the hold of that sum in a sandbox is worth. -/
noncomputable def Tryz.pinned : Pinned := { name := "ytbnkoefljcekbaagreatdoor", sum := "2d2a704d2ea75812782c16bd93dafc828f61b95cafab62225903f41cd20aac1a", checked := Tryz.checked }
namespace Rows
def none {H : Type} : Left H := { results := [], args := [] }

/- WHAT THE LISTED PACKAGE-LEVEL VARIABLES READ AS WHEN THE CALL BEGINS. Each datum BY PROGRAM (the guide's laid-datum.mjs) off the statement by which the dump's own 'gosem.cut.vars' lays the variable. In a bare row this is a premise. The card (YtbnkoefljcekbaaGreatDoorCards.lean) ties it to the program's text. -/
def laid_unicode_utf8_acceptRanges {H : Type} : DataW H := .agg [.agg [.lit (.int .u8 128), .lit (.int .u8 191)], .agg [.lit (.int .u8 160), .lit (.int .u8 191)], .agg [.lit (.int .u8 128), .lit (.int .u8 159)], .agg [.lit (.int .u8 144), .lit (.int .u8 191)], .agg [.lit (.int .u8 128), .lit (.int .u8 143)], .agg [.lit (.int .u8 0), .lit (.int .u8 0)], .agg [.lit (.int .u8 0), .lit (.int .u8 0)], .agg [.lit (.int .u8 0), .lit (.int .u8 0)], .agg [.lit (.int .u8 0), .lit (.int .u8 0)], .agg [.lit (.int .u8 0), .lit (.int .u8 0)], .agg [.lit (.int .u8 0), .lit (.int .u8 0)], .agg [.lit (.int .u8 0), .lit (.int .u8 0)], .agg [.lit (.int .u8 0), .lit (.int .u8 0)], .agg [.lit (.int .u8 0), .lit (.int .u8 0)], .agg [.lit (.int .u8 0), .lit (.int .u8 0)], .agg [.lit (.int .u8 0), .lit (.int .u8 0)]]
/-- One of Go's own tables, pinned by name: the form's constant. -/
def laid_unicode_utf8_first : DataW Unit := Go.Pinned.utf8First

/-- 'smithyardlaw9.WorkersPlaysMatchSpec': WHATEVER THE INPUT: true; the input reads as it did. -/
def workersPlaysMatchSpecSpec : ChangeSpec := { name := "workersPlaysMatchSpec", fn := fun _ => fun
  | [d] => { results := [.lit (.bool true)], args := [d] }
  | _ => none }
def workersPlaysMatchSpecRow : OpenClaim := { program := "ytbnkoefljcekbaagreatdoor", sum := "2d2a704d2ea75812782c16bd93dafc828f61b95cafab62225903f41cd20aac1a", func := "smithyard/smithyardlaw9.WorkersPlaysMatchSpec", spec := "workersPlaysMatchSpec", inPlace := ["internal/bytealg.IndexByteString", "internal/bytealg.IndexString", "internal/bytealg.abigen_runtime_cmpstring", "slices.overlaps[int]", "slices.overlaps[smithyard/api.Run]"], unfollowed := true, recurses := true, named := ["unicode/utf8.first", "unicode/utf8.acceptRanges", "internal/bytealg.MaxLen"], plainKeys := false, apart := false, laid := [("unicode/utf8.acceptRanges", laid_unicode_utf8_acceptRanges), ("unicode/utf8.first", laid_unicode_utf8_first)] }
def WorkersPlaysMatchSpecSaid : Prop := workersPlaysMatchSpecRow.holds Tryz.pinned (OpenSpec.ofChange workersPlaysMatchSpecSpec)

/-- ITS FALSE NEIGHBOUR: 'it returns false'. Refute it at one input. -/
def workersPlaysMatchSpecWrong : ChangeSpec := { name := "workersPlaysMatchSpec", fn := fun _ => fun
  | [d] => { results := [.lit (.bool false)], args := [d] }
  | _ => none }
def WorkersPlaysMatchSpecWrongFalsely : Prop := workersPlaysMatchSpecRow.holds Tryz.pinned (OpenSpec.ofChange workersPlaysMatchSpecWrong)

/-- 'smithyardlaw9.WorkersOutcomesMatchSpec': WHATEVER THE INPUT: true; the input reads as it did. -/
def workersOutcomesMatchSpecSpec : ChangeSpec := { name := "workersOutcomesMatchSpec", fn := fun _ => fun
  | [d] => { results := [.lit (.bool true)], args := [d] }
  | _ => none }
def workersOutcomesMatchSpecRow : OpenClaim := { program := "ytbnkoefljcekbaagreatdoor", sum := "2d2a704d2ea75812782c16bd93dafc828f61b95cafab62225903f41cd20aac1a", func := "smithyard/smithyardlaw9.WorkersOutcomesMatchSpec", spec := "workersOutcomesMatchSpec", inPlace := ["internal/bytealg.IndexByteString", "internal/bytealg.IndexString", "internal/bytealg.abigen_runtime_cmpstring", "slices.overlaps[int]"], unfollowed := true, recurses := true, named := ["unicode/utf8.first", "unicode/utf8.acceptRanges", "internal/bytealg.MaxLen"], plainKeys := false, apart := false, laid := [("unicode/utf8.acceptRanges", laid_unicode_utf8_acceptRanges), ("unicode/utf8.first", laid_unicode_utf8_first)] }
def WorkersOutcomesMatchSpecSaid : Prop := workersOutcomesMatchSpecRow.holds Tryz.pinned (OpenSpec.ofChange workersOutcomesMatchSpecSpec)

/-- ITS FALSE NEIGHBOUR: 'it returns false'. Refute it at one input. -/
def workersOutcomesMatchSpecWrong : ChangeSpec := { name := "workersOutcomesMatchSpec", fn := fun _ => fun
  | [d] => { results := [.lit (.bool false)], args := [d] }
  | _ => none }
def WorkersOutcomesMatchSpecWrongFalsely : Prop := workersOutcomesMatchSpecRow.holds Tryz.pinned (OpenSpec.ofChange workersOutcomesMatchSpecWrong)

/-- 'smithyardlaw9.WorkersLeastMatchesSpec': WHATEVER THE INPUT: true; the input reads as it did. -/
def workersLeastMatchesSpecSpec : ChangeSpec := { name := "workersLeastMatchesSpec", fn := fun _ => fun
  | [d] => { results := [.lit (.bool true)], args := [d] }
  | _ => none }
def workersLeastMatchesSpecRow : OpenClaim := { program := "ytbnkoefljcekbaagreatdoor", sum := "2d2a704d2ea75812782c16bd93dafc828f61b95cafab62225903f41cd20aac1a", func := "smithyard/smithyardlaw9.WorkersLeastMatchesSpec", spec := "workersLeastMatchesSpec", inPlace := ["internal/bytealg.IndexByteString", "internal/bytealg.IndexString", "internal/bytealg.abigen_runtime_cmpstring"], unfollowed := true, recurses := true, named := ["unicode/utf8.first", "unicode/utf8.acceptRanges", "internal/bytealg.MaxLen"], plainKeys := false, apart := false, laid := [("unicode/utf8.acceptRanges", laid_unicode_utf8_acceptRanges), ("unicode/utf8.first", laid_unicode_utf8_first)] }
def WorkersLeastMatchesSpecSaid : Prop := workersLeastMatchesSpecRow.holds Tryz.pinned (OpenSpec.ofChange workersLeastMatchesSpecSpec)

/-- ITS FALSE NEIGHBOUR: 'it returns false'. Refute it at one input. -/
def workersLeastMatchesSpecWrong : ChangeSpec := { name := "workersLeastMatchesSpec", fn := fun _ => fun
  | [d] => { results := [.lit (.bool false)], args := [d] }
  | _ => none }
def WorkersLeastMatchesSpecWrongFalsely : Prop := workersLeastMatchesSpecRow.holds Tryz.pinned (OpenSpec.ofChange workersLeastMatchesSpecWrong)

/-- 'smithyardlaw9.WorkersDoneOnce': WHATEVER THE INPUT: true; the input reads as it did. -/
def workersDoneOnceSpec : ChangeSpec := { name := "workersDoneOnce", fn := fun _ => fun
  | [d] => { results := [.lit (.bool true)], args := [d] }
  | _ => none }
def workersDoneOnceRow : OpenClaim := { program := "ytbnkoefljcekbaagreatdoor", sum := "2d2a704d2ea75812782c16bd93dafc828f61b95cafab62225903f41cd20aac1a", func := "smithyard/smithyardlaw9.WorkersDoneOnce", spec := "workersDoneOnce", inPlace := ["internal/bytealg.IndexByteString", "internal/bytealg.IndexString", "internal/bytealg.abigen_runtime_cmpstring"], unfollowed := true, recurses := true, named := ["unicode/utf8.first", "unicode/utf8.acceptRanges", "internal/bytealg.MaxLen"], plainKeys := false, apart := false, laid := [("unicode/utf8.acceptRanges", laid_unicode_utf8_acceptRanges), ("unicode/utf8.first", laid_unicode_utf8_first)] }
def WorkersDoneOnceSaid : Prop := workersDoneOnceRow.holds Tryz.pinned (OpenSpec.ofChange workersDoneOnceSpec)

/-- ITS FALSE NEIGHBOUR: 'it returns false'. Refute it at one input. -/
def workersDoneOnceWrong : ChangeSpec := { name := "workersDoneOnce", fn := fun _ => fun
  | [d] => { results := [.lit (.bool false)], args := [d] }
  | _ => none }
def WorkersDoneOnceWrongFalsely : Prop := workersDoneOnceRow.holds Tryz.pinned (OpenSpec.ofChange workersDoneOnceWrong)

/-- 'smithyardlaw9.WorkersRunsAreRight': WHATEVER THE INPUT: true; the input reads as it did. -/
def workersRunsAreRightSpec : ChangeSpec := { name := "workersRunsAreRight", fn := fun _ => fun
  | [d] => { results := [.lit (.bool true)], args := [d] }
  | _ => none }
def workersRunsAreRightRow : OpenClaim := { program := "ytbnkoefljcekbaagreatdoor", sum := "2d2a704d2ea75812782c16bd93dafc828f61b95cafab62225903f41cd20aac1a", func := "smithyard/smithyardlaw9.WorkersRunsAreRight", spec := "workersRunsAreRight", inPlace := ["internal/bytealg.IndexByteString", "internal/bytealg.IndexString", "internal/bytealg.abigen_runtime_cmpstring"], unfollowed := true, recurses := true, named := ["unicode/utf8.first", "unicode/utf8.acceptRanges", "internal/bytealg.MaxLen"], plainKeys := false, apart := false, laid := [("unicode/utf8.acceptRanges", laid_unicode_utf8_acceptRanges), ("unicode/utf8.first", laid_unicode_utf8_first)] }
def WorkersRunsAreRightSaid : Prop := workersRunsAreRightRow.holds Tryz.pinned (OpenSpec.ofChange workersRunsAreRightSpec)

/-- ITS FALSE NEIGHBOUR: 'it returns false'. Refute it at one input. -/
def workersRunsAreRightWrong : ChangeSpec := { name := "workersRunsAreRight", fn := fun _ => fun
  | [d] => { results := [.lit (.bool false)], args := [d] }
  | _ => none }
def WorkersRunsAreRightWrongFalsely : Prop := workersRunsAreRightRow.holds Tryz.pinned (OpenSpec.ofChange workersRunsAreRightWrong)

/-- 'smithyardlaw9.WorkersWaitedMatchesSpec': WHATEVER THE INPUT: true; the input reads as it did. -/
def workersWaitedMatchesSpecSpec : ChangeSpec := { name := "workersWaitedMatchesSpec", fn := fun _ => fun
  | [d1, d2] => { results := [.lit (.bool true)], args := [d1, d2] }
  | _ => none }
def workersWaitedMatchesSpecRow : OpenClaim := { program := "ytbnkoefljcekbaagreatdoor", sum := "2d2a704d2ea75812782c16bd93dafc828f61b95cafab62225903f41cd20aac1a", func := "smithyard/smithyardlaw9.WorkersWaitedMatchesSpec", spec := "workersWaitedMatchesSpec", inPlace := ["internal/bytealg.IndexByteString", "internal/bytealg.IndexString", "internal/bytealg.abigen_runtime_cmpstring"], unfollowed := true, recurses := true, named := ["unicode/utf8.first", "unicode/utf8.acceptRanges", "internal/bytealg.MaxLen"], plainKeys := false, apart := false, laid := [("unicode/utf8.acceptRanges", laid_unicode_utf8_acceptRanges), ("unicode/utf8.first", laid_unicode_utf8_first)] }
def WorkersWaitedMatchesSpecSaid : Prop := workersWaitedMatchesSpecRow.holds Tryz.pinned (OpenSpec.ofChange workersWaitedMatchesSpecSpec)

/-- ITS FALSE NEIGHBOUR: 'it returns false'. Refute it at one input. -/
def workersWaitedMatchesSpecWrong : ChangeSpec := { name := "workersWaitedMatchesSpec", fn := fun _ => fun
  | [d1, d2] => { results := [.lit (.bool false)], args := [d1, d2] }
  | _ => none }
def WorkersWaitedMatchesSpecWrongFalsely : Prop := workersWaitedMatchesSpecRow.holds Tryz.pinned (OpenSpec.ofChange workersWaitedMatchesSpecWrong)

/-- 'smithyardlaw9.WorkersNobodyWaits': WHATEVER THE INPUT: true; the input reads as it did. -/
def workersNobodyWaitsSpec : ChangeSpec := { name := "workersNobodyWaits", fn := fun _ => fun
  | [d] => { results := [.lit (.bool true)], args := [d] }
  | _ => none }
def workersNobodyWaitsRow : OpenClaim := { program := "ytbnkoefljcekbaagreatdoor", sum := "2d2a704d2ea75812782c16bd93dafc828f61b95cafab62225903f41cd20aac1a", func := "smithyard/smithyardlaw9.WorkersNobodyWaits", spec := "workersNobodyWaits", inPlace := ["internal/bytealg.IndexByteString", "internal/bytealg.IndexString", "internal/bytealg.abigen_runtime_cmpstring"], unfollowed := true, recurses := true, named := ["unicode/utf8.first", "unicode/utf8.acceptRanges", "internal/bytealg.MaxLen"], plainKeys := false, apart := false, laid := [("unicode/utf8.acceptRanges", laid_unicode_utf8_acceptRanges), ("unicode/utf8.first", laid_unicode_utf8_first)] }
def WorkersNobodyWaitsSaid : Prop := workersNobodyWaitsRow.holds Tryz.pinned (OpenSpec.ofChange workersNobodyWaitsSpec)

/-- ITS FALSE NEIGHBOUR: 'it returns false'. Refute it at one input. -/
def workersNobodyWaitsWrong : ChangeSpec := { name := "workersNobodyWaits", fn := fun _ => fun
  | [d] => { results := [.lit (.bool false)], args := [d] }
  | _ => none }
def WorkersNobodyWaitsWrongFalsely : Prop := workersNobodyWaitsRow.holds Tryz.pinned (OpenSpec.ofChange workersNobodyWaitsWrong)

/- THE SECOND FORM. 'bulk': how many values and letters a reading holds, each counted each time it is reached (what is shared counts as often as it is met; a slice's spare places count too). A statement '..UptoSaid' is the law's where the arguments, and the package variables that the reading takes, are together of bulk at most 1048576: NARROWER than '..Said'. Prove '..Said' where nothing that the law and all that it calls make is longer than what came in: it says more and counts as full. Else prove '..UptoSaid'. A law counts once. -/
mutual
def uptoBulk {H : Type} : DataW H → Nat
  | .lit (.string bytes) => bytes.length + 1
  | .lit _ => 1
  | .nil => 1
  | .ptr d => uptoBulk d + 1
  | .slice elems spare => uptoBulkAll elems + uptoBulkAll spare + 1
  | .agg parts => uptoBulkAll parts + 1
  | .iface _ d => uptoBulk d + 1
  | .map entries => uptoBulkEntries entries + 1
  | .held _ => 1
def uptoBulkAll {H : Type} : List (DataW H) → Nat
  | [] => 0
  | d :: r => uptoBulk d + uptoBulkAll r
def uptoBulkEntries {H : Type} : List (Lit × DataW H) → Nat
  | [] => 0
  | x :: r => uptoBulkEntry x + uptoBulkEntries r
def uptoBulkEntry {H : Type} : Lit × DataW H → Nat
  | (.string bytes, d) => bytes.length + uptoBulk d + 1
  | (_, d) => uptoBulk d + 1
 end
def uptoSmall : (H : Type) → List (DataW H) → Bool := fun _ ds => decide (uptoBulkAll ds ≤ 1048576)
def OpenSpec.upto (s : _root_.Go.ChangeSpec) : _root_.Go.OpenSpec := { _root_.Go.OpenSpec.ofChange s with cond := some uptoSmall }

/-- 'smithyardlaw9.WorkersPlaysMatchSpec', WHERE WHAT IT READS IS OF BULK AT MOST 1048576: true; the input reads as it did. -/
def workersPlaysMatchSpecUptoRow : OpenClaim := { program := "ytbnkoefljcekbaagreatdoor", sum := "2d2a704d2ea75812782c16bd93dafc828f61b95cafab62225903f41cd20aac1a", func := "smithyard/smithyardlaw9.WorkersPlaysMatchSpec", spec := "workersPlaysMatchSpec", inPlace := ["internal/bytealg.IndexByteString", "internal/bytealg.IndexString", "internal/bytealg.abigen_runtime_cmpstring", "slices.overlaps[int]", "slices.overlaps[smithyard/api.Run]"], unfollowed := true, recurses := true, named := ["unicode/utf8.first", "unicode/utf8.acceptRanges", "internal/bytealg.MaxLen"], plainKeys := false, apart := false, laid := [("unicode/utf8.acceptRanges", laid_unicode_utf8_acceptRanges), ("unicode/utf8.first", laid_unicode_utf8_first)], narrowed := true }
def WorkersPlaysMatchSpecUptoSaid : Prop := workersPlaysMatchSpecUptoRow.holds Tryz.pinned (OpenSpec.upto workersPlaysMatchSpecSpec)

/-- 'smithyardlaw9.WorkersOutcomesMatchSpec', WHERE WHAT IT READS IS OF BULK AT MOST 1048576: true; the input reads as it did. -/
def workersOutcomesMatchSpecUptoRow : OpenClaim := { program := "ytbnkoefljcekbaagreatdoor", sum := "2d2a704d2ea75812782c16bd93dafc828f61b95cafab62225903f41cd20aac1a", func := "smithyard/smithyardlaw9.WorkersOutcomesMatchSpec", spec := "workersOutcomesMatchSpec", inPlace := ["internal/bytealg.IndexByteString", "internal/bytealg.IndexString", "internal/bytealg.abigen_runtime_cmpstring", "slices.overlaps[int]"], unfollowed := true, recurses := true, named := ["unicode/utf8.first", "unicode/utf8.acceptRanges", "internal/bytealg.MaxLen"], plainKeys := false, apart := false, laid := [("unicode/utf8.acceptRanges", laid_unicode_utf8_acceptRanges), ("unicode/utf8.first", laid_unicode_utf8_first)], narrowed := true }
def WorkersOutcomesMatchSpecUptoSaid : Prop := workersOutcomesMatchSpecUptoRow.holds Tryz.pinned (OpenSpec.upto workersOutcomesMatchSpecSpec)

/-- 'smithyardlaw9.WorkersLeastMatchesSpec', WHERE WHAT IT READS IS OF BULK AT MOST 1048576: true; the input reads as it did. -/
def workersLeastMatchesSpecUptoRow : OpenClaim := { program := "ytbnkoefljcekbaagreatdoor", sum := "2d2a704d2ea75812782c16bd93dafc828f61b95cafab62225903f41cd20aac1a", func := "smithyard/smithyardlaw9.WorkersLeastMatchesSpec", spec := "workersLeastMatchesSpec", inPlace := ["internal/bytealg.IndexByteString", "internal/bytealg.IndexString", "internal/bytealg.abigen_runtime_cmpstring"], unfollowed := true, recurses := true, named := ["unicode/utf8.first", "unicode/utf8.acceptRanges", "internal/bytealg.MaxLen"], plainKeys := false, apart := false, laid := [("unicode/utf8.acceptRanges", laid_unicode_utf8_acceptRanges), ("unicode/utf8.first", laid_unicode_utf8_first)], narrowed := true }
def WorkersLeastMatchesSpecUptoSaid : Prop := workersLeastMatchesSpecUptoRow.holds Tryz.pinned (OpenSpec.upto workersLeastMatchesSpecSpec)

/-- 'smithyardlaw9.WorkersDoneOnce', WHERE WHAT IT READS IS OF BULK AT MOST 1048576: true; the input reads as it did. -/
def workersDoneOnceUptoRow : OpenClaim := { program := "ytbnkoefljcekbaagreatdoor", sum := "2d2a704d2ea75812782c16bd93dafc828f61b95cafab62225903f41cd20aac1a", func := "smithyard/smithyardlaw9.WorkersDoneOnce", spec := "workersDoneOnce", inPlace := ["internal/bytealg.IndexByteString", "internal/bytealg.IndexString", "internal/bytealg.abigen_runtime_cmpstring"], unfollowed := true, recurses := true, named := ["unicode/utf8.first", "unicode/utf8.acceptRanges", "internal/bytealg.MaxLen"], plainKeys := false, apart := false, laid := [("unicode/utf8.acceptRanges", laid_unicode_utf8_acceptRanges), ("unicode/utf8.first", laid_unicode_utf8_first)], narrowed := true }
def WorkersDoneOnceUptoSaid : Prop := workersDoneOnceUptoRow.holds Tryz.pinned (OpenSpec.upto workersDoneOnceSpec)

/-- 'smithyardlaw9.WorkersRunsAreRight', WHERE WHAT IT READS IS OF BULK AT MOST 1048576: true; the input reads as it did. -/
def workersRunsAreRightUptoRow : OpenClaim := { program := "ytbnkoefljcekbaagreatdoor", sum := "2d2a704d2ea75812782c16bd93dafc828f61b95cafab62225903f41cd20aac1a", func := "smithyard/smithyardlaw9.WorkersRunsAreRight", spec := "workersRunsAreRight", inPlace := ["internal/bytealg.IndexByteString", "internal/bytealg.IndexString", "internal/bytealg.abigen_runtime_cmpstring"], unfollowed := true, recurses := true, named := ["unicode/utf8.first", "unicode/utf8.acceptRanges", "internal/bytealg.MaxLen"], plainKeys := false, apart := false, laid := [("unicode/utf8.acceptRanges", laid_unicode_utf8_acceptRanges), ("unicode/utf8.first", laid_unicode_utf8_first)], narrowed := true }
def WorkersRunsAreRightUptoSaid : Prop := workersRunsAreRightUptoRow.holds Tryz.pinned (OpenSpec.upto workersRunsAreRightSpec)

/-- 'smithyardlaw9.WorkersWaitedMatchesSpec', WHERE WHAT IT READS IS OF BULK AT MOST 1048576: true; the input reads as it did. -/
def workersWaitedMatchesSpecUptoRow : OpenClaim := { program := "ytbnkoefljcekbaagreatdoor", sum := "2d2a704d2ea75812782c16bd93dafc828f61b95cafab62225903f41cd20aac1a", func := "smithyard/smithyardlaw9.WorkersWaitedMatchesSpec", spec := "workersWaitedMatchesSpec", inPlace := ["internal/bytealg.IndexByteString", "internal/bytealg.IndexString", "internal/bytealg.abigen_runtime_cmpstring"], unfollowed := true, recurses := true, named := ["unicode/utf8.first", "unicode/utf8.acceptRanges", "internal/bytealg.MaxLen"], plainKeys := false, apart := false, laid := [("unicode/utf8.acceptRanges", laid_unicode_utf8_acceptRanges), ("unicode/utf8.first", laid_unicode_utf8_first)], narrowed := true }
def WorkersWaitedMatchesSpecUptoSaid : Prop := workersWaitedMatchesSpecUptoRow.holds Tryz.pinned (OpenSpec.upto workersWaitedMatchesSpecSpec)

/-- 'smithyardlaw9.WorkersNobodyWaits', WHERE WHAT IT READS IS OF BULK AT MOST 1048576: true; the input reads as it did. -/
def workersNobodyWaitsUptoRow : OpenClaim := { program := "ytbnkoefljcekbaagreatdoor", sum := "2d2a704d2ea75812782c16bd93dafc828f61b95cafab62225903f41cd20aac1a", func := "smithyard/smithyardlaw9.WorkersNobodyWaits", spec := "workersNobodyWaits", inPlace := ["internal/bytealg.IndexByteString", "internal/bytealg.IndexString", "internal/bytealg.abigen_runtime_cmpstring"], unfollowed := true, recurses := true, named := ["unicode/utf8.first", "unicode/utf8.acceptRanges", "internal/bytealg.MaxLen"], plainKeys := false, apart := false, laid := [("unicode/utf8.acceptRanges", laid_unicode_utf8_acceptRanges), ("unicode/utf8.first", laid_unicode_utf8_first)], narrowed := true }
def WorkersNobodyWaitsUptoSaid : Prop := workersNobodyWaitsUptoRow.holds Tryz.pinned (OpenSpec.upto workersNobodyWaitsSpec)

end Rows
end Go.Proofs.YtbnkoefljcekbaaGreatDoor
