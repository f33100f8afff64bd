/-
  NARROWER THAN 'FOR EVERY INPUT', by the rows' own cells (each row's printed sentence says how): WorkersEndsMatchSpec: laid · WorkersEndsAddUp: laid · WorkersBusyMatchesSpec: laid · WorkersChecksMatchSpec: laid · WorkersOrdersMatchSpec: laid.
  DERIVED. THE GIVEN ROWS OF THIS SEAT. 5 by the template 'for every input the law returns true; each argument reads behind the call as it read before'; 0 by the template 'total and deterministic' (their statements: YtlnkamoeiaaleaaDoorTotals.lean).
  GIVEN WITH THE SEED: the statements are not yours to turn. If you find one false, say at which input.
  Laid BY PROGRAM, IN A SANDBOX (cutbox-rows.mjs): the forced cells as the released guide's own fill.sh prints them over the translation 8cea09ee6ad855ab… (all of the seat's roots in one cut). By AI agents, Wed Nov 11 2026. No macro, syntax, notation, axiom, sorry.
-/
import Derived.Test.YtlnkamoeiaaleaaDoorChecked
import GoSem.PinnedTables
import GoSem.Claim
import GoSem.ClaimJoined
import GoSem.ClaimMapViews
import Derived.JoinedTies
import Derived.KernelRfl
namespace Go.Proofs.YtlnkamoeiaaleaaDoor
/- THE CELL 'sum', in the pinned program and in every row, IS THE sha256 OF THE DUMP (.gsa) THAT YtlnkamoeiaaleaaDoorProg.lean LOADS. Nothing in Lean hashes anything: it is a label: what it is worth is what the hold of that sum in a sandbox is worth. -/
noncomputable def Tryd.pinned : Pinned := { name := "ytlnkamoeiaaleaadoor", sum := "8cea09ee6ad855abbc2698e92a375af37b4e2afc279711a1183c7b3df88fde13", checked := Tryd.checked }
namespace Rows
def none {H : Type} : Left H := { results := [], args := [] }

/- WHAT THE LISTED PACKAGE-LEVEL VARIABLES READ AS WHEN THE CALL BEGINS. Each datum BY PROGRAM (the guide's laid-datum.mjs) off the statement by which the dump's own 'gosem.cut.vars' lays the variable. In a bare row this is a premise. The card (YtlnkamoeiaaleaaDoorCards.lean) ties it to the program's text. -/
def laid_unicode_utf8_acceptRanges {H : Type} : DataW H := .agg [.agg [.lit (.int .u8 128), .lit (.int .u8 191)], .agg [.lit (.int .u8 160), .lit (.int .u8 191)], .agg [.lit (.int .u8 128), .lit (.int .u8 159)], .agg [.lit (.int .u8 144), .lit (.int .u8 191)], .agg [.lit (.int .u8 128), .lit (.int .u8 143)], .agg [.lit (.int .u8 0), .lit (.int .u8 0)], .agg [.lit (.int .u8 0), .lit (.int .u8 0)], .agg [.lit (.int .u8 0), .lit (.int .u8 0)], .agg [.lit (.int .u8 0), .lit (.int .u8 0)], .agg [.lit (.int .u8 0), .lit (.int .u8 0)], .agg [.lit (.int .u8 0), .lit (.int .u8 0)], .agg [.lit (.int .u8 0), .lit (.int .u8 0)], .agg [.lit (.int .u8 0), .lit (.int .u8 0)], .agg [.lit (.int .u8 0), .lit (.int .u8 0)], .agg [.lit (.int .u8 0), .lit (.int .u8 0)], .agg [.lit (.int .u8 0), .lit (.int .u8 0)]]
/-- One of Go's own tables, pinned by name: the form's constant. -/
def laid_unicode_utf8_first : DataW Unit := Go.Pinned.utf8First

/-- 'smithyardlaw9.WorkersEndsMatchSpec': WHATEVER THE INPUT: true; the input reads as it did. -/
def workersEndsMatchSpecSpec : ChangeSpec := { name := "workersEndsMatchSpec", fn := fun _ => fun
  | [d1, d2, d3] => { results := [.lit (.bool true)], args := [d1, d2, d3] }
  | _ => none }
def workersEndsMatchSpecRow : OpenClaim := { program := "ytlnkamoeiaaleaadoor", sum := "8cea09ee6ad855abbc2698e92a375af37b4e2afc279711a1183c7b3df88fde13", func := "smithyard/smithyardlaw9.WorkersEndsMatchSpec", spec := "workersEndsMatchSpec", inPlace := ["internal/bytealg.IndexByteString", "internal/bytealg.IndexString"], named := ["unicode/utf8.first", "unicode/utf8.acceptRanges", "internal/bytealg.MaxLen"], apart := false, laid := [("unicode/utf8.acceptRanges", laid_unicode_utf8_acceptRanges), ("unicode/utf8.first", laid_unicode_utf8_first)] }
def WorkersEndsMatchSpecSaid : Prop := workersEndsMatchSpecRow.holds Tryd.pinned (OpenSpec.ofChange workersEndsMatchSpecSpec)

/-- ITS FALSE NEIGHBOUR: 'it returns false'. Refute it at one input. -/
def workersEndsMatchSpecWrong : ChangeSpec := { name := "workersEndsMatchSpec", fn := fun _ => fun
  | [d1, d2, d3] => { results := [.lit (.bool false)], args := [d1, d2, d3] }
  | _ => none }
def WorkersEndsMatchSpecWrongFalsely : Prop := workersEndsMatchSpecRow.holds Tryd.pinned (OpenSpec.ofChange workersEndsMatchSpecWrong)

/-- 'smithyardlaw9.WorkersEndsAddUp': WHATEVER THE INPUT: true; the input reads as it did. -/
def workersEndsAddUpSpec : ChangeSpec := { name := "workersEndsAddUp", fn := fun _ => fun
  | [d1, d2, d3, d4] => { results := [.lit (.bool true)], args := [d1, d2, d3, d4] }
  | _ => none }
def workersEndsAddUpRow : OpenClaim := { program := "ytlnkamoeiaaleaadoor", sum := "8cea09ee6ad855abbc2698e92a375af37b4e2afc279711a1183c7b3df88fde13", func := "smithyard/smithyardlaw9.WorkersEndsAddUp", spec := "workersEndsAddUp", inPlace := ["internal/bytealg.IndexByteString", "internal/bytealg.IndexString"], named := ["unicode/utf8.first", "unicode/utf8.acceptRanges", "internal/bytealg.MaxLen"], apart := false, laid := [("unicode/utf8.acceptRanges", laid_unicode_utf8_acceptRanges), ("unicode/utf8.first", laid_unicode_utf8_first)] }
def WorkersEndsAddUpSaid : Prop := workersEndsAddUpRow.holds Tryd.pinned (OpenSpec.ofChange workersEndsAddUpSpec)

/-- ITS FALSE NEIGHBOUR: 'it returns false'. Refute it at one input. -/
def workersEndsAddUpWrong : ChangeSpec := { name := "workersEndsAddUp", fn := fun _ => fun
  | [d1, d2, d3, d4] => { results := [.lit (.bool false)], args := [d1, d2, d3, d4] }
  | _ => none }
def WorkersEndsAddUpWrongFalsely : Prop := workersEndsAddUpRow.holds Tryd.pinned (OpenSpec.ofChange workersEndsAddUpWrong)

/-- 'smithyardlaw9.WorkersBusyMatchesSpec': WHATEVER THE INPUT: true; the input reads as it did. -/
def workersBusyMatchesSpecSpec : ChangeSpec := { name := "workersBusyMatchesSpec", fn := fun _ => fun
  | [d1, d2, d3, d4, d5] => { results := [.lit (.bool true)], args := [d1, d2, d3, d4, d5] }
  | _ => none }
def workersBusyMatchesSpecRow : OpenClaim := { program := "ytlnkamoeiaaleaadoor", sum := "8cea09ee6ad855abbc2698e92a375af37b4e2afc279711a1183c7b3df88fde13", func := "smithyard/smithyardlaw9.WorkersBusyMatchesSpec", spec := "workersBusyMatchesSpec", inPlace := ["internal/bytealg.IndexByteString", "internal/bytealg.IndexString", "internal/bytealg.abigen_runtime_cmpstring"], named := ["unicode/utf8.first", "unicode/utf8.acceptRanges", "internal/bytealg.MaxLen"], apart := false, laid := [("unicode/utf8.acceptRanges", laid_unicode_utf8_acceptRanges), ("unicode/utf8.first", laid_unicode_utf8_first)] }
def WorkersBusyMatchesSpecSaid : Prop := workersBusyMatchesSpecRow.holds Tryd.pinned (OpenSpec.ofChange workersBusyMatchesSpecSpec)

/-- ITS FALSE NEIGHBOUR: 'it returns false'. Refute it at one input. -/
def workersBusyMatchesSpecWrong : ChangeSpec := { name := "workersBusyMatchesSpec", fn := fun _ => fun
  | [d1, d2, d3, d4, d5] => { results := [.lit (.bool false)], args := [d1, d2, d3, d4, d5] }
  | _ => none }
def WorkersBusyMatchesSpecWrongFalsely : Prop := workersBusyMatchesSpecRow.holds Tryd.pinned (OpenSpec.ofChange workersBusyMatchesSpecWrong)

/-- 'smithyardlaw9.WorkersChecksMatchSpec': WHATEVER THE INPUT: true; the input reads as it did. -/
def workersChecksMatchSpecSpec : ChangeSpec := { name := "workersChecksMatchSpec", fn := fun _ => fun
  | [d1, d2, d3, d4] => { results := [.lit (.bool true)], args := [d1, d2, d3, d4] }
  | _ => none }
def workersChecksMatchSpecRow : OpenClaim := { program := "ytlnkamoeiaaleaadoor", sum := "8cea09ee6ad855abbc2698e92a375af37b4e2afc279711a1183c7b3df88fde13", func := "smithyard/smithyardlaw9.WorkersChecksMatchSpec", spec := "workersChecksMatchSpec", inPlace := ["internal/bytealg.IndexByteString", "internal/bytealg.IndexString", "internal/bytealg.abigen_runtime_cmpstring"], unfollowed := true, recurses := true, named := ["unicode/utf8.first", "unicode/utf8.acceptRanges", "internal/bytealg.MaxLen"], apart := false, laid := [("unicode/utf8.acceptRanges", laid_unicode_utf8_acceptRanges), ("unicode/utf8.first", laid_unicode_utf8_first)] }
def WorkersChecksMatchSpecSaid : Prop := workersChecksMatchSpecRow.holds Tryd.pinned (OpenSpec.ofChange workersChecksMatchSpecSpec)

/-- ITS FALSE NEIGHBOUR: 'it returns false'. Refute it at one input. -/
def workersChecksMatchSpecWrong : ChangeSpec := { name := "workersChecksMatchSpec", fn := fun _ => fun
  | [d1, d2, d3, d4] => { results := [.lit (.bool false)], args := [d1, d2, d3, d4] }
  | _ => none }
def WorkersChecksMatchSpecWrongFalsely : Prop := workersChecksMatchSpecRow.holds Tryd.pinned (OpenSpec.ofChange workersChecksMatchSpecWrong)

/-- 'smithyardlaw9.WorkersOrdersMatchSpec': WHATEVER THE INPUT: true; the input reads as it did. -/
def workersOrdersMatchSpecSpec : ChangeSpec := { name := "workersOrdersMatchSpec", fn := fun _ => fun
  | [d1, d2] => { results := [.lit (.bool true)], args := [d1, d2] }
  | _ => none }
def workersOrdersMatchSpecRow : OpenClaim := { program := "ytlnkamoeiaaleaadoor", sum := "8cea09ee6ad855abbc2698e92a375af37b4e2afc279711a1183c7b3df88fde13", func := "smithyard/smithyardlaw9.WorkersOrdersMatchSpec", spec := "workersOrdersMatchSpec", inPlace := ["internal/bytealg.IndexByteString", "internal/bytealg.IndexString", "internal/bytealg.abigen_runtime_cmpstring", "slices.overlaps[int]"], unfollowed := true, recurses := true, named := ["unicode/utf8.first", "unicode/utf8.acceptRanges", "internal/bytealg.MaxLen"], apart := false, laid := [("unicode/utf8.acceptRanges", laid_unicode_utf8_acceptRanges), ("unicode/utf8.first", laid_unicode_utf8_first)] }
def WorkersOrdersMatchSpecSaid : Prop := workersOrdersMatchSpecRow.holds Tryd.pinned (OpenSpec.ofChange workersOrdersMatchSpecSpec)

/-- ITS FALSE NEIGHBOUR: 'it returns false'. Refute it at one input. -/
def workersOrdersMatchSpecWrong : ChangeSpec := { name := "workersOrdersMatchSpec", fn := fun _ => fun
  | [d1, d2] => { results := [.lit (.bool false)], args := [d1, d2] }
  | _ => none }
def WorkersOrdersMatchSpecWrongFalsely : Prop := workersOrdersMatchSpecRow.holds Tryd.pinned (OpenSpec.ofChange workersOrdersMatchSpecWrong)

/- THE SECOND FORM. 'bulk': how many values and letters a reading holds, each counted each time it is reached (what is shared counts as often as it is met; a slice's spare places count too). A statement '..UptoSaid' is the law's where the arguments, and the package variables that the reading takes, are together of bulk at most 1048576: NARROWER than '..Said'. Prove '..Said' where nothing that the law and all that it calls make is longer than what came in: it says more and counts as full. Else prove '..UptoSaid'. A law counts once. -/
mutual
def uptoBulk {H : Type} : DataW H → Nat
  | .lit (.string bytes) => bytes.length + 1
  | .lit _ => 1
  | .nil => 1
  | .ptr d => uptoBulk d + 1
  | .slice elems spare => uptoBulkAll elems + uptoBulkAll spare + 1
  | .agg parts => uptoBulkAll parts + 1
  | .iface _ d => uptoBulk d + 1
  | .map entries => uptoBulkEntries entries + 1
  | .held _ => 1
def uptoBulkAll {H : Type} : List (DataW H) → Nat
  | [] => 0
  | d :: r => uptoBulk d + uptoBulkAll r
def uptoBulkEntries {H : Type} : List (Lit × DataW H) → Nat
  | [] => 0
  | x :: r => uptoBulkEntry x + uptoBulkEntries r
def uptoBulkEntry {H : Type} : Lit × DataW H → Nat
  | (.string bytes, d) => bytes.length + uptoBulk d + 1
  | (_, d) => uptoBulk d + 1
 end
def uptoSmall : (H : Type) → List (DataW H) → Bool := fun _ ds => decide (uptoBulkAll ds ≤ 1048576)
def OpenSpec.upto (s : _root_.Go.ChangeSpec) : _root_.Go.OpenSpec := { _root_.Go.OpenSpec.ofChange s with cond := some uptoSmall }

/-- 'smithyardlaw9.WorkersEndsMatchSpec', WHERE WHAT IT READS IS OF BULK AT MOST 1048576: true; the input reads as it did. -/
def workersEndsMatchSpecUptoRow : OpenClaim := { program := "ytlnkamoeiaaleaadoor", sum := "8cea09ee6ad855abbc2698e92a375af37b4e2afc279711a1183c7b3df88fde13", func := "smithyard/smithyardlaw9.WorkersEndsMatchSpec", spec := "workersEndsMatchSpec", inPlace := ["internal/bytealg.IndexByteString", "internal/bytealg.IndexString"], named := ["unicode/utf8.first", "unicode/utf8.acceptRanges", "internal/bytealg.MaxLen"], apart := false, laid := [("unicode/utf8.acceptRanges", laid_unicode_utf8_acceptRanges), ("unicode/utf8.first", laid_unicode_utf8_first)], narrowed := true }
def WorkersEndsMatchSpecUptoSaid : Prop := workersEndsMatchSpecUptoRow.holds Tryd.pinned (OpenSpec.upto workersEndsMatchSpecSpec)

/-- 'smithyardlaw9.WorkersEndsAddUp', WHERE WHAT IT READS IS OF BULK AT MOST 1048576: true; the input reads as it did. -/
def workersEndsAddUpUptoRow : OpenClaim := { program := "ytlnkamoeiaaleaadoor", sum := "8cea09ee6ad855abbc2698e92a375af37b4e2afc279711a1183c7b3df88fde13", func := "smithyard/smithyardlaw9.WorkersEndsAddUp", spec := "workersEndsAddUp", inPlace := ["internal/bytealg.IndexByteString", "internal/bytealg.IndexString"], named := ["unicode/utf8.first", "unicode/utf8.acceptRanges", "internal/bytealg.MaxLen"], apart := false, laid := [("unicode/utf8.acceptRanges", laid_unicode_utf8_acceptRanges), ("unicode/utf8.first", laid_unicode_utf8_first)], narrowed := true }
def WorkersEndsAddUpUptoSaid : Prop := workersEndsAddUpUptoRow.holds Tryd.pinned (OpenSpec.upto workersEndsAddUpSpec)

/-- 'smithyardlaw9.WorkersBusyMatchesSpec', WHERE WHAT IT READS IS OF BULK AT MOST 1048576: true; the input reads as it did. -/
def workersBusyMatchesSpecUptoRow : OpenClaim := { program := "ytlnkamoeiaaleaadoor", sum := "8cea09ee6ad855abbc2698e92a375af37b4e2afc279711a1183c7b3df88fde13", func := "smithyard/smithyardlaw9.WorkersBusyMatchesSpec", spec := "workersBusyMatchesSpec", inPlace := ["internal/bytealg.IndexByteString", "internal/bytealg.IndexString", "internal/bytealg.abigen_runtime_cmpstring"], named := ["unicode/utf8.first", "unicode/utf8.acceptRanges", "internal/bytealg.MaxLen"], apart := false, laid := [("unicode/utf8.acceptRanges", laid_unicode_utf8_acceptRanges), ("unicode/utf8.first", laid_unicode_utf8_first)], narrowed := true }
def WorkersBusyMatchesSpecUptoSaid : Prop := workersBusyMatchesSpecUptoRow.holds Tryd.pinned (OpenSpec.upto workersBusyMatchesSpecSpec)

/-- 'smithyardlaw9.WorkersChecksMatchSpec', WHERE WHAT IT READS IS OF BULK AT MOST 1048576: true; the input reads as it did. -/
def workersChecksMatchSpecUptoRow : OpenClaim := { program := "ytlnkamoeiaaleaadoor", sum := "8cea09ee6ad855abbc2698e92a375af37b4e2afc279711a1183c7b3df88fde13", func := "smithyard/smithyardlaw9.WorkersChecksMatchSpec", spec := "workersChecksMatchSpec", inPlace := ["internal/bytealg.IndexByteString", "internal/bytealg.IndexString", "internal/bytealg.abigen_runtime_cmpstring"], unfollowed := true, recurses := true, named := ["unicode/utf8.first", "unicode/utf8.acceptRanges", "internal/bytealg.MaxLen"], apart := false, laid := [("unicode/utf8.acceptRanges", laid_unicode_utf8_acceptRanges), ("unicode/utf8.first", laid_unicode_utf8_first)], narrowed := true }
def WorkersChecksMatchSpecUptoSaid : Prop := workersChecksMatchSpecUptoRow.holds Tryd.pinned (OpenSpec.upto workersChecksMatchSpecSpec)

/-- 'smithyardlaw9.WorkersOrdersMatchSpec', WHERE WHAT IT READS IS OF BULK AT MOST 1048576: true; the input reads as it did. -/
def workersOrdersMatchSpecUptoRow : OpenClaim := { program := "ytlnkamoeiaaleaadoor", sum := "8cea09ee6ad855abbc2698e92a375af37b4e2afc279711a1183c7b3df88fde13", func := "smithyard/smithyardlaw9.WorkersOrdersMatchSpec", spec := "workersOrdersMatchSpec", inPlace := ["internal/bytealg.IndexByteString", "internal/bytealg.IndexString", "internal/bytealg.abigen_runtime_cmpstring", "slices.overlaps[int]"], unfollowed := true, recurses := true, named := ["unicode/utf8.first", "unicode/utf8.acceptRanges", "internal/bytealg.MaxLen"], apart := false, laid := [("unicode/utf8.acceptRanges", laid_unicode_utf8_acceptRanges), ("unicode/utf8.first", laid_unicode_utf8_first)], narrowed := true }
def WorkersOrdersMatchSpecUptoSaid : Prop := workersOrdersMatchSpecUptoRow.holds Tryd.pinned (OpenSpec.upto workersOrdersMatchSpecSpec)

end Rows
end Go.Proofs.YtlnkamoeiaaleaaDoor
