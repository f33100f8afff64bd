/-
  NARROWER THAN 'FOR EVERY INPUT', by the rows' own cells (each row's printed sentence says how): TrialsAffectedMatchesSpec: laid · TrialsVerdictsMatchSpec: laid · TrialsVerdictsGrow: laid · TrialsAffectedByParts: laid · TrialsFlakyHaveDoneBoth: laid · TrialsFlakyMatchesSpec: laid · TrialsAsideAreFlaky: laid · TrialsReadsMatchSpec: laid · TrialsShardsAreEven: laid · TrialsShardsMatchSpec: laid.
  DERIVED. THE GIVEN ROWS OF THIS SEAT. 10 by the template 'for every input the law returns true; each argument reads behind the call as it read before'; 0 by the template 'total and deterministic' (their statements: YtgalaeeppalljaaDoorTotals.lean).
  GIVEN WITH THE SEED: the statements are not yours to turn. If you find one false, say at which input.
  Laid BY PROGRAM, IN A SANDBOX (cutbox-rows.mjs): the forced cells as the released guide's own fill.sh prints them over the translation 298d7696f6c54228… (all of the seat's roots in one cut). By AI agents, Wed Nov 11 2026. No macro, syntax, notation, axiom, sorry.
-/
import Derived.Test.YtgalaeeppalljaaDoorChecked
import GoSem.PinnedTables
import GoSem.Claim
import GoSem.ClaimJoined
import GoSem.ClaimMapViews
import Derived.JoinedTies
import Derived.KernelRfl
namespace Go.Proofs.YtgalaeeppalljaaDoor
/- THE CELL 'sum', in the pinned program and in every row, IS THE sha256 OF THE DUMP (.gsa) THAT YtgalaeeppalljaaDoorProg.lean LOADS. Nothing in Lean hashes anything: it is a label: what it is worth is what the hold of that sum in a sandbox is worth. -/
noncomputable def Tryd.pinned : Pinned := { name := "ytgalaeeppalljaadoor", sum := "298d7696f6c54228fb0702a78204d92d6fb894d11ba7432b0fc6466c71ee87eb", checked := Tryd.checked }
namespace Rows
def none {H : Type} : Left H := { results := [], args := [] }

/- WHAT THE LISTED PACKAGE-LEVEL VARIABLES READ AS WHEN THE CALL BEGINS. Each datum BY PROGRAM (the guide's laid-datum.mjs) off the statement by which the dump's own 'gosem.cut.vars' lays the variable. In a bare row this is a premise. The card (YtgalaeeppalljaaDoorCards.lean) ties it to the program's text. -/
def laid_unicode_utf8_acceptRanges {H : Type} : DataW H := .agg [.agg [.lit (.int .u8 128), .lit (.int .u8 191)], .agg [.lit (.int .u8 160), .lit (.int .u8 191)], .agg [.lit (.int .u8 128), .lit (.int .u8 159)], .agg [.lit (.int .u8 144), .lit (.int .u8 191)], .agg [.lit (.int .u8 128), .lit (.int .u8 143)], .agg [.lit (.int .u8 0), .lit (.int .u8 0)], .agg [.lit (.int .u8 0), .lit (.int .u8 0)], .agg [.lit (.int .u8 0), .lit (.int .u8 0)], .agg [.lit (.int .u8 0), .lit (.int .u8 0)], .agg [.lit (.int .u8 0), .lit (.int .u8 0)], .agg [.lit (.int .u8 0), .lit (.int .u8 0)], .agg [.lit (.int .u8 0), .lit (.int .u8 0)], .agg [.lit (.int .u8 0), .lit (.int .u8 0)], .agg [.lit (.int .u8 0), .lit (.int .u8 0)], .agg [.lit (.int .u8 0), .lit (.int .u8 0)], .agg [.lit (.int .u8 0), .lit (.int .u8 0)]]
/-- One of Go's own tables, pinned by name: the form's constant. -/
def laid_unicode_utf8_first : DataW Unit := Go.Pinned.utf8First
def laid_math_bits_deBruijn32tab {H : Type} : DataW H := .agg [.lit (.int .u8 0), .lit (.int .u8 1), .lit (.int .u8 28), .lit (.int .u8 2), .lit (.int .u8 29), .lit (.int .u8 14), .lit (.int .u8 24), .lit (.int .u8 3), .lit (.int .u8 30), .lit (.int .u8 22), .lit (.int .u8 20), .lit (.int .u8 15), .lit (.int .u8 25), .lit (.int .u8 17), .lit (.int .u8 4), .lit (.int .u8 8), .lit (.int .u8 31), .lit (.int .u8 27), .lit (.int .u8 13), .lit (.int .u8 23), .lit (.int .u8 21), .lit (.int .u8 19), .lit (.int .u8 16), .lit (.int .u8 7), .lit (.int .u8 26), .lit (.int .u8 12), .lit (.int .u8 18), .lit (.int .u8 6), .lit (.int .u8 11), .lit (.int .u8 5), .lit (.int .u8 10), .lit (.int .u8 9)]
def laid_math_bits_deBruijn64tab {H : Type} : DataW H := .agg [.lit (.int .u8 0), .lit (.int .u8 1), .lit (.int .u8 56), .lit (.int .u8 2), .lit (.int .u8 57), .lit (.int .u8 49), .lit (.int .u8 28), .lit (.int .u8 3), .lit (.int .u8 61), .lit (.int .u8 58), .lit (.int .u8 42), .lit (.int .u8 50), .lit (.int .u8 38), .lit (.int .u8 29), .lit (.int .u8 17), .lit (.int .u8 4), .lit (.int .u8 62), .lit (.int .u8 47), .lit (.int .u8 59), .lit (.int .u8 36), .lit (.int .u8 45), .lit (.int .u8 43), .lit (.int .u8 51), .lit (.int .u8 22), .lit (.int .u8 53), .lit (.int .u8 39), .lit (.int .u8 33), .lit (.int .u8 30), .lit (.int .u8 24), .lit (.int .u8 18), .lit (.int .u8 12), .lit (.int .u8 5), .lit (.int .u8 63), .lit (.int .u8 55), .lit (.int .u8 48), .lit (.int .u8 27), .lit (.int .u8 60), .lit (.int .u8 41), .lit (.int .u8 37), .lit (.int .u8 16), .lit (.int .u8 46), .lit (.int .u8 35), .lit (.int .u8 44), .lit (.int .u8 21), .lit (.int .u8 52), .lit (.int .u8 32), .lit (.int .u8 23), .lit (.int .u8 11), .lit (.int .u8 54), .lit (.int .u8 26), .lit (.int .u8 40), .lit (.int .u8 15), .lit (.int .u8 34), .lit (.int .u8 20), .lit (.int .u8 31), .lit (.int .u8 10), .lit (.int .u8 25), .lit (.int .u8 14), .lit (.int .u8 19), .lit (.int .u8 9), .lit (.int .u8 13), .lit (.int .u8 8), .lit (.int .u8 7), .lit (.int .u8 6)]
def laid_internal_strconv_uint64pow10 {H : Type} : DataW H := .agg [.lit (.int .u64 1), .lit (.int .u64 10), .lit (.int .u64 100), .lit (.int .u64 1000), .lit (.int .u64 10000), .lit (.int .u64 100000), .lit (.int .u64 1000000), .lit (.int .u64 10000000), .lit (.int .u64 100000000), .lit (.int .u64 1000000000), .lit (.int .u64 10000000000), .lit (.int .u64 100000000000), .lit (.int .u64 1000000000000), .lit (.int .u64 10000000000000), .lit (.int .u64 100000000000000), .lit (.int .u64 1000000000000000), .lit (.int .u64 10000000000000000), .lit (.int .u64 100000000000000000), .lit (.int .u64 1000000000000000000), .lit (.int .u64 10000000000000000000)]
def laid_strconv_ErrRange {H : Type} : DataW H := .iface "*errors.errorString" (.ptr (.agg [.lit (.string [118, 97, 108, 117, 101, 32, 111, 117, 116, 32, 111, 102, 32, 114, 97, 110, 103, 101])]))
def laid_strconv_ErrSyntax {H : Type} : DataW H := .iface "*errors.errorString" (.ptr (.agg [.lit (.string [105, 110, 118, 97, 108, 105, 100, 32, 115, 121, 110, 116, 97, 120])]))

/-- 'smithyardlaw10.TrialsAffectedMatchesSpec': WHATEVER THE INPUT: true; the input reads as it did. -/
def trialsAffectedMatchesSpecSpec : ChangeSpec := { name := "trialsAffectedMatchesSpec", fn := fun _ => fun
  | [d1, d2] => { results := [.lit (.bool true)], args := [d1, d2] }
  | _ => none }
def trialsAffectedMatchesSpecRow : OpenClaim := { program := "ytgalaeeppalljaadoor", sum := "298d7696f6c54228fb0702a78204d92d6fb894d11ba7432b0fc6466c71ee87eb", func := "smithyard/smithyardlaw10.TrialsAffectedMatchesSpec", spec := "trialsAffectedMatchesSpec", inPlace := ["internal/bytealg.CountString", "internal/bytealg.IndexByteString", "internal/bytealg.IndexString"], unfollowed := true, recurses := true, named := ["unicode/utf8.first", "unicode/utf8.acceptRanges", "internal/bytealg.MaxLen"], plainKeys := false, apart := false, laid := [("unicode/utf8.acceptRanges", laid_unicode_utf8_acceptRanges), ("unicode/utf8.first", laid_unicode_utf8_first)] }
def TrialsAffectedMatchesSpecSaid : Prop := trialsAffectedMatchesSpecRow.holds Tryd.pinned (OpenSpec.ofChange trialsAffectedMatchesSpecSpec)

/-- ITS FALSE NEIGHBOUR: 'it returns false'. Refute it at one input. -/
def trialsAffectedMatchesSpecWrong : ChangeSpec := { name := "trialsAffectedMatchesSpec", fn := fun _ => fun
  | [d1, d2] => { results := [.lit (.bool false)], args := [d1, d2] }
  | _ => none }
def TrialsAffectedMatchesSpecWrongFalsely : Prop := trialsAffectedMatchesSpecRow.holds Tryd.pinned (OpenSpec.ofChange trialsAffectedMatchesSpecWrong)

/-- 'smithyardlaw10.TrialsVerdictsMatchSpec': WHATEVER THE INPUT: true; the input reads as it did. -/
def trialsVerdictsMatchSpecSpec : ChangeSpec := { name := "trialsVerdictsMatchSpec", fn := fun _ => fun
  | [d1, d2, d3, d4] => { results := [.lit (.bool true)], args := [d1, d2, d3, d4] }
  | _ => none }
def trialsVerdictsMatchSpecRow : OpenClaim := { program := "ytgalaeeppalljaadoor", sum := "298d7696f6c54228fb0702a78204d92d6fb894d11ba7432b0fc6466c71ee87eb", func := "smithyard/smithyardlaw10.TrialsVerdictsMatchSpec", spec := "trialsVerdictsMatchSpec", inPlace := ["internal/bytealg.CountString", "internal/bytealg.IndexByteString", "internal/bytealg.IndexString"], named := ["unicode/utf8.first", "unicode/utf8.acceptRanges", "internal/bytealg.MaxLen"], plainKeys := false, apart := false, laid := [("unicode/utf8.acceptRanges", laid_unicode_utf8_acceptRanges), ("unicode/utf8.first", laid_unicode_utf8_first)] }
def TrialsVerdictsMatchSpecSaid : Prop := trialsVerdictsMatchSpecRow.holds Tryd.pinned (OpenSpec.ofChange trialsVerdictsMatchSpecSpec)

/-- ITS FALSE NEIGHBOUR: 'it returns false'. Refute it at one input. -/
def trialsVerdictsMatchSpecWrong : ChangeSpec := { name := "trialsVerdictsMatchSpec", fn := fun _ => fun
  | [d1, d2, d3, d4] => { results := [.lit (.bool false)], args := [d1, d2, d3, d4] }
  | _ => none }
def TrialsVerdictsMatchSpecWrongFalsely : Prop := trialsVerdictsMatchSpecRow.holds Tryd.pinned (OpenSpec.ofChange trialsVerdictsMatchSpecWrong)

/-- 'smithyardlaw10.TrialsVerdictsGrow': WHATEVER THE INPUT: true; the input reads as it did. -/
def trialsVerdictsGrowSpec : ChangeSpec := { name := "trialsVerdictsGrow", fn := fun _ => fun
  | [d1, d2, d3, d4] => { results := [.lit (.bool true)], args := [d1, d2, d3, d4] }
  | _ => none }
def trialsVerdictsGrowRow : OpenClaim := { program := "ytgalaeeppalljaadoor", sum := "298d7696f6c54228fb0702a78204d92d6fb894d11ba7432b0fc6466c71ee87eb", func := "smithyard/smithyardlaw10.TrialsVerdictsGrow", spec := "trialsVerdictsGrow", inPlace := ["internal/bytealg.CountString", "internal/bytealg.IndexByteString", "internal/bytealg.IndexString"], named := ["unicode/utf8.first", "unicode/utf8.acceptRanges", "internal/bytealg.MaxLen"], plainKeys := false, apart := false, laid := [("unicode/utf8.acceptRanges", laid_unicode_utf8_acceptRanges), ("unicode/utf8.first", laid_unicode_utf8_first)] }
def TrialsVerdictsGrowSaid : Prop := trialsVerdictsGrowRow.holds Tryd.pinned (OpenSpec.ofChange trialsVerdictsGrowSpec)

/-- ITS FALSE NEIGHBOUR: 'it returns false'. Refute it at one input. -/
def trialsVerdictsGrowWrong : ChangeSpec := { name := "trialsVerdictsGrow", fn := fun _ => fun
  | [d1, d2, d3, d4] => { results := [.lit (.bool false)], args := [d1, d2, d3, d4] }
  | _ => none }
def TrialsVerdictsGrowWrongFalsely : Prop := trialsVerdictsGrowRow.holds Tryd.pinned (OpenSpec.ofChange trialsVerdictsGrowWrong)

/-- 'smithyardlaw10.TrialsAffectedByParts': WHATEVER THE INPUT: true; the input reads as it did. -/
def trialsAffectedByPartsSpec : ChangeSpec := { name := "trialsAffectedByParts", fn := fun _ => fun
  | [d1, d2, d3] => { results := [.lit (.bool true)], args := [d1, d2, d3] }
  | _ => none }
def trialsAffectedByPartsRow : OpenClaim := { program := "ytgalaeeppalljaadoor", sum := "298d7696f6c54228fb0702a78204d92d6fb894d11ba7432b0fc6466c71ee87eb", func := "smithyard/smithyardlaw10.TrialsAffectedByParts", spec := "trialsAffectedByParts", inPlace := ["internal/bytealg.CountString", "internal/bytealg.IndexByteString", "internal/bytealg.IndexString"], unfollowed := true, recurses := true, named := ["unicode/utf8.first", "unicode/utf8.acceptRanges", "internal/bytealg.MaxLen"], plainKeys := false, apart := false, laid := [("unicode/utf8.acceptRanges", laid_unicode_utf8_acceptRanges), ("unicode/utf8.first", laid_unicode_utf8_first)] }
def TrialsAffectedByPartsSaid : Prop := trialsAffectedByPartsRow.holds Tryd.pinned (OpenSpec.ofChange trialsAffectedByPartsSpec)

/-- ITS FALSE NEIGHBOUR: 'it returns false'. Refute it at one input. -/
def trialsAffectedByPartsWrong : ChangeSpec := { name := "trialsAffectedByParts", fn := fun _ => fun
  | [d1, d2, d3] => { results := [.lit (.bool false)], args := [d1, d2, d3] }
  | _ => none }
def TrialsAffectedByPartsWrongFalsely : Prop := trialsAffectedByPartsRow.holds Tryd.pinned (OpenSpec.ofChange trialsAffectedByPartsWrong)

/-- 'smithyardlaw10.TrialsFlakyHaveDoneBoth': WHATEVER THE INPUT: true; the input reads as it did. -/
def trialsFlakyHaveDoneBothSpec : ChangeSpec := { name := "trialsFlakyHaveDoneBoth", fn := fun _ => fun
  | [d] => { results := [.lit (.bool true)], args := [d] }
  | _ => none }
def trialsFlakyHaveDoneBothRow : OpenClaim := { program := "ytgalaeeppalljaadoor", sum := "298d7696f6c54228fb0702a78204d92d6fb894d11ba7432b0fc6466c71ee87eb", func := "smithyard/smithyardlaw10.TrialsFlakyHaveDoneBoth", spec := "trialsFlakyHaveDoneBoth", inPlace := ["internal/bytealg.CountString", "internal/bytealg.IndexByteString", "internal/bytealg.IndexString"], unfollowed := true, recurses := true, named := ["unicode/utf8.first", "unicode/utf8.acceptRanges", "internal/bytealg.MaxLen"], plainKeys := false, apart := false, laid := [("unicode/utf8.acceptRanges", laid_unicode_utf8_acceptRanges), ("unicode/utf8.first", laid_unicode_utf8_first)] }
def TrialsFlakyHaveDoneBothSaid : Prop := trialsFlakyHaveDoneBothRow.holds Tryd.pinned (OpenSpec.ofChange trialsFlakyHaveDoneBothSpec)

/-- ITS FALSE NEIGHBOUR: 'it returns false'. Refute it at one input. -/
def trialsFlakyHaveDoneBothWrong : ChangeSpec := { name := "trialsFlakyHaveDoneBoth", fn := fun _ => fun
  | [d] => { results := [.lit (.bool false)], args := [d] }
  | _ => none }
def TrialsFlakyHaveDoneBothWrongFalsely : Prop := trialsFlakyHaveDoneBothRow.holds Tryd.pinned (OpenSpec.ofChange trialsFlakyHaveDoneBothWrong)

/-- 'smithyardlaw10.TrialsFlakyMatchesSpec': WHATEVER THE INPUT: true; the input reads as it did. -/
def trialsFlakyMatchesSpecSpec : ChangeSpec := { name := "trialsFlakyMatchesSpec", fn := fun _ => fun
  | [d1, d2] => { results := [.lit (.bool true)], args := [d1, d2] }
  | _ => none }
def trialsFlakyMatchesSpecRow : OpenClaim := { program := "ytgalaeeppalljaadoor", sum := "298d7696f6c54228fb0702a78204d92d6fb894d11ba7432b0fc6466c71ee87eb", func := "smithyard/smithyardlaw10.TrialsFlakyMatchesSpec", spec := "trialsFlakyMatchesSpec", inPlace := ["internal/bytealg.CountString", "internal/bytealg.IndexByteString", "internal/bytealg.IndexString"], unfollowed := true, recurses := true, named := ["unicode/utf8.first", "unicode/utf8.acceptRanges", "internal/bytealg.MaxLen"], plainKeys := false, apart := false, laid := [("unicode/utf8.acceptRanges", laid_unicode_utf8_acceptRanges), ("unicode/utf8.first", laid_unicode_utf8_first)] }
def TrialsFlakyMatchesSpecSaid : Prop := trialsFlakyMatchesSpecRow.holds Tryd.pinned (OpenSpec.ofChange trialsFlakyMatchesSpecSpec)

/-- ITS FALSE NEIGHBOUR: 'it returns false'. Refute it at one input. -/
def trialsFlakyMatchesSpecWrong : ChangeSpec := { name := "trialsFlakyMatchesSpec", fn := fun _ => fun
  | [d1, d2] => { results := [.lit (.bool false)], args := [d1, d2] }
  | _ => none }
def TrialsFlakyMatchesSpecWrongFalsely : Prop := trialsFlakyMatchesSpecRow.holds Tryd.pinned (OpenSpec.ofChange trialsFlakyMatchesSpecWrong)

/-- 'smithyardlaw10.TrialsAsideAreFlaky': WHATEVER THE INPUT: true; the input reads as it did. -/
def trialsAsideAreFlakySpec : ChangeSpec := { name := "trialsAsideAreFlaky", fn := fun _ => fun
  | [d1, d2, d3, d4, d5, d6] => { results := [.lit (.bool true)], args := [d1, d2, d3, d4, d5, d6] }
  | _ => none }
def trialsAsideAreFlakyRow : OpenClaim := { program := "ytgalaeeppalljaadoor", sum := "298d7696f6c54228fb0702a78204d92d6fb894d11ba7432b0fc6466c71ee87eb", func := "smithyard/smithyardlaw10.TrialsAsideAreFlaky", spec := "trialsAsideAreFlaky", inPlace := ["internal/bytealg.CountString", "internal/bytealg.IndexByteString", "internal/bytealg.IndexString"], unfollowed := true, recurses := true, named := ["unicode/utf8.first", "unicode/utf8.acceptRanges", "internal/bytealg.MaxLen"], plainKeys := false, apart := false, laid := [("unicode/utf8.acceptRanges", laid_unicode_utf8_acceptRanges), ("unicode/utf8.first", laid_unicode_utf8_first)] }
def TrialsAsideAreFlakySaid : Prop := trialsAsideAreFlakyRow.holds Tryd.pinned (OpenSpec.ofChange trialsAsideAreFlakySpec)

/-- ITS FALSE NEIGHBOUR: 'it returns false'. Refute it at one input. -/
def trialsAsideAreFlakyWrong : ChangeSpec := { name := "trialsAsideAreFlaky", fn := fun _ => fun
  | [d1, d2, d3, d4, d5, d6] => { results := [.lit (.bool false)], args := [d1, d2, d3, d4, d5, d6] }
  | _ => none }
def TrialsAsideAreFlakyWrongFalsely : Prop := trialsAsideAreFlakyRow.holds Tryd.pinned (OpenSpec.ofChange trialsAsideAreFlakyWrong)

/-- 'smithyardlaw10.TrialsReadsMatchSpec': WHATEVER THE INPUT: true; the input reads as it did. -/
def trialsReadsMatchSpecSpec : ChangeSpec := { name := "trialsReadsMatchSpec", fn := fun _ => fun
  | [d] => { results := [.lit (.bool true)], args := [d] }
  | _ => none }
def trialsReadsMatchSpecRow : OpenClaim := { program := "ytgalaeeppalljaadoor", sum := "298d7696f6c54228fb0702a78204d92d6fb894d11ba7432b0fc6466c71ee87eb", func := "smithyard/smithyardlaw10.TrialsReadsMatchSpec", spec := "trialsReadsMatchSpec", inPlace := ["internal/bytealg.IndexByteString", "internal/bytealg.IndexString", "internal/bytealg.CountString"], unfollowed := true, recurses := true, named := ["internal/bytealg.MaxLen", "unicode/utf8.first", "unicode/utf8.acceptRanges", "strconv.ErrSyntax", "strconv.ErrRange", "internal/strconv.uint64pow10", "math/bits.deBruijn32tab", "math/bits.deBruijn64tab"], plainKeys := false, apart := false, laid := [("math/bits.deBruijn32tab", laid_math_bits_deBruijn32tab), ("math/bits.deBruijn64tab", laid_math_bits_deBruijn64tab), ("internal/strconv.uint64pow10", laid_internal_strconv_uint64pow10), ("unicode/utf8.acceptRanges", laid_unicode_utf8_acceptRanges), ("strconv.ErrRange", laid_strconv_ErrRange), ("strconv.ErrSyntax", laid_strconv_ErrSyntax), ("unicode/utf8.first", laid_unicode_utf8_first)] }
def TrialsReadsMatchSpecSaid : Prop := trialsReadsMatchSpecRow.holds Tryd.pinned (OpenSpec.ofChange trialsReadsMatchSpecSpec)

/-- ITS FALSE NEIGHBOUR: 'it returns false'. Refute it at one input. -/
def trialsReadsMatchSpecWrong : ChangeSpec := { name := "trialsReadsMatchSpec", fn := fun _ => fun
  | [d] => { results := [.lit (.bool false)], args := [d] }
  | _ => none }
def TrialsReadsMatchSpecWrongFalsely : Prop := trialsReadsMatchSpecRow.holds Tryd.pinned (OpenSpec.ofChange trialsReadsMatchSpecWrong)

/-- 'smithyardlaw10.TrialsShardsAreEven': WHATEVER THE INPUT: true; the input reads as it did. -/
def trialsShardsAreEvenSpec : ChangeSpec := { name := "trialsShardsAreEven", fn := fun _ => fun
  | [d1, d2] => { results := [.lit (.bool true)], args := [d1, d2] }
  | _ => none }
def trialsShardsAreEvenRow : OpenClaim := { program := "ytgalaeeppalljaadoor", sum := "298d7696f6c54228fb0702a78204d92d6fb894d11ba7432b0fc6466c71ee87eb", func := "smithyard/smithyardlaw10.TrialsShardsAreEven", spec := "trialsShardsAreEven", inPlace := ["internal/bytealg.CountString", "internal/bytealg.IndexByteString", "internal/bytealg.IndexString"], unfollowed := true, recurses := true, named := ["unicode/utf8.first", "unicode/utf8.acceptRanges", "internal/bytealg.MaxLen"], plainKeys := false, apart := false, laid := [("unicode/utf8.acceptRanges", laid_unicode_utf8_acceptRanges), ("unicode/utf8.first", laid_unicode_utf8_first)] }
def TrialsShardsAreEvenSaid : Prop := trialsShardsAreEvenRow.holds Tryd.pinned (OpenSpec.ofChange trialsShardsAreEvenSpec)

/-- ITS FALSE NEIGHBOUR: 'it returns false'. Refute it at one input. -/
def trialsShardsAreEvenWrong : ChangeSpec := { name := "trialsShardsAreEven", fn := fun _ => fun
  | [d1, d2] => { results := [.lit (.bool false)], args := [d1, d2] }
  | _ => none }
def TrialsShardsAreEvenWrongFalsely : Prop := trialsShardsAreEvenRow.holds Tryd.pinned (OpenSpec.ofChange trialsShardsAreEvenWrong)

/-- 'smithyardlaw10.TrialsShardsMatchSpec': WHATEVER THE INPUT: true; the input reads as it did. -/
def trialsShardsMatchSpecSpec : ChangeSpec := { name := "trialsShardsMatchSpec", fn := fun _ => fun
  | [d1, d2, d3] => { results := [.lit (.bool true)], args := [d1, d2, d3] }
  | _ => none }
def trialsShardsMatchSpecRow : OpenClaim := { program := "ytgalaeeppalljaadoor", sum := "298d7696f6c54228fb0702a78204d92d6fb894d11ba7432b0fc6466c71ee87eb", func := "smithyard/smithyardlaw10.TrialsShardsMatchSpec", spec := "trialsShardsMatchSpec", inPlace := ["internal/bytealg.CountString", "internal/bytealg.IndexByteString", "internal/bytealg.IndexString", "slices.overlaps[smithyard/api.TestCase]"], unfollowed := true, recurses := true, named := ["unicode/utf8.first", "unicode/utf8.acceptRanges", "internal/bytealg.MaxLen"], plainKeys := false, apart := false, laid := [("unicode/utf8.acceptRanges", laid_unicode_utf8_acceptRanges), ("unicode/utf8.first", laid_unicode_utf8_first)] }
def TrialsShardsMatchSpecSaid : Prop := trialsShardsMatchSpecRow.holds Tryd.pinned (OpenSpec.ofChange trialsShardsMatchSpecSpec)

/-- ITS FALSE NEIGHBOUR: 'it returns false'. Refute it at one input. -/
def trialsShardsMatchSpecWrong : ChangeSpec := { name := "trialsShardsMatchSpec", fn := fun _ => fun
  | [d1, d2, d3] => { results := [.lit (.bool false)], args := [d1, d2, d3] }
  | _ => none }
def TrialsShardsMatchSpecWrongFalsely : Prop := trialsShardsMatchSpecRow.holds Tryd.pinned (OpenSpec.ofChange trialsShardsMatchSpecWrong)

/- THE SECOND FORM. 'bulk': how many values and letters a reading holds, each counted each time it is reached (what is shared counts as often as it is met; a slice's spare places count too). A statement '..UptoSaid' is the law's where the arguments, and the package variables that the reading takes, are together of bulk at most 1048576: NARROWER than '..Said'. Prove '..Said' where nothing that the law and all that it calls make is longer than what came in: it says more and counts as full. Else prove '..UptoSaid'. A law counts once. -/
mutual
def uptoBulk {H : Type} : DataW H → Nat
  | .lit (.string bytes) => bytes.length + 1
  | .lit _ => 1
  | .nil => 1
  | .ptr d => uptoBulk d + 1
  | .slice elems spare => uptoBulkAll elems + uptoBulkAll spare + 1
  | .agg parts => uptoBulkAll parts + 1
  | .iface _ d => uptoBulk d + 1
  | .map entries => uptoBulkEntries entries + 1
  | .held _ => 1
def uptoBulkAll {H : Type} : List (DataW H) → Nat
  | [] => 0
  | d :: r => uptoBulk d + uptoBulkAll r
def uptoBulkEntries {H : Type} : List (Lit × DataW H) → Nat
  | [] => 0
  | x :: r => uptoBulkEntry x + uptoBulkEntries r
def uptoBulkEntry {H : Type} : Lit × DataW H → Nat
  | (.string bytes, d) => bytes.length + uptoBulk d + 1
  | (_, d) => uptoBulk d + 1
 end
def uptoSmall : (H : Type) → List (DataW H) → Bool := fun _ ds => decide (uptoBulkAll ds ≤ 1048576)
def OpenSpec.upto (s : _root_.Go.ChangeSpec) : _root_.Go.OpenSpec := { _root_.Go.OpenSpec.ofChange s with cond := some uptoSmall }

/-- 'smithyardlaw10.TrialsAffectedMatchesSpec', WHERE WHAT IT READS IS OF BULK AT MOST 1048576: true; the input reads as it did. -/
def trialsAffectedMatchesSpecUptoRow : OpenClaim := { program := "ytgalaeeppalljaadoor", sum := "298d7696f6c54228fb0702a78204d92d6fb894d11ba7432b0fc6466c71ee87eb", func := "smithyard/smithyardlaw10.TrialsAffectedMatchesSpec", spec := "trialsAffectedMatchesSpec", inPlace := ["internal/bytealg.CountString", "internal/bytealg.IndexByteString", "internal/bytealg.IndexString"], unfollowed := true, recurses := true, named := ["unicode/utf8.first", "unicode/utf8.acceptRanges", "internal/bytealg.MaxLen"], plainKeys := false, apart := false, laid := [("unicode/utf8.acceptRanges", laid_unicode_utf8_acceptRanges), ("unicode/utf8.first", laid_unicode_utf8_first)], narrowed := true }
def TrialsAffectedMatchesSpecUptoSaid : Prop := trialsAffectedMatchesSpecUptoRow.holds Tryd.pinned (OpenSpec.upto trialsAffectedMatchesSpecSpec)

/-- 'smithyardlaw10.TrialsVerdictsMatchSpec', WHERE WHAT IT READS IS OF BULK AT MOST 1048576: true; the input reads as it did. -/
def trialsVerdictsMatchSpecUptoRow : OpenClaim := { program := "ytgalaeeppalljaadoor", sum := "298d7696f6c54228fb0702a78204d92d6fb894d11ba7432b0fc6466c71ee87eb", func := "smithyard/smithyardlaw10.TrialsVerdictsMatchSpec", spec := "trialsVerdictsMatchSpec", inPlace := ["internal/bytealg.CountString", "internal/bytealg.IndexByteString", "internal/bytealg.IndexString"], named := ["unicode/utf8.first", "unicode/utf8.acceptRanges", "internal/bytealg.MaxLen"], plainKeys := false, apart := false, laid := [("unicode/utf8.acceptRanges", laid_unicode_utf8_acceptRanges), ("unicode/utf8.first", laid_unicode_utf8_first)], narrowed := true }
def TrialsVerdictsMatchSpecUptoSaid : Prop := trialsVerdictsMatchSpecUptoRow.holds Tryd.pinned (OpenSpec.upto trialsVerdictsMatchSpecSpec)

/-- 'smithyardlaw10.TrialsVerdictsGrow', WHERE WHAT IT READS IS OF BULK AT MOST 1048576: true; the input reads as it did. -/
def trialsVerdictsGrowUptoRow : OpenClaim := { program := "ytgalaeeppalljaadoor", sum := "298d7696f6c54228fb0702a78204d92d6fb894d11ba7432b0fc6466c71ee87eb", func := "smithyard/smithyardlaw10.TrialsVerdictsGrow", spec := "trialsVerdictsGrow", inPlace := ["internal/bytealg.CountString", "internal/bytealg.IndexByteString", "internal/bytealg.IndexString"], named := ["unicode/utf8.first", "unicode/utf8.acceptRanges", "internal/bytealg.MaxLen"], plainKeys := false, apart := false, laid := [("unicode/utf8.acceptRanges", laid_unicode_utf8_acceptRanges), ("unicode/utf8.first", laid_unicode_utf8_first)], narrowed := true }
def TrialsVerdictsGrowUptoSaid : Prop := trialsVerdictsGrowUptoRow.holds Tryd.pinned (OpenSpec.upto trialsVerdictsGrowSpec)

/-- 'smithyardlaw10.TrialsAffectedByParts', WHERE WHAT IT READS IS OF BULK AT MOST 1048576: true; the input reads as it did. -/
def trialsAffectedByPartsUptoRow : OpenClaim := { program := "ytgalaeeppalljaadoor", sum := "298d7696f6c54228fb0702a78204d92d6fb894d11ba7432b0fc6466c71ee87eb", func := "smithyard/smithyardlaw10.TrialsAffectedByParts", spec := "trialsAffectedByParts", inPlace := ["internal/bytealg.CountString", "internal/bytealg.IndexByteString", "internal/bytealg.IndexString"], unfollowed := true, recurses := true, named := ["unicode/utf8.first", "unicode/utf8.acceptRanges", "internal/bytealg.MaxLen"], plainKeys := false, apart := false, laid := [("unicode/utf8.acceptRanges", laid_unicode_utf8_acceptRanges), ("unicode/utf8.first", laid_unicode_utf8_first)], narrowed := true }
def TrialsAffectedByPartsUptoSaid : Prop := trialsAffectedByPartsUptoRow.holds Tryd.pinned (OpenSpec.upto trialsAffectedByPartsSpec)

/-- 'smithyardlaw10.TrialsFlakyHaveDoneBoth', WHERE WHAT IT READS IS OF BULK AT MOST 1048576: true; the input reads as it did. -/
def trialsFlakyHaveDoneBothUptoRow : OpenClaim := { program := "ytgalaeeppalljaadoor", sum := "298d7696f6c54228fb0702a78204d92d6fb894d11ba7432b0fc6466c71ee87eb", func := "smithyard/smithyardlaw10.TrialsFlakyHaveDoneBoth", spec := "trialsFlakyHaveDoneBoth", inPlace := ["internal/bytealg.CountString", "internal/bytealg.IndexByteString", "internal/bytealg.IndexString"], unfollowed := true, recurses := true, named := ["unicode/utf8.first", "unicode/utf8.acceptRanges", "internal/bytealg.MaxLen"], plainKeys := false, apart := false, laid := [("unicode/utf8.acceptRanges", laid_unicode_utf8_acceptRanges), ("unicode/utf8.first", laid_unicode_utf8_first)], narrowed := true }
def TrialsFlakyHaveDoneBothUptoSaid : Prop := trialsFlakyHaveDoneBothUptoRow.holds Tryd.pinned (OpenSpec.upto trialsFlakyHaveDoneBothSpec)

/-- 'smithyardlaw10.TrialsFlakyMatchesSpec', WHERE WHAT IT READS IS OF BULK AT MOST 1048576: true; the input reads as it did. -/
def trialsFlakyMatchesSpecUptoRow : OpenClaim := { program := "ytgalaeeppalljaadoor", sum := "298d7696f6c54228fb0702a78204d92d6fb894d11ba7432b0fc6466c71ee87eb", func := "smithyard/smithyardlaw10.TrialsFlakyMatchesSpec", spec := "trialsFlakyMatchesSpec", inPlace := ["internal/bytealg.CountString", "internal/bytealg.IndexByteString", "internal/bytealg.IndexString"], unfollowed := true, recurses := true, named := ["unicode/utf8.first", "unicode/utf8.acceptRanges", "internal/bytealg.MaxLen"], plainKeys := false, apart := false, laid := [("unicode/utf8.acceptRanges", laid_unicode_utf8_acceptRanges), ("unicode/utf8.first", laid_unicode_utf8_first)], narrowed := true }
def TrialsFlakyMatchesSpecUptoSaid : Prop := trialsFlakyMatchesSpecUptoRow.holds Tryd.pinned (OpenSpec.upto trialsFlakyMatchesSpecSpec)

/-- 'smithyardlaw10.TrialsAsideAreFlaky', WHERE WHAT IT READS IS OF BULK AT MOST 1048576: true; the input reads as it did. -/
def trialsAsideAreFlakyUptoRow : OpenClaim := { program := "ytgalaeeppalljaadoor", sum := "298d7696f6c54228fb0702a78204d92d6fb894d11ba7432b0fc6466c71ee87eb", func := "smithyard/smithyardlaw10.TrialsAsideAreFlaky", spec := "trialsAsideAreFlaky", inPlace := ["internal/bytealg.CountString", "internal/bytealg.IndexByteString", "internal/bytealg.IndexString"], unfollowed := true, recurses := true, named := ["unicode/utf8.first", "unicode/utf8.acceptRanges", "internal/bytealg.MaxLen"], plainKeys := false, apart := false, laid := [("unicode/utf8.acceptRanges", laid_unicode_utf8_acceptRanges), ("unicode/utf8.first", laid_unicode_utf8_first)], narrowed := true }
def TrialsAsideAreFlakyUptoSaid : Prop := trialsAsideAreFlakyUptoRow.holds Tryd.pinned (OpenSpec.upto trialsAsideAreFlakySpec)

/-- 'smithyardlaw10.TrialsReadsMatchSpec', WHERE WHAT IT READS IS OF BULK AT MOST 1048576: true; the input reads as it did. -/
def trialsReadsMatchSpecUptoRow : OpenClaim := { program := "ytgalaeeppalljaadoor", sum := "298d7696f6c54228fb0702a78204d92d6fb894d11ba7432b0fc6466c71ee87eb", func := "smithyard/smithyardlaw10.TrialsReadsMatchSpec", spec := "trialsReadsMatchSpec", inPlace := ["internal/bytealg.IndexByteString", "internal/bytealg.IndexString", "internal/bytealg.CountString"], unfollowed := true, recurses := true, named := ["internal/bytealg.MaxLen", "unicode/utf8.first", "unicode/utf8.acceptRanges", "strconv.ErrSyntax", "strconv.ErrRange", "internal/strconv.uint64pow10", "math/bits.deBruijn32tab", "math/bits.deBruijn64tab"], plainKeys := false, apart := false, laid := [("math/bits.deBruijn32tab", laid_math_bits_deBruijn32tab), ("math/bits.deBruijn64tab", laid_math_bits_deBruijn64tab), ("internal/strconv.uint64pow10", laid_internal_strconv_uint64pow10), ("unicode/utf8.acceptRanges", laid_unicode_utf8_acceptRanges), ("strconv.ErrRange", laid_strconv_ErrRange), ("strconv.ErrSyntax", laid_strconv_ErrSyntax), ("unicode/utf8.first", laid_unicode_utf8_first)], narrowed := true }
def TrialsReadsMatchSpecUptoSaid : Prop := trialsReadsMatchSpecUptoRow.holds Tryd.pinned (OpenSpec.upto trialsReadsMatchSpecSpec)

/-- 'smithyardlaw10.TrialsShardsAreEven', WHERE WHAT IT READS IS OF BULK AT MOST 1048576: true; the input reads as it did. -/
def trialsShardsAreEvenUptoRow : OpenClaim := { program := "ytgalaeeppalljaadoor", sum := "298d7696f6c54228fb0702a78204d92d6fb894d11ba7432b0fc6466c71ee87eb", func := "smithyard/smithyardlaw10.TrialsShardsAreEven", spec := "trialsShardsAreEven", inPlace := ["internal/bytealg.CountString", "internal/bytealg.IndexByteString", "internal/bytealg.IndexString"], unfollowed := true, recurses := true, named := ["unicode/utf8.first", "unicode/utf8.acceptRanges", "internal/bytealg.MaxLen"], plainKeys := false, apart := false, laid := [("unicode/utf8.acceptRanges", laid_unicode_utf8_acceptRanges), ("unicode/utf8.first", laid_unicode_utf8_first)], narrowed := true }
def TrialsShardsAreEvenUptoSaid : Prop := trialsShardsAreEvenUptoRow.holds Tryd.pinned (OpenSpec.upto trialsShardsAreEvenSpec)

/-- 'smithyardlaw10.TrialsShardsMatchSpec', WHERE WHAT IT READS IS OF BULK AT MOST 1048576: true; the input reads as it did. -/
def trialsShardsMatchSpecUptoRow : OpenClaim := { program := "ytgalaeeppalljaadoor", sum := "298d7696f6c54228fb0702a78204d92d6fb894d11ba7432b0fc6466c71ee87eb", func := "smithyard/smithyardlaw10.TrialsShardsMatchSpec", spec := "trialsShardsMatchSpec", inPlace := ["internal/bytealg.CountString", "internal/bytealg.IndexByteString", "internal/bytealg.IndexString", "slices.overlaps[smithyard/api.TestCase]"], unfollowed := true, recurses := true, named := ["unicode/utf8.first", "unicode/utf8.acceptRanges", "internal/bytealg.MaxLen"], plainKeys := false, apart := false, laid := [("unicode/utf8.acceptRanges", laid_unicode_utf8_acceptRanges), ("unicode/utf8.first", laid_unicode_utf8_first)], narrowed := true }
def TrialsShardsMatchSpecUptoSaid : Prop := trialsShardsMatchSpecUptoRow.holds Tryd.pinned (OpenSpec.upto trialsShardsMatchSpecSpec)

end Rows
end Go.Proofs.YtgalaeeppalljaaDoor
