/-
  DERIVED. GIVEN WITH THE SEED: THE CARDS: each row of YtgalaeeppalljaaDoorRows.lean that lists a variable, with what it lists TIED to the program's text (the seventh form; the later family's looks); each row that meets fmt, with fmt's text TOLD by the authors' own Lean function (tested against real Go, not proved from fmt's source: count such statements apart). THE CARD IS WHAT COUNTS. Prove the row's statement (the work); the ties are given (YtgalaeeppalljaaDoorTie.lean); close each card by the builder's one call (the guide's Derived/Test/ToyasCard.lean, 'card_holds'). Laid BY PROGRAM, IN A SANDBOX (cutbox-door.mjs). By AI agents, Wed Nov 11 2026. No macro, syntax, notation, axiom, sorry.
-/
import Derived.Test.YtgalaeeppalljaaDoorRows
import GoSem.ClaimSeven
namespace Go.Proofs.YtgalaeeppalljaaDoor
namespace Rows

/-- THE TIED CARD OF 'smithyardlaw10.TrialsAffectedMatchesSpec'. -/
def trialsAffectedMatchesSpecCard : Claim7 := { stood := { row := trialsAffectedMatchesSpecRow, standIns := [], harness := (true, "e572e63fa5a52332cf297799959caecec61bd2a0e7d13044ad7cc6b8c3cc1744"), looks := true }, kinds := [], alts := [], laidByText := true, laidKinds := [.data, .pinned], laidTests := true, laidLooks := .later }
def TrialsAffectedMatchesSpecCardSaid : Prop := Claim7.holds Tryd.pinned (.plain (OpenSpec.ofChange trialsAffectedMatchesSpecSpec)) trialsAffectedMatchesSpecCard

/-- THE TIED CARD OF 'smithyardlaw10.TrialsVerdictsMatchSpec'. -/
def trialsVerdictsMatchSpecCard : Claim7 := { stood := { row := trialsVerdictsMatchSpecRow, standIns := [], harness := (true, "e572e63fa5a52332cf297799959caecec61bd2a0e7d13044ad7cc6b8c3cc1744"), looks := true }, kinds := [], alts := [], laidByText := true, laidKinds := [.data, .pinned], laidTests := true, laidLooks := .later }
def TrialsVerdictsMatchSpecCardSaid : Prop := Claim7.holds Tryd.pinned (.plain (OpenSpec.ofChange trialsVerdictsMatchSpecSpec)) trialsVerdictsMatchSpecCard

/-- THE TIED CARD OF 'smithyardlaw10.TrialsVerdictsGrow'. -/
def trialsVerdictsGrowCard : Claim7 := { stood := { row := trialsVerdictsGrowRow, standIns := [], harness := (true, "e572e63fa5a52332cf297799959caecec61bd2a0e7d13044ad7cc6b8c3cc1744"), looks := true }, kinds := [], alts := [], laidByText := true, laidKinds := [.data, .pinned], laidTests := true, laidLooks := .later }
def TrialsVerdictsGrowCardSaid : Prop := Claim7.holds Tryd.pinned (.plain (OpenSpec.ofChange trialsVerdictsGrowSpec)) trialsVerdictsGrowCard

/-- THE TIED CARD OF 'smithyardlaw10.TrialsAffectedByParts'. -/
def trialsAffectedByPartsCard : Claim7 := { stood := { row := trialsAffectedByPartsRow, standIns := [], harness := (true, "e572e63fa5a52332cf297799959caecec61bd2a0e7d13044ad7cc6b8c3cc1744"), looks := true }, kinds := [], alts := [], laidByText := true, laidKinds := [.data, .pinned], laidTests := true, laidLooks := .later }
def TrialsAffectedByPartsCardSaid : Prop := Claim7.holds Tryd.pinned (.plain (OpenSpec.ofChange trialsAffectedByPartsSpec)) trialsAffectedByPartsCard

/-- THE TIED CARD OF 'smithyardlaw10.TrialsFlakyHaveDoneBoth'. -/
def trialsFlakyHaveDoneBothCard : Claim7 := { stood := { row := trialsFlakyHaveDoneBothRow, standIns := [], harness := (true, "e572e63fa5a52332cf297799959caecec61bd2a0e7d13044ad7cc6b8c3cc1744"), looks := true }, kinds := [], alts := [], laidByText := true, laidKinds := [.data, .pinned], laidTests := true, laidLooks := .later }
def TrialsFlakyHaveDoneBothCardSaid : Prop := Claim7.holds Tryd.pinned (.plain (OpenSpec.ofChange trialsFlakyHaveDoneBothSpec)) trialsFlakyHaveDoneBothCard

/-- THE TIED CARD OF 'smithyardlaw10.TrialsFlakyMatchesSpec'. -/
def trialsFlakyMatchesSpecCard : Claim7 := { stood := { row := trialsFlakyMatchesSpecRow, standIns := [], harness := (true, "e572e63fa5a52332cf297799959caecec61bd2a0e7d13044ad7cc6b8c3cc1744"), looks := true }, kinds := [], alts := [], laidByText := true, laidKinds := [.data, .pinned], laidTests := true, laidLooks := .later }
def TrialsFlakyMatchesSpecCardSaid : Prop := Claim7.holds Tryd.pinned (.plain (OpenSpec.ofChange trialsFlakyMatchesSpecSpec)) trialsFlakyMatchesSpecCard

/-- THE TIED CARD OF 'smithyardlaw10.TrialsAsideAreFlaky'. -/
def trialsAsideAreFlakyCard : Claim7 := { stood := { row := trialsAsideAreFlakyRow, standIns := [], harness := (true, "e572e63fa5a52332cf297799959caecec61bd2a0e7d13044ad7cc6b8c3cc1744"), looks := true }, kinds := [], alts := [], laidByText := true, laidKinds := [.data, .pinned], laidTests := true, laidLooks := .later }
def TrialsAsideAreFlakyCardSaid : Prop := Claim7.holds Tryd.pinned (.plain (OpenSpec.ofChange trialsAsideAreFlakySpec)) trialsAsideAreFlakyCard

/-- THE TIED CARD OF 'smithyardlaw10.TrialsReadsMatchSpec'. -/
def trialsReadsMatchSpecCard : Claim7 := { stood := { row := trialsReadsMatchSpecRow, standIns := [], harness := (true, "e572e63fa5a52332cf297799959caecec61bd2a0e7d13044ad7cc6b8c3cc1744"), looks := true }, kinds := [], alts := [], laidByText := true, laidKinds := [.data, .data, .data, .data, .sentinel, .sentinel, .pinned], laidTests := true, laidLooks := .later }
def TrialsReadsMatchSpecCardSaid : Prop := Claim7.holds Tryd.pinned (.plain (OpenSpec.ofChange trialsReadsMatchSpecSpec)) trialsReadsMatchSpecCard

/-- THE TIED CARD OF 'smithyardlaw10.TrialsShardsAreEven'. -/
def trialsShardsAreEvenCard : Claim7 := { stood := { row := trialsShardsAreEvenRow, standIns := [], harness := (true, "e572e63fa5a52332cf297799959caecec61bd2a0e7d13044ad7cc6b8c3cc1744"), looks := true }, kinds := [], alts := [], laidByText := true, laidKinds := [.data, .pinned], laidTests := true, laidLooks := .later }
def TrialsShardsAreEvenCardSaid : Prop := Claim7.holds Tryd.pinned (.plain (OpenSpec.ofChange trialsShardsAreEvenSpec)) trialsShardsAreEvenCard

/-- THE TIED CARD OF 'smithyardlaw10.TrialsShardsMatchSpec'. -/
def trialsShardsMatchSpecCard : Claim7 := { stood := { row := trialsShardsMatchSpecRow, standIns := [], harness := (true, "e572e63fa5a52332cf297799959caecec61bd2a0e7d13044ad7cc6b8c3cc1744"), looks := true }, kinds := [], alts := [], laidByText := true, laidKinds := [.data, .pinned], laidTests := true, laidLooks := .later }
def TrialsShardsMatchSpecCardSaid : Prop := Claim7.holds Tryd.pinned (.plain (OpenSpec.ofChange trialsShardsMatchSpecSpec)) trialsShardsMatchSpecCard

/-- THE SECOND FORM's CARD OF 'smithyardlaw10.TrialsAffectedMatchesSpec'. -/
def trialsAffectedMatchesSpecUptoCard : Claim7 := { stood := { row := trialsAffectedMatchesSpecUptoRow, standIns := [], harness := (true, "e572e63fa5a52332cf297799959caecec61bd2a0e7d13044ad7cc6b8c3cc1744"), looks := true }, kinds := [], alts := [], laidByText := true, laidKinds := [.data, .pinned], laidTests := true, laidLooks := .later }
def TrialsAffectedMatchesSpecUptoCardSaid : Prop := Claim7.holds Tryd.pinned (.plain (OpenSpec.upto trialsAffectedMatchesSpecSpec)) trialsAffectedMatchesSpecUptoCard

/-- THE SECOND FORM's CARD OF 'smithyardlaw10.TrialsVerdictsMatchSpec'. -/
def trialsVerdictsMatchSpecUptoCard : Claim7 := { stood := { row := trialsVerdictsMatchSpecUptoRow, standIns := [], harness := (true, "e572e63fa5a52332cf297799959caecec61bd2a0e7d13044ad7cc6b8c3cc1744"), looks := true }, kinds := [], alts := [], laidByText := true, laidKinds := [.data, .pinned], laidTests := true, laidLooks := .later }
def TrialsVerdictsMatchSpecUptoCardSaid : Prop := Claim7.holds Tryd.pinned (.plain (OpenSpec.upto trialsVerdictsMatchSpecSpec)) trialsVerdictsMatchSpecUptoCard

/-- THE SECOND FORM's CARD OF 'smithyardlaw10.TrialsVerdictsGrow'. -/
def trialsVerdictsGrowUptoCard : Claim7 := { stood := { row := trialsVerdictsGrowUptoRow, standIns := [], harness := (true, "e572e63fa5a52332cf297799959caecec61bd2a0e7d13044ad7cc6b8c3cc1744"), looks := true }, kinds := [], alts := [], laidByText := true, laidKinds := [.data, .pinned], laidTests := true, laidLooks := .later }
def TrialsVerdictsGrowUptoCardSaid : Prop := Claim7.holds Tryd.pinned (.plain (OpenSpec.upto trialsVerdictsGrowSpec)) trialsVerdictsGrowUptoCard

/-- THE SECOND FORM's CARD OF 'smithyardlaw10.TrialsAffectedByParts'. -/
def trialsAffectedByPartsUptoCard : Claim7 := { stood := { row := trialsAffectedByPartsUptoRow, standIns := [], harness := (true, "e572e63fa5a52332cf297799959caecec61bd2a0e7d13044ad7cc6b8c3cc1744"), looks := true }, kinds := [], alts := [], laidByText := true, laidKinds := [.data, .pinned], laidTests := true, laidLooks := .later }
def TrialsAffectedByPartsUptoCardSaid : Prop := Claim7.holds Tryd.pinned (.plain (OpenSpec.upto trialsAffectedByPartsSpec)) trialsAffectedByPartsUptoCard

/-- THE SECOND FORM's CARD OF 'smithyardlaw10.TrialsFlakyHaveDoneBoth'. -/
def trialsFlakyHaveDoneBothUptoCard : Claim7 := { stood := { row := trialsFlakyHaveDoneBothUptoRow, standIns := [], harness := (true, "e572e63fa5a52332cf297799959caecec61bd2a0e7d13044ad7cc6b8c3cc1744"), looks := true }, kinds := [], alts := [], laidByText := true, laidKinds := [.data, .pinned], laidTests := true, laidLooks := .later }
def TrialsFlakyHaveDoneBothUptoCardSaid : Prop := Claim7.holds Tryd.pinned (.plain (OpenSpec.upto trialsFlakyHaveDoneBothSpec)) trialsFlakyHaveDoneBothUptoCard

/-- THE SECOND FORM's CARD OF 'smithyardlaw10.TrialsFlakyMatchesSpec'. -/
def trialsFlakyMatchesSpecUptoCard : Claim7 := { stood := { row := trialsFlakyMatchesSpecUptoRow, standIns := [], harness := (true, "e572e63fa5a52332cf297799959caecec61bd2a0e7d13044ad7cc6b8c3cc1744"), looks := true }, kinds := [], alts := [], laidByText := true, laidKinds := [.data, .pinned], laidTests := true, laidLooks := .later }
def TrialsFlakyMatchesSpecUptoCardSaid : Prop := Claim7.holds Tryd.pinned (.plain (OpenSpec.upto trialsFlakyMatchesSpecSpec)) trialsFlakyMatchesSpecUptoCard

/-- THE SECOND FORM's CARD OF 'smithyardlaw10.TrialsAsideAreFlaky'. -/
def trialsAsideAreFlakyUptoCard : Claim7 := { stood := { row := trialsAsideAreFlakyUptoRow, standIns := [], harness := (true, "e572e63fa5a52332cf297799959caecec61bd2a0e7d13044ad7cc6b8c3cc1744"), looks := true }, kinds := [], alts := [], laidByText := true, laidKinds := [.data, .pinned], laidTests := true, laidLooks := .later }
def TrialsAsideAreFlakyUptoCardSaid : Prop := Claim7.holds Tryd.pinned (.plain (OpenSpec.upto trialsAsideAreFlakySpec)) trialsAsideAreFlakyUptoCard

/-- THE SECOND FORM's CARD OF 'smithyardlaw10.TrialsReadsMatchSpec'. -/
def trialsReadsMatchSpecUptoCard : Claim7 := { stood := { row := trialsReadsMatchSpecUptoRow, standIns := [], harness := (true, "e572e63fa5a52332cf297799959caecec61bd2a0e7d13044ad7cc6b8c3cc1744"), looks := true }, kinds := [], alts := [], laidByText := true, laidKinds := [.data, .data, .data, .data, .sentinel, .sentinel, .pinned], laidTests := true, laidLooks := .later }
def TrialsReadsMatchSpecUptoCardSaid : Prop := Claim7.holds Tryd.pinned (.plain (OpenSpec.upto trialsReadsMatchSpecSpec)) trialsReadsMatchSpecUptoCard

/-- THE SECOND FORM's CARD OF 'smithyardlaw10.TrialsShardsAreEven'. -/
def trialsShardsAreEvenUptoCard : Claim7 := { stood := { row := trialsShardsAreEvenUptoRow, standIns := [], harness := (true, "e572e63fa5a52332cf297799959caecec61bd2a0e7d13044ad7cc6b8c3cc1744"), looks := true }, kinds := [], alts := [], laidByText := true, laidKinds := [.data, .pinned], laidTests := true, laidLooks := .later }
def TrialsShardsAreEvenUptoCardSaid : Prop := Claim7.holds Tryd.pinned (.plain (OpenSpec.upto trialsShardsAreEvenSpec)) trialsShardsAreEvenUptoCard

/-- THE SECOND FORM's CARD OF 'smithyardlaw10.TrialsShardsMatchSpec'. -/
def trialsShardsMatchSpecUptoCard : Claim7 := { stood := { row := trialsShardsMatchSpecUptoRow, standIns := [], harness := (true, "e572e63fa5a52332cf297799959caecec61bd2a0e7d13044ad7cc6b8c3cc1744"), looks := true }, kinds := [], alts := [], laidByText := true, laidKinds := [.data, .pinned], laidTests := true, laidLooks := .later }
def TrialsShardsMatchSpecUptoCardSaid : Prop := Claim7.holds Tryd.pinned (.plain (OpenSpec.upto trialsShardsMatchSpecSpec)) trialsShardsMatchSpecUptoCard
end Rows
end Go.Proofs.YtgalaeeppalljaaDoor
