/-
  DERIVED. GIVEN WITH THE SEED: THE CARDS: each row of YtpmnkhklfoknhaaGreatDoorRows.lean that lists a variable, with what it lists TIED to the program's text (the seventh form; the later family's looks); each row that meets fmt, with fmt's text TOLD by the authors' own Lean function (tested against real Go, not proved from fmt's source: count such statements apart). THE CARD IS WHAT COUNTS. Prove the row's statement (the work); the ties are given (YtpmnkhklfoknhaaGreatDoorTie.lean); close each card by the builder's one call (the guide's Derived/Test/ToyasCard.lean, 'card_holds'). Laid BY PROGRAM, IN A SANDBOX (cutbox-door.mjs). By AI agents, Wed Nov 11 2026. No macro, syntax, notation, axiom, sorry.
-/
import Derived.Test.YtpmnkhklfoknhaaGreatDoorRows
import GoSem.ClaimSeven
namespace Go.Proofs.YtpmnkhklfoknhaaGreatDoor
namespace Rows

/-- THE TIED CARD OF 'smithyardlaw9.WorkersReadsMatchSpec'. -/
def workersReadsMatchSpecCard : Claim7 := { stood := { row := workersReadsMatchSpecRow, standIns := [], harness := (true, "5a3582bc742c757a2b98a3bcdbaa5da9921650f6f7cdd5644cf78b868609c672"), looks := true }, kinds := [], alts := [], laidByText := true, laidKinds := [.data, .data, .data, .data, .sentinel, .sentinel, .pinned], laidTests := true, laidLooks := .later }
def WorkersReadsMatchSpecCardSaid : Prop := Claim7.holds Tryz.pinned (.plain (OpenSpec.ofChange workersReadsMatchSpecSpec)) workersReadsMatchSpecCard

/-- THE TIED CARD OF 'smithyardlaw9.WorkersTextsMatchSpec'. -/
def workersTextsMatchSpecCard : Claim7 := { stood := { row := workersTextsMatchSpecRow, standIns := [], harness := (true, "5a3582bc742c757a2b98a3bcdbaa5da9921650f6f7cdd5644cf78b868609c672"), looks := true }, kinds := [], alts := [], laidByText := true, laidKinds := [.data, .data, .data, .data, .sentinel, .sentinel, .pinned], laidTests := true, laidLooks := .later }
def WorkersTextsMatchSpecCardSaid : Prop := Claim7.holds Tryz.pinned (.plain (OpenSpec.ofChange workersTextsMatchSpecSpec)) workersTextsMatchSpecCard

/-- THE TIED CARD OF 'smithyardlaw10.TrialsTextsMatchSpec'. -/
def trialsTextsMatchSpecCard : Claim7 := { stood := { row := trialsTextsMatchSpecRow, standIns := [], harness := (true, "5a3582bc742c757a2b98a3bcdbaa5da9921650f6f7cdd5644cf78b868609c672"), looks := true }, kinds := [], alts := [], laidByText := true, laidKinds := [.data, .data, .data, .data, .sentinel, .sentinel, .pinned], laidTests := true, laidLooks := .later }
def TrialsTextsMatchSpecCardSaid : Prop := Claim7.holds Tryz.pinned (.plain (OpenSpec.ofChange trialsTextsMatchSpecSpec)) trialsTextsMatchSpecCard

/-- THE SECOND FORM's CARD OF 'smithyardlaw9.WorkersReadsMatchSpec'. -/
def workersReadsMatchSpecUptoCard : Claim7 := { stood := { row := workersReadsMatchSpecUptoRow, standIns := [], harness := (true, "5a3582bc742c757a2b98a3bcdbaa5da9921650f6f7cdd5644cf78b868609c672"), looks := true }, kinds := [], alts := [], laidByText := true, laidKinds := [.data, .data, .data, .data, .sentinel, .sentinel, .pinned], laidTests := true, laidLooks := .later }
def WorkersReadsMatchSpecUptoCardSaid : Prop := Claim7.holds Tryz.pinned (.plain (OpenSpec.upto workersReadsMatchSpecSpec)) workersReadsMatchSpecUptoCard

/-- THE SECOND FORM's CARD OF 'smithyardlaw9.WorkersTextsMatchSpec'. -/
def workersTextsMatchSpecUptoCard : Claim7 := { stood := { row := workersTextsMatchSpecUptoRow, standIns := [], harness := (true, "5a3582bc742c757a2b98a3bcdbaa5da9921650f6f7cdd5644cf78b868609c672"), looks := true }, kinds := [], alts := [], laidByText := true, laidKinds := [.data, .data, .data, .data, .sentinel, .sentinel, .pinned], laidTests := true, laidLooks := .later }
def WorkersTextsMatchSpecUptoCardSaid : Prop := Claim7.holds Tryz.pinned (.plain (OpenSpec.upto workersTextsMatchSpecSpec)) workersTextsMatchSpecUptoCard

/-- THE SECOND FORM's CARD OF 'smithyardlaw10.TrialsTextsMatchSpec'. -/
def trialsTextsMatchSpecUptoCard : Claim7 := { stood := { row := trialsTextsMatchSpecUptoRow, standIns := [], harness := (true, "5a3582bc742c757a2b98a3bcdbaa5da9921650f6f7cdd5644cf78b868609c672"), looks := true }, kinds := [], alts := [], laidByText := true, laidKinds := [.data, .data, .data, .data, .sentinel, .sentinel, .pinned], laidTests := true, laidLooks := .later }
def TrialsTextsMatchSpecUptoCardSaid : Prop := Claim7.holds Tryz.pinned (.plain (OpenSpec.upto trialsTextsMatchSpecSpec)) trialsTextsMatchSpecUptoCard
end Rows
end Go.Proofs.YtpmnkhklfoknhaaGreatDoor
