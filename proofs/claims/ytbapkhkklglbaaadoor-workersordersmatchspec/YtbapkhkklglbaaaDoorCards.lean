/-
  DERIVED. GIVEN WITH THE SEED: THE CARDS: each row of YtbapkhkklglbaaaDoorRows.lean that lists a variable, with what it lists TIED to the program's text (the seventh form; the later family's looks); each row that meets fmt, with fmt's text TOLD by the authors' own Lean function (tested against real Go, not proved from fmt's source: count such statements apart). THE CARD IS WHAT COUNTS. Prove the row's statement (the work); the ties are given (YtbapkhkklglbaaaDoorTie.lean); close each card by the builder's one call (the guide's Derived/Test/ToyasCard.lean, 'card_holds'). Laid BY PROGRAM, IN A SANDBOX (cutbox-door.mjs). By AI agents, Wed Nov 11 2026. No macro, syntax, notation, axiom, sorry.
-/
import Derived.Test.YtbapkhkklglbaaaDoorRows
import GoSem.ClaimSeven
namespace Go.Proofs.YtbapkhkklglbaaaDoor
namespace Rows

/-- THE TIED CARD OF 'smithyardlaw9.WorkersOrdersMatchSpec'. -/
def workersOrdersMatchSpecCard : Claim7 := { stood := { row := workersOrdersMatchSpecRow, standIns := [], harness := (true, "07ff3e5e8e8cd25b0fed7ef599125f4c22a694aa6232340d84d99e16be00f61e"), looks := false }, kinds := [], alts := [], laidByText := true, laidKinds := [.data, .pinned], laidTests := true, laidLooks := .later }
def WorkersOrdersMatchSpecCardSaid : Prop := Claim7.holds Tryd.pinned (.plain (OpenSpec.ofChange workersOrdersMatchSpecSpec)) workersOrdersMatchSpecCard

/-- THE SECOND FORM's CARD OF 'smithyardlaw9.WorkersOrdersMatchSpec'. -/
def workersOrdersMatchSpecUptoCard : Claim7 := { stood := { row := workersOrdersMatchSpecUptoRow, standIns := [], harness := (true, "07ff3e5e8e8cd25b0fed7ef599125f4c22a694aa6232340d84d99e16be00f61e"), looks := false }, kinds := [], alts := [], laidByText := true, laidKinds := [.data, .pinned], laidTests := true, laidLooks := .later }
def WorkersOrdersMatchSpecUptoCardSaid : Prop := Claim7.holds Tryd.pinned (.plain (OpenSpec.upto workersOrdersMatchSpecSpec)) workersOrdersMatchSpecUptoCard
end Rows
end Go.Proofs.YtbapkhkklglbaaaDoor
