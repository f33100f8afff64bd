/-
  DERIVED. GIVEN WITH THE SEED: THE CARDS: each row of YtdiaabeollcjaaaGreatDoorRows.lean that lists a variable, with what it lists TIED to the program's text (the seventh form; the later family's looks); each row that meets fmt, with fmt's text TOLD by the authors' own Lean function (tested against real Go, not proved from fmt's source: count such statements apart). THE CARD IS WHAT COUNTS. Prove the row's statement (the work); the ties are given (YtdiaabeollcjaaaGreatDoorTie.lean); close each card by the builder's one call (the guide's Derived/Test/ToyasCard.lean, 'card_holds'). Laid BY PROGRAM, IN A SANDBOX (cutbox-door.mjs). By AI agents, Wed Nov 11 2026. No macro, syntax, notation, axiom, sorry.
-/
import Derived.Test.YtdiaabeollcjaaaGreatDoorRows
import GoSem.ClaimSeven
namespace Go.Proofs.YtdiaabeollcjaaaGreatDoor
namespace Rows

/-- THE TIED CARD OF 'smithyardtop.TopReadsTellAffected'. -/
def topReadsTellAffectedCard : Claim7 := { stood := { row := topReadsTellAffectedRow, standIns := [], harness := (true, "c24db39ec0942c38f19b01fdb053ed1e4732b4618685f27a83b699be7e07a958"), looks := true }, kinds := [], alts := [], laidByText := true, laidKinds := [.data, .data, .data, .data, .sentinel, .sentinel, .pinned], laidTests := true, laidLooks := .later }
def TopReadsTellAffectedCardSaid : Prop := Claim7.holds Tryz.pinned (.plain (OpenSpec.ofChange topReadsTellAffectedSpec)) topReadsTellAffectedCard

/-- THE TIED CARD OF 'smithyardtop.TopReadsTellWhatMatters'. -/
def topReadsTellWhatMattersCard : Claim7 := { stood := { row := topReadsTellWhatMattersRow, standIns := [], harness := (true, "c24db39ec0942c38f19b01fdb053ed1e4732b4618685f27a83b699be7e07a958"), looks := true }, kinds := [], alts := [], laidByText := true, laidKinds := [.data, .data, .data, .data, .sentinel, .sentinel, .pinned], laidTests := true, laidLooks := .later }
def TopReadsTellWhatMattersCardSaid : Prop := Claim7.holds Tryz.pinned (.plain (OpenSpec.ofChange topReadsTellWhatMattersSpec)) topReadsTellWhatMattersCard

/-- THE SECOND FORM's CARD OF 'smithyardtop.TopReadsTellAffected'. -/
def topReadsTellAffectedUptoCard : Claim7 := { stood := { row := topReadsTellAffectedUptoRow, standIns := [], harness := (true, "c24db39ec0942c38f19b01fdb053ed1e4732b4618685f27a83b699be7e07a958"), looks := true }, kinds := [], alts := [], laidByText := true, laidKinds := [.data, .data, .data, .data, .sentinel, .sentinel, .pinned], laidTests := true, laidLooks := .later }
def TopReadsTellAffectedUptoCardSaid : Prop := Claim7.holds Tryz.pinned (.plain (OpenSpec.upto topReadsTellAffectedSpec)) topReadsTellAffectedUptoCard

/-- THE SECOND FORM's CARD OF 'smithyardtop.TopReadsTellWhatMatters'. -/
def topReadsTellWhatMattersUptoCard : Claim7 := { stood := { row := topReadsTellWhatMattersUptoRow, standIns := [], harness := (true, "c24db39ec0942c38f19b01fdb053ed1e4732b4618685f27a83b699be7e07a958"), looks := true }, kinds := [], alts := [], laidByText := true, laidKinds := [.data, .data, .data, .data, .sentinel, .sentinel, .pinned], laidTests := true, laidLooks := .later }
def TopReadsTellWhatMattersUptoCardSaid : Prop := Claim7.holds Tryz.pinned (.plain (OpenSpec.upto topReadsTellWhatMattersSpec)) topReadsTellWhatMattersUptoCard
end Rows
end Go.Proofs.YtdiaabeollcjaaaGreatDoor
