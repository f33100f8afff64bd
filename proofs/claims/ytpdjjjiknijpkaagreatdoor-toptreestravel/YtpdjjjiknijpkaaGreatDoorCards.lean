/-
  DERIVED. GIVEN WITH THE SEED: THE CARDS: each row of YtpdjjjiknijpkaaGreatDoorRows.lean that lists a variable, with what it lists TIED to the program's text (the seventh form; the later family's looks); each row that meets fmt, with fmt's text TOLD by the authors' own Lean function (tested against real Go, not proved from fmt's source: count such statements apart). THE CARD IS WHAT COUNTS. Prove the row's statement (the work); the ties are given (YtpdjjjiknijpkaaGreatDoorTie.lean); close each card by the builder's one call (the guide's Derived/Test/ToyasCard.lean, 'card_holds'). Laid BY PROGRAM, IN A SANDBOX (cutbox-door.mjs). By AI agents, Wed Nov 11 2026. No macro, syntax, notation, axiom, sorry.
-/
import Derived.Test.YtpdjjjiknijpkaaGreatDoorRows
import GoSem.ClaimSeven
namespace Go.Proofs.YtpdjjjiknijpkaaGreatDoor
namespace Rows

/-- THE TIED CARD OF 'smithyardtop.TopTreesTravel'. -/
def topTreesTravelCard : Claim7 := { stood := { row := topTreesTravelRow, standIns := [], harness := (true, "4399172d967bf7ffda9f9c0e524dfdda76a543ae268aeae7524d516b2f9eab5c"), looks := false }, kinds := [], alts := [], laidByText := true, laidKinds := [.data, .pinned], laidTests := true, laidLooks := .later }
def TopTreesTravelCardSaid : Prop := Claim7.holds Tryz.pinned (.plain (OpenSpec.ofChange topTreesTravelSpec)) topTreesTravelCard

/-- THE SECOND FORM's CARD OF 'smithyardtop.TopTreesTravel'. -/
def topTreesTravelUptoCard : Claim7 := { stood := { row := topTreesTravelUptoRow, standIns := [], harness := (true, "4399172d967bf7ffda9f9c0e524dfdda76a543ae268aeae7524d516b2f9eab5c"), looks := false }, kinds := [], alts := [], laidByText := true, laidKinds := [.data, .pinned], laidTests := true, laidLooks := .later }
def TopTreesTravelUptoCardSaid : Prop := Claim7.holds Tryz.pinned (.plain (OpenSpec.upto topTreesTravelSpec)) topTreesTravelUptoCard
end Rows
end Go.Proofs.YtpdjjjiknijpkaaGreatDoor
