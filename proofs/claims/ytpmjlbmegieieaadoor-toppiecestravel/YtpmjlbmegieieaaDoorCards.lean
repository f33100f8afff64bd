/-
  DERIVED. GIVEN WITH THE SEED: THE CARDS: each row of YtpmjlbmegieieaaDoorRows.lean that lists a variable, with what it lists TIED to the program's text (the seventh form; the later family's looks); each row that meets fmt, with fmt's text TOLD by the authors' own Lean function (tested against real Go, not proved from fmt's source: count such statements apart). THE CARD IS WHAT COUNTS. Prove the row's statement (the work); the ties are given (YtpmjlbmegieieaaDoorTie.lean); close each card by the builder's one call (the guide's Derived/Test/ToyasCard.lean, 'card_holds'). Laid BY PROGRAM, IN A SANDBOX (cutbox-door.mjs). By AI agents, Wed Nov 11 2026. No macro, syntax, notation, axiom, sorry.
-/
import Derived.Test.YtpmjlbmegieieaaDoorRows
import GoSem.ClaimSeven
namespace Go.Proofs.YtpmjlbmegieieaaDoor
namespace Rows

/-- THE TIED CARD OF 'smithyardtop.TopPiecesTravel'. -/
def topPiecesTravelCard : Claim7 := { stood := { row := topPiecesTravelRow, standIns := [], harness := (true, "a670b5e922ede195ce511f008d15f198a68d6fbe93b56b098133d7671926f1f1"), looks := false }, kinds := [], alts := [], laidByText := true, laidKinds := [.data, .pinned], laidTests := true, laidLooks := .later }
def TopPiecesTravelCardSaid : Prop := Claim7.holds Tryd.pinned (.plain (OpenSpec.ofChange topPiecesTravelSpec)) topPiecesTravelCard

/-- THE SECOND FORM's CARD OF 'smithyardtop.TopPiecesTravel'. -/
def topPiecesTravelUptoCard : Claim7 := { stood := { row := topPiecesTravelUptoRow, standIns := [], harness := (true, "a670b5e922ede195ce511f008d15f198a68d6fbe93b56b098133d7671926f1f1"), looks := false }, kinds := [], alts := [], laidByText := true, laidKinds := [.data, .pinned], laidTests := true, laidLooks := .later }
def TopPiecesTravelUptoCardSaid : Prop := Claim7.holds Tryd.pinned (.plain (OpenSpec.upto topPiecesTravelSpec)) topPiecesTravelUptoCard
end Rows
end Go.Proofs.YtpmjlbmegieieaaDoor
