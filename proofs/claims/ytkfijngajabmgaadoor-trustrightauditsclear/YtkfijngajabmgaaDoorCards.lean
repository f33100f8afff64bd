/-
  DERIVED. GIVEN WITH THE SEED: THE CARDS: each row of YtkfijngajabmgaaDoorRows.lean that lists a variable, with what it lists TIED to the program's text (the seventh form; the later family's looks); each row that meets fmt, with fmt's text TOLD by the authors' own Lean function (tested against real Go, not proved from fmt's source: count such statements apart). THE CARD IS WHAT COUNTS. Prove the row's statement (the work); the ties are given (YtkfijngajabmgaaDoorTie.lean); close each card by the builder's one call (the guide's Derived/Test/ToyasCard.lean, 'card_holds'). Laid BY PROGRAM, IN A SANDBOX (cutbox-door.mjs). By AI agents, Wed Nov 11 2026. No macro, syntax, notation, axiom, sorry.
-/
import Derived.Test.YtkfijngajabmgaaDoorRows
import GoSem.ClaimSeven
namespace Go.Proofs.YtkfijngajabmgaaDoor
namespace Rows

/-- THE TIED CARD OF 'smithyardlaw9.WorkersOrdersMatchSpec'. -/
def workersOrdersMatchSpecCard : Claim7 := { stood := { row := workersOrdersMatchSpecRow, standIns := [], harness := (true, "9360a94637833705be01bc25fdbdaebdb18dc857c3d86f7f0bfc2590b62e43a0"), looks := false }, kinds := [], alts := [], laidByText := true, laidKinds := [.data, .pinned], laidTests := true, laidLooks := .later }
def WorkersOrdersMatchSpecCardSaid : Prop := Claim7.holds Tryd.pinned (.plain (OpenSpec.ofChange workersOrdersMatchSpecSpec)) workersOrdersMatchSpecCard

/-- THE TIED CARD OF 'smithyardlaw11.TrustRightAuditsClear'. -/
def trustRightAuditsClearCard : Claim7 := { stood := { row := trustRightAuditsClearRow, standIns := [], harness := (true, "9360a94637833705be01bc25fdbdaebdb18dc857c3d86f7f0bfc2590b62e43a0"), looks := false }, kinds := [], alts := [], laidByText := true, laidKinds := [.data, .pinned], laidTests := true, laidLooks := .later }
def TrustRightAuditsClearCardSaid : Prop := Claim7.holds Tryd.pinned (.plain (OpenSpec.ofChange trustRightAuditsClearSpec)) trustRightAuditsClearCard

/-- THE TIED CARD OF 'smithyardlaw10.TrialsShardsAreEven'. -/
def trialsShardsAreEvenCard : Claim7 := { stood := { row := trialsShardsAreEvenRow, standIns := [], harness := (true, "9360a94637833705be01bc25fdbdaebdb18dc857c3d86f7f0bfc2590b62e43a0"), looks := false }, kinds := [], alts := [], laidByText := true, laidKinds := [.data, .pinned], laidTests := true, laidLooks := .later }
def TrialsShardsAreEvenCardSaid : Prop := Claim7.holds Tryd.pinned (.plain (OpenSpec.ofChange trialsShardsAreEvenSpec)) trialsShardsAreEvenCard

/-- THE TIED CARD OF 'smithyardlaw10.TrialsShardsMatchSpec'. -/
def trialsShardsMatchSpecCard : Claim7 := { stood := { row := trialsShardsMatchSpecRow, standIns := [], harness := (true, "9360a94637833705be01bc25fdbdaebdb18dc857c3d86f7f0bfc2590b62e43a0"), looks := false }, kinds := [], alts := [], laidByText := true, laidKinds := [.data, .pinned], laidTests := true, laidLooks := .later }
def TrialsShardsMatchSpecCardSaid : Prop := Claim7.holds Tryd.pinned (.plain (OpenSpec.ofChange trialsShardsMatchSpecSpec)) trialsShardsMatchSpecCard

/-- THE TIED CARD OF 'smithyardtop.TopPiecesTravel'. -/
def topPiecesTravelCard : Claim7 := { stood := { row := topPiecesTravelRow, standIns := [], harness := (true, "9360a94637833705be01bc25fdbdaebdb18dc857c3d86f7f0bfc2590b62e43a0"), looks := false }, kinds := [], alts := [], laidByText := true, laidKinds := [.data, .pinned], laidTests := true, laidLooks := .later }
def TopPiecesTravelCardSaid : Prop := Claim7.holds Tryd.pinned (.plain (OpenSpec.ofChange topPiecesTravelSpec)) topPiecesTravelCard

/-- THE SECOND FORM's CARD OF 'smithyardlaw9.WorkersOrdersMatchSpec'. -/
def workersOrdersMatchSpecUptoCard : Claim7 := { stood := { row := workersOrdersMatchSpecUptoRow, standIns := [], harness := (true, "9360a94637833705be01bc25fdbdaebdb18dc857c3d86f7f0bfc2590b62e43a0"), looks := false }, kinds := [], alts := [], laidByText := true, laidKinds := [.data, .pinned], laidTests := true, laidLooks := .later }
def WorkersOrdersMatchSpecUptoCardSaid : Prop := Claim7.holds Tryd.pinned (.plain (OpenSpec.upto workersOrdersMatchSpecSpec)) workersOrdersMatchSpecUptoCard

/-- THE SECOND FORM's CARD OF 'smithyardlaw11.TrustRightAuditsClear'. -/
def trustRightAuditsClearUptoCard : Claim7 := { stood := { row := trustRightAuditsClearUptoRow, standIns := [], harness := (true, "9360a94637833705be01bc25fdbdaebdb18dc857c3d86f7f0bfc2590b62e43a0"), looks := false }, kinds := [], alts := [], laidByText := true, laidKinds := [.data, .pinned], laidTests := true, laidLooks := .later }
def TrustRightAuditsClearUptoCardSaid : Prop := Claim7.holds Tryd.pinned (.plain (OpenSpec.upto trustRightAuditsClearSpec)) trustRightAuditsClearUptoCard

/-- THE SECOND FORM's CARD OF 'smithyardlaw10.TrialsShardsAreEven'. -/
def trialsShardsAreEvenUptoCard : Claim7 := { stood := { row := trialsShardsAreEvenUptoRow, standIns := [], harness := (true, "9360a94637833705be01bc25fdbdaebdb18dc857c3d86f7f0bfc2590b62e43a0"), looks := false }, kinds := [], alts := [], laidByText := true, laidKinds := [.data, .pinned], laidTests := true, laidLooks := .later }
def TrialsShardsAreEvenUptoCardSaid : Prop := Claim7.holds Tryd.pinned (.plain (OpenSpec.upto trialsShardsAreEvenSpec)) trialsShardsAreEvenUptoCard

/-- THE SECOND FORM's CARD OF 'smithyardlaw10.TrialsShardsMatchSpec'. -/
def trialsShardsMatchSpecUptoCard : Claim7 := { stood := { row := trialsShardsMatchSpecUptoRow, standIns := [], harness := (true, "9360a94637833705be01bc25fdbdaebdb18dc857c3d86f7f0bfc2590b62e43a0"), looks := false }, kinds := [], alts := [], laidByText := true, laidKinds := [.data, .pinned], laidTests := true, laidLooks := .later }
def TrialsShardsMatchSpecUptoCardSaid : Prop := Claim7.holds Tryd.pinned (.plain (OpenSpec.upto trialsShardsMatchSpecSpec)) trialsShardsMatchSpecUptoCard

/-- THE SECOND FORM's CARD OF 'smithyardtop.TopPiecesTravel'. -/
def topPiecesTravelUptoCard : Claim7 := { stood := { row := topPiecesTravelUptoRow, standIns := [], harness := (true, "9360a94637833705be01bc25fdbdaebdb18dc857c3d86f7f0bfc2590b62e43a0"), looks := false }, kinds := [], alts := [], laidByText := true, laidKinds := [.data, .pinned], laidTests := true, laidLooks := .later }
def TopPiecesTravelUptoCardSaid : Prop := Claim7.holds Tryd.pinned (.plain (OpenSpec.upto topPiecesTravelSpec)) topPiecesTravelUptoCard
end Rows
end Go.Proofs.YtkfijngajabmgaaDoor
