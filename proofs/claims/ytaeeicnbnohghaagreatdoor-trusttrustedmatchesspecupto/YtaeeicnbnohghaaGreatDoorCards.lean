/-
  DERIVED. GIVEN WITH THE SEED: THE CARDS: each row of YtaeeicnbnohghaaGreatDoorRows.lean that lists a variable, with what it lists TIED to the program's text (the seventh form; the later family's looks); each row that meets fmt, with fmt's text TOLD by the authors' own Lean function (tested against real Go, not proved from fmt's source: count such statements apart). THE CARD IS WHAT COUNTS. Prove the row's statement (the work); the ties are given (YtaeeicnbnohghaaGreatDoorTie.lean); close each card by the builder's one call (the guide's Derived/Test/ToyasCard.lean, 'card_holds'). Laid BY PROGRAM, IN A SANDBOX (cutbox-door.mjs). By AI agents, Wed Nov 11 2026. No macro, syntax, notation, axiom, sorry.
-/
import Derived.Test.YtaeeicnbnohghaaGreatDoorRows
import GoSem.ClaimSeven
namespace Go.Proofs.YtaeeicnbnohghaaGreatDoor
namespace Rows

/-- THE TIED CARD OF 'smithyardlaw11.TrustSignedIsGenuine'. -/
def trustSignedIsGenuineCard : Claim7 := { stood := { row := trustSignedIsGenuineRow, standIns := [], harness := (true, "9a38c9efa93c55124f6813f689691db699e02053523715e833269c6d6a2b938a"), looks := false }, kinds := [], alts := [], laidByText := true, laidKinds := [.data, .data, .data, .data, .pinned], laidTests := true, laidLooks := .later }
def TrustSignedIsGenuineCardSaid : Prop := Claim7.holds Tryz.pinned (.plain (OpenSpec.ofChange trustSignedIsGenuineSpec)) trustSignedIsGenuineCard

/-- THE TIED CARD OF 'smithyardlaw11.TrustSignsMatchSpec'. -/
def trustSignsMatchSpecCard : Claim7 := { stood := { row := trustSignsMatchSpecRow, standIns := [], harness := (true, "9a38c9efa93c55124f6813f689691db699e02053523715e833269c6d6a2b938a"), looks := false }, kinds := [], alts := [], laidByText := true, laidKinds := [.data, .data, .data, .data, .pinned], laidTests := true, laidLooks := .later }
def TrustSignsMatchSpecCardSaid : Prop := Claim7.holds Tryz.pinned (.plain (OpenSpec.ofChange trustSignsMatchSpecSpec)) trustSignsMatchSpecCard

/-- THE TIED CARD OF 'smithyardlaw11.TrustAgreedOfMore'. -/
def trustAgreedOfMoreCard : Claim7 := { stood := { row := trustAgreedOfMoreRow, standIns := [], harness := (true, "9a38c9efa93c55124f6813f689691db699e02053523715e833269c6d6a2b938a"), looks := false }, kinds := [], alts := [], laidByText := true, laidKinds := [.data, .data, .data, .data, .pinned], laidTests := true, laidLooks := .later }
def TrustAgreedOfMoreCardSaid : Prop := Claim7.holds Tryz.pinned (.plain (OpenSpec.ofChange trustAgreedOfMoreSpec)) trustAgreedOfMoreCard

/-- THE TIED CARD OF 'smithyardlaw11.TrustTrustedIsGood'. -/
def trustTrustedIsGoodCard : Claim7 := { stood := { row := trustTrustedIsGoodRow, standIns := [], harness := (true, "9a38c9efa93c55124f6813f689691db699e02053523715e833269c6d6a2b938a"), looks := false }, kinds := [], alts := [], laidByText := true, laidKinds := [.data, .data, .data, .data, .pinned], laidTests := true, laidLooks := .later }
def TrustTrustedIsGoodCardSaid : Prop := Claim7.holds Tryz.pinned (.plain (OpenSpec.ofChange trustTrustedIsGoodSpec)) trustTrustedIsGoodCard

/-- THE TIED CARD OF 'smithyardlaw11.TrustTaintedMatchesSpec'. -/
def trustTaintedMatchesSpecCard : Claim7 := { stood := { row := trustTaintedMatchesSpecRow, standIns := [], harness := (true, "9a38c9efa93c55124f6813f689691db699e02053523715e833269c6d6a2b938a"), looks := false }, kinds := [], alts := [], laidByText := true, laidKinds := [.data, .pinned], laidTests := true, laidLooks := .later }
def TrustTaintedMatchesSpecCardSaid : Prop := Claim7.holds Tryz.pinned (.plain (OpenSpec.ofChange trustTaintedMatchesSpecSpec)) trustTaintedMatchesSpecCard

/-- THE TIED CARD OF 'smithyardlaw11.TrustAgreedMatchesSpec'. -/
def trustAgreedMatchesSpecCard : Claim7 := { stood := { row := trustAgreedMatchesSpecRow, standIns := [], harness := (true, "9a38c9efa93c55124f6813f689691db699e02053523715e833269c6d6a2b938a"), looks := false }, kinds := [], alts := [], laidByText := true, laidKinds := [.data, .data, .data, .data, .pinned], laidTests := true, laidLooks := .later }
def TrustAgreedMatchesSpecCardSaid : Prop := Claim7.holds Tryz.pinned (.plain (OpenSpec.ofChange trustAgreedMatchesSpecSpec)) trustAgreedMatchesSpecCard

/-- THE TIED CARD OF 'smithyardlaw11.TrustTrustedMatchesSpec'. -/
def trustTrustedMatchesSpecCard : Claim7 := { stood := { row := trustTrustedMatchesSpecRow, standIns := [], harness := (true, "9a38c9efa93c55124f6813f689691db699e02053523715e833269c6d6a2b938a"), looks := false }, kinds := [], alts := [], laidByText := true, laidKinds := [.data, .data, .data, .data, .pinned], laidTests := true, laidLooks := .later }
def TrustTrustedMatchesSpecCardSaid : Prop := Claim7.holds Tryz.pinned (.plain (OpenSpec.ofChange trustTrustedMatchesSpecSpec)) trustTrustedMatchesSpecCard

/-- THE SECOND FORM's CARD OF 'smithyardlaw11.TrustSignedIsGenuine'. -/
def trustSignedIsGenuineUptoCard : Claim7 := { stood := { row := trustSignedIsGenuineUptoRow, standIns := [], harness := (true, "9a38c9efa93c55124f6813f689691db699e02053523715e833269c6d6a2b938a"), looks := false }, kinds := [], alts := [], laidByText := true, laidKinds := [.data, .data, .data, .data, .pinned], laidTests := true, laidLooks := .later }
def TrustSignedIsGenuineUptoCardSaid : Prop := Claim7.holds Tryz.pinned (.plain (OpenSpec.upto trustSignedIsGenuineSpec)) trustSignedIsGenuineUptoCard

/-- THE SECOND FORM's CARD OF 'smithyardlaw11.TrustSignsMatchSpec'. -/
def trustSignsMatchSpecUptoCard : Claim7 := { stood := { row := trustSignsMatchSpecUptoRow, standIns := [], harness := (true, "9a38c9efa93c55124f6813f689691db699e02053523715e833269c6d6a2b938a"), looks := false }, kinds := [], alts := [], laidByText := true, laidKinds := [.data, .data, .data, .data, .pinned], laidTests := true, laidLooks := .later }
def TrustSignsMatchSpecUptoCardSaid : Prop := Claim7.holds Tryz.pinned (.plain (OpenSpec.upto trustSignsMatchSpecSpec)) trustSignsMatchSpecUptoCard

/-- THE SECOND FORM's CARD OF 'smithyardlaw11.TrustAgreedOfMore'. -/
def trustAgreedOfMoreUptoCard : Claim7 := { stood := { row := trustAgreedOfMoreUptoRow, standIns := [], harness := (true, "9a38c9efa93c55124f6813f689691db699e02053523715e833269c6d6a2b938a"), looks := false }, kinds := [], alts := [], laidByText := true, laidKinds := [.data, .data, .data, .data, .pinned], laidTests := true, laidLooks := .later }
def TrustAgreedOfMoreUptoCardSaid : Prop := Claim7.holds Tryz.pinned (.plain (OpenSpec.upto trustAgreedOfMoreSpec)) trustAgreedOfMoreUptoCard

/-- THE SECOND FORM's CARD OF 'smithyardlaw11.TrustTrustedIsGood'. -/
def trustTrustedIsGoodUptoCard : Claim7 := { stood := { row := trustTrustedIsGoodUptoRow, standIns := [], harness := (true, "9a38c9efa93c55124f6813f689691db699e02053523715e833269c6d6a2b938a"), looks := false }, kinds := [], alts := [], laidByText := true, laidKinds := [.data, .data, .data, .data, .pinned], laidTests := true, laidLooks := .later }
def TrustTrustedIsGoodUptoCardSaid : Prop := Claim7.holds Tryz.pinned (.plain (OpenSpec.upto trustTrustedIsGoodSpec)) trustTrustedIsGoodUptoCard

/-- THE SECOND FORM's CARD OF 'smithyardlaw11.TrustTaintedMatchesSpec'. -/
def trustTaintedMatchesSpecUptoCard : Claim7 := { stood := { row := trustTaintedMatchesSpecUptoRow, standIns := [], harness := (true, "9a38c9efa93c55124f6813f689691db699e02053523715e833269c6d6a2b938a"), looks := false }, kinds := [], alts := [], laidByText := true, laidKinds := [.data, .pinned], laidTests := true, laidLooks := .later }
def TrustTaintedMatchesSpecUptoCardSaid : Prop := Claim7.holds Tryz.pinned (.plain (OpenSpec.upto trustTaintedMatchesSpecSpec)) trustTaintedMatchesSpecUptoCard

/-- THE SECOND FORM's CARD OF 'smithyardlaw11.TrustAgreedMatchesSpec'. -/
def trustAgreedMatchesSpecUptoCard : Claim7 := { stood := { row := trustAgreedMatchesSpecUptoRow, standIns := [], harness := (true, "9a38c9efa93c55124f6813f689691db699e02053523715e833269c6d6a2b938a"), looks := false }, kinds := [], alts := [], laidByText := true, laidKinds := [.data, .data, .data, .data, .pinned], laidTests := true, laidLooks := .later }
def TrustAgreedMatchesSpecUptoCardSaid : Prop := Claim7.holds Tryz.pinned (.plain (OpenSpec.upto trustAgreedMatchesSpecSpec)) trustAgreedMatchesSpecUptoCard

/-- THE SECOND FORM's CARD OF 'smithyardlaw11.TrustTrustedMatchesSpec'. -/
def trustTrustedMatchesSpecUptoCard : Claim7 := { stood := { row := trustTrustedMatchesSpecUptoRow, standIns := [], harness := (true, "9a38c9efa93c55124f6813f689691db699e02053523715e833269c6d6a2b938a"), looks := false }, kinds := [], alts := [], laidByText := true, laidKinds := [.data, .data, .data, .data, .pinned], laidTests := true, laidLooks := .later }
def TrustTrustedMatchesSpecUptoCardSaid : Prop := Claim7.holds Tryz.pinned (.plain (OpenSpec.upto trustTrustedMatchesSpecSpec)) trustTrustedMatchesSpecUptoCard
end Rows
end Go.Proofs.YtaeeicnbnohghaaGreatDoor
