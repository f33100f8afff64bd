/-
  DERIVED. GIVEN WITH THE SEED: THE CARDS: each row of YtgegdfmdcmgliaaGreatDoorRows.lean that lists a variable, with what it lists TIED to the program's text (the seventh form; the later family's looks); each row that meets fmt, with fmt's text TOLD by the authors' own Lean function (tested against real Go, not proved from fmt's source: count such statements apart). THE CARD IS WHAT COUNTS. Prove the row's statement (the work); the ties are given (YtgegdfmdcmgliaaGreatDoorTie.lean); close each card by the builder's one call (the guide's Derived/Test/ToyasCard.lean, 'card_holds'). Laid BY PROGRAM, IN A SANDBOX (cutbox-door.mjs). By AI agents, Wed Nov 11 2026. No macro, syntax, notation, axiom, sorry.
-/
import Derived.Test.YtgegdfmdcmgliaaGreatDoorRows
import GoSem.ClaimSeven
namespace Go.Proofs.YtgegdfmdcmgliaaGreatDoor
namespace Rows

/-- THE TIED CARD OF 'smithyardlaw11.TrustDueIsEach'. -/
def trustDueIsEachCard : Claim7 := { stood := { row := trustDueIsEachRow, standIns := [], harness := (true, "52186fe2c37f2afdc6e676876079e5f0f78e8ba36c856e93de268da4fdd382c2"), looks := true }, kinds := [], alts := [], laidByText := true, laidKinds := [.data, .data, .data, .data, .sentinel, .sentinel, .pinned], laidTests := true, laidLooks := .later }
def TrustDueIsEachCardSaid : Prop := Claim7.holds Tryz.pinned (.plain (OpenSpec.ofChange trustDueIsEachSpec)) trustDueIsEachCard

/-- THE TIED CARD OF 'smithyardlaw11.TrustDueMatchesSpec'. -/
def trustDueMatchesSpecCard : Claim7 := { stood := { row := trustDueMatchesSpecRow, standIns := [], harness := (true, "52186fe2c37f2afdc6e676876079e5f0f78e8ba36c856e93de268da4fdd382c2"), looks := true }, kinds := [], alts := [], laidByText := true, laidKinds := [.data, .data, .data, .data, .sentinel, .sentinel, .pinned], laidTests := true, laidLooks := .later }
def TrustDueMatchesSpecCardSaid : Prop := Claim7.holds Tryz.pinned (.plain (OpenSpec.ofChange trustDueMatchesSpecSpec)) trustDueMatchesSpecCard

/-- THE TIED CARD OF 'smithyardlaw11.TrustReadsMatchSpec'. -/
def trustReadsMatchSpecCard : Claim7 := { stood := { row := trustReadsMatchSpecRow, standIns := [], harness := (true, "52186fe2c37f2afdc6e676876079e5f0f78e8ba36c856e93de268da4fdd382c2"), looks := true }, kinds := [], alts := [], laidByText := true, laidKinds := [.data, .data, .data, .data, .sentinel, .sentinel, .pinned], laidTests := true, laidLooks := .later }
def TrustReadsMatchSpecCardSaid : Prop := Claim7.holds Tryz.pinned (.plain (OpenSpec.ofChange trustReadsMatchSpecSpec)) trustReadsMatchSpecCard

/-- THE TIED CARD OF 'smithyardlaw11.TrustTextsMatchSpec'. -/
def trustTextsMatchSpecCard : Claim7 := { stood := { row := trustTextsMatchSpecRow, standIns := [], harness := (true, "52186fe2c37f2afdc6e676876079e5f0f78e8ba36c856e93de268da4fdd382c2"), looks := true }, kinds := [], alts := [], laidByText := true, laidKinds := [.data, .data, .data, .data, .sentinel, .sentinel, .pinned], laidTests := true, laidLooks := .later }
def TrustTextsMatchSpecCardSaid : Prop := Claim7.holds Tryz.pinned (.plain (OpenSpec.ofChange trustTextsMatchSpecSpec)) trustTextsMatchSpecCard

/-- THE SECOND FORM's CARD OF 'smithyardlaw11.TrustDueIsEach'. -/
def trustDueIsEachUptoCard : Claim7 := { stood := { row := trustDueIsEachUptoRow, standIns := [], harness := (true, "52186fe2c37f2afdc6e676876079e5f0f78e8ba36c856e93de268da4fdd382c2"), looks := true }, kinds := [], alts := [], laidByText := true, laidKinds := [.data, .data, .data, .data, .sentinel, .sentinel, .pinned], laidTests := true, laidLooks := .later }
def TrustDueIsEachUptoCardSaid : Prop := Claim7.holds Tryz.pinned (.plain (OpenSpec.upto trustDueIsEachSpec)) trustDueIsEachUptoCard

/-- THE SECOND FORM's CARD OF 'smithyardlaw11.TrustDueMatchesSpec'. -/
def trustDueMatchesSpecUptoCard : Claim7 := { stood := { row := trustDueMatchesSpecUptoRow, standIns := [], harness := (true, "52186fe2c37f2afdc6e676876079e5f0f78e8ba36c856e93de268da4fdd382c2"), looks := true }, kinds := [], alts := [], laidByText := true, laidKinds := [.data, .data, .data, .data, .sentinel, .sentinel, .pinned], laidTests := true, laidLooks := .later }
def TrustDueMatchesSpecUptoCardSaid : Prop := Claim7.holds Tryz.pinned (.plain (OpenSpec.upto trustDueMatchesSpecSpec)) trustDueMatchesSpecUptoCard

/-- THE SECOND FORM's CARD OF 'smithyardlaw11.TrustReadsMatchSpec'. -/
def trustReadsMatchSpecUptoCard : Claim7 := { stood := { row := trustReadsMatchSpecUptoRow, standIns := [], harness := (true, "52186fe2c37f2afdc6e676876079e5f0f78e8ba36c856e93de268da4fdd382c2"), looks := true }, kinds := [], alts := [], laidByText := true, laidKinds := [.data, .data, .data, .data, .sentinel, .sentinel, .pinned], laidTests := true, laidLooks := .later }
def TrustReadsMatchSpecUptoCardSaid : Prop := Claim7.holds Tryz.pinned (.plain (OpenSpec.upto trustReadsMatchSpecSpec)) trustReadsMatchSpecUptoCard

/-- THE SECOND FORM's CARD OF 'smithyardlaw11.TrustTextsMatchSpec'. -/
def trustTextsMatchSpecUptoCard : Claim7 := { stood := { row := trustTextsMatchSpecUptoRow, standIns := [], harness := (true, "52186fe2c37f2afdc6e676876079e5f0f78e8ba36c856e93de268da4fdd382c2"), looks := true }, kinds := [], alts := [], laidByText := true, laidKinds := [.data, .data, .data, .data, .sentinel, .sentinel, .pinned], laidTests := true, laidLooks := .later }
def TrustTextsMatchSpecUptoCardSaid : Prop := Claim7.holds Tryz.pinned (.plain (OpenSpec.upto trustTextsMatchSpecSpec)) trustTextsMatchSpecUptoCard
end Rows
end Go.Proofs.YtgegdfmdcmgliaaGreatDoor
