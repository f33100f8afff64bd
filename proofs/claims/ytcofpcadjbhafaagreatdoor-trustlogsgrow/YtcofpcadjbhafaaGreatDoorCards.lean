/-
  DERIVED. GIVEN WITH THE SEED: THE CARDS: each row of YtcofpcadjbhafaaGreatDoorRows.lean that lists a variable, with what it lists TIED to the program's text (the seventh form; the later family's looks); each row that meets fmt, with fmt's text TOLD by the authors' own Lean function (tested against real Go, not proved from fmt's source: count such statements apart). THE CARD IS WHAT COUNTS. Prove the row's statement (the work); the ties are given (YtcofpcadjbhafaaGreatDoorTie.lean); close each card by the builder's one call (the guide's Derived/Test/ToyasCard.lean, 'card_holds'). Laid BY PROGRAM, IN A SANDBOX (cutbox-door.mjs). By AI agents, Wed Nov 11 2026. No macro, syntax, notation, axiom, sorry.
-/
import Derived.Test.YtcofpcadjbhafaaGreatDoorRows
import GoSem.ClaimSeven
namespace Go.Proofs.YtcofpcadjbhafaaGreatDoor
namespace Rows

/-- THE TIED CARD OF 'smithyardlaw11.TrustWrongIsTainted'. -/
def trustWrongIsTaintedCard : Claim7 := { stood := { row := trustWrongIsTaintedRow, standIns := [], harness := (true, "0bfa3efc1f47b6053dd327334bb6be2e3f0a599e68e41b3ef3a7aee389731d3f"), looks := true }, kinds := [], alts := [], laidByText := true, laidKinds := [.data, .pinned], laidTests := true, laidLooks := .later }
def TrustWrongIsTaintedCardSaid : Prop := Claim7.holds Tryz.pinned (.plain (OpenSpec.ofChange trustWrongIsTaintedSpec)) trustWrongIsTaintedCard

/-- THE TIED CARD OF 'smithyardlaw11.TrustTaintedMatchesSpec'. -/
def trustTaintedMatchesSpecCard : Claim7 := { stood := { row := trustTaintedMatchesSpecRow, standIns := [], harness := (true, "0bfa3efc1f47b6053dd327334bb6be2e3f0a599e68e41b3ef3a7aee389731d3f"), looks := true }, kinds := [], alts := [], laidByText := true, laidKinds := [.data, .pinned], laidTests := true, laidLooks := .later }
def TrustTaintedMatchesSpecCardSaid : Prop := Claim7.holds Tryz.pinned (.plain (OpenSpec.ofChange trustTaintedMatchesSpecSpec)) trustTaintedMatchesSpecCard

/-- THE TIED CARD OF 'smithyardlaw11.TrustLogsGrow'. -/
def trustLogsGrowCard : Claim7 := { stood := { row := trustLogsGrowRow, standIns := [], harness := (true, "0bfa3efc1f47b6053dd327334bb6be2e3f0a599e68e41b3ef3a7aee389731d3f"), looks := true }, kinds := [], alts := [], laidByText := true, laidKinds := [.data, .data, .data, .data, .pinned], laidTests := true, laidLooks := .later }
def TrustLogsGrowCardSaid : Prop := Claim7.holds Tryz.pinned (.plain (OpenSpec.ofChange trustLogsGrowSpec)) trustLogsGrowCard

/-- THE TIED CARD OF 'smithyardlaw11.TrustHeadsMatchSpec'. -/
def trustHeadsMatchSpecCard : Claim7 := { stood := { row := trustHeadsMatchSpecRow, standIns := [], harness := (true, "0bfa3efc1f47b6053dd327334bb6be2e3f0a599e68e41b3ef3a7aee389731d3f"), looks := true }, kinds := [], alts := [], laidByText := true, laidKinds := [.data, .data, .data, .data, .pinned], laidTests := true, laidLooks := .later }
def TrustHeadsMatchSpecCardSaid : Prop := Claim7.holds Tryz.pinned (.plain (OpenSpec.ofChange trustHeadsMatchSpecSpec)) trustHeadsMatchSpecCard

/-- THE TIED CARD OF 'smithyardlaw11.TrustDueIsEach'. -/
def trustDueIsEachCard : Claim7 := { stood := { row := trustDueIsEachRow, standIns := [], harness := (true, "0bfa3efc1f47b6053dd327334bb6be2e3f0a599e68e41b3ef3a7aee389731d3f"), looks := true }, kinds := [], alts := [], laidByText := true, laidKinds := [.data, .data, .data, .data, .sentinel, .sentinel, .pinned], laidTests := true, laidLooks := .later }
def TrustDueIsEachCardSaid : Prop := Claim7.holds Tryz.pinned (.plain (OpenSpec.ofChange trustDueIsEachSpec)) trustDueIsEachCard

/-- THE SECOND FORM's CARD OF 'smithyardlaw11.TrustWrongIsTainted'. -/
def trustWrongIsTaintedUptoCard : Claim7 := { stood := { row := trustWrongIsTaintedUptoRow, standIns := [], harness := (true, "0bfa3efc1f47b6053dd327334bb6be2e3f0a599e68e41b3ef3a7aee389731d3f"), looks := true }, kinds := [], alts := [], laidByText := true, laidKinds := [.data, .pinned], laidTests := true, laidLooks := .later }
def TrustWrongIsTaintedUptoCardSaid : Prop := Claim7.holds Tryz.pinned (.plain (OpenSpec.upto trustWrongIsTaintedSpec)) trustWrongIsTaintedUptoCard

/-- THE SECOND FORM's CARD OF 'smithyardlaw11.TrustTaintedMatchesSpec'. -/
def trustTaintedMatchesSpecUptoCard : Claim7 := { stood := { row := trustTaintedMatchesSpecUptoRow, standIns := [], harness := (true, "0bfa3efc1f47b6053dd327334bb6be2e3f0a599e68e41b3ef3a7aee389731d3f"), looks := true }, kinds := [], alts := [], laidByText := true, laidKinds := [.data, .pinned], laidTests := true, laidLooks := .later }
def TrustTaintedMatchesSpecUptoCardSaid : Prop := Claim7.holds Tryz.pinned (.plain (OpenSpec.upto trustTaintedMatchesSpecSpec)) trustTaintedMatchesSpecUptoCard

/-- THE SECOND FORM's CARD OF 'smithyardlaw11.TrustLogsGrow'. -/
def trustLogsGrowUptoCard : Claim7 := { stood := { row := trustLogsGrowUptoRow, standIns := [], harness := (true, "0bfa3efc1f47b6053dd327334bb6be2e3f0a599e68e41b3ef3a7aee389731d3f"), looks := true }, kinds := [], alts := [], laidByText := true, laidKinds := [.data, .data, .data, .data, .pinned], laidTests := true, laidLooks := .later }
def TrustLogsGrowUptoCardSaid : Prop := Claim7.holds Tryz.pinned (.plain (OpenSpec.upto trustLogsGrowSpec)) trustLogsGrowUptoCard

/-- THE SECOND FORM's CARD OF 'smithyardlaw11.TrustHeadsMatchSpec'. -/
def trustHeadsMatchSpecUptoCard : Claim7 := { stood := { row := trustHeadsMatchSpecUptoRow, standIns := [], harness := (true, "0bfa3efc1f47b6053dd327334bb6be2e3f0a599e68e41b3ef3a7aee389731d3f"), looks := true }, kinds := [], alts := [], laidByText := true, laidKinds := [.data, .data, .data, .data, .pinned], laidTests := true, laidLooks := .later }
def TrustHeadsMatchSpecUptoCardSaid : Prop := Claim7.holds Tryz.pinned (.plain (OpenSpec.upto trustHeadsMatchSpecSpec)) trustHeadsMatchSpecUptoCard

/-- THE SECOND FORM's CARD OF 'smithyardlaw11.TrustDueIsEach'. -/
def trustDueIsEachUptoCard : Claim7 := { stood := { row := trustDueIsEachUptoRow, standIns := [], harness := (true, "0bfa3efc1f47b6053dd327334bb6be2e3f0a599e68e41b3ef3a7aee389731d3f"), looks := true }, kinds := [], alts := [], laidByText := true, laidKinds := [.data, .data, .data, .data, .sentinel, .sentinel, .pinned], laidTests := true, laidLooks := .later }
def TrustDueIsEachUptoCardSaid : Prop := Claim7.holds Tryz.pinned (.plain (OpenSpec.upto trustDueIsEachSpec)) trustDueIsEachUptoCard
end Rows
end Go.Proofs.YtcofpcadjbhafaaGreatDoor
