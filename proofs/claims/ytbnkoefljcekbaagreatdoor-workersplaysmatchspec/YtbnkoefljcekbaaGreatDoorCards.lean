/-
  DERIVED. GIVEN WITH THE SEED: THE CARDS: each row of YtbnkoefljcekbaaGreatDoorRows.lean that lists a variable, with what it lists TIED to the program's text (the seventh form; the later family's looks); each row that meets fmt, with fmt's text TOLD by the authors' own Lean function (tested against real Go, not proved from fmt's source: count such statements apart). THE CARD IS WHAT COUNTS. Prove the row's statement (the work); the ties are given (YtbnkoefljcekbaaGreatDoorTie.lean); close each card by the builder's one call (the guide's Derived/Test/ToyasCard.lean, 'card_holds'). Laid BY PROGRAM, IN A SANDBOX (cutbox-door.mjs). By AI agents, Wed Nov 11 2026. No macro, syntax, notation, axiom, sorry.
-/
import Derived.Test.YtbnkoefljcekbaaGreatDoorRows
import GoSem.ClaimSeven
namespace Go.Proofs.YtbnkoefljcekbaaGreatDoor
namespace Rows

/-- THE TIED CARD OF 'smithyardlaw9.WorkersPlaysMatchSpec'. -/
def workersPlaysMatchSpecCard : Claim7 := { stood := { row := workersPlaysMatchSpecRow, standIns := [], harness := (true, "293899bd599d8de3848a07fe147d012e751285be48b4ab22cc67926395694b92"), looks := false }, kinds := [], alts := [], laidByText := true, laidKinds := [.data, .pinned], laidTests := true, laidLooks := .later }
def WorkersPlaysMatchSpecCardSaid : Prop := Claim7.holds Tryz.pinned (.plain (OpenSpec.ofChange workersPlaysMatchSpecSpec)) workersPlaysMatchSpecCard

/-- THE TIED CARD OF 'smithyardlaw9.WorkersOutcomesMatchSpec'. -/
def workersOutcomesMatchSpecCard : Claim7 := { stood := { row := workersOutcomesMatchSpecRow, standIns := [], harness := (true, "293899bd599d8de3848a07fe147d012e751285be48b4ab22cc67926395694b92"), looks := false }, kinds := [], alts := [], laidByText := true, laidKinds := [.data, .pinned], laidTests := true, laidLooks := .later }
def WorkersOutcomesMatchSpecCardSaid : Prop := Claim7.holds Tryz.pinned (.plain (OpenSpec.ofChange workersOutcomesMatchSpecSpec)) workersOutcomesMatchSpecCard

/-- THE TIED CARD OF 'smithyardlaw9.WorkersLeastMatchesSpec'. -/
def workersLeastMatchesSpecCard : Claim7 := { stood := { row := workersLeastMatchesSpecRow, standIns := [], harness := (true, "293899bd599d8de3848a07fe147d012e751285be48b4ab22cc67926395694b92"), looks := false }, kinds := [], alts := [], laidByText := true, laidKinds := [.data, .pinned], laidTests := true, laidLooks := .later }
def WorkersLeastMatchesSpecCardSaid : Prop := Claim7.holds Tryz.pinned (.plain (OpenSpec.ofChange workersLeastMatchesSpecSpec)) workersLeastMatchesSpecCard

/-- THE TIED CARD OF 'smithyardlaw9.WorkersDoneOnce'. -/
def workersDoneOnceCard : Claim7 := { stood := { row := workersDoneOnceRow, standIns := [], harness := (true, "293899bd599d8de3848a07fe147d012e751285be48b4ab22cc67926395694b92"), looks := false }, kinds := [], alts := [], laidByText := true, laidKinds := [.data, .pinned], laidTests := true, laidLooks := .later }
def WorkersDoneOnceCardSaid : Prop := Claim7.holds Tryz.pinned (.plain (OpenSpec.ofChange workersDoneOnceSpec)) workersDoneOnceCard

/-- THE TIED CARD OF 'smithyardlaw9.WorkersRunsAreRight'. -/
def workersRunsAreRightCard : Claim7 := { stood := { row := workersRunsAreRightRow, standIns := [], harness := (true, "293899bd599d8de3848a07fe147d012e751285be48b4ab22cc67926395694b92"), looks := false }, kinds := [], alts := [], laidByText := true, laidKinds := [.data, .pinned], laidTests := true, laidLooks := .later }
def WorkersRunsAreRightCardSaid : Prop := Claim7.holds Tryz.pinned (.plain (OpenSpec.ofChange workersRunsAreRightSpec)) workersRunsAreRightCard

/-- THE TIED CARD OF 'smithyardlaw9.WorkersWaitedMatchesSpec'. -/
def workersWaitedMatchesSpecCard : Claim7 := { stood := { row := workersWaitedMatchesSpecRow, standIns := [], harness := (true, "293899bd599d8de3848a07fe147d012e751285be48b4ab22cc67926395694b92"), looks := false }, kinds := [], alts := [], laidByText := true, laidKinds := [.data, .pinned], laidTests := true, laidLooks := .later }
def WorkersWaitedMatchesSpecCardSaid : Prop := Claim7.holds Tryz.pinned (.plain (OpenSpec.ofChange workersWaitedMatchesSpecSpec)) workersWaitedMatchesSpecCard

/-- THE TIED CARD OF 'smithyardlaw9.WorkersNobodyWaits'. -/
def workersNobodyWaitsCard : Claim7 := { stood := { row := workersNobodyWaitsRow, standIns := [], harness := (true, "293899bd599d8de3848a07fe147d012e751285be48b4ab22cc67926395694b92"), looks := false }, kinds := [], alts := [], laidByText := true, laidKinds := [.data, .pinned], laidTests := true, laidLooks := .later }
def WorkersNobodyWaitsCardSaid : Prop := Claim7.holds Tryz.pinned (.plain (OpenSpec.ofChange workersNobodyWaitsSpec)) workersNobodyWaitsCard

/-- THE SECOND FORM's CARD OF 'smithyardlaw9.WorkersPlaysMatchSpec'. -/
def workersPlaysMatchSpecUptoCard : Claim7 := { stood := { row := workersPlaysMatchSpecUptoRow, standIns := [], harness := (true, "293899bd599d8de3848a07fe147d012e751285be48b4ab22cc67926395694b92"), looks := false }, kinds := [], alts := [], laidByText := true, laidKinds := [.data, .pinned], laidTests := true, laidLooks := .later }
def WorkersPlaysMatchSpecUptoCardSaid : Prop := Claim7.holds Tryz.pinned (.plain (OpenSpec.upto workersPlaysMatchSpecSpec)) workersPlaysMatchSpecUptoCard

/-- THE SECOND FORM's CARD OF 'smithyardlaw9.WorkersOutcomesMatchSpec'. -/
def workersOutcomesMatchSpecUptoCard : Claim7 := { stood := { row := workersOutcomesMatchSpecUptoRow, standIns := [], harness := (true, "293899bd599d8de3848a07fe147d012e751285be48b4ab22cc67926395694b92"), looks := false }, kinds := [], alts := [], laidByText := true, laidKinds := [.data, .pinned], laidTests := true, laidLooks := .later }
def WorkersOutcomesMatchSpecUptoCardSaid : Prop := Claim7.holds Tryz.pinned (.plain (OpenSpec.upto workersOutcomesMatchSpecSpec)) workersOutcomesMatchSpecUptoCard

/-- THE SECOND FORM's CARD OF 'smithyardlaw9.WorkersLeastMatchesSpec'. -/
def workersLeastMatchesSpecUptoCard : Claim7 := { stood := { row := workersLeastMatchesSpecUptoRow, standIns := [], harness := (true, "293899bd599d8de3848a07fe147d012e751285be48b4ab22cc67926395694b92"), looks := false }, kinds := [], alts := [], laidByText := true, laidKinds := [.data, .pinned], laidTests := true, laidLooks := .later }
def WorkersLeastMatchesSpecUptoCardSaid : Prop := Claim7.holds Tryz.pinned (.plain (OpenSpec.upto workersLeastMatchesSpecSpec)) workersLeastMatchesSpecUptoCard

/-- THE SECOND FORM's CARD OF 'smithyardlaw9.WorkersDoneOnce'. -/
def workersDoneOnceUptoCard : Claim7 := { stood := { row := workersDoneOnceUptoRow, standIns := [], harness := (true, "293899bd599d8de3848a07fe147d012e751285be48b4ab22cc67926395694b92"), looks := false }, kinds := [], alts := [], laidByText := true, laidKinds := [.data, .pinned], laidTests := true, laidLooks := .later }
def WorkersDoneOnceUptoCardSaid : Prop := Claim7.holds Tryz.pinned (.plain (OpenSpec.upto workersDoneOnceSpec)) workersDoneOnceUptoCard

/-- THE SECOND FORM's CARD OF 'smithyardlaw9.WorkersRunsAreRight'. -/
def workersRunsAreRightUptoCard : Claim7 := { stood := { row := workersRunsAreRightUptoRow, standIns := [], harness := (true, "293899bd599d8de3848a07fe147d012e751285be48b4ab22cc67926395694b92"), looks := false }, kinds := [], alts := [], laidByText := true, laidKinds := [.data, .pinned], laidTests := true, laidLooks := .later }
def WorkersRunsAreRightUptoCardSaid : Prop := Claim7.holds Tryz.pinned (.plain (OpenSpec.upto workersRunsAreRightSpec)) workersRunsAreRightUptoCard

/-- THE SECOND FORM's CARD OF 'smithyardlaw9.WorkersWaitedMatchesSpec'. -/
def workersWaitedMatchesSpecUptoCard : Claim7 := { stood := { row := workersWaitedMatchesSpecUptoRow, standIns := [], harness := (true, "293899bd599d8de3848a07fe147d012e751285be48b4ab22cc67926395694b92"), looks := false }, kinds := [], alts := [], laidByText := true, laidKinds := [.data, .pinned], laidTests := true, laidLooks := .later }
def WorkersWaitedMatchesSpecUptoCardSaid : Prop := Claim7.holds Tryz.pinned (.plain (OpenSpec.upto workersWaitedMatchesSpecSpec)) workersWaitedMatchesSpecUptoCard

/-- THE SECOND FORM's CARD OF 'smithyardlaw9.WorkersNobodyWaits'. -/
def workersNobodyWaitsUptoCard : Claim7 := { stood := { row := workersNobodyWaitsUptoRow, standIns := [], harness := (true, "293899bd599d8de3848a07fe147d012e751285be48b4ab22cc67926395694b92"), looks := false }, kinds := [], alts := [], laidByText := true, laidKinds := [.data, .pinned], laidTests := true, laidLooks := .later }
def WorkersNobodyWaitsUptoCardSaid : Prop := Claim7.holds Tryz.pinned (.plain (OpenSpec.upto workersNobodyWaitsSpec)) workersNobodyWaitsUptoCard
end Rows
end Go.Proofs.YtbnkoefljcekbaaGreatDoor
