/-
  DERIVED. GIVEN WITH THE SEED: THE CARDS: each row of YtlnkamoeiaaleaaDoorRows.lean that lists a variable, with what it lists TIED to the program's text (the seventh form; the later family's looks); each row that meets fmt, with fmt's text TOLD by the authors' own Lean function (tested against real Go, not proved from fmt's source: count such statements apart). THE CARD IS WHAT COUNTS. Prove the row's statement (the work); the ties are given (YtlnkamoeiaaleaaDoorTie.lean); close each card by the builder's one call (the guide's Derived/Test/ToyasCard.lean, 'card_holds'). Laid BY PROGRAM, IN A SANDBOX (cutbox-door.mjs). By AI agents, Wed Nov 11 2026. No macro, syntax, notation, axiom, sorry.
-/
import Derived.Test.YtlnkamoeiaaleaaDoorRows
import GoSem.ClaimSeven
namespace Go.Proofs.YtlnkamoeiaaleaaDoor
namespace Rows

/-- THE TIED CARD OF 'smithyardlaw9.WorkersEndsMatchSpec'. -/
def workersEndsMatchSpecCard : Claim7 := { stood := { row := workersEndsMatchSpecRow, standIns := [], harness := (true, "ba6fa228894b64b5a4a349228549ea78156ef2c9d306631c2641406afc764569"), looks := false }, kinds := [], alts := [], laidByText := true, laidKinds := [.data, .pinned], laidTests := true, laidLooks := .later }
def WorkersEndsMatchSpecCardSaid : Prop := Claim7.holds Tryd.pinned (.plain (OpenSpec.ofChange workersEndsMatchSpecSpec)) workersEndsMatchSpecCard

/-- THE TIED CARD OF 'smithyardlaw9.WorkersEndsAddUp'. -/
def workersEndsAddUpCard : Claim7 := { stood := { row := workersEndsAddUpRow, standIns := [], harness := (true, "ba6fa228894b64b5a4a349228549ea78156ef2c9d306631c2641406afc764569"), looks := false }, kinds := [], alts := [], laidByText := true, laidKinds := [.data, .pinned], laidTests := true, laidLooks := .later }
def WorkersEndsAddUpCardSaid : Prop := Claim7.holds Tryd.pinned (.plain (OpenSpec.ofChange workersEndsAddUpSpec)) workersEndsAddUpCard

/-- THE TIED CARD OF 'smithyardlaw9.WorkersBusyMatchesSpec'. -/
def workersBusyMatchesSpecCard : Claim7 := { stood := { row := workersBusyMatchesSpecRow, standIns := [], harness := (true, "ba6fa228894b64b5a4a349228549ea78156ef2c9d306631c2641406afc764569"), looks := false }, kinds := [], alts := [], laidByText := true, laidKinds := [.data, .pinned], laidTests := true, laidLooks := .later }
def WorkersBusyMatchesSpecCardSaid : Prop := Claim7.holds Tryd.pinned (.plain (OpenSpec.ofChange workersBusyMatchesSpecSpec)) workersBusyMatchesSpecCard

/-- THE TIED CARD OF 'smithyardlaw9.WorkersChecksMatchSpec'. -/
def workersChecksMatchSpecCard : Claim7 := { stood := { row := workersChecksMatchSpecRow, standIns := [], harness := (true, "ba6fa228894b64b5a4a349228549ea78156ef2c9d306631c2641406afc764569"), looks := false }, kinds := [], alts := [], laidByText := true, laidKinds := [.data, .pinned], laidTests := true, laidLooks := .later }
def WorkersChecksMatchSpecCardSaid : Prop := Claim7.holds Tryd.pinned (.plain (OpenSpec.ofChange workersChecksMatchSpecSpec)) workersChecksMatchSpecCard

/-- THE TIED CARD OF 'smithyardlaw9.WorkersOrdersMatchSpec'. -/
def workersOrdersMatchSpecCard : Claim7 := { stood := { row := workersOrdersMatchSpecRow, standIns := [], harness := (true, "ba6fa228894b64b5a4a349228549ea78156ef2c9d306631c2641406afc764569"), looks := false }, kinds := [], alts := [], laidByText := true, laidKinds := [.data, .pinned], laidTests := true, laidLooks := .later }
def WorkersOrdersMatchSpecCardSaid : Prop := Claim7.holds Tryd.pinned (.plain (OpenSpec.ofChange workersOrdersMatchSpecSpec)) workersOrdersMatchSpecCard

/-- THE SECOND FORM's CARD OF 'smithyardlaw9.WorkersEndsMatchSpec'. -/
def workersEndsMatchSpecUptoCard : Claim7 := { stood := { row := workersEndsMatchSpecUptoRow, standIns := [], harness := (true, "ba6fa228894b64b5a4a349228549ea78156ef2c9d306631c2641406afc764569"), looks := false }, kinds := [], alts := [], laidByText := true, laidKinds := [.data, .pinned], laidTests := true, laidLooks := .later }
def WorkersEndsMatchSpecUptoCardSaid : Prop := Claim7.holds Tryd.pinned (.plain (OpenSpec.upto workersEndsMatchSpecSpec)) workersEndsMatchSpecUptoCard

/-- THE SECOND FORM's CARD OF 'smithyardlaw9.WorkersEndsAddUp'. -/
def workersEndsAddUpUptoCard : Claim7 := { stood := { row := workersEndsAddUpUptoRow, standIns := [], harness := (true, "ba6fa228894b64b5a4a349228549ea78156ef2c9d306631c2641406afc764569"), looks := false }, kinds := [], alts := [], laidByText := true, laidKinds := [.data, .pinned], laidTests := true, laidLooks := .later }
def WorkersEndsAddUpUptoCardSaid : Prop := Claim7.holds Tryd.pinned (.plain (OpenSpec.upto workersEndsAddUpSpec)) workersEndsAddUpUptoCard

/-- THE SECOND FORM's CARD OF 'smithyardlaw9.WorkersBusyMatchesSpec'. -/
def workersBusyMatchesSpecUptoCard : Claim7 := { stood := { row := workersBusyMatchesSpecUptoRow, standIns := [], harness := (true, "ba6fa228894b64b5a4a349228549ea78156ef2c9d306631c2641406afc764569"), looks := false }, kinds := [], alts := [], laidByText := true, laidKinds := [.data, .pinned], laidTests := true, laidLooks := .later }
def WorkersBusyMatchesSpecUptoCardSaid : Prop := Claim7.holds Tryd.pinned (.plain (OpenSpec.upto workersBusyMatchesSpecSpec)) workersBusyMatchesSpecUptoCard

/-- THE SECOND FORM's CARD OF 'smithyardlaw9.WorkersChecksMatchSpec'. -/
def workersChecksMatchSpecUptoCard : Claim7 := { stood := { row := workersChecksMatchSpecUptoRow, standIns := [], harness := (true, "ba6fa228894b64b5a4a349228549ea78156ef2c9d306631c2641406afc764569"), looks := false }, kinds := [], alts := [], laidByText := true, laidKinds := [.data, .pinned], laidTests := true, laidLooks := .later }
def WorkersChecksMatchSpecUptoCardSaid : Prop := Claim7.holds Tryd.pinned (.plain (OpenSpec.upto workersChecksMatchSpecSpec)) workersChecksMatchSpecUptoCard

/-- THE SECOND FORM's CARD OF 'smithyardlaw9.WorkersOrdersMatchSpec'. -/
def workersOrdersMatchSpecUptoCard : Claim7 := { stood := { row := workersOrdersMatchSpecUptoRow, standIns := [], harness := (true, "ba6fa228894b64b5a4a349228549ea78156ef2c9d306631c2641406afc764569"), looks := false }, kinds := [], alts := [], laidByText := true, laidKinds := [.data, .pinned], laidTests := true, laidLooks := .later }
def WorkersOrdersMatchSpecUptoCardSaid : Prop := Claim7.holds Tryd.pinned (.plain (OpenSpec.upto workersOrdersMatchSpecSpec)) workersOrdersMatchSpecUptoCard
end Rows
end Go.Proofs.YtlnkamoeiaaleaaDoor
