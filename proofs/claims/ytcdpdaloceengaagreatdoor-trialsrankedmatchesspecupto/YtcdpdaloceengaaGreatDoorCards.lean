/-
  DERIVED. GIVEN WITH THE SEED: THE CARDS: each row of YtcdpdaloceengaaGreatDoorRows.lean that lists a variable, with what it lists TIED to the program's text (the seventh form; the later family's looks); each row that meets fmt, with fmt's text TOLD by the authors' own Lean function (tested against real Go, not proved from fmt's source: count such statements apart). THE CARD IS WHAT COUNTS. Prove the row's statement (the work); the ties are given (YtcdpdaloceengaaGreatDoorTie.lean); close each card by the builder's one call (the guide's Derived/Test/ToyasCard.lean, 'card_holds'). Laid BY PROGRAM, IN A SANDBOX (cutbox-door.mjs). By AI agents, Wed Nov 11 2026. No macro, syntax, notation, axiom, sorry.
-/
import Derived.Test.YtcdpdaloceengaaGreatDoorRows
import GoSem.ClaimSeven
namespace Go.Proofs.YtcdpdaloceengaaGreatDoor
namespace Rows

/-- THE TIED CARD OF 'smithyardlaw10.TrialsRankedMatchesSpec'. -/
def trialsRankedMatchesSpecCard : Claim7 := { stood := { row := trialsRankedMatchesSpecRow, standIns := [], harness := (true, "391195ecf37e1c55198314c5799f0cf29f90a100f649ca4910221dfb7b1e3b26"), looks := false }, kinds := [], alts := [], laidByText := true, laidKinds := [.data, .pinned], laidTests := true, laidLooks := .later }
def TrialsRankedMatchesSpecCardSaid : Prop := Claim7.holds Tryz.pinned (.plain (OpenSpec.ofChange trialsRankedMatchesSpecSpec)) trialsRankedMatchesSpecCard

/-- THE SECOND FORM's CARD OF 'smithyardlaw10.TrialsRankedMatchesSpec'. -/
def trialsRankedMatchesSpecUptoCard : Claim7 := { stood := { row := trialsRankedMatchesSpecUptoRow, standIns := [], harness := (true, "391195ecf37e1c55198314c5799f0cf29f90a100f649ca4910221dfb7b1e3b26"), looks := false }, kinds := [], alts := [], laidByText := true, laidKinds := [.data, .pinned], laidTests := true, laidLooks := .later }
def TrialsRankedMatchesSpecUptoCardSaid : Prop := Claim7.holds Tryz.pinned (.plain (OpenSpec.upto trialsRankedMatchesSpecSpec)) trialsRankedMatchesSpecUptoCard
end Rows
end Go.Proofs.YtcdpdaloceengaaGreatDoor
