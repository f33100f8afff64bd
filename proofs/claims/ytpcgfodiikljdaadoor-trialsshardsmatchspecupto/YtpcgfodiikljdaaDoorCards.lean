/-
  DERIVED. GIVEN WITH THE SEED: THE CARDS: each row of YtpcgfodiikljdaaDoorRows.lean that lists a variable, with what it lists TIED to the program's text (the seventh form; the later family's looks); each row that meets fmt, with fmt's text TOLD by the authors' own Lean function (tested against real Go, not proved from fmt's source: count such statements apart). THE CARD IS WHAT COUNTS. Prove the row's statement (the work); the ties are given (YtpcgfodiikljdaaDoorTie.lean); close each card by the builder's one call (the guide's Derived/Test/ToyasCard.lean, 'card_holds'). Laid BY PROGRAM, IN A SANDBOX (cutbox-door.mjs). By AI agents, Wed Nov 11 2026. No macro, syntax, notation, axiom, sorry.
-/
import Derived.Test.YtpcgfodiikljdaaDoorRows
import GoSem.ClaimSeven
namespace Go.Proofs.YtpcgfodiikljdaaDoor
namespace Rows

/-- THE TIED CARD OF 'smithyardlaw10.TrialsShardsAreEven'. -/
def trialsShardsAreEvenCard : Claim7 := { stood := { row := trialsShardsAreEvenRow, standIns := [], harness := (true, "27fe05cb58ef93197ccedae46a94ec3a7662a26c50e2bb6f6af894070ddcf0f8"), looks := false }, kinds := [], alts := [], laidByText := true, laidKinds := [.data, .pinned], laidTests := true, laidLooks := .later }
def TrialsShardsAreEvenCardSaid : Prop := Claim7.holds Tryd.pinned (.plain (OpenSpec.ofChange trialsShardsAreEvenSpec)) trialsShardsAreEvenCard

/-- THE TIED CARD OF 'smithyardlaw10.TrialsShardsMatchSpec'. -/
def trialsShardsMatchSpecCard : Claim7 := { stood := { row := trialsShardsMatchSpecRow, standIns := [], harness := (true, "27fe05cb58ef93197ccedae46a94ec3a7662a26c50e2bb6f6af894070ddcf0f8"), looks := false }, kinds := [], alts := [], laidByText := true, laidKinds := [.data, .pinned], laidTests := true, laidLooks := .later }
def TrialsShardsMatchSpecCardSaid : Prop := Claim7.holds Tryd.pinned (.plain (OpenSpec.ofChange trialsShardsMatchSpecSpec)) trialsShardsMatchSpecCard

/-- THE SECOND FORM's CARD OF 'smithyardlaw10.TrialsShardsAreEven'. -/
def trialsShardsAreEvenUptoCard : Claim7 := { stood := { row := trialsShardsAreEvenUptoRow, standIns := [], harness := (true, "27fe05cb58ef93197ccedae46a94ec3a7662a26c50e2bb6f6af894070ddcf0f8"), looks := false }, kinds := [], alts := [], laidByText := true, laidKinds := [.data, .pinned], laidTests := true, laidLooks := .later }
def TrialsShardsAreEvenUptoCardSaid : Prop := Claim7.holds Tryd.pinned (.plain (OpenSpec.upto trialsShardsAreEvenSpec)) trialsShardsAreEvenUptoCard

/-- THE SECOND FORM's CARD OF 'smithyardlaw10.TrialsShardsMatchSpec'. -/
def trialsShardsMatchSpecUptoCard : Claim7 := { stood := { row := trialsShardsMatchSpecUptoRow, standIns := [], harness := (true, "27fe05cb58ef93197ccedae46a94ec3a7662a26c50e2bb6f6af894070ddcf0f8"), looks := false }, kinds := [], alts := [], laidByText := true, laidKinds := [.data, .pinned], laidTests := true, laidLooks := .later }
def TrialsShardsMatchSpecUptoCardSaid : Prop := Claim7.holds Tryd.pinned (.plain (OpenSpec.upto trialsShardsMatchSpecSpec)) trialsShardsMatchSpecUptoCard
end Rows
end Go.Proofs.YtpcgfodiikljdaaDoor
