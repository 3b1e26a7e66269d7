/-
  DERIVED. GIVEN WITH THE SEED: THE CARDS: each row of YtdgjplldlfeolaaGreatDoorRows.lean that lists a variable, with what it lists TIED to the program's text (the seventh form; the later family's looks); each row that meets fmt, with fmt's text TOLD by the authors' own Lean function (tested against real Go, not proved from fmt's source: count such statements apart). THE CARD IS WHAT COUNTS. Prove the row's statement (the work); the ties are given (YtdgjplldlfeolaaGreatDoorTie.lean); close each card by the builder's one call (the guide's Derived/Test/ToyasCard.lean, 'card_holds'). Laid BY PROGRAM, IN A SANDBOX (cutbox-door.mjs). By AI agents, Wed Nov 11 2026. No macro, syntax, notation, axiom, sorry.
-/
import Derived.Test.YtdgjplldlfeolaaGreatDoorRows
import GoSem.ClaimSeven
namespace Go.Proofs.YtdgjplldlfeolaaGreatDoor
namespace Rows

/-- THE TIED CARD OF 'midstreamlaw21.BuildAgain'. -/
def buildAgainCard : Claim7 := { stood := { row := buildAgainRow, standIns := [], harness := (true, "229378d965bbf707c991f95f4673a0715bd3613338fdbd8d6aeb5f452b04f0c2"), looks := false }, kinds := [], alts := [], laidByText := true, laidKinds := [.data], laidTests := true, laidLooks := .later }
def BuildAgainCardSaid : Prop := Claim7.holds Tryz.pinned (.plain (OpenSpec.ofChange buildAgainSpec)) buildAgainCard

/-- THE TIED CARD OF 'midstreamlaw21.BuildTells'. -/
def buildTellsCard : Claim7 := { stood := { row := buildTellsRow, standIns := [], harness := (true, "229378d965bbf707c991f95f4673a0715bd3613338fdbd8d6aeb5f452b04f0c2"), looks := false }, kinds := [], alts := [], laidByText := true, laidKinds := [.data], laidTests := true, laidLooks := .later }
def BuildTellsCardSaid : Prop := Claim7.holds Tryz.pinned (.plain (OpenSpec.ofChange buildTellsSpec)) buildTellsCard

/-- THE SECOND FORM's CARD OF 'midstreamlaw21.BuildAgain'. -/
def buildAgainUptoCard : Claim7 := { stood := { row := buildAgainUptoRow, standIns := [], harness := (true, "229378d965bbf707c991f95f4673a0715bd3613338fdbd8d6aeb5f452b04f0c2"), looks := false }, kinds := [], alts := [], laidByText := true, laidKinds := [.data], laidTests := true, laidLooks := .later }
def BuildAgainUptoCardSaid : Prop := Claim7.holds Tryz.pinned (.plain (OpenSpec.upto buildAgainSpec)) buildAgainUptoCard

/-- THE SECOND FORM's CARD OF 'midstreamlaw21.BuildTells'. -/
def buildTellsUptoCard : Claim7 := { stood := { row := buildTellsUptoRow, standIns := [], harness := (true, "229378d965bbf707c991f95f4673a0715bd3613338fdbd8d6aeb5f452b04f0c2"), looks := false }, kinds := [], alts := [], laidByText := true, laidKinds := [.data], laidTests := true, laidLooks := .later }
def BuildTellsUptoCardSaid : Prop := Claim7.holds Tryz.pinned (.plain (OpenSpec.upto buildTellsSpec)) buildTellsUptoCard
end Rows
end Go.Proofs.YtdgjplldlfeolaaGreatDoor
