/-
  DERIVED. GIVEN WITH THE SEED: THE CARDS: each row of YtknfcamdfdfoeaaGreatDoorRows.lean that lists a variable, with what it lists TIED to the program's text (the seventh form; the later family's looks); each row that meets fmt, with fmt's text TOLD by the authors' own Lean function (tested against real Go, not proved from fmt's source: count such statements apart). THE CARD IS WHAT COUNTS. Prove the row's statement (the work); the ties are given (YtknfcamdfdfoeaaGreatDoorTie.lean); close each card by the builder's one call (the guide's Derived/Test/ToyasCard.lean, 'card_holds'). Laid BY PROGRAM, IN A SANDBOX (cutbox-door.mjs). By AI agents, Wed Nov 11 2026. No macro, syntax, notation, axiom, sorry.
-/
import Derived.Test.YtknfcamdfdfoeaaGreatDoorRows
import GoSem.ClaimSeven
namespace Go.Proofs.YtknfcamdfdfoeaaGreatDoor
namespace Rows

/-- THE TIED CARD OF 'midstreamlaw19.GenCodes'. -/
def genCodesCard : Claim7 := { stood := { row := genCodesRow, standIns := [], harness := (true, "afddb9b039a209f0d58ab50e0a925992c4a268797867d87617af7fac97b49e59"), looks := false }, kinds := [], alts := [], laidByText := true, laidKinds := [.data], laidTests := true, laidLooks := .later }
def GenCodesCardSaid : Prop := Claim7.holds Tryz.pinned (.plain (OpenSpec.ofChange genCodesSpec)) genCodesCard

/-- THE TIED CARD OF 'midstreamlaw19.GenImages'. -/
def genImagesCard : Claim7 := { stood := { row := genImagesRow, standIns := [], harness := (true, "afddb9b039a209f0d58ab50e0a925992c4a268797867d87617af7fac97b49e59"), looks := false }, kinds := [], alts := [], laidByText := true, laidKinds := [.data], laidTests := true, laidLooks := .later }
def GenImagesCardSaid : Prop := Claim7.holds Tryz.pinned (.plain (OpenSpec.ofChange genImagesSpec)) genImagesCard

/-- THE SECOND FORM's CARD OF 'midstreamlaw19.GenCodes'. -/
def genCodesUptoCard : Claim7 := { stood := { row := genCodesUptoRow, standIns := [], harness := (true, "afddb9b039a209f0d58ab50e0a925992c4a268797867d87617af7fac97b49e59"), looks := false }, kinds := [], alts := [], laidByText := true, laidKinds := [.data], laidTests := true, laidLooks := .later }
def GenCodesUptoCardSaid : Prop := Claim7.holds Tryz.pinned (.plain (OpenSpec.upto genCodesSpec)) genCodesUptoCard

/-- THE SECOND FORM's CARD OF 'midstreamlaw19.GenImages'. -/
def genImagesUptoCard : Claim7 := { stood := { row := genImagesUptoRow, standIns := [], harness := (true, "afddb9b039a209f0d58ab50e0a925992c4a268797867d87617af7fac97b49e59"), looks := false }, kinds := [], alts := [], laidByText := true, laidKinds := [.data], laidTests := true, laidLooks := .later }
def GenImagesUptoCardSaid : Prop := Claim7.holds Tryz.pinned (.plain (OpenSpec.upto genImagesSpec)) genImagesUptoCard
end Rows
end Go.Proofs.YtknfcamdfdfoeaaGreatDoor
