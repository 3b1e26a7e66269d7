/-
  DERIVED. GIVEN WITH THE SEED: THE CARDS: each row of YtknfcamdfdfoeaaDoorRows.lean that lists a variable, with what it lists TIED to the program's text (the seventh form; the later family's looks); each row that meets fmt, with fmt's text TOLD by the authors' own Lean function (tested against real Go, not proved from fmt's source: count such statements apart). THE CARD IS WHAT COUNTS. Prove the row's statement (the work); the ties are given (YtknfcamdfdfoeaaDoorTie.lean); close each card by the builder's one call (the guide's Derived/Test/ToyasCard.lean, 'card_holds'). Laid BY PROGRAM, IN A SANDBOX (cutbox-door.mjs). By AI agents, Wed Nov 11 2026. No macro, syntax, notation, axiom, sorry.
-/
import Derived.Test.YtknfcamdfdfoeaaDoorRows
import GoSem.ClaimSeven
namespace Go.Proofs.YtknfcamdfdfoeaaDoor
namespace Rows

/-- THE TIED CARD OF 'midstreamlaw19.GenAccepted'. -/
def genAcceptedCard : Claim7 := { stood := { row := genAcceptedRow, standIns := [], harness := (true, "4037fa10343642c526a17cbefae83ae30c91b837104173290c39797aa97bb166"), looks := false }, kinds := [], alts := [], laidByText := true, laidKinds := [.data], laidTests := true, laidLooks := .later }
def GenAcceptedCardSaid : Prop := Claim7.holds Tryd.pinned (.plain (OpenSpec.ofChange genAcceptedSpec)) genAcceptedCard

/-- THE SECOND FORM's CARD OF 'midstreamlaw19.GenAccepted'. -/
def genAcceptedUptoCard : Claim7 := { stood := { row := genAcceptedUptoRow, standIns := [], harness := (true, "4037fa10343642c526a17cbefae83ae30c91b837104173290c39797aa97bb166"), looks := false }, kinds := [], alts := [], laidByText := true, laidKinds := [.data], laidTests := true, laidLooks := .later }
def GenAcceptedUptoCardSaid : Prop := Claim7.holds Tryd.pinned (.plain (OpenSpec.upto genAcceptedSpec)) genAcceptedUptoCard
end Rows
end Go.Proofs.YtknfcamdfdfoeaaDoor
