/-
  DERIVED. GIVEN WITH THE SEED: THE CARDS: each row of YtikmbkojnfmiaaaGreatDoorRRRRRows.lean that lists a variable, with what it lists TIED to the program's text (the seventh form; the later family's looks); each row that meets fmt, with fmt's text TOLD by the authors' own Lean function (tested against real Go, not proved from fmt's source: count such statements apart). THE CARD IS WHAT COUNTS. Prove the row's statement (the work); the ties are given (YtikmbkojnfmiaaaGreatDoorRRRRTie.lean); close each card by the builder's one call (the guide's Derived/Test/ToyasCard.lean, 'card_holds'). Laid BY PROGRAM, IN A SANDBOX (cutbox-door.mjs). By AI agents, Wed Nov 11 2026. No macro, syntax, notation, axiom, sorry.
-/
import Derived.Test.YtikmbkojnfmiaaaGreatDoorRRRRRows
import GoSem.ClaimSeven
namespace Go.Proofs.YtikmbkojnfmiaaaGreatDoorRRRR
namespace Rows

/-- THE TIED CARD OF 'midstreamlaw17.StartChecks'. -/
def startChecksCard : Claim7 := { stood := { row := startChecksRow, standIns := [], harness := (true, "aca58c9c981236019ccc53346f3a8620cef14d31aeb83c8c9341f1b97a08fd1e"), looks := false }, kinds := [], alts := [], laidByText := true, laidKinds := [.data], laidTests := true, laidLooks := .later }
def StartChecksCardSaid : Prop := Claim7.holds Tryz.pinned (.plain (OpenSpec.ofChange startChecksSpec)) startChecksCard

/-- THE SECOND FORM's CARD OF 'midstreamlaw17.StartChecks'. -/
def startChecksUptoCard : Claim7 := { stood := { row := startChecksUptoRow, standIns := [], harness := (true, "aca58c9c981236019ccc53346f3a8620cef14d31aeb83c8c9341f1b97a08fd1e"), looks := false }, kinds := [], alts := [], laidByText := true, laidKinds := [.data], laidTests := true, laidLooks := .later }
def StartChecksUptoCardSaid : Prop := Claim7.holds Tryz.pinned (.plain (OpenSpec.upto startChecksSpec)) startChecksUptoCard
end Rows
end Go.Proofs.YtikmbkojnfmiaaaGreatDoorRRRR
