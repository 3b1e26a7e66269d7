/-
  DERIVED. GIVEN WITH THE SEED: THE CARDS: each row of YtikmbkojnfmiaaaDoorRRRRRows.lean that lists a variable, with what it lists TIED to the program's text (the seventh form; the later family's looks); each row that meets fmt, with fmt's text TOLD by the authors' own Lean function (tested against real Go, not proved from fmt's source: count such statements apart). THE CARD IS WHAT COUNTS. Prove the row's statement (the work); the ties are given (YtikmbkojnfmiaaaDoorRRRRTie.lean); close each card by the builder's one call (the guide's Derived/Test/ToyasCard.lean, 'card_holds'). Laid BY PROGRAM, IN A SANDBOX (cutbox-door.mjs). By AI agents, Wed Nov 11 2026. No macro, syntax, notation, axiom, sorry.
-/
import Derived.Test.YtikmbkojnfmiaaaDoorRRRRRows
import GoSem.ClaimSeven
namespace Go.Proofs.YtikmbkojnfmiaaaDoorRRRR
namespace Rows

/-- THE TIED CARD OF 'midstreamlaw17.StartFixed'. -/
def startFixedCard : Claim7 := { stood := { row := startFixedRow, standIns := [], harness := (true, "62aaf9c7d914ab4ba564ab799f2de877cb4e29656f9d7144f898d1e300874338"), looks := false }, kinds := [], alts := [], laidByText := true, laidKinds := [.data], laidTests := true, laidLooks := .later }
def StartFixedCardSaid : Prop := Claim7.holds Tryd.pinned (.plain (OpenSpec.ofChange startFixedSpec)) startFixedCard

/-- THE TIED CARD OF 'midstreamlaw17.StartReaches'. -/
def startReachesCard : Claim7 := { stood := { row := startReachesRow, standIns := [], harness := (true, "62aaf9c7d914ab4ba564ab799f2de877cb4e29656f9d7144f898d1e300874338"), looks := false }, kinds := [], alts := [], laidByText := true, laidKinds := [.data], laidTests := true, laidLooks := .later }
def StartReachesCardSaid : Prop := Claim7.holds Tryd.pinned (.plain (OpenSpec.ofChange startReachesSpec)) startReachesCard

/-- THE TIED CARD OF 'midstreamlaw17.StartOuts'. -/
def startOutsCard : Claim7 := { stood := { row := startOutsRow, standIns := [], harness := (true, "62aaf9c7d914ab4ba564ab799f2de877cb4e29656f9d7144f898d1e300874338"), looks := false }, kinds := [], alts := [], laidByText := true, laidKinds := [.data], laidTests := true, laidLooks := .later }
def StartOutsCardSaid : Prop := Claim7.holds Tryd.pinned (.plain (OpenSpec.ofChange startOutsSpec)) startOutsCard

/-- THE SECOND FORM's CARD OF 'midstreamlaw17.StartFixed'. -/
def startFixedUptoCard : Claim7 := { stood := { row := startFixedUptoRow, standIns := [], harness := (true, "62aaf9c7d914ab4ba564ab799f2de877cb4e29656f9d7144f898d1e300874338"), looks := false }, kinds := [], alts := [], laidByText := true, laidKinds := [.data], laidTests := true, laidLooks := .later }
def StartFixedUptoCardSaid : Prop := Claim7.holds Tryd.pinned (.plain (OpenSpec.upto startFixedSpec)) startFixedUptoCard

/-- THE SECOND FORM's CARD OF 'midstreamlaw17.StartReaches'. -/
def startReachesUptoCard : Claim7 := { stood := { row := startReachesUptoRow, standIns := [], harness := (true, "62aaf9c7d914ab4ba564ab799f2de877cb4e29656f9d7144f898d1e300874338"), looks := false }, kinds := [], alts := [], laidByText := true, laidKinds := [.data], laidTests := true, laidLooks := .later }
def StartReachesUptoCardSaid : Prop := Claim7.holds Tryd.pinned (.plain (OpenSpec.upto startReachesSpec)) startReachesUptoCard

/-- THE SECOND FORM's CARD OF 'midstreamlaw17.StartOuts'. -/
def startOutsUptoCard : Claim7 := { stood := { row := startOutsUptoRow, standIns := [], harness := (true, "62aaf9c7d914ab4ba564ab799f2de877cb4e29656f9d7144f898d1e300874338"), looks := false }, kinds := [], alts := [], laidByText := true, laidKinds := [.data], laidTests := true, laidLooks := .later }
def StartOutsUptoCardSaid : Prop := Claim7.holds Tryd.pinned (.plain (OpenSpec.upto startOutsSpec)) startOutsUptoCard
end Rows
end Go.Proofs.YtikmbkojnfmiaaaDoorRRRR
