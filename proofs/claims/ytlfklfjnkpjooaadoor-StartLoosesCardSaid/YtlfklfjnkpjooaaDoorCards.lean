/-
  DERIVED. GIVEN WITH THE SEED: THE CARDS: each row of YtlfklfjnkpjooaaDoorRows.lean that lists a variable, with what it lists TIED to the program's text (the seventh form; the later family's looks); each row that meets fmt, with fmt's text TOLD by the authors' own Lean function (tested against real Go, not proved from fmt's source: count such statements apart). THE CARD IS WHAT COUNTS. Prove the row's statement (the work); the ties are given (YtlfklfjnkpjooaaDoorTie.lean); close each card by the builder's one call (the guide's Derived/Test/ToyasCard.lean, 'card_holds'). Laid BY PROGRAM, IN A SANDBOX (cutbox-door.mjs). By AI agents, Wed Nov 11 2026. No macro, syntax, notation, axiom, sorry.
-/
import Derived.Test.YtlfklfjnkpjooaaDoorRows
import GoSem.ClaimSeven
namespace Go.Proofs.YtlfklfjnkpjooaaDoor
namespace Rows

/-- THE TIED CARD OF 'midstreamlaw15.ClocksChecks'. -/
def clocksChecksCard : Claim7 := { stood := { row := clocksChecksRow, standIns := [], harness := (true, "1a4aa1955502b4c366706bb8c69c1fc9ed2efc05599698d005e6abbf01f52501"), looks := false }, kinds := [], alts := [], laidByText := true, laidKinds := [.data], laidTests := true, laidLooks := .later }
def ClocksChecksCardSaid : Prop := Claim7.holds Tryd.pinned (.plain (OpenSpec.ofChange clocksChecksSpec)) clocksChecksCard

/-- THE TIED CARD OF 'midstreamlaw15.ClocksOnly'. -/
def clocksOnlyCard : Claim7 := { stood := { row := clocksOnlyRow, standIns := [], harness := (true, "1a4aa1955502b4c366706bb8c69c1fc9ed2efc05599698d005e6abbf01f52501"), looks := false }, kinds := [], alts := [], laidByText := true, laidKinds := [.data], laidTests := true, laidLooks := .later }
def ClocksOnlyCardSaid : Prop := Claim7.holds Tryd.pinned (.plain (OpenSpec.ofChange clocksOnlySpec)) clocksOnlyCard

/-- THE TIED CARD OF 'midstreamlaw15.ClocksParts'. -/
def clocksPartsCard : Claim7 := { stood := { row := clocksPartsRow, standIns := [], harness := (true, "1a4aa1955502b4c366706bb8c69c1fc9ed2efc05599698d005e6abbf01f52501"), looks := false }, kinds := [], alts := [], laidByText := true, laidKinds := [.data], laidTests := true, laidLooks := .later }
def ClocksPartsCardSaid : Prop := Claim7.holds Tryd.pinned (.plain (OpenSpec.ofChange clocksPartsSpec)) clocksPartsCard

/-- THE TIED CARD OF 'midstreamlaw15.ClocksMore'. -/
def clocksMoreCard : Claim7 := { stood := { row := clocksMoreRow, standIns := [], harness := (true, "1a4aa1955502b4c366706bb8c69c1fc9ed2efc05599698d005e6abbf01f52501"), looks := false }, kinds := [], alts := [], laidByText := true, laidKinds := [.data], laidTests := true, laidLooks := .later }
def ClocksMoreCardSaid : Prop := Claim7.holds Tryd.pinned (.plain (OpenSpec.ofChange clocksMoreSpec)) clocksMoreCard

/-- THE TIED CARD OF 'midstreamlaw16.OrderNeeds'. -/
def orderNeedsCard : Claim7 := { stood := { row := orderNeedsRow, standIns := [], harness := (true, "1a4aa1955502b4c366706bb8c69c1fc9ed2efc05599698d005e6abbf01f52501"), looks := false }, kinds := [], alts := [], laidByText := true, laidKinds := [.data], laidTests := true, laidLooks := .later }
def OrderNeedsCardSaid : Prop := Claim7.holds Tryd.pinned (.plain (OpenSpec.ofChange orderNeedsSpec)) orderNeedsCard

/-- THE TIED CARD OF 'midstreamlaw16.OrderOrders'. -/
def orderOrdersCard : Claim7 := { stood := { row := orderOrdersRow, standIns := [], harness := (true, "1a4aa1955502b4c366706bb8c69c1fc9ed2efc05599698d005e6abbf01f52501"), looks := false }, kinds := [], alts := [], laidByText := true, laidKinds := [.data], laidTests := true, laidLooks := .later }
def OrderOrdersCardSaid : Prop := Claim7.holds Tryd.pinned (.plain (OpenSpec.ofChange orderOrdersSpec)) orderOrdersCard

/-- THE TIED CARD OF 'midstreamlaw16.OrderSound'. -/
def orderSoundCard : Claim7 := { stood := { row := orderSoundRow, standIns := [], harness := (true, "1a4aa1955502b4c366706bb8c69c1fc9ed2efc05599698d005e6abbf01f52501"), looks := false }, kinds := [], alts := [], laidByText := true, laidKinds := [.data], laidTests := true, laidLooks := .later }
def OrderSoundCardSaid : Prop := Claim7.holds Tryd.pinned (.plain (OpenSpec.ofChange orderSoundSpec)) orderSoundCard

/-- THE TIED CARD OF 'midstreamlaw16.OrderCycles'. -/
def orderCyclesCard : Claim7 := { stood := { row := orderCyclesRow, standIns := [], harness := (true, "1a4aa1955502b4c366706bb8c69c1fc9ed2efc05599698d005e6abbf01f52501"), looks := false }, kinds := [], alts := [], laidByText := true, laidKinds := [.data], laidTests := true, laidLooks := .later }
def OrderCyclesCardSaid : Prop := Claim7.holds Tryd.pinned (.plain (OpenSpec.ofChange orderCyclesSpec)) orderCyclesCard

/-- THE TIED CARD OF 'midstreamlaw17.StartLooses'. -/
def startLoosesCard : Claim7 := { stood := { row := startLoosesRow, standIns := [], harness := (true, "1a4aa1955502b4c366706bb8c69c1fc9ed2efc05599698d005e6abbf01f52501"), looks := false }, kinds := [], alts := [], laidByText := true, laidKinds := [.data], laidTests := true, laidLooks := .later }
def StartLoosesCardSaid : Prop := Claim7.holds Tryd.pinned (.plain (OpenSpec.ofChange startLoosesSpec)) startLoosesCard

/-- THE SECOND FORM's CARD OF 'midstreamlaw15.ClocksChecks'. -/
def clocksChecksUptoCard : Claim7 := { stood := { row := clocksChecksUptoRow, standIns := [], harness := (true, "1a4aa1955502b4c366706bb8c69c1fc9ed2efc05599698d005e6abbf01f52501"), looks := false }, kinds := [], alts := [], laidByText := true, laidKinds := [.data], laidTests := true, laidLooks := .later }
def ClocksChecksUptoCardSaid : Prop := Claim7.holds Tryd.pinned (.plain (OpenSpec.upto clocksChecksSpec)) clocksChecksUptoCard

/-- THE SECOND FORM's CARD OF 'midstreamlaw15.ClocksOnly'. -/
def clocksOnlyUptoCard : Claim7 := { stood := { row := clocksOnlyUptoRow, standIns := [], harness := (true, "1a4aa1955502b4c366706bb8c69c1fc9ed2efc05599698d005e6abbf01f52501"), looks := false }, kinds := [], alts := [], laidByText := true, laidKinds := [.data], laidTests := true, laidLooks := .later }
def ClocksOnlyUptoCardSaid : Prop := Claim7.holds Tryd.pinned (.plain (OpenSpec.upto clocksOnlySpec)) clocksOnlyUptoCard

/-- THE SECOND FORM's CARD OF 'midstreamlaw15.ClocksParts'. -/
def clocksPartsUptoCard : Claim7 := { stood := { row := clocksPartsUptoRow, standIns := [], harness := (true, "1a4aa1955502b4c366706bb8c69c1fc9ed2efc05599698d005e6abbf01f52501"), looks := false }, kinds := [], alts := [], laidByText := true, laidKinds := [.data], laidTests := true, laidLooks := .later }
def ClocksPartsUptoCardSaid : Prop := Claim7.holds Tryd.pinned (.plain (OpenSpec.upto clocksPartsSpec)) clocksPartsUptoCard

/-- THE SECOND FORM's CARD OF 'midstreamlaw15.ClocksMore'. -/
def clocksMoreUptoCard : Claim7 := { stood := { row := clocksMoreUptoRow, standIns := [], harness := (true, "1a4aa1955502b4c366706bb8c69c1fc9ed2efc05599698d005e6abbf01f52501"), looks := false }, kinds := [], alts := [], laidByText := true, laidKinds := [.data], laidTests := true, laidLooks := .later }
def ClocksMoreUptoCardSaid : Prop := Claim7.holds Tryd.pinned (.plain (OpenSpec.upto clocksMoreSpec)) clocksMoreUptoCard

/-- THE SECOND FORM's CARD OF 'midstreamlaw16.OrderNeeds'. -/
def orderNeedsUptoCard : Claim7 := { stood := { row := orderNeedsUptoRow, standIns := [], harness := (true, "1a4aa1955502b4c366706bb8c69c1fc9ed2efc05599698d005e6abbf01f52501"), looks := false }, kinds := [], alts := [], laidByText := true, laidKinds := [.data], laidTests := true, laidLooks := .later }
def OrderNeedsUptoCardSaid : Prop := Claim7.holds Tryd.pinned (.plain (OpenSpec.upto orderNeedsSpec)) orderNeedsUptoCard

/-- THE SECOND FORM's CARD OF 'midstreamlaw16.OrderOrders'. -/
def orderOrdersUptoCard : Claim7 := { stood := { row := orderOrdersUptoRow, standIns := [], harness := (true, "1a4aa1955502b4c366706bb8c69c1fc9ed2efc05599698d005e6abbf01f52501"), looks := false }, kinds := [], alts := [], laidByText := true, laidKinds := [.data], laidTests := true, laidLooks := .later }
def OrderOrdersUptoCardSaid : Prop := Claim7.holds Tryd.pinned (.plain (OpenSpec.upto orderOrdersSpec)) orderOrdersUptoCard

/-- THE SECOND FORM's CARD OF 'midstreamlaw16.OrderSound'. -/
def orderSoundUptoCard : Claim7 := { stood := { row := orderSoundUptoRow, standIns := [], harness := (true, "1a4aa1955502b4c366706bb8c69c1fc9ed2efc05599698d005e6abbf01f52501"), looks := false }, kinds := [], alts := [], laidByText := true, laidKinds := [.data], laidTests := true, laidLooks := .later }
def OrderSoundUptoCardSaid : Prop := Claim7.holds Tryd.pinned (.plain (OpenSpec.upto orderSoundSpec)) orderSoundUptoCard

/-- THE SECOND FORM's CARD OF 'midstreamlaw16.OrderCycles'. -/
def orderCyclesUptoCard : Claim7 := { stood := { row := orderCyclesUptoRow, standIns := [], harness := (true, "1a4aa1955502b4c366706bb8c69c1fc9ed2efc05599698d005e6abbf01f52501"), looks := false }, kinds := [], alts := [], laidByText := true, laidKinds := [.data], laidTests := true, laidLooks := .later }
def OrderCyclesUptoCardSaid : Prop := Claim7.holds Tryd.pinned (.plain (OpenSpec.upto orderCyclesSpec)) orderCyclesUptoCard

/-- THE SECOND FORM's CARD OF 'midstreamlaw17.StartLooses'. -/
def startLoosesUptoCard : Claim7 := { stood := { row := startLoosesUptoRow, standIns := [], harness := (true, "1a4aa1955502b4c366706bb8c69c1fc9ed2efc05599698d005e6abbf01f52501"), looks := false }, kinds := [], alts := [], laidByText := true, laidKinds := [.data], laidTests := true, laidLooks := .later }
def StartLoosesUptoCardSaid : Prop := Claim7.holds Tryd.pinned (.plain (OpenSpec.upto startLoosesSpec)) startLoosesUptoCard
end Rows
end Go.Proofs.YtlfklfjnkpjooaaDoor
