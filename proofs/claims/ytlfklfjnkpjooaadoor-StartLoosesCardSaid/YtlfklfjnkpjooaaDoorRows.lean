/-
  NARROWER THAN 'FOR EVERY INPUT', by the rows' own cells (each row's printed sentence says how): ClocksChecks: loops, laid · ClocksOnly: loops, laid · ClocksParts: loops, laid · ClocksMore: loops, laid · OrderNeeds: loops, laid · OrderOrders: loops, laid · OrderSound: loops, laid · OrderCycles: loops, laid · StartLooses: loops, laid.
  DERIVED. THE GIVEN ROWS OF THIS SEAT. 9 by the template 'for every input the law returns true; each argument reads behind the call as it read before'; 0 by the template 'total and deterministic' (their statements: YtlfklfjnkpjooaaDoorTotals.lean).
  GIVEN WITH THE SEED: the statements are not yours to turn. If you find one false, say at which input.
  Laid BY PROGRAM, IN A SANDBOX (cutbox-rows.mjs): the forced cells as the released guide's own fill.sh prints them over the translation d7dbf92c36e1c25e… (all of the seat's roots in one cut). By AI agents, Wed Nov 11 2026. No macro, syntax, notation, axiom, sorry.
-/
import Derived.Test.YtlfklfjnkpjooaaDoorChecked
import GoSem.Claim
import GoSem.ClaimJoined
import GoSem.ClaimMapViews
import Derived.JoinedTies
import Derived.KernelRfl
namespace Go.Proofs.YtlfklfjnkpjooaaDoor
/- THE CELL 'sum', in the pinned program and in every row, IS THE sha256 OF THE DUMP (.gsa) THAT YtlfklfjnkpjooaaDoorProg.lean LOADS. Nothing in Lean hashes anything: it is a label: what it is worth is what the hold of that sum in a sandbox is worth. -/
noncomputable def Tryd.pinned : Pinned := { name := "ytlfklfjnkpjooaadoor", sum := "d7dbf92c36e1c25ee8d073765ff8a863c3d411033ed9d675579105a154c0236d", checked := Tryd.checked }
namespace Rows
def none {H : Type} : Left H := { results := [], args := [] }

/- WHAT THE LISTED PACKAGE-LEVEL VARIABLES READ AS WHEN THE CALL BEGINS. Each datum BY PROGRAM (the guide's laid-datum.mjs) off the statement by which the dump's own 'gosem.cut.vars' lays the variable. In a bare row this is a premise. The card (YtlfklfjnkpjooaaDoorCards.lean) ties it to the program's text. -/
def laid_midstream_clocks_always {H : Type} : DataW H := .agg [.lit (.int .i64 0), .lit (.string [])]

/-- 'midstreamlaw15.ClocksChecks': WHATEVER THE INPUT: true; the input reads as it did. -/
def clocksChecksSpec : ChangeSpec := { name := "clocksChecks", fn := fun _ => fun
  | [d] => { results := [.lit (.bool true)], args := [d] }
  | _ => none }
def clocksChecksRow : OpenClaim := { program := "ytlfklfjnkpjooaadoor", sum := "d7dbf92c36e1c25ee8d073765ff8a863c3d411033ed9d675579105a154c0236d", func := "midstream/midstreamlaw15.ClocksChecks", spec := "clocksChecks", unfollowed := true, recurses := true, named := ["midstream/clocks.always"], loops := true, apart := false, laid := [("midstream/clocks.always", laid_midstream_clocks_always)] }
def ClocksChecksSaid : Prop := clocksChecksRow.holds Tryd.pinned (OpenSpec.ofChange clocksChecksSpec)

/-- ITS FALSE NEIGHBOUR: 'it returns false'. Refute it at one input. -/
def clocksChecksWrong : ChangeSpec := { name := "clocksChecks", fn := fun _ => fun
  | [d] => { results := [.lit (.bool false)], args := [d] }
  | _ => none }
def ClocksChecksWrongFalsely : Prop := clocksChecksRow.holds Tryd.pinned (OpenSpec.ofChange clocksChecksWrong)

/-- 'midstreamlaw15.ClocksOnly': WHATEVER THE INPUT: true; the input reads as it did. -/
def clocksOnlySpec : ChangeSpec := { name := "clocksOnly", fn := fun _ => fun
  | [d1, d2, d3] => { results := [.lit (.bool true)], args := [d1, d2, d3] }
  | _ => none }
def clocksOnlyRow : OpenClaim := { program := "ytlfklfjnkpjooaadoor", sum := "d7dbf92c36e1c25ee8d073765ff8a863c3d411033ed9d675579105a154c0236d", func := "midstream/midstreamlaw15.ClocksOnly", spec := "clocksOnly", unfollowed := true, recurses := true, named := ["midstream/clocks.always"], loops := true, apart := false, laid := [("midstream/clocks.always", laid_midstream_clocks_always)] }
def ClocksOnlySaid : Prop := clocksOnlyRow.holds Tryd.pinned (OpenSpec.ofChange clocksOnlySpec)

/-- ITS FALSE NEIGHBOUR: 'it returns false'. Refute it at one input. -/
def clocksOnlyWrong : ChangeSpec := { name := "clocksOnly", fn := fun _ => fun
  | [d1, d2, d3] => { results := [.lit (.bool false)], args := [d1, d2, d3] }
  | _ => none }
def ClocksOnlyWrongFalsely : Prop := clocksOnlyRow.holds Tryd.pinned (OpenSpec.ofChange clocksOnlyWrong)

/-- 'midstreamlaw15.ClocksParts': WHATEVER THE INPUT: true; the input reads as it did. -/
def clocksPartsSpec : ChangeSpec := { name := "clocksParts", fn := fun _ => fun
  | [d1, d2, d3] => { results := [.lit (.bool true)], args := [d1, d2, d3] }
  | _ => none }
def clocksPartsRow : OpenClaim := { program := "ytlfklfjnkpjooaadoor", sum := "d7dbf92c36e1c25ee8d073765ff8a863c3d411033ed9d675579105a154c0236d", func := "midstream/midstreamlaw15.ClocksParts", spec := "clocksParts", unfollowed := true, recurses := true, named := ["midstream/clocks.always"], loops := true, apart := false, laid := [("midstream/clocks.always", laid_midstream_clocks_always)] }
def ClocksPartsSaid : Prop := clocksPartsRow.holds Tryd.pinned (OpenSpec.ofChange clocksPartsSpec)

/-- ITS FALSE NEIGHBOUR: 'it returns false'. Refute it at one input. -/
def clocksPartsWrong : ChangeSpec := { name := "clocksParts", fn := fun _ => fun
  | [d1, d2, d3] => { results := [.lit (.bool false)], args := [d1, d2, d3] }
  | _ => none }
def ClocksPartsWrongFalsely : Prop := clocksPartsRow.holds Tryd.pinned (OpenSpec.ofChange clocksPartsWrong)

/-- 'midstreamlaw15.ClocksMore': WHATEVER THE INPUT: true; the input reads as it did. -/
def clocksMoreSpec : ChangeSpec := { name := "clocksMore", fn := fun _ => fun
  | [d1, d2, d3] => { results := [.lit (.bool true)], args := [d1, d2, d3] }
  | _ => none }
def clocksMoreRow : OpenClaim := { program := "ytlfklfjnkpjooaadoor", sum := "d7dbf92c36e1c25ee8d073765ff8a863c3d411033ed9d675579105a154c0236d", func := "midstream/midstreamlaw15.ClocksMore", spec := "clocksMore", unfollowed := true, recurses := true, named := ["midstream/clocks.always"], loops := true, apart := false, laid := [("midstream/clocks.always", laid_midstream_clocks_always)] }
def ClocksMoreSaid : Prop := clocksMoreRow.holds Tryd.pinned (OpenSpec.ofChange clocksMoreSpec)

/-- ITS FALSE NEIGHBOUR: 'it returns false'. Refute it at one input. -/
def clocksMoreWrong : ChangeSpec := { name := "clocksMore", fn := fun _ => fun
  | [d1, d2, d3] => { results := [.lit (.bool false)], args := [d1, d2, d3] }
  | _ => none }
def ClocksMoreWrongFalsely : Prop := clocksMoreRow.holds Tryd.pinned (OpenSpec.ofChange clocksMoreWrong)

/-- 'midstreamlaw16.OrderNeeds': WHATEVER THE INPUT: true; the input reads as it did. -/
def orderNeedsSpec : ChangeSpec := { name := "orderNeeds", fn := fun _ => fun
  | [d] => { results := [.lit (.bool true)], args := [d] }
  | _ => none }
def orderNeedsRow : OpenClaim := { program := "ytlfklfjnkpjooaadoor", sum := "d7dbf92c36e1c25ee8d073765ff8a863c3d411033ed9d675579105a154c0236d", func := "midstream/midstreamlaw16.OrderNeeds", spec := "orderNeeds", unfollowed := true, recurses := true, named := ["midstream/clocks.always"], loops := true, apart := false, laid := [("midstream/clocks.always", laid_midstream_clocks_always)] }
def OrderNeedsSaid : Prop := orderNeedsRow.holds Tryd.pinned (OpenSpec.ofChange orderNeedsSpec)

/-- ITS FALSE NEIGHBOUR: 'it returns false'. Refute it at one input. -/
def orderNeedsWrong : ChangeSpec := { name := "orderNeeds", fn := fun _ => fun
  | [d] => { results := [.lit (.bool false)], args := [d] }
  | _ => none }
def OrderNeedsWrongFalsely : Prop := orderNeedsRow.holds Tryd.pinned (OpenSpec.ofChange orderNeedsWrong)

/-- 'midstreamlaw16.OrderOrders': WHATEVER THE INPUT: true; the input reads as it did. -/
def orderOrdersSpec : ChangeSpec := { name := "orderOrders", fn := fun _ => fun
  | [d] => { results := [.lit (.bool true)], args := [d] }
  | _ => none }
def orderOrdersRow : OpenClaim := { program := "ytlfklfjnkpjooaadoor", sum := "d7dbf92c36e1c25ee8d073765ff8a863c3d411033ed9d675579105a154c0236d", func := "midstream/midstreamlaw16.OrderOrders", spec := "orderOrders", unfollowed := true, recurses := true, named := ["midstream/clocks.always"], loops := true, apart := false, laid := [("midstream/clocks.always", laid_midstream_clocks_always)] }
def OrderOrdersSaid : Prop := orderOrdersRow.holds Tryd.pinned (OpenSpec.ofChange orderOrdersSpec)

/-- ITS FALSE NEIGHBOUR: 'it returns false'. Refute it at one input. -/
def orderOrdersWrong : ChangeSpec := { name := "orderOrders", fn := fun _ => fun
  | [d] => { results := [.lit (.bool false)], args := [d] }
  | _ => none }
def OrderOrdersWrongFalsely : Prop := orderOrdersRow.holds Tryd.pinned (OpenSpec.ofChange orderOrdersWrong)

/-- 'midstreamlaw16.OrderSound': WHATEVER THE INPUT: true; the input reads as it did. -/
def orderSoundSpec : ChangeSpec := { name := "orderSound", fn := fun _ => fun
  | [d] => { results := [.lit (.bool true)], args := [d] }
  | _ => none }
def orderSoundRow : OpenClaim := { program := "ytlfklfjnkpjooaadoor", sum := "d7dbf92c36e1c25ee8d073765ff8a863c3d411033ed9d675579105a154c0236d", func := "midstream/midstreamlaw16.OrderSound", spec := "orderSound", unfollowed := true, recurses := true, named := ["midstream/clocks.always"], loops := true, apart := false, laid := [("midstream/clocks.always", laid_midstream_clocks_always)] }
def OrderSoundSaid : Prop := orderSoundRow.holds Tryd.pinned (OpenSpec.ofChange orderSoundSpec)

/-- ITS FALSE NEIGHBOUR: 'it returns false'. Refute it at one input. -/
def orderSoundWrong : ChangeSpec := { name := "orderSound", fn := fun _ => fun
  | [d] => { results := [.lit (.bool false)], args := [d] }
  | _ => none }
def OrderSoundWrongFalsely : Prop := orderSoundRow.holds Tryd.pinned (OpenSpec.ofChange orderSoundWrong)

/-- 'midstreamlaw16.OrderCycles': WHATEVER THE INPUT: true; the input reads as it did. -/
def orderCyclesSpec : ChangeSpec := { name := "orderCycles", fn := fun _ => fun
  | [d] => { results := [.lit (.bool true)], args := [d] }
  | _ => none }
def orderCyclesRow : OpenClaim := { program := "ytlfklfjnkpjooaadoor", sum := "d7dbf92c36e1c25ee8d073765ff8a863c3d411033ed9d675579105a154c0236d", func := "midstream/midstreamlaw16.OrderCycles", spec := "orderCycles", unfollowed := true, recurses := true, named := ["midstream/clocks.always"], loops := true, apart := false, laid := [("midstream/clocks.always", laid_midstream_clocks_always)] }
def OrderCyclesSaid : Prop := orderCyclesRow.holds Tryd.pinned (OpenSpec.ofChange orderCyclesSpec)

/-- ITS FALSE NEIGHBOUR: 'it returns false'. Refute it at one input. -/
def orderCyclesWrong : ChangeSpec := { name := "orderCycles", fn := fun _ => fun
  | [d] => { results := [.lit (.bool false)], args := [d] }
  | _ => none }
def OrderCyclesWrongFalsely : Prop := orderCyclesRow.holds Tryd.pinned (OpenSpec.ofChange orderCyclesWrong)

/-- 'midstreamlaw17.StartLooses': WHATEVER THE INPUT: true; the input reads as it did. -/
def startLoosesSpec : ChangeSpec := { name := "startLooses", fn := fun _ => fun
  | [d] => { results := [.lit (.bool true)], args := [d] }
  | _ => none }
def startLoosesRow : OpenClaim := { program := "ytlfklfjnkpjooaadoor", sum := "d7dbf92c36e1c25ee8d073765ff8a863c3d411033ed9d675579105a154c0236d", func := "midstream/midstreamlaw17.StartLooses", spec := "startLooses", unfollowed := true, recurses := true, named := ["midstream/clocks.always"], loops := true, apart := false, laid := [("midstream/clocks.always", laid_midstream_clocks_always)] }
def StartLoosesSaid : Prop := startLoosesRow.holds Tryd.pinned (OpenSpec.ofChange startLoosesSpec)

/-- ITS FALSE NEIGHBOUR: 'it returns false'. Refute it at one input. -/
def startLoosesWrong : ChangeSpec := { name := "startLooses", fn := fun _ => fun
  | [d] => { results := [.lit (.bool false)], args := [d] }
  | _ => none }
def StartLoosesWrongFalsely : Prop := startLoosesRow.holds Tryd.pinned (OpenSpec.ofChange startLoosesWrong)

/- THE SECOND FORM. 'bulk': how many values and letters a reading holds, each counted each time it is reached (what is shared counts as often as it is met; a slice's spare places count too). A statement '..UptoSaid' is the law's where the arguments, and the package variables that the reading takes, are together of bulk at most 1048576: NARROWER than '..Said'. Prove '..Said' where nothing that the law and all that it calls make is longer than what came in: it says more and counts as full. Else prove '..UptoSaid'. A law counts once. -/
mutual
def uptoBulk {H : Type} : DataW H → Nat
  | .lit (.string bytes) => bytes.length + 1
  | .lit _ => 1
  | .nil => 1
  | .ptr d => uptoBulk d + 1
  | .slice elems spare => uptoBulkAll elems + uptoBulkAll spare + 1
  | .agg parts => uptoBulkAll parts + 1
  | .iface _ d => uptoBulk d + 1
  | .map entries => uptoBulkEntries entries + 1
  | .held _ => 1
def uptoBulkAll {H : Type} : List (DataW H) → Nat
  | [] => 0
  | d :: r => uptoBulk d + uptoBulkAll r
def uptoBulkEntries {H : Type} : List (Lit × DataW H) → Nat
  | [] => 0
  | x :: r => uptoBulkEntry x + uptoBulkEntries r
def uptoBulkEntry {H : Type} : Lit × DataW H → Nat
  | (.string bytes, d) => bytes.length + uptoBulk d + 1
  | (_, d) => uptoBulk d + 1
 end
def uptoSmall : (H : Type) → List (DataW H) → Bool := fun _ ds => decide (uptoBulkAll ds ≤ 1048576)
def OpenSpec.upto (s : _root_.Go.ChangeSpec) : _root_.Go.OpenSpec := { _root_.Go.OpenSpec.ofChange s with cond := some uptoSmall }

/-- 'midstreamlaw15.ClocksChecks', WHERE WHAT IT READS IS OF BULK AT MOST 1048576: true; the input reads as it did. -/
def clocksChecksUptoRow : OpenClaim := { program := "ytlfklfjnkpjooaadoor", sum := "d7dbf92c36e1c25ee8d073765ff8a863c3d411033ed9d675579105a154c0236d", func := "midstream/midstreamlaw15.ClocksChecks", spec := "clocksChecks", unfollowed := true, recurses := true, named := ["midstream/clocks.always"], loops := true, apart := false, laid := [("midstream/clocks.always", laid_midstream_clocks_always)], narrowed := true }
def ClocksChecksUptoSaid : Prop := clocksChecksUptoRow.holds Tryd.pinned (OpenSpec.upto clocksChecksSpec)

/-- 'midstreamlaw15.ClocksOnly', WHERE WHAT IT READS IS OF BULK AT MOST 1048576: true; the input reads as it did. -/
def clocksOnlyUptoRow : OpenClaim := { program := "ytlfklfjnkpjooaadoor", sum := "d7dbf92c36e1c25ee8d073765ff8a863c3d411033ed9d675579105a154c0236d", func := "midstream/midstreamlaw15.ClocksOnly", spec := "clocksOnly", unfollowed := true, recurses := true, named := ["midstream/clocks.always"], loops := true, apart := false, laid := [("midstream/clocks.always", laid_midstream_clocks_always)], narrowed := true }
def ClocksOnlyUptoSaid : Prop := clocksOnlyUptoRow.holds Tryd.pinned (OpenSpec.upto clocksOnlySpec)

/-- 'midstreamlaw15.ClocksParts', WHERE WHAT IT READS IS OF BULK AT MOST 1048576: true; the input reads as it did. -/
def clocksPartsUptoRow : OpenClaim := { program := "ytlfklfjnkpjooaadoor", sum := "d7dbf92c36e1c25ee8d073765ff8a863c3d411033ed9d675579105a154c0236d", func := "midstream/midstreamlaw15.ClocksParts", spec := "clocksParts", unfollowed := true, recurses := true, named := ["midstream/clocks.always"], loops := true, apart := false, laid := [("midstream/clocks.always", laid_midstream_clocks_always)], narrowed := true }
def ClocksPartsUptoSaid : Prop := clocksPartsUptoRow.holds Tryd.pinned (OpenSpec.upto clocksPartsSpec)

/-- 'midstreamlaw15.ClocksMore', WHERE WHAT IT READS IS OF BULK AT MOST 1048576: true; the input reads as it did. -/
def clocksMoreUptoRow : OpenClaim := { program := "ytlfklfjnkpjooaadoor", sum := "d7dbf92c36e1c25ee8d073765ff8a863c3d411033ed9d675579105a154c0236d", func := "midstream/midstreamlaw15.ClocksMore", spec := "clocksMore", unfollowed := true, recurses := true, named := ["midstream/clocks.always"], loops := true, apart := false, laid := [("midstream/clocks.always", laid_midstream_clocks_always)], narrowed := true }
def ClocksMoreUptoSaid : Prop := clocksMoreUptoRow.holds Tryd.pinned (OpenSpec.upto clocksMoreSpec)

/-- 'midstreamlaw16.OrderNeeds', WHERE WHAT IT READS IS OF BULK AT MOST 1048576: true; the input reads as it did. -/
def orderNeedsUptoRow : OpenClaim := { program := "ytlfklfjnkpjooaadoor", sum := "d7dbf92c36e1c25ee8d073765ff8a863c3d411033ed9d675579105a154c0236d", func := "midstream/midstreamlaw16.OrderNeeds", spec := "orderNeeds", unfollowed := true, recurses := true, named := ["midstream/clocks.always"], loops := true, apart := false, laid := [("midstream/clocks.always", laid_midstream_clocks_always)], narrowed := true }
def OrderNeedsUptoSaid : Prop := orderNeedsUptoRow.holds Tryd.pinned (OpenSpec.upto orderNeedsSpec)

/-- 'midstreamlaw16.OrderOrders', WHERE WHAT IT READS IS OF BULK AT MOST 1048576: true; the input reads as it did. -/
def orderOrdersUptoRow : OpenClaim := { program := "ytlfklfjnkpjooaadoor", sum := "d7dbf92c36e1c25ee8d073765ff8a863c3d411033ed9d675579105a154c0236d", func := "midstream/midstreamlaw16.OrderOrders", spec := "orderOrders", unfollowed := true, recurses := true, named := ["midstream/clocks.always"], loops := true, apart := false, laid := [("midstream/clocks.always", laid_midstream_clocks_always)], narrowed := true }
def OrderOrdersUptoSaid : Prop := orderOrdersUptoRow.holds Tryd.pinned (OpenSpec.upto orderOrdersSpec)

/-- 'midstreamlaw16.OrderSound', WHERE WHAT IT READS IS OF BULK AT MOST 1048576: true; the input reads as it did. -/
def orderSoundUptoRow : OpenClaim := { program := "ytlfklfjnkpjooaadoor", sum := "d7dbf92c36e1c25ee8d073765ff8a863c3d411033ed9d675579105a154c0236d", func := "midstream/midstreamlaw16.OrderSound", spec := "orderSound", unfollowed := true, recurses := true, named := ["midstream/clocks.always"], loops := true, apart := false, laid := [("midstream/clocks.always", laid_midstream_clocks_always)], narrowed := true }
def OrderSoundUptoSaid : Prop := orderSoundUptoRow.holds Tryd.pinned (OpenSpec.upto orderSoundSpec)

/-- 'midstreamlaw16.OrderCycles', WHERE WHAT IT READS IS OF BULK AT MOST 1048576: true; the input reads as it did. -/
def orderCyclesUptoRow : OpenClaim := { program := "ytlfklfjnkpjooaadoor", sum := "d7dbf92c36e1c25ee8d073765ff8a863c3d411033ed9d675579105a154c0236d", func := "midstream/midstreamlaw16.OrderCycles", spec := "orderCycles", unfollowed := true, recurses := true, named := ["midstream/clocks.always"], loops := true, apart := false, laid := [("midstream/clocks.always", laid_midstream_clocks_always)], narrowed := true }
def OrderCyclesUptoSaid : Prop := orderCyclesUptoRow.holds Tryd.pinned (OpenSpec.upto orderCyclesSpec)

/-- 'midstreamlaw17.StartLooses', WHERE WHAT IT READS IS OF BULK AT MOST 1048576: true; the input reads as it did. -/
def startLoosesUptoRow : OpenClaim := { program := "ytlfklfjnkpjooaadoor", sum := "d7dbf92c36e1c25ee8d073765ff8a863c3d411033ed9d675579105a154c0236d", func := "midstream/midstreamlaw17.StartLooses", spec := "startLooses", unfollowed := true, recurses := true, named := ["midstream/clocks.always"], loops := true, apart := false, laid := [("midstream/clocks.always", laid_midstream_clocks_always)], narrowed := true }
def StartLoosesUptoSaid : Prop := startLoosesUptoRow.holds Tryd.pinned (OpenSpec.upto startLoosesSpec)

end Rows
end Go.Proofs.YtlfklfjnkpjooaaDoor
