/-
  NARROWER THAN 'FOR EVERY INPUT', by the rows' own cells (each row's printed sentence says how): StartFixed: loops, laid · StartReaches: loops, laid · StartOuts: loops, laid.
  DERIVED. THE GIVEN ROWS OF THIS SEAT. 3 by the template 'for every input the law returns true; each argument reads behind the call as it read before'; 0 by the template 'total and deterministic' (their statements: YtikmbkojnfmiaaaDoorRRRRTotals.lean).
  GIVEN WITH THE SEED: the statements are not yours to turn. If you find one false, say at which input.
  Laid BY PROGRAM, IN A SANDBOX (cutbox-rows.mjs): the forced cells as the released guide's own fill.sh prints them over the translation b5f4d2d06fb633e0… (all of the seat's roots in one cut). By AI agents, Wed Nov 11 2026. No macro, syntax, notation, axiom, sorry.
-/
import Derived.Test.YtikmbkojnfmiaaaDoorRRRRChecked
import GoSem.Claim
import GoSem.ClaimJoined
import GoSem.ClaimMapViews
import Derived.JoinedTies
import Derived.KernelRfl
namespace Go.Proofs.YtikmbkojnfmiaaaDoorRRRR
/- THE CELL 'sum', in the pinned program and in every row, IS THE sha256 OF THE DUMP (.gsa) THAT YtikmbkojnfmiaaaDoorRRRRProg.lean LOADS. Nothing in Lean hashes anything: it is a label: what it is worth is what the hold of that sum in a sandbox is worth. -/
noncomputable def Tryd.pinned : Pinned := { name := "ytikmbkojnfmiaaadoorrrrr", sum := "b5f4d2d06fb633e0037ca528fa4e41b85e2da1808e2094bc089f10aeb7f4c624", checked := Tryd.checked }
namespace Rows
def none {H : Type} : Left H := { results := [], args := [] }

/- WHAT THE LISTED PACKAGE-LEVEL VARIABLES READ AS WHEN THE CALL BEGINS. Each datum BY PROGRAM (the guide's laid-datum.mjs) off the statement by which the dump's own 'gosem.cut.vars' lays the variable. In a bare row this is a premise. The card (YtikmbkojnfmiaaaDoorRRRRCards.lean) ties it to the program's text. -/
def laid_midstream_clocks_always {H : Type} : DataW H := .agg [.lit (.int .i64 0), .lit (.string [])]

/-- 'midstreamlaw17.StartFixed': WHATEVER THE INPUT: true; the input reads as it did. -/
def startFixedSpec : ChangeSpec := { name := "startFixed", fn := fun _ => fun
  | [d] => { results := [.lit (.bool true)], args := [d] }
  | _ => none }
def startFixedRow : OpenClaim := { program := "ytikmbkojnfmiaaadoorrrrr", sum := "b5f4d2d06fb633e0037ca528fa4e41b85e2da1808e2094bc089f10aeb7f4c624", func := "midstream/midstreamlaw17.StartFixed", spec := "startFixed", unfollowed := true, recurses := true, named := ["midstream/clocks.always"], loops := true, apart := false, laid := [("midstream/clocks.always", laid_midstream_clocks_always)] }
def StartFixedSaid : Prop := startFixedRow.holds Tryd.pinned (OpenSpec.ofChange startFixedSpec)

/-- ITS FALSE NEIGHBOUR: 'it returns false'. Refute it at one input. -/
def startFixedWrong : ChangeSpec := { name := "startFixed", fn := fun _ => fun
  | [d] => { results := [.lit (.bool false)], args := [d] }
  | _ => none }
def StartFixedWrongFalsely : Prop := startFixedRow.holds Tryd.pinned (OpenSpec.ofChange startFixedWrong)

/-- 'midstreamlaw17.StartReaches': WHATEVER THE INPUT: true; the input reads as it did. -/
def startReachesSpec : ChangeSpec := { name := "startReaches", fn := fun _ => fun
  | [d] => { results := [.lit (.bool true)], args := [d] }
  | _ => none }
def startReachesRow : OpenClaim := { program := "ytikmbkojnfmiaaadoorrrrr", sum := "b5f4d2d06fb633e0037ca528fa4e41b85e2da1808e2094bc089f10aeb7f4c624", func := "midstream/midstreamlaw17.StartReaches", spec := "startReaches", unfollowed := true, recurses := true, named := ["midstream/clocks.always"], loops := true, apart := false, laid := [("midstream/clocks.always", laid_midstream_clocks_always)] }
def StartReachesSaid : Prop := startReachesRow.holds Tryd.pinned (OpenSpec.ofChange startReachesSpec)

/-- ITS FALSE NEIGHBOUR: 'it returns false'. Refute it at one input. -/
def startReachesWrong : ChangeSpec := { name := "startReaches", fn := fun _ => fun
  | [d] => { results := [.lit (.bool false)], args := [d] }
  | _ => none }
def StartReachesWrongFalsely : Prop := startReachesRow.holds Tryd.pinned (OpenSpec.ofChange startReachesWrong)

/-- 'midstreamlaw17.StartOuts': WHATEVER THE INPUT: true; the input reads as it did. -/
def startOutsSpec : ChangeSpec := { name := "startOuts", fn := fun _ => fun
  | [d] => { results := [.lit (.bool true)], args := [d] }
  | _ => none }
def startOutsRow : OpenClaim := { program := "ytikmbkojnfmiaaadoorrrrr", sum := "b5f4d2d06fb633e0037ca528fa4e41b85e2da1808e2094bc089f10aeb7f4c624", func := "midstream/midstreamlaw17.StartOuts", spec := "startOuts", unfollowed := true, recurses := true, named := ["midstream/clocks.always"], loops := true, apart := false, laid := [("midstream/clocks.always", laid_midstream_clocks_always)] }
def StartOutsSaid : Prop := startOutsRow.holds Tryd.pinned (OpenSpec.ofChange startOutsSpec)

/-- ITS FALSE NEIGHBOUR: 'it returns false'. Refute it at one input. -/
def startOutsWrong : ChangeSpec := { name := "startOuts", fn := fun _ => fun
  | [d] => { results := [.lit (.bool false)], args := [d] }
  | _ => none }
def StartOutsWrongFalsely : Prop := startOutsRow.holds Tryd.pinned (OpenSpec.ofChange startOutsWrong)

/- THE SECOND FORM. 'bulk': how many values and letters a reading holds, each counted each time it is reached (what is shared counts as often as it is met; a slice's spare places count too). A statement '..UptoSaid' is the law's where the arguments, and the package variables that the reading takes, are together of bulk at most 1048576: NARROWER than '..Said'. Prove '..Said' where nothing that the law and all that it calls make is longer than what came in: it says more and counts as full. Else prove '..UptoSaid'. A law counts once. -/
mutual
def uptoBulk {H : Type} : DataW H → Nat
  | .lit (.string bytes) => bytes.length + 1
  | .lit _ => 1
  | .nil => 1
  | .ptr d => uptoBulk d + 1
  | .slice elems spare => uptoBulkAll elems + uptoBulkAll spare + 1
  | .agg parts => uptoBulkAll parts + 1
  | .iface _ d => uptoBulk d + 1
  | .map entries => uptoBulkEntries entries + 1
  | .held _ => 1
def uptoBulkAll {H : Type} : List (DataW H) → Nat
  | [] => 0
  | d :: r => uptoBulk d + uptoBulkAll r
def uptoBulkEntries {H : Type} : List (Lit × DataW H) → Nat
  | [] => 0
  | x :: r => uptoBulkEntry x + uptoBulkEntries r
def uptoBulkEntry {H : Type} : Lit × DataW H → Nat
  | (.string bytes, d) => bytes.length + uptoBulk d + 1
  | (_, d) => uptoBulk d + 1
 end
def uptoSmall : (H : Type) → List (DataW H) → Bool := fun _ ds => decide (uptoBulkAll ds ≤ 1048576)
def OpenSpec.upto (s : _root_.Go.ChangeSpec) : _root_.Go.OpenSpec := { _root_.Go.OpenSpec.ofChange s with cond := some uptoSmall }

/-- 'midstreamlaw17.StartFixed', WHERE WHAT IT READS IS OF BULK AT MOST 1048576: true; the input reads as it did. -/
def startFixedUptoRow : OpenClaim := { program := "ytikmbkojnfmiaaadoorrrrr", sum := "b5f4d2d06fb633e0037ca528fa4e41b85e2da1808e2094bc089f10aeb7f4c624", func := "midstream/midstreamlaw17.StartFixed", spec := "startFixed", unfollowed := true, recurses := true, named := ["midstream/clocks.always"], loops := true, apart := false, laid := [("midstream/clocks.always", laid_midstream_clocks_always)], narrowed := true }
def StartFixedUptoSaid : Prop := startFixedUptoRow.holds Tryd.pinned (OpenSpec.upto startFixedSpec)

/-- 'midstreamlaw17.StartReaches', WHERE WHAT IT READS IS OF BULK AT MOST 1048576: true; the input reads as it did. -/
def startReachesUptoRow : OpenClaim := { program := "ytikmbkojnfmiaaadoorrrrr", sum := "b5f4d2d06fb633e0037ca528fa4e41b85e2da1808e2094bc089f10aeb7f4c624", func := "midstream/midstreamlaw17.StartReaches", spec := "startReaches", unfollowed := true, recurses := true, named := ["midstream/clocks.always"], loops := true, apart := false, laid := [("midstream/clocks.always", laid_midstream_clocks_always)], narrowed := true }
def StartReachesUptoSaid : Prop := startReachesUptoRow.holds Tryd.pinned (OpenSpec.upto startReachesSpec)

/-- 'midstreamlaw17.StartOuts', WHERE WHAT IT READS IS OF BULK AT MOST 1048576: true; the input reads as it did. -/
def startOutsUptoRow : OpenClaim := { program := "ytikmbkojnfmiaaadoorrrrr", sum := "b5f4d2d06fb633e0037ca528fa4e41b85e2da1808e2094bc089f10aeb7f4c624", func := "midstream/midstreamlaw17.StartOuts", spec := "startOuts", unfollowed := true, recurses := true, named := ["midstream/clocks.always"], loops := true, apart := false, laid := [("midstream/clocks.always", laid_midstream_clocks_always)], narrowed := true }
def StartOutsUptoSaid : Prop := startOutsUptoRow.holds Tryd.pinned (OpenSpec.upto startOutsSpec)

end Rows
end Go.Proofs.YtikmbkojnfmiaaaDoorRRRR
