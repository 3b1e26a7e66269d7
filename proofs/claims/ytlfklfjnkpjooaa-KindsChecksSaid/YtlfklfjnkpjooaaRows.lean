/-
  NARROWER THAN 'FOR EVERY INPUT', by the rows' own cells (each row's printed sentence says how): KindsChecks: loops · KindsOwn: loops.
  DERIVED. THE GIVEN ROWS OF THIS SEAT. 2 by the template 'for every input the law returns true; each argument reads behind the call as it read before'; 0 by the template 'total and deterministic' (their statements: YtlfklfjnkpjooaaTotals.lean).
  GIVEN WITH THE SEED: the statements are not yours to turn. If you find one false, say at which input.
  Laid BY PROGRAM, IN A SANDBOX (cutbox-rows.mjs): the forced cells as the released guide's own fill.sh prints them over the translation 7b544e4f57ecdb4c… (all of the seat's roots in one cut). By AI agents, Wed Nov 11 2026. No macro, syntax, notation, axiom, sorry.
-/
import Derived.Test.YtlfklfjnkpjooaaChecked
import GoSem.Claim
import GoSem.ClaimJoined
import GoSem.ClaimMapViews
import Derived.JoinedTies
import Derived.KernelRfl
namespace Go.Proofs.Ytlfklfjnkpjooaa
/- THE CELL 'sum', in the pinned program and in every row, IS THE sha256 OF THE DUMP (.gsa) THAT YtlfklfjnkpjooaaProg.lean LOADS. Nothing in Lean hashes anything: it is a label: what it is worth is what the hold of that sum in a sandbox is worth. -/
noncomputable def Try.pinned : Pinned := { name := "ytlfklfjnkpjooaa", sum := "7b544e4f57ecdb4c5dd092777082577c1e0de2da6a0b5dcfe1adcd569ab4f2e6", checked := Try.checked }
namespace Rows
def none {H : Type} : Left H := { results := [], args := [] }

/-- 'midstreamlaw14.KindsChecks': WHATEVER THE INPUT: true; the input reads as it did. -/
def kindsChecksSpec : ChangeSpec := { name := "kindsChecks", fn := fun _ => fun
  | [d] => { results := [.lit (.bool true)], args := [d] }
  | _ => none }
def kindsChecksRow : OpenClaim := { program := "ytlfklfjnkpjooaa", sum := "7b544e4f57ecdb4c5dd092777082577c1e0de2da6a0b5dcfe1adcd569ab4f2e6", func := "midstream/midstreamlaw14.KindsChecks", spec := "kindsChecks", unfollowed := true, recurses := true, loops := true, apart := false }
def KindsChecksSaid : Prop := kindsChecksRow.holds Try.pinned (OpenSpec.ofChange kindsChecksSpec)

/-- ITS FALSE NEIGHBOUR: 'it returns false'. Refute it at one input. -/
def kindsChecksWrong : ChangeSpec := { name := "kindsChecks", fn := fun _ => fun
  | [d] => { results := [.lit (.bool false)], args := [d] }
  | _ => none }
def KindsChecksWrongFalsely : Prop := kindsChecksRow.holds Try.pinned (OpenSpec.ofChange kindsChecksWrong)

/-- 'midstreamlaw14.KindsOwn': WHATEVER THE INPUT: true; the input reads as it did. -/
def kindsOwnSpec : ChangeSpec := { name := "kindsOwn", fn := fun _ => fun
  | [d] => { results := [.lit (.bool true)], args := [d] }
  | _ => none }
def kindsOwnRow : OpenClaim := { program := "ytlfklfjnkpjooaa", sum := "7b544e4f57ecdb4c5dd092777082577c1e0de2da6a0b5dcfe1adcd569ab4f2e6", func := "midstream/midstreamlaw14.KindsOwn", spec := "kindsOwn", unfollowed := true, recurses := true, loops := true, apart := false }
def KindsOwnSaid : Prop := kindsOwnRow.holds Try.pinned (OpenSpec.ofChange kindsOwnSpec)

/-- ITS FALSE NEIGHBOUR: 'it returns false'. Refute it at one input. -/
def kindsOwnWrong : ChangeSpec := { name := "kindsOwn", fn := fun _ => fun
  | [d] => { results := [.lit (.bool false)], args := [d] }
  | _ => none }
def KindsOwnWrongFalsely : Prop := kindsOwnRow.holds Try.pinned (OpenSpec.ofChange kindsOwnWrong)

/- THE SECOND FORM. 'bulk': how many values and letters a reading holds, each counted each time it is reached (what is shared counts as often as it is met; a slice's spare places count too). A statement '..UptoSaid' is the law's where the arguments, and the package variables that the reading takes, are together of bulk at most 1048576: NARROWER than '..Said'. Prove '..Said' where nothing that the law and all that it calls make is longer than what came in: it says more and counts as full. Else prove '..UptoSaid'. A law counts once. -/
mutual
def uptoBulk {H : Type} : DataW H → Nat
  | .lit (.string bytes) => bytes.length + 1
  | .lit _ => 1
  | .nil => 1
  | .ptr d => uptoBulk d + 1
  | .slice elems spare => uptoBulkAll elems + uptoBulkAll spare + 1
  | .agg parts => uptoBulkAll parts + 1
  | .iface _ d => uptoBulk d + 1
  | .map entries => uptoBulkEntries entries + 1
  | .held _ => 1
def uptoBulkAll {H : Type} : List (DataW H) → Nat
  | [] => 0
  | d :: r => uptoBulk d + uptoBulkAll r
def uptoBulkEntries {H : Type} : List (Lit × DataW H) → Nat
  | [] => 0
  | x :: r => uptoBulkEntry x + uptoBulkEntries r
def uptoBulkEntry {H : Type} : Lit × DataW H → Nat
  | (.string bytes, d) => bytes.length + uptoBulk d + 1
  | (_, d) => uptoBulk d + 1
 end
def uptoSmall : (H : Type) → List (DataW H) → Bool := fun _ ds => decide (uptoBulkAll ds ≤ 1048576)
def OpenSpec.upto (s : _root_.Go.ChangeSpec) : _root_.Go.OpenSpec := { _root_.Go.OpenSpec.ofChange s with cond := some uptoSmall }

/-- 'midstreamlaw14.KindsChecks', WHERE WHAT IT READS IS OF BULK AT MOST 1048576: true; the input reads as it did. -/
def kindsChecksUptoRow : OpenClaim := { program := "ytlfklfjnkpjooaa", sum := "7b544e4f57ecdb4c5dd092777082577c1e0de2da6a0b5dcfe1adcd569ab4f2e6", func := "midstream/midstreamlaw14.KindsChecks", spec := "kindsChecks", unfollowed := true, recurses := true, loops := true, apart := false, narrowed := true }
def KindsChecksUptoSaid : Prop := kindsChecksUptoRow.holds Try.pinned (OpenSpec.upto kindsChecksSpec)

/-- 'midstreamlaw14.KindsOwn', WHERE WHAT IT READS IS OF BULK AT MOST 1048576: true; the input reads as it did. -/
def kindsOwnUptoRow : OpenClaim := { program := "ytlfklfjnkpjooaa", sum := "7b544e4f57ecdb4c5dd092777082577c1e0de2da6a0b5dcfe1adcd569ab4f2e6", func := "midstream/midstreamlaw14.KindsOwn", spec := "kindsOwn", unfollowed := true, recurses := true, loops := true, apart := false, narrowed := true }
def KindsOwnUptoSaid : Prop := kindsOwnUptoRow.holds Try.pinned (OpenSpec.upto kindsOwnSpec)

end Rows
end Go.Proofs.Ytlfklfjnkpjooaa
