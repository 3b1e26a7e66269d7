/- What kinds.equation and kinds.Check say. -/
import Derived.Test.YtlfklfjnkpjooaaPlain5
import Derived.Test.YtlfklfjnkpjooaaPlain4
set_option linter.unusedVariables false
set_option linter.unusedSimpArgs false
namespace Go.Proofs.Ytlfklfjnkpjooaa
open Go.RowKit

def typeAt (l : List Va) (j : Int) : Int := match l[j.toNat]? with | some v => v.type | none => 0
/-- kinds.look.equation. -/
def eqE (l : List Va) (ins : Int) (done : ByteArray → Option Int) (q : Qe) : Int :=
  match findV l q.name with
  | none => 19
  | some j =>
    if j < ins then 19
    else if 0 < (done q.name).getD 0 then 18
    else if (q.e.typ l).2 ≠ 0 then (q.e.typ l).2
    else if q.delay = 1 ∧ (q.first.typ l).1 ≠ typeAt l j then 20
    else if (q.e.typ l).1 ≠ typeAt l j then 20
    else 0
/-- The first variable whose name stands before. -/
def dupGo (l : List Va) : Nat → List Va → Option Nat
  | _, [] => none
  | k, v :: r => if (findV l v.name).getD 0 ≠ (k : Int) then some k else dupGo l (k + 1) r
/-- The first equation that has a fault; how often each name has stood. -/
def eqGo (l : List Va) (ins : Int) : Nat → (ByteArray → Option Int) → List Qe → Option (Nat × Int) × (ByteArray → Option Int)
  | _, d, [] => (none, d)
  | k, d, q :: r => if eqE l ins d q ≠ 0 then (some (k, eqE l ins d q), d) else eqGo l ins (k + 1) (upd d q.name ((d q.name).getD 0 + 1)) r
/-- The first variable that has no equation. -/
def missGo (d : ByteArray → Option Int) : Nat → List Va → Option Nat
  | _, [] => none
  | k, v :: r => if (d v.name).getD 0 = 0 then some k else missGo d (k + 1) r
def endF (d : ByteArray → Option Int) (l : List Va) (ins : Nat) : Int × Int × Int :=
  match missGo d ins (l.drop ins) with
  | some k => (2, (k : Int), 8)
  | none => (0, 0, 0)
def eqsF (l : List Va) (ins : Nat) (r : Option (Nat × Int) × (ByteArray → Option Int)) : Int × Int × Int :=
  match r.1 with
  | some (k, e) => (3, (k : Int), e)
  | none => endF r.2 l ins
def dupF (p : Pr) (r : Option Nat) : Int × Int × Int :=
  match r with
  | some k => (2, (k : Int), 18)
  | none => eqsF (varsOf p) p.ins.length (eqGo (varsOf p) p.ins.length 0 (fun _ => none) p.eqs)
/-- kinds.Check: a Fault's three numbers. -/
def checkF (p : Pr) : Int × Int × Int :=
  if printE p ≠ 0 then (4, 0, printE p)
  else if 8 < p.ins.length ∨ 8 < p.outs.length ∨ 24 < (varsOf p).length then (4, 0, 3)
  else dupF p (dupGo (varsOf p) 0 (varsOf p))
end Go.Proofs.Ytlfklfjnkpjooaa
