/- What the package tree says of an expression: is it formed, right, a literal; are two alike? -/
import Derived.Test.YtlfklfjnkpjooaaWName
set_option linter.unusedVariables false
set_option linter.unusedSimpArgs false
namespace Go.Proofs.Ytlfklfjnkpjooaa
open Go.RowKit

/-- tree.form: how many parts, the least and the greatest number, a name?, is there such a kind? -/
def formK (k : Int) : Int × Int × Int × Bool × Bool :=
  if k = 1 then (0, 0, 2147483647, false, true)
  else if k = 2 then (0, 0, 1, false, true)
  else if k = 3 then (0, 0, 0, true, true)
  else if k = 4 then (1, 1, 2, false, true)
  else if k = 5 then (2, 1, 16, false, true)
  else if k = 6 then (3, 0, 0, false, true)
  else if k = 7 then (2, 0, 0, false, true)
  else if k = 8 then (1, 0, 0, true, true)
  else if k = 9 then (1, 0, 0, true, true)
  else if k = 10 then (2, 0, 0, true, true)
  else (0, 0, 0, false, false)

def formedH (k n : Int) (s : ByteArray) (len : Nat) : Bool :=
  (formK k).2.2.2.2 && ((len : Int) == (formK k).1) && !decide (n < (formK k).2.1) && !decide ((formK k).2.2.1 < n) && ((formK k).2.2.2.1 == nameB s) && ((formK k).2.2.2.1 || s.toList.isEmpty)

namespace Ex
mutual
def formed : Ex → Bool
  | mk k n s l => formedH k n s l.length && formedL l
def formedL : List Ex → Bool
  | [] => true
  | x :: l => formed x && formedL l
end
theorem formed_eq (e : Ex) : e.formed = (formedH e.kind e.n e.name e.sub.length && formedL e.sub) := by cases e; simp [formed, kind, n, name, sub]

/-- tree.Right. -/
def right (e : Ex) : Int :=
  if 120 < e.count 121 then 3 else if 12 < e.depth then 17 else if e.formed then 0 else 4

theorem right_zero {e : Ex} : e.right = 0 ↔ e.count 121 ≤ 120 ∧ e.depth ≤ 12 ∧ e.formed = true := by
  unfold right
  split
  · omega
  · split
    · omega
    · split
      · rename_i h; simp [h]; omega
      · rename_i h; simp [h]
/-- tree.literal. -/
def literal (e : Ex) : Bool :=
  if e.right = 0 then
    if e.kind = 4 ∧ e.n = 1 then (match e.sub with | x :: _ => x.kind == 1 | [] => false) else (e.kind == 1 || e.kind == 2)
  else false

mutual
def same : Ex → Ex → Bool
  | mk k n s l, y => k == y.kind && n == y.n && s.toList == y.name.toList && l.length == y.sub.length && sameL l y.sub
def sameL : List Ex → List Ex → Bool
  | [], _ => true
  | _ :: _, [] => true
  | x :: l, y :: m => same x y && sameL l m
end
theorem same_eq (a b : Ex) : same a b = (a.kind == b.kind && a.n == b.n && a.name.toList == b.name.toList && a.sub.length == b.sub.length && sameL a.sub b.sub) := by
  cases a; simp [same, kind, n, name, sub]
end Ex

/-- tree.variable. -/
def variableB (v : Va) (own : Bool) : Bool :=
  nameB v.name && (v.type == 1 || v.type == 2) && (if v.ck = 0 then v.cn.toList.isEmpty else if v.ck = 1 ∨ v.ck = 2 then own && nameB v.cn else false)


/-- What tree.whole asks of an equation. -/
def eqB (q : Qe) : Bool :=
  nameB q.name && q.e.right == 0 && (if q.delay = 1 then q.first.literal else if q.delay = 0 ∨ q.delay = 2 then q.first.same Ex.zero else false)
/-- tree.whole. -/
def wholeB (p : Pr) : Bool :=
  nameB p.name && p.ins.all (variableB · false) && p.outs.all (variableB · false) && p.locals.all (variableB · true) && p.eqs.all eqB

end Go.Proofs.Ytlfklfjnkpjooaa
