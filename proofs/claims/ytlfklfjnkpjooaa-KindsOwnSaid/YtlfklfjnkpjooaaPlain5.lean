/- What the package kinds computes. -/
import Derived.Test.YtlfklfjnkpjooaaPlain2
import Derived.Test.YtlfklfjnkpjooaaRep3
set_option linter.unusedVariables false
set_option linter.unusedSimpArgs false
namespace Go.Proofs.Ytlfklfjnkpjooaa
open Go.RowKit

/-- The place of the first variable of a name, counted from i on. -/
def findI : List Va → ByteArray → Int → Option Int
  | [], _, _ => none
  | v :: l, s, i => if s.data = v.name.data then some i else findI l s (i + 1)
theorem findI_some : ∀ {l : List Va} {s : ByteArray} {i j : Int}, findI l s i = some j → ∃ k v, j = i + (k : Nat) ∧ l[k]? = some v ∧ v.name = s
  | [], _, _, _, h => by simp [findI] at h
  | v :: l, s, i, j, h => by
    unfold findI at h
    split at h
    · rename_i hs
      simp at h
      exact ⟨0, v, by simp [h], rfl, by ext1; exact hs.symm⟩
    · obtain ⟨k, u, h1, h2, h3⟩ := findI_some h
      exact ⟨k + 1, u, by omega, by simpa using h2, h3⟩
def findV (l : List Va) (s : ByteArray) : Option Int := findI l s 0
theorem findV_some {l : List Va} {s : ByteArray} {j : Int} (h : findV l s = some j) : ∃ (k : Nat) (v : Va), j = k ∧ l[k]? = some v ∧ v.name = s := by
  obtain ⟨k, v, h1, h2, h3⟩ := findI_some h
  exact ⟨k, v, by omega, h2, h3⟩

/-- kinds.look.typeOf. -/
def typeOfP (l : List Va) (s : ByteArray) : Int × Bool :=
  match findV l s with
  | none => (0, false)
  | some j => (match l[j.toNat]? with | some v => v.type | none => 0, true)

/-- kinds.two. -/
def twoK (op t : Int) : Int × Bool :=
  if op = 8 ∨ op = 9 ∨ op = 10 then (t, true)
  else if op = 11 ∨ op = 12 then (2, true)
  else if op = 13 ∨ op = 14 ∨ op = 15 ∨ op = 16 then (2, t == 1)
  else (1, t == 1)

def outK (k n named : Int) (ts : List Int) : Int × Bool :=
  if k = 1 then (1, true)
  else if k = 2 then (2, true)
  else if k = 3 then (named, true)
  else if k = 4 then (ts.getD 0 0, (ts.getD 0 0 == 1 && n == 1) || (ts.getD 0 0 == 2 && n == 2))
  else if k = 5 then ((twoK n (ts.getD 0 0)).1, (twoK n (ts.getD 0 0)).2 && ts.getD 0 0 == ts.getD 1 0)
  else if k = 6 then (ts.getD 1 0, ts.getD 0 0 == 2 && ts.getD 1 0 == ts.getD 2 0)
  else if k = 7 then (ts.getD 0 0, ts.getD 0 0 == ts.getD 1 0)
  else if k = 8 ∨ k = 9 then (ts.getD 0 0, named == 2)
  else if k = 10 then (ts.getD 0 0, named == 2 && ts.getD 0 0 == ts.getD 1 0)
  else (0, true)
def endK (out : Int) (ok : Bool) : Int × Int := if ok = true ∧ (out = 1 ∨ out = 2) then (out, 0) else (0, 20)
def typK (l : List Va) (k n : Int) (s : ByteArray) (ts : List Int) : Int × Int :=
  if s.toList.isEmpty = false ∧ (typeOfP l s).2 = false then (0, 19) else endK (outK k n (typeOfP l s).1 ts).1 (outK k n (typeOfP l s).1 ts).2

/-- The types of the parts behind those that are there already. -/
def joinT (acc : List Int) (r : List Int × Int) : List Int × Int := if r.2 = 0 then (acc ++ r.1, 0) else ([], r.2)
namespace Ex
mutual
/-- kinds.look.of: the type, and the error. -/
def typ (l : List Va) : Ex → Int × Int
  | mk k n s sub => if (typL l sub).2 = 0 then typK l k n s (typL l sub).1 else (0, (typL l sub).2)
/-- kinds.look.parts. -/
def typL (l : List Va) : List Ex → List Int × Int
  | [] => ([], 0)
  | x :: r => if (typ l x).2 = 0 then joinT [(typ l x).1] (typL l r) else ([], (typ l x).2)
end
theorem typ_eq (l : List Va) (e : Ex) : e.typ l = if (typL l e.sub).2 = 0 then typK l e.kind e.n e.name (typL l e.sub).1 else (0, (typL l e.sub).2) := by cases e; rw [typ]; rfl
end Ex
theorem joinT_nil (r : List Int × Int) (h : r.2 ≠ 0 → r.1 = []) : joinT [] r = r := by
  unfold joinT
  split
  · simp; ext1 <;> simp [*]
  · rename_i h2; ext1 <;> simp [h h2]
theorem typL_err (l : List Va) (sub : List Ex) : (Ex.typL l sub).2 ≠ 0 → (Ex.typL l sub).1 = [] := by
  cases sub with
  | nil => simp [Ex.typL]
  | cons x r =>
    simp only [Ex.typL, joinT]
    repeat' split
    all_goals simp_all
theorem joinT_step (l : List Va) (acc : List Int) (x : Ex) (r : List Ex) (h : (x.typ l).2 = 0) : joinT acc (Ex.typL l (x :: r)) = joinT (acc ++ [(x.typ l).1]) (Ex.typL l r) := by
  simp only [Ex.typL, if_pos h, joinT]
  repeat' split
  all_goals simp_all
theorem joinT_stop (l : List Va) (acc : List Int) (x : Ex) (r : List Ex) (h : (x.typ l).2 ≠ 0) : joinT acc (Ex.typL l (x :: r)) = ([], (x.typ l).2) := by
  simp only [Ex.typL, if_neg h, joinT]
theorem typL_len (l : List Va) : ∀ sub : List Ex, (Ex.typL l sub).2 = 0 → (Ex.typL l sub).1.length = sub.length
  | [], _ => by simp [Ex.typL]
  | x :: r, h => by
    have ih := typL_len l r
    simp only [Ex.typL, joinT] at h ⊢
    repeat' split at h
    all_goals simp_all

/-- A program's variables: kinds.Vars. -/
def varsOf (p : Pr) : List Va := p.ins ++ p.outs ++ p.locals
end Go.Proofs.Ytlfklfjnkpjooaa
