/- What the package kinds computes. -/
import Derived.Test.YtknfcamdfdfoeaaDoorZ01
import Derived.Test.YtknfcamdfdfoeaaDoorZ02
import Derived.Test.YtknfcamdfdfoeaaDoorRows
import Derived.Test.YtknfcamdfdfoeaaDoorZ08
set_option linter.unusedVariables false
set_option linter.unusedSimpArgs false
set_option maxRecDepth 100000
namespace Go.Proofs.YtknfcamdfdfoeaaDoor
open Go.RowKit

/-- The place of the first variable of a name, counted from i on. -/
def findI : List Va → ByteArray → Int → Option Int
  | [], _, _ => none
  | v :: l, s, i => if s.data = v.name.data then some i else findI l s (i + 1)
theorem findI_some : ∀ {l : List Va} {s : ByteArray} {i j : Int}, findI l s i = some j → ∃ k v, j = i + (k : Nat) ∧ l[k]? = some v ∧ v.name = s
  | [], _, _, _, h => by simp [findI] at h
  | v :: l, s, i, j, h => by
    unfold findI at h
    split at h
    · rename_i hs
      simp at h
      exact ⟨0, v, by simp [h], rfl, by ext1; exact hs.symm⟩
    · obtain ⟨k, u, h1, h2, h3⟩ := findI_some h
      exact ⟨k + 1, u, by omega, by simpa using h2, h3⟩
def findV (l : List Va) (s : ByteArray) : Option Int := findI l s 0
theorem findV_some {l : List Va} {s : ByteArray} {j : Int} (h : findV l s = some j) : ∃ (k : Nat) (v : Va), j = k ∧ l[k]? = some v ∧ v.name = s := by
  obtain ⟨k, v, h1, h2, h3⟩ := findI_some h
  exact ⟨k, v, by omega, h2, h3⟩

/-- kinds.look.typeOf. -/
def typeOfP (l : List Va) (s : ByteArray) : Int × Bool :=
  match findV l s with
  | none => (0, false)
  | some j => (match l[j.toNat]? with | some v => v.type | none => 0, true)

/-- kinds.two. -/
def twoK (op t : Int) : Int × Bool :=
  if op = 8 ∨ op = 9 ∨ op = 10 then (t, true)
  else if op = 11 ∨ op = 12 then (2, true)
  else if op = 13 ∨ op = 14 ∨ op = 15 ∨ op = 16 then (2, t == 1)
  else (1, t == 1)

def outK (k n named : Int) (ts : List Int) : Int × Bool :=
  if k = 1 then (1, true)
  else if k = 2 then (2, true)
  else if k = 3 then (named, true)
  else if k = 4 then (ts.getD 0 0, (ts.getD 0 0 == 1 && n == 1) || (ts.getD 0 0 == 2 && n == 2))
  else if k = 5 then ((twoK n (ts.getD 0 0)).1, (twoK n (ts.getD 0 0)).2 && ts.getD 0 0 == ts.getD 1 0)
  else if k = 6 then (ts.getD 1 0, ts.getD 0 0 == 2 && ts.getD 1 0 == ts.getD 2 0)
  else if k = 7 then (ts.getD 0 0, ts.getD 0 0 == ts.getD 1 0)
  else if k = 8 ∨ k = 9 then (ts.getD 0 0, named == 2)
  else if k = 10 then (ts.getD 0 0, named == 2 && ts.getD 0 0 == ts.getD 1 0)
  else (0, true)
def endK (out : Int) (ok : Bool) : Int × Int := if ok = true ∧ (out = 1 ∨ out = 2) then (out, 0) else (0, 20)
def typK (l : List Va) (k n : Int) (s : ByteArray) (ts : List Int) : Int × Int :=
  if s.toList.isEmpty = false ∧ (typeOfP l s).2 = false then (0, 19) else endK (outK k n (typeOfP l s).1 ts).1 (outK k n (typeOfP l s).1 ts).2

/-- The types of the parts behind those that are there already. -/
def joinT (acc : List Int) (r : List Int × Int) : List Int × Int := if r.2 = 0 then (acc ++ r.1, 0) else ([], r.2)
namespace Ex
mutual
/-- kinds.look.of: the type, and the error. -/
def typ (l : List Va) : Ex → Int × Int
  | mk k n s sub => if (typL l sub).2 = 0 then typK l k n s (typL l sub).1 else (0, (typL l sub).2)
/-- kinds.look.parts. -/
def typL (l : List Va) : List Ex → List Int × Int
  | [] => ([], 0)
  | x :: r => if (typ l x).2 = 0 then joinT [(typ l x).1] (typL l r) else ([], (typ l x).2)
end
theorem typ_eq (l : List Va) (e : Ex) : e.typ l = if (typL l e.sub).2 = 0 then typK l e.kind e.n e.name (typL l e.sub).1 else (0, (typL l e.sub).2) := by cases e; rw [typ]; rfl
end Ex
theorem joinT_nil (r : List Int × Int) (h : r.2 ≠ 0 → r.1 = []) : joinT [] r = r := by
  unfold joinT
  split
  · simp; ext1 <;> simp [*]
  · rename_i h2; ext1 <;> simp [h h2]
theorem typL_err (l : List Va) (sub : List Ex) : (Ex.typL l sub).2 ≠ 0 → (Ex.typL l sub).1 = [] := by
  cases sub with
  | nil => simp [Ex.typL]
  | cons x r =>
    simp only [Ex.typL, joinT]
    repeat' split
    all_goals simp_all
theorem joinT_step (l : List Va) (acc : List Int) (x : Ex) (r : List Ex) (h : (x.typ l).2 = 0) : joinT acc (Ex.typL l (x :: r)) = joinT (acc ++ [(x.typ l).1]) (Ex.typL l r) := by
  simp only [Ex.typL, if_pos h, joinT]
  repeat' split
  all_goals simp_all
theorem joinT_stop (l : List Va) (acc : List Int) (x : Ex) (r : List Ex) (h : (x.typ l).2 ≠ 0) : joinT acc (Ex.typL l (x :: r)) = ([], (x.typ l).2) := by
  simp only [Ex.typL, if_neg h, joinT]
theorem typL_len (l : List Va) : ∀ sub : List Ex, (Ex.typL l sub).2 = 0 → (Ex.typL l sub).1.length = sub.length
  | [], _ => by simp [Ex.typL]
  | x :: r, h => by
    have ih := typL_len l r
    simp only [Ex.typL, joinT] at h ⊢
    repeat' split at h
    all_goals simp_all

/-- A program's variables: kinds.Vars. -/
def varsOf (p : Pr) : List Va := p.ins ++ p.outs ++ p.locals
end Go.Proofs.YtknfcamdfdfoeaaDoor

/- Walk over kinds.Vars. -/
namespace Go.Proofs.YtknfcamdfdfoeaaDoor
open Go.RowKit Go.Sort

theorem vainfo : (Tryd.prog.info? 60).map (fun i => (i.zero, i.size, i.bytes)) = some (some (.agg #[.string ⟨#[]⟩, .int .i64 0, .int .i64 0, .string ⟨#[]⟩]), 4, 48) := by kernel_rfl

theorem vars_end {p : Pr} {w w3 : World} {v3 : Value} (h : w3.ownsRow (w.heap.size + 1) 60 4 v3 (0 + p.ins.length + p.outs.length + p.locals.length) ([] ++ vasC p.ins ++ vasC p.outs ++ vasC p.locals)) :
    ∃ A cap, Ending.returned v3 = .returned (.slice A (varsOf p).length cap) ∧ w3.ownsRow w.heap.size 60 4 (.slice A (varsOf p).length cap) (varsOf p).length (vasC (varsOf p)) := by
  have e1 : 0 + p.ins.length + p.outs.length + p.locals.length = (varsOf p).length := by simp [varsOf]; omega
  have e2 : [] ++ vasC p.ins ++ vasC p.outs ++ vasC p.locals = vasC (varsOf p) := by simp [varsOf, vasC]
  rw [e1, e2] at h
  obtain ⟨A, cap, rfl, _, _⟩ := own_slice h
  refine ⟨A, cap, rfl, h.1, ?_⟩
  rcases h.2 with h2 | ⟨g, cap', cur, hv, hg, r⟩
  · exact .inl h2
  · exact .inr ⟨g, cap', cur, hv, by omega, r⟩

set_option maxHeartbeats 2000000 in
theorem vars_any (p : Pr) (a : PrA) (w : World) (hp : PrAt w p a) (n1 : p.ins.length ≤ 1000000) (n2 : p.outs.length ≤ 1000000) (n3 : p.locals.length ≤ 1000000) :
    Calls Tryd.prog 26 #[prV p a] w fun r w' =>
      (∃ A cap, r = .returned (.slice A (varsOf p).length cap) ∧ w'.ownsRow w.heap.size 60 4 (.slice A (varsOf p).length cap) (varsOf p).length (vasC (varsOf p))) ∧ Below w.heap.size w w' := by
  have hc1 := hp.ins
  have hc2 := hp.outs
  have hc3 := hp.locals
  obtain ⟨A1, c1, A2, c2, A3, c3, A4, c4⟩ := a
  dsimp only at hc1 hc2 hc3
  unfold prV
  dsimp only
  go_enter Tryd.func26, Tryd.ntmps26
  go_wp2_with (at_builtin; refine wpList_cat rfl _ _ 22 rfl (w.heap.size + 1) 60 _ 4 48 Tryd.underlying22 vainfo rfl (by omega) (.slice none 0 0) 0 [] A1 p.ins.length c1 (vasC p.ins) rfl (World.ownsRow_nil _ _ _ _) rfl (hc1.later belA).cells (vasC_one _) (by omega) (by omega) (by simp) ?_; intro v1 w1 hown1 hb1)
  have hbw : Below w.heap.size w w1 := (bel_alloc (Below.refl _ _) _).trans (hb1.mono (by omega))
  have hz1 : w.heap.size + 1 ≤ w1.heap.size := by have := hb1.size; simpa using this
  have k2 : w1.cell? ⟨w.heap.size, 2, none⟩ = some (.slice A2 p.outs.length c2) := by rw [hb1.cell (by simp)]; go_simp
  have k3 : w1.cell? ⟨w.heap.size, 3, none⟩ = some (.slice A3 p.locals.length c3) := by rw [hb1.cell (by simp)]; go_simp
  go_region_law (first
    | (refine step_cat rfl (.tmp 7) (.tmp 9) 22 rfl (w.heap.size + 1) 60 _ 4 48 Tryd.underlying22 vainfo rfl (by omega) v1 (0 + p.ins.length) ([] ++ vasC p.ins) A2 p.outs.length c2 (vasC p.outs) rfl (own_drew hown1) rfl (hc2.later (bel_drew hbw)).cells (vasC_one _) (by omega) (by omega) hz1 ?_; intro v2 w2 hown2 hb2; have hbw2 : Below w.heap.size w w2 := (bel_drew hbw).trans (hb2.mono (by omega)); have hz2 : w.heap.size + 1 ≤ w2.heap.size := Nat.le_trans hz1 hb2.size; have k3' : w2.cell? ⟨w.heap.size, 3, none⟩ = some (.slice A3 p.locals.length c3) := (hb2.cell (p := ⟨w.heap.size, 3, none⟩) (by simp)).trans k3)
    | (refine step_cat rfl (.tmp 10) (.tmp 12) 22 rfl (w.heap.size + 1) 60 _ 4 48 Tryd.underlying22 vainfo rfl (by omega) v2 (0 + p.ins.length + p.outs.length) ([] ++ vasC p.ins ++ vasC p.outs) A3 p.locals.length c3 (vasC p.locals) rfl hown2 rfl (hc3.later hbw2).cells (vasC_one _) (by omega) (by omega) hz2 ?_; intro v3 w3 hown3 hb3))
  all_goals
    go_wp2_with fail
    go_ret
    refine ⟨?_, hbw2.trans (hb3.mono (by omega))⟩
    exact vars_end hown3

end Go.Proofs.YtknfcamdfdfoeaaDoor

/- The reference's clocks are those of the package clocks. No program of Go in sight. -/
namespace Go.Proofs.YtknfcamdfdfoeaaDoor
open Go.RowKit

theorem findC_some : ∀ (l : List Va) (s : ByteArray) (i j : Int), findI l s i = some j → ∃ (k : Nat) (v : Va), j = i + k ∧ l[k]? = some v ∧ findC l s = some v
  | [], _, _, _, h => by simp [findI] at h
  | v :: l, s, i, j, h => by
    unfold findI at h
    by_cases hs : s.data = v.name.data
    · rw [if_pos hs] at h
      have hj : i = j := by injection h
      have he : v.name = s := by ext1; exact hs.symm
      exact ⟨0, v, by omega, rfl, by rw [findC, if_pos]; rw [he]; simp⟩
    · rw [if_neg hs] at h
      obtain ⟨k, u, h1, h2, h3⟩ := findC_some l s (i + 1) j h
      refine ⟨k + 1, u, by omega, by simpa using h2, ?_⟩
      rw [findC, if_neg, h3]
      rw [eqS_iff]
      intro he
      exact hs (by rw [he])
/-- The clock at which part i must stand: Within. -/
def withC (k : Int) (s : ByteArray) (c : Int × ByteArray) (i : Nat) : Int × ByteArray := if k = 10 then (1 + (i : Int), s) else if k = 8 ∨ k = 9 then (0, ⟨#[]⟩) else c
end Go.Proofs.YtknfcamdfdfoeaaDoor

/- Walk over the reference's Of (what a plain equation needs). -/
namespace Go.Proofs.YtknfcamdfdfoeaaDoor
open Go.RowKit Go.Sort

/-- What a plain equation needs. -/
def ofR (L : List Va) (q : Qe) : List ByteArray := match findC L q.name with | some v => addN (needsF q.e) v.cn | none => needsF q.e
theorem needs_len (e : Ex) : (needsF e).length ≤ e.size := by
  unfold needsF
  split
  · simp
  · have := (Ex.named_len e []).2
    simpa using this

end Go.Proofs.YtknfcamdfdfoeaaDoor
