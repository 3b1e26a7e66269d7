/- How the plain data lie in memory: which cells hold an expression, a variable, an equation; and that they stay where they are. -/
import Derived.Test.YtlfklfjnkpjooaaPlain
import Derived.WalkKit
import Derived.WalkSpells
import Derived.WalkLawsBesides
import Derived.Deep.QuietTactic
import Derived.BigQuiet
import Derived.Deep.Draws
import Derived.Lib.Hide
import Derived.Deep.LoopGhost
import Derived.StillTailTactics
import Derived.Deep.RegionHeld3
import Derived.Deep.RegionWith
import Derived.Lib.QuietBelow
set_option linter.unusedVariables false
set_option linter.unusedSimpArgs false
namespace Go.Proofs.Ytlfklfjnkpjooaa
open Go.RowKit Go.Sort

theorem bel_trans {w a b : World} (h : Below w.heap.size w a) (k : Below a.heap.size a b) : Below w.heap.size w b := h.trans (k.mono h.size)
theorem bel_drew {w a : World} (h : Below w.heap.size w a) : Below w.heap.size w a.drew := h.drew
theorem bel_drewN {w a : World} (h : Below w.heap.size w a) (n : Nat) : Below w.heap.size w (a.drewN n) := ⟨h.os, h.tape, h.output, h.size, h.block⟩
theorem bel_alloc {w a : World} (h : Below w.heap.size w a) (o : Obj) : Below w.heap.size w (a.alloc o) := h.alloc h.size o
theorem bel_cell {w a : World} (h : Below w.heap.size w a) {p : Addr} {v : Value} (hc : w.cell? p = some v) : a.cell? p = some v := by
  rw [h.cell (block_lt_of_cell hc)]; exact hc

/-- What stood before a call reads behind it as it did. -/
theorem bcell {W w1 : World} (hb : Below W.heap.size W w1) : ∀ b o, b < W.heap.size → w1.cell? ⟨b, o, none⟩ = W.cell? ⟨b, o, none⟩ := fun b o h => hb.cell (p := ⟨b, o, none⟩) h
theorem bfrozen {W w1 : World} (hb : Below W.heap.size W w1) : ∀ b o, b < W.heap.size → w1.frozen? ⟨b, o, none⟩ = W.frozen? ⟨b, o, none⟩ := fun b o h => hb.frozen (p := ⟨b, o, none⟩) h
/-- The world under a name. -/
theorem wp_name {P : Program} {c : Code} {Q : Exit → Act → World → Prop} {a : Act} {W : World} (h : ∀ W0, W0 = W → c.wp P Q a W0) : c.wp P Q a W := h W rfl
theorem cel_alloc {w : World} {o : Obj} {p : Addr} {v : Value} (hc : w.cell? p = some v) : (w.alloc o).cell? p = some v := bel_cell (bel_alloc (Below.refl _ _) o) hc
theorem cel_drew {w : World} {p : Addr} {v : Value} (hc : w.cell? p = some v) : w.drew.cell? p = some v := hc

/-- A region that draws its order and only reads, its callees make memory alone: walked once, in the order of the text. -/
theorem wp_region_qb {P : Program} {id : Nat} {Q : Exit → Act → World → Prop} {a : Act} {w : World} {l : List Oper} (hm : P.follows .mixedOrders = true) (hB : Region.lexB .any l.toArray = true)
    (h : (∀ (d : Nat) (os : Array Obj) (p : Addr), p.block < w.heap.size → (grow (redrawn w d) os).cell? p = w.cell? p) →
      wpQuiet P l.toArray (fun w' => ∃ p : Regrown, w' = grow (redrawn w p.d) p.os) (fun a' => ∀ w', (∃ p : Regrown, w' = grow (redrawn w p.d) p.os) → Q .normal a' w') l a) : (Code.region id l.toArray true).wp P Q a w :=
  wp_region_quiet_below hm hB (h fun d os _ hp => (below_regrown w d os).cell hp)
theorem bel_of_class {w w' : World} (h : ∃ p : Regrown, w' = grow (redrawn w p.d) p.os) : Below w.heap.size w w' := by
  obtain ⟨p, rfl⟩ := h
  exact below_regrown w p.d p.os

mutual
/-- The slice at A holds the parts of an expression. -/
def SubsAt (w : World) : Ex → Option Addr → Nat → Prop
  | .mk _ _ _ l, A, cap => l.length ≤ cap ∧ cap ≤ maxLen ∧ (0 < l.length → ∃ b off, A = some ⟨b, off, none⟩ ∧ RowAt w b l off)
/-- Expressions in a row of cells. -/
def RowAt (w : World) (b : Nat) : List Ex → Nat → Prop
  | [], _ => True
  | e :: l, off => (∃ A cap, w.cell? ⟨b, off, none⟩ = some (.int .i64 e.kind) ∧ w.cell? ⟨b, off + 1, none⟩ = some (.int .i32 e.n) ∧ w.cell? ⟨b, off + 2, none⟩ = some (.string e.name) ∧
      w.cell? ⟨b, off + 3, none⟩ = some (.slice A e.sub.length cap) ∧ SubsAt w e A cap) ∧ RowAt w b l (off + 4)
end

theorem SubsAt_iff {w : World} {e : Ex} {A : Option Addr} {cap : Nat} : SubsAt w e A cap ↔ e.sub.length ≤ cap ∧ cap ≤ maxLen ∧ (0 < e.sub.length → ∃ b off, A = some ⟨b, off, none⟩ ∧ RowAt w b e.sub off) := by
  cases e; simp [SubsAt, Ex.sub]

theorem RowAt.get {w : World} {b : Nat} : ∀ {l : List Ex} {off k : Nat} {x : Ex}, RowAt w b l off → l[k]? = some x →
    ∃ A cap, w.cell? ⟨b, off + k * 4, none⟩ = some (.int .i64 x.kind) ∧ w.cell? ⟨b, off + k * 4 + 1, none⟩ = some (.int .i32 x.n) ∧ w.cell? ⟨b, off + k * 4 + 2, none⟩ = some (.string x.name) ∧
      w.cell? ⟨b, off + k * 4 + 3, none⟩ = some (.slice A x.sub.length cap) ∧ SubsAt w x A cap
  | [], off, k, x, _, h => by simp at h
  | e :: l, off, 0, x, h, hk => by
    simp at hk; subst hk
    simp only [RowAt] at h
    simpa using h.1
  | e :: l, off, k + 1, x, h, hk => by
    simp only [RowAt] at h
    have := h.2.get (k := k) (by simpa using hk)
    have e1 : off + 4 + k * 4 = off + (k + 1) * 4 := by omega
    rwa [e1] at this

mutual
theorem SubsAt.keep {w w' : World} (hw : ∀ {p : Addr} {v : Value}, w.cell? p = some v → w'.cell? p = some v) : ∀ (e : Ex) {A : Option Addr} {cap : Nat}, SubsAt w e A cap → SubsAt w' e A cap
  | .mk _ _ _ l, A, cap, h => by
    simp only [SubsAt] at h ⊢
    refine ⟨h.1, h.2.1, fun hl => ?_⟩
    obtain ⟨b, off, hA, hr⟩ := h.2.2 hl
    exact ⟨b, off, hA, RowAt.keep hw l hr⟩
theorem RowAt.keep {w w' : World} (hw : ∀ {p : Addr} {v : Value}, w.cell? p = some v → w'.cell? p = some v) {b : Nat} : ∀ (l : List Ex) {off : Nat}, RowAt w b l off → RowAt w' b l off
  | [], off, _ => by simp [RowAt]
  | e :: l, off, h => by
    simp only [RowAt] at h ⊢
    obtain ⟨⟨A, cap, h0, h1, h2, h3, h4⟩, hr⟩ := h
    exact ⟨⟨A, cap, hw h0, hw h1, hw h2, hw h3, SubsAt.keep hw e h4⟩, RowAt.keep hw l hr⟩
end
theorem SubsAt.later {w w' : World} {e : Ex} {A : Option Addr} {cap : Nat} (h : SubsAt w e A cap) (hb : Below w.heap.size w w') : SubsAt w' e A cap := SubsAt.keep (fun hc => bel_cell hb hc) e h

/-- Part k of an expression whose parts lie at A. -/
theorem SubsAt.get {w : World} {e x : Ex} {A : Option Addr} {cap k : Nat} (h : SubsAt w e A cap) (hk : e.sub[k]? = some x) : ∃ b off A' cap', A = some ⟨b, off, none⟩ ∧
    w.cell? ⟨b, off + k * 4, none⟩ = some (.int .i64 x.kind) ∧ w.cell? ⟨b, off + k * 4 + 1, none⟩ = some (.int .i32 x.n) ∧ w.cell? ⟨b, off + k * 4 + 2, none⟩ = some (.string x.name) ∧
      w.cell? ⟨b, off + k * 4 + 3, none⟩ = some (.slice A' x.sub.length cap') ∧ SubsAt w x A' cap' := by
  rw [SubsAt_iff] at h
  have hlt : k < e.sub.length := (List.getElem?_eq_some_iff.1 hk).1
  obtain ⟨b, off, hA, hr⟩ := h.2.2 (by omega)
  obtain ⟨A', cap', h0, h1, h2, h3, h4⟩ := hr.get hk
  exact ⟨b, off, A', cap', hA, h0, h1, h2, h3, h4⟩
theorem SubsAt.len {w : World} {e : Ex} {A : Option Addr} {cap : Nat} (h : SubsAt w e A cap) : e.sub.length ≤ cap ∧ cap ≤ maxLen := by
  rw [SubsAt_iff] at h; exact ⟨h.1, h.2.1⟩

theorem ret_int {k : IntKind} {a b : Int} (h : a = b) : Ending.returned (.int k a) = .returned (.int k b) := by rw [h]
theorem ret_bool {a b : Bool} (h : a = b) : Ending.returned (.bool a) = .returned (.bool b) := by rw [h]
theorem ret_str {a b : ByteArray} (h : a = b) : Ending.returned (.string a) = .returned (.string b) := by rw [h]

/-- An expression as a value. -/
def exV (e : Ex) (A : Option Addr) (cap : Nat) : Value := .agg #[.int .i64 e.kind, .int .i32 e.n, .string e.name, .slice A e.sub.length cap]

/-- Four cells that hold a variable. -/
structure VarCells (w : World) (b off : Nat) (v : Va) : Prop where
  c0 : w.cell? ⟨b, off, none⟩ = some (.string v.name)
  c1 : w.cell? ⟨b, off + 1, none⟩ = some (.int .i64 v.type)
  c2 : w.cell? ⟨b, off + 2, none⟩ = some (.int .i64 v.ck)
  c3 : w.cell? ⟨b, off + 3, none⟩ = some (.string v.cn)
def vaV (v : Va) : Value := .agg #[.string v.name, .int .i64 v.type, .int .i64 v.ck, .string v.cn]
def VarsAt (w : World) (l : List Va) (A : Option Addr) (cap : Nat) : Prop :=
  l.length ≤ cap ∧ cap ≤ maxLen ∧ (0 < l.length → ∃ b off, A = some ⟨b, off, none⟩ ∧ ∀ k v, l[k]? = some v → VarCells w b (off + k * 4) v)

/-- Ten cells that hold an equation. -/
structure EqCells (w : World) (b off : Nat) (q : Qe) (A1 : Option Addr) (c1 : Nat) (A2 : Option Addr) (c2 : Nat) : Prop where
  g0 : w.cell? ⟨b, off, none⟩ = some (.string q.name)
  g1 : w.cell? ⟨b, off + 1, none⟩ = some (.int .i64 q.delay)
  g2 : w.cell? ⟨b, off + 2, none⟩ = some (.int .i64 q.first.kind)
  g3 : w.cell? ⟨b, off + 3, none⟩ = some (.int .i32 q.first.n)
  g4 : w.cell? ⟨b, off + 4, none⟩ = some (.string q.first.name)
  g5 : w.cell? ⟨b, off + 5, none⟩ = some (.slice A1 q.first.sub.length c1)
  g6 : w.cell? ⟨b, off + 6, none⟩ = some (.int .i64 q.e.kind)
  g7 : w.cell? ⟨b, off + 7, none⟩ = some (.int .i32 q.e.n)
  g8 : w.cell? ⟨b, off + 8, none⟩ = some (.string q.e.name)
  g9 : w.cell? ⟨b, off + 9, none⟩ = some (.slice A2 q.e.sub.length c2)
  s1 : SubsAt w q.first A1 c1
  s2 : SubsAt w q.e A2 c2
def qeV (q : Qe) (A1 : Option Addr) (c1 : Nat) (A2 : Option Addr) (c2 : Nat) : Value :=
  .agg #[.string q.name, .int .i64 q.delay, .int .i64 q.first.kind, .int .i32 q.first.n, .string q.first.name, .slice A1 q.first.sub.length c1, .int .i64 q.e.kind, .int .i32 q.e.n, .string q.e.name, .slice A2 q.e.sub.length c2]
def EqsAt (w : World) (l : List Qe) (A : Option Addr) (cap : Nat) : Prop :=
  l.length ≤ cap ∧ cap ≤ maxLen ∧ (0 < l.length → ∃ b off, A = some ⟨b, off, none⟩ ∧ ∀ k q, l[k]? = some q → ∃ A1 c1 A2 c2, EqCells w b (off + k * 10) q A1 c1 A2 c2)

theorem VarCells.later {w w' : World} {b off : Nat} {v : Va} (h : VarCells w b off v) (hb : Below w.heap.size w w') : VarCells w' b off v :=
  ⟨bel_cell hb h.c0, bel_cell hb h.c1, bel_cell hb h.c2, bel_cell hb h.c3⟩
theorem VarsAt.later {w w' : World} {l : List Va} {A : Option Addr} {cap : Nat} (h : VarsAt w l A cap) (hb : Below w.heap.size w w') : VarsAt w' l A cap :=
  ⟨h.1, h.2.1, fun hl => by
    obtain ⟨b, off, hA, hr⟩ := h.2.2 hl
    exact ⟨b, off, hA, fun k v hk => (hr k v hk).later hb⟩⟩
theorem VarsAt.get {w : World} {l : List Va} {A : Option Addr} {cap k : Nat} {v : Va} (h : VarsAt w l A cap) (hk : l[k]? = some v) : ∃ b off, A = some ⟨b, off, none⟩ ∧ b < w.heap.size ∧ VarCells w b (off + k * 4) v := by
  have hlt : k < l.length := (List.getElem?_eq_some_iff.1 hk).1
  obtain ⟨b, off, hA, hr⟩ := h.2.2 (by omega)
  exact ⟨b, off, hA, block_lt_of_cell (hr k v hk).c0, hr k v hk⟩
theorem VarsAt.len {w : World} {l : List Va} {A : Option Addr} {cap : Nat} (h : VarsAt w l A cap) : l.length ≤ cap ∧ cap ≤ maxLen := ⟨h.1, h.2.1⟩
theorem EqCells.later {w w' : World} {b off : Nat} {q : Qe} {A1 : Option Addr} {c1 : Nat} {A2 : Option Addr} {c2 : Nat} (h : EqCells w b off q A1 c1 A2 c2) (hb : Below w.heap.size w w') : EqCells w' b off q A1 c1 A2 c2 :=
  ⟨bel_cell hb h.g0, bel_cell hb h.g1, bel_cell hb h.g2, bel_cell hb h.g3, bel_cell hb h.g4, bel_cell hb h.g5, bel_cell hb h.g6, bel_cell hb h.g7, bel_cell hb h.g8, bel_cell hb h.g9, h.s1.later hb, h.s2.later hb⟩
theorem EqsAt.later {w w' : World} {l : List Qe} {A : Option Addr} {cap : Nat} (h : EqsAt w l A cap) (hb : Below w.heap.size w w') : EqsAt w' l A cap :=
  ⟨h.1, h.2.1, fun hl => by
    obtain ⟨b, off, hA, hr⟩ := h.2.2 hl
    exact ⟨b, off, hA, fun k v hk => by
      obtain ⟨A1, c1, A2, c2, h⟩ := hr k v hk
      exact ⟨A1, c1, A2, c2, h.later hb⟩⟩⟩
theorem EqsAt.get {w : World} {l : List Qe} {A : Option Addr} {cap k : Nat} {q : Qe} (h : EqsAt w l A cap) (hk : l[k]? = some q) : ∃ b off A1 c1 A2 c2, A = some ⟨b, off, none⟩ ∧ b < w.heap.size ∧ EqCells w b (off + k * 10) q A1 c1 A2 c2 := by
  have hlt : k < l.length := (List.getElem?_eq_some_iff.1 hk).1
  obtain ⟨b, off, hA, hr⟩ := h.2.2 (by omega)
  obtain ⟨A1, c1, A2, c2, h⟩ := hr k q hk
  exact ⟨b, off, A1, c1, A2, c2, hA, block_lt_of_cell h.g0, h⟩
theorem EqsAt.len {w : World} {l : List Qe} {A : Option Addr} {cap : Nat} (h : EqsAt w l A cap) : l.length ≤ cap ∧ cap ≤ maxLen := ⟨h.1, h.2.1⟩

/-- Where the lists of a program lie. -/
structure PrA where
  A1 : Option Addr
  c1 : Nat
  A2 : Option Addr
  c2 : Nat
  A3 : Option Addr
  c3 : Nat
  A4 : Option Addr
  c4 : Nat
structure PrAt (w : World) (p : Pr) (a : PrA) : Prop where
  ins : VarsAt w p.ins a.A1 a.c1
  outs : VarsAt w p.outs a.A2 a.c2
  locals : VarsAt w p.locals a.A3 a.c3
  eqs : EqsAt w p.eqs a.A4 a.c4
theorem PrAt.later {w w' : World} {p : Pr} {a : PrA} (h : PrAt w p a) (hb : Below w.heap.size w w') : PrAt w' p a := ⟨h.ins.later hb, h.outs.later hb, h.locals.later hb, h.eqs.later hb⟩
def prV (p : Pr) (a : PrA) : Value := .agg #[.string p.name, .slice a.A1 p.ins.length a.c1, .slice a.A2 p.outs.length a.c2, .slice a.A3 p.locals.length a.c3, .slice a.A4 p.eqs.length a.c4]

end Go.Proofs.Ytlfklfjnkpjooaa
