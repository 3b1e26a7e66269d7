/- Plain data of a program: expressions, variables, equations; and what the functions of the packages tree and kinds compute over them. No program of Go in sight. -/
import Derived.WalkKit
import Derived.WalkSpells
import Derived.WalkLawsBesides
import Derived.Deep.QuietTactic
import Derived.BigQuiet
import Derived.Deep.Draws
import Derived.Lib.Hide
import Derived.Deep.LoopGhost
import Derived.StillTailTactics
import Derived.Deep.RegionHeld3
import Derived.Deep.RegionWith
import Derived.Lib.QuietBelow
import Derived.Test.YtknfcamdfdfoeaaDoorRows
import Derived.ProofKit
import Derived.Deep.Slices
import Derived.Deep.Fields
import Derived.Lib.SmallJoins
set_option linter.unusedVariables false
set_option linter.unusedSimpArgs false
set_option maxRecDepth 100000
namespace Go.Proofs.YtknfcamdfdfoeaaDoor
open Go.RowKit

/-- An expression. -/
inductive Ex where
  | mk (kind n : Int) (name : ByteArray) (sub : List Ex)

structure Va where
  name : ByteArray
  type : Int
  ck : Int
  cn : ByteArray

structure Qe where
  name : ByteArray
  delay : Int
  first : Ex
  e : Ex

structure Pr where
  name : ByteArray
  ins : List Va
  outs : List Va
  locals : List Va
  eqs : List Qe

def I64 (x : Int) : Prop := -9223372036854775808 ≤ x ∧ x ≤ 9223372036854775807
def I32 (x : Int) : Prop := -2147483648 ≤ x ∧ x ≤ 2147483647

namespace Ex
def kind : Ex → Int | mk k _ _ _ => k
def n : Ex → Int | mk _ n _ _ => n
def name : Ex → ByteArray | mk _ _ s _ => s
def sub : Ex → List Ex | mk _ _ _ l => l
def zero : Ex := mk 0 0 ⟨#[]⟩ []
mutual
def size : Ex → Nat
  | mk _ _ _ l => sizeL l + 1
def sizeL : List Ex → Nat
  | [] => 0
  | x :: l => size x + sizeL l
end
theorem size_eq (e : Ex) : e.size = sizeL e.sub + 1 := by cases e; simp [size, sub]
theorem size_mem : ∀ (l : List Ex) (k : Nat) (x : Ex), l[k]? = some x → x.size ≤ sizeL l
  | [], k, x, h => by simp at h
  | y :: l, 0, x, h => by simp at h; subst h; simp [sizeL]
  | y :: l, k + 1, x, h => by
    have := size_mem l k x (by simpa using h)
    simp [sizeL]; omega
theorem size_sub {e x : Ex} {k : Nat} (h : e.sub[k]? = some x) : x.size < e.size := by
  have := size_mem _ _ _ h
  rw [size_eq e]; omega
/-- The induction that all walks over expressions go by. -/
theorem ind {p : Ex → Prop} (h : ∀ e, (∀ x ∈ e.sub, p x) → p e) (e : Ex) : p e := by
  have : ∀ n (e : Ex), e.size ≤ n → p e := by
    intro n
    induction n with
    | zero => intro e he; rw [size_eq] at he; omega
    | succ n ih =>
      intro e he
      refine h e fun x hx => ih x ?_
      obtain ⟨k, hk⟩ := List.mem_iff_getElem?.1 hx
      have := size_sub hk
      omega
  exact this _ e (Nat.le_refl _)

-- The numbers of an expression are numbers of their kinds.
mutual
def OK : Ex → Prop
  | mk k n s l => I64 k ∧ I32 n ∧ s.size ≤ maxLen ∧ OKL l
def OKL : List Ex → Prop
  | [] => True
  | x :: l => OK x ∧ OKL l
end
theorem OKL_mem : ∀ {l : List Ex}, OKL l → ∀ x ∈ l, OK x
  | [], _, x, hx => by cases hx
  | y :: l, h, x, hx => by
    simp only [OKL] at h
    rcases List.mem_cons.1 hx with rfl | hx
    · exact h.1
    · exact OKL_mem h.2 x hx
theorem OK_sub {e x : Ex} (h : OK e) (hx : x ∈ e.sub) : OK x := by
  cases e; simp only [OK, sub] at *; exact OKL_mem h.2.2.2 x hx

-- tree.count.
mutual
def count : Ex → Int → Int
  | mk _ _ _ l, most => countL l 1 most
def countL : List Ex → Int → Int → Int
  | [], n, _ => n
  | x :: l, n, most => if n ≥ most then n else countL l (n + count x (most - n)) most
end
theorem count_eq (e : Ex) (most : Int) : e.count most = countL e.sub 1 most := by cases e; simp [count, sub]
theorem countL_bd : ∀ (l : List Ex), (∀ x ∈ l, ∀ m, 1 ≤ count x m ∧ count x m ≤ max 1 m) → ∀ n m, 1 ≤ n → n ≤ max 1 m → n ≤ countL l n m ∧ countL l n m ≤ max 1 m
  | [], _, n, m, h1, h2 => by simp [countL]; omega
  | x :: l, hx, n, m, h1, h2 => by
    simp only [countL]
    split
    · exact ⟨by omega, by omega⟩
    · have := hx x (by simp) (m - n)
      have := countL_bd l (fun y hy => hx y (by simp [hy])) (n + count x (m - n)) m (by omega) (by omega)
      exact ⟨by omega, by omega⟩
theorem count_bd (e : Ex) : ∀ m, 1 ≤ count e m ∧ count e m ≤ max 1 m := by
  induction e using ind with
  | h e ih =>
    intro m
    rw [count_eq]
    have := countL_bd e.sub ih 1 m (by omega) (by omega)
    exact ⟨by omega, by omega⟩

theorem countL_size : ∀ (l : List Ex), (∀ x ∈ l, ∀ m, count x m < m → count x m = x.size) → ∀ n m, 1 ≤ n → countL l n m < m → countL l n m = n + sizeL l
  | [], _, n, m, _, h => by simp [countL, sizeL]
  | x :: l, hx, n, m, h1, h => by
    simp only [countL, sizeL] at h ⊢
    split at h
    · omega
    · rename_i hge
      rw [if_neg hge]
      have hb := count_bd x (m - n)
      have hl := countL_bd l (fun y _ => count_bd y) (n + count x (m - n)) m (by omega) (by omega)
      have := hx x (by simp) (m - n) (by omega)
      have := countL_size l (fun y hy => hx y (by simp [hy])) (n + count x (m - n)) m (by omega) h
      omega
theorem count_size (e : Ex) : ∀ m, count e m < m → count e m = e.size := by
  induction e using ind with
  | h e ih =>
    intro m h
    rw [count_eq] at h ⊢
    rw [countL_size e.sub ih 1 m (by omega) h, size_eq]
    omega

-- tree.depth.
mutual
def depth : Ex → Int
  | mk _ _ _ l => depthL l 0 + 1
def depthL : List Ex → Int → Int
  | [], n => n
  | x :: l, n => depthL l (max n (depth x))
end
theorem depth_eq (e : Ex) : e.depth = depthL e.sub 0 + 1 := by cases e; simp [depth, sub]
theorem depthL_bd : ∀ (l : List Ex), (∀ x ∈ l, 1 ≤ depth x ∧ depth x ≤ x.size) → ∀ n, n ≤ depthL l n ∧ depthL l n ≤ max n (sizeL l)
  | [], _, n => by simp [depthL]; omega
  | x :: l, hx, n => by
    have := hx x (by simp)
    have := depthL_bd l (fun y hy => hx y (by simp [hy])) (max n (depth x))
    simp only [depthL, sizeL]
    omega
theorem depth_bd (e : Ex) : 1 ≤ depth e ∧ depth e ≤ e.size := by
  induction e using ind with
  | h e ih =>
    rw [depth_eq, size_eq]
    have := depthL_bd e.sub ih 0
    omega
end Ex

end Go.Proofs.YtknfcamdfdfoeaaDoor

/- How the plain data lie in memory: which cells hold an expression, a variable, an equation; and that they stay where they are. -/
namespace Go.Proofs.YtknfcamdfdfoeaaDoor
open Go.RowKit Go.Sort

theorem bel_trans {w a b : World} (h : Below w.heap.size w a) (k : Below a.heap.size a b) : Below w.heap.size w b := h.trans (k.mono h.size)
theorem bel_drew {w a : World} (h : Below w.heap.size w a) : Below w.heap.size w a.drew := h.drew
theorem bel_drewN {w a : World} (h : Below w.heap.size w a) (n : Nat) : Below w.heap.size w (a.drewN n) := ⟨h.os, h.tape, h.output, h.size, h.block⟩
theorem bel_alloc {w a : World} (h : Below w.heap.size w a) (o : Obj) : Below w.heap.size w (a.alloc o) := h.alloc h.size o
/-- Nothing of the old memory is changed: found by what is known here (the rules that come later are tried too). -/
theorem belA {n : Nat} {a b : World} (h : Below n a b := by repeat (first | exact Below.refl _ _ | (with_reducible assumption) | refine bel_trans ?_ (by with_reducible assumption) | refine bel_trans ?_ (below_regrown _ _ _) | refine bel_drew ?_ | refine bel_drewN ?_ _ | refine bel_alloc ?_ _ | refine bel_grow ?_ (by with_reducible assumption) (by omega))) : Below n a b := h
theorem belS {n : Nat} {a b : World} (h : Below n a b := by repeat (first | exact Below.refl _ _ | (with_reducible assumption) | refine bel_trans ?_ (by with_reducible assumption) | refine Below.setCell ?_ (by simp) _ | refine bel_alloc ?_ _ | refine bel_grow ?_ (by with_reducible assumption) (by omega))) : Below n a b := h
theorem belS2 {n : Nat} {a b : World} (h : Below n a b := by (repeat refine bel_drew ?_); repeat (first | exact Below.refl _ _ | (with_reducible assumption) | refine bel_trans ?_ (by with_reducible assumption) | refine Below.setCell ?_ (by simp <;> omega) _ | refine bel_alloc ?_ _ | refine bel_drew ?_ | refine bel_grow ?_ (by with_reducible assumption) (by omega))) : Below n a b := h
/-- What is less by arithmetic. -/
theorem lt0 (a b : World) (h : a.heap.size < b.heap.size := by omega) : a.heap.size < b.heap.size := h
theorem ltA (a : World) (k : Nat) (b : World) (h : a.heap.size + k < b.heap.size := by omega) : a.heap.size + k < b.heap.size := h
theorem bel_cell {w a : World} (h : Below w.heap.size w a) {p : Addr} {v : Value} (hc : w.cell? p = some v) : a.cell? p = some v := by
  rw [h.cell (block_lt_of_cell hc)]; exact hc

/-- What stood before a call reads behind it as it did. -/
theorem bcell {W w1 : World} (hb : Below W.heap.size W w1) : ∀ b o, b < W.heap.size → w1.cell? ⟨b, o, none⟩ = W.cell? ⟨b, o, none⟩ := fun b o h => hb.cell (p := ⟨b, o, none⟩) h
theorem bfrozen {W w1 : World} (hb : Below W.heap.size W w1) : ∀ b o, b < W.heap.size → w1.frozen? ⟨b, o, none⟩ = W.frozen? ⟨b, o, none⟩ := fun b o h => hb.frozen (p := ⟨b, o, none⟩) h
/-- The world under a name. -/
theorem wp_name {P : Program} {c : Code} {Q : Exit → Act → World → Prop} {a : Act} {W : World} (h : ∀ W0, W0 = W → c.wp P Q a W0) : c.wp P Q a W := h W rfl
theorem cel_alloc {w : World} {o : Obj} {p : Addr} {v : Value} (hc : w.cell? p = some v) : (w.alloc o).cell? p = some v := bel_cell (bel_alloc (Below.refl _ _) o) hc
theorem cel_drew {w : World} {p : Addr} {v : Value} (hc : w.cell? p = some v) : w.drew.cell? p = some v := hc

/-- A region that draws its order and only reads, its callees make memory alone: walked once, in the order of the text. -/
theorem wp_region_qb {P : Program} {id : Nat} {Q : Exit → Act → World → Prop} {a : Act} {w : World} {l : List Oper} (hm : P.follows .mixedOrders = true) (hB : Region.lexB .any l.toArray = true)
    (h : (∀ (d : Nat) (os : Array Obj) (p : Addr), p.block < w.heap.size → (grow (redrawn w d) os).cell? p = w.cell? p) →
      wpQuiet P l.toArray (fun w' => ∃ p : Regrown, w' = grow (redrawn w p.d) p.os) (fun a' => ∀ w', (∃ p : Regrown, w' = grow (redrawn w p.d) p.os) → Q .normal a' w') l a) : (Code.region id l.toArray true).wp P Q a w :=
  wp_region_quiet_below hm hB (h fun d os _ hp => (below_regrown w d os).cell hp)
theorem bel_of_class {w w' : World} (h : ∃ p : Regrown, w' = grow (redrawn w p.d) p.os) : Below w.heap.size w w' := by
  obtain ⟨p, rfl⟩ := h
  exact below_regrown w p.d p.os

mutual
/-- The slice at A holds the parts of an expression. -/
def SubsAt (w : World) : Ex → Option Addr → Nat → Prop
  | .mk _ _ _ l, A, cap => l.length ≤ cap ∧ cap ≤ maxLen ∧ (0 < l.length → ∃ b off, A = some ⟨b, off, none⟩ ∧ RowAt w b l off)
/-- Expressions in a row of cells. -/
def RowAt (w : World) (b : Nat) : List Ex → Nat → Prop
  | [], _ => True
  | e :: l, off => (∃ A cap, w.cell? ⟨b, off, none⟩ = some (.int .i64 e.kind) ∧ w.cell? ⟨b, off + 1, none⟩ = some (.int .i32 e.n) ∧ w.cell? ⟨b, off + 2, none⟩ = some (.string e.name) ∧
      w.cell? ⟨b, off + 3, none⟩ = some (.slice A e.sub.length cap) ∧ SubsAt w e A cap) ∧ RowAt w b l (off + 4)
end

theorem SubsAt_iff {w : World} {e : Ex} {A : Option Addr} {cap : Nat} : SubsAt w e A cap ↔ e.sub.length ≤ cap ∧ cap ≤ maxLen ∧ (0 < e.sub.length → ∃ b off, A = some ⟨b, off, none⟩ ∧ RowAt w b e.sub off) := by
  cases e; simp [SubsAt, Ex.sub]

theorem RowAt.get {w : World} {b : Nat} : ∀ {l : List Ex} {off k : Nat} {x : Ex}, RowAt w b l off → l[k]? = some x →
    ∃ A cap, w.cell? ⟨b, off + k * 4, none⟩ = some (.int .i64 x.kind) ∧ w.cell? ⟨b, off + k * 4 + 1, none⟩ = some (.int .i32 x.n) ∧ w.cell? ⟨b, off + k * 4 + 2, none⟩ = some (.string x.name) ∧
      w.cell? ⟨b, off + k * 4 + 3, none⟩ = some (.slice A x.sub.length cap) ∧ SubsAt w x A cap
  | [], off, k, x, _, h => by simp at h
  | e :: l, off, 0, x, h, hk => by
    simp at hk; subst hk
    simp only [RowAt] at h
    simpa using h.1
  | e :: l, off, k + 1, x, h, hk => by
    simp only [RowAt] at h
    have := h.2.get (k := k) (by simpa using hk)
    have e1 : off + 4 + k * 4 = off + (k + 1) * 4 := by omega
    rwa [e1] at this

mutual
theorem SubsAt.keep {w w' : World} (hw : ∀ {p : Addr} {v : Value}, w.cell? p = some v → w'.cell? p = some v) : ∀ (e : Ex) {A : Option Addr} {cap : Nat}, SubsAt w e A cap → SubsAt w' e A cap
  | .mk _ _ _ l, A, cap, h => by
    simp only [SubsAt] at h ⊢
    refine ⟨h.1, h.2.1, fun hl => ?_⟩
    obtain ⟨b, off, hA, hr⟩ := h.2.2 hl
    exact ⟨b, off, hA, RowAt.keep hw l hr⟩
theorem RowAt.keep {w w' : World} (hw : ∀ {p : Addr} {v : Value}, w.cell? p = some v → w'.cell? p = some v) {b : Nat} : ∀ (l : List Ex) {off : Nat}, RowAt w b l off → RowAt w' b l off
  | [], off, _ => by simp [RowAt]
  | e :: l, off, h => by
    simp only [RowAt] at h ⊢
    obtain ⟨⟨A, cap, h0, h1, h2, h3, h4⟩, hr⟩ := h
    exact ⟨⟨A, cap, hw h0, hw h1, hw h2, hw h3, SubsAt.keep hw e h4⟩, RowAt.keep hw l hr⟩
end
theorem SubsAt.later {w w' : World} {e : Ex} {A : Option Addr} {cap : Nat} (h : SubsAt w e A cap) (hb : Below w.heap.size w w') : SubsAt w' e A cap := SubsAt.keep (fun hc => bel_cell hb hc) e h

/-- Part k of an expression whose parts lie at A. -/
theorem SubsAt.get {w : World} {e x : Ex} {A : Option Addr} {cap k : Nat} (h : SubsAt w e A cap) (hk : e.sub[k]? = some x) : ∃ b off A' cap', A = some ⟨b, off, none⟩ ∧
    w.cell? ⟨b, off + k * 4, none⟩ = some (.int .i64 x.kind) ∧ w.cell? ⟨b, off + k * 4 + 1, none⟩ = some (.int .i32 x.n) ∧ w.cell? ⟨b, off + k * 4 + 2, none⟩ = some (.string x.name) ∧
      w.cell? ⟨b, off + k * 4 + 3, none⟩ = some (.slice A' x.sub.length cap') ∧ SubsAt w x A' cap' := by
  rw [SubsAt_iff] at h
  have hlt : k < e.sub.length := (List.getElem?_eq_some_iff.1 hk).1
  obtain ⟨b, off, hA, hr⟩ := h.2.2 (by omega)
  obtain ⟨A', cap', h0, h1, h2, h3, h4⟩ := hr.get hk
  exact ⟨b, off, A', cap', hA, h0, h1, h2, h3, h4⟩
theorem SubsAt.len {w : World} {e : Ex} {A : Option Addr} {cap : Nat} (h : SubsAt w e A cap) : e.sub.length ≤ cap ∧ cap ≤ maxLen := by
  rw [SubsAt_iff] at h; exact ⟨h.1, h.2.1⟩

theorem ret_int {k : IntKind} {a b : Int} (h : a = b) : Ending.returned (.int k a) = .returned (.int k b) := by rw [h]
theorem ret_bool {a b : Bool} (h : a = b) : Ending.returned (.bool a) = .returned (.bool b) := by rw [h]
theorem ret_str {a b : ByteArray} (h : a = b) : Ending.returned (.string a) = .returned (.string b) := by rw [h]

/-- An expression as a value. -/
def exV (e : Ex) (A : Option Addr) (cap : Nat) : Value := .agg #[.int .i64 e.kind, .int .i32 e.n, .string e.name, .slice A e.sub.length cap]

/-- Four cells that hold a variable. -/
structure VarCells (w : World) (b off : Nat) (v : Va) : Prop where
  c0 : w.cell? ⟨b, off, none⟩ = some (.string v.name)
  c1 : w.cell? ⟨b, off + 1, none⟩ = some (.int .i64 v.type)
  c2 : w.cell? ⟨b, off + 2, none⟩ = some (.int .i64 v.ck)
  c3 : w.cell? ⟨b, off + 3, none⟩ = some (.string v.cn)
def vaV (v : Va) : Value := .agg #[.string v.name, .int .i64 v.type, .int .i64 v.ck, .string v.cn]
def VarsAt (w : World) (l : List Va) (A : Option Addr) (cap : Nat) : Prop :=
  l.length ≤ cap ∧ cap ≤ maxLen ∧ (0 < l.length → ∃ b off, A = some ⟨b, off, none⟩ ∧ ∀ k v, l[k]? = some v → VarCells w b (off + k * 4) v)

/-- Ten cells that hold an equation. -/
structure EqCells (w : World) (b off : Nat) (q : Qe) (A1 : Option Addr) (c1 : Nat) (A2 : Option Addr) (c2 : Nat) : Prop where
  g0 : w.cell? ⟨b, off, none⟩ = some (.string q.name)
  g1 : w.cell? ⟨b, off + 1, none⟩ = some (.int .i64 q.delay)
  g2 : w.cell? ⟨b, off + 2, none⟩ = some (.int .i64 q.first.kind)
  g3 : w.cell? ⟨b, off + 3, none⟩ = some (.int .i32 q.first.n)
  g4 : w.cell? ⟨b, off + 4, none⟩ = some (.string q.first.name)
  g5 : w.cell? ⟨b, off + 5, none⟩ = some (.slice A1 q.first.sub.length c1)
  g6 : w.cell? ⟨b, off + 6, none⟩ = some (.int .i64 q.e.kind)
  g7 : w.cell? ⟨b, off + 7, none⟩ = some (.int .i32 q.e.n)
  g8 : w.cell? ⟨b, off + 8, none⟩ = some (.string q.e.name)
  g9 : w.cell? ⟨b, off + 9, none⟩ = some (.slice A2 q.e.sub.length c2)
  s1 : SubsAt w q.first A1 c1
  s2 : SubsAt w q.e A2 c2
def qeV (q : Qe) (A1 : Option Addr) (c1 : Nat) (A2 : Option Addr) (c2 : Nat) : Value :=
  .agg #[.string q.name, .int .i64 q.delay, .int .i64 q.first.kind, .int .i32 q.first.n, .string q.first.name, .slice A1 q.first.sub.length c1, .int .i64 q.e.kind, .int .i32 q.e.n, .string q.e.name, .slice A2 q.e.sub.length c2]
def EqsAt (w : World) (l : List Qe) (A : Option Addr) (cap : Nat) : Prop :=
  l.length ≤ cap ∧ cap ≤ maxLen ∧ (0 < l.length → ∃ b off, A = some ⟨b, off, none⟩ ∧ ∀ k q, l[k]? = some q → ∃ A1 c1 A2 c2, EqCells w b (off + k * 10) q A1 c1 A2 c2)

theorem VarCells.later {w w' : World} {b off : Nat} {v : Va} (h : VarCells w b off v) (hb : Below w.heap.size w w') : VarCells w' b off v :=
  ⟨bel_cell hb h.c0, bel_cell hb h.c1, bel_cell hb h.c2, bel_cell hb h.c3⟩
theorem VarsAt.later {w w' : World} {l : List Va} {A : Option Addr} {cap : Nat} (h : VarsAt w l A cap) (hb : Below w.heap.size w w') : VarsAt w' l A cap :=
  ⟨h.1, h.2.1, fun hl => by
    obtain ⟨b, off, hA, hr⟩ := h.2.2 hl
    exact ⟨b, off, hA, fun k v hk => (hr k v hk).later hb⟩⟩
theorem VarsAt.get {w : World} {l : List Va} {A : Option Addr} {cap k : Nat} {v : Va} (h : VarsAt w l A cap) (hk : l[k]? = some v) : ∃ b off, A = some ⟨b, off, none⟩ ∧ b < w.heap.size ∧ VarCells w b (off + k * 4) v := by
  have hlt : k < l.length := (List.getElem?_eq_some_iff.1 hk).1
  obtain ⟨b, off, hA, hr⟩ := h.2.2 (by omega)
  exact ⟨b, off, hA, block_lt_of_cell (hr k v hk).c0, hr k v hk⟩
theorem VarsAt.len {w : World} {l : List Va} {A : Option Addr} {cap : Nat} (h : VarsAt w l A cap) : l.length ≤ cap ∧ cap ≤ maxLen := ⟨h.1, h.2.1⟩
theorem EqCells.later {w w' : World} {b off : Nat} {q : Qe} {A1 : Option Addr} {c1 : Nat} {A2 : Option Addr} {c2 : Nat} (h : EqCells w b off q A1 c1 A2 c2) (hb : Below w.heap.size w w') : EqCells w' b off q A1 c1 A2 c2 :=
  ⟨bel_cell hb h.g0, bel_cell hb h.g1, bel_cell hb h.g2, bel_cell hb h.g3, bel_cell hb h.g4, bel_cell hb h.g5, bel_cell hb h.g6, bel_cell hb h.g7, bel_cell hb h.g8, bel_cell hb h.g9, h.s1.later hb, h.s2.later hb⟩
theorem EqsAt.later {w w' : World} {l : List Qe} {A : Option Addr} {cap : Nat} (h : EqsAt w l A cap) (hb : Below w.heap.size w w') : EqsAt w' l A cap :=
  ⟨h.1, h.2.1, fun hl => by
    obtain ⟨b, off, hA, hr⟩ := h.2.2 hl
    exact ⟨b, off, hA, fun k v hk => by
      obtain ⟨A1, c1, A2, c2, h⟩ := hr k v hk
      exact ⟨A1, c1, A2, c2, h.later hb⟩⟩⟩
theorem EqsAt.get {w : World} {l : List Qe} {A : Option Addr} {cap k : Nat} {q : Qe} (h : EqsAt w l A cap) (hk : l[k]? = some q) : ∃ b off A1 c1 A2 c2, A = some ⟨b, off, none⟩ ∧ b < w.heap.size ∧ EqCells w b (off + k * 10) q A1 c1 A2 c2 := by
  have hlt : k < l.length := (List.getElem?_eq_some_iff.1 hk).1
  obtain ⟨b, off, hA, hr⟩ := h.2.2 (by omega)
  obtain ⟨A1, c1, A2, c2, h⟩ := hr k q hk
  exact ⟨b, off, A1, c1, A2, c2, hA, block_lt_of_cell h.g0, h⟩
theorem EqsAt.len {w : World} {l : List Qe} {A : Option Addr} {cap : Nat} (h : EqsAt w l A cap) : l.length ≤ cap ∧ cap ≤ maxLen := ⟨h.1, h.2.1⟩

/-- Where the lists of a program lie. -/
structure PrA where
  A1 : Option Addr
  c1 : Nat
  A2 : Option Addr
  c2 : Nat
  A3 : Option Addr
  c3 : Nat
  A4 : Option Addr
  c4 : Nat
structure PrAt (w : World) (p : Pr) (a : PrA) : Prop where
  ins : VarsAt w p.ins a.A1 a.c1
  outs : VarsAt w p.outs a.A2 a.c2
  locals : VarsAt w p.locals a.A3 a.c3
  eqs : EqsAt w p.eqs a.A4 a.c4
theorem PrAt.later {w w' : World} {p : Pr} {a : PrA} (h : PrAt w p a) (hb : Below w.heap.size w w') : PrAt w' p a := ⟨h.ins.later hb, h.outs.later hb, h.locals.later hb, h.eqs.later hb⟩
def prV (p : Pr) (a : PrA) : Value := .agg #[.string p.name, .slice a.A1 p.ins.length a.c1, .slice a.A2 p.outs.length a.c2, .slice a.A3 p.locals.length a.c3, .slice a.A4 p.eqs.length a.c4]

end Go.Proofs.YtknfcamdfdfoeaaDoor

/- An argument that reads as data lies in memory as Rep says: expressions, lists of variables, lists of equations, programs. -/
namespace Go.Proofs.YtknfcamdfdfoeaaDoor
open Go.ChangeShapes Go.WideShapes Go.ChangeAt Go.RowKit Go.Deep

section
variable {H : Type} {enc : TypeId × Value → H} {w : World} {spare : Nat → Bool} {held : Bool}

theorem list_of {α : Type} (R : Nat → α → Prop) : ∀ n, (∀ i, i < n → ∃ x, R i x) → ∃ l : List α, l.length = n ∧ ∀ (k : Nat) (x : α), l[k]? = some x → R k x
  | 0, _ => ⟨[], rfl, fun k x h => by simp at h⟩
  | n + 1, h => by
    obtain ⟨l, hl, hr⟩ := list_of R n fun i hi => h i (by omega)
    obtain ⟨x, hx⟩ := h n (by omega)
    refine ⟨l ++ [x], by simp [hl], fun k y hk => ?_⟩
    by_cases hkn : k < l.length
    · rw [List.getElem?_append_left hkn] at hk; exact hr k y hk
    · rw [List.getElem?_append_right (by omega)] at hk
      have h0 : k - l.length = 0 := by
        rcases Nat.eq_zero_or_pos (k - l.length) with h | h
        · exact h
        · rw [List.getElem?_eq_none (by simp; omega)] at hk; cases hk
      rw [h0] at hk
      obtain rfl : x = y := by simpa using hk
      have : k = n := by omega
      rw [this]; exact hx

theorem rowAt_of {b : Nat} : ∀ (l : List Ex) (off : Nat), (∀ (k : Nat) (x : Ex), l[k]? = some x → ∃ A cap, w.cell? ⟨b, off + k * 4, none⟩ = some (.int .i64 x.kind) ∧ w.cell? ⟨b, off + k * 4 + 1, none⟩ = some (.int .i32 x.n) ∧ w.cell? ⟨b, off + k * 4 + 2, none⟩ = some (.string x.name) ∧
      w.cell? ⟨b, off + k * 4 + 3, none⟩ = some (.slice A x.sub.length cap) ∧ SubsAt w x A cap) → RowAt w b l off
  | [], off, _ => by simp [RowAt]
  | x :: l, off, h => by
    rw [RowAt]
    refine ⟨?_, rowAt_of l (off + 4) fun k y hk => ?_⟩
    · simpa using h 0 x rfl
    · have := h (k + 1) y (by simpa using hk)
      rwa [show off + (k + 1) * 4 = off + 4 + k * 4 from by omega] at this

theorem okl_of : ∀ {l : List Ex}, (∀ x ∈ l, Ex.OK x) → Ex.OKL l
  | [], _ => by simp [Ex.OKL]
  | x :: l, h => by
    simp only [Ex.OKL]
    exact ⟨h x (by simp), okl_of fun y hy => h y (by simp [hy])⟩

theorem i64_of {k : Int} (h : (Lit.int .i64 k).wf = true) : I64 k := by
  simp [Lit.wf, IntKind.min, IntKind.max, IntKind.signed, IntKind.bits] at h
  unfold I64; omega
theorem i32_of {k : Int} (h : (Lit.int .i32 k).wf = true) : I32 k := by
  simp [Lit.wf, IntKind.min, IntKind.max, IntKind.signed, IntKind.bits] at h
  unfold I32; omega

theorem cellsInt : Tryd.prog.cellsOf 3 = 1 := by kernel_rfl
theorem cellsInt32 : Tryd.prog.cellsOf 21 = 1 := by kernel_rfl
theorem cellsString : Tryd.prog.cellsOf 9 = 1 := by kernel_rfl
theorem cellsClock : Tryd.prog.cellsOf 58 = 2 := by kernel_rfl
theorem cellsVar : Tryd.prog.cellsOf 60 = 4 := by kernel_rfl
theorem cellsVars : Tryd.prog.cellsOf 22 = 1 := by kernel_rfl
theorem cellsExpr : Tryd.prog.cellsOf 54 = 4 := by kernel_rfl
theorem cellsExprs : Tryd.prog.cellsOf 52 = 1 := by kernel_rfl
theorem cellsEq : Tryd.prog.cellsOf 56 = 10 := by kernel_rfl
theorem cellsEqs : Tryd.prog.cellsOf 23 = 1 := by kernel_rfl
theorem cellsProgram : Tryd.prog.cellsOf 25 = 5 := by kernel_rfl

/-- What the cells of an element are. -/
theorem cells_at {a : Addr} {n : Nat} {cs : List Value} (h : w.cells? 0 a n = some cs) : cs.length = n ∧ ∀ j v, cs[j]? = some v → w.cell? (a.add j) = some v := by
  obtain ⟨_, hl, hc⟩ := World.cells?_some h
  refine ⟨hl, fun j v hj => ?_⟩
  have hlt : j < n := by rw [← hl]; exact (List.getElem?_eq_some_iff.1 hj).1
  rw [hc j hlt, hj]

theorem open_ex : ∀ (fuel : Nat) (cs : List Value) (x : DataW H × List MemPlace), DataW.trod enc Tryd.prog w 0 spare held fuel 54 cs = some x →
    ∃ (e : Ex) (A : Option Addr) (cap : Nat), cs = [.int .i64 e.kind, .int .i32 e.n, .string e.name, .slice A e.sub.length cap] ∧ SubsAt w e A cap ∧ e.OK := by
  intro fuel
  induction fuel using Nat.strongRecOn with
  | ind fuel ih =>
  intro cs x h
  obtain ⟨xs, n, rfl, hx, hlen, hxl, hg⟩ := DataW.trod_struct Tryd.underlying54 h
  rw [cellsExpr] at hlen
  match cs, hlen, xs, hxl with
  | [c0, c1, c2, c3], _, [y0, y1, y2, y3], _ =>
    have g0 : DataW.trod enc Tryd.prog w 0 spare held n 3 (([c0, c1, c2, c3].drop 0).take (Tryd.prog.cellsOf 3)) = some y0 := hg 0 _ rfl
    rw [cellsInt] at g0
    have g1 : DataW.trod enc Tryd.prog w 0 spare held n 21 (([c0, c1, c2, c3].drop 1).take (Tryd.prog.cellsOf 21)) = some y1 := hg 1 _ rfl
    rw [cellsInt32] at g1
    have g2 : DataW.trod enc Tryd.prog w 0 spare held n 9 (([c0, c1, c2, c3].drop 2).take (Tryd.prog.cellsOf 9)) = some y2 := hg 2 _ rfl
    rw [cellsString] at g2
    have g3 : DataW.trod enc Tryd.prog w 0 spare held n 52 (([c0, c1, c2, c3].drop 3).take (Tryd.prog.cellsOf 52)) = some y3 := hg 3 _ rfl
    rw [cellsExprs] at g3
    obtain ⟨k, hk, _, wk⟩ := DataW.trod_int Tryd.underlying3 g0
    obtain ⟨m, hm, _, wm⟩ := DataW.trod_int Tryd.underlying21 g1
    obtain ⟨s, hs, _, ws⟩ := DataW.trod_string Tryd.underlying9 g2
    simp at hk hm hs
    subst hk hm hs
    rcases DataW.trod_slice Tryd.underlying52 g3 with ⟨hc, _⟩ | ⟨a, len, cap, elems, rest, n', hn', hc, _, _, hl, hmx, hel, hget, _, _⟩
    · simp at hc
      subst hc
      refine ⟨.mk k m s [], none, 0, rfl, ?_, ?_⟩
      · rw [SubsAt_iff]; exact ⟨Nat.le_refl _, by unfold maxLen; omega, fun h => absurd h (by simp [Ex.sub])⟩
      · simp only [Ex.OK, Ex.OKL]; exact ⟨i64_of wk, i32_of wm, ws, trivial⟩
    · simp at hc
      subst hc
      rw [cellsExpr] at hget
      obtain ⟨l, hll, hr⟩ := list_of (fun i (e : Ex) => ∃ (A : Option Addr) (cap : Nat), w.cell? ((a.add (i * 4)).add 0) = some (.int .i64 e.kind) ∧ w.cell? ((a.add (i * 4)).add 1) = some (.int .i32 e.n) ∧ w.cell? ((a.add (i * 4)).add 2) = some (.string e.name) ∧
          w.cell? ((a.add (i * 4)).add 3) = some (.slice A e.sub.length cap) ∧ SubsAt w e A cap ∧ e.OK) len (fun i hi => by
        have := hget i hi
        rw [List.getElem?_eq_getElem (by omega)] at this
        obtain ⟨cs', h1, h2⟩ := Option.bind_eq_some_iff.1 this
        obtain ⟨e, A, cap', rfl, h3, h4⟩ := ih n' (by omega) cs' _ h2
        obtain ⟨_, hat⟩ := cells_at h1
        exact ⟨e, A, cap', hat 0 _ rfl, hat 1 _ rfl, hat 2 _ rfl, hat 3 _ rfl, h3, h4⟩)
      refine ⟨.mk k m s l, some a, cap, by simp [Ex.kind, Ex.n, Ex.name, Ex.sub, hll], ?_, ?_⟩
      · rw [SubsAt_iff]
        refine ⟨by simp [Ex.sub]; omega, hmx, fun hp => ?_⟩
        simp only [Ex.sub] at hp
        obtain ⟨b, off, spot⟩ := a
        have hspot : spot = none := by
          obtain ⟨A, cap', h0, _⟩ := hr 0 l[0] (List.getElem?_eq_getElem hp)
          simpa [Addr.add] using World.cell?_spot h0
        subst hspot
        refine ⟨b, off, rfl, rowAt_of _ _ fun k x hk => ?_⟩
        obtain ⟨A, cap', h0, h1, h2, h3, h4, _⟩ := hr k x (by simpa [Ex.sub] using hk)
        simp only [Go.WideShapes.add_plain] at h0 h1 h2 h3
        exact ⟨A, cap', h0, h1, h2, h3, h4⟩
      · simp only [Ex.OK]
        refine ⟨i64_of wk, i32_of wm, ws, okl_of fun x hx => ?_⟩
        obtain ⟨i, hi⟩ := List.getElem?_of_mem hx
        obtain ⟨_, _, _, _, _, _, _, h⟩ := hr i x hi
        exact h

/-- The bounds of a variable. -/
def VaOK (v : Va) : Prop := v.name.size ≤ maxLen ∧ I64 v.type ∧ I64 v.ck ∧ v.cn.size ≤ maxLen

theorem open_va {fuel : Nat} {cs : List Value} {x : DataW H × List MemPlace} (h : DataW.trod enc Tryd.prog w 0 spare held fuel 60 cs = some x) :
    ∃ v : Va, cs = [.string v.name, .int .i64 v.type, .int .i64 v.ck, .string v.cn] ∧ VaOK v := by
  obtain ⟨xs, n, rfl, hx, hlen, hxl, hg⟩ := DataW.trod_struct Tryd.underlying60 h
  rw [cellsVar] at hlen
  match cs, hlen, xs, hxl with
  | [c0, c1, c2, c3], _, [y0, y1, y2], _ =>
    have g0 : DataW.trod enc Tryd.prog w 0 spare held n 9 (([c0, c1, c2, c3].drop 0).take (Tryd.prog.cellsOf 9)) = some y0 := hg 0 _ rfl
    rw [cellsString] at g0
    have g1 : DataW.trod enc Tryd.prog w 0 spare held n 3 (([c0, c1, c2, c3].drop 1).take (Tryd.prog.cellsOf 3)) = some y1 := hg 1 _ rfl
    rw [cellsInt] at g1
    have g2 : DataW.trod enc Tryd.prog w 0 spare held n 58 (([c0, c1, c2, c3].drop 2).take (Tryd.prog.cellsOf 58)) = some y2 := hg 2 _ rfl
    rw [cellsClock] at g2
    obtain ⟨s, hs, _, ws⟩ := DataW.trod_string Tryd.underlying9 g0
    obtain ⟨k, hk, _, wk⟩ := DataW.trod_int Tryd.underlying3 g1
    obtain ⟨xs', n', rfl, _, _, hxl', hg'⟩ := DataW.trod_struct Tryd.underlying58 g2
    match xs', hxl' with
    | [z0, z1], _ =>
      have k0 : DataW.trod enc Tryd.prog w 0 spare held n' 3 (((([c0, c1, c2, c3].drop 2).take 2).drop 0).take (Tryd.prog.cellsOf 3)) = some z0 := hg' 0 _ rfl
      rw [cellsInt] at k0
      have k1 : DataW.trod enc Tryd.prog w 0 spare held n' 9 (((([c0, c1, c2, c3].drop 2).take 2).drop 1).take (Tryd.prog.cellsOf 9)) = some z1 := hg' 1 _ rfl
      rw [cellsString] at k1
      obtain ⟨ck, hck, _, wck⟩ := DataW.trod_int Tryd.underlying3 k0
      obtain ⟨cn, hcn, _, wcn⟩ := DataW.trod_string Tryd.underlying9 k1
      simp at hs hk hck hcn
      subst hs hk hck hcn
      exact ⟨⟨s, k, ck, cn⟩, rfl, ws, i64_of wk, i64_of wck, wcn⟩

theorem open_vars {fuel : Nat} {cs : List Value} {x : DataW H × List MemPlace} (h : DataW.trod enc Tryd.prog w 0 spare held fuel 22 cs = some x) :
    ∃ (l : List Va) (A : Option Addr) (cap : Nat), cs = [.slice A l.length cap] ∧ VarsAt w l A cap ∧ ∀ v ∈ l, VaOK v := by
  rcases DataW.trod_slice Tryd.underlying22 h with ⟨rfl, _⟩ | ⟨a, len, cap, elems, rest, n', hn', rfl, _, _, hl, hmx, hel, hget, _, _⟩
  · exact ⟨[], none, 0, rfl, ⟨Nat.le_refl _, by unfold maxLen; omega, fun h => absurd h (by simp)⟩, by simp⟩
  · rw [cellsVar] at hget
    obtain ⟨l, hll, hr⟩ := list_of (fun i (v : Va) => w.cell? ((a.add (i * 4)).add 0) = some (.string v.name) ∧ w.cell? ((a.add (i * 4)).add 1) = some (.int .i64 v.type) ∧ w.cell? ((a.add (i * 4)).add 2) = some (.int .i64 v.ck) ∧
        w.cell? ((a.add (i * 4)).add 3) = some (.string v.cn) ∧ VaOK v) len (fun i hi => by
      have := hget i hi
      rw [List.getElem?_eq_getElem (by omega)] at this
      obtain ⟨cs', h1, h2⟩ := Option.bind_eq_some_iff.1 this
      obtain ⟨v, rfl, h3⟩ := open_va h2
      obtain ⟨_, hat⟩ := cells_at h1
      exact ⟨v, hat 0 _ rfl, hat 1 _ rfl, hat 2 _ rfl, hat 3 _ rfl, h3⟩)
    refine ⟨l, some a, cap, by rw [hll], ⟨by omega, hmx, fun hp => ?_⟩, fun v hv => ?_⟩
    · obtain ⟨b, off, spot⟩ := a
      have hspot : spot = none := by
        obtain ⟨h0, _⟩ := hr 0 l[0] (List.getElem?_eq_getElem hp)
        simpa [Addr.add] using World.cell?_spot h0
      subst hspot
      refine ⟨b, off, rfl, fun k x hk => ?_⟩
      obtain ⟨h0, h1, h2, h3, _⟩ := hr k x hk
      simp only [Go.WideShapes.add_plain] at h0 h1 h2 h3
      exact ⟨h0, h1, h2, h3⟩
    · obtain ⟨i, hi⟩ := List.getElem?_of_mem hv
      exact (hr i v hi).2.2.2.2

/-- The bounds of an equation. -/
def QeOK (q : Qe) : Prop := q.name.size ≤ maxLen ∧ I64 q.delay ∧ q.first.OK ∧ q.e.OK

theorem open_qe {fuel : Nat} {cs : List Value} {x : DataW H × List MemPlace} (h : DataW.trod enc Tryd.prog w 0 spare held fuel 56 cs = some x) :
    ∃ (q : Qe) (A1 : Option Addr) (c1 : Nat) (A2 : Option Addr) (c2 : Nat), cs = [.string q.name, .int .i64 q.delay, .int .i64 q.first.kind, .int .i32 q.first.n, .string q.first.name, .slice A1 q.first.sub.length c1, .int .i64 q.e.kind, .int .i32 q.e.n, .string q.e.name, .slice A2 q.e.sub.length c2] ∧
      SubsAt w q.first A1 c1 ∧ SubsAt w q.e A2 c2 ∧ QeOK q := by
  obtain ⟨xs, n, rfl, hx, hlen, hxl, hg⟩ := DataW.trod_struct Tryd.underlying56 h
  rw [cellsEq] at hlen
  match cs, hlen, xs, hxl with
  | [c0, c1, c2, c3, c4, c5, c6, c7, c8, c9], _, [y0, y1, y2, y3], _ =>
    have g0 : DataW.trod enc Tryd.prog w 0 spare held n 9 (([c0, c1, c2, c3, c4, c5, c6, c7, c8, c9].drop 0).take (Tryd.prog.cellsOf 9)) = some y0 := hg 0 _ rfl
    rw [cellsString] at g0
    have g1 : DataW.trod enc Tryd.prog w 0 spare held n 3 (([c0, c1, c2, c3, c4, c5, c6, c7, c8, c9].drop 1).take (Tryd.prog.cellsOf 3)) = some y1 := hg 1 _ rfl
    rw [cellsInt] at g1
    have g2 : DataW.trod enc Tryd.prog w 0 spare held n 54 (([c0, c1, c2, c3, c4, c5, c6, c7, c8, c9].drop 2).take (Tryd.prog.cellsOf 54)) = some y2 := hg 2 _ rfl
    rw [cellsExpr] at g2
    have g3 : DataW.trod enc Tryd.prog w 0 spare held n 54 (([c0, c1, c2, c3, c4, c5, c6, c7, c8, c9].drop 6).take (Tryd.prog.cellsOf 54)) = some y3 := hg 3 _ rfl
    rw [cellsExpr] at g3
    obtain ⟨s, hs, _, ws⟩ := DataW.trod_string Tryd.underlying9 g0
    obtain ⟨k, hk, _, wk⟩ := DataW.trod_int Tryd.underlying3 g1
    obtain ⟨e1, A1, k1, he1, hs1, ho1⟩ := open_ex _ _ _ g2
    obtain ⟨e2, A2, k2, he2, hs2, ho2⟩ := open_ex _ _ _ g3
    simp at hs hk he1 he2
    obtain ⟨rfl, rfl, rfl, rfl⟩ := he1
    obtain ⟨rfl, rfl, rfl, rfl⟩ := he2
    subst hs hk
    exact ⟨⟨s, k, e1, e2⟩, A1, k1, A2, k2, rfl, hs1, hs2, ws, i64_of wk, ho1, ho2⟩

theorem open_eqs {fuel : Nat} {cs : List Value} {x : DataW H × List MemPlace} (h : DataW.trod enc Tryd.prog w 0 spare held fuel 23 cs = some x) :
    ∃ (l : List Qe) (A : Option Addr) (cap : Nat), cs = [.slice A l.length cap] ∧ EqsAt w l A cap ∧ ∀ q ∈ l, QeOK q := by
  rcases DataW.trod_slice Tryd.underlying23 h with ⟨rfl, _⟩ | ⟨a, len, cap, elems, rest, n', hn', rfl, _, _, hl, hmx, hel, hget, _, _⟩
  · exact ⟨[], none, 0, rfl, ⟨Nat.le_refl _, by unfold maxLen; omega, fun h => absurd h (by simp)⟩, by simp⟩
  · rw [cellsEq] at hget
    obtain ⟨l, hll, hr⟩ := list_of (fun i (q : Qe) => ∃ (A1 : Option Addr) (c1 : Nat) (A2 : Option Addr) (c2 : Nat), (∀ j v, [.string q.name, .int .i64 q.delay, .int .i64 q.first.kind, .int .i32 q.first.n, .string q.first.name, .slice A1 q.first.sub.length c1, .int .i64 q.e.kind, .int .i32 q.e.n, .string q.e.name, Value.slice A2 q.e.sub.length c2][j]? = some v → w.cell? ((a.add (i * 10)).add j) = some v) ∧
        SubsAt w q.first A1 c1 ∧ SubsAt w q.e A2 c2 ∧ QeOK q) len (fun i hi => by
      have := hget i hi
      rw [List.getElem?_eq_getElem (by omega)] at this
      obtain ⟨cs', h1, h2⟩ := Option.bind_eq_some_iff.1 this
      obtain ⟨q, A1, c1, A2, c2, rfl, h3⟩ := open_qe h2
      obtain ⟨_, hat⟩ := cells_at h1
      exact ⟨q, A1, c1, A2, c2, hat, h3⟩)
    refine ⟨l, some a, cap, by rw [hll], ⟨by omega, hmx, fun hp => ?_⟩, fun q hq => ?_⟩
    · obtain ⟨b, off, spot⟩ := a
      have hspot : spot = none := by
        obtain ⟨A1, c1, A2, c2, h0, _⟩ := hr 0 l[0] (List.getElem?_eq_getElem hp)
        simpa [Addr.add] using World.cell?_spot (h0 0 _ rfl)
      subst hspot
      refine ⟨b, off, rfl, fun k x hk => ?_⟩
      obtain ⟨A1, c1, A2, c2, h0, h1, h2, _⟩ := hr k x hk
      simp only [Go.WideShapes.add_plain] at h0
      exact ⟨A1, c1, A2, c2, ⟨h0 0 _ rfl, h0 1 _ rfl, h0 2 _ rfl, h0 3 _ rfl, h0 4 _ rfl, h0 5 _ rfl, h0 6 _ rfl, h0 7 _ rfl, h0 8 _ rfl, h0 9 _ rfl, h1, h2⟩⟩
    · obtain ⟨i, hi⟩ := List.getElem?_of_mem hq
      obtain ⟨_, _, _, _, _, _, _, h⟩ := hr i q hi
      exact h

/-- The bounds of a program. -/
structure PrOK (p : Pr) : Prop where
  name : p.name.size ≤ maxLen
  ins : ∀ v ∈ p.ins, VaOK v
  outs : ∀ v ∈ p.outs, VaOK v
  locals : ∀ v ∈ p.locals, VaOK v
  eqs : ∀ q ∈ p.eqs, QeOK q

theorem open_pr {base : Nat} {v : Value} {d : DataW H} {ps : List MemPlace} (hv : Value.okWide Tryd.prog w .any base 25 v) (h : DataW.Trod enc Tryd.prog w 0 spare held 25 v d ps) :
    ∃ (p : Pr) (a : PrA), v = prV p a ∧ PrAt w p a ∧ PrOK p := by
  obtain ⟨cs, rfl, hsz⟩ := okWide_struct Tryd.underlying25 hv
  obtain ⟨fuel, hf⟩ := h
  obtain ⟨xs, n, rfl, hx, hlen, hxl, hg⟩ := DataW.trod_struct Tryd.underlying25 hf
  obtain ⟨cs⟩ := cs
  simp only [Value.cells] at hlen hg
  rw [cellsProgram] at hlen
  match cs, hlen, xs, hxl with
  | [c0, c1, c2, c3, c4], _, [y0, y1, y2, y3, y4], _ =>
    have g0 : DataW.trod enc Tryd.prog w 0 spare held n 9 (([c0, c1, c2, c3, c4].drop 0).take (Tryd.prog.cellsOf 9)) = some y0 := hg 0 _ rfl
    rw [cellsString] at g0
    have g1 : DataW.trod enc Tryd.prog w 0 spare held n 22 (([c0, c1, c2, c3, c4].drop 1).take (Tryd.prog.cellsOf 22)) = some y1 := hg 1 _ rfl
    rw [cellsVars] at g1
    have g2 : DataW.trod enc Tryd.prog w 0 spare held n 22 (([c0, c1, c2, c3, c4].drop 2).take (Tryd.prog.cellsOf 22)) = some y2 := hg 2 _ rfl
    rw [cellsVars] at g2
    have g3 : DataW.trod enc Tryd.prog w 0 spare held n 22 (([c0, c1, c2, c3, c4].drop 3).take (Tryd.prog.cellsOf 22)) = some y3 := hg 3 _ rfl
    rw [cellsVars] at g3
    have g4 : DataW.trod enc Tryd.prog w 0 spare held n 23 (([c0, c1, c2, c3, c4].drop 4).take (Tryd.prog.cellsOf 23)) = some y4 := hg 4 _ rfl
    rw [cellsEqs] at g4
    obtain ⟨s, hs, _, ws⟩ := DataW.trod_string Tryd.underlying9 g0
    obtain ⟨l1, A1, n1, h1, v1, o1⟩ := open_vars g1
    obtain ⟨l2, A2, n2, h2, v2, o2⟩ := open_vars g2
    obtain ⟨l3, A3, n3, h3, v3, o3⟩ := open_vars g3
    obtain ⟨l4, A4, n4, h4, v4, o4⟩ := open_eqs g4
    simp at hs h1 h2 h3 h4
    subst hs h1 h2 h3 h4
    exact ⟨⟨s, l1, l2, l3, l4⟩, ⟨A1, n1, A2, n2, A3, n3, A4, n4⟩, rfl, ⟨v1, v2, v3, v4⟩, ⟨ws, o1, o2, o3, o4⟩⟩
end

section
variable {H : Type} {enc : TypeId × Value → H} {P : Program}
/-- The last step of a row whose walk says Below alone. -/
theorem post_of_below {f : Func} {s : ChangeSpec} {apart fresh handsOn again : Bool} {W W' : World} {args : Array Value} {v : Value} {ds gs : List (DataW H)} {before pa pv : List MemPlace}
    (hW : DataW.Whole enc P f.params.toList s.vars apart W args.toList ds gs before)
    (hres : ∀ (b : Nat) (sp : Nat → Bool) (hd : Bool), DataW.TrodAll enc P W' b sp hd f.resultTypes.toList (v.resultList f.resultTypes.size) (s.fn H (ds ++ gs)).results [])
    (hargs : ∀ sp : Nat → Bool, (∀ p ∈ before, sp p.block = true) → DataW.TrodAll enc P W' 0 sp true f.params.toList args.toList (s.fn H (ds ++ gs)).args pa)
    (hvars : ∀ sp : Nat → Bool, (∀ p ∈ before, sp p.block = true) → DataW.TrodVars enc P W' sp s.vars (s.fn H (ds ++ gs)).vars pv)
    (hps : before = pa ++ pv) (hb : Below W.heap.size W W')
    (hok : ∀ (j : Nat) (t : TypeId) (r : Value), f.resultTypes[j]? = some t → (v.resultList f.resultTypes.size)[j]? = some r → Value.okWide P W' .any 0 t r) :
    s.post enc P f apart fresh handsOn again W args v W' := by
  have hlt : ∀ p ∈ before, p.block < W.heap.size := fun p hp => hW.lt p hp
  have hold : ∀ p ∈ before, (fun b => decide (b < W.heap.size)) p.block = true := fun p hp => by simpa using hlt p hp
  refine ⟨ds, gs, before, [], pa, pv, hW, hres _ _ _, hargs _ hold, hvars _ hold, World.keptBut_mono (fun p hp => ⟨hp, ?_⟩) (hb.frame (· ∈ before)), fun _ => ?_⟩
  · rw [hps, List.mem_append] at hp
    exact Or.inr hp
  · obtain ⟨_, _, _, _, _, hz, hn⟩ := hW
    refine ⟨hok, _, _, ([] ++ pa) ++ pv, ⟨[] ++ pa, pv, trodAll_append (hargs _ (fun _ _ => rfl)) (hres _ _ _), hvars _ (fun _ _ => rfl), rfl, ?_, ?_⟩, ?_⟩
    · intro b off hp
      have hin : MemPlace.cell b off ∈ before := by rw [hps]; simpa using hp
      rw [hb.frozen (hlt _ hin)]
      exact hz b off hin
    · intro ha
      have := hn ha
      rw [hps] at this
      simpa using this
    · intro p hp _
      rw [hps]
      simpa using hp
end
theorem Tryd.own : ownKnob Tryd.prog.godebug = none := by kernel_rfl
theorem Tryd.laidOut : laidOutB Tryd.prog = true := by kernel_rfl
theorem recProgram : Tryd.prog.readableRec 25 = true := by kernel_rfl
theorem rowProgram : 25 < Tryd.prog.types.size := of_decide_eq_true (by kernel_rfl)

end Go.Proofs.YtknfcamdfdfoeaaDoor

/- Slices that a call makes for itself: append of one element; what stays as it is. -/
namespace Go.Proofs.YtknfcamdfdfoeaaDoor
open Go.RowKit Go.Sort

section
variable {P : Program} {w w' : World} {base : Nat} {e : TypeId} {size n : Nat} {v : Value} {xs : List Value}

theorem own_keep (h : w.ownsRow base e size v n xs) (hb : ∀ k, k < w.heap.size → w'.heap[k]? = w.heap[k]?) : w'.ownsRow base e size v n xs := by
  obtain ⟨h1, h2⟩ := h
  refine ⟨h1, ?_⟩
  rcases h2 with h2 | ⟨g, cap, cur, hv, hg, hh, r⟩
  · exact .inl h2
  · refine .inr ⟨g, cap, cur, hv, hg, ?_, r⟩
    have hlt : g < w.heap.size := by
      rcases Nat.lt_or_ge g w.heap.size with h | h
      · exact h
      · rw [Array.getElem?_eq_none h] at hh; cases hh
    rw [hb g hlt]; exact hh
theorem own_bel (h : w.ownsRow base e size v n xs) (hb : Below w.heap.size w w') : w'.ownsRow base e size v n xs := own_keep h hb.block
theorem own_alloc (h : w.ownsRow base e size v n xs) {o : Obj} : (w.alloc o).ownsRow base e size v n xs := h.alloc o
theorem own_drew (h : w.ownsRow base e size v n xs) : w.drew.ownsRow base e size v n xs := h
/-- An owned slice that is not empty: where it lies. -/
theorem own_get (h : w.ownsRow base e size v n xs) (hn : 0 < n) : ∃ g cap, v = .slice (some ⟨g, 0, none⟩) n cap ∧ base ≤ g ∧ g < w.heap.size ∧ n ≤ cap ∧ cap ≤ maxLen ∧ ∀ j u, xs[j]? = some u → w.cell? ⟨g, j, none⟩ = some u := by
  have hlt := h.lt
  obtain ⟨hx, h'⟩ := h
  have h : w.ownsRow base e size v n xs := ⟨hx, h'⟩
  rcases h' with ⟨rfl, h0⟩ | ⟨g, cap, cur, rfl, hg, hh, h1, h2, _⟩
  · omega
  · refine ⟨g, cap, rfl, hg, (hlt g rfl).2, h1, h2, fun j u hj => ?_⟩
    have := h.cells rfl j u hj
    have hadd : (⟨g, 0, none⟩ : Addr).add j = ⟨g, j, none⟩ := by unfold Addr.add; split <;> simp_all
    rwa [hadd] at this
theorem own_slice (h : w.ownsRow base e size v n xs) : ∃ A cap, v = .slice A n cap ∧ n ≤ cap ∧ cap ≤ maxLen := by
  rcases h.2 with ⟨rfl, rfl⟩ | ⟨g, cap, cur, rfl, hg, hh, h1, h2, _⟩
  · exact ⟨none, 0, rfl, Nat.le_refl _, by simp [maxLen]⟩
  · exact ⟨_, cap, rfl, h1, h2⟩
theorem bel_grow {a b c : World} {B : Nat} (h : Below a.heap.size a b) (k : Below B b c) (hB : a.heap.size ≤ B) : Below a.heap.size a c := h.trans (k.mono hB)
theorem cell_new (w : World) (c : Array Value) (t : TypeId) (j : Nat) : (w.alloc (.cells c t)).cell? ⟨w.heap.size, j, none⟩ = c[j]? := cell_of_row _ _ _ _ _ _ (heap_alloc_new w _)
/-- append of one element to a slice of the call's own. -/
theorem wpList_app {ops : Array Oper} {rest : List Oper} {o : Oper} {a : Act} {Q : Exit → Act → World → Prop} (hgd : o.guard = none) (s x : Operand) (t : TypeId)
    (ho : o.op = .call { callee := .builtin .append, args := #[s, x], argTypes := #[t, t] })
    (base : Nat) (e : TypeId) (z : Value) (size bytes : Nat) (ht : P.underlying t = some (.slice e)) (hi : (P.info? e).map (fun i => (i.zero, i.size, i.bytes)) = some (some z, size, bytes))
    (hzs : z.cells.size = size) (hsz : 0 < size) (v : Value) (n : Nat) (xs : List Value) (g c : Nat) (news : List Value)
    (hs : a.eval s = v) (hown : w.ownsRow base e size v n xs)
    (hx : a.eval x = .slice (some ⟨g, 0, none⟩) 1 c) (hl : news.length = size) (hnews : ∀ j u, news[j]? = some u → w.cell? ⟨g, j, none⟩ = some u) (h1 : ∀ u ∈ news, u.oneCell' = true)
    (hn : n < 100000000) (hb : bytes ≤ 1000) (hbase : base ≤ w.heap.size)
    (h : ∀ v' w', w'.ownsRow base e size v' (n + 1) (xs ++ news) → Below base w w' → wpList P ops Q rest (a.put o.dst v') w') : wpList P ops Q (o :: rest) a w := by
  obtain ⟨i, hi0, hz0, hz1, hz2⟩ := info_parts hi
  refine wpList_append_own w hgd s x t ho base e i z size bytes ht hi0 hz0 hz1 hz2 hzs hsz v n xs hs hown ⟨g, 0, none⟩ 1 c news hx (by simp [hl]) (fun j u hj => ?_) h1 (by unfold maxLen; omega) ?_ hbase fun v' w' h2 h3 _ => ?_
  · have hadd : (⟨g, 0, none⟩ : Addr).add j = ⟨g, j, none⟩ := by unfold Addr.add; split <;> simp_all
    rw [hadd]; exact hnews j u hj
  · exact Nat.le_trans (Nat.mul_le_mul (Nat.le_of_lt_succ (by omega : n + 1 < 100000002)) hb) (by omega)
  · refine h v' w' h2 ⟨h3.os, h3.tape, h3.output, h3.size, fun k hk => h3.block k (by omega) fun hk2 => ?_⟩
    have := (hown.lt k hk2.symm).1
    omega
end
end Go.Proofs.YtknfcamdfdfoeaaDoor
