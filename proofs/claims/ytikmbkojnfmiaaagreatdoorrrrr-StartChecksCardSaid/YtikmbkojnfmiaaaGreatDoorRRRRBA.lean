/- Plain data of a program: expressions, variables, equations; and what the functions of the packages tree and kinds compute over them. No program of Go in sight. -/
import Derived.WalkKit
import Derived.WalkSpells
import Derived.WalkLawsBesides
import Derived.Deep.QuietTactic
import Derived.BigQuiet
import Derived.Deep.Draws
import Derived.Lib.Hide
import Derived.Deep.LoopGhost
import Derived.StillTailTactics
import Derived.Deep.RegionHeld3
import Derived.Deep.RegionWith
import Derived.Lib.QuietBelow
import Derived.Test.YtikmbkojnfmiaaaGreatDoorRRRRRows
import Derived.Laws.RangeAny
import Derived.WideShapes
set_option linter.unusedVariables false
set_option linter.unusedSimpArgs false
set_option maxRecDepth 100000
namespace Go.Proofs.YtikmbkojnfmiaaaGreatDoorRRRR
open Go.RowKit

/-- An expression. -/
inductive Ex where
  | mk (kind n : Int) (name : ByteArray) (sub : List Ex)

structure Va where
  name : ByteArray
  type : Int
  ck : Int
  cn : ByteArray

structure Qe where
  name : ByteArray
  delay : Int
  first : Ex
  e : Ex

structure Pr where
  name : ByteArray
  ins : List Va
  outs : List Va
  locals : List Va
  eqs : List Qe

def I64 (x : Int) : Prop := -9223372036854775808 ≤ x ∧ x ≤ 9223372036854775807
def I32 (x : Int) : Prop := -2147483648 ≤ x ∧ x ≤ 2147483647

namespace Ex
def kind : Ex → Int | mk k _ _ _ => k
def n : Ex → Int | mk _ n _ _ => n
def name : Ex → ByteArray | mk _ _ s _ => s
def sub : Ex → List Ex | mk _ _ _ l => l
def zero : Ex := mk 0 0 ⟨#[]⟩ []
mutual
def size : Ex → Nat
  | mk _ _ _ l => sizeL l + 1
def sizeL : List Ex → Nat
  | [] => 0
  | x :: l => size x + sizeL l
end
theorem size_eq (e : Ex) : e.size = sizeL e.sub + 1 := by cases e; simp [size, sub]
theorem size_mem : ∀ (l : List Ex) (k : Nat) (x : Ex), l[k]? = some x → x.size ≤ sizeL l
  | [], k, x, h => by simp at h
  | y :: l, 0, x, h => by simp at h; subst h; simp [sizeL]
  | y :: l, k + 1, x, h => by
    have := size_mem l k x (by simpa using h)
    simp [sizeL]; omega
theorem size_sub {e x : Ex} {k : Nat} (h : e.sub[k]? = some x) : x.size < e.size := by
  have := size_mem _ _ _ h
  rw [size_eq e]; omega
/-- The induction that all walks over expressions go by. -/
theorem ind {p : Ex → Prop} (h : ∀ e, (∀ x ∈ e.sub, p x) → p e) (e : Ex) : p e := by
  have : ∀ n (e : Ex), e.size ≤ n → p e := by
    intro n
    induction n with
    | zero => intro e he; rw [size_eq] at he; omega
    | succ n ih =>
      intro e he
      refine h e fun x hx => ih x ?_
      obtain ⟨k, hk⟩ := List.mem_iff_getElem?.1 hx
      have := size_sub hk
      omega
  exact this _ e (Nat.le_refl _)

-- The numbers of an expression are numbers of their kinds.
mutual
def OK : Ex → Prop
  | mk k n s l => I64 k ∧ I32 n ∧ s.size ≤ maxLen ∧ OKL l
def OKL : List Ex → Prop
  | [] => True
  | x :: l => OK x ∧ OKL l
end
theorem OKL_mem : ∀ {l : List Ex}, OKL l → ∀ x ∈ l, OK x
  | [], _, x, hx => by cases hx
  | y :: l, h, x, hx => by
    simp only [OKL] at h
    rcases List.mem_cons.1 hx with rfl | hx
    · exact h.1
    · exact OKL_mem h.2 x hx
theorem OK_sub {e x : Ex} (h : OK e) (hx : x ∈ e.sub) : OK x := by
  cases e; simp only [OK, sub] at *; exact OKL_mem h.2.2.2 x hx

-- tree.count.
mutual
def count : Ex → Int → Int
  | mk _ _ _ l, most => countL l 1 most
def countL : List Ex → Int → Int → Int
  | [], n, _ => n
  | x :: l, n, most => if n ≥ most then n else countL l (n + count x (most - n)) most
end
theorem count_eq (e : Ex) (most : Int) : e.count most = countL e.sub 1 most := by cases e; simp [count, sub]
theorem countL_bd : ∀ (l : List Ex), (∀ x ∈ l, ∀ m, 1 ≤ count x m ∧ count x m ≤ max 1 m) → ∀ n m, 1 ≤ n → n ≤ max 1 m → n ≤ countL l n m ∧ countL l n m ≤ max 1 m
  | [], _, n, m, h1, h2 => by simp [countL]; omega
  | x :: l, hx, n, m, h1, h2 => by
    simp only [countL]
    split
    · exact ⟨by omega, by omega⟩
    · have := hx x (by simp) (m - n)
      have := countL_bd l (fun y hy => hx y (by simp [hy])) (n + count x (m - n)) m (by omega) (by omega)
      exact ⟨by omega, by omega⟩
theorem count_bd (e : Ex) : ∀ m, 1 ≤ count e m ∧ count e m ≤ max 1 m := by
  induction e using ind with
  | h e ih =>
    intro m
    rw [count_eq]
    have := countL_bd e.sub ih 1 m (by omega) (by omega)
    exact ⟨by omega, by omega⟩

theorem countL_size : ∀ (l : List Ex), (∀ x ∈ l, ∀ m, count x m < m → count x m = x.size) → ∀ n m, 1 ≤ n → countL l n m < m → countL l n m = n + sizeL l
  | [], _, n, m, _, h => by simp [countL, sizeL]
  | x :: l, hx, n, m, h1, h => by
    simp only [countL, sizeL] at h ⊢
    split at h
    · omega
    · rename_i hge
      rw [if_neg hge]
      have hb := count_bd x (m - n)
      have hl := countL_bd l (fun y _ => count_bd y) (n + count x (m - n)) m (by omega) (by omega)
      have := hx x (by simp) (m - n) (by omega)
      have := countL_size l (fun y hy => hx y (by simp [hy])) (n + count x (m - n)) m (by omega) h
      omega
theorem count_size (e : Ex) : ∀ m, count e m < m → count e m = e.size := by
  induction e using ind with
  | h e ih =>
    intro m h
    rw [count_eq] at h ⊢
    rw [countL_size e.sub ih 1 m (by omega) h, size_eq]
    omega

-- tree.depth.
mutual
def depth : Ex → Int
  | mk _ _ _ l => depthL l 0 + 1
def depthL : List Ex → Int → Int
  | [], n => n
  | x :: l, n => depthL l (max n (depth x))
end
theorem depth_eq (e : Ex) : e.depth = depthL e.sub 0 + 1 := by cases e; simp [depth, sub]
theorem depthL_bd : ∀ (l : List Ex), (∀ x ∈ l, 1 ≤ depth x ∧ depth x ≤ x.size) → ∀ n, n ≤ depthL l n ∧ depthL l n ≤ max n (sizeL l)
  | [], _, n => by simp [depthL]; omega
  | x :: l, hx, n => by
    have := hx x (by simp)
    have := depthL_bd l (fun y hy => hx y (by simp [hy])) (max n (depth x))
    simp only [depthL, sizeL]
    omega
theorem depth_bd (e : Ex) : 1 ≤ depth e ∧ depth e ≤ e.size := by
  induction e using ind with
  | h e ih =>
    rw [depth_eq, size_eq]
    have := depthL_bd e.sub ih 0
    omega
end Ex

end Go.Proofs.YtikmbkojnfmiaaaGreatDoorRRRR

/- How the plain data lie in memory: which cells hold an expression, a variable, an equation; and that they stay where they are. -/
namespace Go.Proofs.YtikmbkojnfmiaaaGreatDoorRRRR
open Go.RowKit Go.Sort

theorem bel_trans {w a b : World} (h : Below w.heap.size w a) (k : Below a.heap.size a b) : Below w.heap.size w b := h.trans (k.mono h.size)
theorem bel_drew {w a : World} (h : Below w.heap.size w a) : Below w.heap.size w a.drew := h.drew
theorem bel_drewN {w a : World} (h : Below w.heap.size w a) (n : Nat) : Below w.heap.size w (a.drewN n) := ⟨h.os, h.tape, h.output, h.size, h.block⟩
theorem bel_alloc {w a : World} (h : Below w.heap.size w a) (o : Obj) : Below w.heap.size w (a.alloc o) := h.alloc h.size o
/-- Nothing of the old memory is changed: found by what is known here (the rules that come later are tried too). -/
theorem belA {n : Nat} {a b : World} (h : Below n a b := by repeat (first | exact Below.refl _ _ | (with_reducible assumption) | refine bel_trans ?_ (by with_reducible assumption) | refine bel_trans ?_ (below_regrown _ _ _) | refine bel_drew ?_ | refine bel_drewN ?_ _ | refine bel_alloc ?_ _ | refine bel_grow ?_ (by with_reducible assumption) (by omega))) : Below n a b := h
theorem belS {n : Nat} {a b : World} (h : Below n a b := by repeat (first | exact Below.refl _ _ | (with_reducible assumption) | refine bel_trans ?_ (by with_reducible assumption) | refine Below.setCell ?_ (by simp) _ | refine bel_alloc ?_ _ | refine bel_grow ?_ (by with_reducible assumption) (by omega))) : Below n a b := h
theorem belS2 {n : Nat} {a b : World} (h : Below n a b := by (repeat refine bel_drew ?_); repeat (first | exact Below.refl _ _ | (with_reducible assumption) | refine bel_trans ?_ (by with_reducible assumption) | refine Below.setCell ?_ (by simp <;> omega) _ | refine bel_alloc ?_ _ | refine bel_drew ?_ | refine bel_grow ?_ (by with_reducible assumption) (by omega))) : Below n a b := h
/-- What is less by arithmetic. -/
theorem lt0 (a b : World) (h : a.heap.size < b.heap.size := by omega) : a.heap.size < b.heap.size := h
theorem ltA (a : World) (k : Nat) (b : World) (h : a.heap.size + k < b.heap.size := by omega) : a.heap.size + k < b.heap.size := h
theorem bel_cell {w a : World} (h : Below w.heap.size w a) {p : Addr} {v : Value} (hc : w.cell? p = some v) : a.cell? p = some v := by
  rw [h.cell (block_lt_of_cell hc)]; exact hc

/-- What stood before a call reads behind it as it did. -/
theorem bcell {W w1 : World} (hb : Below W.heap.size W w1) : ∀ b o, b < W.heap.size → w1.cell? ⟨b, o, none⟩ = W.cell? ⟨b, o, none⟩ := fun b o h => hb.cell (p := ⟨b, o, none⟩) h
theorem bfrozen {W w1 : World} (hb : Below W.heap.size W w1) : ∀ b o, b < W.heap.size → w1.frozen? ⟨b, o, none⟩ = W.frozen? ⟨b, o, none⟩ := fun b o h => hb.frozen (p := ⟨b, o, none⟩) h
/-- The world under a name. -/
theorem wp_name {P : Program} {c : Code} {Q : Exit → Act → World → Prop} {a : Act} {W : World} (h : ∀ W0, W0 = W → c.wp P Q a W0) : c.wp P Q a W := h W rfl
theorem cel_alloc {w : World} {o : Obj} {p : Addr} {v : Value} (hc : w.cell? p = some v) : (w.alloc o).cell? p = some v := bel_cell (bel_alloc (Below.refl _ _) o) hc
theorem cel_drew {w : World} {p : Addr} {v : Value} (hc : w.cell? p = some v) : w.drew.cell? p = some v := hc

/-- A region that draws its order and only reads, its callees make memory alone: walked once, in the order of the text. -/
theorem wp_region_qb {P : Program} {id : Nat} {Q : Exit → Act → World → Prop} {a : Act} {w : World} {l : List Oper} (hm : P.follows .mixedOrders = true) (hB : Region.lexB .any l.toArray = true)
    (h : (∀ (d : Nat) (os : Array Obj) (p : Addr), p.block < w.heap.size → (grow (redrawn w d) os).cell? p = w.cell? p) →
      wpQuiet P l.toArray (fun w' => ∃ p : Regrown, w' = grow (redrawn w p.d) p.os) (fun a' => ∀ w', (∃ p : Regrown, w' = grow (redrawn w p.d) p.os) → Q .normal a' w') l a) : (Code.region id l.toArray true).wp P Q a w :=
  wp_region_quiet_below hm hB (h fun d os _ hp => (below_regrown w d os).cell hp)
theorem bel_of_class {w w' : World} (h : ∃ p : Regrown, w' = grow (redrawn w p.d) p.os) : Below w.heap.size w w' := by
  obtain ⟨p, rfl⟩ := h
  exact below_regrown w p.d p.os

mutual
/-- The slice at A holds the parts of an expression. -/
def SubsAt (w : World) : Ex → Option Addr → Nat → Prop
  | .mk _ _ _ l, A, cap => l.length ≤ cap ∧ cap ≤ maxLen ∧ (0 < l.length → ∃ b off, A = some ⟨b, off, none⟩ ∧ RowAt w b l off)
/-- Expressions in a row of cells. -/
def RowAt (w : World) (b : Nat) : List Ex → Nat → Prop
  | [], _ => True
  | e :: l, off => (∃ A cap, w.cell? ⟨b, off, none⟩ = some (.int .i64 e.kind) ∧ w.cell? ⟨b, off + 1, none⟩ = some (.int .i32 e.n) ∧ w.cell? ⟨b, off + 2, none⟩ = some (.string e.name) ∧
      w.cell? ⟨b, off + 3, none⟩ = some (.slice A e.sub.length cap) ∧ SubsAt w e A cap) ∧ RowAt w b l (off + 4)
end

theorem SubsAt_iff {w : World} {e : Ex} {A : Option Addr} {cap : Nat} : SubsAt w e A cap ↔ e.sub.length ≤ cap ∧ cap ≤ maxLen ∧ (0 < e.sub.length → ∃ b off, A = some ⟨b, off, none⟩ ∧ RowAt w b e.sub off) := by
  cases e; simp [SubsAt, Ex.sub]

theorem RowAt.get {w : World} {b : Nat} : ∀ {l : List Ex} {off k : Nat} {x : Ex}, RowAt w b l off → l[k]? = some x →
    ∃ A cap, w.cell? ⟨b, off + k * 4, none⟩ = some (.int .i64 x.kind) ∧ w.cell? ⟨b, off + k * 4 + 1, none⟩ = some (.int .i32 x.n) ∧ w.cell? ⟨b, off + k * 4 + 2, none⟩ = some (.string x.name) ∧
      w.cell? ⟨b, off + k * 4 + 3, none⟩ = some (.slice A x.sub.length cap) ∧ SubsAt w x A cap
  | [], off, k, x, _, h => by simp at h
  | e :: l, off, 0, x, h, hk => by
    simp at hk; subst hk
    simp only [RowAt] at h
    simpa using h.1
  | e :: l, off, k + 1, x, h, hk => by
    simp only [RowAt] at h
    have := h.2.get (k := k) (by simpa using hk)
    have e1 : off + 4 + k * 4 = off + (k + 1) * 4 := by omega
    rwa [e1] at this

mutual
theorem SubsAt.keep {w w' : World} (hw : ∀ {p : Addr} {v : Value}, w.cell? p = some v → w'.cell? p = some v) : ∀ (e : Ex) {A : Option Addr} {cap : Nat}, SubsAt w e A cap → SubsAt w' e A cap
  | .mk _ _ _ l, A, cap, h => by
    simp only [SubsAt] at h ⊢
    refine ⟨h.1, h.2.1, fun hl => ?_⟩
    obtain ⟨b, off, hA, hr⟩ := h.2.2 hl
    exact ⟨b, off, hA, RowAt.keep hw l hr⟩
theorem RowAt.keep {w w' : World} (hw : ∀ {p : Addr} {v : Value}, w.cell? p = some v → w'.cell? p = some v) {b : Nat} : ∀ (l : List Ex) {off : Nat}, RowAt w b l off → RowAt w' b l off
  | [], off, _ => by simp [RowAt]
  | e :: l, off, h => by
    simp only [RowAt] at h ⊢
    obtain ⟨⟨A, cap, h0, h1, h2, h3, h4⟩, hr⟩ := h
    exact ⟨⟨A, cap, hw h0, hw h1, hw h2, hw h3, SubsAt.keep hw e h4⟩, RowAt.keep hw l hr⟩
end
theorem SubsAt.later {w w' : World} {e : Ex} {A : Option Addr} {cap : Nat} (h : SubsAt w e A cap) (hb : Below w.heap.size w w') : SubsAt w' e A cap := SubsAt.keep (fun hc => bel_cell hb hc) e h

/-- Part k of an expression whose parts lie at A. -/
theorem SubsAt.get {w : World} {e x : Ex} {A : Option Addr} {cap k : Nat} (h : SubsAt w e A cap) (hk : e.sub[k]? = some x) : ∃ b off A' cap', A = some ⟨b, off, none⟩ ∧
    w.cell? ⟨b, off + k * 4, none⟩ = some (.int .i64 x.kind) ∧ w.cell? ⟨b, off + k * 4 + 1, none⟩ = some (.int .i32 x.n) ∧ w.cell? ⟨b, off + k * 4 + 2, none⟩ = some (.string x.name) ∧
      w.cell? ⟨b, off + k * 4 + 3, none⟩ = some (.slice A' x.sub.length cap') ∧ SubsAt w x A' cap' := by
  rw [SubsAt_iff] at h
  have hlt : k < e.sub.length := (List.getElem?_eq_some_iff.1 hk).1
  obtain ⟨b, off, hA, hr⟩ := h.2.2 (by omega)
  obtain ⟨A', cap', h0, h1, h2, h3, h4⟩ := hr.get hk
  exact ⟨b, off, A', cap', hA, h0, h1, h2, h3, h4⟩
theorem SubsAt.len {w : World} {e : Ex} {A : Option Addr} {cap : Nat} (h : SubsAt w e A cap) : e.sub.length ≤ cap ∧ cap ≤ maxLen := by
  rw [SubsAt_iff] at h; exact ⟨h.1, h.2.1⟩

theorem ret_int {k : IntKind} {a b : Int} (h : a = b) : Ending.returned (.int k a) = .returned (.int k b) := by rw [h]
theorem ret_bool {a b : Bool} (h : a = b) : Ending.returned (.bool a) = .returned (.bool b) := by rw [h]
theorem ret_str {a b : ByteArray} (h : a = b) : Ending.returned (.string a) = .returned (.string b) := by rw [h]

/-- An expression as a value. -/
def exV (e : Ex) (A : Option Addr) (cap : Nat) : Value := .agg #[.int .i64 e.kind, .int .i32 e.n, .string e.name, .slice A e.sub.length cap]

/-- Four cells that hold a variable. -/
structure VarCells (w : World) (b off : Nat) (v : Va) : Prop where
  c0 : w.cell? ⟨b, off, none⟩ = some (.string v.name)
  c1 : w.cell? ⟨b, off + 1, none⟩ = some (.int .i64 v.type)
  c2 : w.cell? ⟨b, off + 2, none⟩ = some (.int .i64 v.ck)
  c3 : w.cell? ⟨b, off + 3, none⟩ = some (.string v.cn)
def vaV (v : Va) : Value := .agg #[.string v.name, .int .i64 v.type, .int .i64 v.ck, .string v.cn]
def VarsAt (w : World) (l : List Va) (A : Option Addr) (cap : Nat) : Prop :=
  l.length ≤ cap ∧ cap ≤ maxLen ∧ (0 < l.length → ∃ b off, A = some ⟨b, off, none⟩ ∧ ∀ k v, l[k]? = some v → VarCells w b (off + k * 4) v)

/-- Ten cells that hold an equation. -/
structure EqCells (w : World) (b off : Nat) (q : Qe) (A1 : Option Addr) (c1 : Nat) (A2 : Option Addr) (c2 : Nat) : Prop where
  g0 : w.cell? ⟨b, off, none⟩ = some (.string q.name)
  g1 : w.cell? ⟨b, off + 1, none⟩ = some (.int .i64 q.delay)
  g2 : w.cell? ⟨b, off + 2, none⟩ = some (.int .i64 q.first.kind)
  g3 : w.cell? ⟨b, off + 3, none⟩ = some (.int .i32 q.first.n)
  g4 : w.cell? ⟨b, off + 4, none⟩ = some (.string q.first.name)
  g5 : w.cell? ⟨b, off + 5, none⟩ = some (.slice A1 q.first.sub.length c1)
  g6 : w.cell? ⟨b, off + 6, none⟩ = some (.int .i64 q.e.kind)
  g7 : w.cell? ⟨b, off + 7, none⟩ = some (.int .i32 q.e.n)
  g8 : w.cell? ⟨b, off + 8, none⟩ = some (.string q.e.name)
  g9 : w.cell? ⟨b, off + 9, none⟩ = some (.slice A2 q.e.sub.length c2)
  s1 : SubsAt w q.first A1 c1
  s2 : SubsAt w q.e A2 c2
def qeV (q : Qe) (A1 : Option Addr) (c1 : Nat) (A2 : Option Addr) (c2 : Nat) : Value :=
  .agg #[.string q.name, .int .i64 q.delay, .int .i64 q.first.kind, .int .i32 q.first.n, .string q.first.name, .slice A1 q.first.sub.length c1, .int .i64 q.e.kind, .int .i32 q.e.n, .string q.e.name, .slice A2 q.e.sub.length c2]
def EqsAt (w : World) (l : List Qe) (A : Option Addr) (cap : Nat) : Prop :=
  l.length ≤ cap ∧ cap ≤ maxLen ∧ (0 < l.length → ∃ b off, A = some ⟨b, off, none⟩ ∧ ∀ k q, l[k]? = some q → ∃ A1 c1 A2 c2, EqCells w b (off + k * 10) q A1 c1 A2 c2)

theorem VarCells.later {w w' : World} {b off : Nat} {v : Va} (h : VarCells w b off v) (hb : Below w.heap.size w w') : VarCells w' b off v :=
  ⟨bel_cell hb h.c0, bel_cell hb h.c1, bel_cell hb h.c2, bel_cell hb h.c3⟩
theorem VarsAt.later {w w' : World} {l : List Va} {A : Option Addr} {cap : Nat} (h : VarsAt w l A cap) (hb : Below w.heap.size w w') : VarsAt w' l A cap :=
  ⟨h.1, h.2.1, fun hl => by
    obtain ⟨b, off, hA, hr⟩ := h.2.2 hl
    exact ⟨b, off, hA, fun k v hk => (hr k v hk).later hb⟩⟩
theorem VarsAt.get {w : World} {l : List Va} {A : Option Addr} {cap k : Nat} {v : Va} (h : VarsAt w l A cap) (hk : l[k]? = some v) : ∃ b off, A = some ⟨b, off, none⟩ ∧ b < w.heap.size ∧ VarCells w b (off + k * 4) v := by
  have hlt : k < l.length := (List.getElem?_eq_some_iff.1 hk).1
  obtain ⟨b, off, hA, hr⟩ := h.2.2 (by omega)
  exact ⟨b, off, hA, block_lt_of_cell (hr k v hk).c0, hr k v hk⟩
theorem VarsAt.len {w : World} {l : List Va} {A : Option Addr} {cap : Nat} (h : VarsAt w l A cap) : l.length ≤ cap ∧ cap ≤ maxLen := ⟨h.1, h.2.1⟩
theorem EqCells.later {w w' : World} {b off : Nat} {q : Qe} {A1 : Option Addr} {c1 : Nat} {A2 : Option Addr} {c2 : Nat} (h : EqCells w b off q A1 c1 A2 c2) (hb : Below w.heap.size w w') : EqCells w' b off q A1 c1 A2 c2 :=
  ⟨bel_cell hb h.g0, bel_cell hb h.g1, bel_cell hb h.g2, bel_cell hb h.g3, bel_cell hb h.g4, bel_cell hb h.g5, bel_cell hb h.g6, bel_cell hb h.g7, bel_cell hb h.g8, bel_cell hb h.g9, h.s1.later hb, h.s2.later hb⟩
theorem EqsAt.later {w w' : World} {l : List Qe} {A : Option Addr} {cap : Nat} (h : EqsAt w l A cap) (hb : Below w.heap.size w w') : EqsAt w' l A cap :=
  ⟨h.1, h.2.1, fun hl => by
    obtain ⟨b, off, hA, hr⟩ := h.2.2 hl
    exact ⟨b, off, hA, fun k v hk => by
      obtain ⟨A1, c1, A2, c2, h⟩ := hr k v hk
      exact ⟨A1, c1, A2, c2, h.later hb⟩⟩⟩
theorem EqsAt.get {w : World} {l : List Qe} {A : Option Addr} {cap k : Nat} {q : Qe} (h : EqsAt w l A cap) (hk : l[k]? = some q) : ∃ b off A1 c1 A2 c2, A = some ⟨b, off, none⟩ ∧ b < w.heap.size ∧ EqCells w b (off + k * 10) q A1 c1 A2 c2 := by
  have hlt : k < l.length := (List.getElem?_eq_some_iff.1 hk).1
  obtain ⟨b, off, hA, hr⟩ := h.2.2 (by omega)
  obtain ⟨A1, c1, A2, c2, h⟩ := hr k q hk
  exact ⟨b, off, A1, c1, A2, c2, hA, block_lt_of_cell h.g0, h⟩
theorem EqsAt.len {w : World} {l : List Qe} {A : Option Addr} {cap : Nat} (h : EqsAt w l A cap) : l.length ≤ cap ∧ cap ≤ maxLen := ⟨h.1, h.2.1⟩

/-- Where the lists of a program lie. -/
structure PrA where
  A1 : Option Addr
  c1 : Nat
  A2 : Option Addr
  c2 : Nat
  A3 : Option Addr
  c3 : Nat
  A4 : Option Addr
  c4 : Nat
structure PrAt (w : World) (p : Pr) (a : PrA) : Prop where
  ins : VarsAt w p.ins a.A1 a.c1
  outs : VarsAt w p.outs a.A2 a.c2
  locals : VarsAt w p.locals a.A3 a.c3
  eqs : EqsAt w p.eqs a.A4 a.c4
theorem PrAt.later {w w' : World} {p : Pr} {a : PrA} (h : PrAt w p a) (hb : Below w.heap.size w w') : PrAt w' p a := ⟨h.ins.later hb, h.outs.later hb, h.locals.later hb, h.eqs.later hb⟩
def prV (p : Pr) (a : PrA) : Value := .agg #[.string p.name, .slice a.A1 p.ins.length a.c1, .slice a.A2 p.outs.length a.c2, .slice a.A3 p.locals.length a.c3, .slice a.A4 p.eqs.length a.c4]

end Go.Proofs.YtikmbkojnfmiaaaGreatDoorRRRR

/- Walks over the package lex: letter, digit, inner, head, Word, Name. -/
namespace Go.Proofs.YtikmbkojnfmiaaaGreatDoorRRRR
open Go.RowKit

def letterB (c : Int) : Bool := decide (97 ≤ c ∧ c ≤ 122)
def digitB (c : Int) : Bool := decide (48 ≤ c ∧ c ≤ 57)
def innerB (c : Int) : Bool := letterB c || digitB c || decide (c = 95)

set_option maxHeartbeats 400000 in
theorem letter_any (c : Int) (w : World) : Calls Tryz.prog 86 #[.int .i32 c] w fun r w' => r = .returned (.bool (letterB c)) ∧ w = w' := by
  unfold letterB
  by_cases h : 97 ≤ c
  · go_enter Tryz.func86, Tryz.ntmps86
    go_wp2_with fail
    go_ret
    exact ⟨ret_bool (by simp [h]), rfl⟩
  · go_enter Tryz.func86, Tryz.ntmps86
    go_wp2_with fail
    go_ret
    exact ⟨ret_bool (by simp; omega), rfl⟩
set_option maxHeartbeats 400000 in
theorem digit_any (c : Int) (w : World) : Calls Tryz.prog 100 #[.int .i32 c] w fun r w' => r = .returned (.bool (digitB c)) ∧ w = w' := by
  unfold digitB
  by_cases h : 48 ≤ c
  · go_enter Tryz.func100, Tryz.ntmps100
    go_wp2_with fail
    go_ret
    exact ⟨ret_bool (by simp [h]), rfl⟩
  · go_enter Tryz.func100, Tryz.ntmps100
    go_wp2_with fail
    go_ret
    exact ⟨ret_bool (by simp; omega), rfl⟩
set_option maxHeartbeats 400000 in
theorem inner_any (c : Int) (w : World) : Calls Tryz.prog 88 #[.int .i32 c] w fun r w' => r = .returned (.bool (innerB c)) ∧ w = w' := by
  unfold innerB
  cases h : letterB c <;> cases h2 : digitB c <;>
  · go_enter Tryz.func88, Tryz.ntmps88
    go_wp2_with (first | (go_at_call 86; refine (letter_any _ _).mono ?_; rintro r w1 ⟨rfl, rfl⟩) | (go_at_call 100; refine (digit_any _ _).mono ?_; rintro r w1 ⟨rfl, rfl⟩))
    go_ret
    exact ⟨ret_bool (by first | rfl | (rw [Bool.eq_iff_iff]; simp)), rfl⟩

/-- lex.Word. -/
def wordB (s : ByteArray) : Bool := s.toList == [110, 111, 100, 101] || s.toList == [114, 101, 116, 117, 114, 110, 115] || s.toList == [118, 97, 114] || s.toList == [108, 101, 116] || s.toList == [116, 101, 108] || s.toList == [105, 102] || s.toList == [116, 104, 101, 110] || s.toList == [101, 108, 115, 101] || s.toList == [102, 98, 121] || s.toList == [112, 114, 101] || s.toList == [119, 104, 101, 110] || s.toList == [117, 110, 108, 101, 115, 115] || s.toList == [109, 101, 114, 103, 101] || s.toList == [110, 111, 116] || s.toList == [116, 114, 117, 101] || s.toList == [102, 97, 108, 115, 101] || s.toList == [105, 110, 116] || s.toList == [98, 111, 111, 108]

set_option maxHeartbeats 1000000 in
theorem word_any (s : ByteArray) (w : World) : Calls Tryz.prog 89 #[.string s] w fun r w' => r = .returned (.bool (wordB s)) ∧ w = w' := by
  go_enter Tryz.func89, Tryz.ntmps89
  go_wp2_with fail
  all_goals first
    | (exfalso; simp_all; done)
    | (go_ret; exact ⟨ret_bool (by simp [wordB, *]), rfl⟩)

/-- How many bytes of s, from the place pos on, are of runes of a kind. -/
def headAt (p : Int → Bool) (s : ByteArray) : Nat → Nat → Nat
  | 0, _ => s.size
  | fuel + 1, pos => if pos < s.size then (if p ((Utf8.decode s pos).1 : Int) then headAt p s fuel (pos + (Utf8.decode s pos).2) else pos) else s.size
theorem decode_step (s : ByteArray) (pos : Nat) : 1 ≤ (Utf8.decode s pos).2 := by
  simp only [Utf8.decode]
  repeat' split
  all_goals simp
theorem extract_whole (s : ByteArray) : s.extract 0 s.size = s := by
  ext1; simp

set_option maxHeartbeats 400000 in
theorem head_inner (s : ByteArray) (w : World) (hs : s.size ≤ maxLen) : Calls Tryz.prog 87 #[.string s, .func (.func 88) #[] #[]] w fun r w' => r = .returned (.string (s.extract 0 (headAt innerB s (s.size + 1) 0))) ∧ Below w.heap.size w w' := by
  unfold maxLen at hs
  go_enter Tryz.func87, Tryz.ntmps87
  go_wp2_with fail
  go_loopg [] (s.size + 1) (fun k wr => ∃ pos, s.size < k + pos ∧ headAt innerB s k pos = headAt innerB s (s.size + 1) 0 ∧ wr = w.iter s pos)
  case atStart => exact ⟨0, by omega, rfl, rfl⟩
  case round =>
    obtain ⟨pos, hk, hrem, rfl⟩ := hrel
    by_cases hlt : pos < s.size
    · have hnx := fun ty => run_next_any (P := Tryz.prog) w s pos ty hlt
      obtain ⟨k, rfl⟩ : ∃ k, gk = k + 1 := ⟨gk - 1, by omega⟩
      have hst := decode_step s pos
      rw [headAt, if_pos hlt] at hrem
      generalize (Utf8.decode s pos).1 = rn at hnx hrem
      generalize (Utf8.decode s pos).2 = sz at hnx hrem hst
      cases hp : innerB (rn : Int)
      · rw [hp, if_neg (by simp)] at hrem
        have HR := Lib.hid hrem; clear hrem
        go_wp2_with (go_at_call 88; refine (inner_any _ _).mono ?_; rintro r w1 ⟨rfl, rfl⟩)
        go_ret
        exact ⟨by rw [← HR.out]; rfl, bel_alloc (Below.refl _ _) _⟩
      · rw [hp, if_pos rfl] at hrem
        have HR := Lib.hid hrem; clear hrem
        go_wp2_with (go_at_call 88; refine (inner_any _ _).mono ?_; rintro r w1 ⟨rfl, rfl⟩)
        go_roundg k
        case measure => omega
        case rel => exact ⟨_, by omega, HR.out, rfl⟩
    · have hnx := fun ty => run_next_end (P := Tryz.prog) w s pos ty hlt
      have hr2 : headAt innerB s gk pos = s.size := by cases gk <;> simp [headAt, hlt]
      have HR := Lib.hid (hr2.symm.trans hrem); clear hrem hr2
      go_wp2_with fail
      go_ret
      exact ⟨ret_str (by rw [← HR.out, extract_whole]), bel_alloc (Below.refl _ _) _⟩

end Go.Proofs.YtikmbkojnfmiaaaGreatDoorRRRR

/- Walk over lex.Name. -/
namespace Go.Proofs.YtikmbkojnfmiaaaGreatDoorRRRR
open Go.RowKit

/-- lex.Name. -/
def nameB (s : ByteArray) : Bool := if h : 0 < s.size then decide (s.size ≤ 16) && letterB ((s[0]'h).toNat : Int) && decide (headAt innerB s (s.size + 1) 0 = s.size) && !wordB s else false

theorem eqS_true {a b : ByteArray} (h : a = b) : (a.toList == b.toList) = true := by subst h; simp
theorem eqS_iff {a b : ByteArray} : (a.toList == b.toList) = true ↔ a = b := by
  rw [beq_iff_eq, ByteArray.toList_eq, ByteArray.toList_eq]
  exact ⟨fun h => WideShapes.bytes_inj h, fun h => by rw [h]⟩
theorem eqS_false {a b : ByteArray} (h : a ≠ b) : (a.toList == b.toList) = false := by
  rw [← Bool.not_eq_true, eqS_iff]; exact h
theorem headAt_le (p : Int → Bool) (s : ByteArray) : ∀ f pos, headAt p s f pos ≤ s.size
  | 0, _ => Nat.le_refl _
  | f + 1, pos => by
    unfold headAt
    split
    · split
      · exact headAt_le p s f _
      · omega
    · exact Nat.le_refl _
theorem size_pos_toList {s : ByteArray} (h : 0 < s.size) : s.toList.isEmpty = false := by
  rw [ByteArray.toList_eq]
  cases h2 : s.data.toList with
  | nil => exfalso; rw [← ByteArray.size_data, ← Array.length_toList, h2] at h; simp at h
  | cons => rfl
theorem size_zero_toList {s : ByteArray} (h : ¬ 0 < s.size) : s = ⟨#[]⟩ := by
  ext1; apply Array.eq_empty_of_size_eq_zero; rw [ByteArray.size_data]; omega

theorem nameB_le {s : ByteArray} (h : nameB s = true) : s.size ≤ 16 := by
  unfold nameB at h
  split at h
  · simp at h; exact h.1.1.1
  · simp at h

set_option maxHeartbeats 1000000 in
theorem name_any (s : ByteArray) (w : World) : Calls Tryz.prog 67 #[.string s] w fun r w' => r = .returned (.bool (nameB s)) ∧ Below w.heap.size w w' := by
  by_cases h0 : 0 < s.size
  · have he := size_pos_toList h0
    by_cases h1 : s.size ≤ 16
    · have hb : s[0].toNat < 256 := UInt8.toNat_lt _
      have hv : nameB s = (letterB (s[0].toNat : Int) && decide (headAt innerB s (s.size + 1) 0 = s.size) && !wordB s) := by unfold nameB; rw [dif_pos h0]; simp [h1]
      have HV := Lib.hid hv; clear hv
      have hx : ((s.extract 0 (headAt innerB s (s.size + 1) 0)).toList == s.toList) = decide (headAt innerB s (s.size + 1) 0 = s.size) := by
        by_cases h : headAt innerB s (s.size + 1) 0 = s.size
        · rw [h, extract_whole]; simp
        · rw [decide_eq_false h]
          refine eqS_false fun e => ?_
          have := congrArg ByteArray.size e
          rw [ByteArray.size_extract] at this
          have := headAt_le innerB s (s.size + 1) 0
          omega
      cases h2 : letterB (s[0].toNat : Int) <;> cases h3 : decide (headAt innerB s (s.size + 1) 0 = s.size) <;> rw [h3] at hx <;> cases h4 : wordB s <;>
      · rw [h2, h3, h4] at HV
        go_enter Tryz.func67, Tryz.ntmps67
        go_wp2_with (first | (go_at_call 86; refine (letter_any _ _).mono ?_; rintro r w1 ⟨rfl, rfl⟩) | (go_at_call 87; refine (head_inner _ _ (by unfold maxLen; omega)).mono ?_; rintro r w1 ⟨rfl, hb1⟩) | (go_at_call 89; refine (word_any _ _).mono ?_; rintro r w1 ⟨rfl, rfl⟩))
        go_ret
        exact ⟨ret_bool (by rw [HV.out]; rfl), belA⟩
    · have hv : nameB s = false := by unfold nameB; rw [dif_pos h0]; simp [h1]
      have HV := Lib.hid hv; clear hv
      go_enter Tryz.func67, Tryz.ntmps67
      go_wp2_with fail
      go_ret
      exact ⟨ret_bool (by rw [HV.out]), belA⟩
  · have hv : nameB s = false := by unfold nameB; rw [dif_neg h0]
    have HV := Lib.hid hv; clear hv
    obtain rfl := size_zero_toList h0
    go_enter Tryz.func67, Tryz.ntmps67
    go_wp2_with fail
    go_ret
    exact ⟨ret_bool (by rw [HV.out]), belA⟩

end Go.Proofs.YtikmbkojnfmiaaaGreatDoorRRRR

/- What the package tree says of an expression: is it formed, right, a literal; are two alike? -/
namespace Go.Proofs.YtikmbkojnfmiaaaGreatDoorRRRR
open Go.RowKit

/-- tree.form: how many parts, the least and the greatest number, a name?, is there such a kind? -/
def formK (k : Int) : Int × Int × Int × Bool × Bool :=
  if k = 1 then (0, 0, 2147483647, false, true)
  else if k = 2 then (0, 0, 1, false, true)
  else if k = 3 then (0, 0, 0, true, true)
  else if k = 4 then (1, 1, 2, false, true)
  else if k = 5 then (2, 1, 16, false, true)
  else if k = 6 then (3, 0, 0, false, true)
  else if k = 7 then (2, 0, 0, false, true)
  else if k = 8 then (1, 0, 0, true, true)
  else if k = 9 then (1, 0, 0, true, true)
  else if k = 10 then (2, 0, 0, true, true)
  else (0, 0, 0, false, false)

def formedH (k n : Int) (s : ByteArray) (len : Nat) : Bool :=
  (formK k).2.2.2.2 && ((len : Int) == (formK k).1) && !decide (n < (formK k).2.1) && !decide ((formK k).2.2.1 < n) && ((formK k).2.2.2.1 == nameB s) && ((formK k).2.2.2.1 || s.toList.isEmpty)

namespace Ex
mutual
def formed : Ex → Bool
  | mk k n s l => formedH k n s l.length && formedL l
def formedL : List Ex → Bool
  | [] => true
  | x :: l => formed x && formedL l
end
theorem formed_eq (e : Ex) : e.formed = (formedH e.kind e.n e.name e.sub.length && formedL e.sub) := by cases e; simp [formed, kind, n, name, sub]

/-- tree.Right. -/
def right (e : Ex) : Int :=
  if 120 < e.count 121 then 3 else if 12 < e.depth then 17 else if e.formed then 0 else 4

theorem right_zero {e : Ex} : e.right = 0 ↔ e.count 121 ≤ 120 ∧ e.depth ≤ 12 ∧ e.formed = true := by
  unfold right
  split
  · omega
  · split
    · omega
    · split
      · rename_i h; simp [h]; omega
      · rename_i h; simp [h]
/-- tree.literal. -/
def literal (e : Ex) : Bool :=
  if e.right = 0 then
    if e.kind = 4 ∧ e.n = 1 then (match e.sub with | x :: _ => x.kind == 1 | [] => false) else (e.kind == 1 || e.kind == 2)
  else false

mutual
def same : Ex → Ex → Bool
  | mk k n s l, y => k == y.kind && n == y.n && s.toList == y.name.toList && l.length == y.sub.length && sameL l y.sub
def sameL : List Ex → List Ex → Bool
  | [], _ => true
  | _ :: _, [] => true
  | x :: l, y :: m => same x y && sameL l m
end
theorem same_eq (a b : Ex) : same a b = (a.kind == b.kind && a.n == b.n && a.name.toList == b.name.toList && a.sub.length == b.sub.length && sameL a.sub b.sub) := by
  cases a; simp [same, kind, n, name, sub]
end Ex

/-- tree.variable. -/
def variableB (v : Va) (own : Bool) : Bool :=
  nameB v.name && (v.type == 1 || v.type == 2) && (if v.ck = 0 then v.cn.toList.isEmpty else if v.ck = 1 ∨ v.ck = 2 then own && nameB v.cn else false)


/-- What tree.whole asks of an equation. -/
def eqB (q : Qe) : Bool :=
  nameB q.name && q.e.right == 0 && (if q.delay = 1 then q.first.literal else if q.delay = 0 ∨ q.delay = 2 then q.first.same Ex.zero else false)
/-- tree.whole. -/
def wholeB (p : Pr) : Bool :=
  nameB p.name && p.ins.all (variableB · false) && p.outs.all (variableB · false) && p.locals.all (variableB · true) && p.eqs.all eqB

end Go.Proofs.YtikmbkojnfmiaaaGreatDoorRRRR

/- Walks over the package tree: count, depth. -/
namespace Go.Proofs.YtikmbkojnfmiaaaGreatDoorRRRR
open Go.RowKit

set_option maxHeartbeats 400000 in
theorem count_any (e : Ex) : ∀ (A : Option Addr) (cap : Nat) (most : Int) (w : World), SubsAt w e A cap → -1000000 ≤ most → most ≤ 1000000 →
    Calls Tryz.prog 90 #[exV e A cap, .int .i64 most] w fun r w' => r = .returned (.int .i64 (e.count most)) ∧ Below w.heap.size w w' := by
  induction e using Ex.ind with
  | h e ih =>
  intro A cap most w he hm hm2
  have hl := he.len
  unfold maxLen at hl
  obtain ⟨hl1, hl2⟩ := hl
  unfold exV
  go_enter Tryz.func90, Tryz.ntmps90
  go_wp2_with fail
  go_loopw [5, 11] (fun m i wr => ∃ (k : Nat) (m' : Int), k ≤ e.sub.length ∧ i = .int .i64 k ∧ m = .int .i64 m' ∧ 1 ≤ m' ∧ m' ≤ max 1 most ∧ Ex.countL (e.sub.drop k) m' most = e.count most ∧ Below w.heap.size w wr) (fun _ i _ => e.sub.length - (intOf i).toNat)
  case atStart => exact ⟨0, 1, Nat.zero_le _, rfl, rfl, by omega, by omega, by simp [Ex.count_eq], belA⟩
  case round =>
    obtain ⟨k, m', hk, rfl, rfl, h0, h1, hrem, hbel⟩ := hrel
    by_cases hlt : k < e.sub.length
    · have hx : e.sub[k]? = some e.sub[k] := List.getElem?_eq_getElem hlt
      have hmem : e.sub[k] ∈ e.sub := List.getElem_mem hlt
      have hd : e.sub.drop k = e.sub[k] :: e.sub.drop (k + 1) := List.drop_eq_getElem_cons hlt
      generalize e.sub[k] = x at hx hmem hd
      obtain ⟨b, off, A', cap', rfl, c0, c1, c2, c3, hs⟩ := (he.later hbel).get hx
      rw [hd, Ex.countL] at hrem
      have hbd := Ex.count_bd x (most - m')
      have ihx := ih x hmem
      by_cases hge : m' ≥ most
      · rw [if_pos hge] at hrem
        have HR := Lib.hid hrem; clear hrem hd hx
        go_wp2_with fail
        go_ret
        exact ⟨ret_int HR.out, belA⟩
      · rw [if_neg hge] at hrem
        have HR := Lib.hid hrem; clear hrem hd hx
        go_wp2_with (go_at_call 90; refine (ihx A' cap' (most - m') _ (hs.later belA) (by omega) (by omega)).mono ?_; rintro r w1 ⟨rfl, hb1⟩)
        go_roundw
        case rel => exact ⟨k + 1, m' + x.count (most - m'), by omega, by go_num, by go_num, by omega, by omega, HR.out, belA⟩
        case measure => simp [intOf]; omega
    · have hke : k = e.sub.length := by omega
      rw [hke, List.drop_length, Ex.countL] at hrem
      have HR := Lib.hid hrem; clear hrem hke
      go_wp2_with fail
      go_ret
      exact ⟨ret_int HR.out, belA⟩

end Go.Proofs.YtikmbkojnfmiaaaGreatDoorRRRR

/- Walks over the package tree: depth, form, formed. -/
namespace Go.Proofs.YtikmbkojnfmiaaaGreatDoorRRRR
open Go.RowKit

set_option maxHeartbeats 400000 in
theorem depth_any (e : Ex) : ∀ (A : Option Addr) (cap : Nat) (w : World), SubsAt w e A cap → e.size ≤ 1000000 →
    Calls Tryz.prog 91 #[exV e A cap] w fun r w' => r = .returned (.int .i64 e.depth) ∧ Below w.heap.size w w' := by
  induction e using Ex.ind with
  | h e ih =>
  intro A cap w he hz
  have hl := he.len
  unfold maxLen at hl
  obtain ⟨hl1, hl2⟩ := hl
  have hdb := Ex.depth_bd e
  unfold exV
  go_enter Tryz.func91, Tryz.ntmps91
  go_wp2_with fail
  go_loopw [3, 9] (fun m i wr => ∃ (k : Nat) (m' : Int), k ≤ e.sub.length ∧ i = .int .i64 k ∧ m = .int .i64 m' ∧ 0 ≤ m' ∧ m' ≤ 1000000 ∧ Ex.depthL (e.sub.drop k) m' + 1 = e.depth ∧ Below w.heap.size w wr) (fun _ i _ => e.sub.length - (intOf i).toNat)
  case atStart => exact ⟨0, 0, Nat.zero_le _, rfl, rfl, by omega, by omega, by simp [Ex.depth_eq], belA⟩
  case round =>
    obtain ⟨k, m', hk, rfl, rfl, h0, h1, hrem, hbel⟩ := hrel
    by_cases hlt : k < e.sub.length
    · have hx : e.sub[k]? = some e.sub[k] := List.getElem?_eq_getElem hlt
      have hmem : e.sub[k] ∈ e.sub := List.getElem_mem hlt
      have hd : e.sub.drop k = e.sub[k] :: e.sub.drop (k + 1) := List.drop_eq_getElem_cons hlt
      generalize e.sub[k] = x at hx hmem hd
      obtain ⟨b, off, A', cap', rfl, c0, c1, c2, c3, hs⟩ := (he.later hbel).get hx
      rw [hd, Ex.depthL] at hrem
      have hbd := Ex.depth_bd x
      have hsz := Ex.size_sub hx
      have ihx := ih x hmem
      have HR := Lib.hid hrem; clear hrem hd hx
      go_wp2_with (go_at_call 91; refine (ihx A' cap' _ (hs.later belA) (by omega)).mono ?_; rintro r w1 ⟨rfl, hb1⟩)
      go_roundw
      case rel => exact ⟨k + 1, max m' x.depth, by omega, by go_num, by first | rfl | go_num, by omega, by omega, HR.out, belA⟩
      case measure => simp [intOf]; omega
    · have hke : k = e.sub.length := by omega
      rw [hke, List.drop_length] at hrem
      rw [Ex.depthL] at hrem
      have HR := Lib.hid hrem; clear hrem hke
      go_wp2_with fail
      go_ret
      exact ⟨ret_int HR.out, belA⟩

set_option maxHeartbeats 1000000 in
theorem form_any (k : Int) (w : World) : Calls Tryz.prog 101 #[.int .i64 k] w fun r w' => r = .returned (.tuple #[.int .i64 (formK k).1, .int .i32 (formK k).2.1, .int .i32 (formK k).2.2.1, .bool (formK k).2.2.2.1, .bool (formK k).2.2.2.2]) ∧ w = w' := by
  go_enter Tryz.func101, Tryz.ntmps101
  go_wp2_with fail
  all_goals (refine bodyPost_ret (v := .tuple #[.int .i64 (formK k).1, .int .i32 (formK k).2.1, .int .i32 (formK k).2.2.1, .bool (formK k).2.2.2.1, .bool (formK k).2.2.2.2]) (by simp_all [results, Tryz.results101, go_sem, formK]) rfl ⟨rfl, rfl⟩)

end Go.Proofs.YtikmbkojnfmiaaaGreatDoorRRRR

/- Walks over the package tree: SameExpr, formed. -/
namespace Go.Proofs.YtikmbkojnfmiaaaGreatDoorRRRR
open Go.RowKit Go.Sort

theorem beqI_true {a b : Int} (h : (a == b) = true) : a = b := by simpa using h
theorem bneI_false {a b : Int} (h : (a != b) = false) : a = b := by simpa using h
theorem bneI_eq {a b : Int} (h : (a != b) = false) : (a == b) = true := by simpa using h
theorem bneI_ne {a b : Int} (h : (a != b) = true) : (a == b) = false := by simpa using h

set_option maxHeartbeats 800000 in
theorem same_any (e : Ex) : ∀ (y : Ex) (A : Option Addr) (cap : Nat) (A2 : Option Addr) (cap2 : Nat) (w : World), SubsAt w e A cap → SubsAt w y A2 cap2 →
    Calls Tryz.prog 71 #[exV e A cap, exV y A2 cap2] w fun r w' => r = .returned (.bool (e.same y)) ∧ Below w.heap.size w w' := by
  induction e using Ex.ind with
  | h e ih =>
  intro y A cap A2 cap2 w he hy
  have hl := he.len
  have hl' := hy.len
  unfold maxLen at hl hl'
  obtain ⟨hl1, hl2⟩ := hl
  obtain ⟨hl3, hl4⟩ := hl'
  have hv := Ex.same_eq e y
  unfold exV
  cases h1 : (e.kind != y.kind)
  case true => rw [bneI_ne h1, Bool.false_and, Bool.false_and, Bool.false_and, Bool.false_and] at hv
               have HV := Lib.hid hv; clear hv
               go_enter Tryz.func71, Tryz.ntmps71
               go_wp2_with fail
               go_ret
               exact ⟨ret_bool HV.out.symm, belA⟩
  rw [bneI_eq h1, Bool.true_and] at hv
  cases h2 : (e.n != y.n)
  case true => rw [bneI_ne h2, Bool.false_and, Bool.false_and, Bool.false_and] at hv
               have HV := Lib.hid hv; clear hv
               go_enter Tryz.func71, Tryz.ntmps71
               go_wp2_with fail
               go_ret
               exact ⟨ret_bool HV.out.symm, belA⟩
  rw [bneI_eq h2, Bool.true_and] at hv
  cases h3 : (e.name.toList == y.name.toList)
  case false => rw [h3, Bool.false_and, Bool.false_and] at hv
                have HV := Lib.hid hv; clear hv
                go_enter Tryz.func71, Tryz.ntmps71
                go_wp2_with fail
                go_ret
                exact ⟨ret_bool HV.out.symm, belA⟩
  rw [h3, Bool.true_and] at hv
  cases h4 : ((e.sub.length : Int) != y.sub.length)
  case true => have h4n : (e.sub.length == y.sub.length) = false := by { simp at h4; simp; omega }; rw [h4n, Bool.false_and] at hv; clear h4n
               have HV := Lib.hid hv; clear hv
               go_enter Tryz.func71, Tryz.ntmps71
               go_wp2_with fail
               go_ret
               exact ⟨ret_bool HV.out.symm, belA⟩
  have h4n : e.sub.length = y.sub.length := by have := bneI_false h4; omega
  rw [h4n, beq_self_eq_true, Bool.true_and] at hv
  have HV := Lib.hid hv; clear hv
  have H4 := Lib.hid h4n; clear h4n
  go_enter Tryz.func71, Tryz.ntmps71
  go_wp2_with fail
  go_loopw [38] (fun i wr => ∃ (k : Nat), k ≤ e.sub.length ∧ i = .int .i64 k ∧ Ex.sameL (e.sub.drop k) (y.sub.drop k) = e.same y ∧ wr.cell? ⟨w.heap.size + 1, 3, none⟩ = some (.slice A2 y.sub.length cap2) ∧ Below w.heap.size w wr) (fun i _ => e.sub.length - (intOf i).toNat)
  case atStart => exact ⟨0, Nat.zero_le _, rfl, by rw [HV.out]; simp, by go_simp, belA⟩
  case round =>
    obtain ⟨k, hk, rfl, hrem, hbox, hbel⟩ := hrel
    have hbz := block_lt_of_cell hbox
    dsimp only at hbz
    have hbz' : w.heap.size < wr.heap.size := by omega
    by_cases hlt : k < e.sub.length
    · have hlt2 : k < y.sub.length := by have := H4.out; omega
      have hx : e.sub[k]? = some e.sub[k] := List.getElem?_eq_getElem hlt
      have hmem : e.sub[k] ∈ e.sub := List.getElem_mem hlt
      have hd : e.sub.drop k = e.sub[k] :: e.sub.drop (k + 1) := List.drop_eq_getElem_cons hlt
      generalize e.sub[k] = x at hx hmem hd
      obtain ⟨b, off, A', cap', rfl, c0, c1, c2, c3, hs⟩ := (he.later hbel).get hx
      have hx2 : y.sub[k]? = some y.sub[k] := List.getElem?_eq_getElem hlt2
      have hd2 : y.sub.drop k = y.sub[k] :: y.sub.drop (k + 1) := List.drop_eq_getElem_cons hlt2
      generalize y.sub[k] = x2 at hx2 hd2
      obtain ⟨b2, off2, A2', cap2', rfl, g0, g1, g2, g3, hy2⟩ := (hy.later hbel).get hx2
      rw [hd, hd2, Ex.sameL] at hrem
      have ihx := ih x hmem
      have hb2 := block_lt_of_cell g0
      dsimp only at hb2
      have hb2' : b2 < wr.heap.size + 1 := by omega
      cases hsm : x.same x2
      · rw [hsm] at hrem
        have HR := Lib.hid hrem; clear hrem hd hd2 hx hx2
        go_wp2_with fail
        refine wp_region_qb (by kernel_rfl) (by kernel_rfl) (fun hgq => ?_)
        repeat (quiet_step ((go_at_call 71; exact Calls.regrown_of (ihx x2 _ _ _ _ _ (hs.later belA) (hy2.later belA)))))
        refine wpQuiet_nil ?_
        intro wq hwq
        replace hwq := bel_of_class hwq
        clear hgq
        have hcq := bcell hwq
        have hzq := hwq.size
        (try simp at hzq)
        (try have hyq1 := lt0 w wq); (try have hyq2 := ltA w 1 wq); (try have hyq3 := ltA w 2 wq); (try have hyq4 := lt0 wr wq)
        go_wp2_with fail
        go_ret
        exact ⟨ret_bool HR.out, belA⟩
      · rw [hsm] at hrem
        have HR := Lib.hid hrem; clear hrem hd hd2 hx hx2
        go_wp2_with fail
        refine wp_region_qb (by kernel_rfl) (by kernel_rfl) (fun hgq => ?_)
        repeat (quiet_step ((go_at_call 71; exact Calls.regrown_of (ihx x2 _ _ _ _ _ (hs.later belA) (hy2.later belA)))))
        refine wpQuiet_nil ?_
        intro wq hwq
        replace hwq := bel_of_class hwq
        clear hgq
        have hcq := bcell hwq
        have hzq := hwq.size
        (try simp at hzq)
        (try have hyq1 := lt0 w wq); (try have hyq2 := ltA w 1 wq); (try have hyq3 := ltA w 2 wq); (try have hyq4 := lt0 wr wq)
        go_wp2_with fail
        go_roundw
        case rel => exact ⟨k + 1, by omega, by go_num, HR.out, (by repeat (first | (with_reducible assumption) | refine bel_cell (by with_reducible assumption) ?_ | refine cel_alloc ?_ | refine cel_drew ?_)), belA⟩
        case measure => simp [intOf]; omega
    · have hke : k = e.sub.length := by omega
      rw [hke, List.drop_length, Ex.sameL] at hrem
      have HR := Lib.hid hrem; clear hrem hke
      go_wp2_with fail
      go_ret
      exact ⟨ret_bool HR.out, belA⟩

end Go.Proofs.YtikmbkojnfmiaaaGreatDoorRRRR

/- Walks over the package tree: formed, Right, literal. -/
namespace Go.Proofs.YtikmbkojnfmiaaaGreatDoorRRRR
open Go.RowKit Go.Sort

set_option maxHeartbeats 1000000 in
theorem formed_any (e : Ex) : ∀ (A : Option Addr) (cap : Nat) (w : World), SubsAt w e A cap →
    Calls Tryz.prog 92 #[exV e A cap] w fun r w' => r = .returned (.bool e.formed) ∧ Below w.heap.size w w' := by
  induction e using Ex.ind with
  | h e ih =>
  intro A cap w he
  have hl := he.len
  unfold maxLen at hl
  obtain ⟨hl1, hl2⟩ := hl
  have hv := Ex.formed_eq e
  unfold formedH at hv
  unfold exV
  cases h1 : (formK e.kind).2.2.2.2
  case false => simp only [h1, Bool.false_and] at hv
                have HV := Lib.hid hv; clear hv
                go_enter Tryz.func92, Tryz.ntmps92
                go_wp2_with (first | (go_at_call 101; refine (form_any _ _).mono ?_; rintro r w1 ⟨rfl, rfl⟩))
                go_ret
                exact ⟨ret_bool HV.out.symm, belA⟩
  cases h2 : ((e.sub.length : Int) != (formK e.kind).1)
  case true => simp only [bneI_ne h2, Bool.false_and, Bool.and_false] at hv
               have HV := Lib.hid hv; clear hv
               go_enter Tryz.func92, Tryz.ntmps92
               go_wp2_with (first | (go_at_call 101; refine (form_any _ _).mono ?_; rintro r w1 ⟨rfl, rfl⟩))
               go_ret
               exact ⟨ret_bool HV.out.symm, belA⟩
  cases h3 : decide (e.n < (formK e.kind).2.1)
  case true => simp only [h3, Bool.false_and, Bool.and_false, Bool.not_true] at hv
               have HV := Lib.hid hv; clear hv
               go_enter Tryz.func92, Tryz.ntmps92
               go_wp2_with (first | (go_at_call 101; refine (form_any _ _).mono ?_; rintro r w1 ⟨rfl, rfl⟩))
               go_ret
               exact ⟨ret_bool HV.out.symm, belA⟩
  cases h4 : decide ((formK e.kind).2.2.1 < e.n)
  case true => simp only [h4, Bool.false_and, Bool.and_false, Bool.not_true] at hv
               have HV := Lib.hid hv; clear hv
               go_enter Tryz.func92, Tryz.ntmps92
               go_wp2_with (first | (go_at_call 101; refine (form_any _ _).mono ?_; rintro r w1 ⟨rfl, rfl⟩))
               go_ret
               exact ⟨ret_bool HV.out.symm, belA⟩
  replace hv : e.formed = (((formK e.kind).2.2.2.1 == nameB e.name) && ((formK e.kind).2.2.2.1 || e.name.toList.isEmpty) && Ex.formedL e.sub) := by
    rw [hv]; simp only [h1, bneI_eq h2, h3, h4, Bool.not_false, Bool.true_and]
  cases h5 : (formK e.kind).2.2.2.1
  case false =>
    cases h6 : nameB e.name
    case true => simp only [h5, h6, Bool.false_beq, Bool.not_true, Bool.false_and] at hv
                 have HV := Lib.hid hv; clear hv
                 go_enter Tryz.func92, Tryz.ntmps92
                 go_wp2_with (first | (go_at_call 101; refine (form_any _ _).mono ?_; rintro r w1 ⟨rfl, rfl⟩) | (go_at_call 67; refine (name_any _ _).mono ?_; rintro r w1 ⟨rfl, hb1⟩; have hc1 := bcell hb1; have hz1 := hb1.size; (try simp at hz1); (try have hy1 := lt0 w w1); (try have hy2 := ltA w 1 w1); (try have hy3 := ltA w 2 w1); (try have hy4 := lt0 wr w1); (try have hy5 := ltA wr 1 w1)))
                 go_ret
                 exact ⟨ret_bool HV.out.symm, belA⟩
    cases h7 : e.name.toList.isEmpty
    case false => simp only [h5, h6, h7, Bool.false_or, Bool.and_false, Bool.false_and] at hv
                  have HV := Lib.hid hv; clear hv
                  go_enter Tryz.func92, Tryz.ntmps92
                  go_wp2_with (first | (go_at_call 101; refine (form_any _ _).mono ?_; rintro r w1 ⟨rfl, rfl⟩) | (go_at_call 67; refine (name_any _ _).mono ?_; rintro r w1 ⟨rfl, hb1⟩; have hc1 := bcell hb1; have hz1 := hb1.size; (try simp at hz1); (try have hy1 := lt0 w w1); (try have hy2 := ltA w 1 w1); (try have hy3 := ltA w 2 w1); (try have hy4 := lt0 wr w1); (try have hy5 := ltA wr 1 w1)))
                  go_ret
                  exact ⟨ret_bool HV.out.symm, belA⟩
    rw [h5, h6, h7] at hv
    have HV := Lib.hid hv; clear hv
    go_enter Tryz.func92, Tryz.ntmps92
    go_wp2_with (first | (go_at_call 101; refine (form_any _ _).mono ?_; rintro r w1 ⟨rfl, rfl⟩) | (go_at_call 67; refine (name_any _ _).mono ?_; rintro r w1 ⟨rfl, hb1⟩; have hc1 := bcell hb1; have hz1 := hb1.size; (try simp at hz1); (try have hy1 := lt0 w w1); (try have hy2 := ltA w 1 w1); (try have hy3 := ltA w 2 w1); (try have hy4 := lt0 wr w1); (try have hy5 := ltA wr 1 w1)))
    go_loopw [59] (fun i wr => ∃ (k : Nat), k ≤ e.sub.length ∧ i = .int .i64 k ∧ Ex.formedL (e.sub.drop k) = e.formed ∧ Below w.heap.size w wr) (fun i _ => e.sub.length - (intOf i).toNat)
    case atStart => exact ⟨0, Nat.zero_le _, rfl, by rw [HV.out]; simp, belA⟩
    case round =>
      obtain ⟨k, hk, rfl, hrem, hbel⟩ := hrel
      by_cases hlt : k < e.sub.length
      · have hx : e.sub[k]? = some e.sub[k] := List.getElem?_eq_getElem hlt
        have hmem : e.sub[k] ∈ e.sub := List.getElem_mem hlt
        have hd : e.sub.drop k = e.sub[k] :: e.sub.drop (k + 1) := List.drop_eq_getElem_cons hlt
        generalize e.sub[k] = x at hx hmem hd
        obtain ⟨b, off, A', cap', rfl, c0, c1, c2, c3, hs⟩ := (he.later hbel).get hx
        rw [hd, Ex.formedL] at hrem
        have ihx := ih x hmem
        cases hfx : x.formed
        · rw [hfx, Bool.false_and] at hrem
          have HR := Lib.hid hrem; clear hrem hd hx
          go_wp2_with (go_at_call 92; refine (ihx A' cap' _ (hs.later belA)).mono ?_; rintro r w2 ⟨rfl, hb2⟩)
          go_ret
          exact ⟨ret_bool HR.out, belA⟩
        · rw [hfx, Bool.true_and] at hrem
          have HR := Lib.hid hrem; clear hrem hd hx
          go_wp2_with (go_at_call 92; refine (ihx A' cap' _ (hs.later belA)).mono ?_; rintro r w2 ⟨rfl, hb2⟩)
          go_roundw
          case rel => exact ⟨k + 1, by omega, by go_num, HR.out, belA⟩
          case measure => simp [intOf]; omega
      · have hke : k = e.sub.length := by omega
        rw [hke, List.drop_length] at hrem
        rw [Ex.formedL] at hrem
        have HR := Lib.hid hrem; clear hrem hke
        go_wp2_with fail
        go_ret
        exact ⟨ret_bool HR.out, belA⟩
  case true =>
    cases h6 : nameB e.name
    case false => simp only [h5, h6, Bool.true_beq, Bool.false_and] at hv
                  have HV := Lib.hid hv; clear hv
                  go_enter Tryz.func92, Tryz.ntmps92
                  go_wp2_with (first | (go_at_call 101; refine (form_any _ _).mono ?_; rintro r w1 ⟨rfl, rfl⟩) | (go_at_call 67; refine (name_any _ _).mono ?_; rintro r w1 ⟨rfl, hb1⟩; have hc1 := bcell hb1; have hz1 := hb1.size; (try simp at hz1); (try have hy1 := lt0 w w1); (try have hy2 := ltA w 1 w1); (try have hy3 := ltA w 2 w1); (try have hy4 := lt0 wr w1); (try have hy5 := ltA wr 1 w1)))
                  go_ret
                  exact ⟨ret_bool HV.out.symm, belA⟩
    rw [h5, h6] at hv
    have HV := Lib.hid hv; clear hv
    go_enter Tryz.func92, Tryz.ntmps92
    go_wp2_with (first | (go_at_call 101; refine (form_any _ _).mono ?_; rintro r w1 ⟨rfl, rfl⟩) | (go_at_call 67; refine (name_any _ _).mono ?_; rintro r w1 ⟨rfl, hb1⟩; have hc1 := bcell hb1; have hz1 := hb1.size; (try simp at hz1); (try have hy1 := lt0 w w1); (try have hy2 := ltA w 1 w1); (try have hy3 := ltA w 2 w1); (try have hy4 := lt0 wr w1); (try have hy5 := ltA wr 1 w1)))
    go_loopw [59] (fun i wr => ∃ (k : Nat), k ≤ e.sub.length ∧ i = .int .i64 k ∧ Ex.formedL (e.sub.drop k) = e.formed ∧ Below w.heap.size w wr) (fun i _ => e.sub.length - (intOf i).toNat)
    case atStart => exact ⟨0, Nat.zero_le _, rfl, by rw [HV.out]; simp, belA⟩
    case round =>
      obtain ⟨k, hk, rfl, hrem, hbel⟩ := hrel
      by_cases hlt : k < e.sub.length
      · have hx : e.sub[k]? = some e.sub[k] := List.getElem?_eq_getElem hlt
        have hmem : e.sub[k] ∈ e.sub := List.getElem_mem hlt
        have hd : e.sub.drop k = e.sub[k] :: e.sub.drop (k + 1) := List.drop_eq_getElem_cons hlt
        generalize e.sub[k] = x at hx hmem hd
        obtain ⟨b, off, A', cap', rfl, c0, c1, c2, c3, hs⟩ := (he.later hbel).get hx
        rw [hd, Ex.formedL] at hrem
        have ihx := ih x hmem
        cases hfx : x.formed
        · rw [hfx, Bool.false_and] at hrem
          have HR := Lib.hid hrem; clear hrem hd hx
          go_wp2_with (go_at_call 92; refine (ihx A' cap' _ (hs.later belA)).mono ?_; rintro r w2 ⟨rfl, hb2⟩)
          go_ret
          exact ⟨ret_bool HR.out, belA⟩
        · rw [hfx, Bool.true_and] at hrem
          have HR := Lib.hid hrem; clear hrem hd hx
          go_wp2_with (go_at_call 92; refine (ihx A' cap' _ (hs.later belA)).mono ?_; rintro r w2 ⟨rfl, hb2⟩)
          go_roundw
          case rel => exact ⟨k + 1, by omega, by go_num, HR.out, belA⟩
          case measure => simp [intOf]; omega
      · have hke : k = e.sub.length := by omega
        rw [hke, List.drop_length] at hrem
        rw [Ex.formedL] at hrem
        have HR := Lib.hid hrem; clear hrem hke
        go_wp2_with fail
        go_ret
        exact ⟨ret_bool HR.out, belA⟩

end Go.Proofs.YtikmbkojnfmiaaaGreatDoorRRRR

/- Walks over the package tree: Right, literal, variable. -/
namespace Go.Proofs.YtikmbkojnfmiaaaGreatDoorRRRR
open Go.RowKit Go.Sort

set_option maxHeartbeats 400000 in
theorem right_any (e : Ex) (A : Option Addr) (cap : Nat) (w : World) (he : SubsAt w e A cap) :
    Calls Tryz.prog 69 #[exV e A cap] w fun r w' => r = .returned (.int .i64 e.right) ∧ Below w.heap.size w w' := by
  have hv : e.right = if 120 < e.count 121 then 3 else if 12 < e.depth then 17 else if e.formed then 0 else 4 := rfl
  have hcount := fun W h => count_any e A cap 121 W (he.later h) (by omega) (by omega)
  by_cases h1 : 120 < e.count 121
  · rw [if_pos h1] at hv
    have HV := Lib.hid hv; clear hv
    unfold exV at hcount ⊢
    go_enter Tryz.func69, Tryz.ntmps69
    go_wp2_with (first | (go_at_call 90; refine (hcount _ belA).mono ?_; rintro r w1 ⟨rfl, hb1⟩; have hc1 := bcell hb1; have hz1 := hb1.size; (try simp at hz1); (try have hy1 := lt0 w w1); (try have hy2 := ltA w 1 w1); (try have hy3 := ltA w 2 w1); (try have hy4 := lt0 wr w1); (try have hy5 := ltA wr 1 w1)))
    go_ret
    exact ⟨ret_int HV.out.symm, belA⟩
  rw [if_neg h1] at hv
  have hsz := Ex.count_size e 121 (by omega)
  have hdepth := fun W h => depth_any e A cap W (he.later h) (by omega)
  clear hsz
  by_cases h2 : 12 < e.depth
  · rw [if_pos h2] at hv
    have HV := Lib.hid hv; clear hv
    unfold exV at hcount hdepth ⊢
    go_enter Tryz.func69, Tryz.ntmps69
    go_wp2_with (first | (go_at_call 90; refine (hcount _ belA).mono ?_; rintro r w1 ⟨rfl, hb1⟩; have hc1 := bcell hb1; have hz1 := hb1.size; (try simp at hz1); (try have hy1 := lt0 w w1); (try have hy2 := ltA w 1 w1); (try have hy3 := ltA w 2 w1); (try have hy4 := lt0 wr w1); (try have hy5 := ltA wr 1 w1)) | (go_at_call 91; refine (hdepth _ belA).mono ?_; rintro r w1 ⟨rfl, hb1⟩; have hc1 := bcell hb1; have hz1 := hb1.size; (try simp at hz1); (try have hy1 := lt0 w w1); (try have hy2 := ltA w 1 w1); (try have hy3 := ltA w 2 w1); (try have hy4 := lt0 wr w1); (try have hy5 := ltA wr 1 w1)))
    go_ret
    exact ⟨ret_int HV.out.symm, belA⟩
  rw [if_neg h2] at hv
  have hformed := fun W h => formed_any e A cap W (he.later h)
  cases h3 : e.formed
  · rw [h3, if_neg (by simp)] at hv
    have HV := Lib.hid hv; clear hv
    unfold exV at hcount hdepth hformed ⊢
    go_enter Tryz.func69, Tryz.ntmps69
    go_wp2_with (first | (go_at_call 90; refine (hcount _ belA).mono ?_; rintro r w1 ⟨rfl, hb1⟩; have hc1 := bcell hb1; have hz1 := hb1.size; (try simp at hz1); (try have hy1 := lt0 w w1); (try have hy2 := ltA w 1 w1); (try have hy3 := ltA w 2 w1); (try have hy4 := lt0 wr w1); (try have hy5 := ltA wr 1 w1)) | (go_at_call 91; refine (hdepth _ belA).mono ?_; rintro r w1 ⟨rfl, hb1⟩; have hc1 := bcell hb1; have hz1 := hb1.size; (try simp at hz1); (try have hy1 := lt0 w w1); (try have hy2 := ltA w 1 w1); (try have hy3 := ltA w 2 w1); (try have hy4 := lt0 wr w1); (try have hy5 := ltA wr 1 w1)) | (go_at_call 92; refine (hformed _ belA).mono ?_; rintro r w1 ⟨rfl, hb1⟩; have hc1 := bcell hb1; have hz1 := hb1.size; (try simp at hz1); (try have hy1 := lt0 w w1); (try have hy2 := ltA w 1 w1); (try have hy3 := ltA w 2 w1); (try have hy4 := lt0 wr w1); (try have hy5 := ltA wr 1 w1)))
    go_ret
    exact ⟨ret_int HV.out.symm, belA⟩
  · rw [h3, if_pos rfl] at hv
    have HV := Lib.hid hv; clear hv
    unfold exV at hcount hdepth hformed ⊢
    go_enter Tryz.func69, Tryz.ntmps69
    go_wp2_with (first | (go_at_call 90; refine (hcount _ belA).mono ?_; rintro r w1 ⟨rfl, hb1⟩; have hc1 := bcell hb1; have hz1 := hb1.size; (try simp at hz1); (try have hy1 := lt0 w w1); (try have hy2 := ltA w 1 w1); (try have hy3 := ltA w 2 w1); (try have hy4 := lt0 wr w1); (try have hy5 := ltA wr 1 w1)) | (go_at_call 91; refine (hdepth _ belA).mono ?_; rintro r w1 ⟨rfl, hb1⟩; have hc1 := bcell hb1; have hz1 := hb1.size; (try simp at hz1); (try have hy1 := lt0 w w1); (try have hy2 := ltA w 1 w1); (try have hy3 := ltA w 2 w1); (try have hy4 := lt0 wr w1); (try have hy5 := ltA wr 1 w1)) | (go_at_call 92; refine (hformed _ belA).mono ?_; rintro r w1 ⟨rfl, hb1⟩; have hc1 := bcell hb1; have hz1 := hb1.size; (try simp at hz1); (try have hy1 := lt0 w w1); (try have hy2 := ltA w 1 w1); (try have hy3 := ltA w 2 w1); (try have hy4 := lt0 wr w1); (try have hy5 := ltA wr 1 w1)))
    go_ret
    exact ⟨ret_int HV.out.symm, belA⟩

end Go.Proofs.YtikmbkojnfmiaaaGreatDoorRRRR

/- Walks over the package tree: literal, variable. -/
namespace Go.Proofs.YtikmbkojnfmiaaaGreatDoorRRRR
open Go.RowKit Go.Sort

theorem ret_eq {a b : Bool} (h : a = b) : Ending.returned (.bool a) = .returned (.bool b) := by rw [h]

set_option maxHeartbeats 400000 in
theorem literal_any (e : Ex) (A : Option Addr) (cap : Nat) (w : World) (he : SubsAt w e A cap) :
    Calls Tryz.prog 70 #[exV e A cap] w fun r w' => r = .returned (.bool e.literal) ∧ Below w.heap.size w w' := by
  have hl := he.len
  unfold maxLen at hl
  obtain ⟨hl1, hl2⟩ := hl
  have hv : e.literal = if e.right = 0 then (if e.kind = 4 ∧ e.n = 1 then (match e.sub with | x :: _ => x.kind == 1 | [] => false) else (e.kind == 1 || e.kind == 2)) else false := rfl
  have hright := fun W h => right_any e A cap W (he.later h)
  unfold exV at hright ⊢
  cases h1 : (e.right != 0)
  case true =>
    rw [if_neg (by intro h; rw [h] at h1; simp at h1)] at hv
    have HV := Lib.hid hv; clear hv
    go_enter Tryz.func70, Tryz.ntmps70
    go_wp2_with (first | (go_at_call 69; refine (hright _ belA).mono ?_; rintro r w1 ⟨rfl, hb1⟩; have hc1 := bcell hb1; have hz1 := hb1.size; (try simp at hz1); (try have hy1 := lt0 w w1); (try have hy2 := ltA w 1 w1); (try have hy3 := ltA w 2 w1); (try have hy4 := lt0 wr w1); (try have hy5 := ltA wr 1 w1)))
    go_ret
    exact ⟨ret_bool HV.out.symm, belA⟩
  have hr0 := bneI_false h1
  rw [if_pos hr0] at hv
  cases h2 : (e.kind == 4)
  case false =>
    rw [if_neg (by rintro ⟨h, _⟩; rw [h] at h2; simp at h2)] at hv
    cases h3 : (e.kind == 1)
    case true =>
      rw [h3, Bool.true_or] at hv
      clear hr0
      have HV := Lib.hid hv; clear hv
      go_enter Tryz.func70, Tryz.ntmps70
      go_wp2_with (first | (go_at_call 69; refine (hright _ belA).mono ?_; rintro r w1 ⟨rfl, hb1⟩; have hc1 := bcell hb1; have hz1 := hb1.size; (try simp at hz1); (try have hy1 := lt0 w w1); (try have hy2 := ltA w 1 w1); (try have hy3 := ltA w 2 w1); (try have hy4 := lt0 wr w1); (try have hy5 := ltA wr 1 w1)))
      go_ret
      exact ⟨ret_bool HV.out.symm, belA⟩
    rw [h3, Bool.false_or] at hv
    clear hr0
    have HV := Lib.hid hv; clear hv
    go_enter Tryz.func70, Tryz.ntmps70
    go_wp2_with (first | (go_at_call 69; refine (hright _ belA).mono ?_; rintro r w1 ⟨rfl, hb1⟩; have hc1 := bcell hb1; have hz1 := hb1.size; (try simp at hz1); (try have hy1 := lt0 w w1); (try have hy2 := ltA w 1 w1); (try have hy3 := ltA w 2 w1); (try have hy4 := lt0 wr w1); (try have hy5 := ltA wr 1 w1)))
    go_ret
    exact ⟨ret_bool HV.out.symm, belA⟩
  have hk4 := beqI_true h2
  cases h4 : (e.n == 1)
  case false =>
    rw [if_neg (by rintro ⟨_, h⟩; rw [h] at h4; simp at h4), hk4] at hv
    clear hr0 hk4
    have h5 : (e.kind == 1) = false := by rw [beqI_true h2]; rfl
    replace hv : e.literal = false := by rw [hv]; rfl
    have HV := Lib.hid hv; clear hv
    go_enter Tryz.func70, Tryz.ntmps70
    go_wp2_with (first | (go_at_call 69; refine (hright _ belA).mono ?_; rintro r w1 ⟨rfl, hb1⟩; have hc1 := bcell hb1; have hz1 := hb1.size; (try simp at hz1); (try have hy1 := lt0 w w1); (try have hy2 := ltA w 1 w1); (try have hy3 := ltA w 2 w1); (try have hy4 := lt0 wr w1); (try have hy5 := ltA wr 1 w1)))
    go_ret
    exact ⟨ret_bool (by rw [HV.out, beqI_true h2]; rfl), belA⟩
  rw [if_pos ⟨hk4, beqI_true h4⟩] at hv
  have hf := (Ex.right_zero.1 hr0).2.2
  rw [Ex.formed_eq, formedH, hk4] at hf
  have hlen : e.sub.length = 1 := by
    simp only [formK, Bool.and_eq_true] at hf
    have := beqI_true hf.1.1.1.1.1.2
    simp at this
    omega
  clear hf
  have hx : e.sub[0]? = some e.sub[0] := List.getElem?_eq_getElem (by omega)
  generalize e.sub[0] = x at hx
  have hsub : e.sub = [x] := by
    generalize e.sub = l at hlen hx
    match l, hlen, hx with
    | [y], _, h => simp at h; rw [h]
  rw [hsub] at hv
  obtain ⟨b, off, A', cap', rfl, c0, c1, c2, c3, hs⟩ := he.get hx
  have hb0 := block_lt_of_cell c0
  dsimp only at hb0
  have hb0' : b < w.heap.size + 1 := by omega
  have hlen' : 0 < e.sub.length := by omega
  simp only [Nat.zero_mul, Nat.add_zero] at c0
  clear hr0 hk4 hx hlen c1 c2 c3
  have HS := Lib.hid hsub; clear hsub
  have HV := Lib.hid hv; clear hv
  go_enter Tryz.func70, Tryz.ntmps70
  go_wp2_with (first | (go_at_call 69; refine (hright _ belA).mono ?_; rintro r w1 ⟨rfl, hb1⟩; have hc1 := bcell hb1; have hz1 := hb1.size; (try simp at hz1); (try have hy1 := lt0 w w1); (try have hy2 := ltA w 1 w1); (try have hy3 := ltA w 2 w1); (try have hy4 := lt0 wr w1); (try have hy5 := ltA wr 1 w1)))
  go_ret
  exact ⟨ret_bool HV.out.symm, belA⟩

set_option maxHeartbeats 400000 in
theorem variable_any (v : Va) (own : Bool) (w : World) :
    Calls Tryz.prog 68 #[vaV v, .bool own] w fun r w' => r = .returned (.bool (variableB v own)) ∧ Below w.heap.size w w' := by
  unfold variableB vaV
  cases h1 : nameB v.name
  · go_enter Tryz.func68, Tryz.ntmps68
    go_wp2_with (first | (go_at_call 67; refine (name_any _ _).mono ?_; rintro r w1 ⟨rfl, hb1⟩; have hc1 := bcell hb1; have hz1 := hb1.size; (try simp at hz1); (try have hy1 := lt0 w w1); (try have hy2 := ltA w 1 w1); (try have hy3 := ltA w 2 w1); (try have hy4 := lt0 wr w1); (try have hy5 := ltA wr 1 w1)))
    all_goals (go_ret; exact ⟨ret_bool rfl, belA⟩)
  cases h2 : nameB v.cn <;> cases own <;>
  · go_enter Tryz.func68, Tryz.ntmps68
    go_wp2_with (first | (go_at_call 67; refine (name_any _ _).mono ?_; rintro r w1 ⟨rfl, hb1⟩; have hc1 := bcell hb1; have hz1 := hb1.size; (try simp at hz1); (try have hy1 := lt0 w w1); (try have hy2 := ltA w 1 w1); (try have hy3 := ltA w 2 w1); (try have hy4 := lt0 wr w1); (try have hy5 := ltA wr 1 w1)))
    all_goals (first | (exfalso; simp_all; done) | (go_ret; exact ⟨ret_bool (by simp_all), belA⟩) | go_ways)

end Go.Proofs.YtikmbkojnfmiaaaGreatDoorRRRR
