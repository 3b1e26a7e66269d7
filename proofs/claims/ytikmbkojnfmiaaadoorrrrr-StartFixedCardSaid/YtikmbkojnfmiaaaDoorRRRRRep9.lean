/- Equations that lie in a row of their own, some of which are stored anew. -/
import Derived.Test.YtikmbkojnfmiaaaDoorRRRRBJ
set_option linter.unusedVariables false
set_option linter.unusedSimpArgs false
set_option maxRecDepth 100000
namespace Go.Proofs.YtikmbkojnfmiaaaDoorRRRR
open Go.RowKit Go.Sort

/-- Block g holds the cells of these equations. -/
def RowCells (W : World) (g : Nat) (l : List Qe) (ls : List ((Option Addr × Nat) × (Option Addr × Nat))) : Prop :=
  ∀ (k : Nat) (q : Qe) (a : (Option Addr × Nat) × (Option Addr × Nat)), l[k]? = some q → ls[k]? = some a → ∀ (i : Nat) (u : Value), (eqC q a)[i]? = some u → W.cell? ⟨g, k * 10 + i, none⟩ = some u
theorem RowCells.of_own {w : World} {base g n cap : Nat} {t : TypeId} {l : List Qe} {ls : List ((Option Addr × Nat) × (Option Addr × Nat))} (h : w.ownsRow base t 10 (.slice (some ⟨g, 0, none⟩) n cap) n (eqsC l ls)) (hn : 0 < n) : RowCells w g l ls := by
  obtain ⟨g', c', hv, hg, hlt, h1, h2, hc⟩ := own_get h hn
  injection hv with e1 e2 e3
  injection e1 with e1
  injection e1 with e1
  subst e1 e3
  intro k q a hq ha i u hu
  exact hc _ _ (eqsC_at l ls k q a hq ha i u hu)
theorem RowCells.eqs {W : World} {g cap : Nat} {l : List Qe} {ls : List ((Option Addr × Nat) × (Option Addr × Nat))} (h : RowCells W g l ls) (hl : ls.length = l.length) (h1 : l.length ≤ cap) (h2 : cap ≤ maxLen)
    (hs : ∀ (j : Nat) (q : Qe) (a : (Option Addr × Nat) × (Option Addr × Nat)), l[j]? = some q → ls[j]? = some a → SubsAt W q.first a.1.1 a.1.2 ∧ SubsAt W q.e a.2.1 a.2.2) : EqsAt W l (some ⟨g, 0, none⟩) cap := by
  refine ⟨h1, h2, fun _ => ⟨g, 0, rfl, fun k q hk => ?_⟩⟩
  have hka : k < ls.length := by rw [hl]; exact (List.getElem?_eq_some_iff.1 hk).1
  have ha : ls[k]? = some ls[k] := List.getElem?_eq_getElem hka
  generalize ls[k] = a at ha
  have hcc := h k q a hk ha
  have hsub := hs k q a hk ha
  rw [Nat.zero_add]
  exact ⟨a.1.1, a.1.2, a.2.1, a.2.2, ⟨hcc 0 _ rfl, hcc 1 _ rfl, hcc 2 _ rfl, hcc 3 _ rfl, hcc 4 _ rfl, hcc 5 _ rfl, hcc 6 _ rfl, hcc 7 _ rfl, hcc 8 _ rfl, hcc 9 _ rfl, hsub.1, hsub.2⟩⟩
theorem RowCells.set {W W2 : World} {g k : Nat} {l : List Qe} {ls : List ((Option Addr × Nat) × (Option Addr × Nat))} {q : Qe} {a : (Option Addr × Nat) × (Option Addr × Nat)} (h : RowCells W g l ls)
    (ho : ∀ o, (o < k * 10 ∨ k * 10 + 10 ≤ o) → W2.cell? ⟨g, o, none⟩ = W.cell? ⟨g, o, none⟩) (hn : ∀ (i : Nat) (u : Value), (eqC q a)[i]? = some u → W2.cell? ⟨g, k * 10 + i, none⟩ = some u) : RowCells W2 g (l.set k q) (ls.set k a) := by
  intro j q' a' hq ha i u hu
  rw [List.getElem?_set] at hq ha
  by_cases hj : k = j
  · subst hj
    rw [if_pos rfl] at hq ha
    split at hq
    · split at ha
      · injection hq with hq
        injection ha with ha
        subst hq ha
        exact hn i u hu
      · cases ha
    · cases hq
  · rw [if_neg hj] at hq ha
    have hi : i < 10 := by have := (List.getElem?_eq_some_iff.1 hu).1; simpa [eqC] using this
    rw [ho _ (by omega)]
    exact h j q' a' hq ha i u hu
theorem RowCells.same {W W2 : World} {g : Nat} {l : List Qe} {ls : List ((Option Addr × Nat) × (Option Addr × Nat))} (h : RowCells W g l ls) (hb : W2.heap[g]? = W.heap[g]?) : RowCells W2 g l ls :=
  fun k q a hq ha i u hu => cell_block (a := ⟨g, k * 10 + i, none⟩) hb (h k q a hq ha i u hu)
theorem grown_trans {a b c : World} {r : Option Nat} (h : a.grownBy b r) (k : b.grownBy c r) : a.grownBy c r :=
  ⟨k.os.trans h.os, k.tape.trans h.tape, k.output.trans h.output, Nat.le_trans h.size k.size, fun i hi hne => (k.block i (Nat.lt_of_lt_of_le hi h.size) hne).trans (h.block i hi hne)⟩
theorem grown_bel {a b : World} {r : Option Nat} (h : Below a.heap.size a b) : a.grownBy b r := ⟨h.os, h.tape, h.output, h.size, fun i hi _ => h.block i hi⟩
theorem grown_set {a b : World} {g : Nat} (h : a.grownBy b (some g)) (o : Nat) (u : Value) : a.grownBy (b.setCell ⟨g, o, none⟩ u) (some g) :=
  ⟨h.os, h.tape, h.output, by simpa using h.size, fun i hi hne => (heap_setCell_other b ⟨g, o, none⟩ i u (fun e => hne (by rw [e]))).trans (h.block i hi hne)⟩

/-- Equations in block g of a world, some of which were stored anew since W0. -/
structure FixAt (W0 wr : World) (g base : Nat) (l : List Qe) (ls : List ((Option Addr × Nat) × (Option Addr × Nat))) : Prop where
  len : ls.length = l.length
  rows : RowCells wr g l ls
  froz : ∀ j, wr.frozen? ⟨g, j, none⟩ = false
  subs : ∀ (j : Nat) (q : Qe) (a : (Option Addr × Nat) × (Option Addr × Nat)), l[j]? = some q → ls[j]? = some a → Off base (some g) W0 (fun W => SubsAt W q.first a.1.1 a.1.2 ∧ SubsAt W q.e a.2.1 a.2.2)
  grown : W0.grownBy wr (some g)
theorem FixAt.later {W0 wr w2 : World} {g base : Nat} {l : List Qe} {ls : List ((Option Addr × Nat) × (Option Addr × Nat))} (h : FixAt W0 wr g base l ls) (hg : g < wr.heap.size) (hb : Below wr.heap.size wr w2) : FixAt W0 w2 g base l ls :=
  ⟨h.len, h.rows.same (hb.block g hg), fun j => (hb.frozen (p := ⟨g, j, none⟩) hg).trans (h.froz j), h.subs, grown_trans h.grown (grown_bel hb)⟩
theorem subs_leaf (W : World) (k n : Int) (s : ByteArray) : SubsAt W (.mk k n s []) none 0 := by
  rw [SubsAt_iff]; exact ⟨Nat.le_refl _, by unfold maxLen; omega, fun h => absurd h (by simp [Ex.sub])⟩
theorem FixAt.step {W0 wr w2 : World} {g base k : Nat} {l : List Qe} {ls : List ((Option Addr × Nat) × (Option Addr × Nat))} {q q' : Qe} {a : (Option Addr × Nat) × (Option Addr × Nat)} (h : FixAt W0 wr g base l ls) (hk : l[k]? = some q) (ha : ls[k]? = some a)
    (he : q'.e = q.e) (hs : q'.first.sub = []) (ho : ∀ o, (o < k * 10 ∨ k * 10 + 10 ≤ o) → w2.cell? ⟨g, o, none⟩ = wr.cell? ⟨g, o, none⟩)
    (hn : ∀ (i : Nat) (u : Value), (eqC q' ((none, 0), a.2))[i]? = some u → w2.cell? ⟨g, k * 10 + i, none⟩ = some u) (hf : ∀ j, w2.frozen? ⟨g, j, none⟩ = false) (hg : wr.grownBy w2 (some g)) : FixAt W0 w2 g base (l.set k q') (ls.set k ((none, 0), a.2)) := by
  refine ⟨by simp [h.len], h.rows.set ho hn, hf, fun j x b hx hb => ?_, grown_trans h.grown hg⟩
  rw [List.getElem?_set] at hx hb
  by_cases hj : k = j
  · subst hj
    rw [if_pos rfl] at hx hb
    rw [if_pos (List.getElem?_eq_some_iff.1 hk).1] at hx
    rw [if_pos (List.getElem?_eq_some_iff.1 ha).1] at hb
    injection hx with hx
    injection hb with hb
    subst hx hb
    refine (h.subs k q a hk ha).map fun W hW => ⟨?_, by rw [he]; exact hW.2⟩
    generalize q'.first = x at hs
    cases x
    simp only [Ex.sub] at hs
    subst hs
    exact subs_leaf _ _ _ _
  · rw [if_neg hj] at hx hb
    exact h.subs j x b hx hb
theorem FixAt.eqs {W0 wr : World} {g base cap : Nat} {l : List Qe} {ls : List ((Option Addr × Nat) × (Option Addr × Nat))} (h : FixAt W0 wr g base l ls) (h1 : l.length ≤ cap) (h2 : cap ≤ maxLen) : EqsAt wr l (some ⟨g, 0, none⟩) cap :=
  h.rows.eqs h.len h1 h2 fun j q a hq ha => h.subs j q a hq ha wr fun k _ hk hne => h.grown.block k hk hne
theorem eqC_all {P : Nat → Value → Prop} {q : Qe} {a : (Option Addr × Nat) × (Option Addr × Nat)} (h0 : P 0 (.string q.name)) (h1 : P 1 (.int .i64 q.delay)) (h2 : P 2 (.int .i64 q.first.kind)) (h3 : P 3 (.int .i32 q.first.n)) (h4 : P 4 (.string q.first.name))
    (h5 : P 5 (.slice a.1.1 q.first.sub.length a.1.2)) (h6 : P 6 (.int .i64 q.e.kind)) (h7 : P 7 (.int .i32 q.e.n)) (h8 : P 8 (.string q.e.name)) (h9 : P 9 (.slice a.2.1 q.e.sub.length a.2.2)) : ∀ (i : Nat) (u : Value), (eqC q a)[i]? = some u → P i u := by
  intro i u hu
  match i with
  | 0 => injection hu with hu; subst hu; exact h0
  | 1 => injection hu with hu; subst hu; exact h1
  | 2 => injection hu with hu; subst hu; exact h2
  | 3 => injection hu with hu; subst hu; exact h3
  | 4 => injection hu with hu; subst hu; exact h4
  | 5 => injection hu with hu; subst hu; exact h5
  | 6 => injection hu with hu; subst hu; exact h6
  | 7 => injection hu with hu; subst hu; exact h7
  | 8 => injection hu with hu; subst hu; exact h8
  | 9 => injection hu with hu; subst hu; exact h9
  | i + 10 => simp [eqC] at hu
end Go.Proofs.YtikmbkojnfmiaaaDoorRRRR
