/- Slices that a call makes for itself: append of one element; what stays as it is. -/
import Derived.Test.YtlfklfjnkpjooaaRep
import Derived.WalkKit
import Derived.WalkSpells
import Derived.WalkLawsBesides
import Derived.Deep.QuietTactic
import Derived.BigQuiet
import Derived.Deep.Draws
import Derived.Lib.Hide
import Derived.Deep.LoopGhost
import Derived.StillTailTactics
import Derived.Deep.RegionHeld3
import Derived.Deep.RegionWith
import Derived.Lib.QuietBelow
set_option linter.unusedVariables false
set_option linter.unusedSimpArgs false
namespace Go.Proofs.Ytlfklfjnkpjooaa
open Go.RowKit Go.Sort

section
variable {P : Program} {w w' : World} {base : Nat} {e : TypeId} {size n : Nat} {v : Value} {xs : List Value}

theorem own_keep (h : w.ownsRow base e size v n xs) (hb : ∀ k, k < w.heap.size → w'.heap[k]? = w.heap[k]?) : w'.ownsRow base e size v n xs := by
  obtain ⟨h1, h2⟩ := h
  refine ⟨h1, ?_⟩
  rcases h2 with h2 | ⟨g, cap, cur, hv, hg, hh, r⟩
  · exact .inl h2
  · refine .inr ⟨g, cap, cur, hv, hg, ?_, r⟩
    have hlt : g < w.heap.size := by
      rcases Nat.lt_or_ge g w.heap.size with h | h
      · exact h
      · rw [Array.getElem?_eq_none h] at hh; cases hh
    rw [hb g hlt]; exact hh
theorem own_bel (h : w.ownsRow base e size v n xs) (hb : Below w.heap.size w w') : w'.ownsRow base e size v n xs := own_keep h hb.block
theorem own_alloc (h : w.ownsRow base e size v n xs) {o : Obj} : (w.alloc o).ownsRow base e size v n xs := h.alloc o
theorem own_drew (h : w.ownsRow base e size v n xs) : w.drew.ownsRow base e size v n xs := h
/-- An owned slice that is not empty: where it lies. -/
theorem own_get (h : w.ownsRow base e size v n xs) (hn : 0 < n) : ∃ g cap, v = .slice (some ⟨g, 0, none⟩) n cap ∧ base ≤ g ∧ g < w.heap.size ∧ n ≤ cap ∧ cap ≤ maxLen ∧ ∀ j u, xs[j]? = some u → w.cell? ⟨g, j, none⟩ = some u := by
  have hlt := h.lt
  obtain ⟨hx, h'⟩ := h
  have h : w.ownsRow base e size v n xs := ⟨hx, h'⟩
  rcases h' with ⟨rfl, h0⟩ | ⟨g, cap, cur, rfl, hg, hh, h1, h2, _⟩
  · omega
  · refine ⟨g, cap, rfl, hg, (hlt g rfl).2, h1, h2, fun j u hj => ?_⟩
    have := h.cells rfl j u hj
    have hadd : (⟨g, 0, none⟩ : Addr).add j = ⟨g, j, none⟩ := by unfold Addr.add; split <;> simp_all
    rwa [hadd] at this
theorem own_slice (h : w.ownsRow base e size v n xs) : ∃ A cap, v = .slice A n cap ∧ n ≤ cap ∧ cap ≤ maxLen := by
  rcases h.2 with ⟨rfl, rfl⟩ | ⟨g, cap, cur, rfl, hg, hh, h1, h2, _⟩
  · exact ⟨none, 0, rfl, Nat.le_refl _, by simp [maxLen]⟩
  · exact ⟨_, cap, rfl, h1, h2⟩
theorem bel_grow {a b c : World} {B : Nat} (h : Below a.heap.size a b) (k : Below B b c) (hB : a.heap.size ≤ B) : Below a.heap.size a c := h.trans (k.mono hB)
theorem cell_new (w : World) (c : Array Value) (t : TypeId) (j : Nat) : (w.alloc (.cells c t)).cell? ⟨w.heap.size, j, none⟩ = c[j]? := cell_of_row _ _ _ _ _ _ (heap_alloc_new w _)
theorem bel_of_le {B : Nat} {a b : World} (h : Below B a b) {B' : Nat} (hB : B' ≤ B) : Below B' a b := h.mono hB

/-- append of one element to a slice of the call's own. -/
theorem wpList_app {ops : Array Oper} {rest : List Oper} {o : Oper} {a : Act} {Q : Exit → Act → World → Prop} (hgd : o.guard = none) (s x : Operand) (t : TypeId)
    (ho : o.op = .call { callee := .builtin .append, args := #[s, x], argTypes := #[t, t] })
    (base : Nat) (e : TypeId) (z : Value) (size bytes : Nat) (ht : P.underlying t = some (.slice e)) (hi : (P.info? e).map (fun i => (i.zero, i.size, i.bytes)) = some (some z, size, bytes))
    (hzs : z.cells.size = size) (hsz : 0 < size) (v : Value) (n : Nat) (xs : List Value) (g c : Nat) (news : List Value)
    (hs : a.eval s = v) (hown : w.ownsRow base e size v n xs)
    (hx : a.eval x = .slice (some ⟨g, 0, none⟩) 1 c) (hl : news.length = size) (hnews : ∀ j u, news[j]? = some u → w.cell? ⟨g, j, none⟩ = some u) (h1 : ∀ u ∈ news, u.oneCell' = true)
    (hn : n < 100000000) (hb : bytes ≤ 1000) (hbase : base ≤ w.heap.size)
    (h : ∀ v' w', w'.ownsRow base e size v' (n + 1) (xs ++ news) → Below base w w' → wpList P ops Q rest (a.put o.dst v') w') : wpList P ops Q (o :: rest) a w := by
  obtain ⟨i, hi0, hz0, hz1, hz2⟩ := info_parts hi
  refine wpList_append_own w hgd s x t ho base e i z size bytes ht hi0 hz0 hz1 hz2 hzs hsz v n xs hs hown ⟨g, 0, none⟩ 1 c news hx (by simp [hl]) (fun j u hj => ?_) h1 (by unfold maxLen; omega) ?_ hbase fun v' w' h2 h3 _ => ?_
  · have hadd : (⟨g, 0, none⟩ : Addr).add j = ⟨g, j, none⟩ := by unfold Addr.add; split <;> simp_all
    rw [hadd]; exact hnews j u hj
  · exact Nat.le_trans (Nat.mul_le_mul (Nat.le_of_lt_succ (by omega : n + 1 < 100000002)) hb) (by omega)
  · refine h v' w' h2 ⟨h3.os, h3.tape, h3.output, h3.size, fun k hk => h3.block k (by omega) fun hk2 => ?_⟩
    have := (hown.lt k hk2.symm).1
    omega
end
end Go.Proofs.Ytlfklfjnkpjooaa
