/- append of a whole slice to a slice of the call's own; a slice of variables as cells. -/
import Derived.Test.YtlfklfjnkpjooaaRep2
import Derived.Laws.OwnMore
import Derived.Deep.RegionLaw
import Derived.WalkKit
import Derived.WalkSpells
import Derived.WalkLawsBesides
import Derived.Deep.QuietTactic
import Derived.BigQuiet
import Derived.Deep.Draws
import Derived.Lib.Hide
import Derived.Deep.LoopGhost
import Derived.StillTailTactics
import Derived.Deep.RegionHeld3
import Derived.Deep.RegionWith
import Derived.Lib.QuietBelow
set_option linter.unusedVariables false
set_option linter.unusedSimpArgs false
namespace Go.Proofs.Ytlfklfjnkpjooaa
open Go.RowKit Go.Sort

/-- A slice value's m elements are the cells news. -/
def CellsAt (w : World) (A : Option Addr) (m size : Nat) (news : List Value) : Prop :=
  news.length = m * size ∧ (0 < m → ∃ b off, A = some ⟨b, off, none⟩ ∧ ∀ j u, news[j]? = some u → w.cell? ⟨b, off + j, none⟩ = some u)

section
variable {P : Program} {w : World}
theorem run_cat_nil (base : Nat) (t ty e : TypeId) (i : TypeInfo) (size : Nat) (ht : P.underlying t = some (.slice e)) (hi : P.info? e = some i) (v : Value) (n : Nat) (xs : List Value) (hown : w.ownsRow base e size v n xs) (c : Nat) :
    (Builtin.append_ #[t, t] ty #[v, .slice none 0 c]).run P w = .ok v w := by
  rcases hown.2 with ⟨rfl, rfl⟩ | ⟨g, cap, cur, rfl, _, _, hnc, _⟩
  · simp [Builtin.append_, run_underlying ht, sizeOf, typeInfo, hi, Builtin.lenOf, Builtin.firstCells]
  · simp [Builtin.append_, run_underlying ht, sizeOf, typeInfo, hi, Builtin.lenOf, Builtin.firstCells, hnc, storeCells]
theorem run_cat (base : Nat) (t ty e : TypeId) (z : Value) (size bytes : Nat) (ht : P.underlying t = some (.slice e)) (hi : (P.info? e).map (fun i => (i.zero, i.size, i.bytes)) = some (some z, size, bytes))
    (hzs : z.cells.size = size) (hsz : 0 < size) (v : Value) (n : Nat) (xs : List Value) (hown : w.ownsRow base e size v n xs) (A : Option Addr) (m c : Nat) (news : List Value)
    (hc : CellsAt w A m size news) (h1 : ∀ u ∈ news, u.oneCell' = true) (hn : n + m ≤ 100000000) (hb : bytes ≤ 1000) (hbase : base ≤ w.heap.size) :
    ∃ v' w', (Builtin.append_ #[t, t] ty #[v, .slice A m c]).run P w = .ok v' w' ∧ w'.ownsRow base e size v' (n + m) (xs ++ news) ∧ Below base w w' := by
  obtain ⟨i, hi0, hz0, hz1, hz2⟩ := info_parts hi
  obtain ⟨hl, hcells⟩ := hc
  have main : ∀ ad, A = some ad → (∀ j u, news[j]? = some u → w.cell? (ad.add j) = some u) → ∃ v' w', (Builtin.append_ #[t, t] ty #[v, .slice A m c]).run P w = .ok v' w' ∧ w'.ownsRow base e size v' (n + m) (xs ++ news) ∧ Below base w w' := by
    rintro ad rfl hj
    obtain ⟨v', w', hr, h2, h3, _⟩ := run_append_own w base t ty e i z size bytes ht hi0 hz0 hz1 hz2 hzs hsz v n xs hown ad m c news hl hj h1 (by unfold maxLen; omega) (Nat.le_trans (Nat.mul_le_mul hn hb) (by omega)) hbase
    refine ⟨v', w', hr, h2, ⟨h3.os, h3.tape, h3.output, h3.size, fun k hk => h3.block k (by omega) fun hk2 => ?_⟩⟩
    have := (hown.lt k hk2.symm).1
    omega
  rcases Nat.eq_zero_or_pos m with rfl | hm
  · have : news = [] := List.eq_nil_of_length_eq_zero (by simpa using hl)
    subst this
    cases A with
    | none => exact ⟨v, w, run_cat_nil base t ty e i size ht hi0 v n xs hown c, by simpa using hown, Below.refl _ _⟩
    | some ad => exact main ad rfl (fun j u hj => by simp at hj)
  · obtain ⟨b, off, rfl, hj⟩ := hcells hm
    refine main _ rfl fun j u hu => ?_
    have hadd : (⟨b, off, none⟩ : Addr).add j = ⟨b, off + j, none⟩ := by unfold Addr.add; split <;> simp_all
    rw [hadd]; exact hj j u hu

theorem wp_cat {o : Oper} {a : Act} {K : Act → World → Prop} {Q : Exit → Act → World → Prop} (s x : Operand) (t : TypeId)
    (ho : o.op = .call { callee := .builtin .append, args := #[s, x], argTypes := #[t, t] })
    (base : Nat) (e : TypeId) (z : Value) (size bytes : Nat) (ht : P.underlying t = some (.slice e)) (hi : (P.info? e).map (fun i => (i.zero, i.size, i.bytes)) = some (some z, size, bytes))
    (hzs : z.cells.size = size) (hsz : 0 < size) (v : Value) (n : Nat) (xs : List Value) (A : Option Addr) (m c : Nat) (news : List Value) (hs : a.eval s = v) (hown : w.ownsRow base e size v n xs)
    (hx : a.eval x = .slice A m c) (hc : CellsAt w A m size news) (h1 : ∀ u ∈ news, u.oneCell' = true) (hn : n + m ≤ 100000000) (hb : bytes ≤ 1000) (hbase : base ≤ w.heap.size)
    (h : ∀ v' w', w'.ownsRow base e size v' (n + m) (xs ++ news) → Below base w w' → K (a.put o.dst v') w') : o.wp P a w K Q := by
  obtain ⟨v', w', hr, h2, h3⟩ := run_cat (P := P) base t o.type e z size bytes ht hi hzs hsz v n xs hown A m c news hc h1 hn hb hbase
  unfold Oper.wp execOp
  simp only [ho, resolve, invoke, builtin, Sem.run_bind, Sem.run_pure, Result.andThen_ok, List.map_toArray, List.map_cons, List.map_nil, hs, hx, hr]
  exact h v' w' h2 h3

theorem wpList_cat {ops : Array Oper} {rest : List Oper} {o : Oper} {a : Act} {Q : Exit → Act → World → Prop} (hgd : o.guard = none) (s x : Operand) (t : TypeId)
    (ho : o.op = .call { callee := .builtin .append, args := #[s, x], argTypes := #[t, t] })
    (base : Nat) (e : TypeId) (z : Value) (size bytes : Nat) (ht : P.underlying t = some (.slice e)) (hi : (P.info? e).map (fun i => (i.zero, i.size, i.bytes)) = some (some z, size, bytes))
    (hzs : z.cells.size = size) (hsz : 0 < size) (v : Value) (n : Nat) (xs : List Value) (A : Option Addr) (m c : Nat) (news : List Value) (hs : a.eval s = v) (hown : w.ownsRow base e size v n xs)
    (hx : a.eval x = .slice A m c) (hc : CellsAt w A m size news) (h1 : ∀ u ∈ news, u.oneCell' = true) (hn : n + m ≤ 100000000) (hb : bytes ≤ 1000) (hbase : base ≤ w.heap.size)
    (h : ∀ v' w', w'.ownsRow base e size v' (n + m) (xs ++ news) → Below base w w' → wpList P ops Q rest (a.put o.dst v') w') : wpList P ops Q (o :: rest) a w :=
  wpList_plain hgd fun _ hK => wp_cat s x t ho base e z size bytes ht hi hzs hsz v n xs A m c news hs hown hx hc h1 hn hb hbase fun v' w' h2 h3 => hK _ _ (h v' w' h2 h3)

theorem step_cat {ops : Array Oper} {o : Oper} {a : Act} {K : Act → World → Prop} {Q : Exit → Act → World → Prop} {E : Prop} (hgd : o.guard = none) (s x : Operand) (t : TypeId)
    (ho : o.op = .call { callee := .builtin .append, args := #[s, x], argTypes := #[t, t] })
    (base : Nat) (e : TypeId) (z : Value) (size bytes : Nat) (ht : P.underlying t = some (.slice e)) (hi : (P.info? e).map (fun i => (i.zero, i.size, i.bytes)) = some (some z, size, bytes))
    (hzs : z.cells.size = size) (hsz : 0 < size) (v : Value) (n : Nat) (xs : List Value) (A : Option Addr) (m c : Nat) (news : List Value) (hs : a.eval s = v) (hown : w.ownsRow base e size v n xs)
    (hx : a.eval x = .slice A m c) (hc : CellsAt w A m size news) (h1 : ∀ u ∈ news, u.oneCell' = true) (hn : n + m ≤ 100000000) (hb : bytes ≤ 1000) (hbase : base ≤ w.heap.size)
    (h : ∀ v' w', w'.ownsRow base e size v' (n + m) (xs ++ news) → Below base w w' → K (a.put o.dst v') w') : if Region.wanted o (yielded ops a.tmps) = true then Oper.wp P o a w K Q else E := by
  have hw : Region.wanted o (yielded ops a.tmps) = true := by simp [Region.wanted, hgd]
  rw [if_pos hw]
  exact wp_cat s x t ho base e z size bytes ht hi hzs hsz v n xs A m c news hs hown hx hc h1 hn hb hbase h
end

/-- A variable's cells. -/
def vaC (v : Va) : List Value := [.string v.name, .int .i64 v.type, .int .i64 v.ck, .string v.cn]
def vasC (l : List Va) : List Value := l.flatMap vaC
theorem vasC_len (l : List Va) : (vasC l).length = l.length * 4 := by
  induction l with
  | nil => rfl
  | cons v l ih => rw [vasC, List.flatMap_cons, List.length_append, ← vasC, ih]; simp [vaC]; omega
theorem vasC_get : ∀ (l : List Va) (j : Nat) (u : Value), (vasC l)[j]? = some u → ∃ v, l[j / 4]? = some v ∧ (vaC v)[j % 4]? = some u
  | [], j, u, h => by simp [vasC] at h
  | v :: l, j, u, h => by
    rw [vasC, List.flatMap_cons, ← vasC] at h
    rcases Nat.lt_or_ge j 4 with hj | hj
    · rw [List.getElem?_append_left (by simpa [vaC] using hj)] at h
      refine ⟨v, ?_, ?_⟩
      · rw [Nat.div_eq_of_lt hj]; rfl
      · rw [Nat.mod_eq_of_lt hj]; exact h
    · rw [List.getElem?_append_right (by simpa [vaC] using hj)] at h
      have hlen : (vaC v).length = 4 := rfl
      rw [hlen] at h
      obtain ⟨x, h1, h2⟩ := vasC_get l (j - 4) u h
      refine ⟨x, ?_, ?_⟩
      · rw [show j / 4 = (j - 4) / 4 + 1 from by omega]; simpa using h1
      · rw [show j % 4 = (j - 4) % 4 from by omega]; exact h2
theorem vasC_at (l : List Va) (k : Nat) (v : Va) (h : l[k]? = some v) (i : Nat) (u : Value) (hu : (vaC v)[i]? = some u) : (vasC l)[k * 4 + i]? = some u := by
  induction l generalizing k with
  | nil => simp at h
  | cons x l ih =>
    rw [vasC, List.flatMap_cons, ← vasC]
    have hi : i < 4 := by
      have := (List.getElem?_eq_some_iff.1 hu).1
      simpa [vaC] using this
    cases k with
    | zero =>
      simp at h
      subst h
      rw [List.getElem?_append_left (by simp [vaC]; omega)]
      simpa using hu
    | succ k =>
      rw [List.getElem?_append_right (by simp [vaC]; omega)]
      have hlen : (vaC x).length = 4 := rfl
      rw [hlen, show (k + 1) * 4 + i - 4 = k * 4 + i from by omega]
      exact ih k (by simpa using h)
theorem vasC_one (l : List Va) : ∀ u ∈ vasC l, u.oneCell' = true := by
  intro u hu
  obtain ⟨v, _, hv⟩ := List.mem_flatMap.1 hu
  simp [vaC] at hv
  rcases hv with rfl | rfl | rfl | rfl <;> rfl
theorem VarsAt.cells {w : World} {l : List Va} {A : Option Addr} {cap : Nat} (h : VarsAt w l A cap) : CellsAt w A l.length 4 (vasC l) := by
  refine ⟨vasC_len l, fun hl => ?_⟩
  obtain ⟨b, off, hA, hr⟩ := h.2.2 hl
  refine ⟨b, off, hA, fun j u hj => ?_⟩
  obtain ⟨v, h1, h2⟩ := vasC_get l j u hj
  obtain ⟨d0, d1, d2, d3⟩ := hr _ _ h1
  have hoff : off + j = off + j / 4 * 4 + j % 4 := by omega
  rw [hoff]
  have hm : j % 4 < 4 := Nat.mod_lt _ (by omega)
  generalize j % 4 = i at h2 hm
  match i, hm, h2 with
  | 0, _, h2 => simp [vaC] at h2; subst h2; exact d0
  | 1, _, h2 => simp [vaC] at h2; subst h2; exact d1
  | 2, _, h2 => simp [vaC] at h2; subst h2; exact d2
  | 3, _, h2 => simp [vaC] at h2; subst h2; exact d3
theorem VarsAt.of_own {w : World} {base : Nat} {e : TypeId} {l : List Va} {A : Option Addr} {cap : Nat} (h : w.ownsRow base e 4 (.slice A l.length cap) l.length (vasC l)) : VarsAt w l A cap := by
  rcases Nat.eq_zero_or_pos l.length with h0 | h0
  · obtain ⟨A', c', hv, h1, h2⟩ := own_slice h
    injection hv with e1 e2 e3
    subst e3
    exact ⟨h1, h2, fun hl => absurd hl (by omega)⟩
  · obtain ⟨g, c', hv, _, _, h1, h2, hc⟩ := own_get h h0
    injection hv with e1 e2 e3
    subst e1 e3
    refine ⟨h1, h2, fun _ => ⟨g, 0, rfl, fun k v hk => ?_⟩⟩
    have ha := fun i u hu => hc _ _ (vasC_at l k v hk i u hu)
    rw [Nat.zero_add]
    exact ⟨ha 0 _ rfl, ha 1 _ rfl, ha 2 _ rfl, ha 3 _ rfl⟩
end Go.Proofs.Ytlfklfjnkpjooaa
