/- Slices that a call makes for itself, whose elements point to slices that it made too: what lies in new blocks stays ls it is where those blocks stay. -/
import Derived.Test.YtikmbkojnfmiaaaGreatDoorRRRRBB
import Derived.Test.YtikmbkojnfmiaaaGreatDoorRRRRRows
set_option linter.unusedVariables false
set_option linter.unusedSimpArgs false
set_option maxRecDepth 100000
namespace Go.Proofs.YtikmbkojnfmiaaaGreatDoorRRRR
open Go.RowKit Go.Sort

/-- What holds of every world that agrees with this one in the blocks from base on, but for block g. -/
def Off (base : Nat) (g : Option Nat) (w : World) (P : World → Prop) : Prop := ∀ w' : World, (∀ k, base ≤ k → k < w.heap.size → some k ≠ g → w'.heap[k]? = w.heap[k]?) → P w'
theorem Off.here {base : Nat} {g : Option Nat} {w : World} {P : World → Prop} (h : Off base g w P) : P w := h w fun _ _ _ _ => rfl
theorem Off.grow {base : Nat} {g g' : Option Nat} {w w2 : World} {P : World → Prop} (h : Off base g w P) (hs : ∀ k, base ≤ k → k < w.heap.size → some k ≠ g → w2.heap[k]? = w.heap[k]?) (hsz : w.heap.size ≤ w2.heap.size)
    (hg : g' = g ∨ ∀ k, g' = some k → w.heap.size ≤ k) : Off base g' w2 P := fun w' hw' => h w' fun k h1 h2 h3 => by
  refine (hw' k h1 (by omega) ?_).trans (hs k h1 h2 h3)
  rcases hg with rfl | hg
  · exact h3
  · intro he
    have := hg k he.symm
    omega
theorem Off.fresh {base base0 : Nat} {g' : Option Nat} {w w2 : World} {P : World → Prop} (h : Off base0 none w P) (hb : base ≤ base0) (hs : ∀ k, base0 ≤ k → k < w.heap.size → w2.heap[k]? = w.heap[k]?) (hsz : w.heap.size ≤ w2.heap.size)
    (hg : ∀ k, g' = some k → k < base0 ∨ w.heap.size ≤ k) : Off base g' w2 P := fun w' hw' => h w' fun k h1 h2 _ => by
  refine (hw' k (by omega) (by omega) ?_).trans (hs k h1 h2)
  intro he
  have := hg k he.symm
  omega
theorem Off.less {base base0 : Nat} {g : Option Nat} {w : World} {P : World → Prop} (h : Off base0 g w P) (hb : base ≤ base0) : Off base g w P := fun w' hw' => h w' fun k h1 h2 h3 => hw' k (by omega) h2 h3
theorem Off.later {base : Nat} {w w2 : World} {P : World → Prop} (h : Off base none w P) (hb : Below w.heap.size w w2) : Off base none w2 P :=
  h.grow (fun k _ hk _ => hb.block k hk) hb.size (.inl rfl)
theorem Off.map {base : Nat} {g : Option Nat} {w : World} {P R : World → Prop} (h : Off base g w P) (hpr : ∀ W, P W → R W) : Off base g w R := fun w' hw' => hpr _ (h w' hw')

section
variable {P : Program} {w : World}
theorem run_cat2 (base : Nat) (t ty e : TypeId) (z : Value) (size bytes : Nat) (ht : P.underlying t = some (.slice e)) (hi : (P.info? e).map (fun i => (i.zero, i.size, i.bytes)) = some (some z, size, bytes))
    (hzs : z.cells.size = size) (hsz : 0 < size) (v : Value) (n : Nat) (xs : List Value) (hown : w.ownsRow base e size v n xs) (ad : Addr) (m c : Nat) (news : List Value)
    (hl : news.length = m * size) (hj : ∀ j u, news[j]? = some u → w.cell? (ad.add j) = some u) (h1 : ∀ u ∈ news, u.oneCell' = true) (hn : n + m ≤ 100000000) (hb : bytes ≤ 1000) (hbase : base ≤ w.heap.size) :
    ∃ v' w', (Builtin.append_ #[t, t] ty #[v, .slice (some ad) m c]).run P w = .ok v' w' ∧ w'.ownsRow base e size v' (n + m) (xs ++ news) ∧ w.grownBy w' v.ownBlock ∧
      (v'.ownBlock = v.ownBlock ∨ ∀ k, v'.ownBlock = some k → w.heap.size ≤ k) := by
  obtain ⟨i, hi0, hz0, hz1, hz2⟩ := info_parts hi
  have hm1 : n + m ≤ maxLen := by unfold maxLen; omega
  have hm2 : (n + m) * bytes ≤ 140737488355328 := Nat.le_trans (Nat.mul_le_mul hn hb) (by omega)
  obtain ⟨v', w', hr, h2, h3, _⟩ := run_append_own (P := P) w base t ty e i z size bytes ht hi0 hz0 hz1 hz2 hzs hsz v n xs hown ad m c news hl hj h1 hm1 hm2 hbase
  refine ⟨v', w', hr, h2, h3, ?_⟩
  rcases hown.2 with ⟨rfl, rfl⟩ | ⟨g, cap, cur, rfl, hbg, hg, hnc, hcm, hcs, htake⟩
  · have hown' : w.ownsRow w.heap.size e size (.slice none 0 0) 0 xs := ⟨hown.1, .inl ⟨rfl, rfl⟩⟩
    obtain ⟨v2, w2, hr2, h22, _, _⟩ := run_append_own (P := P) w w.heap.size t ty e i z size bytes ht hi0 hz0 hz1 hz2 hzs hsz _ 0 xs hown' ad m c news hl hj h1 hm1 hm2 (Nat.le_refl _)
    have he := hr.symm.trans hr2
    injection he with e1 e2
    subst e1 e2
    exact .inr fun k hk => (h22.lt k hk).1
  · by_cases hroom : n + m ≤ cap
    · obtain ⟨w2, hr2, _, _⟩ := run_append_fits (P := P) w base t ty e i size ht hi0 hz1 g n cap xs hown ad m c news hl hj h1 hroom
      have he := hr.symm.trans hr2
      injection he with e1 e2
      subst e1
      exact .inl rfl
    · have holds : ∀ j u, xs[j]? = some u → w.cell? ((⟨g, 0, none⟩ : Addr).add j) = some u := hown.cells (g := g) rfl
      subst hz1
      have hr2 := run_append_grow (P := P) w t ty e i z ht hi0 hz0 ⟨g, 0, none⟩ n cap xs hown.1 holds ad m c news hl hj (by omega) (by omega) (by subst hz2; exact growslice_fits (by omega) hm2)
      have he := hr.symm.trans hr2
      injection he with e1 e2
      subst e1
      refine .inr fun k hk => ?_
      simp [Value.ownBlock] at hk
      omega

theorem add_zero' (g j : Nat) : (⟨g, 0, none⟩ : Addr).add j = ⟨g, j, none⟩ := by unfold Addr.add; split <;> simp_all
theorem wp_cat2 {o : Oper} {a : Act} {K : Act → World → Prop} {Q : Exit → Act → World → Prop} (s x : Operand) (t : TypeId)
    (ho : o.op = .call { callee := .builtin .append, args := #[s, x], argTypes := #[t, t] })
    (base : Nat) (e : TypeId) (z : Value) (size bytes : Nat) (ht : P.underlying t = some (.slice e)) (hi : (P.info? e).map (fun i => (i.zero, i.size, i.bytes)) = some (some z, size, bytes))
    (hzs : z.cells.size = size) (hsz : 0 < size) (v : Value) (n : Nat) (xs : List Value) (g m c : Nat) (news : List Value) (hs : a.eval s = v) (hown : w.ownsRow base e size v n xs)
    (hx : a.eval x = .slice (some ⟨g, 0, none⟩) m c) (hl : news.length = m * size) (hj : ∀ j u, news[j]? = some u → w.cell? ⟨g, j, none⟩ = some u) (h1 : ∀ u ∈ news, u.oneCell' = true) (hn : n + m ≤ 100000000) (hb : bytes ≤ 1000) (hbase : base ≤ w.heap.size)
    (h : ∀ v' w', w'.ownsRow base e size v' (n + m) (xs ++ news) → w.grownBy w' v.ownBlock → (v'.ownBlock = v.ownBlock ∨ ∀ k, v'.ownBlock = some k → w.heap.size ≤ k) → K (a.put o.dst v') w') : o.wp P a w K Q := by
  obtain ⟨v', w', hr, h2, h3, h4⟩ := run_cat2 (P := P) base t o.type e z size bytes ht hi hzs hsz v n xs hown ⟨g, 0, none⟩ m c news hl (fun j u hu => by rw [add_zero']; exact hj j u hu) h1 hn hb hbase
  unfold Oper.wp execOp
  simp only [ho, resolve, invoke, builtin, Sem.run_bind, Sem.run_pure, Result.andThen_ok, List.map_toArray, List.map_cons, List.map_nil, hs, hx, hr]
  exact h v' w' h2 h3 h4

theorem wpList_cat2 {ops : Array Oper} {rest : List Oper} {o : Oper} {a : Act} {Q : Exit → Act → World → Prop} (hgd : o.guard = none) (s x : Operand) (t : TypeId)
    (ho : o.op = .call { callee := .builtin .append, args := #[s, x], argTypes := #[t, t] })
    (base : Nat) (e : TypeId) (z : Value) (size bytes : Nat) (ht : P.underlying t = some (.slice e)) (hi : (P.info? e).map (fun i => (i.zero, i.size, i.bytes)) = some (some z, size, bytes))
    (hzs : z.cells.size = size) (hsz : 0 < size) (v : Value) (n : Nat) (xs : List Value) (g m c : Nat) (news : List Value) (hs : a.eval s = v) (hown : w.ownsRow base e size v n xs)
    (hx : a.eval x = .slice (some ⟨g, 0, none⟩) m c) (hl : news.length = m * size) (hj : ∀ j u, news[j]? = some u → w.cell? ⟨g, j, none⟩ = some u) (h1 : ∀ u ∈ news, u.oneCell' = true) (hn : n + m ≤ 100000000) (hb : bytes ≤ 1000) (hbase : base ≤ w.heap.size)
    (h : ∀ v' w', w'.ownsRow base e size v' (n + m) (xs ++ news) → w.grownBy w' v.ownBlock → (v'.ownBlock = v.ownBlock ∨ ∀ k, v'.ownBlock = some k → w.heap.size ≤ k) → wpList P ops Q rest (a.put o.dst v') w') : wpList P ops Q (o :: rest) a w :=
  wpList_plain hgd fun _ hK => wp_cat2 s x t ho base e z size bytes ht hi hzs hsz v n xs g m c news hs hown hx hl hj h1 hn hb hbase fun v' w' h2 h3 h4 => hK _ _ (h v' w' h2 h3 h4)

theorem step_cat2 {ops : Array Oper} {o : Oper} {a : Act} {K : Act → World → Prop} {Q : Exit → Act → World → Prop} {E : Prop} (hgd : o.guard = none) (s x : Operand) (t : TypeId)
    (ho : o.op = .call { callee := .builtin .append, args := #[s, x], argTypes := #[t, t] })
    (base : Nat) (e : TypeId) (z : Value) (size bytes : Nat) (ht : P.underlying t = some (.slice e)) (hi : (P.info? e).map (fun i => (i.zero, i.size, i.bytes)) = some (some z, size, bytes))
    (hzs : z.cells.size = size) (hsz : 0 < size) (v : Value) (n : Nat) (xs : List Value) (g m c : Nat) (news : List Value) (hs : a.eval s = v) (hown : w.ownsRow base e size v n xs)
    (hx : a.eval x = .slice (some ⟨g, 0, none⟩) m c) (hl : news.length = m * size) (hj : ∀ j u, news[j]? = some u → w.cell? ⟨g, j, none⟩ = some u) (h1 : ∀ u ∈ news, u.oneCell' = true) (hn : n + m ≤ 100000000) (hb : bytes ≤ 1000) (hbase : base ≤ w.heap.size)
    (h : ∀ v' w', w'.ownsRow base e size v' (n + m) (xs ++ news) → w.grownBy w' v.ownBlock → (v'.ownBlock = v.ownBlock ∨ ∀ k, v'.ownBlock = some k → w.heap.size ≤ k) → K (a.put o.dst v') w') : if Region.wanted o (yielded ops a.tmps) = true then Oper.wp P o a w K Q else E := by
  have hw : Region.wanted o (yielded ops a.tmps) = true := by simp [Region.wanted, hgd]
  rw [if_pos hw]
  exact wp_cat2 s x t ho base e z size bytes ht hi hzs hsz v n xs g m c news hs hown hx hl hj h1 hn hb hbase h
end

/-- An expression's cells. -/
def exC (x : Ex) (a : Option Addr × Nat) : List Value := [.int .i64 x.kind, .int .i32 x.n, .string x.name, .slice a.1 x.sub.length a.2]
def exsC : List Ex → List (Option Addr × Nat) → List Value
  | x :: l, a :: ls => exC x a ++ exsC l ls
  | _, _ => []
theorem exsC_snoc : ∀ (l : List Ex) (ls : List (Option Addr × Nat)) (x : Ex) (a : Option Addr × Nat), ls.length = l.length → exsC (l ++ [x]) (ls ++ [a]) = exsC l ls ++ exC x a
  | [], [], x, a, _ => by simp [exsC]
  | y :: l, b :: ls, x, a, h => by
    simp only [List.cons_append, exsC, List.append_assoc]
    rw [exsC_snoc l ls x a (by simpa using h)]
  | [], b :: ls, x, a, h => by simp at h
  | y :: l, [], x, a, h => by simp at h
theorem RowAt.of_cells {w : World} {b : Nat} : ∀ (l : List Ex) (ls : List (Option Addr × Nat)) (off : Nat), ls.length = l.length → (∀ j u, (exsC l ls)[j]? = some u → w.cell? ⟨b, off + j, none⟩ = some u) →
    (∀ (j : Nat) (x : Ex) (a : Option Addr × Nat), l[j]? = some x → ls[j]? = some a → SubsAt w x a.1 a.2) → RowAt w b l off
  | [], _, off, _, _, _ => by simp [RowAt]
  | y :: l, [], off, h, _, _ => by simp at h
  | y :: l, a :: ls, off, h, hc, hs => by
    rw [RowAt]
    refine ⟨⟨a.1, a.2, ?_, ?_, ?_, ?_, hs 0 y a rfl rfl⟩, RowAt.of_cells l ls (off + 4) (by simpa using h) ?_ ?_⟩
    · exact hc 0 _ rfl
    · exact hc 1 _ rfl
    · exact hc 2 _ rfl
    · exact hc 3 _ rfl
    · intro j u hj
      have := hc (4 + j) u (by rw [exsC, List.getElem?_append_right (by simp [exC])]; simpa [exC] using hj)
      rwa [show off + 4 + j = off + (4 + j) from by omega]
    · intro j x a' h1 h2
      exact hs (j + 1) x a' (by simpa using h1) (by simpa using h2)
theorem cell_block {w w' : World} {a : Addr} {v : Value} (h : w'.heap[a.block]? = w.heap[a.block]?) (hc : w.cell? a = some v) : w'.cell? a = some v := by
  rw [World.cell?_of_block h]; exact hc
/-- An expression whose parts lie in a row of the call's own. -/
theorem SubsAt.of_own {w : World} {base : Nat} {t : TypeId} {x : Ex} {v : Value} {ls : List (Option Addr × Nat)} (h : w.ownsRow base t 4 v x.sub.length (exsC x.sub ls)) (hl : ls.length = x.sub.length)
    (hs : ∀ (j : Nat) (y : Ex) (a : Option Addr × Nat), x.sub[j]? = some y → ls[j]? = some a → Off base v.ownBlock w (fun W => SubsAt W y a.1 a.2)) : ∃ A cap, v = .slice A x.sub.length cap ∧ Off base none w (fun W => SubsAt W x A cap) := by
  rcases Nat.eq_zero_or_pos x.sub.length with h0 | h0
  · obtain ⟨A, cap, rfl, h1, h2⟩ := own_slice h
    refine ⟨A, cap, rfl, fun w' _ => ?_⟩
    show SubsAt w' x A cap
    rw [SubsAt_iff]
    exact ⟨h1, h2, fun h => absurd h (by omega)⟩
  · obtain ⟨g, cap, rfl, hg, hlt, h1, h2, hc⟩ := own_get h h0
    refine ⟨_, cap, rfl, fun w' hw' => ?_⟩
    show SubsAt w' x _ cap
    rw [SubsAt_iff]
    refine ⟨h1, h2, fun _ => ⟨g, 0, rfl, RowAt.of_cells _ ls 0 hl (fun j u hj => ?_) fun j y a hy ha => hs j y a hy ha w' fun k k1 k2 _ => hw' k k1 k2 (by simp)⟩⟩
    rw [Nat.zero_add]
    exact cell_block (hw' g hg hlt (by simp)) (hc j u hj)

/-- An equation's cells. -/
def eqC (q : Qe) (a : (Option Addr × Nat) × (Option Addr × Nat)) : List Value :=
  [.string q.name, .int .i64 q.delay, .int .i64 q.first.kind, .int .i32 q.first.n, .string q.first.name, .slice a.1.1 q.first.sub.length a.1.2, .int .i64 q.e.kind, .int .i32 q.e.n, .string q.e.name, .slice a.2.1 q.e.sub.length a.2.2]
def eqsC : List Qe → List ((Option Addr × Nat) × (Option Addr × Nat)) → List Value
  | q :: l, a :: ls => eqC q a ++ eqsC l ls
  | _, _ => []
theorem eqsC_snoc : ∀ (l : List Qe) (ls : List ((Option Addr × Nat) × (Option Addr × Nat))) (x : Qe) (a : (Option Addr × Nat) × (Option Addr × Nat)), ls.length = l.length → eqsC (l ++ [x]) (ls ++ [a]) = eqsC l ls ++ eqC x a
  | [], [], x, a, _ => by simp [eqsC]
  | y :: l, b :: ls, x, a, h => by
    simp only [List.cons_append, eqsC, List.append_assoc]
    rw [eqsC_snoc l ls x a (by simpa using h)]
  | [], b :: ls, x, a, h => by simp at h
  | y :: l, [], x, a, h => by simp at h
theorem eqsC_at : ∀ (l : List Qe) (ls : List ((Option Addr × Nat) × (Option Addr × Nat))) (k : Nat) (q : Qe) (a : (Option Addr × Nat) × (Option Addr × Nat)), l[k]? = some q → ls[k]? = some a → ∀ (i : Nat) (u : Value), (eqC q a)[i]? = some u → (eqsC l ls)[k * 10 + i]? = some u
  | [], _, k, q, a, h, _, _, _, _ => by simp at h
  | y :: l, [], k, q, a, _, h, _, _, _ => by simp at h
  | y :: l, b :: ls, 0, q, a, h1, h2, i, u, hu => by
    simp at h1 h2; subst h1 h2
    have hi : i < (eqC y b).length := (List.getElem?_eq_some_iff.1 hu).1
    rw [eqsC, Nat.zero_mul, Nat.zero_add, List.getElem?_append_left hi]
    exact hu
  | y :: l, b :: ls, k + 1, q, a, h1, h2, i, u, hu => by
    have hlen : (eqC y b).length = 10 := rfl
    rw [eqsC, List.getElem?_append_right (by rw [hlen]; omega), hlen, show (k + 1) * 10 + i - 10 = k * 10 + i from by omega]
    exact eqsC_at l ls k q a (by simpa using h1) (by simpa using h2) i u hu
/-- Equations that lie in a row of the call's own. -/
theorem EqsAt.of_own {w : World} {base : Nat} {t : TypeId} {l : List Qe} {v : Value} {ls : List ((Option Addr × Nat) × (Option Addr × Nat))} (h : w.ownsRow base t 10 v l.length (eqsC l ls)) (hl : ls.length = l.length)
    (hs : ∀ (j : Nat) (q : Qe) (a : (Option Addr × Nat) × (Option Addr × Nat)), l[j]? = some q → ls[j]? = some a → Off base v.ownBlock w (fun W => SubsAt W q.first a.1.1 a.1.2 ∧ SubsAt W q.e a.2.1 a.2.2)) : ∃ A cap, v = .slice A l.length cap ∧ Off base none w (fun W => EqsAt W l A cap) := by
  rcases Nat.eq_zero_or_pos l.length with h0 | h0
  · obtain ⟨A, cap, rfl, h1, h2⟩ := own_slice h
    exact ⟨A, cap, rfl, fun w' _ => ⟨h1, h2, fun h => absurd h (by omega)⟩⟩
  · obtain ⟨g, cap, rfl, hg, hlt, h1, h2, hc⟩ := own_get h h0
    refine ⟨_, cap, rfl, fun w' hw' => ⟨h1, h2, fun _ => ⟨g, 0, rfl, fun k q hk => ?_⟩⟩⟩
    have hka : k < ls.length := by rw [hl]; exact (List.getElem?_eq_some_iff.1 hk).1
    have ha : ls[k]? = some ls[k] := List.getElem?_eq_getElem hka
    generalize ls[k] = a at ha
    have hcc := fun i u hu => cell_block (hw' g hg hlt (by simp)) (hc _ _ (eqsC_at l ls k q a hk ha i u hu))
    rw [Nat.zero_add]
    have hsub := hs k q a hk ha w' fun k k1 k2 _ => hw' k k1 k2 (by simp)
    exact ⟨a.1.1, a.1.2, a.2.1, a.2.2, ⟨hcc 0 _ rfl, hcc 1 _ rfl, hcc 2 _ rfl, hcc 3 _ rfl, hcc 4 _ rfl, hcc 5 _ rfl, hcc 6 _ rfl, hcc 7 _ rfl, hcc 8 _ rfl, hcc 9 _ rfl, hsub.1, hsub.2⟩⟩
/-- Variables that lie in a row of the call's own. -/
theorem VarsAt.off_own {w : World} {base : Nat} {e : TypeId} {l : List Va} {v : Value} (h : w.ownsRow base e 4 v l.length (vasC l)) : ∃ A cap, v = .slice A l.length cap ∧ Off base none w (fun W => VarsAt W l A cap) := by
  obtain ⟨A, cap, rfl, h1, h2⟩ := own_slice h
  refine ⟨A, cap, rfl, fun w' hw' => ?_⟩
  rcases Nat.eq_zero_or_pos l.length with h0 | h0
  · exact ⟨h1, h2, fun hl => absurd hl (by omega)⟩
  · obtain ⟨g, c', hv, hg, hlt, h1, h2, hc⟩ := own_get h h0
    injection hv with e1 e2 e3
    subst e1 e3
    refine ⟨h1, h2, fun _ => ⟨g, 0, rfl, fun k v hk => ?_⟩⟩
    have ha := fun i u hu => cell_block (hw' g hg hlt (by simp)) (hc _ _ (vasC_at l k v hk i u hu))
    rw [Nat.zero_add]
    exact ⟨ha 0 _ rfl, ha 1 _ rfl, ha 2 _ rfl, ha 3 _ rfl⟩
theorem VarsAt.off_own' {w : World} {base : Nat} {e : TypeId} {l : List Va} {A : Option Addr} {cap : Nat} (h : w.ownsRow base e 4 (.slice A l.length cap) l.length (vasC l)) : Off base none w (fun W => VarsAt W l A cap) := by
  obtain ⟨A', cap', hv, ho⟩ := VarsAt.off_own h
  injection hv with e1 e2 e3
  subst e1 e3
  exact ho
theorem cell_new' {w : World} {c : Array Value} {t : TypeId} {g j : Nat} (hg : g = w.heap.size) : (w.alloc (.cells c t)).cell? ⟨g, j, none⟩ = c[j]? := by subst hg; exact cell_new w c t j
theorem own_apart {B n size z : Nat} {t : TypeId} {w : World} {v : Value} {xs : List Value} (hown : w.ownsRow B t size v n xs) (hz : ∀ b, v.ownBlock = some b → b ≠ z) (o : Nat) (u : Value) : (w.setCell ⟨z, o, none⟩ u).ownsRow B t size v n xs :=
  hown.kept (row := some z) ⟨rfl, rfl, rfl, by simp, fun k _ hk => heap_setCell_other w ⟨z, o, none⟩ k u (fun e => hk (by rw [e]))⟩ (by
    cases hb : v.ownBlock with
    | none => exact .inl rfl
    | some b =>
      right
      intro he
      injection he with he
      exact hz b hb he)
theorem bel_at {W w3 a : World} {row : Option Nat} {B : Nat} (_ : W.grownBy w3 row) (h : Below B a W) : Below B a W := h
theorem own_less {w : World} {B B' n size : Nat} {t : TypeId} {v : Value} {xs : List Value} (h : w.ownsRow B t size v n xs) (hb : B' ≤ B) : w.ownsRow B' t size v n xs := by
  refine ⟨h.1, ?_⟩
  rcases h.2 with h2 | ⟨g, cap', cur, hv, hg, r⟩
  · exact .inl h2
  · exact .inr ⟨g, cap', cur, hv, by omega, r⟩
end Go.Proofs.YtikmbkojnfmiaaaGreatDoorRRRR

/- Walk over the reference's Copy. -/
namespace Go.Proofs.YtikmbkojnfmiaaaGreatDoorRRRR
open Go.RowKit Go.Sort

theorem exinfo : (Tryz.prog.info? 37).map (fun i => (i.zero, i.size, i.bytes)) = some (some (.agg #[.int .i64 0, .int .i32 0, .string ⟨#[]⟩, .slice none 0 0]), 4, 56) := by kernel_rfl

theorem len_size : ∀ l : List Ex, l.length ≤ Ex.sizeL l
  | [] => by simp [Ex.sizeL]
  | x :: l => by
    have := len_size l
    have := Ex.size_eq x
    simp only [Ex.sizeL, List.length_cons]
    omega

/-- What stands at a round's head: the boxes ls they were, but for the copy's slice. -/
structure CopyAt (z : Nat) (W0 wr : World) (v : Value) : Prop where
  cell : ∀ b o, b < z + 3 → ¬ (b = z + 1 + 1 ∧ o = 3) → wr.cell? ⟨b, o, none⟩ = W0.cell? ⟨b, o, none⟩
  froz : ∀ b o, b < z + 3 → wr.frozen? ⟨b, o, none⟩ = W0.frozen? ⟨b, o, none⟩
  here : wr.cell? ⟨z + 1 + 1, 3, none⟩ = some v
  size : z + 3 ≤ wr.heap.size
theorem CopyAt.step {z : Nat} {W0 wr w2 : World} {v v2 : Value} (h : CopyAt z W0 wr v) (hs : ∀ k, k < z + 3 → w2.heap[k]? = wr.heap[k]?) (hsz : wr.heap.size ≤ w2.heap.size) : CopyAt z W0 (w2.setCell ⟨z + 1 + 1, 3, none⟩ v2) v2 := by
  have hh : w2.cell? ⟨z + 1 + 1, 3, none⟩ = some v := cell_block (hs (z + 1 + 1) (by omega)) h.here
  refine ⟨fun b o hb hne => ?_, fun b o hb => ?_, World.cell?_setCell_same _ _ _ hh, ?_⟩
  · rw [World.cell?_setCell_other _ _ _ _ (by intro he; injection he with e1 e2; exact hne ⟨e1.symm, e2.symm⟩), World.cell?_of_block (w := wr) (hs b hb)]
    exact h.cell b o hb hne
  · rw [World.frozen?_setCell, World.frozen?_of_block (w := wr) (hs b hb)]
    exact h.froz b o hb
  · have := h.size
    simp; omega

/-- The contract of Copy. -/
def CopyP (x : Ex) : Prop := ∀ (A : Option Addr) (cap : Nat) (W : World), SubsAt W x A cap →
    Calls Tryz.prog 12 #[exV x A cap] W fun r w' => (∃ A' cap', r = .returned (exV x A' cap') ∧ Off W.heap.size none w' (fun V => SubsAt V x A' cap')) ∧ Below W.heap.size W w'

/-- What the parts that are copied are at. -/
def SubsOff (B : Nat) (v : Value) (wr : World) (e : Ex) (ls : List (Option Addr × Nat)) : Prop :=
  ∀ (j : Nat) (y : Ex) (a : Option Addr × Nat), e.sub[j]? = some y → ls[j]? = some a → Off B v.ownBlock wr (fun V => SubsAt V y a.1 a.2)
theorem SubsOff.step {B : Nat} {v v2 : Value} {wr w1 w2 w3 : World} {e y : Ex} {ls : List (Option Addr × Nat)} {k : Nat} {a : Option Addr × Nat} (h : SubsOff B v wr e ls) (hk : ls.length = k) (hy : e.sub[k]? = some y)
    (hB : B ≤ wr.heap.size) (hb1 : Below wr.heap.size wr w1) (hnew : Off wr.heap.size none w1 (fun V => SubsAt V y a.1 a.2)) (hb2 : Below w1.heap.size w1 w2) (hg : w2.grownBy w3 v.ownBlock)
    (hv : ∀ b, v.ownBlock = some b → b < wr.heap.size) (hv2 : v2.ownBlock = v.ownBlock ∨ ∀ b, v2.ownBlock = some b → w2.heap.size ≤ b) : SubsOff B v2 w3 e (ls ++ [a]) := by
  have z1 := hb1.size
  have z2 := hb2.size
  have z3 := hg.size
  intro j x c hx hc
  rcases Nat.lt_or_ge j ls.length with hj | hj
  · rw [List.getElem?_append_left hj] at hc
    refine (h j x c hx hc).grow (fun b _ hb hne => ?_) (by omega) ?_
    · exact (hg.block b (by omega) hne).trans ((hb2.block b (by omega)).trans (hb1.block b hb))
    · rcases hv2 with hv2 | hv2
      · exact .inl hv2
      · exact .inr fun b hb => by have := hv2 b hb; omega
  · obtain rfl : j = ls.length := by
      have := (List.getElem?_eq_some_iff.1 hc).1
      simp at this; omega
    rw [List.getElem?_append_right (Nat.le_refl _)] at hc
    simp at hc
    subst hc
    obtain rfl : y = x := by rw [← hk, hx] at hy; injection hy with hy; exact hy.symm
    refine hnew.fresh hB (fun b hb hlt => ?_) (by omega) fun b hb => ?_
    · refine (hg.block b (by omega) ?_).trans (hb2.block b hlt)
      intro he
      have := hv b he.symm
      omega
    · rcases hv2 with hv2 | hv2
      · rw [hv2] at hb
        exact .inl (hv b hb)
      · exact .inr (by have := hv2 b hb; omega)
theorem SubsOff.set {B z : Nat} {v : Value} {w : World} {e : Ex} {ls : List (Option Addr × Nat)} (h : SubsOff B v w e ls) (hz : z < B) (o : Nat) (u : Value) : SubsOff B v (w.setCell ⟨z, o, none⟩ u) e ls :=
  fun j x c hx hc => (h j x c hx hc).grow (fun b hb _ _ => heap_setCell_other w ⟨z, o, none⟩ b u (by show b ≠ z; omega)) (by simp) (.inl rfl)

theorem own_aside {B n size z : Nat} {t : TypeId} {w : World} {v : Value} {xs : List Value} (hown : w.ownsRow B t size v n xs) (hz : z < B) (o : Nat) (u : Value) : (w.setCell ⟨z, o, none⟩ u).ownsRow B t size v n xs :=
  hown.kept (row := some z) ⟨rfl, rfl, rfl, by simp, fun k _ hk => heap_setCell_other w ⟨z, o, none⟩ k u (fun e => hk (by rw [e]))⟩ (by
    cases hb : v.ownBlock with
    | none => exact .inl rfl
    | some b =>
      right
      intro he
      have := (hown.lt b hb).1
      injection he with he
      omega)
theorem bel_grown {z : Nat} {w w1 w3 : World} {row : Option Nat} (h : Below z w w1) (hg : w1.grownBy w3 row) (hrow : ∀ b, row = some b → z ≤ b) (hz : z ≤ w1.heap.size) : Below z w w3 :=
  ⟨hg.os.trans h.os, hg.tape.trans h.tape, hg.output.trans h.output, Nat.le_trans h.size hg.size, fun k hk => (hg.block k (by omega) (fun he => by have := hrow k he.symm; omega)).trans (h.block k hk)⟩
theorem own_below {B n size : Nat} {t : TypeId} {wr w1 w3 : World} {v : Value} {xs : List Value} (hown : wr.ownsRow B t size v n xs) (hB : B ≤ wr.heap.size) (hb1 : Below wr.heap.size wr w1) (hg : w1.grownBy w3 v.ownBlock) : ∀ k, k < B → w3.heap[k]? = wr.heap[k]? := fun k hk => by
  have := hb1.size
  refine (hg.block k (by omega) fun he => ?_).trans (hb1.block k (by omega))
  have := (hown.lt k he.symm).1
  omega

set_option maxHeartbeats 4000000 in
theorem copy_any (e : Ex) : e.size ≤ 1000000 → CopyP e := by
  induction e using Ex.ind with
  | h e ih0 =>
  intro hz0 A cap w he
  have ih : ∀ x ∈ e.sub, CopyP x := fun x hx => ih0 x hx (by
    obtain ⟨i, hi⟩ := List.getElem?_of_mem hx
    have := Ex.size_sub hi
    omega)
  have hn : e.sub.length ≤ 1000000 := by
    have := len_size e.sub
    have := Ex.size_eq e
    omega
  clear ih0 hz0
  have hlen := he.len
  unfold maxLen at hlen
  obtain ⟨hl1, hl2⟩ := hlen
  unfold exV
  go_enter Tryz.func12, Tryz.ntmps12
  go_wp2_with fail
  refine wp_name fun W0 hW0 => ?_
  have hb0 : Below w.heap.size w W0 := by rw [hW0]; exact belA
  have hz0 : W0.heap.size = w.heap.size + 3 := by rw [hW0]; simp
  have p3 : W0.cell? ⟨w.heap.size, 3, none⟩ = some (.slice A e.sub.length cap) := by rw [hW0]; go_simp
  have r0 : W0.cell? ⟨w.heap.size + 1, 0, none⟩ = some (.int .i64 0) := by rw [hW0]; go_simp
  have r1 : W0.cell? ⟨w.heap.size + 1, 1, none⟩ = some (.int .i32 0) := by rw [hW0]; go_simp
  have r2 : W0.cell? ⟨w.heap.size + 1, 2, none⟩ = some (.string ⟨#[]⟩) := by rw [hW0]; go_simp
  have r3 : W0.cell? ⟨w.heap.size + 1, 3, none⟩ = some (.slice none 0 0) := by rw [hW0]; go_simp
  have x0 : W0.cell? ⟨w.heap.size + 1 + 1, 0, none⟩ = some (.int .i64 e.kind) := by rw [hW0]; go_simp
  have x1 : W0.cell? ⟨w.heap.size + 1 + 1, 1, none⟩ = some (.int .i32 e.n) := by rw [hW0]; go_simp
  have x2 : W0.cell? ⟨w.heap.size + 1 + 1, 2, none⟩ = some (.string e.name) := by rw [hW0]; go_simp
  have x3 : W0.cell? ⟨w.heap.size + 1 + 1, 3, none⟩ = some (.slice none 0 0) := by rw [hW0]; go_simp
  have f0 : W0.frozen? ⟨w.heap.size + 1, 0, none⟩ = false := by rw [hW0]; go_simp
  have f1 : W0.frozen? ⟨w.heap.size + 1, 1, none⟩ = false := by rw [hW0]; go_simp
  have f2 : W0.frozen? ⟨w.heap.size + 1, 2, none⟩ = false := by rw [hW0]; go_simp
  have f3 : W0.frozen? ⟨w.heap.size + 1, 3, none⟩ = false := by rw [hW0]; go_simp
  have y3 : W0.frozen? ⟨w.heap.size + 1 + 1, 3, none⟩ = false := by rw [hW0]; go_simp
  clear hW0
  go_loopw [4] (fun i wr => ∃ (k : Nat) (v : Value) (ls : List (Option Addr × Nat)), k ≤ e.sub.length ∧ i = .int .i64 k ∧ ls.length = k ∧ CopyAt w.heap.size W0 wr v ∧ wr.ownsRow (w.heap.size + 3) 37 4 v k (exsC (e.sub.take k) ls) ∧ SubsOff (w.heap.size + 3) v wr e ls ∧ Below w.heap.size w wr) (fun i _ => e.sub.length - (intOf i).toNat)
  case atStart =>
    refine ⟨0, _, [], Nat.zero_le _, rfl, rfl, ⟨fun _ _ _ _ => rfl, fun _ _ _ => rfl, x3, by omega⟩, World.ownsRow_nil _ _ _ _, ?_, hb0⟩
    intro j y a _ h
    simp at h
  case round =>
    obtain ⟨k, v, ls, hk, rfl, hls, hcp, hown, hoff, hbel⟩ := hrel
    have hzr := hcp.size
    have q3 : wr.cell? ⟨w.heap.size, 3, none⟩ = some (.slice A e.sub.length cap) := (hcp.cell _ _ (by omega) (by omega)).trans p3
    have z3 : wr.cell? ⟨w.heap.size + 1 + 1, 3, none⟩ = some v := hcp.here
    have zf : wr.frozen? ⟨w.heap.size + 1 + 1, 3, none⟩ = false := (hcp.froz _ _ (by omega)).trans y3
    have hr0 : w.heap.size < wr.heap.size := by omega
    have hr1 : w.heap.size + 1 < wr.heap.size := by omega
    have hr2 : w.heap.size + 1 + 1 < wr.heap.size := by omega
    have HLS := Lib.hid hls; clear hls
    by_cases hlt : k < e.sub.length
    · have hx : e.sub[k]? = some e.sub[k] := List.getElem?_eq_getElem hlt
      have hmem : e.sub[k] ∈ e.sub := List.getElem_mem hlt
      have htk : e.sub.take (k + 1) = e.sub.take k ++ [e.sub[k]] := by rw [List.take_succ_eq_append_getElem hlt]
      generalize e.sub[k] = x at hx hmem htk
      obtain ⟨b, off, A', cap', rfl, c0, c1, c2, c3, hs⟩ := (he.later hbel).get hx
      have hbw : b < wr.heap.size := block_lt_of_cell c0
      have hcopy := fun W h => ih x hmem A' cap' W h
      unfold exV at hcopy
      have HX := Lib.hid hx; clear hx
      have HTK := Lib.hid htk; clear htk
      go_wp2_with fail
      go_region_law (first
        | (refine step_cat2 rfl (.tmp 15) (.tmp 22) 35 rfl (w.heap.size + 3) 37 _ 4 56 Tryz.underlying35 exinfo rfl (by omega) v k (exsC (e.sub.take k) ls) w1.heap.size 1 1 (exC x (A1, cap1)) rfl (by repeat (first | (with_reducible assumption) | refine own_alloc ?_ | refine own_bel ?_ (by with_reducible assumption) | refine own_drew ?_)) rfl rfl (fun j u hj => by rw [cell_new]; simpa [exC] using hj) (by simp [exC, Value.oneCell']) (by omega) (by omega) (by simp; omega) ?_; intro v2 w2 hown2 hg2 hv2; go_loud (obtain ⟨B2, cb2, rfl, hcb1, hcb2⟩ := own_slice hown2; have hkeep := own_below hown (by omega) belA hg2; have k3 : w2.cell? ⟨w.heap.size + 1 + 1, 3, none⟩ = some v := cell_block (hkeep (w.heap.size + 1 + 1) (by omega)) z3; have kf : w2.frozen? ⟨w.heap.size + 1 + 1, 3, none⟩ = false := ((World.frozen?_of_block (a := ⟨w.heap.size + 1 + 1, 3, none⟩) (hkeep (w.heap.size + 1 + 1) (by omega))).trans zf); have KEEP := Lib.hid hkeep; clear hkeep))
        | (go_simp; go_wp2_with (go_at_call 12; refine (hcopy _ (hs.later belA)).mono ?_; rintro r w1 ⟨⟨A1, cap1, rfl, hnew⟩, hb1⟩; have hc1 := bcell hb1; have hf1 := bfrozen hb1; have hz1 := hb1.size; (try simp at hz1); have hy0 : w.heap.size < w1.heap.size := (by omega); have hy1 : w.heap.size + 1 < w1.heap.size := (by omega); have hy2 : w.heap.size + 1 + 1 < w1.heap.size := (by omega); have z31 := bel_cell hb1 (p := ⟨w.heap.size + 1 + 1, 3, none⟩) (v := v) z3)))
      all_goals
        go_wp2_with fail
        go_roundw
        case rel =>
          have hb2 : Below wr.heap.size wr w1 := bel_trans (bel_drew (Below.refl _ _)) hb1
          refine ⟨k + 1, _, ls ++ [(A1, cap1)], by omega, by go_num, by have := HLS.out; simp [this], (hcp.step KEEP.out ?_), ?_, ?_, ?_⟩
          · have := hg2.size; simp at this; omega
          · rw [HTK.out, exsC_snoc _ _ _ _ (by have := HLS.out; simp; omega)]
            exact own_aside hown2 (by omega) _ _
          · refine SubsOff.set ?_ (by omega) _ _
            exact hoff.step HLS.out HX.out (by omega) hb2 hnew (bel_alloc (Below.refl _ _) _) hg2 (fun b hb => (hown.lt b hb).2) hv2
          · exact (bel_grown (bel_trans hbel (bel_alloc hb2 _)) hg2 (fun b hb => by have := (hown.lt b hb).1; omega) (by simp; omega)).setCell (by show w.heap.size ≤ w.heap.size + 1 + 1; omega) _
        case measure => simp [intOf]; omega
    · obtain rfl : k = e.sub.length := by omega
      rw [List.take_length] at hown
      obtain ⟨A2, cap2, rfl, hres⟩ := SubsAt.of_own hown HLS.out hoff
      have r0' : wr.cell? ⟨w.heap.size + 1, 0, none⟩ = some (.int .i64 0) := (hcp.cell _ _ (by omega) (by omega)).trans r0
      have r1' : wr.cell? ⟨w.heap.size + 1, 1, none⟩ = some (.int .i32 0) := (hcp.cell _ _ (by omega) (by omega)).trans r1
      have r2' : wr.cell? ⟨w.heap.size + 1, 2, none⟩ = some (.string ⟨#[]⟩) := (hcp.cell _ _ (by omega) (by omega)).trans r2
      have r3' : wr.cell? ⟨w.heap.size + 1, 3, none⟩ = some (.slice none 0 0) := (hcp.cell _ _ (by omega) (by omega)).trans r3
      have x0' : wr.cell? ⟨w.heap.size + 1 + 1, 0, none⟩ = some (.int .i64 e.kind) := (hcp.cell _ _ (by omega) (by omega)).trans x0
      have x1' : wr.cell? ⟨w.heap.size + 1 + 1, 1, none⟩ = some (.int .i32 e.n) := (hcp.cell _ _ (by omega) (by omega)).trans x1
      have x2' : wr.cell? ⟨w.heap.size + 1 + 1, 2, none⟩ = some (.string e.name) := (hcp.cell _ _ (by omega) (by omega)).trans x2
      have f0' : wr.frozen? ⟨w.heap.size + 1, 0, none⟩ = false := (hcp.froz _ _ (by omega)).trans f0
      have f1' : wr.frozen? ⟨w.heap.size + 1, 1, none⟩ = false := (hcp.froz _ _ (by omega)).trans f1
      have f2' : wr.frozen? ⟨w.heap.size + 1, 2, none⟩ = false := (hcp.froz _ _ (by omega)).trans f2
      have f3' : wr.frozen? ⟨w.heap.size + 1, 3, none⟩ = false := (hcp.froz _ _ (by omega)).trans f3
      have HRES := Lib.hid hres; clear hres
      clear r0 r1 r2 r3 x0 x1 x2 x3 f0 f1 f2 f3 p3
      go_wp2_with fail
      refine bodyPost_ret (v := .agg #[.int .i64 e.kind, .int .i32 e.n, .string e.name, .slice A2 e.sub.length cap2]) (by simp [results, Tryz.results12, go_sem, *]) rfl ⟨⟨A2, cap2, rfl, ?_⟩, ?_⟩
      · refine (HRES.out.grow (g' := none) (fun b hb1 hb _ => ?_) (by simp) (.inl rfl)).less (by omega)
        rw [heap_setCell_other _ _ _ _ (by show b ≠ w.heap.size + 1; omega), heap_setCell_other _ _ _ _ (by show b ≠ w.heap.size + 1; omega), heap_setCell_other _ _ _ _ (by show b ≠ w.heap.size + 1; omega), heap_setCell_other _ _ _ _ (by show b ≠ w.heap.size + 1; omega)]
      · exact (((hbel.setCell (by show w.heap.size ≤ w.heap.size + 1; omega) _).setCell (by show w.heap.size ≤ w.heap.size + 1; omega) _).setCell (by show w.heap.size ≤ w.heap.size + 1; omega) _).setCell (by show w.heap.size ≤ w.heap.size + 1; omega) _

end Go.Proofs.YtikmbkojnfmiaaaGreatDoorRRRR

/- Walk over the reference's Lent. -/
namespace Go.Proofs.YtikmbkojnfmiaaaGreatDoorRRRR
open Go.RowKit Go.Sort

theorem eqinfo : (Tryz.prog.info? 39).map (fun i => (i.zero, i.size, i.bytes)) = some (some (.agg #[.string ⟨#[]⟩, .int .i64 0, .int .i64 0, .int .i32 0, .string ⟨#[]⟩, .slice none 0 0, .int .i64 0, .int .i32 0, .string ⟨#[]⟩, .slice none 0 0]), 10, 136) := by kernel_rfl

theorem own_empty {w : World} {base : Nat} {e : TypeId} {g size : Nat} (hg : w.heap[g]? = some (.cells #[] e (0, 0))) (hb : base ≤ g) : w.ownsRow base e size (.slice (some ⟨g, 0, none⟩) 0 0) 0 [] :=
  ⟨by simp, .inr ⟨g, 0, #[], rfl, hb, hg, Nat.le_refl _, Nat.zero_le _, by simp, by simp⟩⟩
theorem bcellB {B : Nat} {W w1 : World} (hb : Below B W w1) : ∀ b o, b < B → w1.cell? ⟨b, o, none⟩ = W.cell? ⟨b, o, none⟩ := fun b o h => hb.cell (p := ⟨b, o, none⟩) h
theorem bfrozB {B : Nat} {W w1 : World} (hb : Below B W w1) : ∀ b o, b < B → w1.frozen? ⟨b, o, none⟩ = W.frozen? ⟨b, o, none⟩ := fun b o h => hb.frozen (p := ⟨b, o, none⟩) h
theorem calls_name {P : Program} {f : FuncId} {args : Array Value} {R : Ending → World → Prop} {W : World} (h : ∀ W0, W0 = W → Calls P f args W0 R) : Calls P f args W R := h W rfl
theorem heap_new {w : World} {o : Obj} {g : Nat} (hg : g = w.heap.size) : (w.alloc o).heap[g]? = some o := by subst hg; exact heap_alloc_new w o

/-- What stands at a round's head: the boxes as they were, but for the copy's equations. -/
structure LentAt (z : Nat) (W0 wr : World) (v : Value) : Prop where
  cell : ∀ b o, b < z + 3 → ¬ (b = z + 1 + 1 ∧ o = 4) → wr.cell? ⟨b, o, none⟩ = W0.cell? ⟨b, o, none⟩
  froz : ∀ b o, b < z + 3 → wr.frozen? ⟨b, o, none⟩ = W0.frozen? ⟨b, o, none⟩
  here : wr.cell? ⟨z + 1 + 1, 4, none⟩ = some v
  rest : ∀ k, z + 3 ≤ k → k < W0.heap.size → wr.heap[k]? = W0.heap[k]?
  size : W0.heap.size ≤ wr.heap.size
theorem LentAt.step {z : Nat} {W0 wr w2 : World} {v v2 : Value} (h : LentAt z W0 wr v) (hz : z + 3 ≤ W0.heap.size) (hs : ∀ k, k < W0.heap.size → w2.heap[k]? = wr.heap[k]?) (hsz : wr.heap.size ≤ w2.heap.size) : LentAt z W0 (w2.setCell ⟨z + 1 + 1, 4, none⟩ v2) v2 := by
  have hh : w2.cell? ⟨z + 1 + 1, 4, none⟩ = some v := cell_block (hs (z + 1 + 1) (by omega)) h.here
  refine ⟨fun b o hb hne => ?_, fun b o hb => ?_, World.cell?_setCell_same _ _ _ hh, fun k h1 h2 => ?_, ?_⟩
  · rw [World.cell?_setCell_other _ _ _ _ (by intro he; injection he with e1 e2; exact hne ⟨e1.symm, e2.symm⟩), World.cell?_of_block (w := wr) (hs b (by omega))]
    exact h.cell b o hb hne
  · rw [World.frozen?_setCell, World.frozen?_of_block (w := wr) (hs b (by omega))]
    exact h.froz b o hb
  · rw [heap_setCell_other _ _ _ _ (by show k ≠ z + 1 + 1; omega)]
    exact (hs k h2).trans (h.rest k h1 h2)
  · have := h.size
    simp; omega

/-- Where the equations that are copied lie. -/
def EqsOff (B : Nat) (v : Value) (wr : World) (l : List Qe) (ls : List ((Option Addr × Nat) × (Option Addr × Nat))) : Prop :=
  ∀ (j : Nat) (q : Qe) (a : (Option Addr × Nat) × (Option Addr × Nat)), l[j]? = some q → ls[j]? = some a → Off B v.ownBlock wr (fun V => SubsAt V q.first a.1.1 a.1.2 ∧ SubsAt V q.e a.2.1 a.2.2)
theorem EqsOff.step {B m1 m2 : Nat} {v v2 : Value} {wr w1 w2 w3 : World} {l : List Qe} {q : Qe} {ls : List ((Option Addr × Nat) × (Option Addr × Nat))} {k : Nat} {a : (Option Addr × Nat) × (Option Addr × Nat)}
    (h : EqsOff B v wr l ls) (hk : ls.length = k) (hq : l[k]? = some q) (hB : B ≤ wr.heap.size) (hm1 : wr.heap.size ≤ m1) (hm2 : wr.heap.size ≤ m2)
    (n1 : Off m1 none w1 (fun V => SubsAt V q.first a.1.1 a.1.2)) (n2 : Off m2 none w2 (fun V => SubsAt V q.e a.2.1 a.2.2))
    (s0 : ∀ b, b < wr.heap.size → some b ≠ v.ownBlock → w3.heap[b]? = wr.heap[b]?) (s1 : ∀ b, m1 ≤ b → b < w1.heap.size → w3.heap[b]? = w1.heap[b]?) (s2 : ∀ b, m2 ≤ b → b < w2.heap.size → w3.heap[b]? = w2.heap[b]?)
    (z1 : w1.heap.size ≤ w2.heap.size) (z2 : w2.heap.size ≤ w3.heap.size) (z0 : wr.heap.size ≤ w1.heap.size)
    (hv : ∀ b, v.ownBlock = some b → b < wr.heap.size) (hv2 : v2.ownBlock = v.ownBlock ∨ ∀ b, v2.ownBlock = some b → w2.heap.size ≤ b) : EqsOff B v2 w3 l (ls ++ [a]) := by
  have hnew : ∀ b, v2.ownBlock = some b → b < wr.heap.size ∨ w2.heap.size ≤ b := fun b hb => by
    rcases hv2 with hv2 | hv2
    · rw [hv2] at hb; exact .inl (hv b hb)
    · exact .inr (hv2 b hb)
  intro j x c hx hc
  rcases Nat.lt_or_ge j ls.length with hj | hj
  · rw [List.getElem?_append_left hj] at hc
    refine (h j x c hx hc).grow (fun b _ hb hne => s0 b hb hne) (by omega) ?_
    rcases hv2 with hv2 | hv2
    · exact .inl hv2
    · exact .inr fun b hb => by have := hv2 b hb; omega
  · obtain rfl : j = ls.length := by
      have := (List.getElem?_eq_some_iff.1 hc).1
      simp at this; omega
    rw [List.getElem?_append_right (Nat.le_refl _)] at hc
    simp at hc
    subst hc
    obtain rfl : q = x := by rw [← hk, hx] at hq; injection hq with hq; exact hq.symm
    have f1 : Off B v2.ownBlock w3 (fun V => SubsAt V q.first a.1.1 a.1.2) := n1.fresh (by omega) s1 (by omega) fun b hb => by have := hnew b hb; omega
    have f2 : Off B v2.ownBlock w3 (fun V => SubsAt V q.e a.2.1 a.2.2) := n2.fresh (by omega) s2 (by omega) fun b hb => by have := hnew b hb; omega
    exact fun w' hw' => ⟨f1 w' hw', f2 w' hw'⟩
theorem EqsOff.set {B z : Nat} {v : Value} {w : World} {l : List Qe} {ls : List ((Option Addr × Nat) × (Option Addr × Nat))} (h : EqsOff B v w l ls) (hz : z < B) (o : Nat) (u : Value) : EqsOff B v (w.setCell ⟨z, o, none⟩ u) l ls :=
  fun j x c hx hc => (h j x c hx hc).grow (fun b hb _ _ => heap_setCell_other w ⟨z, o, none⟩ b u (by show b ≠ z; omega)) (by simp) (.inl rfl)

/-- The copy's equations lie in a row of its own: what else of the copy lies elsewhere. -/
structure LentOwn (z base : Nat) (ls : List ((Option Addr × Nat) × (Option Addr × Nat))) (w' : World) (p : Pr) (a' : PrA) : Prop where
  low : z ≤ base
  high : base ≤ w'.heap.size
  vars : ∀ V : World, (∀ k, z ≤ k → k < base → V.heap[k]? = w'.heap[k]?) → VarsAt V p.ins a'.A1 a'.c1 ∧ VarsAt V p.outs a'.A2 a'.c2 ∧ VarsAt V p.locals a'.A3 a'.c3
  len : ls.length = p.eqs.length
  own : w'.ownsRow base 39 10 (.slice a'.A4 p.eqs.length a'.c4) p.eqs.length (eqsC p.eqs ls)
  off : EqsOff base (.slice a'.A4 p.eqs.length a'.c4) w' p.eqs ls
theorem LentOwn.less {z z2 base : Nat} {ls : List ((Option Addr × Nat) × (Option Addr × Nat))} {w' : World} {p : Pr} {a' : PrA} (h : LentOwn z base ls w' p a') (hz : z2 ≤ z) : LentOwn z2 base ls w' p a' :=
  ⟨Nat.le_trans hz h.low, h.high, fun V hV => h.vars V fun k h1 h2 => hV k (Nat.le_trans hz h1) h2, h.len, h.own, h.off⟩

set_option maxHeartbeats 8000000 in
theorem lent_own (p : Pr) (a : PrA) (w : World) (hp : PrAt w p a) (n1 : p.ins.length ≤ 1000000) (n2 : p.outs.length ≤ 1000000) (n3 : p.locals.length ≤ 1000000) (n4 : p.eqs.length ≤ 1000000)
    (hsz : ∀ q ∈ p.eqs, q.first.size ≤ 1000000 ∧ q.e.size ≤ 1000000) :
    Calls Tryz.prog 6 #[prV p a] w fun r w' => (∃ a' base ls, r = .returned (prV p a') ∧ PrAt w' p a' ∧ LentOwn w.heap.size base ls w' p a') ∧ Below w.heap.size w w' := by
  have hv1 := hp.ins
  have hv2 := hp.outs
  have hv3 := hp.locals
  have hp4 := hp.eqs
  have hl4 := hp.eqs.len
  obtain ⟨A1, c1, A2, c2, A3, c3, A4, c4⟩ := a
  unfold maxLen at hl4
  dsimp only at hv1 hv2 hv3 hp4 hl4
  obtain ⟨hl41, hl42⟩ := hl4
  have HSZ := Lib.hid hsz; clear hsz hp
  unfold prV
  dsimp only
  go_enter Tryz.func6, Tryz.ntmps6
  go_wp2_with (first
    | (at_builtin; (refine wpList_cat rfl (.tmp 7) (.tmp 9) 22 rfl (w.heap.size + 3) 43 _ 4 48 Tryz.underlying22 vainfo rfl (by omega) _ 0 [] A1 p.ins.length c1 (vasC p.ins) rfl (own_empty (heap_new (by simp)) (by omega)) rfl (hv1.later (by repeat (first | exact Below.refl _ _ | (with_reducible assumption) | refine Below.setCell ?_ (by first | (simp; done) | (simp; omega)) _ | refine bel_trans ?_ (by with_reducible assumption) | refine bel_alloc ?_ _))).cells (vasC_one _) (by omega) (by omega) (by first | omega | (simp; done) | (simp; omega)) ?_; intro u1 w1 hown1 hb1; have hkw1 := bcellB hb1; have hfw1 := bfrozB hb1; have hzw1 : w.heap.size + 4 ≤ w1.heap.size := (by have := hb1.size; simp at this; omega); have hyw10 : w.heap.size < w1.heap.size := (by omega); have hyw11 : w.heap.size + 1 < w1.heap.size := (by omega); have hyw12 : w.heap.size + 1 + 1 < w1.heap.size := (by omega); rw [Nat.zero_add, List.nil_append] at hown1; obtain ⟨B1, cb1, rfl, e1w1, e2w1⟩ := own_slice hown1; have hbw1 : Below w.heap.size w w1 := (by first | exact bel_grow (a := w) (by repeat (first | exact Below.refl _ _ | (with_reducible assumption) | refine Below.setCell ?_ (by first | (simp; done) | (simp; omega)) _ | refine bel_trans ?_ (by with_reducible assumption) | refine bel_alloc ?_ _)) hb1 (by omega) | skip)))
    | (at_builtin; (refine wpList_cat rfl (.tmp 12) (.tmp 14) 22 rfl (w1.heap.size) 43 _ 4 48 Tryz.underlying22 vainfo rfl (by omega) _ 0 [] A2 p.outs.length c2 (vasC p.outs) rfl (own_empty (heap_new (by simp)) (by omega)) rfl (hv2.later (by repeat (first | exact Below.refl _ _ | (with_reducible assumption) | refine Below.setCell ?_ (by first | (simp; done) | (simp; omega)) _ | refine bel_trans ?_ (by with_reducible assumption) | refine bel_alloc ?_ _))).cells (vasC_one _) (by omega) (by omega) (by first | omega | (simp; done) | (simp; omega)) ?_; intro u2 w2 hown2 hb2; have hkw2 := bcellB hb2; have hfw2 := bfrozB hb2; have hzw2 : w.heap.size + 4 ≤ w2.heap.size := (by have := hb2.size; simp at this; omega); have hyw20 : w.heap.size < w2.heap.size := (by omega); have hyw21 : w.heap.size + 1 < w2.heap.size := (by omega); have hyw22 : w.heap.size + 1 + 1 < w2.heap.size := (by omega); rw [Nat.zero_add, List.nil_append] at hown2; obtain ⟨B2, cb2, rfl, e1w2, e2w2⟩ := own_slice hown2; have hbw2 : Below w.heap.size w w2 := (by first | exact bel_grow (a := w) (by repeat (first | exact Below.refl _ _ | (with_reducible assumption) | refine Below.setCell ?_ (by first | (simp; done) | (simp; omega)) _ | refine bel_trans ?_ (by with_reducible assumption) | refine bel_alloc ?_ _)) hb2 (by omega) | skip)))
    | (at_builtin; (refine wpList_cat rfl (.tmp 17) (.tmp 19) 22 rfl (w2.heap.size) 43 _ 4 48 Tryz.underlying22 vainfo rfl (by omega) _ 0 [] A3 p.locals.length c3 (vasC p.locals) rfl (own_empty (heap_new (by simp)) (by omega)) rfl (hv3.later (by repeat (first | exact Below.refl _ _ | (with_reducible assumption) | refine Below.setCell ?_ (by first | (simp; done) | (simp; omega)) _ | refine bel_trans ?_ (by with_reducible assumption) | refine bel_alloc ?_ _))).cells (vasC_one _) (by omega) (by omega) (by first | omega | (simp; done) | (simp; omega)) ?_; intro u3 w3 hown3 hb3; have hkw3 := bcellB hb3; have hfw3 := bfrozB hb3; have hzw3 : w.heap.size + 4 ≤ w3.heap.size := (by have := hb3.size; simp at this; omega); have hyw30 : w.heap.size < w3.heap.size := (by omega); have hyw31 : w.heap.size + 1 < w3.heap.size := (by omega); have hyw32 : w.heap.size + 1 + 1 < w3.heap.size := (by omega); rw [Nat.zero_add, List.nil_append] at hown3; obtain ⟨B3, cb3, rfl, e1w3, e2w3⟩ := own_slice hown3; have hbw3 : Below w.heap.size w w3 := (by first | exact bel_grow (a := w) (by repeat (first | exact Below.refl _ _ | (with_reducible assumption) | refine Below.setCell ?_ (by first | (simp; done) | (simp; omega)) _ | refine bel_trans ?_ (by with_reducible assumption) | refine bel_alloc ?_ _)) hb3 (by omega) | skip))))
  have off1 := VarsAt.off_own' hown1
  have off2 := VarsAt.off_own' hown2
  have off3 := VarsAt.off_own' hown3
  have zz1 : w1.heap.size + 1 ≤ w2.heap.size := by have := hb2.size; simp at this; omega
  have zz2 : w2.heap.size + 1 ≤ w3.heap.size := by have := hb3.size; simp at this; omega
  refine wp_name fun W0 hW0 => ?_
  have hb0 : Below w.heap.size w W0 := by rw [hW0]; exact (by repeat (first | exact Below.refl _ _ | (with_reducible assumption) | refine Below.setCell ?_ (by first | (simp; done) | (simp; omega)) _ | refine bel_trans ?_ (by with_reducible assumption) | refine bel_alloc ?_ _))
  have hz0 : W0.heap.size = w3.heap.size := by rw [hW0]; simp
  have st3 : ∀ k, w.heap.size + 3 ≤ k → k < w3.heap.size → W0.heap[k]? = w3.heap[k]? := fun k h1 h2 => by
    rw [hW0, heap_setCell_other _ _ _ _ (by show k ≠ w.heap.size + 1 + 1; omega), heap_setCell_other _ _ _ _ (by show k ≠ w.heap.size + 1 + 1; omega)]
  have st2 : ∀ k, w.heap.size + 3 ≤ k → k < w2.heap.size → W0.heap[k]? = w2.heap[k]? := fun k h1 h2 => by
    rw [st3 k h1 (by omega), hb3.block k h2, heap_alloc_old _ _ (by simpa using h2), heap_setCell_other _ _ _ _ (by show k ≠ w.heap.size + 1 + 1; omega)]
  have st1 : ∀ k, w.heap.size + 3 ≤ k → k < w1.heap.size → W0.heap[k]? = w1.heap[k]? := fun k h1 h2 => by
    rw [st2 k h1 (by omega), hb2.block k h2, heap_alloc_old _ _ (by simpa using h2), heap_setCell_other _ _ _ _ (by show k ≠ w.heap.size + 1 + 1; omega)]
  have o1 : Off (w.heap.size + 3) none W0 (fun W => VarsAt W p.ins B1 cb1) := off1.grow (fun k h1 h2 _ => st1 k h1 h2) (by omega) (.inl rfl)
  have o2 : Off (w.heap.size + 3) none W0 (fun W => VarsAt W p.outs B2 cb2) := (off2.less (base := w.heap.size + 3) (by omega)).grow (fun k h1 h2 _ => st2 k h1 h2) (by omega) (.inl rfl)
  have o3 : Off (w.heap.size + 3) none W0 (fun W => VarsAt W p.locals B3 cb3) := (off3.less (base := w.heap.size + 3) (by omega)).grow (fun k h1 h2 _ => st3 k h1 h2) (by omega) (.inl rfl)
  have p4 : W0.cell? ⟨w.heap.size, 4, none⟩ = some (.slice A4 p.eqs.length c4) := by rw [hW0]; go_simp
  have r0 : W0.cell? ⟨w.heap.size + 1, 0, none⟩ = some (.string ⟨#[]⟩) := by rw [hW0]; go_simp
  have r1 : W0.cell? ⟨w.heap.size + 1, 1, none⟩ = some (.slice none 0 0) := by rw [hW0]; go_simp
  have r2 : W0.cell? ⟨w.heap.size + 1, 2, none⟩ = some (.slice none 0 0) := by rw [hW0]; go_simp
  have r3 : W0.cell? ⟨w.heap.size + 1, 3, none⟩ = some (.slice none 0 0) := by rw [hW0]; go_simp
  have r4 : W0.cell? ⟨w.heap.size + 1, 4, none⟩ = some (.slice none 0 0) := by rw [hW0]; go_simp
  have x0 : W0.cell? ⟨w.heap.size + 1 + 1, 0, none⟩ = some (.string p.name) := by rw [hW0]; go_simp
  have x1 : W0.cell? ⟨w.heap.size + 1 + 1, 1, none⟩ = some (.slice B1 p.ins.length cb1) := by rw [hW0]; go_simp
  have x2 : W0.cell? ⟨w.heap.size + 1 + 1, 2, none⟩ = some (.slice B2 p.outs.length cb2) := by rw [hW0]; go_simp
  have x3 : W0.cell? ⟨w.heap.size + 1 + 1, 3, none⟩ = some (.slice B3 p.locals.length cb3) := by rw [hW0]; go_simp
  have x4 : W0.cell? ⟨w.heap.size + 1 + 1, 4, none⟩ = some (.slice none 0 0) := by rw [hW0]; go_simp
  have f0 : W0.frozen? ⟨w.heap.size + 1, 0, none⟩ = false := by rw [hW0]; go_simp
  have f1 : W0.frozen? ⟨w.heap.size + 1, 1, none⟩ = false := by rw [hW0]; go_simp
  have f2 : W0.frozen? ⟨w.heap.size + 1, 2, none⟩ = false := by rw [hW0]; go_simp
  have f3 : W0.frozen? ⟨w.heap.size + 1, 3, none⟩ = false := by rw [hW0]; go_simp
  have f4 : W0.frozen? ⟨w.heap.size + 1, 4, none⟩ = false := by rw [hW0]; go_simp
  have y4 : W0.frozen? ⟨w.heap.size + 1 + 1, 4, none⟩ = false := by rw [hW0]; go_simp
  have hW0s : w.heap.size + 3 ≤ W0.heap.size := by omega
  clear hW0 st1 st2 st3 off1 off2 off3 hown1 hown2 hown3 hkw1 hkw2 hkw3 hfw1 hfw2 hfw3 hb1 hb2 hb3 hbw1 hbw2 hbw3 zz1 zz2 hz0
  clear hzw1 hzw2 hzw3 hyw10 hyw11 hyw12 hyw20 hyw21 hyw22 hyw30 hyw31 hyw32
  go_loopw [4] (fun i wr => ∃ (k : Nat) (v : Value) (ls : List ((Option Addr × Nat) × (Option Addr × Nat))), k ≤ p.eqs.length ∧ i = .int .i64 k ∧ ls.length = k ∧ LentAt w.heap.size W0 wr v ∧ wr.ownsRow W0.heap.size 39 10 v k (eqsC (p.eqs.take k) ls) ∧ EqsOff W0.heap.size v wr p.eqs ls ∧ Below w.heap.size w wr) (fun i _ => p.eqs.length - (intOf i).toNat)
  case atStart =>
    refine ⟨0, _, [], Nat.zero_le _, rfl, rfl, ⟨fun _ _ _ _ => rfl, fun _ _ _ => rfl, x4, fun _ _ _ => rfl, by omega⟩, World.ownsRow_nil _ _ _ _, ?_, hb0⟩
    intro j y a _ h
    simp at h
  case round =>
    obtain ⟨k, v, ls, hk, rfl, hls, hcp, hown, hoff, hbel⟩ := hrel
    have hzr := hcp.size
    have q4 : wr.cell? ⟨w.heap.size, 4, none⟩ = some (.slice A4 p.eqs.length c4) := (hcp.cell _ _ (by omega) (by omega)).trans p4
    have z4 : wr.cell? ⟨w.heap.size + 1 + 1, 4, none⟩ = some v := hcp.here
    have zf : wr.frozen? ⟨w.heap.size + 1 + 1, 4, none⟩ = false := (hcp.froz _ _ (by omega)).trans y4
    have hr0 : w.heap.size < wr.heap.size := by omega
    have hr1 : w.heap.size + 1 < wr.heap.size := by omega
    have hr2 : w.heap.size + 1 + 1 < wr.heap.size := by omega
    have HLS := Lib.hid hls; clear hls
    by_cases hlt : k < p.eqs.length
    · have hx : p.eqs[k]? = some p.eqs[k] := List.getElem?_eq_getElem hlt
      have hmem : p.eqs[k] ∈ p.eqs := List.getElem_mem hlt
      have htk : p.eqs.take (k + 1) = p.eqs.take k ++ [p.eqs[k]] := by rw [List.take_succ_eq_append_getElem hlt]
      generalize p.eqs[k] = q at hx hmem htk
      obtain ⟨b, off, E1, k1, E2, k2, rfl, hbb, ⟨g0, g1, g2, g3, g4, g5, g6, g7, g8, g9, s1, s2⟩⟩ := (hp4.later hbel).get hx
      obtain ⟨sz1, sz2⟩ := HSZ.out q hmem
      have hcopy1 := fun W h => copy_any q.first sz1 E1 k1 W (s1.later h)
      have hcopy2 := fun W h => copy_any q.e sz2 E2 k2 W (s2.later h)
      unfold exV at hcopy1 hcopy2
      have HX := Lib.hid hx; clear hx
      have HTK := Lib.hid htk; clear htk
      clear sz1 sz2 hmem
      go_wp2_with fail
      refine (hcopy1 _ belA).mono ?_
      rintro r wa ⟨⟨F1, m1, rfl, hnew1⟩, hba⟩
      have hca := bcell hba
      have hfa := bfrozen hba
      have hza := hba.size
      (try simp at hza)
      have hya0 : w.heap.size < wa.heap.size := (by omega)
      have hya1 : w.heap.size + 1 < wa.heap.size := (by omega)
      have hya2 : w.heap.size + 1 + 1 < wa.heap.size := (by omega)
      have hya3 : wr.heap.size < wa.heap.size := (by omega)
      go_wp2_with fail
      refine calls_name fun Wx hWx => ?_
      have hbx : Below wr.heap.size wr Wx := by rw [hWx]; exact (by repeat (first | exact Below.refl _ _ | (with_reducible assumption) | refine Below.setCell ?_ (by exact Nat.le_refl _) _ | refine bel_trans ?_ (by with_reducible assumption) | refine bel_alloc ?_ _))
      have hzx : Wx.heap.size = wa.heap.size := by rw [hWx]; simp
      have t0 : Wx.cell? ⟨wr.heap.size, 0, none⟩ = some (.string q.name) := by rw [hWx]; go_simp
      have t1 : Wx.cell? ⟨wr.heap.size, 1, none⟩ = some (.int .i64 q.delay) := by rw [hWx]; go_simp
      have t2 : Wx.cell? ⟨wr.heap.size, 2, none⟩ = some (.int .i64 q.first.kind) := by rw [hWx]; go_simp
      have t3 : Wx.cell? ⟨wr.heap.size, 3, none⟩ = some (.int .i32 q.first.n) := by rw [hWx]; go_simp
      have t4 : Wx.cell? ⟨wr.heap.size, 4, none⟩ = some (.string q.first.name) := by rw [hWx]; go_simp
      have t5 : Wx.cell? ⟨wr.heap.size, 5, none⟩ = some (.slice F1 q.first.sub.length m1) := by rw [hWx]; go_simp
      have t6 : Wx.cell? ⟨wr.heap.size, 6, none⟩ = some (.int .i64 q.e.kind) := by rw [hWx]; go_simp
      have t7 : Wx.cell? ⟨wr.heap.size, 7, none⟩ = some (.int .i32 q.e.n) := by rw [hWx]; go_simp
      have t8 : Wx.cell? ⟨wr.heap.size, 8, none⟩ = some (.string q.e.name) := by rw [hWx]; go_simp
      have t9 : Wx.cell? ⟨wr.heap.size, 9, none⟩ = some (.slice E2 q.e.sub.length k2) := by rw [hWx]; go_simp
      have tf6 : Wx.frozen? ⟨wr.heap.size, 6, none⟩ = false := by rw [hWx]; go_simp
      have tf7 : Wx.frozen? ⟨wr.heap.size, 7, none⟩ = false := by rw [hWx]; go_simp
      have tf8 : Wx.frozen? ⟨wr.heap.size, 8, none⟩ = false := by rw [hWx]; go_simp
      have tf9 : Wx.frozen? ⟨wr.heap.size, 9, none⟩ = false := by rw [hWx]; go_simp
      have stx : ∀ b, b ≠ wr.heap.size → Wx.heap[b]? = wa.heap[b]? := fun b hb => by rw [hWx, heap_setCell_other _ _ _ _ (by show b ≠ wr.heap.size; exact hb), heap_setCell_other _ _ _ _ (by show b ≠ wr.heap.size; exact hb), heap_setCell_other _ _ _ _ (by show b ≠ wr.heap.size; exact hb), heap_setCell_other _ _ _ _ (by show b ≠ wr.heap.size; exact hb)]
      have hbx2 : Below w.heap.size w Wx := bel_grow (a := w) hbel hbx (by omega)
      have kx : Wx.cell? ⟨w.heap.size + 1 + 1, 4, none⟩ = some v := bel_cell hbx z4
      have hxs : wr.heap.size < Wx.heap.size := by omega
      have hxs0 : w.heap.size + 1 + 1 < Wx.heap.size := by omega
      have hba1 : wr.heap.size + 1 ≤ wa.heap.size := by have := hba.size; simpa using this
      clear hWx hca hfa g0 g1 g2 g3 g4 g5 g6 g7 g8 g9 hcopy1
      refine (hcopy2 _ hbx).mono ?_
      rintro r wb ⟨⟨F2, m2, rfl, hnew2⟩, hbb2⟩
      have hcb := bcell hbb2
      have hfb := bfrozen hbb2
      have hzb := hbb2.size
      (try simp at hzb)
      have hyb0 : w.heap.size < wb.heap.size := (by omega)
      have hyb1 : w.heap.size + 1 < wb.heap.size := (by omega)
      have hyb2 : w.heap.size + 1 + 1 < wb.heap.size := (by omega)
      have hyb3 : wr.heap.size < wb.heap.size := (by omega)
      have stb : ∀ b, b < Wx.heap.size → wb.heap[b]? = Wx.heap[b]? := hbb2.block
      have hbb3 : Below wr.heap.size wr wb := bel_trans hbx hbb2
      have kb : wb.cell? ⟨w.heap.size + 1 + 1, 4, none⟩ = some v := bel_cell hbb2 kx
      have hva' : ∀ b, v.ownBlock = some b → b ≠ wr.heap.size := fun b hb => by have := (hown.lt b hb).2; omega
      have STX := Lib.hid stx; clear stx
      have STB := Lib.hid stb; clear stb
      go_wp2_with (first
        | (at_builtin; go_loud (refine wpList_cat2 rfl (.tmp 44) (.tmp 46) 23 rfl W0.heap.size 39 _ 10 136 Tryz.underlying23 eqinfo rfl (by omega) v k (eqsC (p.eqs.take k) ls) wb.heap.size 1 1 (eqC q ((F1, m1), (F2, m2))) rfl (own_alloc (own_apart (own_apart (own_apart (own_apart (own_bel hown hbb3) hva' _ _) hva' _ _) hva' _ _) hva' _ _)) rfl rfl (fun j u hj => by rw [cell_new' (by simp)]; simpa [eqC] using hj) (by simp [eqC, Value.oneCell']) (by omega) (by omega) (by simp; omega) ?_; intro v2 w3 hown2 hg2 hv2; obtain ⟨B4, cb4, rfl, hcb1, hcb2⟩ := own_slice hown2; have hbr := bel_at hg2 (a := wr) (B := wr.heap.size) (by repeat (first | exact Below.refl _ _ | (with_reducible assumption) | refine Below.setCell ?_ (by exact Nat.le_refl _) _ | refine bel_grow ?_ (by with_reducible assumption) (by omega) | refine bel_alloc ?_ _)); have hkeep := own_below hown (by omega) hbr hg2; have k4 : w3.cell? ⟨w.heap.size + 1 + 1, 4, none⟩ = some v := cell_block (hkeep (w.heap.size + 1 + 1) (by omega)) z4; have kf : w3.frozen? ⟨w.heap.size + 1 + 1, 4, none⟩ = false := ((World.frozen?_of_block (a := ⟨w.heap.size + 1 + 1, 4, none⟩) (hkeep (w.heap.size + 1 + 1) (by omega))).trans zf); have KEEP := Lib.hid hkeep; clear hkeep)))
      go_roundw
      case rel =>
        have hpre := hbr.size
        have hgs := hg2.size
        simp at hgs
        have hz2' : wa.heap.size ≤ wb.heap.size := by have := hbb2.size; omega
        refine ⟨k + 1, _, ls ++ [((F1, m1), (F2, m2))], by omega, by go_num, by have := HLS.out; simp [this], (hcp.step hW0s KEEP.out (by omega)), ?_, ?_, ?_⟩
        · rw [HTK.out, eqsC_snoc _ _ _ _ (by have := HLS.out; simp; omega)]
          exact own_aside hown2 (by omega) _ _
        · refine EqsOff.set ?_ (by omega) _ _
          refine hoff.step HLS.out HX.out (by omega) (by simp) (by omega) hnew1 hnew2 (fun b hb hne => (hg2.block b (by simp; omega) hne).trans (hbr.block b hb)) (fun b h1 h2 => ?_) (fun b h1 h2 => ?_) hz2' (by omega) (by omega) (fun b hb => (hown.lt b hb).2) ?_
          · simp at h1
            rw [hg2.block b (by simp; omega) (fun he => by have := (hown.lt b he.symm).2; omega), heap_alloc_old _ _ (by simp; omega), heap_setCell_other _ _ _ _ (by show b ≠ wr.heap.size; omega), heap_setCell_other _ _ _ _ (by show b ≠ wr.heap.size; omega), heap_setCell_other _ _ _ _ (by show b ≠ wr.heap.size; omega), heap_setCell_other _ _ _ _ (by show b ≠ wr.heap.size; omega), STB.out b (by omega), STX.out b (by omega)]
          · rw [hg2.block b (by simp; omega) (fun he => by have := (hown.lt b he.symm).2; omega), heap_alloc_old _ _ (by simp; omega), heap_setCell_other _ _ _ _ (by show b ≠ wr.heap.size; omega), heap_setCell_other _ _ _ _ (by show b ≠ wr.heap.size; omega), heap_setCell_other _ _ _ _ (by show b ≠ wr.heap.size; omega), heap_setCell_other _ _ _ _ (by show b ≠ wr.heap.size; omega)]
          · rcases hv2 with hv2 | hv2
            · exact .inl hv2
            · exact .inr fun b hb => by have := hv2 b hb; simp at this; omega
        · exact (bel_grown (bel_grow (a := w) hbel hbr (by omega)) hg2 (fun b hb => by have := (hown.lt b hb).1; omega) (by simp; omega)).setCell (by show w.heap.size ≤ w.heap.size + 1 + 1; omega) _
      case measure => simp [intOf]; omega
    · obtain rfl : k = p.eqs.length := by omega
      rw [List.take_length] at hown
      obtain ⟨B4, cap4, rfl, hres⟩ := EqsAt.of_own hown HLS.out hoff
      have hblk := hcp.rest
      have HRES := Lib.hid hres; clear hres
      have r0' : wr.cell? ⟨w.heap.size + 1, 0, none⟩ = some (.string ⟨#[]⟩) := (hcp.cell _ _ (by omega) (by omega)).trans r0
      have r1' : wr.cell? ⟨w.heap.size + 1, 1, none⟩ = some (.slice none 0 0) := (hcp.cell _ _ (by omega) (by omega)).trans r1
      have r2' : wr.cell? ⟨w.heap.size + 1, 2, none⟩ = some (.slice none 0 0) := (hcp.cell _ _ (by omega) (by omega)).trans r2
      have r3' : wr.cell? ⟨w.heap.size + 1, 3, none⟩ = some (.slice none 0 0) := (hcp.cell _ _ (by omega) (by omega)).trans r3
      have r4' : wr.cell? ⟨w.heap.size + 1, 4, none⟩ = some (.slice none 0 0) := (hcp.cell _ _ (by omega) (by omega)).trans r4
      have x0' : wr.cell? ⟨w.heap.size + 1 + 1, 0, none⟩ = some (.string p.name) := (hcp.cell _ _ (by omega) (by omega)).trans x0
      have x1' : wr.cell? ⟨w.heap.size + 1 + 1, 1, none⟩ = some (.slice B1 p.ins.length cb1) := (hcp.cell _ _ (by omega) (by omega)).trans x1
      have x2' : wr.cell? ⟨w.heap.size + 1 + 1, 2, none⟩ = some (.slice B2 p.outs.length cb2) := (hcp.cell _ _ (by omega) (by omega)).trans x2
      have x3' : wr.cell? ⟨w.heap.size + 1 + 1, 3, none⟩ = some (.slice B3 p.locals.length cb3) := (hcp.cell _ _ (by omega) (by omega)).trans x3
      have f0' : wr.frozen? ⟨w.heap.size + 1, 0, none⟩ = false := (hcp.froz _ _ (by omega)).trans f0
      have f1' : wr.frozen? ⟨w.heap.size + 1, 1, none⟩ = false := (hcp.froz _ _ (by omega)).trans f1
      have f2' : wr.frozen? ⟨w.heap.size + 1, 2, none⟩ = false := (hcp.froz _ _ (by omega)).trans f2
      have f3' : wr.frozen? ⟨w.heap.size + 1, 3, none⟩ = false := (hcp.froz _ _ (by omega)).trans f3
      have f4' : wr.frozen? ⟨w.heap.size + 1, 4, none⟩ = false := (hcp.froz _ _ (by omega)).trans f4
      have HBLK := Lib.hid hblk; clear hblk
      clear r0 r1 r2 r3 r4 x0 x1 x2 x3 x4 f0 f1 f2 f3 f4 p4
      go_wp2_with fail
      refine bodyPost_ret (v := prV p ⟨B1, cb1, B2, cb2, B3, cb3, B4, cap4⟩) (by simp [prV, results, Tryz.results6, go_sem, *]) rfl ⟨⟨⟨B1, cb1, B2, cb2, B3, cb3, B4, cap4⟩, W0.heap.size, ls, rfl, ?_, ?_⟩, ?_⟩
      · have hst : ∀ b, w.heap.size + 3 ≤ b → _ = wr.heap[b]? := fun b hb => ((heap_setCell_other _ ⟨w.heap.size + 1, 4, none⟩ b (.slice B4 p.eqs.length cap4) (by show b ≠ w.heap.size + 1; omega)).trans ((heap_setCell_other _ ⟨w.heap.size + 1, 3, none⟩ b (.slice B3 p.locals.length cb3) (by show b ≠ w.heap.size + 1; omega)).trans ((heap_setCell_other _ ⟨w.heap.size + 1, 2, none⟩ b (.slice B2 p.outs.length cb2) (by show b ≠ w.heap.size + 1; omega)).trans ((heap_setCell_other _ ⟨w.heap.size + 1, 1, none⟩ b (.slice B1 p.ins.length cb1) (by show b ≠ w.heap.size + 1; omega)).trans (heap_setCell_other wr ⟨w.heap.size + 1, 0, none⟩ b (.string p.name) (by show b ≠ w.heap.size + 1; omega))))))
        refine ⟨o1 _ fun b h1 h2 _ => (hst b h1).trans (HBLK.out b h1 h2), o2 _ fun b h1 h2 _ => (hst b h1).trans (HBLK.out b h1 h2), o3 _ fun b h1 h2 _ => (hst b h1).trans (HBLK.out b h1 h2), HRES.out _ fun b h1 h2 _ => hst b (by omega)⟩
      · have hst : ∀ b, w.heap.size + 3 ≤ b → _ = wr.heap[b]? := fun b hb => ((heap_setCell_other _ ⟨w.heap.size + 1, 4, none⟩ b (.slice B4 p.eqs.length cap4) (by show b ≠ w.heap.size + 1; omega)).trans ((heap_setCell_other _ ⟨w.heap.size + 1, 3, none⟩ b (.slice B3 p.locals.length cb3) (by show b ≠ w.heap.size + 1; omega)).trans ((heap_setCell_other _ ⟨w.heap.size + 1, 2, none⟩ b (.slice B2 p.outs.length cb2) (by show b ≠ w.heap.size + 1; omega)).trans ((heap_setCell_other _ ⟨w.heap.size + 1, 1, none⟩ b (.slice B1 p.ins.length cb1) (by show b ≠ w.heap.size + 1; omega)).trans (heap_setCell_other wr ⟨w.heap.size + 1, 0, none⟩ b (.string p.name) (by show b ≠ w.heap.size + 1; omega))))))
        refine ⟨by omega, (by simp; omega), fun V hV => ⟨o1 _ fun b h1 h2 _ => (hV b (by omega) h2).trans ((hst b h1).trans (HBLK.out b h1 h2)), o2 _ fun b h1 h2 _ => (hV b (by omega) h2).trans ((hst b h1).trans (HBLK.out b h1 h2)), o3 _ fun b h1 h2 _ => (hV b (by omega) h2).trans ((hst b h1).trans (HBLK.out b h1 h2))⟩, HLS.out, ?_, ?_⟩
        · exact own_aside (own_aside (own_aside (own_aside (own_aside hown (by omega) _ _) (by omega) _ _) (by omega) _ _) (by omega) _ _) (by omega) _ _
        · exact ((((hoff.set (by omega) _ _).set (by omega) _ _).set (by omega) _ _).set (by omega) _ _).set (by omega) _ _
      · exact ((((hbel.setCell (by show w.heap.size ≤ w.heap.size + 1; omega) _).setCell (by show w.heap.size ≤ w.heap.size + 1; omega) _).setCell (by show w.heap.size ≤ w.heap.size + 1; omega) _).setCell (by show w.heap.size ≤ w.heap.size + 1; omega) _).setCell (by show w.heap.size ≤ w.heap.size + 1; omega) _

theorem lent_any (p : Pr) (a : PrA) (w : World) (hp : PrAt w p a) (n1 : p.ins.length ≤ 1000000) (n2 : p.outs.length ≤ 1000000) (n3 : p.locals.length ≤ 1000000) (n4 : p.eqs.length ≤ 1000000)
    (hsz : ∀ q ∈ p.eqs, q.first.size ≤ 1000000 ∧ q.e.size ≤ 1000000) :
    Calls Tryz.prog 6 #[prV p a] w fun r w' => (∃ a', r = .returned (prV p a') ∧ PrAt w' p a') ∧ Below w.heap.size w w' := by
  refine (lent_own p a w hp n1 n2 n3 n4 hsz).mono ?_
  rintro r w' ⟨⟨a', base, ls, rfl, hat, _⟩, hb⟩
  exact ⟨⟨a', rfl, hat⟩, hb⟩
end Go.Proofs.YtikmbkojnfmiaaaGreatDoorRRRR
