/- Maps from texts to numbers whose entries are counted; delete. -/
import Derived.Test.YtknfcamdfdfoeaaDoorZ02
import Derived.Maps.OwnSet
import Derived.Test.YtknfcamdfdfoeaaDoorZ01
set_option linter.unusedVariables false
set_option linter.unusedSimpArgs false
set_option maxRecDepth 100000
namespace Go.Proofs.YtknfcamdfdfoeaaDoor
open Go.RowKit Go.Sort Go.Maps Go.ChangeMaps Go.WideMaps

/-- Block b is a map of just c entries from texts to ints: f. -/
def MapN (P : Program) (k e : TypeId) (w : World) (b n : Nat) (f : ByteArray → Option Int) (c : Nat) : Prop :=
  ∃ D : DataW Unit, w.ownsMap P k (plainElem P e) b n D ∧ Maps.Tidy D ∧ Maps.size D = c ∧
    ∀ s : ByteArray, Maps.has D (.string s.data.toList) = (f s).isSome ∧ D.atKey (.string s.data.toList) (.lit (.int .i64 0)) = .lit (.int .i64 ((f s).getD 0))

/-- f without s. -/
def strike (f : ByteArray → Option Int) (s : ByteArray) : ByteArray → Option Int := fun t => if t.data = s.data then none else f t

section
variable {P : Program} {k e : TypeId} {w w' : World} {b n c : Nat} {f : ByteArray → Option Int}

theorem MapN.made (w : World) : MapN P k e (w.alloc (.map #[] 0)) w.heap.size 0 (fun _ => none) 0 :=
  ⟨.map [], World.ownsMap_made w P k _, Maps.tidy_empty, rfl, fun s => ⟨rfl, rfl⟩⟩
theorem MapN.keep1 (h : MapN P k e w b n f c) (hb : w'.heap[b]? = w.heap[b]?) : MapN P k e w' b n f c := by
  obtain ⟨D, ⟨es, clock, hh, F, hs, hD⟩, h2⟩ := h
  exact ⟨D, ⟨es, clock, hb.trans hh, F, hs, hD⟩, h2⟩
theorem MapN.lt (h : MapN P k e w b n f c) : b < w.heap.size := by
  obtain ⟨D, h1, _⟩ := h
  exact h1.lt
theorem MapN.bel (h : MapN P k e w b n f c) (hb : Below w.heap.size w w') : MapN P k e w' b n f c := h.keep1 (hb.block b h.lt)
theorem MapN.plain (h : MapN P k e w b n f c) : MapI P k e w b n f := by
  obtain ⟨D, h1, h2, _, h3⟩ := h
  exact ⟨D, h1, h2.isMap, h3⟩

theorem wpList_stN {ops : Array Oper} {rest : List Oper} {o : Oper} {a : Act} {Q : Exit → Act → World → Prop} (hg : o.guard = none) (m x v : Operand) (t : TypeId) (hop : o.op = Op.mapUpdate t m x v)
    (hk : P.underlying k = some .string) (ht : P.underlying t = some (.map k e)) (he : P.underlying e = some (.int .i64))
    (b n : Nat) (f : ByteArray → Option Int) (c : Nat) (s : ByteArray) (i : Int) (hm : a.eval m = .map (some b)) (hown : MapN P k e w b n f c) (hn : n < 1000000000) (hx : a.eval x = .string s) (hv : a.eval v = .int .i64 i)
    (hs : s.size ≤ maxLen) (hi : -9223372036854775808 ≤ i ∧ i ≤ 9223372036854775807)
    (hK : ∀ w', MapN P k e w' b (n + 1) (upd f s i) (if (f s).isSome then c else c + 1) → w.grownBy w' (some b) → wpList P ops Q rest (a.put o.dst undef) w') : wpList P ops Q (o :: rest) a w := by
  obtain ⟨D, h1, h2, hc, h3⟩ := hown
  refine wpList_mapUpdate_own w hg m x v t hop k e (string_keyed hk) ht _ b n D hm h1 (by unfold maxLen; omega) _ _ _ hx hv (keyOf_string_mk hk hs) _ [] (plainElem_int he (WalkArith.wf_i64 hi)) fun w' h4 h5 => hK w' ⟨_, h4, h2.put (show WideAt.IsKeyLit (.string s.data.toList) by trivial) _, ?_, fun t => ?_⟩ h5
  · rw [Maps.size_put h2, (h3 s).1, hc]
  · by_cases hts : t.data = s.data
    · have hk2 : WideAt.IsKeyLit (.string s.data.toList) := by trivial
      rw [hts, has_put_same h2.isMap hk2, atKey_put_same h2.isMap hk2]
      simp [upd, hts]
    · have hne : (Lit.string t.data.toList) ≠ .string s.data.toList := by
        intro h
        injection h with h
        exact hts (by have := congrArg List.toArray h; simpa using this)
      rw [has_put_other hne, atKey_put_other hne, (h3 t).1, (h3 t).2]
      simp [upd, hts]

theorem wpList_delN {ops : Array Oper} {rest : List Oper} {o : Oper} {a : Act} {Q : Exit → Act → World → Prop} (hg : o.guard = none) (m x : Operand) (t : TypeId) (hop : o.op = Op.call { callee := Callee.builtin Builtin.delete, args := #[m, x], argTypes := #[t, k] })
    (hk : P.underlying k = some .string) (ht : P.underlying t = some (.map k e))
    (b n : Nat) (f : ByteArray → Option Int) (c : Nat) (s : ByteArray) (hm : a.eval m = .map (some b)) (hown : MapN P k e w b n f c) (hx : a.eval x = .string s) (hs : s.size ≤ maxLen)
    (hK : ∀ w' c', MapN P k e w' b n (strike f s) c' → c' + (if (f s).isSome then 1 else 0) = c → w.grownBy w' (some b) → wpList P ops Q rest (a.put o.dst (.tuple #[])) w') : wpList P ops Q (o :: rest) a w := by
  obtain ⟨D, h1, h2, hc, h3⟩ := hown
  refine wpList_delete_own w hg m x t k hop e (string_keyed hk) ht _ b n D hm h1 _ _ hx (keyOf_string_mk hk hs) fun w' h4 h5 => hK w' _ ⟨_, h4, h2.del _, rfl, fun t => ?_⟩ ?_ h5.grown
  · by_cases hts : t.data = s.data
    · rw [hts, Maps.has_del_same, Maps.atKey_del_same]
      simp [strike, hts]
    · have hne : (Lit.string t.data.toList) ≠ .string s.data.toList := by
        intro h
        injection h with h
        exact hts (by have := congrArg List.toArray h; simpa using this)
      rw [Maps.has_del_other hne, Maps.atKey_del_other hne, (h3 t).1, (h3 t).2]
      simp [strike, hts]
  · have := Maps.size_del (k := .string s.data.toList) h2
    rw [(h3 s).1] at this
    rw [← hc]; exact this

theorem wpList_lenN {ops : Array Oper} {rest : List Oper} {o : Oper} {a : Act} {Q : Exit → Act → World → Prop} (hg : o.guard = none) (m : Operand) (t : TypeId) (hop : o.op = Op.call { callee := Callee.builtin Builtin.len, args := #[m], argTypes := #[t] })
    (ht : P.underlying t = some (.map k e)) (b n : Nat) (f : ByteArray → Option Int) (c : Nat) (hm : a.eval m = .map (some b)) (hown : MapN P k e w b n f c)
    (hK : wpList P ops Q rest (a.put o.dst (.int .i64 c)) w) : wpList P ops Q (o :: rest) a w := by
  obtain ⟨D, h1, h2, hc, h3⟩ := hown
  refine wpList_len_own w hg m t hop k e ht _ b n D hm h1 ?_
  rw [hc]; exact hK
end
end Go.Proofs.YtknfcamdfdfoeaaDoor

/- Maps from texts to whatever values, that a call makes for itself. -/
namespace Go.Proofs.YtknfcamdfdfoeaaDoor
open Go.RowKit Go.Sort Go.Maps Go.ChangeMaps Go.WideMaps

/-- An element reads as itself. -/
def heldR (v : Value) : Option (DataW Value × List MemPlace) := some (.held v, [])
/-- Block b is a map of at most n entries from texts to values: f. -/
def MapV (P : Program) (k : TypeId) (w : World) (b n : Nat) (f : ByteArray → Option Value) : Prop :=
  ∃ D : DataW Value, w.ownsMap P k heldR b n D ∧ Maps.IsMap D ∧
    ∀ (s : ByteArray) (z : Value), D.atKey (.string s.data.toList) (.held z) = .held ((f s).getD z)
def updV (f : ByteArray → Option Value) (s : ByteArray) (v : Value) : ByteArray → Option Value := fun t => if t.data = s.data then some v else f t

section
variable {P : Program} {k e : TypeId} {w w' : World} {b n : Nat} {f : ByteArray → Option Value}

theorem MapV.made (w : World) : MapV P k (w.alloc (.map #[] 0)) w.heap.size 0 (fun _ => none) :=
  ⟨.map [], World.ownsMap_made w P k _, isMap_empty, fun s z => rfl⟩
theorem MapV.keep1 (h : MapV P k w b n f) (hb : w'.heap[b]? = w.heap[b]?) : MapV P k w' b n f := by
  obtain ⟨D, ⟨es, clock, hh, F, hs, hD⟩, h2⟩ := h
  exact ⟨D, ⟨es, clock, hb.trans hh, F, hs, hD⟩, h2⟩
theorem MapV.lt (h : MapV P k w b n f) : b < w.heap.size := by
  obtain ⟨D, h1, _⟩ := h
  exact h1.lt
theorem MapV.bel (h : MapV P k w b n f) (hb : Below w.heap.size w w') : MapV P k w' b n f := h.keep1 (hb.block b h.lt)

theorem wpList_lkV {ops : Array Oper} {rest : List Oper} {o : Oper} {a : Act} {Q : Exit → Act → World → Prop} (hg : o.guard = none) (m x : Operand) (t : TypeId) (hop : o.op = Op.lookup t m x false)
    (hk : P.underlying k = some .string) (ht : P.underlying t = some (.map k e)) (z : Value) (hz : (zeroValue e).run P w = .ok z w)
    (b n : Nat) (f : ByteArray → Option Value) (s : ByteArray) (hm : a.eval m = .map (some b)) (hown : MapV P k w b n f) (hx : a.eval x = .string s) (hs : s.size ≤ maxLen)
    (hK : wpList P ops Q rest (a.put o.dst ((f s).getD z)) w) : wpList P ops Q (o :: rest) a w := by
  obtain ⟨D, h1, h2, h3⟩ := hown
  refine wpList_plain hg fun K' hK' => ?_
  obtain ⟨v, ps, hrun, hv⟩ := h1.lookup (string_keyed hk) ht hz (R := heldR) rfl (keyOf_string_mk hk hs)
  have he : v = (f s).getD z := by
    rw [h3 s z] at hv
    unfold heldR at hv
    simp only [Option.some.injEq, Prod.mk.injEq] at hv
    have := hv.1
    injection this
  subst he
  unfold Oper.wp
  simp [execOp, hop, hm, hx, hrun, Result.andThen]
  exact hK' _ _ hK
theorem wpList_stV {ops : Array Oper} {rest : List Oper} {o : Oper} {a : Act} {Q : Exit → Act → World → Prop} (hg : o.guard = none) (m x v : Operand) (t : TypeId) (hop : o.op = Op.mapUpdate t m x v)
    (hk : P.underlying k = some .string) (ht : P.underlying t = some (.map k e))
    (b n : Nat) (f : ByteArray → Option Value) (s : ByteArray) (i : Value) (hm : a.eval m = .map (some b)) (hown : MapV P k w b n f) (hn : n < 1000000000) (hx : a.eval x = .string s) (hv : a.eval v = i)
    (hs : s.size ≤ maxLen)
    (hK : ∀ w', MapV P k w' b (n + 1) (updV f s i) → w.grownBy w' (some b) → wpList P ops Q rest (a.put o.dst undef) w') : wpList P ops Q (o :: rest) a w := by
  obtain ⟨D, h1, h2, h3⟩ := hown
  refine wpList_mapUpdate_own w hg m x v t hop k e (string_keyed hk) ht heldR b n D hm h1 (by unfold maxLen; omega) _ _ _ hx hv (keyOf_string_mk hk hs) (.held i) [] rfl fun w' h4 h5 => hK w' ⟨_, h4, h2.put _ _, fun t z => ?_⟩ h5
  by_cases hts : t.data = s.data
  · have hk2 : WideAt.IsKeyLit (.string s.data.toList) := by trivial
    rw [hts, atKey_put_same h2 hk2]
    simp [updV, hts]
  · have hne : (Lit.string t.data.toList) ≠ .string s.data.toList := by
      intro h
      injection h with h
      exact hts (by have := congrArg List.toArray h; simpa using this)
    rw [atKey_put_other hne, h3 t z]
    simp [updV, hts]
end
end Go.Proofs.YtknfcamdfdfoeaaDoor

/- Slices that a call makes for itself, whose elements point to slices that it made too: what lies in new blocks stays ls it is where those blocks stay. -/
namespace Go.Proofs.YtknfcamdfdfoeaaDoor
open Go.RowKit Go.Sort

/-- What holds of every world that agrees with this one in the blocks from base on, but for block g. -/
def Off (base : Nat) (g : Option Nat) (w : World) (P : World → Prop) : Prop := ∀ w' : World, (∀ k, base ≤ k → k < w.heap.size → some k ≠ g → w'.heap[k]? = w.heap[k]?) → P w'
theorem Off.here {base : Nat} {g : Option Nat} {w : World} {P : World → Prop} (h : Off base g w P) : P w := h w fun _ _ _ _ => rfl
theorem Off.grow {base : Nat} {g g' : Option Nat} {w w2 : World} {P : World → Prop} (h : Off base g w P) (hs : ∀ k, base ≤ k → k < w.heap.size → some k ≠ g → w2.heap[k]? = w.heap[k]?) (hsz : w.heap.size ≤ w2.heap.size)
    (hg : g' = g ∨ ∀ k, g' = some k → w.heap.size ≤ k) : Off base g' w2 P := fun w' hw' => h w' fun k h1 h2 h3 => by
  refine (hw' k h1 (by omega) ?_).trans (hs k h1 h2 h3)
  rcases hg with rfl | hg
  · exact h3
  · intro he
    have := hg k he.symm
    omega
theorem Off.fresh {base base0 : Nat} {g' : Option Nat} {w w2 : World} {P : World → Prop} (h : Off base0 none w P) (hb : base ≤ base0) (hs : ∀ k, base0 ≤ k → k < w.heap.size → w2.heap[k]? = w.heap[k]?) (hsz : w.heap.size ≤ w2.heap.size)
    (hg : ∀ k, g' = some k → k < base0 ∨ w.heap.size ≤ k) : Off base g' w2 P := fun w' hw' => h w' fun k h1 h2 _ => by
  refine (hw' k (by omega) (by omega) ?_).trans (hs k h1 h2)
  intro he
  have := hg k he.symm
  omega
theorem Off.less {base base0 : Nat} {g : Option Nat} {w : World} {P : World → Prop} (h : Off base0 g w P) (hb : base ≤ base0) : Off base g w P := fun w' hw' => h w' fun k h1 h2 h3 => hw' k (by omega) h2 h3
theorem Off.later {base : Nat} {w w2 : World} {P : World → Prop} (h : Off base none w P) (hb : Below w.heap.size w w2) : Off base none w2 P :=
  h.grow (fun k _ hk _ => hb.block k hk) hb.size (.inl rfl)
theorem Off.map {base : Nat} {g : Option Nat} {w : World} {P R : World → Prop} (h : Off base g w P) (hpr : ∀ W, P W → R W) : Off base g w R := fun w' hw' => hpr _ (h w' hw')

section
variable {P : Program} {w : World}
theorem run_cat2 (base : Nat) (t ty e : TypeId) (z : Value) (size bytes : Nat) (ht : P.underlying t = some (.slice e)) (hi : (P.info? e).map (fun i => (i.zero, i.size, i.bytes)) = some (some z, size, bytes))
    (hzs : z.cells.size = size) (hsz : 0 < size) (v : Value) (n : Nat) (xs : List Value) (hown : w.ownsRow base e size v n xs) (ad : Addr) (m c : Nat) (news : List Value)
    (hl : news.length = m * size) (hj : ∀ j u, news[j]? = some u → w.cell? (ad.add j) = some u) (h1 : ∀ u ∈ news, u.oneCell' = true) (hn : n + m ≤ 100000000) (hb : bytes ≤ 1000) (hbase : base ≤ w.heap.size) :
    ∃ v' w', (Builtin.append_ #[t, t] ty #[v, .slice (some ad) m c]).run P w = .ok v' w' ∧ w'.ownsRow base e size v' (n + m) (xs ++ news) ∧ w.grownBy w' v.ownBlock ∧
      (v'.ownBlock = v.ownBlock ∨ ∀ k, v'.ownBlock = some k → w.heap.size ≤ k) := by
  obtain ⟨i, hi0, hz0, hz1, hz2⟩ := info_parts hi
  have hm1 : n + m ≤ maxLen := by unfold maxLen; omega
  have hm2 : (n + m) * bytes ≤ 140737488355328 := Nat.le_trans (Nat.mul_le_mul hn hb) (by omega)
  obtain ⟨v', w', hr, h2, h3, _⟩ := run_append_own (P := P) w base t ty e i z size bytes ht hi0 hz0 hz1 hz2 hzs hsz v n xs hown ad m c news hl hj h1 hm1 hm2 hbase
  refine ⟨v', w', hr, h2, h3, ?_⟩
  rcases hown.2 with ⟨rfl, rfl⟩ | ⟨g, cap, cur, rfl, hbg, hg, hnc, hcm, hcs, htake⟩
  · have hown' : w.ownsRow w.heap.size e size (.slice none 0 0) 0 xs := ⟨hown.1, .inl ⟨rfl, rfl⟩⟩
    obtain ⟨v2, w2, hr2, h22, _, _⟩ := run_append_own (P := P) w w.heap.size t ty e i z size bytes ht hi0 hz0 hz1 hz2 hzs hsz _ 0 xs hown' ad m c news hl hj h1 hm1 hm2 (Nat.le_refl _)
    have he := hr.symm.trans hr2
    injection he with e1 e2
    subst e1 e2
    exact .inr fun k hk => (h22.lt k hk).1
  · by_cases hroom : n + m ≤ cap
    · obtain ⟨w2, hr2, _, _⟩ := run_append_fits (P := P) w base t ty e i size ht hi0 hz1 g n cap xs hown ad m c news hl hj h1 hroom
      have he := hr.symm.trans hr2
      injection he with e1 e2
      subst e1
      exact .inl rfl
    · have holds : ∀ j u, xs[j]? = some u → w.cell? ((⟨g, 0, none⟩ : Addr).add j) = some u := hown.cells (g := g) rfl
      subst hz1
      have hr2 := run_append_grow (P := P) w t ty e i z ht hi0 hz0 ⟨g, 0, none⟩ n cap xs hown.1 holds ad m c news hl hj (by omega) (by omega) (by subst hz2; exact growslice_fits (by omega) hm2)
      have he := hr.symm.trans hr2
      injection he with e1 e2
      subst e1
      refine .inr fun k hk => ?_
      simp [Value.ownBlock] at hk
      omega

theorem add_zero' (g j : Nat) : (⟨g, 0, none⟩ : Addr).add j = ⟨g, j, none⟩ := by unfold Addr.add; split <;> simp_all
theorem wp_cat2 {o : Oper} {a : Act} {K : Act → World → Prop} {Q : Exit → Act → World → Prop} (s x : Operand) (t : TypeId)
    (ho : o.op = .call { callee := .builtin .append, args := #[s, x], argTypes := #[t, t] })
    (base : Nat) (e : TypeId) (z : Value) (size bytes : Nat) (ht : P.underlying t = some (.slice e)) (hi : (P.info? e).map (fun i => (i.zero, i.size, i.bytes)) = some (some z, size, bytes))
    (hzs : z.cells.size = size) (hsz : 0 < size) (v : Value) (n : Nat) (xs : List Value) (g m c : Nat) (news : List Value) (hs : a.eval s = v) (hown : w.ownsRow base e size v n xs)
    (hx : a.eval x = .slice (some ⟨g, 0, none⟩) m c) (hl : news.length = m * size) (hj : ∀ j u, news[j]? = some u → w.cell? ⟨g, j, none⟩ = some u) (h1 : ∀ u ∈ news, u.oneCell' = true) (hn : n + m ≤ 100000000) (hb : bytes ≤ 1000) (hbase : base ≤ w.heap.size)
    (h : ∀ v' w', w'.ownsRow base e size v' (n + m) (xs ++ news) → w.grownBy w' v.ownBlock → (v'.ownBlock = v.ownBlock ∨ ∀ k, v'.ownBlock = some k → w.heap.size ≤ k) → K (a.put o.dst v') w') : o.wp P a w K Q := by
  obtain ⟨v', w', hr, h2, h3, h4⟩ := run_cat2 (P := P) base t o.type e z size bytes ht hi hzs hsz v n xs hown ⟨g, 0, none⟩ m c news hl (fun j u hu => by rw [add_zero']; exact hj j u hu) h1 hn hb hbase
  unfold Oper.wp execOp
  simp only [ho, resolve, invoke, builtin, Sem.run_bind, Sem.run_pure, Result.andThen_ok, List.map_toArray, List.map_cons, List.map_nil, hs, hx, hr]
  exact h v' w' h2 h3 h4

theorem wpList_cat2 {ops : Array Oper} {rest : List Oper} {o : Oper} {a : Act} {Q : Exit → Act → World → Prop} (hgd : o.guard = none) (s x : Operand) (t : TypeId)
    (ho : o.op = .call { callee := .builtin .append, args := #[s, x], argTypes := #[t, t] })
    (base : Nat) (e : TypeId) (z : Value) (size bytes : Nat) (ht : P.underlying t = some (.slice e)) (hi : (P.info? e).map (fun i => (i.zero, i.size, i.bytes)) = some (some z, size, bytes))
    (hzs : z.cells.size = size) (hsz : 0 < size) (v : Value) (n : Nat) (xs : List Value) (g m c : Nat) (news : List Value) (hs : a.eval s = v) (hown : w.ownsRow base e size v n xs)
    (hx : a.eval x = .slice (some ⟨g, 0, none⟩) m c) (hl : news.length = m * size) (hj : ∀ j u, news[j]? = some u → w.cell? ⟨g, j, none⟩ = some u) (h1 : ∀ u ∈ news, u.oneCell' = true) (hn : n + m ≤ 100000000) (hb : bytes ≤ 1000) (hbase : base ≤ w.heap.size)
    (h : ∀ v' w', w'.ownsRow base e size v' (n + m) (xs ++ news) → w.grownBy w' v.ownBlock → (v'.ownBlock = v.ownBlock ∨ ∀ k, v'.ownBlock = some k → w.heap.size ≤ k) → wpList P ops Q rest (a.put o.dst v') w') : wpList P ops Q (o :: rest) a w :=
  wpList_plain hgd fun _ hK => wp_cat2 s x t ho base e z size bytes ht hi hzs hsz v n xs g m c news hs hown hx hl hj h1 hn hb hbase fun v' w' h2 h3 h4 => hK _ _ (h v' w' h2 h3 h4)

end

/-- An expression's cells. -/
def exC (x : Ex) (a : Option Addr × Nat) : List Value := [.int .i64 x.kind, .int .i32 x.n, .string x.name, .slice a.1 x.sub.length a.2]
def exsC : List Ex → List (Option Addr × Nat) → List Value
  | x :: l, a :: ls => exC x a ++ exsC l ls
  | _, _ => []
theorem exsC_snoc : ∀ (l : List Ex) (ls : List (Option Addr × Nat)) (x : Ex) (a : Option Addr × Nat), ls.length = l.length → exsC (l ++ [x]) (ls ++ [a]) = exsC l ls ++ exC x a
  | [], [], x, a, _ => by simp [exsC]
  | y :: l, b :: ls, x, a, h => by
    simp only [List.cons_append, exsC, List.append_assoc]
    rw [exsC_snoc l ls x a (by simpa using h)]
  | [], b :: ls, x, a, h => by simp at h
  | y :: l, [], x, a, h => by simp at h
theorem RowAt.of_cells {w : World} {b : Nat} : ∀ (l : List Ex) (ls : List (Option Addr × Nat)) (off : Nat), ls.length = l.length → (∀ j u, (exsC l ls)[j]? = some u → w.cell? ⟨b, off + j, none⟩ = some u) →
    (∀ (j : Nat) (x : Ex) (a : Option Addr × Nat), l[j]? = some x → ls[j]? = some a → SubsAt w x a.1 a.2) → RowAt w b l off
  | [], _, off, _, _, _ => by simp [RowAt]
  | y :: l, [], off, h, _, _ => by simp at h
  | y :: l, a :: ls, off, h, hc, hs => by
    rw [RowAt]
    refine ⟨⟨a.1, a.2, ?_, ?_, ?_, ?_, hs 0 y a rfl rfl⟩, RowAt.of_cells l ls (off + 4) (by simpa using h) ?_ ?_⟩
    · exact hc 0 _ rfl
    · exact hc 1 _ rfl
    · exact hc 2 _ rfl
    · exact hc 3 _ rfl
    · intro j u hj
      have := hc (4 + j) u (by rw [exsC, List.getElem?_append_right (by simp [exC])]; simpa [exC] using hj)
      rwa [show off + 4 + j = off + (4 + j) from by omega]
    · intro j x a' h1 h2
      exact hs (j + 1) x a' (by simpa using h1) (by simpa using h2)
theorem cell_block {w w' : World} {a : Addr} {v : Value} (h : w'.heap[a.block]? = w.heap[a.block]?) (hc : w.cell? a = some v) : w'.cell? a = some v := by
  rw [World.cell?_of_block h]; exact hc
/-- An expression whose parts lie in a row of the call's own. -/
theorem SubsAt.of_own {w : World} {base : Nat} {t : TypeId} {x : Ex} {v : Value} {ls : List (Option Addr × Nat)} (h : w.ownsRow base t 4 v x.sub.length (exsC x.sub ls)) (hl : ls.length = x.sub.length)
    (hs : ∀ (j : Nat) (y : Ex) (a : Option Addr × Nat), x.sub[j]? = some y → ls[j]? = some a → Off base v.ownBlock w (fun W => SubsAt W y a.1 a.2)) : ∃ A cap, v = .slice A x.sub.length cap ∧ Off base none w (fun W => SubsAt W x A cap) := by
  rcases Nat.eq_zero_or_pos x.sub.length with h0 | h0
  · obtain ⟨A, cap, rfl, h1, h2⟩ := own_slice h
    refine ⟨A, cap, rfl, fun w' _ => ?_⟩
    show SubsAt w' x A cap
    rw [SubsAt_iff]
    exact ⟨h1, h2, fun h => absurd h (by omega)⟩
  · obtain ⟨g, cap, rfl, hg, hlt, h1, h2, hc⟩ := own_get h h0
    refine ⟨_, cap, rfl, fun w' hw' => ?_⟩
    show SubsAt w' x _ cap
    rw [SubsAt_iff]
    refine ⟨h1, h2, fun _ => ⟨g, 0, rfl, RowAt.of_cells _ ls 0 hl (fun j u hj => ?_) fun j y a hy ha => hs j y a hy ha w' fun k k1 k2 _ => hw' k k1 k2 (by simp)⟩⟩
    rw [Nat.zero_add]
    exact cell_block (hw' g hg hlt (by simp)) (hc j u hj)

/-- An equation's cells. -/
def eqC (q : Qe) (a : (Option Addr × Nat) × (Option Addr × Nat)) : List Value :=
  [.string q.name, .int .i64 q.delay, .int .i64 q.first.kind, .int .i32 q.first.n, .string q.first.name, .slice a.1.1 q.first.sub.length a.1.2, .int .i64 q.e.kind, .int .i32 q.e.n, .string q.e.name, .slice a.2.1 q.e.sub.length a.2.2]
def eqsC : List Qe → List ((Option Addr × Nat) × (Option Addr × Nat)) → List Value
  | q :: l, a :: ls => eqC q a ++ eqsC l ls
  | _, _ => []
theorem eqsC_at : ∀ (l : List Qe) (ls : List ((Option Addr × Nat) × (Option Addr × Nat))) (k : Nat) (q : Qe) (a : (Option Addr × Nat) × (Option Addr × Nat)), l[k]? = some q → ls[k]? = some a → ∀ (i : Nat) (u : Value), (eqC q a)[i]? = some u → (eqsC l ls)[k * 10 + i]? = some u
  | [], _, k, q, a, h, _, _, _, _ => by simp at h
  | y :: l, [], k, q, a, _, h, _, _, _ => by simp at h
  | y :: l, b :: ls, 0, q, a, h1, h2, i, u, hu => by
    simp at h1 h2; subst h1 h2
    have hi : i < (eqC y b).length := (List.getElem?_eq_some_iff.1 hu).1
    rw [eqsC, Nat.zero_mul, Nat.zero_add, List.getElem?_append_left hi]
    exact hu
  | y :: l, b :: ls, k + 1, q, a, h1, h2, i, u, hu => by
    have hlen : (eqC y b).length = 10 := rfl
    rw [eqsC, List.getElem?_append_right (by rw [hlen]; omega), hlen, show (k + 1) * 10 + i - 10 = k * 10 + i from by omega]
    exact eqsC_at l ls k q a (by simpa using h1) (by simpa using h2) i u hu
/-- Equations that lie in a row of the call's own. -/
theorem EqsAt.of_own {w : World} {base : Nat} {t : TypeId} {l : List Qe} {v : Value} {ls : List ((Option Addr × Nat) × (Option Addr × Nat))} (h : w.ownsRow base t 10 v l.length (eqsC l ls)) (hl : ls.length = l.length)
    (hs : ∀ (j : Nat) (q : Qe) (a : (Option Addr × Nat) × (Option Addr × Nat)), l[j]? = some q → ls[j]? = some a → Off base v.ownBlock w (fun W => SubsAt W q.first a.1.1 a.1.2 ∧ SubsAt W q.e a.2.1 a.2.2)) : ∃ A cap, v = .slice A l.length cap ∧ Off base none w (fun W => EqsAt W l A cap) := by
  rcases Nat.eq_zero_or_pos l.length with h0 | h0
  · obtain ⟨A, cap, rfl, h1, h2⟩ := own_slice h
    exact ⟨A, cap, rfl, fun w' _ => ⟨h1, h2, fun h => absurd h (by omega)⟩⟩
  · obtain ⟨g, cap, rfl, hg, hlt, h1, h2, hc⟩ := own_get h h0
    refine ⟨_, cap, rfl, fun w' hw' => ⟨h1, h2, fun _ => ⟨g, 0, rfl, fun k q hk => ?_⟩⟩⟩
    have hka : k < ls.length := by rw [hl]; exact (List.getElem?_eq_some_iff.1 hk).1
    have ha : ls[k]? = some ls[k] := List.getElem?_eq_getElem hka
    generalize ls[k] = a at ha
    have hcc := fun i u hu => cell_block (hw' g hg hlt (by simp)) (hc _ _ (eqsC_at l ls k q a hk ha i u hu))
    rw [Nat.zero_add]
    have hsub := hs k q a hk ha w' fun k k1 k2 _ => hw' k k1 k2 (by simp)
    exact ⟨a.1.1, a.1.2, a.2.1, a.2.2, ⟨hcc 0 _ rfl, hcc 1 _ rfl, hcc 2 _ rfl, hcc 3 _ rfl, hcc 4 _ rfl, hcc 5 _ rfl, hcc 6 _ rfl, hcc 7 _ rfl, hcc 8 _ rfl, hcc 9 _ rfl, hsub.1, hsub.2⟩⟩
/-- Variables that lie in a row of the call's own. -/
theorem VarsAt.off_own {w : World} {base : Nat} {e : TypeId} {l : List Va} {v : Value} (h : w.ownsRow base e 4 v l.length (vasC l)) : ∃ A cap, v = .slice A l.length cap ∧ Off base none w (fun W => VarsAt W l A cap) := by
  obtain ⟨A, cap, rfl, h1, h2⟩ := own_slice h
  refine ⟨A, cap, rfl, fun w' hw' => ?_⟩
  rcases Nat.eq_zero_or_pos l.length with h0 | h0
  · exact ⟨h1, h2, fun hl => absurd hl (by omega)⟩
  · obtain ⟨g, c', hv, hg, hlt, h1, h2, hc⟩ := own_get h h0
    injection hv with e1 e2 e3
    subst e1 e3
    refine ⟨h1, h2, fun _ => ⟨g, 0, rfl, fun k v hk => ?_⟩⟩
    have ha := fun i u hu => cell_block (hw' g hg hlt (by simp)) (hc _ _ (vasC_at l k v hk i u hu))
    rw [Nat.zero_add]
    exact ⟨ha 0 _ rfl, ha 1 _ rfl, ha 2 _ rfl, ha 3 _ rfl⟩
theorem VarsAt.off_own' {w : World} {base : Nat} {e : TypeId} {l : List Va} {A : Option Addr} {cap : Nat} (h : w.ownsRow base e 4 (.slice A l.length cap) l.length (vasC l)) : Off base none w (fun W => VarsAt W l A cap) := by
  obtain ⟨A', cap', hv, ho⟩ := VarsAt.off_own h
  injection hv with e1 e2 e3
  subst e1 e3
  exact ho
theorem cell_new' {w : World} {c : Array Value} {t : TypeId} {g j : Nat} (hg : g = w.heap.size) : (w.alloc (.cells c t)).cell? ⟨g, j, none⟩ = c[j]? := by subst hg; exact cell_new w c t j
theorem own_apart {B n size z : Nat} {t : TypeId} {w : World} {v : Value} {xs : List Value} (hown : w.ownsRow B t size v n xs) (hz : ∀ b, v.ownBlock = some b → b ≠ z) (o : Nat) (u : Value) : (w.setCell ⟨z, o, none⟩ u).ownsRow B t size v n xs :=
  hown.kept (row := some z) ⟨rfl, rfl, rfl, by simp, fun k _ hk => heap_setCell_other w ⟨z, o, none⟩ k u (fun e => hk (by rw [e]))⟩ (by
    cases hb : v.ownBlock with
    | none => exact .inl rfl
    | some b =>
      right
      intro he
      injection he with he
      exact hz b hb he)
theorem own_less {w : World} {B B' n size : Nat} {t : TypeId} {v : Value} {xs : List Value} (h : w.ownsRow B t size v n xs) (hb : B' ≤ B) : w.ownsRow B' t size v n xs := by
  refine ⟨h.1, ?_⟩
  rcases h.2 with h2 | ⟨g, cap', cur, hv, hg, r⟩
  · exact .inl h2
  · exact .inr ⟨g, cap', cur, hv, by omega, r⟩

theorem own_aside {B n size z : Nat} {t : TypeId} {w : World} {v : Value} {xs : List Value} (hown : w.ownsRow B t size v n xs) (hz : z < B) (o : Nat) (u : Value) : (w.setCell ⟨z, o, none⟩ u).ownsRow B t size v n xs :=
  hown.kept (row := some z) ⟨rfl, rfl, rfl, by simp, fun k _ hk => heap_setCell_other w ⟨z, o, none⟩ k u (fun e => hk (by rw [e]))⟩ (by
    cases hb : v.ownBlock with
    | none => exact .inl rfl
    | some b =>
      right
      intro he
      have := (hown.lt b hb).1
      injection he with he
      omega)
theorem bel_grown {z : Nat} {w w1 w3 : World} {row : Option Nat} (h : Below z w w1) (hg : w1.grownBy w3 row) (hrow : ∀ b, row = some b → z ≤ b) (hz : z ≤ w1.heap.size) : Below z w w3 :=
  ⟨hg.os.trans h.os, hg.tape.trans h.tape, hg.output.trans h.output, Nat.le_trans h.size hg.size, fun k hk => (hg.block k (by omega) (fun he => by have := hrow k he.symm; omega)).trans (h.block k hk)⟩
theorem own_below {B n size : Nat} {t : TypeId} {wr w1 w3 : World} {v : Value} {xs : List Value} (hown : wr.ownsRow B t size v n xs) (hB : B ≤ wr.heap.size) (hb1 : Below wr.heap.size wr w1) (hg : w1.grownBy w3 v.ownBlock) : ∀ k, k < B → w3.heap[k]? = wr.heap[k]? := fun k hk => by
  have := hb1.size
  refine (hg.block k (by omega) fun he => ?_).trans (hb1.block k (by omega))
  have := (hown.lt k he.symm).1
  omega
end Go.Proofs.YtknfcamdfdfoeaaDoor

/- What changes but in one block. -/
namespace Go.Proofs.YtknfcamdfdfoeaaDoor
open Go.RowKit Go.Sort

theorem grow_trans {a b c : World} {r : Option Nat} (h : a.grownBy b r) (k : b.grownBy c r) : a.grownBy c r :=
  ⟨k.os.trans h.os, k.tape.trans h.tape, k.output.trans h.output, Nat.le_trans h.size k.size, fun i hi hne => (k.block i (Nat.lt_of_lt_of_le hi h.size) hne).trans (h.block i hi hne)⟩
theorem grow_bel {a b : World} {r : Option Nat} (h : Below a.heap.size a b) : a.grownBy b r := ⟨h.os, h.tape, h.output, h.size, fun i hi _ => h.block i hi⟩
end Go.Proofs.YtknfcamdfdfoeaaDoor
