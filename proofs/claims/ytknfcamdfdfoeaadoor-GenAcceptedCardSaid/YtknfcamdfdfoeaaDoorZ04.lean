/- A map that a call makes for itself, from keys of any kind to numbers of any kind. -/
import Derived.Test.YtknfcamdfdfoeaaDoorZ03
import Derived.Test.YtknfcamdfdfoeaaDoorZ00
import Derived.Maps.Keyed
import Derived.DeepKeys4
import Derived.WideKeyEntry
set_option linter.unusedVariables false
set_option linter.unusedSimpArgs false
set_option maxRecDepth 100000
namespace Go.Proofs.YtknfcamdfdfoeaaDoor
open Go.RowKit Go.Sort Go.Maps Go.ChangeMaps Go.WideMaps

/-- Keys: their values, and what they read as. -/
structure KeyAs (P : Program) (k : TypeId) {K : Type} (ok : K → Prop) (kv : K → Value) (kl : K → Lit) : Prop where
  keyed : Keyed P k
  read : ∀ x, ok x → keyOf P k (kv x) = some (kl x)
  inj : ∀ x y, ok x → ok y → kl x = kl y → x = y

/-- Block b is a map of just c entries (at most n were laid) to numbers of kind q: f. -/
def MapG (P : Program) (k e : TypeId) (q : IntKind) {K : Type} (ok : K → Prop) (kl : K → Lit) (w : World) (b n : Nat) (f : K → Option Int) (c : Nat) : Prop :=
  ∃ D : DataW Unit, w.ownsMap P k (plainElem P e) b n D ∧ Maps.Tidy D ∧ Maps.size D = c ∧
    ∀ x, ok x → Maps.has D (kl x) = (f x).isSome ∧ D.atKey (kl x) (.lit (.int q 0)) = .lit (.int q ((f x).getD 0))

section
variable {P : Program} {k e : TypeId} {q : IntKind} {K : Type} {ok : K → Prop} {kv : K → Value} {kl : K → Lit} {w w' : World} {b n c : Nat} {f : K → Option Int}

theorem MapG.made (w : World) : MapG P k e q ok kl (w.alloc (.map #[] 0)) w.heap.size 0 (fun _ => none) 0 :=
  ⟨.map [], World.ownsMap_made w P k _, Maps.tidy_empty, rfl, fun x _ => ⟨rfl, rfl⟩⟩
theorem MapG.lt (h : MapG P k e q ok kl w b n f c) : b < w.heap.size := by
  obtain ⟨D, h1, _⟩ := h
  exact h1.lt
theorem MapG.keep1 (h : MapG P k e q ok kl w b n f c) (hb : w'.heap[b]? = w.heap[b]?) : MapG P k e q ok kl w' b n f c := by
  obtain ⟨D, ⟨es, clock, hh, F, hs, hD⟩, h2⟩ := h
  exact ⟨D, ⟨es, clock, hb.trans hh, F, hs, hD⟩, h2⟩
theorem MapG.bel (h : MapG P k e q ok kl w b n f c) (hb : Below w.heap.size w w') : MapG P k e q ok kl w' b n f c := h.keep1 (hb.block b h.lt)
theorem MapG.more (h : MapG P k e q ok kl w b n f c) {m : Nat} (hm : n ≤ m) : MapG P k e q ok kl w b m f c := by
  obtain ⟨D, h1, h2⟩ := h
  exact ⟨D, h1.mono hm, h2⟩
theorem MapG.same (h : MapG P k e q ok kl w b n f c) {g : K → Option Int} (hg : ∀ x, ok x → g x = f x) : MapG P k e q ok kl w b n g c := by
  obtain ⟨D, h1, h2, h3, h4⟩ := h
  exact ⟨D, h1, h2, h3, fun x hx => by rw [hg x hx]; exact h4 x hx⟩

theorem wpList_stG (ks : KeyAs P k ok kv kl) {ops : Array Oper} {rest : List Oper} {o : Oper} {a : Act} {Q : Exit → Act → World → Prop} (hg : o.guard = none) (m x v : Operand) (t : TypeId) (hop : o.op = Op.mapUpdate t m x v)
    (ht : P.underlying t = some (.map k e)) (he : P.underlying e = some (.int q))
    (b n : Nat) (f : K → Option Int) (c : Nat) (s : K) (i : Int) (hm : a.eval m = .map (some b)) (hown : MapG P k e q ok kl w b n f c) (hn : n < 1000000000) (hx : a.eval x = kv s) (hv : a.eval v = .int q i)
    (hs : ok s) (hi : (Lit.int q i).wf = true) (f' : K → Option Int) (hf1 : f' s = some i) (hf2 : ∀ y, ok y → y ≠ s → f' y = f y)
    (hK : ∀ w', MapG P k e q ok kl w' b (n + 1) f' (if (f s).isSome then c else c + 1) → w.grownBy w' (some b) → wpList P ops Q rest (a.put o.dst undef) w') : wpList P ops Q (o :: rest) a w := by
  obtain ⟨D, h1, h2, hc, h3⟩ := hown
  have hkl : WideAt.IsKeyLit (kl s) := ks.keyed.key (ks.read s hs)
  refine wpList_mapUpdate_own w hg m x v t hop k e ks.keyed ht _ b n D hm h1 (by unfold maxLen; omega) _ _ _ hx hv (ks.read s hs) _ [] (plainElem_int he hi) fun w' h4 h5 => hK w' ⟨_, h4, h2.put hkl _, ?_, fun y hy => ?_⟩ h5
  · rw [Maps.size_put h2, (h3 s hs).1, hc]
  · by_cases hys : y = s
    · subst hys
      rw [has_put_same h2.isMap hkl, atKey_put_same h2.isMap hkl, hf1]
      simp
    · have hne : kl y ≠ kl s := fun h => hys (ks.inj y s hy hs h)
      rw [has_put_other hne, atKey_put_other hne, (h3 y hy).1, (h3 y hy).2, hf2 y hy hys]
      exact ⟨rfl, rfl⟩
end

/-- Texts as keys. -/
def okS (s : ByteArray) : Prop := s.size ≤ maxLen
def klS (s : ByteArray) : Lit := .string s.data.toList
theorem keyS {P : Program} {k : TypeId} (hk : P.underlying k = some .string) : KeyAs P k okS Value.string klS :=
  ⟨string_keyed hk, fun _ hs => keyOf_string_mk hk hs, fun x y _ _ h => by
    unfold klS at h
    injection h with h
    ext1
    have := congrArg List.toArray h
    simpa using this⟩
/-- Clocks as keys. -/
def okC (c : Int × ByteArray) : Prop := I64 c.1 ∧ c.2.size ≤ maxLen
def kvC (c : Int × ByteArray) : Value := .agg #[.int .i64 c.1, .string c.2]
def klC (c : Int × ByteArray) : Lit := .string (keyBytes [.int .i64 c.1, .string c.2.data.toList])
theorem i64_wf {n : Int} (h : I64 n) : (Lit.int .i64 n).wf = true := by
  unfold I64 at h
  simp [Lit.wf, IntKind.min, IntKind.max, IntKind.signed, IntKind.bits]; omega
theorem klC_inj {x y : Int × ByteArray} (hx : okC x) (hy : okC y) (h : klC x = klC y) : x = y := by
  unfold klC at h
  injection h with h
  have hw : ∀ z : Int × ByteArray, okC z → ∀ a ∈ [Lit.int .i64 z.1, Lit.string z.2.data.toList], a.keyWf := by
    intro z hz a ha
    simp only [List.mem_cons, List.not_mem_nil, or_false] at ha
    rcases ha with rfl | rfl
    · exact i64_wf hz.1
    · show z.2.data.toList.length ≤ maxLen
      simpa using hz.2
  have := keyBytes_inj (l := [.int .i64 x.1, .string x.2.data.toList]) (l' := [.int .i64 y.1, .string y.2.data.toList]) ⟨rfl, trivial, trivial⟩ (hw x hx) (hw y hy) h
  injection this with h1 h2
  injection h1 with _ h1
  injection h2 with h2
  injection h2 with h2
  refine Prod.ext h1 ?_
  ext1
  have := congrArg List.toArray h2
  simpa using this
theorem keyC_row : (58 : TypeId) < Tryd.prog.types.size := of_decide_eq_true (by kernel_rfl)
theorem keyC_law : KeyLaw Tryd.prog 58 := deep_law_laid Tryd.laidOut (m := 3) (by omega) keyC_row (by kernel_rfl) (by kernel_rfl)
theorem keyC_read (c : Int × ByteArray) (hc : okC c) : keyOf Tryd.prog 58 (kvC c) = some (klC c) := by
  obtain ⟨h1, h2⟩ := hc
  have hk : Tryd.prog.keyType 58 = true := by kernel_rfl
  have hf : (kvC c).formed Tryd.prog 58 = true := by
    unfold kvC Value.formed
    rw [Tryd.underlying58, cellsClock]
    rfl
  have hw := i64_wf h1
  have hl : Tryd.prog.keyLits (Tryd.prog.types.size + 1) 58 (kvC c).cells.toList = some [.int .i64 c.1, .string c.2.data.toList] := by
    obtain ⟨n, hn⟩ : ∃ n, Tryd.prog.types.size = n + 1 := ⟨Tryd.prog.types.size - 1, (Nat.succ_pred_eq_of_pos (Nat.lt_of_le_of_lt (Nat.zero_le _) keyC_row)).symm⟩
    rw [hn]
    unfold Program.keyLits
    rw [Tryd.underlying58]
    simp [kvC, Value.cells, cellsClock, cellsInt, cellsString, Program.keyLits, Tryd.underlying3, Tryd.underlying9, hw, h2]
  unfold keyOf
  rw [Tryd.underlying58]
  simp only [hk, hf, hl, Bool.and_self, if_true, Option.map_some]
  rfl
theorem keyC : KeyAs Tryd.prog 58 okC kvC klC := ⟨Keyed.of_law keyC_law, keyC_read, fun _ _ => klC_inj⟩
end Go.Proofs.YtknfcamdfdfoeaaDoor

/- A map's entry read, or laid, in a region that draws its order. -/
namespace Go.Proofs.YtknfcamdfdfoeaaDoor
open Go.RowKit Go.Sort Go.Maps Go.ChangeMaps Go.WideMaps

section
variable {P : Program} {k e : TypeId} {q : IntKind} {K : Type} {ok : K → Prop} {kv : K → Value} {kl : K → Lit} {w : World}
/-- The read itself: an equation that a walk takes as it stands. -/
theorem run_lkG (ks : KeyAs P k ok kv kl) {t : TypeId} (ht : P.underlying t = some (.map k e)) (he : P.underlying e = some (.int q)) (hz : (zeroValue e).run P w = .ok (.int q 0) w)
    {b n : Nat} {f : K → Option Int} {c : Nat} {s : K} {x : Value} (hx : x = kv s) (hown : MapG P k e q ok kl w b n f c) (hs : ok s) {r : Int} (hr : (f s).getD 0 = r) : (Instr.lookup t (.map (some b)) x false).run P w = .ok (.int q r) w := by
  subst hx
  obtain ⟨D, h1, h2, _, h3⟩ := hown
  obtain ⟨c, hrun, hat, hwc⟩ := h1.lookup_int ks.keyed ht he hz (ks.read s hs)
  rw [(h3 s hs).2] at hat
  have hc : (f s).getD 0 = c := by injection hat with hat; injection hat
  rw [hrun, ← hc, hr]
end

theorem MapG.drew {P : Program} {k e : TypeId} {q : IntKind} {K : Type} {ok : K → Prop} {kl : K → Lit} {w : World} {b n c : Nat} {f : K → Option Int} (h : MapG P k e q ok kl w b n f c) : MapG P k e q ok kl w.drew b n f c := h.bel (bel_drew (Below.refl _ _))
end Go.Proofs.YtknfcamdfdfoeaaDoor

/- A map from keys of any kind to values of any kind; an entry that is laid in two steps. -/
namespace Go.Proofs.YtknfcamdfdfoeaaDoor
open Go.RowKit Go.Sort Go.Maps Go.ChangeMaps Go.WideMaps

/-- Elements: their values, and what they read as. -/
structure ValAs (R : Value → Option (DataW Unit × List MemPlace)) {V : Type} (okv : V → Prop) (vv : V → Value) (vl : V → Lit) : Prop where
  read : ∀ v, okv v → R (vv v) = some (.lit (vl v), [])
  back : ∀ x v ps, okv v → R x = some (.lit (vl v), ps) → x = vv v

/-- Block b is a map of just c entries (at most n were laid): f; z stands where none is. -/
def MapE (P : Program) (k : TypeId) (R : Value → Option (DataW Unit × List MemPlace)) {K V : Type} (ok : K → Prop) (kl : K → Lit) (okv : V → Prop) (vl : V → Lit) (z : V) (w : World) (b n : Nat) (f : K → Option V) (c : Nat) : Prop :=
  ∃ D : DataW Unit, w.ownsMap P k R b n D ∧ Maps.Tidy D ∧ Maps.size D = c ∧
    ∀ x, ok x → (Maps.has D (kl x) = (f x).isSome ∧ D.atKey (kl x) (.lit (vl z)) = .lit (vl ((f x).getD z))) ∧ okv ((f x).getD z)

section
variable {P : Program} {k e : TypeId} {R : Value → Option (DataW Unit × List MemPlace)} {K V : Type} {ok : K → Prop} {kv : K → Value} {kl : K → Lit} {okv : V → Prop} {vv : V → Value} {vl : V → Lit} {z : V} {w w' : World} {b n c : Nat} {f : K → Option V}

theorem MapE.made (hz : okv z) (w : World) : MapE P k R ok kl okv vl z (w.alloc (.map #[] 0)) w.heap.size 0 (fun _ => none) 0 :=
  ⟨.map [], World.ownsMap_made w P k _, Maps.tidy_empty, rfl, fun x _ => ⟨⟨rfl, rfl⟩, hz⟩⟩
theorem MapE.lt (h : MapE P k R ok kl okv vl z w b n f c) : b < w.heap.size := by
  obtain ⟨D, h1, _⟩ := h
  exact h1.lt
theorem MapE.keep1 (h : MapE P k R ok kl okv vl z w b n f c) (hb : w'.heap[b]? = w.heap[b]?) : MapE P k R ok kl okv vl z w' b n f c := by
  obtain ⟨D, ⟨es, clock, hh, F, hs, hD⟩, h2⟩ := h
  exact ⟨D, ⟨es, clock, hb.trans hh, F, hs, hD⟩, h2⟩
theorem MapE.bel (h : MapE P k R ok kl okv vl z w b n f c) (hb : Below w.heap.size w w') : MapE P k R ok kl okv vl z w' b n f c := h.keep1 (hb.block b h.lt)
theorem MapE.drew (h : MapE P k R ok kl okv vl z w b n f c) : MapE P k R ok kl okv vl z w.drew b n f c := h.bel (bel_drew (Below.refl _ _))
theorem MapE.more (h : MapE P k R ok kl okv vl z w b n f c) {m : Nat} (hm : n ≤ m) : MapE P k R ok kl okv vl z w b m f c := by
  obtain ⟨D, h1, h2⟩ := h
  exact ⟨D, h1.mono hm, h2⟩
theorem MapE.same (h : MapE P k R ok kl okv vl z w b n f c) {g : K → Option V} (hg : ∀ x, ok x → g x = f x) : MapE P k R ok kl okv vl z w b n g c := by
  obtain ⟨D, h1, h2, h3, h4⟩ := h
  exact ⟨D, h1, h2, h3, fun x hx => by rw [hg x hx]; exact h4 x hx⟩

/-- The read itself. -/
theorem run_lkV (ks : KeyAs P k ok kv kl) (vs : ValAs R okv vv vl) {t : TypeId} (ht : P.underlying t = some (.map k e)) (hz : (zeroValue e).run P w = .ok (vv z) w) (hzo : okv z)
    {s : K} {x : Value} (hx : x = kv s) (hown : MapE P k R ok kl okv vl z w b n f c) (hs : ok s) {r : V} (hr : (f s).getD z = r) : (Instr.lookup t (.map (some b)) x false).run P w = .ok (vv r) w := by
  subst hx
  obtain ⟨D, h1, h2, _, h3⟩ := hown
  obtain ⟨v, ps, hrun, hv⟩ := h1.lookup ks.keyed ht hz (vs.read z hzo) (ks.read s hs)
  rw [(h3 s hs).1.2] at hv
  rw [hrun, vs.back v _ ps (h3 s hs).2 hv, hr]

/-- One entry laid. -/
theorem MapE.laid (ks : KeyAs P k ok kv kl) {D : DataW Unit} {s : K} (hs : ok s) {v : V} (hv : okv v) {m : Nat} (h2 : Maps.Tidy D)
    (h3 : Maps.size D = c) (h4 : ∀ x, ok x → (Maps.has D (kl x) = (f x).isSome ∧ D.atKey (kl x) (.lit (vl z)) = .lit (vl ((f x).getD z))) ∧ okv ((f x).getD z))
    {f' : K → Option V} (hf1 : f' s = some v) (hf2 : ∀ y, ok y → y ≠ s → f' y = f y) (h5 : w'.ownsMap P k R b m (D.put (kl s) (.lit (vl v)))) : MapE P k R ok kl okv vl z w' b m f' (if (f s).isSome then c else c + 1) := by
  have hkl : WideAt.IsKeyLit (kl s) := ks.keyed.key (ks.read s hs)
  refine ⟨_, h5, h2.put hkl _, by rw [Maps.size_put h2, (h4 s hs).1.1, h3], fun y hy => ?_⟩
  by_cases hys : y = s
  · subst hys
    rw [has_put_same h2.isMap hkl, atKey_put_same h2.isMap hkl, hf1]
    exact ⟨⟨rfl, rfl⟩, hv⟩
  · have hne : kl y ≠ kl s := fun h => hys (ks.inj y s hy hs h)
    rw [has_put_other hne, atKey_put_other hne, (h4 y hy).1.1, (h4 y hy).1.2, hf2 y hy hys]
    exact ⟨⟨rfl, rfl⟩, (h4 y hy).2⟩

/-- An entry is laid in two steps; between them other blocks may change. -/
theorem MapE.entry (ks : KeyAs P k ok kv kl) (kd : KeyLaw P k) (vs : ValAs R okv vv vl) {t : TypeId} (ht : P.underlying t = some (.map k e)) (hz : ∀ u : World, (zeroValue e).run P u = .ok (vv z) u)
    {s : K} (hown : MapE P k R ok kl okv vl z w b n f c) (hs : ok s) (hn : n < 1000000000) :
    ∃ v0 st w1, (Instr.mapEntry t (.map (some b)) (kv s)).run P w = .ok (.tuple #[v0, st]) w1 ∧ w.grownBy w1 (some b) ∧ w1.heap.size = w.heap.size ∧
      ∀ w2 : World, w2.heap[b]? = w1.heap[b]? → ∀ v, okv v → ∀ f' : K → Option V, f' s = some v → (∀ y, ok y → y ≠ s → f' y = f y) →
        ∃ w3, (Instr.entryStore t (.map (some b)) st (vv v)).run P w2 = .ok () w3 ∧ MapE P k R ok kl okv vl z w3 b (n + 1) f' (if (f s).isSome then c else c + 1) ∧ w2.grownBy w3 (some b) ∧ w3.heap.size = w2.heap.size := by
  obtain ⟨D, h1, h2, h3, h4⟩ := hown
  obtain ⟨es, clock, hb, F, hsz, hD⟩ := id h1
  obtain ⟨v0, st, es1, clock1, hrun, _, hst⟩ := WideElems.entry_then_store kd ht hz hb F (ks.read s hs)
  refine ⟨v0, goInt st, _, hrun, ⟨rfl, rfl, rfl, by simp [setBlock], fun i _ hi => heap_setBlock_other hb _ (fun e => hi (by rw [e]))⟩, by simp [setBlock], fun w2 hw2 v hv f' hf1 hf2 => ?_⟩
  rw [heap_setBlock_same hb] at hw2
  obtain ⟨es', clock', hr1, hr2⟩ := hst w2 (vv v) hw2
  obtain ⟨w', hu, h5, h6⟩ := h1.update ks.keyed ht (by unfold maxLen; omega) (ks.read s hs) (vs.read v hv)
  rw [hr2] at hu
  injection hu with _ hu
  subst hu
  refine ⟨_, hr1, (MapE.laid ks hs hv h2 h3 h4 hf1 hf2 h5).keep1 ?_, ⟨rfl, rfl, rfl, by simp [setBlock], fun i _ hi => heap_setBlock_other hw2 _ (fun e => hi (by rw [e]))⟩, by simp [setBlock]⟩
  rw [heap_setBlock_same hw2, heap_setBlock_same hb]
end

/-- Numbers as elements. -/
theorem valInt {P : Program} {e : TypeId} {q : IntKind} (he : P.underlying e = some (.int q)) : ValAs (plainElem P e) (fun i : Int => (Lit.int q i).wf = true) (fun i => .int q i) (fun i => .int q i) :=
  ⟨fun v hv => plainElem_int he hv, fun x v ps hv h => by
    obtain ⟨a, rfl, h2, _⟩ := plainElem_int_inv he h
    simp only [Prod.mk.injEq, DataW.lit.injEq, Lit.int.injEq, true_and] at h2
    rw [h2.1]⟩
/-- Clocks as elements. -/
noncomputable def clkR (x : Value) : Option (DataW Unit × List MemPlace) := by
  classical
  exact if h : ∃ c : Int × ByteArray, okC c ∧ x = kvC c then some (.lit (klC h.choose), []) else none
theorem valClk : ValAs clkR okC kvC klC :=
  ⟨fun v hv => by
    have h : ∃ c : Int × ByteArray, okC c ∧ kvC v = kvC c := ⟨v, hv, rfl⟩
    unfold clkR
    rw [dif_pos h]
    have h2 := h.choose_spec
    generalize h.choose = c at h2 ⊢
    obtain ⟨_, h2⟩ := h2
    unfold kvC at h2
    injection h2 with h2
    injection h2 with h2
    injection h2 with h3 h4
    injection h3 with _ h3
    injection h4 with h4
    injection h4 with h4
    have : v = c := Prod.ext h3 h4
    rw [this], fun x v ps hv hx => by
    unfold clkR at hx
    split at hx
    · rename_i h
      have h2 := h.choose_spec
      simp at hx
      rw [h2.2, klC_inj h2.1 hv hx.1]
    · cases hx⟩
end Go.Proofs.YtknfcamdfdfoeaaDoor

/- A map's entry in two steps: what the steps do is told by the map's block alone. -/
namespace Go.Proofs.YtknfcamdfdfoeaaDoor
open Go.RowKit Go.Sort Go.Maps Go.ChangeMaps Go.WideMaps Go.WideElems

theorem find_det {P : Program} {k : TypeId} (K : KeyLaw P k) {x : Value} {lx : Lit} (hx : keyOf P k x = some lx) (es : List MapEntry) (hk : ∀ e ∈ es, ∃ l, keyOf P k e.key = some l) (hn : (es.map (·.key)).Nodup) :
    (∀ w : World, (Instr.findKey k x es).run P w = .ok none w) ∨ ∃ j e, (∀ w : World, (Instr.findKey k x es).run P w = .ok (some (j, e.val)) w) ∧ es[j]? = some e ∧ e.key = x := by
  by_cases h : ∃ e ∈ es, e.key = x
  · obtain ⟨e, he, hex⟩ := h
    obtain ⟨j, hj⟩ := List.getElem?_of_mem he
    refine .inr ⟨j, e, fun w => ?_, hj, hex⟩
    rcases K.find w hx es hk with ⟨_, h2⟩ | ⟨j', e', h1, h2, h3⟩
    · exact absurd hex (h2 e he)
    · have e1 : (es.map (·.key))[j]? = some x := by rw [List.getElem?_map, hj]; simp [hex]
      have e2 : (es.map (·.key))[j']? = some x := by rw [List.getElem?_map, h2]; simp [h3]
      obtain ⟨l1, g1⟩ := List.getElem?_eq_some_iff.1 e1
      obtain ⟨l2, g2⟩ := List.getElem?_eq_some_iff.1 e2
      have : j = j' := (List.getElem_inj hn).1 (g1.trans g2.symm)
      subst this
      rw [hj] at h2
      injection h2 with h2
      rw [h1, h2]
  · refine .inl fun w => ?_
    rcases K.find w hx es hk with ⟨h1, _⟩ | ⟨j', e', _, h2, h3⟩
    · exact h1
    · exact absurd ⟨e', List.mem_of_getElem? h2, h3⟩ h

theorem entry_det {P : Program} {t k e : TypeId} {R : Value → Option (DataW Unit × List MemPlace)} {b : Nat} {es : Array MapEntry} {clock : Nat} (K : KeyLaw P k) (ht : P.underlying t = some (.map k e)) {z : Value} (hz : ∀ u : World, (zeroValue e).run P u = .ok z u) (F : Fit P k R es clock)
    {key : Value} {kl : Lit} (hkey : keyOf P k key = some kl) : ∃ (v0 : Value) (st : Nat) (es1 : Array MapEntry) (clock1 : Nat), ∀ W : World, W.heap[b]? = some (.map es clock) →
      (Instr.mapEntry t (.map (some b)) key).run P W = .ok (.tuple #[v0, goInt st]) (setBlock W b (.map es1 clock1)) := by
  rcases find_det K hkey es.toList F.keys F.stamped.2.2 with h1 | ⟨j, e0, h1, h2, h3⟩
  · exact ⟨z, clock, es.push ⟨key, z, clock⟩, clock + 1, fun W hb => by
      simp [Instr.mapEntry, run_underlying ht, MapKept.run_getObj_map hb, K.check W false hkey, h1, hz, MapKept.run_setObj_map _ hb, Result.andThen, setBlock]⟩
  · have hj : es[j]? = some e0 := by simpa using h2
    have hsame : es.modify j (fun e => { e with key := key }) = es := by
      apply Array.ext'
      rw [Array.toList_modify, modify_eq_set _ _ _ _ h2]
      have : ({ e0 with key := key } : MapEntry) = e0 := by rw [← h3]
      rw [this]
      exact set_self _ _ _ h2
    exact ⟨e0.val, e0.born, es, clock, fun W hb => by
      simp [Instr.mapEntry, run_underlying ht, MapKept.run_getObj_map hb, K.check W false hkey, h1, hj, h3, K.stays W hkey, hsame, MapKept.run_setObj_map _ hb, Result.andThen, setBlock]⟩

section
variable {P : Program} {k e : TypeId} {R : Value → Option (DataW Unit × List MemPlace)} {K V : Type} {ok : K → Prop} {kv : K → Value} {kl : K → Lit} {okv : V → Prop} {vv : V → Value} {vl : V → Lit} {z : V} {w : World} {b n c : Nat} {f : K → Option V}

/-- An entry's two steps as equations, for a walk in whatever order. -/
theorem MapE.steps (ks : KeyAs P k ok kv kl) (kd : KeyLaw P k) (vs : ValAs R okv vv vl) {t : TypeId} (ht : P.underlying t = some (.map k e)) (hz : ∀ u : World, (zeroValue e).run P u = .ok (vv z) u)
    {s : K} (hown : MapE P k R ok kl okv vl z w b n f c) (hs : ok s) (hn : n < 1000000000) {v : V} (hv : okv v) :
    ∃ v0 st o0 o1 o2, w.heap[b]? = some o0 ∧ (∀ W : World, W.heap[b]? = some o0 → (Instr.mapEntry t (.map (some b)) (kv s)).run P W = .ok (.tuple #[v0, .int .i64 st]) (setBlock W b o1)) ∧
      (∀ W : World, W.heap[b]? = some o1 → (Instr.entryStore t (.map (some b)) (.int .i64 st) (vv v)).run P W = .ok () (setBlock W b o2)) ∧
      (∀ W : World, W.heap[b]? = some o0 → (Instr.mapUpdate t (.map (some b)) (kv s) (vv v)).run P W = .ok () (setBlock W b o2)) ∧
      ∀ W : World, W.heap[b]? = some o2 → ∀ f' : K → Option V, f' s = some v → (∀ y, ok y → y ≠ s → f' y = f y) → MapE P k R ok kl okv vl z W b (n + 1) f' (if (f s).isSome then c else c + 1) := by
  obtain ⟨D, h1, h2, h3, h4⟩ := hown
  obtain ⟨es, clock, hb, F, hsz, hD⟩ := id h1
  obtain ⟨v0, st, es1, clock1, hrun⟩ := entry_det (b := b) kd ht hz F (ks.read s hs)
  obtain ⟨v0', st', es1', clock1', hrun', _, hst⟩ := WideElems.entry_then_store kd ht hz hb F (ks.read s hs)
  rw [hrun w hb] at hrun'
  injection hrun' with e1 e2
  have e3 : (.map es1 clock1 : Obj) = .map es1' clock1' := by
    have h5 := heap_setBlock_same hb (.map es1 clock1)
    rw [e2, heap_setBlock_same hb] at h5
    injection h5 with h5
    exact h5.symm
  injection e1 with e1
  injection e1 with e1
  injection e1 with e4 e5
  injection e5 with e5
  rw [← e5, ← e3] at hst
  obtain ⟨w', hu, h5, h6⟩ := h1.update ks.keyed ht (by unfold maxLen; omega) (ks.read s hs) (vs.read v hv)
  obtain ⟨es2, clock2, _, hr2⟩ := hst (setBlock w b (.map es1 clock1)) (vv v) (heap_setBlock_same hb _)
  have hstore : ∀ W : World, W.heap[b]? = some (.map es1 clock1) → (Instr.entryStore t (.map (some b)) (.int .i64 st) (vv v)).run P W = .ok () (setBlock W b (.map es2 clock2)) := fun W hW => by
    obtain ⟨es3, clock3, hr3, hr4⟩ := hst W (vv v) hW
    rw [hr2] at hr4
    injection hr4 with _ hr4
    have h7 := heap_setBlock_same hb (.map es2 clock2)
    rw [hr4, heap_setBlock_same hb] at h7
    injection h7 with h7
    rw [← h7]
    exact hr3
  refine ⟨v0, st, .map es clock, .map es1 clock1, .map es2 clock2, hb, hrun, hstore, fun W hW => ?_, fun W hW f' hf1 hf2 => ?_⟩
  · obtain ⟨v8, st8, es8, clock8, hrun8, _, hst8⟩ := WideElems.entry_then_store kd ht hz hW F (ks.read s hs)
    rw [hrun W hW] at hrun8
    injection hrun8 with a1 a2
    have a3 : (.map es1 clock1 : Obj) = .map es8 clock8 := by
      have h5 := heap_setBlock_same hW (.map es1 clock1)
      rw [a2, heap_setBlock_same hW] at h5
      injection h5 with h5
      exact h5.symm
    injection a1 with a1
    injection a1 with a1
    injection a1 with a4 a5
    injection a5 with a5
    rw [← a5, ← a3] at hst8
    obtain ⟨es9, clock9, b1, b2⟩ := hst8 (setBlock W b (.map es1 clock1)) (vv v) (heap_setBlock_same hW _)
    have b3 := hstore (setBlock W b (.map es1 clock1)) (heap_setBlock_same hW _)
    rw [show (goInt st : Value) = .int .i64 st from rfl] at b1
    rw [b1] at b3
    injection b3 with _ b3
    have b4 := heap_setBlock_same (heap_setBlock_same hW (.map es1 clock1)) (.map es9 clock9)
    rw [b3, heap_setBlock_same (heap_setBlock_same hW (.map es1 clock1))] at b4
    injection b4 with b4
    rw [b2, b4]
  · rw [hr2] at hu
    injection hu with _ hu
    subst hu
    exact (MapE.laid ks hs hv h2 h3 h4 hf1 hf2 h5).keep1 (by rw [hW, heap_setBlock_same hb])
end
end Go.Proofs.YtknfcamdfdfoeaaDoor
