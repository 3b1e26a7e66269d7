/- A map from texts to ints that a call makes for itself. -/
import Derived.Test.YtlfklfjnkpjooaaRep2
import Derived.Maps.Own
import Derived.Maps.OwnOps
import Derived.Maps.OwnSet
import Derived.Maps.Views
import Derived.StringKeys
import Derived.WalkArith
import Derived.WalkKit
import Derived.WalkSpells
import Derived.WalkLawsBesides
import Derived.Deep.QuietTactic
import Derived.BigQuiet
import Derived.Deep.Draws
import Derived.Lib.Hide
import Derived.Deep.LoopGhost
import Derived.StillTailTactics
import Derived.Deep.RegionHeld3
import Derived.Deep.RegionWith
import Derived.Lib.QuietBelow
set_option linter.unusedVariables false
set_option linter.unusedSimpArgs false
namespace Go.Proofs.Ytlfklfjnkpjooaa
open Go.RowKit Go.Sort Go.Maps Go.ChangeMaps Go.WideMaps

/-- A map's content with one entry anew. -/
def upd (f : ByteArray → Option Int) (s : ByteArray) (v : Int) : ByteArray → Option Int := fun t => if t.data = s.data then some v else f t

/-- Block b is a map of at most n entries from texts to ints: f. -/
def MapI (P : Program) (k e : TypeId) (w : World) (b n : Nat) (f : ByteArray → Option Int) : Prop :=
  ∃ D : DataW Unit, w.ownsMap P k (plainElem P e) b n D ∧ Maps.IsMap D ∧
    ∀ s : ByteArray, Maps.has D (.string s.data.toList) = (f s).isSome ∧ D.atKey (.string s.data.toList) (.lit (.int .i64 0)) = .lit (.int .i64 ((f s).getD 0))

section
variable {P : Program} {k e : TypeId} {w w' : World} {b n : Nat} {f : ByteArray → Option Int}

theorem MapI.made (w : World) : MapI P k e (w.alloc (.map #[] 0)) w.heap.size 0 (fun _ => none) :=
  ⟨.map [], World.ownsMap_made w P k _, isMap_empty, fun s => ⟨rfl, rfl⟩⟩
theorem MapI.keep (h : MapI P k e w b n f) (hb : ∀ k, k < w.heap.size → w'.heap[k]? = w.heap[k]?) : MapI P k e w' b n f := by
  obtain ⟨D, h1, h2, h3⟩ := h
  have hlt := h1.lt
  obtain ⟨es, clock, hh, F, hs, hD⟩ := h1
  exact ⟨D, ⟨es, clock, (hb b hlt).trans hh, F, hs, hD⟩, h2, h3⟩
theorem MapI.lt (h : MapI P k e w b n f) : b < w.heap.size := by
  obtain ⟨D, h1, _⟩ := h
  exact h1.lt
theorem MapI.bel (h : MapI P k e w b n f) (hb : Below w.heap.size w w') : MapI P k e w' b n f := h.keep hb.block
theorem MapI.alloc (h : MapI P k e w b n f) {o : Obj} : MapI P k e (w.alloc o) b n f := h.bel (bel_alloc (Below.refl _ _) o)
theorem MapI.drew (h : MapI P k e w b n f) : MapI P k e w.drew b n f := h

theorem wpList_lkI {ops : Array Oper} {rest : List Oper} {o : Oper} {a : Act} {Q : Exit → Act → World → Prop} (hg : o.guard = none) (m x : Operand) (t : TypeId) (hop : o.op = Op.lookup t m x false)
    (hk : P.underlying k = some .string) (ht : P.underlying t = some (.map k e)) (he : P.underlying e = some (.int .i64)) (hz : (zeroValue e).run P w = .ok (.int .i64 0) w)
    (b n : Nat) (f : ByteArray → Option Int) (s : ByteArray) (hm : a.eval m = .map (some b)) (hown : MapI P k e w b n f) (hx : a.eval x = .string s) (hs : s.size ≤ maxLen)
    (hK : wpList P ops Q rest (a.put o.dst (.int .i64 ((f s).getD 0))) w) : wpList P ops Q (o :: rest) a w := by
  obtain ⟨D, h1, h2, h3⟩ := hown
  refine wpList_lookup_own_int w hg m x t hop k e .i64 (string_keyed hk) ht he hz b n D hm h1 _ _ hx (keyOf_string_mk hk hs) fun c hc _ => ?_
  rw [(h3 s).2] at hc
  have : (f s).getD 0 = c := by injection hc with hc; injection hc
  rw [← this]; exact hK
theorem wpList_lkokI {ops : Array Oper} {rest : List Oper} {o : Oper} {a : Act} {Q : Exit → Act → World → Prop} (hg : o.guard = none) (m x : Operand) (t : TypeId) (hop : o.op = Op.lookup t m x true)
    (hk : P.underlying k = some .string) (ht : P.underlying t = some (.map k e)) (he : P.underlying e = some (.int .i64)) (hz : (zeroValue e).run P w = .ok (.int .i64 0) w)
    (b n : Nat) (f : ByteArray → Option Int) (s : ByteArray) (hm : a.eval m = .map (some b)) (hown : MapI P k e w b n f) (hx : a.eval x = .string s) (hs : s.size ≤ maxLen)
    (hK : wpList P ops Q rest (a.put o.dst (.tuple #[.int .i64 ((f s).getD 0), .bool (f s).isSome])) w) : wpList P ops Q (o :: rest) a w := by
  obtain ⟨D, h1, h2, h3⟩ := hown
  refine wpList_lookup_own_ok_int w hg m x t hop k e .i64 (string_keyed hk) ht he hz b n D hm h1 _ _ hx (keyOf_string_mk hk hs) fun c hc _ => ?_
  rw [(h3 s).2] at hc
  have : (f s).getD 0 = c := by injection hc with hc; injection hc
  rw [← this, (h3 s).1]; exact hK
theorem wpList_stI {ops : Array Oper} {rest : List Oper} {o : Oper} {a : Act} {Q : Exit → Act → World → Prop} (hg : o.guard = none) (m x v : Operand) (t : TypeId) (hop : o.op = Op.mapUpdate t m x v)
    (hk : P.underlying k = some .string) (ht : P.underlying t = some (.map k e)) (he : P.underlying e = some (.int .i64))
    (b n : Nat) (f : ByteArray → Option Int) (s : ByteArray) (i : Int) (hm : a.eval m = .map (some b)) (hown : MapI P k e w b n f) (hn : n < 1000000000) (hx : a.eval x = .string s) (hv : a.eval v = .int .i64 i)
    (hs : s.size ≤ maxLen) (hi : -9223372036854775808 ≤ i ∧ i ≤ 9223372036854775807)
    (hK : ∀ w', MapI P k e w' b (n + 1) (upd f s i) → w.grownBy w' (some b) → wpList P ops Q rest (a.put o.dst undef) w') : wpList P ops Q (o :: rest) a w := by
  obtain ⟨D, h1, h2, h3⟩ := hown
  refine wpList_mapUpdate_own w hg m x v t hop k e (string_keyed hk) ht _ b n D hm h1 (by unfold maxLen; omega) _ _ _ hx hv (keyOf_string_mk hk hs) _ [] (plainElem_int he (WalkArith.wf_i64 hi)) fun w' h4 h5 => hK w' ⟨_, h4, ?_, fun t => ?_⟩ h5
  · exact h2.put _ _
  · by_cases hts : t.data = s.data
    · have hk2 : WideAt.IsKeyLit (.string s.data.toList) := by trivial
      rw [hts, has_put_same h2 hk2, atKey_put_same h2 hk2]
      simp [upd, hts]
    · have hne : (Lit.string t.data.toList) ≠ .string s.data.toList := by
        intro h
        injection h with h
        exact hts (by have := congrArg List.toArray h; simpa using this)
      rw [has_put_other hne, atKey_put_other hne, (h3 t).1, (h3 t).2]
      simp [upd, hts]
end
end Go.Proofs.Ytlfklfjnkpjooaa
