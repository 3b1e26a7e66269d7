/- Walk over kinds.look.of. -/
import Derived.Test.YtlfklfjnkpjooaaWKinds3
import Derived.WalkKit
import Derived.WalkSpells
import Derived.WalkLawsBesides
import Derived.Deep.QuietTactic
import Derived.BigQuiet
import Derived.Deep.Draws
import Derived.Lib.Hide
import Derived.Deep.LoopGhost
import Derived.StillTailTactics
import Derived.Deep.RegionHeld3
import Derived.Deep.RegionWith
import Derived.Lib.QuietBelow
set_option linter.unusedVariables false
set_option linter.unusedSimpArgs false
namespace Go.Proofs.Ytlfklfjnkpjooaa
open Go.RowKit Go.Sort

theorem typ_12 (l : List Va) (e : Ex) (h : (e.typ l).2 = 0) : (e.typ l).1 = 1 ∨ (e.typ l).1 = 2 := by
  rw [Ex.typ_eq] at h ⊢
  split at h
  · rename_i h0
    rw [if_pos h0]
    unfold typK at h ⊢
    split at h
    · simp at h
    · rename_i h1
      rw [if_neg h1]
      unfold endK at h ⊢
      split at h
      · rename_i h2
        rw [if_pos h2]
        exact h2.2
      · simp at h
  · rename_i h0; exact absurd h h0
theorem typL_12 (l : List Va) : ∀ sub : List Ex, (Ex.typL l sub).2 = 0 → ∀ t ∈ (Ex.typL l sub).1, t = 1 ∨ t = 2
  | [], _, t, ht => by simp [Ex.typL] at ht
  | x :: r, h, t, ht => by
    simp only [Ex.typL, joinT] at h ht
    split at h
    · rename_i h0
      rw [if_pos h0] at ht
      split at h
      · rename_i h1
        rw [if_pos h1] at ht
        simp only [List.singleton_append, List.mem_cons] at ht
        rcases ht with rfl | ht
        · exact typ_12 l x h0
        · exact typL_12 l r h1 t ht
      · rename_i h1; exact absurd h h1
    · rename_i h0; exact absurd h h0

/-- What is called first: the parts' types, the name's. -/
def OfParts (e : Ex) (l : List Va) (A : Option Addr) (cap B : Nat) (Ae : Option Addr) (ce : Nat) (w : World) : Prop :=
  ∀ W, Below w.heap.size w W → Calls Try.prog 38 #[lookV l A cap B, exV e Ae ce] W fun r w' =>
      (∃ v, r = .returned (.tuple #[v, .int .i64 (Ex.typL l e.sub).2]) ∧ w'.ownsRow W.heap.size 3 1 v (Ex.typL l e.sub).1.length ((Ex.typL l e.sub).1.map (Value.int .i64))) ∧ Below W.heap.size W w'
def OfType (e : Ex) (l : List Va) (A : Option Addr) (cap B : Nat) (w : World) : Prop :=
  ∀ W, Below w.heap.size w W → Calls Try.prog 39 #[lookV l A cap B, .string e.name] W fun r w' => r = .returned (.tuple #[.int .i64 (typeOfP l e.name).1, .bool (typeOfP l e.name).2]) ∧ Below W.heap.size W w'

end Go.Proofs.Ytlfklfjnkpjooaa
