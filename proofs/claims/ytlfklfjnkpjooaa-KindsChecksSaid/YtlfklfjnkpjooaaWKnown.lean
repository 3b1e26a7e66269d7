/- Walk over the fixed calls (known). -/
import Derived.Test.YtlfklfjnkpjooaaWOf
import Derived.Test.YtlfklfjnkpjooaaBF
import Derived.WalkKit
import Derived.WalkSpells
import Derived.WalkLawsBesides
import Derived.Deep.QuietTactic
import Derived.BigQuiet
import Derived.Deep.Draws
import Derived.Lib.Hide
import Derived.Deep.LoopGhost
import Derived.StillTailTactics
import Derived.Deep.RegionHeld3
import Derived.Deep.RegionWith
import Derived.Lib.QuietBelow
set_option linter.unusedVariables false
set_option linter.unusedSimpArgs false
set_option maxRecDepth 100000
namespace Go.Proofs.Ytlfklfjnkpjooaa
open Go.RowKit Go.Sort

def oneE : Ex := .mk 1 1 ⟨#[]⟩ []
def addE : Ex := .mk 5 1 ⟨#[]⟩ [xE, oneE]
def xVar : Va := ⟨⟨#[120]⟩, 1, 0, ⟨#[]⟩⟩
theorem known_add : ofF addE [xVar] = (1, 0) := by decide +kernel
theorem known_x : (ofF xE []).2 = 19 := by decide +kernel

theorem subs_add {W : World} {b : Nat} (c0 : W.cell? ⟨b, 0, none⟩ = some (.int .i64 3)) (c1 : W.cell? ⟨b, 1, none⟩ = some (.int .i32 0)) (c2 : W.cell? ⟨b, 2, none⟩ = some (.string ⟨#[120]⟩)) (c3 : W.cell? ⟨b, 3, none⟩ = some (.slice none 0 0))
    (c4 : W.cell? ⟨b, 4, none⟩ = some (.int .i64 1)) (c5 : W.cell? ⟨b, 5, none⟩ = some (.int .i32 1)) (c6 : W.cell? ⟨b, 6, none⟩ = some (.string ⟨#[]⟩)) (c7 : W.cell? ⟨b, 7, none⟩ = some (.slice none 0 0)) : SubsAt W addE (some ⟨b, 0, none⟩) 2 := by
  unfold addE
  rw [SubsAt_iff]
  refine ⟨Nat.le_refl _, by unfold maxLen; omega, fun _ => ⟨b, 0, rfl, ?_⟩⟩
  simp only [Ex.sub, RowAt]
  exact ⟨⟨none, 0, c0, c1, c2, c3, subs_nil _ _ _ _⟩, ⟨none, 0, c4, c5, c6, c7, subs_nil _ _ _ _⟩, trivial⟩
theorem vars_x {W : World} {b : Nat} (c0 : W.cell? ⟨b, 0, none⟩ = some (.string ⟨#[120]⟩)) (c1 : W.cell? ⟨b, 1, none⟩ = some (.int .i64 1)) (c2 : W.cell? ⟨b, 2, none⟩ = some (.int .i64 0)) (c3 : W.cell? ⟨b, 3, none⟩ = some (.string ⟨#[]⟩)) : VarsAt W [xVar] (some ⟨b, 0, none⟩) 1 := by
  refine ⟨Nat.le_refl _, by unfold maxLen; omega, fun _ => ⟨b, 0, rfl, fun k v hk => ?_⟩⟩
  cases k with
  | zero => obtain rfl : xVar = v := by simpa using hk
            exact ⟨c0, c1, c2, c3⟩
  | succ k => simp at hk

theorem x_short : ∀ v ∈ [xVar], v.name.size ≤ maxLen := by
  intro v hv
  obtain rfl : v = xVar := by simpa using hv
  exact Nat.le_trans (show _ ≤ 1 by decide) (by unfold maxLen; omega)

set_option maxHeartbeats 1000000 in
theorem known_any (w : World) : Calls Try.prog 6 #[] w fun r w' => r = .returned (.bool true) ∧ Below w.heap.size w w' := by
  have h1 := fun Ae A W he hl => ofF_any addE Ae 2 [xVar] A 1 W he hl x_short (by simp)
  have h2 := fun W => ofF_any xE none 0 [] none 0 W (subs_nil W _ _ _) (vars_nil W) (by simp) (by simp)
  have h3 := fun W => check_any zeroPr _ W (pr_zero W) (by simp [zeroPr]) (by simp [zeroPr]) (by simp [zeroPr]) (by simp [zeroPr])
  rw [known_add] at h1
  rw [known_x] at h2
  rw [known_zero] at h3
  unfold exV at h1 h2
  unfold prV fV at h3
  generalize (ofF xE []).1 = tx at h2
  dsimp only [addE, xE, oneE, xVar, zeroPr, Ex.kind, Ex.n, Ex.name, Ex.sub, List.length_cons, List.length_nil] at h1 h2 h3
  go_enter Try.func6, Try.ntmps6
  have hfd : ∀ w : World, (Instr.field 36 (.agg #[.int .i64 4, .int .i64 0, .int .i64 4]) 2).run Try.prog w = .ok (.int .i64 4) w := fun _ => by kernel_rfl
  go_wp2_with (first
    | (go_at_call_of 13 (Value.int IntKind.i64 5); refine (h1 _ _ _ (subs_add (by go_simp) (by go_simp) (by go_simp) (by go_simp) (by go_simp) (by go_simp) (by go_simp) (by go_simp)) (vars_x (by go_simp) (by go_simp) (by go_simp) (by go_simp))).mono ?_; rintro r w1 ⟨rfl, hb1⟩; have hc1 := bcell hb1; clear h1)
    | (go_at_call_of 13 (Value.int IntKind.i64 3); refine (h2 _).mono ?_; rintro r w2 ⟨rfl, hb2⟩; clear h2)
    | (go_at_call 10; refine (h3 _).mono ?_; rintro r w3 ⟨rfl, hb3⟩))
  go_ret
  exact ⟨rfl, (by repeat (first | exact Below.refl _ _ | (with_reducible assumption) | refine bel_trans ?_ (by with_reducible assumption) | refine bel_trans ?_ (below_regrown _ _ _) | refine bel_drew ?_ | refine bel_drewN ?_ _ | refine bel_alloc ?_ _ | refine bel_grow ?_ (by with_reducible assumption) (by omega)))⟩

end Go.Proofs.Ytlfklfjnkpjooaa
