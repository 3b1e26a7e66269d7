/- Walks over the package tree: Right, literal, variable. -/
import Derived.Test.YtlfklfjnkpjooaaWTree4
import Derived.WalkKit
import Derived.WalkSpells
import Derived.WalkLawsBesides
import Derived.Deep.QuietTactic
import Derived.BigQuiet
import Derived.Deep.Draws
import Derived.Lib.Hide
import Derived.Deep.LoopGhost
import Derived.StillTailTactics
import Derived.Deep.RegionHeld3
import Derived.Deep.RegionWith
import Derived.Lib.QuietBelow
set_option linter.unusedVariables false
set_option linter.unusedSimpArgs false
namespace Go.Proofs.Ytlfklfjnkpjooaa
open Go.RowKit Go.Sort

set_option maxHeartbeats 400000 in
theorem right_any (e : Ex) (A : Option Addr) (cap : Nat) (w : World) (he : SubsAt w e A cap) :
    Calls Try.prog 24 #[exV e A cap] w fun r w' => r = .returned (.int .i64 e.right) ∧ Below w.heap.size w w' := by
  have hv : e.right = if 120 < e.count 121 then 3 else if 12 < e.depth then 17 else if e.formed then 0 else 4 := rfl
  have hcount := fun W h => count_any e A cap 121 W (he.later h) (by omega) (by omega)
  by_cases h1 : 120 < e.count 121
  · rw [if_pos h1] at hv
    have HV := Lib.hid hv; clear hv
    unfold exV at hcount ⊢
    go_enter Try.func24, Try.ntmps24
    go_wp2_with (first | (go_at_call 35; refine (hcount _ (by repeat (first | exact Below.refl _ _ | (with_reducible assumption) | refine bel_trans ?_ (by with_reducible assumption) | refine bel_trans ?_ (below_regrown _ _ _) | refine bel_drew ?_ | refine bel_drewN ?_ _ | refine bel_alloc ?_ _ | refine bel_grow ?_ (by with_reducible assumption) (by omega)))).mono ?_; rintro r w1 ⟨rfl, hb1⟩; have hc1 := bcell hb1; have hz1 := hb1.size; (try simp at hz1); (try have hy1 : w.heap.size < w1.heap.size := by omega); (try have hy2 : w.heap.size + 1 < w1.heap.size := by omega); (try have hy3 : w.heap.size + 2 < w1.heap.size := by omega); (try have hy4 : wr.heap.size < w1.heap.size := by omega); (try have hy5 : wr.heap.size + 1 < w1.heap.size := by omega)))
    go_ret
    exact ⟨ret_int HV.out.symm, (by repeat (first | exact Below.refl _ _ | (with_reducible assumption) | refine bel_trans ?_ (by with_reducible assumption) | refine bel_trans ?_ (below_regrown _ _ _) | refine bel_drew ?_ | refine bel_drewN ?_ _ | refine bel_alloc ?_ _ | refine bel_grow ?_ (by with_reducible assumption) (by omega)))⟩
  rw [if_neg h1] at hv
  have hsz := Ex.count_size e 121 (by omega)
  have hdepth := fun W h => depth_any e A cap W (he.later h) (by omega)
  clear hsz
  by_cases h2 : 12 < e.depth
  · rw [if_pos h2] at hv
    have HV := Lib.hid hv; clear hv
    unfold exV at hcount hdepth ⊢
    go_enter Try.func24, Try.ntmps24
    go_wp2_with (first | (go_at_call 35; refine (hcount _ (by repeat (first | exact Below.refl _ _ | (with_reducible assumption) | refine bel_trans ?_ (by with_reducible assumption) | refine bel_trans ?_ (below_regrown _ _ _) | refine bel_drew ?_ | refine bel_drewN ?_ _ | refine bel_alloc ?_ _ | refine bel_grow ?_ (by with_reducible assumption) (by omega)))).mono ?_; rintro r w1 ⟨rfl, hb1⟩; have hc1 := bcell hb1; have hz1 := hb1.size; (try simp at hz1); (try have hy1 : w.heap.size < w1.heap.size := by omega); (try have hy2 : w.heap.size + 1 < w1.heap.size := by omega); (try have hy3 : w.heap.size + 2 < w1.heap.size := by omega); (try have hy4 : wr.heap.size < w1.heap.size := by omega); (try have hy5 : wr.heap.size + 1 < w1.heap.size := by omega)) | (go_at_call 36; refine (hdepth _ (by repeat (first | exact Below.refl _ _ | (with_reducible assumption) | refine bel_trans ?_ (by with_reducible assumption) | refine bel_trans ?_ (below_regrown _ _ _) | refine bel_drew ?_ | refine bel_drewN ?_ _ | refine bel_alloc ?_ _ | refine bel_grow ?_ (by with_reducible assumption) (by omega)))).mono ?_; rintro r w1 ⟨rfl, hb1⟩; have hc1 := bcell hb1; have hz1 := hb1.size; (try simp at hz1); (try have hy1 : w.heap.size < w1.heap.size := by omega); (try have hy2 : w.heap.size + 1 < w1.heap.size := by omega); (try have hy3 : w.heap.size + 2 < w1.heap.size := by omega); (try have hy4 : wr.heap.size < w1.heap.size := by omega); (try have hy5 : wr.heap.size + 1 < w1.heap.size := by omega)))
    go_ret
    exact ⟨ret_int HV.out.symm, (by repeat (first | exact Below.refl _ _ | (with_reducible assumption) | refine bel_trans ?_ (by with_reducible assumption) | refine bel_trans ?_ (below_regrown _ _ _) | refine bel_drew ?_ | refine bel_drewN ?_ _ | refine bel_alloc ?_ _ | refine bel_grow ?_ (by with_reducible assumption) (by omega)))⟩
  rw [if_neg h2] at hv
  have hformed := fun W h => formed_any e A cap W (he.later h)
  cases h3 : e.formed
  · rw [h3, if_neg (by simp)] at hv
    have HV := Lib.hid hv; clear hv
    unfold exV at hcount hdepth hformed ⊢
    go_enter Try.func24, Try.ntmps24
    go_wp2_with (first | (go_at_call 35; refine (hcount _ (by repeat (first | exact Below.refl _ _ | (with_reducible assumption) | refine bel_trans ?_ (by with_reducible assumption) | refine bel_trans ?_ (below_regrown _ _ _) | refine bel_drew ?_ | refine bel_drewN ?_ _ | refine bel_alloc ?_ _ | refine bel_grow ?_ (by with_reducible assumption) (by omega)))).mono ?_; rintro r w1 ⟨rfl, hb1⟩; have hc1 := bcell hb1; have hz1 := hb1.size; (try simp at hz1); (try have hy1 : w.heap.size < w1.heap.size := by omega); (try have hy2 : w.heap.size + 1 < w1.heap.size := by omega); (try have hy3 : w.heap.size + 2 < w1.heap.size := by omega); (try have hy4 : wr.heap.size < w1.heap.size := by omega); (try have hy5 : wr.heap.size + 1 < w1.heap.size := by omega)) | (go_at_call 36; refine (hdepth _ (by repeat (first | exact Below.refl _ _ | (with_reducible assumption) | refine bel_trans ?_ (by with_reducible assumption) | refine bel_trans ?_ (below_regrown _ _ _) | refine bel_drew ?_ | refine bel_drewN ?_ _ | refine bel_alloc ?_ _ | refine bel_grow ?_ (by with_reducible assumption) (by omega)))).mono ?_; rintro r w1 ⟨rfl, hb1⟩; have hc1 := bcell hb1; have hz1 := hb1.size; (try simp at hz1); (try have hy1 : w.heap.size < w1.heap.size := by omega); (try have hy2 : w.heap.size + 1 < w1.heap.size := by omega); (try have hy3 : w.heap.size + 2 < w1.heap.size := by omega); (try have hy4 : wr.heap.size < w1.heap.size := by omega); (try have hy5 : wr.heap.size + 1 < w1.heap.size := by omega)) | (go_at_call 37; refine (hformed _ (by repeat (first | exact Below.refl _ _ | (with_reducible assumption) | refine bel_trans ?_ (by with_reducible assumption) | refine bel_trans ?_ (below_regrown _ _ _) | refine bel_drew ?_ | refine bel_drewN ?_ _ | refine bel_alloc ?_ _ | refine bel_grow ?_ (by with_reducible assumption) (by omega)))).mono ?_; rintro r w1 ⟨rfl, hb1⟩; have hc1 := bcell hb1; have hz1 := hb1.size; (try simp at hz1); (try have hy1 : w.heap.size < w1.heap.size := by omega); (try have hy2 : w.heap.size + 1 < w1.heap.size := by omega); (try have hy3 : w.heap.size + 2 < w1.heap.size := by omega); (try have hy4 : wr.heap.size < w1.heap.size := by omega); (try have hy5 : wr.heap.size + 1 < w1.heap.size := by omega)))
    go_ret
    exact ⟨ret_int HV.out.symm, (by repeat (first | exact Below.refl _ _ | (with_reducible assumption) | refine bel_trans ?_ (by with_reducible assumption) | refine bel_trans ?_ (below_regrown _ _ _) | refine bel_drew ?_ | refine bel_drewN ?_ _ | refine bel_alloc ?_ _ | refine bel_grow ?_ (by with_reducible assumption) (by omega)))⟩
  · rw [h3, if_pos rfl] at hv
    have HV := Lib.hid hv; clear hv
    unfold exV at hcount hdepth hformed ⊢
    go_enter Try.func24, Try.ntmps24
    go_wp2_with (first | (go_at_call 35; refine (hcount _ (by repeat (first | exact Below.refl _ _ | (with_reducible assumption) | refine bel_trans ?_ (by with_reducible assumption) | refine bel_trans ?_ (below_regrown _ _ _) | refine bel_drew ?_ | refine bel_drewN ?_ _ | refine bel_alloc ?_ _ | refine bel_grow ?_ (by with_reducible assumption) (by omega)))).mono ?_; rintro r w1 ⟨rfl, hb1⟩; have hc1 := bcell hb1; have hz1 := hb1.size; (try simp at hz1); (try have hy1 : w.heap.size < w1.heap.size := by omega); (try have hy2 : w.heap.size + 1 < w1.heap.size := by omega); (try have hy3 : w.heap.size + 2 < w1.heap.size := by omega); (try have hy4 : wr.heap.size < w1.heap.size := by omega); (try have hy5 : wr.heap.size + 1 < w1.heap.size := by omega)) | (go_at_call 36; refine (hdepth _ (by repeat (first | exact Below.refl _ _ | (with_reducible assumption) | refine bel_trans ?_ (by with_reducible assumption) | refine bel_trans ?_ (below_regrown _ _ _) | refine bel_drew ?_ | refine bel_drewN ?_ _ | refine bel_alloc ?_ _ | refine bel_grow ?_ (by with_reducible assumption) (by omega)))).mono ?_; rintro r w1 ⟨rfl, hb1⟩; have hc1 := bcell hb1; have hz1 := hb1.size; (try simp at hz1); (try have hy1 : w.heap.size < w1.heap.size := by omega); (try have hy2 : w.heap.size + 1 < w1.heap.size := by omega); (try have hy3 : w.heap.size + 2 < w1.heap.size := by omega); (try have hy4 : wr.heap.size < w1.heap.size := by omega); (try have hy5 : wr.heap.size + 1 < w1.heap.size := by omega)) | (go_at_call 37; refine (hformed _ (by repeat (first | exact Below.refl _ _ | (with_reducible assumption) | refine bel_trans ?_ (by with_reducible assumption) | refine bel_trans ?_ (below_regrown _ _ _) | refine bel_drew ?_ | refine bel_drewN ?_ _ | refine bel_alloc ?_ _ | refine bel_grow ?_ (by with_reducible assumption) (by omega)))).mono ?_; rintro r w1 ⟨rfl, hb1⟩; have hc1 := bcell hb1; have hz1 := hb1.size; (try simp at hz1); (try have hy1 : w.heap.size < w1.heap.size := by omega); (try have hy2 : w.heap.size + 1 < w1.heap.size := by omega); (try have hy3 : w.heap.size + 2 < w1.heap.size := by omega); (try have hy4 : wr.heap.size < w1.heap.size := by omega); (try have hy5 : wr.heap.size + 1 < w1.heap.size := by omega)))
    go_ret
    exact ⟨ret_int HV.out.symm, (by repeat (first | exact Below.refl _ _ | (with_reducible assumption) | refine bel_trans ?_ (by with_reducible assumption) | refine bel_trans ?_ (below_regrown _ _ _) | refine bel_drew ?_ | refine bel_drewN ?_ _ | refine bel_alloc ?_ _ | refine bel_grow ?_ (by with_reducible assumption) (by omega)))⟩

end Go.Proofs.Ytlfklfjnkpjooaa
