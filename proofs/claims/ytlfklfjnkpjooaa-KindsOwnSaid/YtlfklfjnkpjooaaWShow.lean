/- Walks over the package tree: markOf, part, show. -/
import Derived.Test.YtlfklfjnkpjooaaRep2
import Derived.Test.YtlfklfjnkpjooaaPlain3
import Derived.Test.YtlfklfjnkpjooaaWTree5
import Derived.WalkKit
import Derived.WalkSpells
import Derived.WalkLawsBesides
import Derived.Deep.QuietTactic
import Derived.BigQuiet
import Derived.Deep.Draws
import Derived.Lib.Hide
import Derived.Deep.LoopGhost
import Derived.StillTailTactics
import Derived.Deep.RegionHeld3
import Derived.Deep.RegionWith
import Derived.Lib.QuietBelow
set_option linter.unusedVariables false
set_option linter.unusedSimpArgs false
namespace Go.Proofs.Ytlfklfjnkpjooaa
open Go.RowKit Go.Sort

theorem strinfo : (Try.prog.info? 9).map (fun i => (i.zero, i.size, i.bytes)) = some (some (.string ⟨#[]⟩), 1, 16) := by kernel_rfl

set_option maxHeartbeats 1000000 in
theorem mark_any (n : Int) (w : World) : Calls Try.prog 47 #[.int .i32 n] w fun r w' => r = .returned (.string (markB n)) ∧ w = w' := by
  go_enter Try.func47, Try.ntmps47
  go_wp2_with fail
  all_goals (go_ret; exact ⟨ret_str (by simp_all [markB]), rfl⟩)

set_option maxHeartbeats 1000000 in
theorem part_of {e : Ex} (hs : e.showB.size ≤ 100000000) {A : Option Addr} {cap : Nat} {w : World} (he : SubsAt w e A cap)
    (hshow : ∀ W, SubsAt W e A cap → Calls Try.prog 29 #[exV e A cap] W fun r w' => r = .returned (.string e.showB) ∧ Below W.heap.size W w') :
    Calls Try.prog 45 #[exV e A cap] w fun r w' => r = .returned (.string e.partB) ∧ Below w.heap.size w w' := by
  have hl := he.len
  unfold maxLen at hl
  have hv : e.partB = brk e.kind e.showB := rfl
  unfold brk at hv
  have hcall := fun W h => hshow W (he.later h)
  unfold exV at hcall ⊢
  by_cases hk : e.kind = 1 ∨ e.kind = 2 ∨ e.kind = 3 ∨ e.kind = 8 ∨ e.kind = 9
  · rw [if_pos hk] at hv
    have HV := Lib.hid hv; clear hv
    rcases hk with hk | hk | hk | hk | hk
    · have k1 : (e.kind == 1) = true := by rw [hk]; rfl
      clear hk
      go_enter Try.func45, Try.ntmps45
      go_wp2_with (first | (go_at_call 29; refine (hcall _ (by repeat (first | exact Below.refl _ _ | (with_reducible assumption) | refine bel_trans ?_ (by with_reducible assumption) | refine bel_trans ?_ (below_regrown _ _ _) | refine bel_drew ?_ | refine bel_drewN ?_ _ | refine bel_alloc ?_ _ | refine bel_grow ?_ (by with_reducible assumption) (by omega)))).mono ?_; rintro r w1 ⟨rfl, hb1⟩; have hc1 := bcell hb1; have hz1 := hb1.size; (try simp at hz1); (try have hy1 : w.heap.size < w1.heap.size := by omega); (try have hy2 : w.heap.size + 1 < w1.heap.size := by omega); (try have hy3 : w.heap.size + 2 < w1.heap.size := by omega); (try have hy4 : wr.heap.size < w1.heap.size := by omega); (try have hy5 : wr.heap.size + 1 < w1.heap.size := by omega)))
      go_ret
      exact ⟨ret_str HV.out.symm, (by repeat (first | exact Below.refl _ _ | (with_reducible assumption) | refine bel_trans ?_ (by with_reducible assumption) | refine bel_trans ?_ (below_regrown _ _ _) | refine bel_drew ?_ | refine bel_drewN ?_ _ | refine bel_alloc ?_ _ | refine bel_grow ?_ (by with_reducible assumption) (by omega)))⟩
    · have k1 : (e.kind == 1) = false := by rw [hk]; rfl
      have k2 : (e.kind == 2) = true := by rw [hk]; rfl
      clear hk
      go_enter Try.func45, Try.ntmps45
      go_wp2_with (first | (go_at_call 29; refine (hcall _ (by repeat (first | exact Below.refl _ _ | (with_reducible assumption) | refine bel_trans ?_ (by with_reducible assumption) | refine bel_trans ?_ (below_regrown _ _ _) | refine bel_drew ?_ | refine bel_drewN ?_ _ | refine bel_alloc ?_ _ | refine bel_grow ?_ (by with_reducible assumption) (by omega)))).mono ?_; rintro r w1 ⟨rfl, hb1⟩; have hc1 := bcell hb1; have hz1 := hb1.size; (try simp at hz1); (try have hy1 : w.heap.size < w1.heap.size := by omega); (try have hy2 : w.heap.size + 1 < w1.heap.size := by omega); (try have hy3 : w.heap.size + 2 < w1.heap.size := by omega); (try have hy4 : wr.heap.size < w1.heap.size := by omega); (try have hy5 : wr.heap.size + 1 < w1.heap.size := by omega)))
      go_ret
      exact ⟨ret_str HV.out.symm, (by repeat (first | exact Below.refl _ _ | (with_reducible assumption) | refine bel_trans ?_ (by with_reducible assumption) | refine bel_trans ?_ (below_regrown _ _ _) | refine bel_drew ?_ | refine bel_drewN ?_ _ | refine bel_alloc ?_ _ | refine bel_grow ?_ (by with_reducible assumption) (by omega)))⟩
    · have k1 : (e.kind == 1) = false := by rw [hk]; rfl
      have k2 : (e.kind == 2) = false := by rw [hk]; rfl
      have k3 : (e.kind == 3) = true := by rw [hk]; rfl
      clear hk
      go_enter Try.func45, Try.ntmps45
      go_wp2_with (first | (go_at_call 29; refine (hcall _ (by repeat (first | exact Below.refl _ _ | (with_reducible assumption) | refine bel_trans ?_ (by with_reducible assumption) | refine bel_trans ?_ (below_regrown _ _ _) | refine bel_drew ?_ | refine bel_drewN ?_ _ | refine bel_alloc ?_ _ | refine bel_grow ?_ (by with_reducible assumption) (by omega)))).mono ?_; rintro r w1 ⟨rfl, hb1⟩; have hc1 := bcell hb1; have hz1 := hb1.size; (try simp at hz1); (try have hy1 : w.heap.size < w1.heap.size := by omega); (try have hy2 : w.heap.size + 1 < w1.heap.size := by omega); (try have hy3 : w.heap.size + 2 < w1.heap.size := by omega); (try have hy4 : wr.heap.size < w1.heap.size := by omega); (try have hy5 : wr.heap.size + 1 < w1.heap.size := by omega)))
      go_ret
      exact ⟨ret_str HV.out.symm, (by repeat (first | exact Below.refl _ _ | (with_reducible assumption) | refine bel_trans ?_ (by with_reducible assumption) | refine bel_trans ?_ (below_regrown _ _ _) | refine bel_drew ?_ | refine bel_drewN ?_ _ | refine bel_alloc ?_ _ | refine bel_grow ?_ (by with_reducible assumption) (by omega)))⟩
    · have k1 : (e.kind == 1) = false := by rw [hk]; rfl
      have k2 : (e.kind == 2) = false := by rw [hk]; rfl
      have k3 : (e.kind == 3) = false := by rw [hk]; rfl
      have k8 : (e.kind == 8) = true := by rw [hk]; rfl
      clear hk
      go_enter Try.func45, Try.ntmps45
      go_wp2_with (first | (go_at_call 29; refine (hcall _ (by repeat (first | exact Below.refl _ _ | (with_reducible assumption) | refine bel_trans ?_ (by with_reducible assumption) | refine bel_trans ?_ (below_regrown _ _ _) | refine bel_drew ?_ | refine bel_drewN ?_ _ | refine bel_alloc ?_ _ | refine bel_grow ?_ (by with_reducible assumption) (by omega)))).mono ?_; rintro r w1 ⟨rfl, hb1⟩; have hc1 := bcell hb1; have hz1 := hb1.size; (try simp at hz1); (try have hy1 : w.heap.size < w1.heap.size := by omega); (try have hy2 : w.heap.size + 1 < w1.heap.size := by omega); (try have hy3 : w.heap.size + 2 < w1.heap.size := by omega); (try have hy4 : wr.heap.size < w1.heap.size := by omega); (try have hy5 : wr.heap.size + 1 < w1.heap.size := by omega)))
      go_ret
      exact ⟨ret_str HV.out.symm, (by repeat (first | exact Below.refl _ _ | (with_reducible assumption) | refine bel_trans ?_ (by with_reducible assumption) | refine bel_trans ?_ (below_regrown _ _ _) | refine bel_drew ?_ | refine bel_drewN ?_ _ | refine bel_alloc ?_ _ | refine bel_grow ?_ (by with_reducible assumption) (by omega)))⟩
    · have k1 : (e.kind == 1) = false := by rw [hk]; rfl
      have k2 : (e.kind == 2) = false := by rw [hk]; rfl
      have k3 : (e.kind == 3) = false := by rw [hk]; rfl
      have k8 : (e.kind == 8) = false := by rw [hk]; rfl
      have k9 : (e.kind == 9) = true := by rw [hk]; rfl
      clear hk
      go_enter Try.func45, Try.ntmps45
      go_wp2_with (first | (go_at_call 29; refine (hcall _ (by repeat (first | exact Below.refl _ _ | (with_reducible assumption) | refine bel_trans ?_ (by with_reducible assumption) | refine bel_trans ?_ (below_regrown _ _ _) | refine bel_drew ?_ | refine bel_drewN ?_ _ | refine bel_alloc ?_ _ | refine bel_grow ?_ (by with_reducible assumption) (by omega)))).mono ?_; rintro r w1 ⟨rfl, hb1⟩; have hc1 := bcell hb1; have hz1 := hb1.size; (try simp at hz1); (try have hy1 : w.heap.size < w1.heap.size := by omega); (try have hy2 : w.heap.size + 1 < w1.heap.size := by omega); (try have hy3 : w.heap.size + 2 < w1.heap.size := by omega); (try have hy4 : wr.heap.size < w1.heap.size := by omega); (try have hy5 : wr.heap.size + 1 < w1.heap.size := by omega)))
      go_ret
      exact ⟨ret_str HV.out.symm, (by repeat (first | exact Below.refl _ _ | (with_reducible assumption) | refine bel_trans ?_ (by with_reducible assumption) | refine bel_trans ?_ (below_regrown _ _ _) | refine bel_drew ?_ | refine bel_drewN ?_ _ | refine bel_alloc ?_ _ | refine bel_grow ?_ (by with_reducible assumption) (by omega)))⟩
  · rw [if_neg hk] at hv
    have HV := Lib.hid hv; clear hv
    have k1 : (e.kind == 1) = false := by simp; omega
    have k2 : (e.kind == 2) = false := by simp; omega
    have k3 : (e.kind == 3) = false := by simp; omega
    have k8 : (e.kind == 8) = false := by simp; omega
    have k9 : (e.kind == 9) = false := by simp; omega
    go_enter Try.func45, Try.ntmps45
    go_wp2_with (first | (go_at_call 29; refine (hcall _ (by repeat (first | exact Below.refl _ _ | (with_reducible assumption) | refine bel_trans ?_ (by with_reducible assumption) | refine bel_trans ?_ (below_regrown _ _ _) | refine bel_drew ?_ | refine bel_drewN ?_ _ | refine bel_alloc ?_ _ | refine bel_grow ?_ (by with_reducible assumption) (by omega)))).mono ?_; rintro r w1 ⟨rfl, hb1⟩; have hc1 := bcell hb1; have hz1 := hb1.size; (try simp at hz1); (try have hy1 : w.heap.size < w1.heap.size := by omega); (try have hy2 : w.heap.size + 1 < w1.heap.size := by omega); (try have hy3 : w.heap.size + 2 < w1.heap.size := by omega); (try have hy4 : wr.heap.size < w1.heap.size := by omega); (try have hy5 : wr.heap.size + 1 < w1.heap.size := by omega)))
    go_ret
    exact ⟨ret_str HV.out.symm, (by repeat (first | exact Below.refl _ _ | (with_reducible assumption) | refine bel_trans ?_ (by with_reducible assumption) | refine bel_trans ?_ (below_regrown _ _ _) | refine bel_drew ?_ | refine bel_drewN ?_ _ | refine bel_alloc ?_ _ | refine bel_grow ?_ (by with_reducible assumption) (by omega)))⟩

end Go.Proofs.Ytlfklfjnkpjooaa
