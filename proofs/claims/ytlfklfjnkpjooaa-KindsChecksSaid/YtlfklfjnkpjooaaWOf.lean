/- Walk over kinds.Of. -/
import Derived.Test.YtlfklfjnkpjooaaBF
import Derived.Test.YtlfklfjnkpjooaaBE
import Derived.Test.YtlfklfjnkpjooaaBI
import Derived.WalkKit
import Derived.WalkSpells
import Derived.WalkLawsBesides
import Derived.Deep.QuietTactic
import Derived.BigQuiet
import Derived.Deep.Draws
import Derived.Lib.Hide
import Derived.Deep.LoopGhost
import Derived.StillTailTactics
import Derived.Deep.RegionHeld3
import Derived.Deep.RegionWith
import Derived.Lib.QuietBelow
set_option linter.unusedVariables false
set_option linter.unusedSimpArgs false
set_option maxRecDepth 100000
namespace Go.Proofs.Ytlfklfjnkpjooaa
open Go.RowKit Go.Sort

theorem bcell_drew {W w1 : World} (hb : Below W.drew.heap.size W.drew w1) : ∀ b o, b < W.heap.size → w1.cell? ⟨b, o, none⟩ = W.cell? ⟨b, o, none⟩ := fun b o h => (hb.cell (p := ⟨b, o, none⟩) h).trans rfl

set_option maxHeartbeats 1000000 in
theorem ofF_any (e : Ex) (Ae : Option Addr) (ce : Nat) (l : List Va) (A : Option Addr) (cap : Nat) (w : World) (he : SubsAt w e Ae ce) (hl : VarsAt w l A cap) (hs : ∀ v ∈ l, v.name.size ≤ maxLen) (hn : l.length ≤ 1000000) :
    Calls Try.prog 13 #[exV e Ae ce, .slice A l.length cap] w fun r w' => r = .returned (.tuple #[.int .i64 (ofF e l).1, .int .i64 (ofF e l).2]) ∧ Below w.heap.size w w' := by
  have hright := fun W h => right_any e Ae ce W (he.later h)
  have hnames := fun W h => names_any l A cap hs hn W h
  clear hs
  by_cases hr : e.right = 0
  · have hf : e.formed = true := by
      unfold Ex.right at hr
      by_cases h1 : 120 < e.count 121
      · rw [if_pos h1] at hr; omega
      · rw [if_neg h1] at hr
        by_cases h2 : 12 < e.depth
        · rw [if_pos h2] at hr; omega
        · rw [if_neg h2] at hr
          by_cases h3 : e.formed = true
          · exact h3
          · rw [if_neg h3] at hr; omega
    have hof := fun B W h1 h2 => of_any e hf l A cap B l.length Ae ce W h1 h2
    have hv : ofF e l = e.typ l := by unfold ofF; rw [if_neg (by omega)]
    have h1 : (e.right != 0) = false := by simpa using hr
    clear hr hf
    have HV := Lib.hid hv; clear hv
    unfold exV lookV at *
    go_enter Try.func13, Try.ntmps13
    go_wp2_with (first | (go_at_call 24; refine (hright _ (by repeat (first | exact Below.refl _ _ | (with_reducible assumption) | refine bel_trans ?_ (by with_reducible assumption) | refine bel_trans ?_ (below_regrown _ _ _) | refine bel_drew ?_ | refine bel_drewN ?_ _ | refine bel_alloc ?_ _ | refine bel_grow ?_ (by with_reducible assumption) (by omega)))).mono ?_; rintro r w1 ⟨rfl, hb1⟩; have hc1 := bcell hb1; have hz1 := hb1.size; (try simp at hz1); (try have hy1 : w.heap.size < w1.heap.size := by omega); (try have hy2 : w.heap.size + 1 < w1.heap.size := by omega); (try have hy3 : w.heap.size + 2 < w1.heap.size := by omega); (try have hy4 : wr.heap.size < w1.heap.size := by omega); (try have hy5 : wr.heap.size + 1 < w1.heap.size := by omega)))
    go_region_with (first | (go_at_call 17; go_loud (refine (hnames _ (hl.later (by repeat (first | exact Below.refl _ _ | (with_reducible assumption) | refine bel_trans ?_ (by with_reducible assumption) | refine bel_trans ?_ (below_regrown _ _ _) | refine bel_drew ?_ | refine bel_drewN ?_ _ | refine bel_alloc ?_ _ | refine bel_grow ?_ (by with_reducible assumption) (by omega))))).mono ?_; rintro r wb ⟨⟨B, rfl, hB, hmap⟩, hbb⟩; have hcb : ∀ b o, b < w1.heap.size → wb.cell? ⟨b, o, none⟩ = w1.cell? ⟨b, o, none⟩ := bcell_drew hbb; have hzb : w1.heap.size ≤ wb.heap.size := hbb.size; have hyb : w.heap.size < wb.heap.size := (by omega))) | (go_at_call 25; refine (hof _ _ (he.later (by repeat (first | exact Below.refl _ _ | (with_reducible assumption) | refine bel_trans ?_ (by with_reducible assumption) | refine bel_trans ?_ (below_regrown _ _ _) | refine bel_drew ?_ | refine bel_drewN ?_ _ | refine bel_alloc ?_ _ | refine bel_grow ?_ (by with_reducible assumption) (by omega)))) ⟨hl.later (by repeat (first | exact Below.refl _ _ | (with_reducible assumption) | refine bel_trans ?_ (by with_reducible assumption) | refine bel_trans ?_ (below_regrown _ _ _) | refine bel_drew ?_ | refine bel_drewN ?_ _ | refine bel_alloc ?_ _ | refine bel_grow ?_ (by with_reducible assumption) (by omega))), (by repeat (first | (with_reducible assumption) | refine MapI.alloc ?_ | refine MapI.bel ?_ (by with_reducible assumption) | refine MapI.drew ?_))⟩).mono ?_; rintro r wc ⟨rfl, hbc⟩))
    all_goals
      go_wp2_with fail
      go_ret2
      exact ⟨by rw [HV.out]; rfl, (by repeat (first | exact Below.refl _ _ | (with_reducible assumption) | refine bel_trans ?_ (by with_reducible assumption) | refine bel_trans ?_ (below_regrown _ _ _) | refine bel_drew ?_ | refine bel_drewN ?_ _ | refine bel_alloc ?_ _ | refine bel_grow ?_ (by with_reducible assumption) (by omega)))⟩
  · have hv : ofF e l = (0, e.right) := by unfold ofF; rw [if_pos hr]
    have h1 : (e.right != 0) = true := by simpa using hr
    clear hr
    have HV := Lib.hid hv; clear hv
    unfold exV at *
    go_enter Try.func13, Try.ntmps13
    go_wp2_with (first | (go_at_call 24; refine (hright _ (by repeat (first | exact Below.refl _ _ | (with_reducible assumption) | refine bel_trans ?_ (by with_reducible assumption) | refine bel_trans ?_ (below_regrown _ _ _) | refine bel_drew ?_ | refine bel_drewN ?_ _ | refine bel_alloc ?_ _ | refine bel_grow ?_ (by with_reducible assumption) (by omega)))).mono ?_; rintro r w1 ⟨rfl, hb1⟩; have hc1 := bcell hb1; have hz1 := hb1.size; (try simp at hz1); (try have hy1 : w.heap.size < w1.heap.size := by omega); (try have hy2 : w.heap.size + 1 < w1.heap.size := by omega); (try have hy3 : w.heap.size + 2 < w1.heap.size := by omega); (try have hy4 : wr.heap.size < w1.heap.size := by omega); (try have hy5 : wr.heap.size + 1 < w1.heap.size := by omega)))
    go_ret2
    exact ⟨by rw [HV.out]; rfl, (by repeat (first | exact Below.refl _ _ | (with_reducible assumption) | refine bel_trans ?_ (by with_reducible assumption) | refine bel_trans ?_ (below_regrown _ _ _) | refine bel_drew ?_ | refine bel_drewN ?_ _ | refine bel_alloc ?_ _ | refine bel_grow ?_ (by with_reducible assumption) (by omega)))⟩

end Go.Proofs.Ytlfklfjnkpjooaa
