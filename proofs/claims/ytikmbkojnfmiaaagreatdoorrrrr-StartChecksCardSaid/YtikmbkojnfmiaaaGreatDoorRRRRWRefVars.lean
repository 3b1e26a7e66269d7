/- Walk over the reference's Vars. -/
import Derived.Test.YtikmbkojnfmiaaaGreatDoorRRRRBB
set_option linter.unusedVariables false
set_option linter.unusedSimpArgs false
set_option maxRecDepth 100000
namespace Go.Proofs.YtikmbkojnfmiaaaGreatDoorRRRR
open Go.RowKit Go.Sort

set_option maxHeartbeats 2000000 in
theorem refVars_any (p : Pr) (a : PrA) (w : World) (hp : PrAt w p a) (n1 : p.ins.length ≤ 1000000) (n2 : p.outs.length ≤ 1000000) (n3 : p.locals.length ≤ 1000000) :
    Calls Tryz.prog 18 #[prV p a] w fun r w' =>
      (∃ A cap, r = .returned (.slice A (varsOf p).length cap) ∧ w'.ownsRow w.heap.size 43 4 (.slice A (varsOf p).length cap) (varsOf p).length (vasC (varsOf p))) ∧ Below w.heap.size w w' := by
  have hc1 := hp.ins
  have hc2 := hp.outs
  have hc3 := hp.locals
  obtain ⟨A1, c1, A2, c2, A3, c3, A4, c4⟩ := a
  dsimp only at hc1 hc2 hc3
  unfold prV
  dsimp only
  go_enter Tryz.func18, Tryz.ntmps18
  go_wp2_with (first | (at_builtin; refine wpList_cat rfl (.tmp 4) (.tmp 6) 22 rfl (w.heap.size + 1) 43 _ 4 48 Tryz.underlying22 vainfo rfl (by omega) (.slice none 0 0) 0 [] A1 p.ins.length c1 (vasC p.ins) rfl (World.ownsRow_nil _ _ _ _) rfl (hc1.later belA).cells (vasC_one _) (by omega) (by omega) (by simp) ?_; intro v1 w1 hown1 hb1; have hbw : Below w.heap.size w w1 := (bel_alloc (Below.refl _ _) _).trans (hb1.mono (by omega)); have hz1 : w.heap.size + 1 ≤ w1.heap.size := (by have := hb1.size; simpa using this); have k2 : w1.cell? ⟨w.heap.size, 2, none⟩ = some (.slice A2 p.outs.length c2) := (by rw [hb1.cell (by simp)]; go_simp); have k3 : w1.cell? ⟨w.heap.size, 3, none⟩ = some (.slice A3 p.locals.length c3) := (by rw [hb1.cell (by simp)]; go_simp)) | (at_builtin; refine wpList_cat rfl (.tmp 8) (.tmp 10) 22 rfl (w.heap.size + 1) 43 _ 4 48 Tryz.underlying22 vainfo rfl (by omega) v1 (0 + p.ins.length) ([] ++ vasC p.ins) A2 p.outs.length c2 (vasC p.outs) rfl hown1 rfl (hc2.later hbw).cells (vasC_one _) (by omega) (by omega) hz1 ?_; intro v2 w2 hown2 hb2; have hbw2 : Below w.heap.size w w2 := hbw.trans (hb2.mono (by omega)); have hz2 : w.heap.size + 1 ≤ w2.heap.size := Nat.le_trans hz1 hb2.size; have k3' : w2.cell? ⟨w.heap.size, 3, none⟩ = some (.slice A3 p.locals.length c3) := (hb2.cell (p := ⟨w.heap.size, 3, none⟩) (by simp)).trans k3) | (at_builtin; refine wpList_cat rfl (.tmp 12) (.tmp 14) 22 rfl (w.heap.size + 1) 43 _ 4 48 Tryz.underlying22 vainfo rfl (by omega) v2 (0 + p.ins.length + p.outs.length) ([] ++ vasC p.ins ++ vasC p.outs) A3 p.locals.length c3 (vasC p.locals) rfl hown2 rfl (hc3.later hbw2).cells (vasC_one _) (by omega) (by omega) hz2 ?_; intro v3 w3 hown3 hb3))
  go_ret
  refine ⟨?_, hbw2.trans (hb3.mono (by omega))⟩
  exact vars_end hown3

end Go.Proofs.YtikmbkojnfmiaaaGreatDoorRRRR
