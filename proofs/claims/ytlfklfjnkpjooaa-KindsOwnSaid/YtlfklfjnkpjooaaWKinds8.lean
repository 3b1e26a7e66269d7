/- Walk over kinds.Check: programs that can be. -/
import Derived.Test.YtlfklfjnkpjooaaWKinds7
import Derived.WalkKit
import Derived.WalkSpells
import Derived.WalkLawsBesides
import Derived.Deep.QuietTactic
import Derived.BigQuiet
import Derived.Deep.Draws
import Derived.Lib.Hide
import Derived.Deep.LoopGhost
import Derived.StillTailTactics
import Derived.Deep.RegionHeld3
import Derived.Deep.RegionWith
import Derived.Lib.QuietBelow
set_option linter.unusedVariables false
set_option linter.unusedSimpArgs false
namespace Go.Proofs.Ytlfklfjnkpjooaa
open Go.RowKit Go.Sort

theorem vars_short {p : Pr} (h : wholeB p = true) : ∀ v ∈ varsOf p, Short v := by
  obtain ⟨_, h1, h2, h3, _⟩ := whole_parts h
  intro v hv
  simp only [varsOf, List.mem_append] at hv
  rcases hv with (hv | hv) | hv
  · exact h1 v hv
  · exact h2 v hv
  · exact h3 v hv
theorem whole_of_print {p : Pr} (h : printE p = 0) : wholeB p = true := by
  unfold printE at h
  split at h
  · omega
  · rename_i h2; simpa using h2

set_option maxHeartbeats 4000000 in
set_option maxRecDepth 100000 in
theorem check_big (p : Pr) (a : PrA) (w : World) (hp : PrAt w p a) (n1 : p.ins.length ≤ 1000000) (n2 : p.outs.length ≤ 1000000) (n3 : p.locals.length ≤ 1000000) (n4 : p.eqs.length ≤ 1000000) (he : printE p = 0)
    (hbig : 8 < p.ins.length ∨ 8 < p.outs.length ∨ 24 < (varsOf p).length) :
    Calls Try.prog 10 #[prV p a] w fun r w' => r = .returned (fV (checkF p)) ∧ Below w.heap.size w w' := by
  have hv : checkF p = (4, 0, 3) := by unfold checkF; rw [if_neg (by omega), if_pos hbig]
  have hprint := fun W h => print_any p a W (hp.later h) n1 n2 n3 n4
  have hvars := fun W h => vars_any p a W (hp.later h) n1 n2 n3
  rw [he] at hprint
  clear he
  obtain ⟨A1, c1, A2, c2, A3, c3, A4, c4⟩ := a
  unfold prV at *
  unfold fV
  dsimp only at *
  have hnames : True := trivial
  by_cases g1 : 8 < p.ins.length
  · have HV := Lib.hid hv; clear hv
    go_enter Try.func10, Try.ntmps10
    go_wp2_with (first | (go_at_call 16; refine (hprint _ (by repeat (first | exact Below.refl _ _ | (with_reducible assumption) | refine bel_trans ?_ (by with_reducible assumption) | refine bel_trans ?_ (below_regrown _ _ _) | refine bel_drew ?_ | refine bel_drewN ?_ _ | refine bel_alloc ?_ _ | refine bel_grow ?_ (by with_reducible assumption) (by omega)))).mono ?_; rintro r wa ⟨rfl, hba⟩; have hca := bcell hba; have hfa := bfrozen hba; have hza : w.heap.size + 2 ≤ wa.heap.size := (by have := hba.size; simpa using this); have hya : w.heap.size < wa.heap.size := (by omega); have hya' : w.heap.size + 1 < wa.heap.size := (by omega)) | (go_at_call 8; refine (hvars _ (by repeat (first | exact Below.refl _ _ | (with_reducible assumption) | refine bel_trans ?_ (by with_reducible assumption) | refine bel_trans ?_ (below_regrown _ _ _) | refine bel_drew ?_ | refine bel_drewN ?_ _ | refine bel_alloc ?_ _ | refine bel_grow ?_ (by with_reducible assumption) (by omega)))).mono ?_; rintro r wb ⟨⟨A, cap, rfl, hown⟩, hbb⟩; have hcb := bcell hbb; have hfb := bfrozen hbb; have hzb := hbb.size; have hyb : w.heap.size < wb.heap.size := (by omega); have hyb' : w.heap.size + 1 < wb.heap.size := (by omega); have hva := VarsAt.of_own hown) | (go_at_call 17; refine (hnames _ _ _ (hva.later (by repeat (first | exact Below.refl _ _ | (with_reducible assumption) | refine bel_trans ?_ (by with_reducible assumption) | refine bel_trans ?_ (below_regrown _ _ _) | refine bel_drew ?_ | refine bel_drewN ?_ _ | refine bel_alloc ?_ _ | refine bel_grow ?_ (by with_reducible assumption) (by omega))))).mono ?_; rintro r wc ⟨⟨B, rfl, hB, hmap⟩, hbc⟩; have hcc := bcell hbc; have hfc := bfrozen hbc; have hzc := hbc.size; have hyc : w.heap.size < wc.heap.size := (by omega); have hyc' : w.heap.size + 1 < wc.heap.size := (by omega)))
    refine bodyPost_ret (v := .agg #[.int .i64 (4), .int .i64 (0), .int .i64 (3)]) (by simp [results, Try.results10, go_sem, *]) rfl ⟨by rw [HV.out], ?_⟩
    repeat (first | exact Below.refl _ _ | (with_reducible assumption) | refine bel_trans ?_ (by with_reducible assumption) | refine Below.setCell ?_ (by simp) _ | refine bel_alloc ?_ _ | refine bel_grow ?_ (by with_reducible assumption) (by omega))
  by_cases g2 : 8 < p.outs.length
  · have HV := Lib.hid hv; clear hv
    go_enter Try.func10, Try.ntmps10
    go_wp2_with (first | (go_at_call 16; refine (hprint _ (by repeat (first | exact Below.refl _ _ | (with_reducible assumption) | refine bel_trans ?_ (by with_reducible assumption) | refine bel_trans ?_ (below_regrown _ _ _) | refine bel_drew ?_ | refine bel_drewN ?_ _ | refine bel_alloc ?_ _ | refine bel_grow ?_ (by with_reducible assumption) (by omega)))).mono ?_; rintro r wa ⟨rfl, hba⟩; have hca := bcell hba; have hfa := bfrozen hba; have hza : w.heap.size + 2 ≤ wa.heap.size := (by have := hba.size; simpa using this); have hya : w.heap.size < wa.heap.size := (by omega); have hya' : w.heap.size + 1 < wa.heap.size := (by omega)) | (go_at_call 8; refine (hvars _ (by repeat (first | exact Below.refl _ _ | (with_reducible assumption) | refine bel_trans ?_ (by with_reducible assumption) | refine bel_trans ?_ (below_regrown _ _ _) | refine bel_drew ?_ | refine bel_drewN ?_ _ | refine bel_alloc ?_ _ | refine bel_grow ?_ (by with_reducible assumption) (by omega)))).mono ?_; rintro r wb ⟨⟨A, cap, rfl, hown⟩, hbb⟩; have hcb := bcell hbb; have hfb := bfrozen hbb; have hzb := hbb.size; have hyb : w.heap.size < wb.heap.size := (by omega); have hyb' : w.heap.size + 1 < wb.heap.size := (by omega); have hva := VarsAt.of_own hown) | (go_at_call 17; refine (hnames _ _ _ (hva.later (by repeat (first | exact Below.refl _ _ | (with_reducible assumption) | refine bel_trans ?_ (by with_reducible assumption) | refine bel_trans ?_ (below_regrown _ _ _) | refine bel_drew ?_ | refine bel_drewN ?_ _ | refine bel_alloc ?_ _ | refine bel_grow ?_ (by with_reducible assumption) (by omega))))).mono ?_; rintro r wc ⟨⟨B, rfl, hB, hmap⟩, hbc⟩; have hcc := bcell hbc; have hfc := bfrozen hbc; have hzc := hbc.size; have hyc : w.heap.size < wc.heap.size := (by omega); have hyc' : w.heap.size + 1 < wc.heap.size := (by omega)))
    refine bodyPost_ret (v := .agg #[.int .i64 (4), .int .i64 (0), .int .i64 (3)]) (by simp [results, Try.results10, go_sem, *]) rfl ⟨by rw [HV.out], ?_⟩
    repeat (first | exact Below.refl _ _ | (with_reducible assumption) | refine bel_trans ?_ (by with_reducible assumption) | refine Below.setCell ?_ (by simp) _ | refine bel_alloc ?_ _ | refine bel_grow ?_ (by with_reducible assumption) (by omega))
  have g3 : 24 < (varsOf p).length := by omega
  clear hbig
  have HV := Lib.hid hv; clear hv
  go_enter Try.func10, Try.ntmps10
  go_wp2_with (first | (go_at_call 16; refine (hprint _ (by repeat (first | exact Below.refl _ _ | (with_reducible assumption) | refine bel_trans ?_ (by with_reducible assumption) | refine bel_trans ?_ (below_regrown _ _ _) | refine bel_drew ?_ | refine bel_drewN ?_ _ | refine bel_alloc ?_ _ | refine bel_grow ?_ (by with_reducible assumption) (by omega)))).mono ?_; rintro r wa ⟨rfl, hba⟩; have hca := bcell hba; have hfa := bfrozen hba; have hza : w.heap.size + 2 ≤ wa.heap.size := (by have := hba.size; simpa using this); have hya : w.heap.size < wa.heap.size := (by omega); have hya' : w.heap.size + 1 < wa.heap.size := (by omega)) | (go_at_call 8; refine (hvars _ (by repeat (first | exact Below.refl _ _ | (with_reducible assumption) | refine bel_trans ?_ (by with_reducible assumption) | refine bel_trans ?_ (below_regrown _ _ _) | refine bel_drew ?_ | refine bel_drewN ?_ _ | refine bel_alloc ?_ _ | refine bel_grow ?_ (by with_reducible assumption) (by omega)))).mono ?_; rintro r wb ⟨⟨A, cap, rfl, hown⟩, hbb⟩; have hcb := bcell hbb; have hfb := bfrozen hbb; have hzb := hbb.size; have hyb : w.heap.size < wb.heap.size := (by omega); have hyb' : w.heap.size + 1 < wb.heap.size := (by omega); have hva := VarsAt.of_own hown) | (go_at_call 17; refine (hnames _ _ _ (hva.later (by repeat (first | exact Below.refl _ _ | (with_reducible assumption) | refine bel_trans ?_ (by with_reducible assumption) | refine bel_trans ?_ (below_regrown _ _ _) | refine bel_drew ?_ | refine bel_drewN ?_ _ | refine bel_alloc ?_ _ | refine bel_grow ?_ (by with_reducible assumption) (by omega))))).mono ?_; rintro r wc ⟨⟨B, rfl, hB, hmap⟩, hbc⟩; have hcc := bcell hbc; have hfc := bfrozen hbc; have hzc := hbc.size; have hyc : w.heap.size < wc.heap.size := (by omega); have hyc' : w.heap.size + 1 < wc.heap.size := (by omega)))
  refine bodyPost_ret (v := .agg #[.int .i64 (4), .int .i64 (0), .int .i64 (3)]) (by simp [results, Try.results10, go_sem, *]) rfl ⟨by rw [HV.out], ?_⟩
  repeat (first | exact Below.refl _ _ | (with_reducible assumption) | refine bel_trans ?_ (by with_reducible assumption) | refine Below.setCell ?_ (by simp) _ | refine bel_alloc ?_ _ | refine bel_grow ?_ (by with_reducible assumption) (by omega))

end Go.Proofs.Ytlfklfjnkpjooaa
