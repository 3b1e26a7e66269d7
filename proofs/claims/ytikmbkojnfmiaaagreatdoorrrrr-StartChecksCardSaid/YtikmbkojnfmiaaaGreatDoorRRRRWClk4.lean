/- Walk over house.of: when, unless. -/
import Derived.RegionTactic
import Derived.BigRegion
import Derived.Test.YtikmbkojnfmiaaaGreatDoorRRRRBG
set_option linter.unusedVariables false
set_option linter.unusedSimpArgs false
set_option maxRecDepth 100000
namespace Go.Proofs.YtikmbkojnfmiaaaGreatDoorRRRR
open Go.RowKit Go.Sort

set_option maxHeartbeats 4000000 in
set_option maxRecDepth 100000 in
theorem of_when (l : List Va) (A : Option Addr) (cap : Nat) (hn : l.length ≤ 1000000) (e : Ex) (hf : e.formed = true) (ih : ∀ x ∈ e.sub, OfP l A cap x) (Ae : Option Addr) (ce : Nat) (ck : Int) (cs : ByteArray) (w : World) (hg : Always w) (he : SubsAt w e Ae ce) (hl : VarsAt w l A cap)
    (hk : e.kind = 8) :
    Calls Tryz.prog 35 #[.slice A l.length cap, exV e Ae ce, .agg #[.int .i64 ck, .string cs]] w fun r w' => r = .returned (.int .i64 (e.clk l (ck, cs))) ∧ Below w.heap.size w w' := by
  have htr := fun W h => truth_any l A cap e.name (ckEq ck cs 1 e.name) W (hg.later h) (hl.later h) hn
  have hall := fun W h => all_any l A cap e ih Ae ce 0 ⟨#[]⟩ W (hg.later h) (he.later h) (hl.later h)
  have ho : ownC l e.kind e.name ck cs = truthE l e.name (ckEq ck cs 1 e.name) := by unfold ownC; rw [hk]; simp
  have hs1 : subC e.kind e.name (ck, cs) = (0, ⟨#[]⟩) := by unfold subC; rw [if_pos (by omega)]
  have hs2 : subD e.kind e.name (ck, cs) = (0, ⟨#[]⟩) := by unfold subD; rw [if_pos (by omega)]
  have t3 : (e.kind == 3) = false := by rw [hk]; rfl
  have t8 : (e.kind == 8) = true := by rw [hk]; rfl
  have t9 : (e.kind == 9) = false := by rw [hk]; rfl
  have hgm := gmClock
  have hfq := fun w => eqClock ck cs 1 e.name w
  obtain ⟨a0, a1⟩ := hg
  have hgz : 0 < w.heap.size := block_lt_of_cell a0
  clear hk hf ih
  unfold exV
  generalize ckEq ck cs 1 e.name = bq at *
  generalize htq : truthE l e.name bq = tq at *
  by_cases hz : tq = 0
  · subst hz
    have hv := clk_sub (c := (ck, cs)) ho
    rw [hs1, hs2] at hv
    clear ho hs1 hs2 htq
    have HV := Lib.hid hv; clear hv
    go_enter Tryz.func35, Tryz.ntmps35
    go_wp2_with fail
    go_region
    all_goals
      go_wp2_with fail
      refine wp_region_qb (by kernel_rfl) (by kernel_rfl) (fun hgq => ?_)
      repeat (quiet_step ((first | (go_at_call 44; exact Calls.regrown_of (htr _ belA)))))
      refine wpQuiet_nil ?_
      intro wq hwq
      replace hwq := bel_of_class hwq
      clear hgq
      have hcq := bcell hwq
      have hzq := hwq.size
      (try simp at hzq)
      (try have hyq1 := lt0 w wq); (try have hyq2 := ltA w 1 wq); (try have hyq3 := ltA w 2 wq); (try have hyq4 := lt0 wr wq)
      (try have hyg : 0 < wq.heap.size := by omega); (try have hyq5 := ltA w 3 wq)
      go_wp2_with (first | (go_at_call 45; refine (hall _ belA).mono ?_; rintro r w1 ⟨rfl, hb1⟩; have hc1 := bcell hb1; have hz1 := hb1.size; (try simp at hz1); (try have hy1 := lt0 w w1); (try have hy2 := ltA w 1 w1); (try have hy3 := ltA w 2 w1); (try have hy4 := lt0 wr w1); (try have hy5 := ltA wr 1 w1); (try have hy6 := ltA w 3 w1); (try have hgy1 : 0 < w1.heap.size := by omega)))
      go_ret
      exact ⟨ret_int HV.out.symm, belA⟩
  · have hv := clk_own (c := (ck, cs)) ho hz
    have t1 : (tq != 0) = true := by simpa using hz
    clear ho hs1 hs2 htq hz
    have HV := Lib.hid hv; clear hv
    go_enter Tryz.func35, Tryz.ntmps35
    go_wp2_with fail
    go_region
    all_goals
      go_wp2_with fail
      refine wp_region_qb (by kernel_rfl) (by kernel_rfl) (fun hgq => ?_)
      repeat (quiet_step ((first | (go_at_call 44; exact Calls.regrown_of (htr _ belA)))))
      refine wpQuiet_nil ?_
      intro wq hwq
      replace hwq := bel_of_class hwq
      clear hgq
      have hcq := bcell hwq
      have hzq := hwq.size
      (try simp at hzq)
      (try have hyq1 := lt0 w wq); (try have hyq2 := ltA w 1 wq); (try have hyq3 := ltA w 2 wq); (try have hyq4 := lt0 wr wq)
      (try have hyg : 0 < wq.heap.size := by omega); (try have hyq5 := ltA w 3 wq)
      go_wp2_with fail
      go_ret
      exact ⟨ret_int HV.out.symm, belA⟩

set_option maxHeartbeats 4000000 in
set_option maxRecDepth 100000 in
theorem of_unless (l : List Va) (A : Option Addr) (cap : Nat) (hn : l.length ≤ 1000000) (e : Ex) (hf : e.formed = true) (ih : ∀ x ∈ e.sub, OfP l A cap x) (Ae : Option Addr) (ce : Nat) (ck : Int) (cs : ByteArray) (w : World) (hg : Always w) (he : SubsAt w e Ae ce) (hl : VarsAt w l A cap)
    (hk : e.kind = 9) :
    Calls Tryz.prog 35 #[.slice A l.length cap, exV e Ae ce, .agg #[.int .i64 ck, .string cs]] w fun r w' => r = .returned (.int .i64 (e.clk l (ck, cs))) ∧ Below w.heap.size w w' := by
  have htr := fun W h => truth_any l A cap e.name (ckEq ck cs 2 e.name) W (hg.later h) (hl.later h) hn
  have hall := fun W h => all_any l A cap e ih Ae ce 0 ⟨#[]⟩ W (hg.later h) (he.later h) (hl.later h)
  have ho : ownC l e.kind e.name ck cs = truthE l e.name (ckEq ck cs 2 e.name) := by unfold ownC; rw [hk]; simp
  have hs1 : subC e.kind e.name (ck, cs) = (0, ⟨#[]⟩) := by unfold subC; rw [if_pos (by omega)]
  have hs2 : subD e.kind e.name (ck, cs) = (0, ⟨#[]⟩) := by unfold subD; rw [if_pos (by omega)]
  have t3 : (e.kind == 3) = false := by rw [hk]; rfl
  have t8 : (e.kind == 8) = false := by rw [hk]; rfl
  have t9 : (e.kind == 9) = true := by rw [hk]; rfl
  have hgm := gmClock
  have hfq := fun w => eqClock ck cs 2 e.name w
  obtain ⟨a0, a1⟩ := hg
  have hgz : 0 < w.heap.size := block_lt_of_cell a0
  clear hk hf ih
  unfold exV
  generalize ckEq ck cs 2 e.name = bq at *
  generalize htq : truthE l e.name bq = tq at *
  by_cases hz : tq = 0
  · subst hz
    have hv := clk_sub (c := (ck, cs)) ho
    rw [hs1, hs2] at hv
    clear ho hs1 hs2 htq
    have HV := Lib.hid hv; clear hv
    go_enter Tryz.func35, Tryz.ntmps35
    go_wp2_with fail
    go_region
    all_goals
      go_wp2_with fail
      refine wp_region_qb (by kernel_rfl) (by kernel_rfl) (fun hgq => ?_)
      repeat (quiet_step ((first | (go_at_call 44; exact Calls.regrown_of (htr _ belA)))))
      refine wpQuiet_nil ?_
      intro wq hwq
      replace hwq := bel_of_class hwq
      clear hgq
      have hcq := bcell hwq
      have hzq := hwq.size
      (try simp at hzq)
      (try have hyq1 := lt0 w wq); (try have hyq2 := ltA w 1 wq); (try have hyq3 := ltA w 2 wq); (try have hyq4 := lt0 wr wq)
      (try have hyg : 0 < wq.heap.size := by omega); (try have hyq5 := ltA w 3 wq)
      go_wp2_with (first | (go_at_call 45; refine (hall _ belA).mono ?_; rintro r w1 ⟨rfl, hb1⟩; have hc1 := bcell hb1; have hz1 := hb1.size; (try simp at hz1); (try have hy1 := lt0 w w1); (try have hy2 := ltA w 1 w1); (try have hy3 := ltA w 2 w1); (try have hy4 := lt0 wr w1); (try have hy5 := ltA wr 1 w1); (try have hy6 := ltA w 3 w1); (try have hgy1 : 0 < w1.heap.size := by omega)))
      go_ret
      exact ⟨ret_int HV.out.symm, belA⟩
  · have hv := clk_own (c := (ck, cs)) ho hz
    have t1 : (tq != 0) = true := by simpa using hz
    clear ho hs1 hs2 htq hz
    have HV := Lib.hid hv; clear hv
    go_enter Tryz.func35, Tryz.ntmps35
    go_wp2_with fail
    go_region
    all_goals
      go_wp2_with fail
      refine wp_region_qb (by kernel_rfl) (by kernel_rfl) (fun hgq => ?_)
      repeat (quiet_step ((first | (go_at_call 44; exact Calls.regrown_of (htr _ belA)))))
      refine wpQuiet_nil ?_
      intro wq hwq
      replace hwq := bel_of_class hwq
      clear hgq
      have hcq := bcell hwq
      have hzq := hwq.size
      (try simp at hzq)
      (try have hyq1 := lt0 w wq); (try have hyq2 := ltA w 1 wq); (try have hyq3 := ltA w 2 wq); (try have hyq4 := lt0 wr wq)
      (try have hyg : 0 < wq.heap.size := by omega); (try have hyq5 := ltA w 3 wq)
      go_wp2_with fail
      go_ret
      exact ⟨ret_int HV.out.symm, belA⟩

end Go.Proofs.YtikmbkojnfmiaaaGreatDoorRRRR
