/- Walk over house.of: when, unless. -/
import Derived.RegionTactic
import Derived.BigRegion
import Derived.Test.YtknfcamdfdfoeaaDoorZ16
import Derived.Test.YtknfcamdfdfoeaaDoorZ15
set_option linter.unusedVariables false
set_option linter.unusedSimpArgs false
set_option maxRecDepth 100000
namespace Go.Proofs.YtknfcamdfdfoeaaDoor
open Go.RowKit Go.Sort

set_option maxHeartbeats 4000000 in
set_option maxRecDepth 100000 in
theorem of_when (l : List Va) (A : Option Addr) (cap : Nat) (hn : l.length ≤ 1000000) (e : Ex) (hf : e.formed = true) (ih : ∀ x ∈ e.sub, OfP l A cap x) (Ae : Option Addr) (ce : Nat) (ck : Int) (cs : ByteArray) (w : World) (hg : Always w) (he : SubsAt w e Ae ce) (hl : VarsAt w l A cap)
    (hk : e.kind = 8) :
    Calls Tryd.prog 50 #[.slice A l.length cap, exV e Ae ce, .agg #[.int .i64 ck, .string cs]] w fun r w' => r = .returned (.int .i64 (e.clk l (ck, cs))) ∧ Below w.heap.size w w' := by
  have htr := fun W h => truth_any l A cap e.name (ckEq ck cs 1 e.name) W (hg.later h) (hl.later h) hn
  have hall := fun W h => all_any l A cap e ih Ae ce 0 ⟨#[]⟩ W (hg.later h) (he.later h) (hl.later h)
  have ho : ownC l e.kind e.name ck cs = truthE l e.name (ckEq ck cs 1 e.name) := by unfold ownC; rw [hk]; simp
  have hs1 : subC e.kind e.name (ck, cs) = (0, ⟨#[]⟩) := by unfold subC; rw [if_pos (by omega)]
  have hs2 : subD e.kind e.name (ck, cs) = (0, ⟨#[]⟩) := by unfold subD; rw [if_pos (by omega)]
  have t3 : (e.kind == 3) = false := by rw [hk]; rfl
  have t8 : (e.kind == 8) = true := by rw [hk]; rfl
  have t9 : (e.kind == 9) = false := by rw [hk]; rfl
  have hgm := gmClock
  have hfq := fun w => eqClock ck cs 1 e.name w
  obtain ⟨a0, a1⟩ := hg
  have hgz : 0 < w.heap.size := block_lt_of_cell a0
  clear hk hf ih
  unfold exV
  generalize ckEq ck cs 1 e.name = bq at *
  generalize htq : truthE l e.name bq = tq at *
  by_cases hz : tq = 0
  · subst hz
    have hv := clk_sub (c := (ck, cs)) ho
    rw [hs1, hs2] at hv
    clear ho hs1 hs2 htq
    have HV := Lib.hid hv; clear hv
    go_enter Tryd.func50, Tryd.ntmps50
    go_wp2_with fail
    go_region
    all_goals
      go_wp2_with fail
      refine wp_region_qb (by kernel_rfl) (by kernel_rfl) (fun hgq => ?_)
      repeat (quiet_step ((first | (go_at_call 61; exact Calls.regrown_of (htr _ belA)))))
      refine wpQuiet_nil ?_
      intro wq hwq
      replace hwq := bel_of_class hwq
      clear hgq
      have hcq := bcell hwq
      have hzq := hwq.size
      (try simp at hzq)
      (try have hyq1 := lt0 w wq); (try have hyq2 := ltA w 1 wq); (try have hyq3 := ltA w 2 wq); (try have hyq4 := lt0 wr wq)
      (try have hyg : 0 < wq.heap.size := by omega); (try have hyq5 := ltA w 3 wq)
      go_wp2_with (first | (go_at_call 62; refine (hall _ belA).mono ?_; rintro r w1 ⟨rfl, hb1⟩; have hc1 := bcell hb1; have hz1 := hb1.size; (try simp at hz1); (try have hy1 := lt0 w w1); (try have hy2 := ltA w 1 w1); (try have hy3 := ltA w 2 w1); (try have hy4 := lt0 wr w1); (try have hy5 := ltA wr 1 w1); (try have hy6 := ltA w 3 w1); (try have hgy1 : 0 < w1.heap.size := by omega)))
      go_ret
      exact ⟨ret_int HV.out.symm, belA⟩
  · have hv := clk_own (c := (ck, cs)) ho hz
    have t1 : (tq != 0) = true := by simpa using hz
    clear ho hs1 hs2 htq hz
    have HV := Lib.hid hv; clear hv
    go_enter Tryd.func50, Tryd.ntmps50
    go_wp2_with fail
    go_region
    all_goals
      go_wp2_with fail
      refine wp_region_qb (by kernel_rfl) (by kernel_rfl) (fun hgq => ?_)
      repeat (quiet_step ((first | (go_at_call 61; exact Calls.regrown_of (htr _ belA)))))
      refine wpQuiet_nil ?_
      intro wq hwq
      replace hwq := bel_of_class hwq
      clear hgq
      have hcq := bcell hwq
      have hzq := hwq.size
      (try simp at hzq)
      (try have hyq1 := lt0 w wq); (try have hyq2 := ltA w 1 wq); (try have hyq3 := ltA w 2 wq); (try have hyq4 := lt0 wr wq)
      (try have hyg : 0 < wq.heap.size := by omega); (try have hyq5 := ltA w 3 wq)
      go_wp2_with fail
      go_ret
      exact ⟨ret_int HV.out.symm, belA⟩

set_option maxHeartbeats 4000000 in
set_option maxRecDepth 100000 in
theorem of_unless (l : List Va) (A : Option Addr) (cap : Nat) (hn : l.length ≤ 1000000) (e : Ex) (hf : e.formed = true) (ih : ∀ x ∈ e.sub, OfP l A cap x) (Ae : Option Addr) (ce : Nat) (ck : Int) (cs : ByteArray) (w : World) (hg : Always w) (he : SubsAt w e Ae ce) (hl : VarsAt w l A cap)
    (hk : e.kind = 9) :
    Calls Tryd.prog 50 #[.slice A l.length cap, exV e Ae ce, .agg #[.int .i64 ck, .string cs]] w fun r w' => r = .returned (.int .i64 (e.clk l (ck, cs))) ∧ Below w.heap.size w w' := by
  have htr := fun W h => truth_any l A cap e.name (ckEq ck cs 2 e.name) W (hg.later h) (hl.later h) hn
  have hall := fun W h => all_any l A cap e ih Ae ce 0 ⟨#[]⟩ W (hg.later h) (he.later h) (hl.later h)
  have ho : ownC l e.kind e.name ck cs = truthE l e.name (ckEq ck cs 2 e.name) := by unfold ownC; rw [hk]; simp
  have hs1 : subC e.kind e.name (ck, cs) = (0, ⟨#[]⟩) := by unfold subC; rw [if_pos (by omega)]
  have hs2 : subD e.kind e.name (ck, cs) = (0, ⟨#[]⟩) := by unfold subD; rw [if_pos (by omega)]
  have t3 : (e.kind == 3) = false := by rw [hk]; rfl
  have t8 : (e.kind == 8) = false := by rw [hk]; rfl
  have t9 : (e.kind == 9) = true := by rw [hk]; rfl
  have hgm := gmClock
  have hfq := fun w => eqClock ck cs 2 e.name w
  obtain ⟨a0, a1⟩ := hg
  have hgz : 0 < w.heap.size := block_lt_of_cell a0
  clear hk hf ih
  unfold exV
  generalize ckEq ck cs 2 e.name = bq at *
  generalize htq : truthE l e.name bq = tq at *
  by_cases hz : tq = 0
  · subst hz
    have hv := clk_sub (c := (ck, cs)) ho
    rw [hs1, hs2] at hv
    clear ho hs1 hs2 htq
    have HV := Lib.hid hv; clear hv
    go_enter Tryd.func50, Tryd.ntmps50
    go_wp2_with fail
    go_region
    all_goals
      go_wp2_with fail
      refine wp_region_qb (by kernel_rfl) (by kernel_rfl) (fun hgq => ?_)
      repeat (quiet_step ((first | (go_at_call 61; exact Calls.regrown_of (htr _ belA)))))
      refine wpQuiet_nil ?_
      intro wq hwq
      replace hwq := bel_of_class hwq
      clear hgq
      have hcq := bcell hwq
      have hzq := hwq.size
      (try simp at hzq)
      (try have hyq1 := lt0 w wq); (try have hyq2 := ltA w 1 wq); (try have hyq3 := ltA w 2 wq); (try have hyq4 := lt0 wr wq)
      (try have hyg : 0 < wq.heap.size := by omega); (try have hyq5 := ltA w 3 wq)
      go_wp2_with (first | (go_at_call 62; refine (hall _ belA).mono ?_; rintro r w1 ⟨rfl, hb1⟩; have hc1 := bcell hb1; have hz1 := hb1.size; (try simp at hz1); (try have hy1 := lt0 w w1); (try have hy2 := ltA w 1 w1); (try have hy3 := ltA w 2 w1); (try have hy4 := lt0 wr w1); (try have hy5 := ltA wr 1 w1); (try have hy6 := ltA w 3 w1); (try have hgy1 : 0 < w1.heap.size := by omega)))
      go_ret
      exact ⟨ret_int HV.out.symm, belA⟩
  · have hv := clk_own (c := (ck, cs)) ho hz
    have t1 : (tq != 0) = true := by simpa using hz
    clear ho hs1 hs2 htq hz
    have HV := Lib.hid hv; clear hv
    go_enter Tryd.func50, Tryd.ntmps50
    go_wp2_with fail
    go_region
    all_goals
      go_wp2_with fail
      refine wp_region_qb (by kernel_rfl) (by kernel_rfl) (fun hgq => ?_)
      repeat (quiet_step ((first | (go_at_call 61; exact Calls.regrown_of (htr _ belA)))))
      refine wpQuiet_nil ?_
      intro wq hwq
      replace hwq := bel_of_class hwq
      clear hgq
      have hcq := bcell hwq
      have hzq := hwq.size
      (try simp at hzq)
      (try have hyq1 := lt0 w wq); (try have hyq2 := ltA w 1 wq); (try have hyq3 := ltA w 2 wq); (try have hyq4 := lt0 wr wq)
      (try have hyg : 0 < wq.heap.size := by omega); (try have hyq5 := ltA w 3 wq)
      go_wp2_with fail
      go_ret
      exact ⟨ret_int HV.out.symm, belA⟩

end Go.Proofs.YtknfcamdfdfoeaaDoor

/- Walk over house.of: merge, the others; joined. -/
namespace Go.Proofs.YtknfcamdfdfoeaaDoor
open Go.RowKit Go.Sort

set_option maxHeartbeats 4000000 in
set_option maxRecDepth 100000 in
theorem of_merge (l : List Va) (A : Option Addr) (cap : Nat) (hn : l.length ≤ 1000000) (e : Ex) (hf : e.formed = true) (ih : ∀ x ∈ e.sub, OfP l A cap x) (Ae : Option Addr) (ce : Nat) (ck : Int) (cs : ByteArray) (w : World) (hg : Always w) (he : SubsAt w e Ae ce) (hl : VarsAt w l A cap)
    (hk : e.kind = 10) :
    Calls Tryd.prog 50 #[.slice A l.length cap, exV e Ae ce, .agg #[.int .i64 ck, .string cs]] w fun r w' => r = .returned (.int .i64 (e.clk l (ck, cs))) ∧ Below w.heap.size w w' := by
  have hlen := formed_merge hf hk
  have htr := fun W h => truth_any l A cap e.name (ckEq ck cs 0 ⟨#[]⟩) W (hg.later h) (hl.later h) hn
  have ho : ownC l e.kind e.name ck cs = truthE l e.name (ckEq ck cs 0 ⟨#[]⟩) := by unfold ownC; rw [hk]; simp
  have hs1 : subC e.kind e.name (ck, cs) = (1, e.name) := by unfold subC; rw [hk]; simp
  have hs2 : subD e.kind e.name (ck, cs) = (2, e.name) := by unfold subD; rw [hk]; simp
  obtain ⟨x, hx⟩ : ∃ x, e.sub[0]? = some x := ⟨_, List.getElem?_eq_getElem (by omega)⟩
  obtain ⟨y, hy⟩ : ∃ y, e.sub[1]? = some y := ⟨_, List.getElem?_eq_getElem (by omega)⟩
  have hsub : e.sub = [x, y] := by
    match hm : e.sub, hlen with
    | [u, v], _ =>
      rw [hm] at hx hy
      simp at hx hy
      rw [hx, hy]
  have hcl : Ex.clkL l e.sub (1, e.name) (2, e.name) = if x.clk l (1, e.name) ≠ 0 then x.clk l (1, e.name) else y.clk l (2, e.name) := by
    rw [hsub]
    simp only [Ex.clkL]
    split
    · rfl
    · split
      · rfl
      · rename_i h; omega
  obtain ⟨b, off, X, cx, rfl, c0, c1, c2, c3, hsx⟩ := he.get hx
  obtain ⟨b', off', Y, cy, hb', d0, d1, d2, d3, hsy⟩ := he.get hy
  simp only [Option.some.injEq, Addr.mk.injEq, and_true] at hb'
  obtain ⟨rfl, rfl⟩ := hb'
  simp only [Nat.zero_mul, Nat.one_mul, Nat.add_zero] at c0 c1 c2 c3 d0 d1 d2 d3
  have ihx := fun W h => ih x (List.mem_of_getElem? hx) X cx 1 e.name W (hg.later h) (hsx.later h) (hl.later h)
  have ihy := fun W h => ih y (List.mem_of_getElem? hy) Y cy 2 e.name W (hg.later h) (hsy.later h) (hl.later h)
  have t3 : (e.kind == 3) = false := by rw [hk]; rfl
  have t8 : (e.kind == 8) = false := by rw [hk]; rfl
  have t9 : (e.kind == 9) = false := by rw [hk]; rfl
  have t10 : (e.kind == 10) = true := by rw [hk]; rfl
  have l0 : 0 < e.sub.length := by omega
  have l2 : 1 < e.sub.length := by omega
  have l1 : (1 : Int) < (e.sub.length : Int) := by omega
  have hgm := gmClock
  have hfq := fun w => eqClock ck cs 0 ⟨#[]⟩ w
  obtain ⟨a0, a1⟩ := hg
  have hgz : 0 < w.heap.size := block_lt_of_cell a0
  have hbz : b < w.heap.size := block_lt_of_cell c0
  have hbz4 : b < w.heap.size + 4 := by omega
  have hbz3 : b < w.heap.size + 3 := by omega
  have hbz2 : b < w.heap.size + 2 := by omega
  have hbz1 : b < w.heap.size + 1 := by omega
  clear hk hf ih hlen hsub hx hy
  unfold exV at *
  generalize ckEq ck cs 0 ⟨#[]⟩ = bq at *
  generalize htq : truthE l e.name bq = tq at *
  by_cases hz : tq = 0
  · subst hz
    have hv := clk_sub (c := (ck, cs)) ho
    rw [hs1, hs2, hcl] at hv
    generalize hxq : x.clk l (1, e.name) = xq at *
    generalize hyq : y.clk l (2, e.name) = yq at *
    clear ho hs1 hs2 htq hcl hxq hyq
    by_cases hz : xq = 0
    · subst hz
      rw [if_neg (by simp)] at hv
      have HV := Lib.hid hv; clear hv
      go_enter Tryd.func50, Tryd.ntmps50
      go_wp2_with fail
      go_region
      all_goals
        go_wp2_with fail
        refine wp_region_qb (by kernel_rfl) (by kernel_rfl) (fun hgq => ?_)
        repeat (quiet_step ((first | (go_at_call 61; exact Calls.regrown_of (htr _ belA)))))
        refine wpQuiet_nil ?_
        intro wq hwq
        replace hwq := bel_of_class hwq
        clear hgq
        have hcq := bcell hwq
        have hzq := hwq.size
        (try simp at hzq)
        (try have hyq1 := lt0 w wq); (try have hyq2 := ltA w 1 wq); (try have hyq3 := ltA w 2 wq); (try have hyq4 := lt0 wr wq)
        (try have hyg : 0 < wq.heap.size := by omega); (try have hyq5 := ltA w 3 wq)
        have hbq : b < wq.heap.size := by omega
        obtain ⟨wp, rfl⟩ : ∃ wp, wp = wq := ⟨wq, rfl⟩
        have hwp := hwq
        clear hwq
        go_wp2_with fail
        refine wp_region_qb (by kernel_rfl) (by kernel_rfl) (fun hgq => ?_)
        repeat (quiet_step ((first | (go_at_call 50; exact Calls.regrown_of (ihx _ belA)))))
        refine wpQuiet_nil ?_
        intro wq hwq
        replace hwq := bel_of_class hwq
        clear hgq
        have hcq := bcell hwq
        have hzq := hwq.size
        (try simp at hzq)
        (try have hyq1 := lt0 w wq); (try have hyq2 := ltA w 1 wq); (try have hyq3 := ltA w 2 wq); (try have hyq4 := lt0 wr wq)
        (try have hyg : 0 < wq.heap.size := by omega); (try have hyq5 := ltA w 3 wq)
        have hbq2 : b < wq.heap.size := by omega
        obtain ⟨wo, rfl⟩ : ∃ wo, wo = wq := ⟨wq, rfl⟩
        have hwo := hwq
        clear hwq
        go_wp2_with fail
        refine wp_region_qb (by kernel_rfl) (by kernel_rfl) (fun hgq => ?_)
        repeat (quiet_step ((first | (go_at_call 50; exact Calls.regrown_of (ihy _ belA)))))
        refine wpQuiet_nil ?_
        intro wq hwq
        replace hwq := bel_of_class hwq
        clear hgq
        have hcq := bcell hwq
        have hzq := hwq.size
        (try simp at hzq)
        (try have hyq1 := lt0 w wq); (try have hyq2 := ltA w 1 wq); (try have hyq3 := ltA w 2 wq); (try have hyq4 := lt0 wr wq)
        go_wp2_with fail
        go_ret
        exact ⟨ret_int HV.out.symm, belA⟩
    · rw [if_pos hz] at hv
      have t1 : (xq != 0) = true := by simpa using hz
      clear hz
      have HV := Lib.hid hv; clear hv
      go_enter Tryd.func50, Tryd.ntmps50
      go_wp2_with fail
      go_region
      all_goals
        go_wp2_with fail
        refine wp_region_qb (by kernel_rfl) (by kernel_rfl) (fun hgq => ?_)
        repeat (quiet_step ((first | (go_at_call 61; exact Calls.regrown_of (htr _ belA)))))
        refine wpQuiet_nil ?_
        intro wq hwq
        replace hwq := bel_of_class hwq
        clear hgq
        have hcq := bcell hwq
        have hzq := hwq.size
        (try simp at hzq)
        (try have hyq1 := lt0 w wq); (try have hyq2 := ltA w 1 wq); (try have hyq3 := ltA w 2 wq); (try have hyq4 := lt0 wr wq)
        (try have hyg : 0 < wq.heap.size := by omega); (try have hyq5 := ltA w 3 wq)
        have hbq : b < wq.heap.size := by omega
        obtain ⟨wp, rfl⟩ : ∃ wp, wp = wq := ⟨wq, rfl⟩
        have hwp := hwq
        clear hwq
        go_wp2_with fail
        refine wp_region_qb (by kernel_rfl) (by kernel_rfl) (fun hgq => ?_)
        repeat (quiet_step ((first | (go_at_call 50; exact Calls.regrown_of (ihx _ belA)))))
        refine wpQuiet_nil ?_
        intro wq hwq
        replace hwq := bel_of_class hwq
        clear hgq
        have hcq := bcell hwq
        have hzq := hwq.size
        (try simp at hzq)
        (try have hyq1 := lt0 w wq); (try have hyq2 := ltA w 1 wq); (try have hyq3 := ltA w 2 wq); (try have hyq4 := lt0 wr wq)
        go_wp2_with fail
        go_ret
        exact ⟨ret_int HV.out.symm, belA⟩
  · have hv := clk_own (c := (ck, cs)) ho hz
    have t1 : (tq != 0) = true := by simpa using hz
    clear ho hs1 hs2 htq hz hcl
    have HV := Lib.hid hv; clear hv
    go_enter Tryd.func50, Tryd.ntmps50
    go_wp2_with fail
    go_region
    all_goals
      go_wp2_with fail
      refine wp_region_qb (by kernel_rfl) (by kernel_rfl) (fun hgq => ?_)
      repeat (quiet_step ((first | (go_at_call 61; exact Calls.regrown_of (htr _ belA)))))
      refine wpQuiet_nil ?_
      intro wq hwq
      replace hwq := bel_of_class hwq
      clear hgq
      have hcq := bcell hwq
      have hzq := hwq.size
      (try simp at hzq)
      (try have hyq1 := lt0 w wq); (try have hyq2 := ltA w 1 wq); (try have hyq3 := ltA w 2 wq); (try have hyq4 := lt0 wr wq)
      (try have hyg : 0 < wq.heap.size := by omega); (try have hyq5 := ltA w 3 wq)
      go_wp2_with fail
      go_ret
      exact ⟨ret_int HV.out.symm, belA⟩

set_option maxHeartbeats 4000000 in
set_option maxRecDepth 100000 in
theorem of_other (l : List Va) (A : Option Addr) (cap : Nat) (hn : l.length ≤ 1000000) (e : Ex) (hf : e.formed = true) (ih : ∀ x ∈ e.sub, OfP l A cap x) (Ae : Option Addr) (ce : Nat) (ck : Int) (cs : ByteArray) (w : World) (hg : Always w) (he : SubsAt w e Ae ce) (hl : VarsAt w l A cap)
    (hk : e.kind ≠ 3 ∧ e.kind ≠ 8 ∧ e.kind ≠ 9 ∧ e.kind ≠ 10) :
    Calls Tryd.prog 50 #[.slice A l.length cap, exV e Ae ce, .agg #[.int .i64 ck, .string cs]] w fun r w' => r = .returned (.int .i64 (e.clk l (ck, cs))) ∧ Below w.heap.size w w' := by
  have hall := fun c s W h => all_any l A cap e ih Ae ce c s W (hg.later h) (he.later h) (hl.later h)
  obtain ⟨h3, h8, h9, h10⟩ := hk
  have ho : ownC l e.kind e.name ck cs = 0 := by unfold ownC; rw [if_neg h3, if_neg h8, if_neg h9, if_neg h10]
  have hs1 : subC e.kind e.name (ck, cs) = (ck, cs) := by unfold subC; rw [if_neg (by omega), if_neg (by omega)]
  have hs2 : subD e.kind e.name (ck, cs) = (ck, cs) := by unfold subD; rw [if_neg (by omega), if_neg (by omega)]
  have t3 : (e.kind == 3) = false := by simpa using h3
  have t8 : (e.kind == 8) = false := by simpa using h8
  have t9 : (e.kind == 9) = false := by simpa using h9
  have t10 : (e.kind == 10) = false := by simpa using h10
  have hv := clk_sub (c := (ck, cs)) ho
  rw [hs1, hs2] at hv
  clear ho hs1 hs2 hf ih h3 h8 h9 h10
  unfold exV
  have HV := Lib.hid hv; clear hv
  go_enter Tryd.func50, Tryd.ntmps50
  go_wp2_with fail
  go_region
  all_goals
    go_wp2_with (first | (go_at_call 62; refine (hall _ _ _ belA).mono ?_; rintro r w1 ⟨rfl, hb1⟩; have hc1 := bcell hb1; have hz1 := hb1.size; (try simp at hz1); (try have hy1 := lt0 w w1); (try have hy2 := ltA w 1 w1); (try have hy3 := ltA w 2 w1); (try have hy4 := lt0 wr w1); (try have hy5 := ltA wr 1 w1); (try have hy6 := ltA w 3 w1); (try have hgy1 : 0 < w1.heap.size := by omega)))
    go_ret
    exact ⟨ret_int HV.out.symm, belA⟩

end Go.Proofs.YtknfcamdfdfoeaaDoor

/- Walk over kinds.Check: the three loops. -/
namespace Go.Proofs.YtknfcamdfdfoeaaDoor
open Go.RowKit Go.Sort

theorem upd_count {d : ByteArray → Option Int} {k : Nat} (HD : Hid (∀ s, 0 ≤ (d s).getD 0 ∧ (d s).getD 0 ≤ (k : Int))) {n : ByteArray} (h0 : 0 ≤ (d n).getD 0) (h1 : (d n).getD 0 ≤ (k : Int)) :
    Hid (∀ s, 0 ≤ ((upd d n ((d n).getD 0 + 1)) s).getD 0 ∧ ((upd d n ((d n).getD 0 + 1)) s).getD 0 ≤ ((k + 1 : Nat) : Int)) := by
  intro s
  have h2 := HD.out s
  unfold upd
  by_cases h : s.data = n.data
  · rw [if_pos h]; simp only [Option.getD_some]; omega
  · rw [if_neg h]; omega

set_option maxHeartbeats 8000000 in
set_option maxRecDepth 100000 in
theorem check_small (p : Pr) (a : PrA) (w : World) (hp : PrAt w p a) (n1 : p.ins.length ≤ 1000000) (n2 : p.outs.length ≤ 1000000) (n3 : p.locals.length ≤ 1000000) (n4 : p.eqs.length ≤ 1000000) (he : printE p = 0)
    (g1 : p.ins.length ≤ 8) (g2 : p.outs.length ≤ 8) (g3 : (varsOf p).length ≤ 24) :
    Calls Tryd.prog 47 #[prV p a] w fun r w' => r = .returned (fV (checkF p)) ∧ Below w.heap.size w w' := by
  have hv0 : checkF p = dupF p (dupGo (varsOf p) 0 (varsOf p)) := by unfold checkF; rw [if_neg (by omega), if_neg (by omega)]
  have hwh := whole_of_print he
  have hsh := vars_short hwh
  have hqs := (whole_parts hwh).2.2.2.2
  have hprint := fun W h => print_any p a W (hp.later h) n1 n2 n3 n4
  have hvars := fun W h => vars_any p a W (hp.later h) n1 n2 n3
  rw [he] at hprint
  clear he hwh
  have hnames := fun A cap W h => names_any (varsOf p) A cap (fun v hv => by have := (hsh v hv).1; unfold maxLen; omega) (by omega) W h
  have hil : p.ins.length ≤ (varsOf p).length := by simp [varsOf]
  have hsm : ∀ v ∈ varsOf p, v.name.size ≤ maxLen := fun v hv => by have := (hsh v hv).1; unfold maxLen; omega
  have HSM := Lib.hid hsm; clear hsm hsh
  have HQS := Lib.hid hqs; clear hqs
  have HV0 := Lib.hid hv0; clear hv0
  have hlq := hp.eqs.len
  obtain ⟨A1, c1, A2, c2, A3, c3, A4, c4⟩ := a
  unfold maxLen at hlq
  unfold prV at *
  unfold fV
  dsimp only at *
  obtain ⟨hlq1, hlq2⟩ := hlq
  have HIL := Lib.hid hil; clear hil
  generalize hL : varsOf p = L at *
  have HL := Lib.hid hL; clear hL
  go_enter Tryd.func47, Tryd.ntmps47
  go_wp2_with (first | (go_at_call 58; refine (hprint _ belA).mono ?_; rintro r wa ⟨rfl, hba⟩; have hca := bcell hba; have hfa := bfrozen hba; have hza : w.heap.size + 2 ≤ wa.heap.size := (by have := hba.size; simpa using this); have hya : w.heap.size < wa.heap.size := (by omega); have hya' : w.heap.size + 1 < wa.heap.size := (by omega)) | (go_at_call 26; refine (hvars _ belA).mono ?_; rintro r wb ⟨⟨A, cap, rfl, hown⟩, hbb⟩; have hcb := bcell hbb; have hfb := bfrozen hbb; have hzb := hbb.size; have hyb : w.heap.size < wb.heap.size := (by omega); have hyb' : w.heap.size + 1 < wb.heap.size := (by omega); have hva := VarsAt.of_own hown) | (go_at_call 59; refine (hnames _ _ _ (hva.later belA)).mono ?_; rintro r wc ⟨⟨B, rfl, hB, hmap⟩, hbc⟩; have hcc := bcell hbc; have hfc := bfrozen hbc; have hzc := hbc.size; have hyc : w.heap.size < wc.heap.size := (by omega); have hyc' : w.heap.size + 1 < wc.heap.size := (by omega)))
  refine wp_name fun W0 hW0 => ?_
  have hb0 : Below w.heap.size w W0 := by rw [hW0]; exact belA
  have hbc0 : Below wc.heap.size wc W0 := by rw [hW0]; exact belA
  have hz0c : wc.heap.size < W0.heap.size := by rw [hW0]; simp
  have hz0 : w.heap.size < W0.heap.size := by omega
  have hz0' : w.heap.size + 1 < W0.heap.size := by omega
  have p1 : W0.cell? ⟨w.heap.size, 1, none⟩ = some (.slice A1 p.ins.length c1) := by rw [hW0]; go_simp
  have p4 : W0.cell? ⟨w.heap.size, 4, none⟩ = some (.slice A4 p.eqs.length c4) := by rw [hW0]; go_simp
  have f0 : W0.cell? ⟨w.heap.size + 1, 0, none⟩ = some (.int .i64 0) := by rw [hW0]; go_simp
  have f1 : W0.cell? ⟨w.heap.size + 1, 1, none⟩ = some (.int .i64 0) := by rw [hW0]; go_simp
  have f2 : W0.cell? ⟨w.heap.size + 1, 2, none⟩ = some (.int .i64 0) := by rw [hW0]; go_simp
  have l0 : W0.cell? ⟨wc.heap.size, 0, none⟩ = some (.slice A L.length cap) := by rw [hW0]; go_simp
  have l1 : W0.cell? ⟨wc.heap.size, 1, none⟩ = some (.map (some B)) := by rw [hW0]; go_simp
  have z0 : W0.frozen? ⟨w.heap.size + 1, 0, none⟩ = false := by rw [hW0]; go_simp
  have z1 : W0.frozen? ⟨w.heap.size + 1, 1, none⟩ = false := by rw [hW0]; go_simp
  have z2 : W0.frozen? ⟨w.heap.size + 1, 2, none⟩ = false := by rw [hW0]; go_simp
  clear hW0
  have hva0 : VarsAt W0 L A cap := hva.later belA
  have hm0 := hmap.bel hbc0
  have hp4 := hp.eqs.later hb0
  have hBlt := hm0.lt
  dsimp only at hp4
  clear hprint hvars hnames hown hva hmap hca hcb hcc hfa hfb hfc hp
  go_loopw [47] (fun i wr => ∃ k : Nat, k ≤ L.length ∧ i = .int .i64 k ∧ dupGo L k (L.drop k) = dupGo L 0 L ∧ Below W0.heap.size W0 wr) (fun i _ => L.length - (intOf i).toNat)
  case atStart => exact ⟨0, Nat.zero_le _, rfl, rfl, Below.refl _ _⟩
  case round =>
    obtain ⟨k, hk, rfl, hrem, hbel⟩ := hrel
    have hc := bcell hbel
    have hfz := bfrozen hbel
    have hzr := hbel.size
    have hmr := hm0.bel hbel
    have hr1 : w.heap.size < wr.heap.size := by omega
    have hr2 : w.heap.size + 1 < wr.heap.size := by omega
    have hr3 : wc.heap.size < wr.heap.size := by omega
    have hr4 : B < wr.heap.size := by omega
    by_cases hlt : k < L.length
    · have hx : L[k]? = some L[k] := List.getElem?_eq_getElem hlt
      have hd : L.drop k = L[k] :: L.drop (k + 1) := List.drop_eq_getElem_cons hlt
      generalize L[k] = x at hx hd
      obtain ⟨b, off, rfl, hbb, ⟨d0, d1, d2, d3⟩⟩ := (hva0.later hbel).get hx
      rw [hd, dupGo] at hrem
      have hs := HSM.out x (List.mem_of_getElem? hx)
      clear hd hx
      cases hcs : ((findV L x.name).getD 0 != (k : Int))
      case true =>
        rw [if_pos (by simpa using hcs)] at hrem
        have hv : checkF p = (2, (k : Int), 18) := by rw [HV0.out, ← hrem]; rfl
        clear hrem
        have HV := Lib.hid hv; clear hv
        go_wp2_with (first | (at_lookup; refine wpList_lkI rfl (.tmp 53) (.tmp 55) 107 rfl Tryd.underlying9 Tryd.underlying107 Tryd.underlying3 (zeroInt _) B L.length (findV L) x.name rfl (by repeat (first | (with_reducible assumption) | refine MapI.alloc ?_ | refine MapI.bel ?_ (by with_reducible assumption) | refine MapI.drew ?_)) rfl hs ?_))
        refine bodyPost_ret (v := .agg #[.int .i64 (2), .int .i64 ((k : Int)), .int .i64 (18)]) (by simp [results, Tryd.results47, go_sem, *]) rfl ⟨by rw [HV.out], ?_⟩
        exact belS
      rw [if_neg (by simpa using hcs)] at hrem
      have HR := Lib.hid hrem; clear hrem
      go_wp2_with (first | (at_lookup; refine wpList_lkI rfl (.tmp 53) (.tmp 55) 107 rfl Tryd.underlying9 Tryd.underlying107 Tryd.underlying3 (zeroInt _) B L.length (findV L) x.name rfl (by repeat (first | (with_reducible assumption) | refine MapI.alloc ?_ | refine MapI.bel ?_ (by with_reducible assumption) | refine MapI.drew ?_)) rfl hs ?_))
      go_roundw
      case rel => exact ⟨k + 1, by omega, by go_num, HR.out, belA⟩
      case measure => simp [intOf]; omega
    obtain rfl : k = L.length := by omega
    rw [List.drop_length, dupGo] at hrem
    have hv1 : checkF p = eqsF L p.ins.length (eqGo L p.ins.length 0 (fun _ => none) p.eqs) := by rw [HV0.out, ← hrem, dupF, HL.out]
    have HV1 := Lib.hid hv1; clear hv1 hrem
    clear hmr
    obtain ⟨Wm, rfl⟩ : ∃ Wm, Wm = wr := ⟨wr, rfl⟩
    have hbm : Below w.heap.size w Wm := bel_trans hb0 hbel
    have hvam := hva0.later hbel
    have hmm0 := hm0.bel hbel
    have hpm4 := hp4.later hbel
    have hcz : wc.heap.size < Wm.heap.size := by omega
    replace p1 := (hc _ _ hz0).trans p1
    replace p4 := (hc _ _ hz0).trans p4
    replace f0 := (hc _ _ hz0').trans f0
    replace f1 := (hc _ _ hz0').trans f1
    replace f2 := (hc _ _ hz0').trans f2
    replace l0 := (hc _ _ hz0c).trans l0
    replace l1 := (hc _ _ hz0c).trans l1
    replace z0 := (hfz _ _ hz0').trans z0
    replace z1 := (hfz _ _ hz0').trans z1
    replace z2 := (hfz _ _ hz0').trans z2
    clear hc hfz hzr hbel hva0 hm0 hp4 hb0 hbc0 hz0 hz0' hz0c hr4 hBlt
    have hBlt := hmm0.lt
    have hmm := @run_makeMap Tryd.prog
    go_wp2_with fail
    clear hmm
    go_loopw [66] (fun i wr => ∃ (k : Nat) (d : ByteArray → Option Int), k ≤ p.eqs.length ∧ i = .int .i64 k ∧ MapI Tryd.prog 9 3 wr Wm.heap.size k d ∧ Hid (∀ s, 0 ≤ (d s).getD 0 ∧ (d s).getD 0 ≤ (k : Int)) ∧ eqGo L p.ins.length k d (p.eqs.drop k) = eqGo L p.ins.length 0 (fun _ => none) p.eqs ∧ Below Wm.heap.size Wm wr) (fun i _ => p.eqs.length - (intOf i).toNat)
    case atStart => exact ⟨0, _, Nat.zero_le _, rfl, MapI.made _, Lib.hid (fun s => ⟨by simp, by simp⟩), rfl, belA⟩
    case round =>
      obtain ⟨k, d, hk, rfl, hmd, HD, hrem, hbel⟩ := hrel
      have hc := bcell hbel
      have hfz := bfrozen hbel
      have hzr := hbel.size
      have hdl := hmd.lt
      have hr1 : w.heap.size < wr.heap.size := by omega
      have hr2 : w.heap.size + 1 < wr.heap.size := by omega
      have hr3 : wc.heap.size < wr.heap.size := by omega
      have hr4 : B < wr.heap.size := by omega
      by_cases hlt : k < p.eqs.length
      · have hx : p.eqs[k]? = some p.eqs[k] := List.getElem?_eq_getElem hlt
        have hd : p.eqs.drop k = p.eqs[k] :: p.eqs.drop (k + 1) := List.drop_eq_getElem_cons hlt
        generalize p.eqs[k] = q at hx hd
        obtain ⟨b, off, B1, n1, B2, n2, rfl, hbb, ⟨g0, g1, g2, g3, g4, g5, g6, g7, g8, g9, s1, s2⟩⟩ := (hpm4.later hbel).get hx
        rw [hd, eqGo] at hrem
        have hq := HQS.out q (List.mem_of_getElem? hx)
        have hs : q.name.size ≤ maxLen := by have := (eqB_parts hq).1; unfold maxLen; omega
        have heq := fun W h1 h2 hl hd => equation_any q hq L A cap B L.length B1 n1 B2 n2 p.ins.length Wm.heap.size k d W h1 h2 hl hd
        unfold lookV qeV at heq
        obtain ⟨hdq0, hdq1⟩ := HD.out q.name
        clear hd hx hq
        cases hcs : (eqE L p.ins.length d q != 0)
        case true =>
          rw [if_pos (by simpa using hcs)] at hrem
          have hv1 : checkF p = (3, (k : Int), eqE L p.ins.length d q) := by rw [HV1.out, ← hrem]; rfl
          clear hrem
          have HV := Lib.hid hv1; clear hv1
          go_wp2_with (first | (go_at_call 60; refine (heq _ (s1.later belA) (s2.later belA) ⟨hvam.later belA, (by repeat (first | (with_reducible assumption) | refine MapI.alloc ?_ | refine MapI.bel ?_ (by with_reducible assumption) | refine MapI.drew ?_))⟩ (by repeat (first | (with_reducible assumption) | refine MapI.alloc ?_ | refine MapI.bel ?_ (by with_reducible assumption) | refine MapI.drew ?_))).mono ?_; rintro r w1 ⟨rfl, hb1⟩; have hc1 := bcell hb1; have hf1 := bfrozen hb1; have hz1 := hb1.size; (try simp at hz1); (try have hy1 := lt0 w w1); (try have hy2 := ltA w 1 w1); (try have hy3 := ltA w 2 w1); (try have hy4 := lt0 wr w1); (try have hy5 := ltA wr 1 w1); have hyc1 : wc.heap.size < w1.heap.size := (by omega)) | (at_lookup; refine wpList_lkI rfl (.tmp 83) (.tmp 85) 107 rfl Tryd.underlying9 Tryd.underlying107 Tryd.underlying3 (zeroInt _) Wm.heap.size k d q.name rfl (by repeat (first | (with_reducible assumption) | refine MapI.alloc ?_ | refine MapI.bel ?_ (by with_reducible assumption) | refine MapI.drew ?_)) rfl hs ?_) | (at_mapUpdate; refine wpList_stI rfl (.tmp 83) (.tmp 85) (.tmp 87) 107 rfl Tryd.underlying9 Tryd.underlying107 Tryd.underlying3 Wm.heap.size k d q.name ((d q.name).getD 0 + 1) rfl (by repeat (first | (with_reducible assumption) | refine MapI.alloc ?_ | refine MapI.bel ?_ (by with_reducible assumption) | refine MapI.drew ?_)) (by omega) rfl rfl hs (by omega) ?_; intro w2 hm2 hg2))
          refine bodyPost_ret (v := .agg #[.int .i64 (3), .int .i64 ((k : Int)), .int .i64 ((eqE L p.ins.length d q))]) (by simp [results, Tryd.results47, go_sem, *]) rfl ⟨by rw [HV.out], ?_⟩
          exact belS
        rw [if_neg (by simpa using hcs)] at hrem
        have HR := Lib.hid hrem; clear hrem
        go_wp2_with (first | (go_at_call 60; refine (heq _ (s1.later belA) (s2.later belA) ⟨hvam.later belA, (by repeat (first | (with_reducible assumption) | refine MapI.alloc ?_ | refine MapI.bel ?_ (by with_reducible assumption) | refine MapI.drew ?_))⟩ (by repeat (first | (with_reducible assumption) | refine MapI.alloc ?_ | refine MapI.bel ?_ (by with_reducible assumption) | refine MapI.drew ?_))).mono ?_; rintro r w1 ⟨rfl, hb1⟩; have hc1 := bcell hb1; have hf1 := bfrozen hb1; have hz1 := hb1.size; (try simp at hz1); (try have hy1 := lt0 w w1); (try have hy2 := ltA w 1 w1); (try have hy3 := ltA w 2 w1); (try have hy4 := lt0 wr w1); (try have hy5 := ltA wr 1 w1); have hyc1 : wc.heap.size < w1.heap.size := (by omega)) | (at_lookup; refine wpList_lkI rfl (.tmp 83) (.tmp 85) 107 rfl Tryd.underlying9 Tryd.underlying107 Tryd.underlying3 (zeroInt _) Wm.heap.size k d q.name rfl (by repeat (first | (with_reducible assumption) | refine MapI.alloc ?_ | refine MapI.bel ?_ (by with_reducible assumption) | refine MapI.drew ?_)) rfl hs ?_) | (at_mapUpdate; refine wpList_stI rfl (.tmp 83) (.tmp 85) (.tmp 87) 107 rfl Tryd.underlying9 Tryd.underlying107 Tryd.underlying3 Wm.heap.size k d q.name ((d q.name).getD 0 + 1) rfl (by repeat (first | (with_reducible assumption) | refine MapI.alloc ?_ | refine MapI.bel ?_ (by with_reducible assumption) | refine MapI.drew ?_)) (by omega) rfl rfl hs (by omega) ?_; intro w2 hm2 hg2))
        go_roundw
        case rel => exact ⟨k + 1, _, by omega, by go_num, hm2, upd_count HD hdq0 hdq1, HR.out, bel_store belA hg2 (Nat.le_refl _)⟩
        case measure => simp [intOf]; omega
      obtain rfl : k = p.eqs.length := by omega
      rw [List.drop_length, eqGo] at hrem
      have hv1 : checkF p = endF d L p.ins.length := by rw [HV1.out, ← hrem]; rfl
      have HV2 := Lib.hid hv1; clear hv1 hrem HV1
      obtain ⟨We, rfl⟩ : ∃ We, We = wr := ⟨wr, rfl⟩
      have hme : Below w.heap.size w We := bel_grow hbm hbel (by omega)
      have hvae := hvam.later hbel
      have hr5 : Wm.heap.size < We.heap.size := by omega
      have hz0 : w.heap.size < Wm.heap.size := by omega
      have hz1 : w.heap.size + 1 < Wm.heap.size := by omega
      replace p1 := (hc _ _ hz0).trans p1
      replace f0 := (hc _ _ hz1).trans f0
      replace f1 := (hc _ _ hz1).trans f1
      replace f2 := (hc _ _ hz1).trans f2
      replace z0 := (hfz _ _ hz1).trans z0
      replace z1 := (hfz _ _ hz1).trans z1
      replace z2 := (hfz _ _ hz1).trans z2
      clear hc hfz hbm hbel hvam hpm4 hmm0
      have hil := HIL.out
      go_wp2_with fail
      go_loopw [13] (fun i wr => ∃ k : Nat, p.ins.length ≤ k ∧ k ≤ L.length ∧ i = .int .i64 k ∧ missGo d k (L.drop k) = missGo d p.ins.length (L.drop p.ins.length) ∧ Below We.heap.size We wr) (fun i _ => L.length - (intOf i).toNat)
      case atStart => exact ⟨p.ins.length, Nat.le_refl _, hil, rfl, rfl, belA⟩
      case round =>
        obtain ⟨k, hkl, hk, rfl, hrem, hbel⟩ := hrel
        have hc := bcell hbel
        have hfz := bfrozen hbel
        have hzr := hbel.size
        have hmr := hmd.bel hbel
        have hr6 : w.heap.size < wr.heap.size := by omega
        have hr7 : w.heap.size + 1 < wr.heap.size := by omega
        by_cases hlt : k < L.length
        · have hx : L[k]? = some L[k] := List.getElem?_eq_getElem hlt
          have hd : L.drop k = L[k] :: L.drop (k + 1) := List.drop_eq_getElem_cons hlt
          generalize L[k] = x at hx hd
          obtain ⟨b, off, rfl, hbb, ⟨d0, d1, d2, d3⟩⟩ := (hvae.later hbel).get hx
          rw [hd, missGo] at hrem
          have hs := HSM.out x (List.mem_of_getElem? hx)
          clear hd hx
          cases hcs : ((d x.name).getD 0 == 0)
          case true =>
            rw [if_pos (by simpa using hcs)] at hrem
            have hv : checkF p = (2, (k : Int), 8) := by rw [HV2.out, endF, ← hrem]
            clear hrem
            have HV := Lib.hid hv; clear hv
            go_wp2_with (first | (at_lookup; refine wpList_lkI rfl (.tmp 98) (.tmp 103) 107 rfl Tryd.underlying9 Tryd.underlying107 Tryd.underlying3 (zeroInt _) Wm.heap.size p.eqs.length d x.name rfl (by repeat (first | (with_reducible assumption) | refine MapI.alloc ?_ | refine MapI.bel ?_ (by with_reducible assumption) | refine MapI.drew ?_)) rfl hs ?_))
            refine bodyPost_ret (v := .agg #[.int .i64 (2), .int .i64 ((k : Int)), .int .i64 (8)]) (by simp [results, Tryd.results47, go_sem, *]) rfl ⟨by rw [HV.out], ?_⟩
            exact belS
          rw [if_neg (by simpa using hcs)] at hrem
          have HR := Lib.hid hrem; clear hrem
          go_wp2_with (first | (at_lookup; refine wpList_lkI rfl (.tmp 98) (.tmp 103) 107 rfl Tryd.underlying9 Tryd.underlying107 Tryd.underlying3 (zeroInt _) Wm.heap.size p.eqs.length d x.name rfl (by repeat (first | (with_reducible assumption) | refine MapI.alloc ?_ | refine MapI.bel ?_ (by with_reducible assumption) | refine MapI.drew ?_)) rfl hs ?_))
          go_roundw
          case rel => exact ⟨k + 1, by omega, by omega, by go_num, HR.out, belA⟩
          case measure => simp [intOf]; omega
        obtain rfl : k = L.length := by omega
        rw [List.drop_length, missGo] at hrem
        have hv : checkF p = (0, 0, 0) := by rw [HV2.out, endF, ← hrem]
        clear hrem
        have HV := Lib.hid hv; clear hv
        go_wp2_with fail
        refine bodyPost_ret (v := .agg #[.int .i64 (0), .int .i64 (0), .int .i64 (0)]) (by simp [results, Tryd.results47, go_sem, *]) rfl ⟨by rw [HV.out], ?_⟩
        exact belS

end Go.Proofs.YtknfcamdfdfoeaaDoor

/- Walk over kinds.Check (joined). -/
namespace Go.Proofs.YtknfcamdfdfoeaaDoor
open Go.RowKit Go.Sort

theorem check_any (p : Pr) (a : PrA) (w : World) (hp : PrAt w p a) (n1 : p.ins.length ≤ 1000000) (n2 : p.outs.length ≤ 1000000) (n3 : p.locals.length ≤ 1000000) (n4 : p.eqs.length ≤ 1000000) :
    Calls Tryd.prog 47 #[prV p a] w fun r w' => r = .returned (fV (checkF p)) ∧ Below w.heap.size w w' := by
  by_cases he : printE p = 0
  · by_cases hb : 8 < p.ins.length ∨ 8 < p.outs.length ∨ 24 < (varsOf p).length
    · exact check_big p a w hp n1 n2 n3 n4 he hb
    · exact check_small p a w hp n1 n2 n3 n4 he (by omega) (by omega) (by omega)
  · exact check_form p a w hp n1 n2 n3 n4 he

end Go.Proofs.YtknfcamdfdfoeaaDoor
