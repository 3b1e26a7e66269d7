/- Walk over house.of: merge, the others; joined. -/
import Derived.RegionTactic
import Derived.BigRegion
import Derived.Test.YtikmbkojnfmiaaaGreatDoorRRRRBG
set_option linter.unusedVariables false
set_option linter.unusedSimpArgs false
set_option maxRecDepth 100000
namespace Go.Proofs.YtikmbkojnfmiaaaGreatDoorRRRR
open Go.RowKit Go.Sort

set_option maxHeartbeats 4000000 in
set_option maxRecDepth 100000 in
theorem of_merge (l : List Va) (A : Option Addr) (cap : Nat) (hn : l.length ≤ 1000000) (e : Ex) (hf : e.formed = true) (ih : ∀ x ∈ e.sub, OfP l A cap x) (Ae : Option Addr) (ce : Nat) (ck : Int) (cs : ByteArray) (w : World) (hg : Always w) (he : SubsAt w e Ae ce) (hl : VarsAt w l A cap)
    (hk : e.kind = 10) :
    Calls Tryz.prog 35 #[.slice A l.length cap, exV e Ae ce, .agg #[.int .i64 ck, .string cs]] w fun r w' => r = .returned (.int .i64 (e.clk l (ck, cs))) ∧ Below w.heap.size w w' := by
  have hlen := formed_merge hf hk
  have htr := fun W h => truth_any l A cap e.name (ckEq ck cs 0 ⟨#[]⟩) W (hg.later h) (hl.later h) hn
  have ho : ownC l e.kind e.name ck cs = truthE l e.name (ckEq ck cs 0 ⟨#[]⟩) := by unfold ownC; rw [hk]; simp
  have hs1 : subC e.kind e.name (ck, cs) = (1, e.name) := by unfold subC; rw [hk]; simp
  have hs2 : subD e.kind e.name (ck, cs) = (2, e.name) := by unfold subD; rw [hk]; simp
  obtain ⟨x, hx⟩ : ∃ x, e.sub[0]? = some x := ⟨_, List.getElem?_eq_getElem (by omega)⟩
  obtain ⟨y, hy⟩ : ∃ y, e.sub[1]? = some y := ⟨_, List.getElem?_eq_getElem (by omega)⟩
  have hsub : e.sub = [x, y] := by
    match hm : e.sub, hlen with
    | [u, v], _ =>
      rw [hm] at hx hy
      simp at hx hy
      rw [hx, hy]
  have hcl : Ex.clkL l e.sub (1, e.name) (2, e.name) = if x.clk l (1, e.name) ≠ 0 then x.clk l (1, e.name) else y.clk l (2, e.name) := by
    rw [hsub]
    simp only [Ex.clkL]
    split
    · rfl
    · split
      · rfl
      · rename_i h; omega
  obtain ⟨b, off, X, cx, rfl, c0, c1, c2, c3, hsx⟩ := he.get hx
  obtain ⟨b', off', Y, cy, hb', d0, d1, d2, d3, hsy⟩ := he.get hy
  simp only [Option.some.injEq, Addr.mk.injEq, and_true] at hb'
  obtain ⟨rfl, rfl⟩ := hb'
  simp only [Nat.zero_mul, Nat.one_mul, Nat.add_zero] at c0 c1 c2 c3 d0 d1 d2 d3
  have ihx := fun W h => ih x (List.mem_of_getElem? hx) X cx 1 e.name W (hg.later h) (hsx.later h) (hl.later h)
  have ihy := fun W h => ih y (List.mem_of_getElem? hy) Y cy 2 e.name W (hg.later h) (hsy.later h) (hl.later h)
  have t3 : (e.kind == 3) = false := by rw [hk]; rfl
  have t8 : (e.kind == 8) = false := by rw [hk]; rfl
  have t9 : (e.kind == 9) = false := by rw [hk]; rfl
  have t10 : (e.kind == 10) = true := by rw [hk]; rfl
  have l0 : 0 < e.sub.length := by omega
  have l2 : 1 < e.sub.length := by omega
  have l1 : (1 : Int) < (e.sub.length : Int) := by omega
  have hgm := gmClock
  have hfq := fun w => eqClock ck cs 0 ⟨#[]⟩ w
  obtain ⟨a0, a1⟩ := hg
  have hgz : 0 < w.heap.size := block_lt_of_cell a0
  have hbz : b < w.heap.size := block_lt_of_cell c0
  have hbz4 : b < w.heap.size + 4 := by omega
  have hbz3 : b < w.heap.size + 3 := by omega
  have hbz2 : b < w.heap.size + 2 := by omega
  have hbz1 : b < w.heap.size + 1 := by omega
  clear hk hf ih hlen hsub hx hy
  unfold exV at *
  generalize ckEq ck cs 0 ⟨#[]⟩ = bq at *
  generalize htq : truthE l e.name bq = tq at *
  by_cases hz : tq = 0
  · subst hz
    have hv := clk_sub (c := (ck, cs)) ho
    rw [hs1, hs2, hcl] at hv
    generalize hxq : x.clk l (1, e.name) = xq at *
    generalize hyq : y.clk l (2, e.name) = yq at *
    clear ho hs1 hs2 htq hcl hxq hyq
    by_cases hz : xq = 0
    · subst hz
      rw [if_neg (by simp)] at hv
      have HV := Lib.hid hv; clear hv
      go_enter Tryz.func35, Tryz.ntmps35
      go_wp2_with fail
      go_region
      all_goals
        go_wp2_with fail
        refine wp_region_qb (by kernel_rfl) (by kernel_rfl) (fun hgq => ?_)
        repeat (quiet_step ((first | (go_at_call 44; exact Calls.regrown_of (htr _ belA)))))
        refine wpQuiet_nil ?_
        intro wq hwq
        replace hwq := bel_of_class hwq
        clear hgq
        have hcq := bcell hwq
        have hzq := hwq.size
        (try simp at hzq)
        (try have hyq1 := lt0 w wq); (try have hyq2 := ltA w 1 wq); (try have hyq3 := ltA w 2 wq); (try have hyq4 := lt0 wr wq)
        (try have hyg : 0 < wq.heap.size := by omega); (try have hyq5 := ltA w 3 wq)
        have hbq : b < wq.heap.size := by omega
        obtain ⟨wp, rfl⟩ : ∃ wp, wp = wq := ⟨wq, rfl⟩
        have hwp := hwq
        clear hwq
        go_wp2_with fail
        refine wp_region_qb (by kernel_rfl) (by kernel_rfl) (fun hgq => ?_)
        repeat (quiet_step ((first | (go_at_call 35; exact Calls.regrown_of (ihx _ belA)))))
        refine wpQuiet_nil ?_
        intro wq hwq
        replace hwq := bel_of_class hwq
        clear hgq
        have hcq := bcell hwq
        have hzq := hwq.size
        (try simp at hzq)
        (try have hyq1 := lt0 w wq); (try have hyq2 := ltA w 1 wq); (try have hyq3 := ltA w 2 wq); (try have hyq4 := lt0 wr wq)
        (try have hyg : 0 < wq.heap.size := by omega); (try have hyq5 := ltA w 3 wq)
        have hbq2 : b < wq.heap.size := by omega
        obtain ⟨wo, rfl⟩ : ∃ wo, wo = wq := ⟨wq, rfl⟩
        have hwo := hwq
        clear hwq
        go_wp2_with fail
        refine wp_region_qb (by kernel_rfl) (by kernel_rfl) (fun hgq => ?_)
        repeat (quiet_step ((first | (go_at_call 35; exact Calls.regrown_of (ihy _ belA)))))
        refine wpQuiet_nil ?_
        intro wq hwq
        replace hwq := bel_of_class hwq
        clear hgq
        have hcq := bcell hwq
        have hzq := hwq.size
        (try simp at hzq)
        (try have hyq1 := lt0 w wq); (try have hyq2 := ltA w 1 wq); (try have hyq3 := ltA w 2 wq); (try have hyq4 := lt0 wr wq)
        go_wp2_with fail
        go_ret
        exact ⟨ret_int HV.out.symm, belA⟩
    · rw [if_pos hz] at hv
      have t1 : (xq != 0) = true := by simpa using hz
      clear hz
      have HV := Lib.hid hv; clear hv
      go_enter Tryz.func35, Tryz.ntmps35
      go_wp2_with fail
      go_region
      all_goals
        go_wp2_with fail
        refine wp_region_qb (by kernel_rfl) (by kernel_rfl) (fun hgq => ?_)
        repeat (quiet_step ((first | (go_at_call 44; exact Calls.regrown_of (htr _ belA)))))
        refine wpQuiet_nil ?_
        intro wq hwq
        replace hwq := bel_of_class hwq
        clear hgq
        have hcq := bcell hwq
        have hzq := hwq.size
        (try simp at hzq)
        (try have hyq1 := lt0 w wq); (try have hyq2 := ltA w 1 wq); (try have hyq3 := ltA w 2 wq); (try have hyq4 := lt0 wr wq)
        (try have hyg : 0 < wq.heap.size := by omega); (try have hyq5 := ltA w 3 wq)
        have hbq : b < wq.heap.size := by omega
        obtain ⟨wp, rfl⟩ : ∃ wp, wp = wq := ⟨wq, rfl⟩
        have hwp := hwq
        clear hwq
        go_wp2_with fail
        refine wp_region_qb (by kernel_rfl) (by kernel_rfl) (fun hgq => ?_)
        repeat (quiet_step ((first | (go_at_call 35; exact Calls.regrown_of (ihx _ belA)))))
        refine wpQuiet_nil ?_
        intro wq hwq
        replace hwq := bel_of_class hwq
        clear hgq
        have hcq := bcell hwq
        have hzq := hwq.size
        (try simp at hzq)
        (try have hyq1 := lt0 w wq); (try have hyq2 := ltA w 1 wq); (try have hyq3 := ltA w 2 wq); (try have hyq4 := lt0 wr wq)
        go_wp2_with fail
        go_ret
        exact ⟨ret_int HV.out.symm, belA⟩
  · have hv := clk_own (c := (ck, cs)) ho hz
    have t1 : (tq != 0) = true := by simpa using hz
    clear ho hs1 hs2 htq hz hcl
    have HV := Lib.hid hv; clear hv
    go_enter Tryz.func35, Tryz.ntmps35
    go_wp2_with fail
    go_region
    all_goals
      go_wp2_with fail
      refine wp_region_qb (by kernel_rfl) (by kernel_rfl) (fun hgq => ?_)
      repeat (quiet_step ((first | (go_at_call 44; exact Calls.regrown_of (htr _ belA)))))
      refine wpQuiet_nil ?_
      intro wq hwq
      replace hwq := bel_of_class hwq
      clear hgq
      have hcq := bcell hwq
      have hzq := hwq.size
      (try simp at hzq)
      (try have hyq1 := lt0 w wq); (try have hyq2 := ltA w 1 wq); (try have hyq3 := ltA w 2 wq); (try have hyq4 := lt0 wr wq)
      (try have hyg : 0 < wq.heap.size := by omega); (try have hyq5 := ltA w 3 wq)
      go_wp2_with fail
      go_ret
      exact ⟨ret_int HV.out.symm, belA⟩

set_option maxHeartbeats 4000000 in
set_option maxRecDepth 100000 in
theorem of_other (l : List Va) (A : Option Addr) (cap : Nat) (hn : l.length ≤ 1000000) (e : Ex) (hf : e.formed = true) (ih : ∀ x ∈ e.sub, OfP l A cap x) (Ae : Option Addr) (ce : Nat) (ck : Int) (cs : ByteArray) (w : World) (hg : Always w) (he : SubsAt w e Ae ce) (hl : VarsAt w l A cap)
    (hk : e.kind ≠ 3 ∧ e.kind ≠ 8 ∧ e.kind ≠ 9 ∧ e.kind ≠ 10) :
    Calls Tryz.prog 35 #[.slice A l.length cap, exV e Ae ce, .agg #[.int .i64 ck, .string cs]] w fun r w' => r = .returned (.int .i64 (e.clk l (ck, cs))) ∧ Below w.heap.size w w' := by
  have hall := fun c s W h => all_any l A cap e ih Ae ce c s W (hg.later h) (he.later h) (hl.later h)
  obtain ⟨h3, h8, h9, h10⟩ := hk
  have ho : ownC l e.kind e.name ck cs = 0 := by unfold ownC; rw [if_neg h3, if_neg h8, if_neg h9, if_neg h10]
  have hs1 : subC e.kind e.name (ck, cs) = (ck, cs) := by unfold subC; rw [if_neg (by omega), if_neg (by omega)]
  have hs2 : subD e.kind e.name (ck, cs) = (ck, cs) := by unfold subD; rw [if_neg (by omega), if_neg (by omega)]
  have t3 : (e.kind == 3) = false := by simpa using h3
  have t8 : (e.kind == 8) = false := by simpa using h8
  have t9 : (e.kind == 9) = false := by simpa using h9
  have t10 : (e.kind == 10) = false := by simpa using h10
  have hv := clk_sub (c := (ck, cs)) ho
  rw [hs1, hs2] at hv
  clear ho hs1 hs2 hf ih h3 h8 h9 h10
  unfold exV
  have HV := Lib.hid hv; clear hv
  go_enter Tryz.func35, Tryz.ntmps35
  go_wp2_with fail
  go_region
  all_goals
    go_wp2_with (first | (go_at_call 45; refine (hall _ _ _ belA).mono ?_; rintro r w1 ⟨rfl, hb1⟩; have hc1 := bcell hb1; have hz1 := hb1.size; (try simp at hz1); (try have hy1 := lt0 w w1); (try have hy2 := ltA w 1 w1); (try have hy3 := ltA w 2 w1); (try have hy4 := lt0 wr w1); (try have hy5 := ltA wr 1 w1); (try have hy6 := ltA w 3 w1); (try have hgy1 : 0 < w1.heap.size := by omega)))
    go_ret
    exact ⟨ret_int HV.out.symm, belA⟩

end Go.Proofs.YtikmbkojnfmiaaaGreatDoorRRRR
