/- Walk over kinds.look.of: the kinds 10. -/
import Derived.Test.YtikmbkojnfmiaaaGreatDoorRRRRBD
set_option linter.unusedVariables false
set_option linter.unusedSimpArgs false
set_option maxRecDepth 100000
namespace Go.Proofs.YtikmbkojnfmiaaaGreatDoorRRRR
open Go.RowKit Go.Sort

set_option maxHeartbeats 4000000 in
set_option maxRecDepth 100000 in
theorem of_k10 (e : Ex) (l : List Va) (A : Option Addr) (cap B : Nat) (Ae : Option Addr) (ce : Nat) (w : World) (t0 t1 : Int) (hk : e.kind = 10) (hts : Ex.typL l e.sub = ([t0, t1], 0)) (ht0 : t0 = 1 ∨ t0 = 2) (ht1 : t1 = 1 ∨ t1 = 2) (hbn : e.name.toList.isEmpty = false) (hbt : (typeOfP l e.name).2 = true)
    (hparts : OfParts e l A cap B Ae ce w) (htype : OfType e l A cap B w) :
    Calls Tryz.prog 57 #[lookV l A cap B, exV e Ae ce] w fun r w' => r = .returned (.tuple #[.int .i64 (e.typ l).1, .int .i64 (e.typ l).2]) ∧ Below w.heap.size w w' := by
  have hv : e.typ l = typK l e.kind e.n e.name [t0, t1] := by rw [Ex.typ_eq, hts]; rfl
  rw [hk, typK, if_neg (by rintro ⟨h1, h2⟩; simp_all)] at hv
  have hpl : (Ex.typL l e.sub).1 = [t0, t1] := by rw [hts]
  have hpe : (Ex.typL l e.sub).2 = 0 := by rw [hts]
  clear hts
  unfold OfParts at hparts
  unfold OfType at htype
  have q1 : (e.kind == 1) = false := by rw [hk]; rfl
  have q2 : (e.kind == 2) = false := by rw [hk]; rfl
  have q3 : (e.kind == 3) = false := by rw [hk]; rfl
  have q4 : (e.kind == 4) = false := by rw [hk]; rfl
  have q5 : (e.kind == 5) = false := by rw [hk]; rfl
  have q6 : (e.kind == 6) = false := by rw [hk]; rfl
  have q7 : (e.kind == 7) = false := by rw [hk]; rfl
  have q8 : (e.kind == 8) = false := by rw [hk]; rfl
  have q9 : (e.kind == 9) = false := by rw [hk]; rfl
  have q10 : (e.kind == 10) = true := by rw [hk]; rfl
  clear hk
  unfold lookV exV at *
  generalize hnm : (typeOfP l e.name).1 = nm at hv htype
  clear hnm
  have hv0 : ∀ (p q : Bool), (nm == 2) = p → (t0 == t1) = q → e.typ l = if (p && q) = true ∧ (t0 = 1 ∨ t0 = 2) then (t0, 0) else (0, 20) := by
    rintro p q rfl rfl; rw [hv]; rfl
  clear hv
  cases a : (nm == 2)
  · have hv : e.typ l = (0, 20) := by rw [hv0 _ _ a rfl]; rfl
    clear hv0
    have HV := Lib.hid hv; clear hv
    go_enter Tryz.func57, Tryz.ntmps57
    go_wp2_with (first | (go_at_call 75; refine (hparts _ belA).mono ?_; rintro r w1 ⟨⟨v, rfl, hown⟩, hb1⟩; have hc1 := bcell hb1; have hz1 := hb1.size; (try simp at hz1); (try have hy1 := lt0 w w1); (try have hy2 := ltA w 1 w1); (try have hy3 := ltA w 2 w1); (try have hy4 := lt0 wr w1); (try have hy5 := ltA wr 1 w1); rw [hpl] at hown; simp only [List.map_cons, List.map_nil, List.length_cons, List.length_nil, Nat.zero_add, Nat.reduceAdd] at hown; obtain ⟨g, gc, rfl, hg1, hg2, hg3, hg4, hcells⟩ := own_get hown (by omega); unfold maxLen at hg4; have e0 := hcells 0 _ rfl; have e1 := hcells 1 _ rfl; clear hcells hown) | (go_at_call 76; refine (htype _ belA).mono ?_; rintro r w1 ⟨rfl, hb1⟩; have hc1 := bcell hb1; have hz1 := hb1.size; (try simp at hz1); (try have hy1 := lt0 w w1); (try have hy2 := ltA w 1 w1); (try have hy3 := ltA w 2 w1); (try have hy4 := lt0 wr w1); (try have hy5 := ltA wr 1 w1); (try have hgz := Nat.lt_of_lt_of_le hg2 hb1.size)))
    refine wp_region_qb (by kernel_rfl) (by kernel_rfl) (fun hgq => ?_)
    repeat (quiet_step (fail))
    refine wpQuiet_nil ?_
    intro wq hwq
    replace hwq := bel_of_class hwq
    clear hgq
    have hcq := bcell hwq
    have hzq := hwq.size
    (try simp at hzq)
    (try have hyq1 := lt0 w wq); (try have hyq2 := ltA w 1 wq); (try have hyq3 := ltA w 2 wq); (try have hyq4 := lt0 wr wq)
    go_wp2_with fail
    go_ret2
    exact ⟨by rw [HV.out]; rfl, belA⟩
  cases b : (t0 == t1)
  · have hv : e.typ l = (0, 20) := by rw [hv0 _ _ a b]; rfl
    clear hv0
    have HV := Lib.hid hv; clear hv
    go_enter Tryz.func57, Tryz.ntmps57
    go_wp2_with (first | (go_at_call 75; refine (hparts _ belA).mono ?_; rintro r w1 ⟨⟨v, rfl, hown⟩, hb1⟩; have hc1 := bcell hb1; have hz1 := hb1.size; (try simp at hz1); (try have hy1 := lt0 w w1); (try have hy2 := ltA w 1 w1); (try have hy3 := ltA w 2 w1); (try have hy4 := lt0 wr w1); (try have hy5 := ltA wr 1 w1); rw [hpl] at hown; simp only [List.map_cons, List.map_nil, List.length_cons, List.length_nil, Nat.zero_add, Nat.reduceAdd] at hown; obtain ⟨g, gc, rfl, hg1, hg2, hg3, hg4, hcells⟩ := own_get hown (by omega); unfold maxLen at hg4; have e0 := hcells 0 _ rfl; have e1 := hcells 1 _ rfl; clear hcells hown) | (go_at_call 76; refine (htype _ belA).mono ?_; rintro r w1 ⟨rfl, hb1⟩; have hc1 := bcell hb1; have hz1 := hb1.size; (try simp at hz1); (try have hy1 := lt0 w w1); (try have hy2 := ltA w 1 w1); (try have hy3 := ltA w 2 w1); (try have hy4 := lt0 wr w1); (try have hy5 := ltA wr 1 w1); (try have hgz := Nat.lt_of_lt_of_le hg2 hb1.size)))
    refine wp_region_qb (by kernel_rfl) (by kernel_rfl) (fun hgq => ?_)
    repeat (quiet_step (fail))
    refine wpQuiet_nil ?_
    intro wq hwq
    replace hwq := bel_of_class hwq
    clear hgq
    have hcq := bcell hwq
    have hzq := hwq.size
    (try simp at hzq)
    (try have hyq1 := lt0 w wq); (try have hyq2 := ltA w 1 wq); (try have hyq3 := ltA w 2 wq); (try have hyq4 := lt0 wr wq)
    go_wp2_with fail
    go_ret2
    exact ⟨by rw [HV.out]; rfl, belA⟩
  have hv := hv0 _ _ a b
  clear hv0
  rcases ht0 with rfl | rfl
  · replace hv : e.typ l = (1, 0) := hv
    have HV := Lib.hid hv; clear hv
    go_enter Tryz.func57, Tryz.ntmps57
    go_wp2_with (first | (go_at_call 75; refine (hparts _ belA).mono ?_; rintro r w1 ⟨⟨v, rfl, hown⟩, hb1⟩; have hc1 := bcell hb1; have hz1 := hb1.size; (try simp at hz1); (try have hy1 := lt0 w w1); (try have hy2 := ltA w 1 w1); (try have hy3 := ltA w 2 w1); (try have hy4 := lt0 wr w1); (try have hy5 := ltA wr 1 w1); rw [hpl] at hown; simp only [List.map_cons, List.map_nil, List.length_cons, List.length_nil, Nat.zero_add, Nat.reduceAdd] at hown; obtain ⟨g, gc, rfl, hg1, hg2, hg3, hg4, hcells⟩ := own_get hown (by omega); unfold maxLen at hg4; have e0 := hcells 0 _ rfl; have e1 := hcells 1 _ rfl; clear hcells hown) | (go_at_call 76; refine (htype _ belA).mono ?_; rintro r w1 ⟨rfl, hb1⟩; have hc1 := bcell hb1; have hz1 := hb1.size; (try simp at hz1); (try have hy1 := lt0 w w1); (try have hy2 := ltA w 1 w1); (try have hy3 := ltA w 2 w1); (try have hy4 := lt0 wr w1); (try have hy5 := ltA wr 1 w1); (try have hgz := Nat.lt_of_lt_of_le hg2 hb1.size)))
    refine wp_region_qb (by kernel_rfl) (by kernel_rfl) (fun hgq => ?_)
    repeat (quiet_step (fail))
    refine wpQuiet_nil ?_
    intro wq hwq
    replace hwq := bel_of_class hwq
    clear hgq
    have hcq := bcell hwq
    have hzq := hwq.size
    (try simp at hzq)
    (try have hyq1 := lt0 w wq); (try have hyq2 := ltA w 1 wq); (try have hyq3 := ltA w 2 wq); (try have hyq4 := lt0 wr wq)
    go_wp2_with fail
    go_ret2
    exact ⟨by rw [HV.out]; rfl, belA⟩
  · replace hv : e.typ l = (2, 0) := hv
    have HV := Lib.hid hv; clear hv
    go_enter Tryz.func57, Tryz.ntmps57
    go_wp2_with (first | (go_at_call 75; refine (hparts _ belA).mono ?_; rintro r w1 ⟨⟨v, rfl, hown⟩, hb1⟩; have hc1 := bcell hb1; have hz1 := hb1.size; (try simp at hz1); (try have hy1 := lt0 w w1); (try have hy2 := ltA w 1 w1); (try have hy3 := ltA w 2 w1); (try have hy4 := lt0 wr w1); (try have hy5 := ltA wr 1 w1); rw [hpl] at hown; simp only [List.map_cons, List.map_nil, List.length_cons, List.length_nil, Nat.zero_add, Nat.reduceAdd] at hown; obtain ⟨g, gc, rfl, hg1, hg2, hg3, hg4, hcells⟩ := own_get hown (by omega); unfold maxLen at hg4; have e0 := hcells 0 _ rfl; have e1 := hcells 1 _ rfl; clear hcells hown) | (go_at_call 76; refine (htype _ belA).mono ?_; rintro r w1 ⟨rfl, hb1⟩; have hc1 := bcell hb1; have hz1 := hb1.size; (try simp at hz1); (try have hy1 := lt0 w w1); (try have hy2 := ltA w 1 w1); (try have hy3 := ltA w 2 w1); (try have hy4 := lt0 wr w1); (try have hy5 := ltA wr 1 w1); (try have hgz := Nat.lt_of_lt_of_le hg2 hb1.size)))
    refine wp_region_qb (by kernel_rfl) (by kernel_rfl) (fun hgq => ?_)
    repeat (quiet_step (fail))
    refine wpQuiet_nil ?_
    intro wq hwq
    replace hwq := bel_of_class hwq
    clear hgq
    have hcq := bcell hwq
    have hzq := hwq.size
    (try simp at hzq)
    (try have hyq1 := lt0 w wq); (try have hyq2 := ltA w 1 wq); (try have hyq3 := ltA w 2 wq); (try have hyq4 := lt0 wr wq)
    go_wp2_with fail
    go_ret2
    exact ⟨by rw [HV.out]; rfl, belA⟩

end Go.Proofs.YtikmbkojnfmiaaaGreatDoorRRRR
