/- Walk over kinds.look.of: the kinds 7, 8, 9. -/
import Derived.Test.YtknfcamdfdfoeaaDoorZ12
import Derived.Test.YtknfcamdfdfoeaaDoorZ06
set_option linter.unusedVariables false
set_option linter.unusedSimpArgs false
set_option maxRecDepth 100000
namespace Go.Proofs.YtknfcamdfdfoeaaDoor
open Go.RowKit Go.Sort

set_option maxHeartbeats 4000000 in
set_option maxRecDepth 100000 in
theorem of_k7 (e : Ex) (l : List Va) (A : Option Addr) (cap B : Nat) (Ae : Option Addr) (ce : Nat) (w : World) (t0 t1 : Int) (hk : e.kind = 7) (hts : Ex.typL l e.sub = ([t0, t1], 0)) (ht0 : t0 = 1 ∨ t0 = 2) (ht1 : t1 = 1 ∨ t1 = 2) (hbn : e.name.toList.isEmpty = true)
    (hparts : OfParts e l A cap B Ae ce w) (htype : OfType e l A cap B w) :
    Calls Tryd.prog 69 #[lookV l A cap B, exV e Ae ce] w fun r w' => r = .returned (.tuple #[.int .i64 (e.typ l).1, .int .i64 (e.typ l).2]) ∧ Below w.heap.size w w' := by
  have hv : e.typ l = typK l e.kind e.n e.name [t0, t1] := by rw [Ex.typ_eq, hts]; rfl
  rw [hk, typK, if_neg (by rintro ⟨h1, h2⟩; simp_all)] at hv
  have hpl : (Ex.typL l e.sub).1 = [t0, t1] := by rw [hts]
  have hpe : (Ex.typL l e.sub).2 = 0 := by rw [hts]
  clear hts
  unfold OfParts at hparts
  unfold OfType at htype
  have q1 : (e.kind == 1) = false := by rw [hk]; rfl
  have q2 : (e.kind == 2) = false := by rw [hk]; rfl
  have q3 : (e.kind == 3) = false := by rw [hk]; rfl
  have q4 : (e.kind == 4) = false := by rw [hk]; rfl
  have q5 : (e.kind == 5) = false := by rw [hk]; rfl
  have q6 : (e.kind == 6) = false := by rw [hk]; rfl
  have q7 : (e.kind == 7) = true := by rw [hk]; rfl
  clear hk
  unfold lookV exV at *
  rcases ht0 with rfl | rfl <;> rcases ht1 with rfl | rfl <;> 
  · simp [outK, endK] at hv
    have HV := Lib.hid hv; clear hv
    go_enter Tryd.func69, Tryd.ntmps69
    go_wp2_with (first | (go_at_call 78; refine (hparts _ belA).mono ?_; rintro r w1 ⟨⟨v, rfl, hown⟩, hb1⟩; have hc1 := bcell hb1; have hz1 := hb1.size; (try simp at hz1); (try have hy1 := lt0 w w1); (try have hy2 := ltA w 1 w1); (try have hy3 := ltA w 2 w1); (try have hy4 := lt0 wr w1); (try have hy5 := ltA wr 1 w1); rw [hpl] at hown; simp only [List.map_cons, List.map_nil, List.length_cons, List.length_nil, Nat.zero_add, Nat.reduceAdd] at hown; obtain ⟨g, gc, rfl, hg1, hg2, hg3, hg4, hcells⟩ := own_get hown (by omega); unfold maxLen at hg4; have e0 := hcells 0 _ rfl; have e1 := hcells 1 _ rfl; clear hcells hown) | (go_at_call 79; refine (htype _ belA).mono ?_; rintro r w1 ⟨rfl, hb1⟩; have hc1 := bcell hb1; have hz1 := hb1.size; (try simp at hz1); (try have hy1 := lt0 w w1); (try have hy2 := ltA w 1 w1); (try have hy3 := ltA w 2 w1); (try have hy4 := lt0 wr w1); (try have hy5 := ltA wr 1 w1); (try have hgz := Nat.lt_of_lt_of_le hg2 hb1.size)))
    refine wp_region_qb (by kernel_rfl) (by kernel_rfl) (fun hgq => ?_)
    repeat (quiet_step (fail))
    refine wpQuiet_nil ?_
    intro wq hwq
    replace hwq := bel_of_class hwq
    clear hgq
    have hcq := bcell hwq
    have hzq := hwq.size
    (try simp at hzq)
    (try have hyq1 := lt0 w wq); (try have hyq2 := ltA w 1 wq); (try have hyq3 := ltA w 2 wq); (try have hyq4 := lt0 wr wq)
    go_wp2_with fail
    go_ret2
    exact ⟨by rw [HV.out]; rfl, belA⟩

set_option maxHeartbeats 4000000 in
set_option maxRecDepth 100000 in
theorem of_k8 (e : Ex) (l : List Va) (A : Option Addr) (cap B : Nat) (Ae : Option Addr) (ce : Nat) (w : World) (t0 : Int) (hk : e.kind = 8) (hts : Ex.typL l e.sub = ([t0], 0)) (ht0 : t0 = 1 ∨ t0 = 2) (hbn : e.name.toList.isEmpty = false) (hbt : (typeOfP l e.name).2 = true)
    (hparts : OfParts e l A cap B Ae ce w) (htype : OfType e l A cap B w) :
    Calls Tryd.prog 69 #[lookV l A cap B, exV e Ae ce] w fun r w' => r = .returned (.tuple #[.int .i64 (e.typ l).1, .int .i64 (e.typ l).2]) ∧ Below w.heap.size w w' := by
  have hv : e.typ l = typK l e.kind e.n e.name [t0] := by rw [Ex.typ_eq, hts]; rfl
  rw [hk, typK, if_neg (by rintro ⟨h1, h2⟩; simp_all)] at hv
  have hpl : (Ex.typL l e.sub).1 = [t0] := by rw [hts]
  have hpe : (Ex.typL l e.sub).2 = 0 := by rw [hts]
  clear hts
  unfold OfParts at hparts
  unfold OfType at htype
  have q1 : (e.kind == 1) = false := by rw [hk]; rfl
  have q2 : (e.kind == 2) = false := by rw [hk]; rfl
  have q3 : (e.kind == 3) = false := by rw [hk]; rfl
  have q4 : (e.kind == 4) = false := by rw [hk]; rfl
  have q5 : (e.kind == 5) = false := by rw [hk]; rfl
  have q6 : (e.kind == 6) = false := by rw [hk]; rfl
  have q7 : (e.kind == 7) = false := by rw [hk]; rfl
  have q8 : (e.kind == 8) = true := by rw [hk]; rfl
  clear hk
  unfold lookV exV at *
  generalize hnm : (typeOfP l e.name).1 = nm at hv htype
  clear hnm
  rcases ht0 with rfl | rfl <;> cases hn2 : (nm == 2) <;> 
  · simp [outK, endK, hn2] at hv
    have HV := Lib.hid hv; clear hv
    go_enter Tryd.func69, Tryd.ntmps69
    go_wp2_with (first | (go_at_call 78; refine (hparts _ belA).mono ?_; rintro r w1 ⟨⟨v, rfl, hown⟩, hb1⟩; have hc1 := bcell hb1; have hz1 := hb1.size; (try simp at hz1); (try have hy1 := lt0 w w1); (try have hy2 := ltA w 1 w1); (try have hy3 := ltA w 2 w1); (try have hy4 := lt0 wr w1); (try have hy5 := ltA wr 1 w1); rw [hpl] at hown; simp only [List.map_cons, List.map_nil, List.length_cons, List.length_nil, Nat.zero_add, Nat.reduceAdd] at hown; obtain ⟨g, gc, rfl, hg1, hg2, hg3, hg4, hcells⟩ := own_get hown (by omega); unfold maxLen at hg4; have e0 := hcells 0 _ rfl; clear hcells hown) | (go_at_call 79; refine (htype _ belA).mono ?_; rintro r w1 ⟨rfl, hb1⟩; have hc1 := bcell hb1; have hz1 := hb1.size; (try simp at hz1); (try have hy1 := lt0 w w1); (try have hy2 := ltA w 1 w1); (try have hy3 := ltA w 2 w1); (try have hy4 := lt0 wr w1); (try have hy5 := ltA wr 1 w1); (try have hgz := Nat.lt_of_lt_of_le hg2 hb1.size)))
    go_ret2
    exact ⟨by rw [HV.out]; rfl, belA⟩

set_option maxHeartbeats 4000000 in
set_option maxRecDepth 100000 in
theorem of_k9 (e : Ex) (l : List Va) (A : Option Addr) (cap B : Nat) (Ae : Option Addr) (ce : Nat) (w : World) (t0 : Int) (hk : e.kind = 9) (hts : Ex.typL l e.sub = ([t0], 0)) (ht0 : t0 = 1 ∨ t0 = 2) (hbn : e.name.toList.isEmpty = false) (hbt : (typeOfP l e.name).2 = true)
    (hparts : OfParts e l A cap B Ae ce w) (htype : OfType e l A cap B w) :
    Calls Tryd.prog 69 #[lookV l A cap B, exV e Ae ce] w fun r w' => r = .returned (.tuple #[.int .i64 (e.typ l).1, .int .i64 (e.typ l).2]) ∧ Below w.heap.size w w' := by
  have hv : e.typ l = typK l e.kind e.n e.name [t0] := by rw [Ex.typ_eq, hts]; rfl
  rw [hk, typK, if_neg (by rintro ⟨h1, h2⟩; simp_all)] at hv
  have hpl : (Ex.typL l e.sub).1 = [t0] := by rw [hts]
  have hpe : (Ex.typL l e.sub).2 = 0 := by rw [hts]
  clear hts
  unfold OfParts at hparts
  unfold OfType at htype
  have q1 : (e.kind == 1) = false := by rw [hk]; rfl
  have q2 : (e.kind == 2) = false := by rw [hk]; rfl
  have q3 : (e.kind == 3) = false := by rw [hk]; rfl
  have q4 : (e.kind == 4) = false := by rw [hk]; rfl
  have q5 : (e.kind == 5) = false := by rw [hk]; rfl
  have q6 : (e.kind == 6) = false := by rw [hk]; rfl
  have q7 : (e.kind == 7) = false := by rw [hk]; rfl
  have q8 : (e.kind == 8) = false := by rw [hk]; rfl
  have q9 : (e.kind == 9) = true := by rw [hk]; rfl
  clear hk
  unfold lookV exV at *
  generalize hnm : (typeOfP l e.name).1 = nm at hv htype
  clear hnm
  rcases ht0 with rfl | rfl <;> cases hn2 : (nm == 2) <;> 
  · simp [outK, endK, hn2] at hv
    have HV := Lib.hid hv; clear hv
    go_enter Tryd.func69, Tryd.ntmps69
    go_wp2_with (first | (go_at_call 78; refine (hparts _ belA).mono ?_; rintro r w1 ⟨⟨v, rfl, hown⟩, hb1⟩; have hc1 := bcell hb1; have hz1 := hb1.size; (try simp at hz1); (try have hy1 := lt0 w w1); (try have hy2 := ltA w 1 w1); (try have hy3 := ltA w 2 w1); (try have hy4 := lt0 wr w1); (try have hy5 := ltA wr 1 w1); rw [hpl] at hown; simp only [List.map_cons, List.map_nil, List.length_cons, List.length_nil, Nat.zero_add, Nat.reduceAdd] at hown; obtain ⟨g, gc, rfl, hg1, hg2, hg3, hg4, hcells⟩ := own_get hown (by omega); unfold maxLen at hg4; have e0 := hcells 0 _ rfl; clear hcells hown) | (go_at_call 79; refine (htype _ belA).mono ?_; rintro r w1 ⟨rfl, hb1⟩; have hc1 := bcell hb1; have hz1 := hb1.size; (try simp at hz1); (try have hy1 := lt0 w w1); (try have hy2 := ltA w 1 w1); (try have hy3 := ltA w 2 w1); (try have hy4 := lt0 wr w1); (try have hy5 := ltA wr 1 w1); (try have hgz := Nat.lt_of_lt_of_le hg2 hb1.size)))
    go_ret2
    exact ⟨by rw [HV.out]; rfl, belA⟩

end Go.Proofs.YtknfcamdfdfoeaaDoor

/- Walk over kinds.look.of: the kinds 10. -/
namespace Go.Proofs.YtknfcamdfdfoeaaDoor
open Go.RowKit Go.Sort

set_option maxHeartbeats 4000000 in
set_option maxRecDepth 100000 in
theorem of_k10 (e : Ex) (l : List Va) (A : Option Addr) (cap B : Nat) (Ae : Option Addr) (ce : Nat) (w : World) (t0 t1 : Int) (hk : e.kind = 10) (hts : Ex.typL l e.sub = ([t0, t1], 0)) (ht0 : t0 = 1 ∨ t0 = 2) (ht1 : t1 = 1 ∨ t1 = 2) (hbn : e.name.toList.isEmpty = false) (hbt : (typeOfP l e.name).2 = true)
    (hparts : OfParts e l A cap B Ae ce w) (htype : OfType e l A cap B w) :
    Calls Tryd.prog 69 #[lookV l A cap B, exV e Ae ce] w fun r w' => r = .returned (.tuple #[.int .i64 (e.typ l).1, .int .i64 (e.typ l).2]) ∧ Below w.heap.size w w' := by
  have hv : e.typ l = typK l e.kind e.n e.name [t0, t1] := by rw [Ex.typ_eq, hts]; rfl
  rw [hk, typK, if_neg (by rintro ⟨h1, h2⟩; simp_all)] at hv
  have hpl : (Ex.typL l e.sub).1 = [t0, t1] := by rw [hts]
  have hpe : (Ex.typL l e.sub).2 = 0 := by rw [hts]
  clear hts
  unfold OfParts at hparts
  unfold OfType at htype
  have q1 : (e.kind == 1) = false := by rw [hk]; rfl
  have q2 : (e.kind == 2) = false := by rw [hk]; rfl
  have q3 : (e.kind == 3) = false := by rw [hk]; rfl
  have q4 : (e.kind == 4) = false := by rw [hk]; rfl
  have q5 : (e.kind == 5) = false := by rw [hk]; rfl
  have q6 : (e.kind == 6) = false := by rw [hk]; rfl
  have q7 : (e.kind == 7) = false := by rw [hk]; rfl
  have q8 : (e.kind == 8) = false := by rw [hk]; rfl
  have q9 : (e.kind == 9) = false := by rw [hk]; rfl
  have q10 : (e.kind == 10) = true := by rw [hk]; rfl
  clear hk
  unfold lookV exV at *
  generalize hnm : (typeOfP l e.name).1 = nm at hv htype
  clear hnm
  have hv0 : ∀ (p q : Bool), (nm == 2) = p → (t0 == t1) = q → e.typ l = if (p && q) = true ∧ (t0 = 1 ∨ t0 = 2) then (t0, 0) else (0, 20) := by
    rintro p q rfl rfl; rw [hv]; rfl
  clear hv
  cases a : (nm == 2)
  · have hv : e.typ l = (0, 20) := by rw [hv0 _ _ a rfl]; rfl
    clear hv0
    have HV := Lib.hid hv; clear hv
    go_enter Tryd.func69, Tryd.ntmps69
    go_wp2_with (first | (go_at_call 78; refine (hparts _ belA).mono ?_; rintro r w1 ⟨⟨v, rfl, hown⟩, hb1⟩; have hc1 := bcell hb1; have hz1 := hb1.size; (try simp at hz1); (try have hy1 := lt0 w w1); (try have hy2 := ltA w 1 w1); (try have hy3 := ltA w 2 w1); (try have hy4 := lt0 wr w1); (try have hy5 := ltA wr 1 w1); rw [hpl] at hown; simp only [List.map_cons, List.map_nil, List.length_cons, List.length_nil, Nat.zero_add, Nat.reduceAdd] at hown; obtain ⟨g, gc, rfl, hg1, hg2, hg3, hg4, hcells⟩ := own_get hown (by omega); unfold maxLen at hg4; have e0 := hcells 0 _ rfl; have e1 := hcells 1 _ rfl; clear hcells hown) | (go_at_call 79; refine (htype _ belA).mono ?_; rintro r w1 ⟨rfl, hb1⟩; have hc1 := bcell hb1; have hz1 := hb1.size; (try simp at hz1); (try have hy1 := lt0 w w1); (try have hy2 := ltA w 1 w1); (try have hy3 := ltA w 2 w1); (try have hy4 := lt0 wr w1); (try have hy5 := ltA wr 1 w1); (try have hgz := Nat.lt_of_lt_of_le hg2 hb1.size)))
    refine wp_region_qb (by kernel_rfl) (by kernel_rfl) (fun hgq => ?_)
    repeat (quiet_step (fail))
    refine wpQuiet_nil ?_
    intro wq hwq
    replace hwq := bel_of_class hwq
    clear hgq
    have hcq := bcell hwq
    have hzq := hwq.size
    (try simp at hzq)
    (try have hyq1 := lt0 w wq); (try have hyq2 := ltA w 1 wq); (try have hyq3 := ltA w 2 wq); (try have hyq4 := lt0 wr wq)
    go_wp2_with fail
    go_ret2
    exact ⟨by rw [HV.out]; rfl, belA⟩
  cases b : (t0 == t1)
  · have hv : e.typ l = (0, 20) := by rw [hv0 _ _ a b]; rfl
    clear hv0
    have HV := Lib.hid hv; clear hv
    go_enter Tryd.func69, Tryd.ntmps69
    go_wp2_with (first | (go_at_call 78; refine (hparts _ belA).mono ?_; rintro r w1 ⟨⟨v, rfl, hown⟩, hb1⟩; have hc1 := bcell hb1; have hz1 := hb1.size; (try simp at hz1); (try have hy1 := lt0 w w1); (try have hy2 := ltA w 1 w1); (try have hy3 := ltA w 2 w1); (try have hy4 := lt0 wr w1); (try have hy5 := ltA wr 1 w1); rw [hpl] at hown; simp only [List.map_cons, List.map_nil, List.length_cons, List.length_nil, Nat.zero_add, Nat.reduceAdd] at hown; obtain ⟨g, gc, rfl, hg1, hg2, hg3, hg4, hcells⟩ := own_get hown (by omega); unfold maxLen at hg4; have e0 := hcells 0 _ rfl; have e1 := hcells 1 _ rfl; clear hcells hown) | (go_at_call 79; refine (htype _ belA).mono ?_; rintro r w1 ⟨rfl, hb1⟩; have hc1 := bcell hb1; have hz1 := hb1.size; (try simp at hz1); (try have hy1 := lt0 w w1); (try have hy2 := ltA w 1 w1); (try have hy3 := ltA w 2 w1); (try have hy4 := lt0 wr w1); (try have hy5 := ltA wr 1 w1); (try have hgz := Nat.lt_of_lt_of_le hg2 hb1.size)))
    refine wp_region_qb (by kernel_rfl) (by kernel_rfl) (fun hgq => ?_)
    repeat (quiet_step (fail))
    refine wpQuiet_nil ?_
    intro wq hwq
    replace hwq := bel_of_class hwq
    clear hgq
    have hcq := bcell hwq
    have hzq := hwq.size
    (try simp at hzq)
    (try have hyq1 := lt0 w wq); (try have hyq2 := ltA w 1 wq); (try have hyq3 := ltA w 2 wq); (try have hyq4 := lt0 wr wq)
    go_wp2_with fail
    go_ret2
    exact ⟨by rw [HV.out]; rfl, belA⟩
  have hv := hv0 _ _ a b
  clear hv0
  rcases ht0 with rfl | rfl
  · replace hv : e.typ l = (1, 0) := hv
    have HV := Lib.hid hv; clear hv
    go_enter Tryd.func69, Tryd.ntmps69
    go_wp2_with (first | (go_at_call 78; refine (hparts _ belA).mono ?_; rintro r w1 ⟨⟨v, rfl, hown⟩, hb1⟩; have hc1 := bcell hb1; have hz1 := hb1.size; (try simp at hz1); (try have hy1 := lt0 w w1); (try have hy2 := ltA w 1 w1); (try have hy3 := ltA w 2 w1); (try have hy4 := lt0 wr w1); (try have hy5 := ltA wr 1 w1); rw [hpl] at hown; simp only [List.map_cons, List.map_nil, List.length_cons, List.length_nil, Nat.zero_add, Nat.reduceAdd] at hown; obtain ⟨g, gc, rfl, hg1, hg2, hg3, hg4, hcells⟩ := own_get hown (by omega); unfold maxLen at hg4; have e0 := hcells 0 _ rfl; have e1 := hcells 1 _ rfl; clear hcells hown) | (go_at_call 79; refine (htype _ belA).mono ?_; rintro r w1 ⟨rfl, hb1⟩; have hc1 := bcell hb1; have hz1 := hb1.size; (try simp at hz1); (try have hy1 := lt0 w w1); (try have hy2 := ltA w 1 w1); (try have hy3 := ltA w 2 w1); (try have hy4 := lt0 wr w1); (try have hy5 := ltA wr 1 w1); (try have hgz := Nat.lt_of_lt_of_le hg2 hb1.size)))
    refine wp_region_qb (by kernel_rfl) (by kernel_rfl) (fun hgq => ?_)
    repeat (quiet_step (fail))
    refine wpQuiet_nil ?_
    intro wq hwq
    replace hwq := bel_of_class hwq
    clear hgq
    have hcq := bcell hwq
    have hzq := hwq.size
    (try simp at hzq)
    (try have hyq1 := lt0 w wq); (try have hyq2 := ltA w 1 wq); (try have hyq3 := ltA w 2 wq); (try have hyq4 := lt0 wr wq)
    go_wp2_with fail
    go_ret2
    exact ⟨by rw [HV.out]; rfl, belA⟩
  · replace hv : e.typ l = (2, 0) := hv
    have HV := Lib.hid hv; clear hv
    go_enter Tryd.func69, Tryd.ntmps69
    go_wp2_with (first | (go_at_call 78; refine (hparts _ belA).mono ?_; rintro r w1 ⟨⟨v, rfl, hown⟩, hb1⟩; have hc1 := bcell hb1; have hz1 := hb1.size; (try simp at hz1); (try have hy1 := lt0 w w1); (try have hy2 := ltA w 1 w1); (try have hy3 := ltA w 2 w1); (try have hy4 := lt0 wr w1); (try have hy5 := ltA wr 1 w1); rw [hpl] at hown; simp only [List.map_cons, List.map_nil, List.length_cons, List.length_nil, Nat.zero_add, Nat.reduceAdd] at hown; obtain ⟨g, gc, rfl, hg1, hg2, hg3, hg4, hcells⟩ := own_get hown (by omega); unfold maxLen at hg4; have e0 := hcells 0 _ rfl; have e1 := hcells 1 _ rfl; clear hcells hown) | (go_at_call 79; refine (htype _ belA).mono ?_; rintro r w1 ⟨rfl, hb1⟩; have hc1 := bcell hb1; have hz1 := hb1.size; (try simp at hz1); (try have hy1 := lt0 w w1); (try have hy2 := ltA w 1 w1); (try have hy3 := ltA w 2 w1); (try have hy4 := lt0 wr w1); (try have hy5 := ltA wr 1 w1); (try have hgz := Nat.lt_of_lt_of_le hg2 hb1.size)))
    refine wp_region_qb (by kernel_rfl) (by kernel_rfl) (fun hgq => ?_)
    repeat (quiet_step (fail))
    refine wpQuiet_nil ?_
    intro wq hwq
    replace hwq := bel_of_class hwq
    clear hgq
    have hcq := bcell hwq
    have hzq := hwq.size
    (try simp at hzq)
    (try have hyq1 := lt0 w wq); (try have hyq2 := ltA w 1 wq); (try have hyq3 := ltA w 2 wq); (try have hyq4 := lt0 wr wq)
    go_wp2_with fail
    go_ret2
    exact ⟨by rw [HV.out]; rfl, belA⟩

end Go.Proofs.YtknfcamdfdfoeaaDoor

/- Walk over kinds.look.of: the kinds 5. -/
namespace Go.Proofs.YtknfcamdfdfoeaaDoor
open Go.RowKit Go.Sort

set_option maxHeartbeats 4000000 in
set_option maxRecDepth 100000 in
theorem of_k5 (e : Ex) (l : List Va) (A : Option Addr) (cap B : Nat) (Ae : Option Addr) (ce : Nat) (w : World) (t0 t1 : Int) (hk : e.kind = 5) (hts : Ex.typL l e.sub = ([t0, t1], 0)) (ht0 : t0 = 1 ∨ t0 = 2) (ht1 : t1 = 1 ∨ t1 = 2) (ho : (twoK e.n t0).1 = 1 ∨ (twoK e.n t0).1 = 2) (hbn : e.name.toList.isEmpty = true)
    (hparts : OfParts e l A cap B Ae ce w) (htype : OfType e l A cap B w) :
    Calls Tryd.prog 69 #[lookV l A cap B, exV e Ae ce] w fun r w' => r = .returned (.tuple #[.int .i64 (e.typ l).1, .int .i64 (e.typ l).2]) ∧ Below w.heap.size w w' := by
  have hv : e.typ l = typK l e.kind e.n e.name [t0, t1] := by rw [Ex.typ_eq, hts]; rfl
  rw [hk, typK, if_neg (by rintro ⟨h1, h2⟩; simp_all)] at hv
  have hpl : (Ex.typL l e.sub).1 = [t0, t1] := by rw [hts]
  have hpe : (Ex.typL l e.sub).2 = 0 := by rw [hts]
  clear hts
  unfold OfParts at hparts
  unfold OfType at htype
  have q1 : (e.kind == 1) = false := by rw [hk]; rfl
  have q2 : (e.kind == 2) = false := by rw [hk]; rfl
  have q3 : (e.kind == 3) = false := by rw [hk]; rfl
  have q4 : (e.kind == 4) = false := by rw [hk]; rfl
  have q5 : (e.kind == 5) = true := by rw [hk]; rfl
  clear hk
  unfold lookV exV at *
  have hv0 : ∀ (p q : Bool), (twoK e.n t0).2 = p → (t0 == t1) = q → e.typ l = if (p && q) = true ∧ ((twoK e.n t0).1 = 1 ∨ (twoK e.n t0).1 = 2) then ((twoK e.n t0).1, 0) else (0, 20) := by
    rintro p q rfl rfl; rw [hv]; rfl
  clear hv
  cases a : (twoK e.n t0).2
  · have hv : e.typ l = (0, 20) := by rw [hv0 _ _ a rfl]; rfl
    clear hv0
    have HV := Lib.hid hv; clear hv
    go_enter Tryd.func69, Tryd.ntmps69
    go_wp2_with (first | (go_at_call 78; refine (hparts _ belA).mono ?_; rintro r w1 ⟨⟨v, rfl, hown⟩, hb1⟩; have hc1 := bcell hb1; have hz1 := hb1.size; (try simp at hz1); (try have hy1 := lt0 w w1); (try have hy2 := ltA w 1 w1); (try have hy3 := ltA w 2 w1); (try have hy4 := lt0 wr w1); (try have hy5 := ltA wr 1 w1); rw [hpl] at hown; simp only [List.map_cons, List.map_nil, List.length_cons, List.length_nil, Nat.zero_add, Nat.reduceAdd] at hown; obtain ⟨g, gc, rfl, hg1, hg2, hg3, hg4, hcells⟩ := own_get hown (by omega); unfold maxLen at hg4; have e0 := hcells 0 _ rfl; have e1 := hcells 1 _ rfl; clear hcells hown) | (go_at_call 79; refine (htype _ belA).mono ?_; rintro r w1 ⟨rfl, hb1⟩; have hc1 := bcell hb1; have hz1 := hb1.size; (try simp at hz1); (try have hy1 := lt0 w w1); (try have hy2 := ltA w 1 w1); (try have hy3 := ltA w 2 w1); (try have hy4 := lt0 wr w1); (try have hy5 := ltA wr 1 w1); (try have hgz := Nat.lt_of_lt_of_le hg2 hb1.size)))
    refine wp_region_qb (by kernel_rfl) (by kernel_rfl) (fun hgq => ?_)
    repeat (quiet_step ((go_at_call 80; exact Calls.regrown_of ((two_any _ _ _).mono fun _ _ h => ⟨h.1, by rw [← h.2]; exact Below.refl _ _⟩))))
    refine wpQuiet_nil ?_
    intro wq hwq
    replace hwq := bel_of_class hwq
    clear hgq
    have hcq := bcell hwq
    have hzq := hwq.size
    (try simp at hzq)
    (try have hyq1 := lt0 w wq); (try have hyq2 := ltA w 1 wq); (try have hyq3 := ltA w 2 wq); (try have hyq4 := lt0 wr wq)
    (try have hgq2 := Nat.lt_of_lt_of_le hgz hwq.size)
    go_wp2_with fail
    refine wp_region_qb (by kernel_rfl) (by kernel_rfl) (fun hgq => ?_)
    repeat (quiet_step (fail))
    refine wpQuiet_nil ?_
    intro wq hwq
    replace hwq := bel_of_class hwq
    clear hgq
    have hcq := bcell hwq
    have hzq := hwq.size
    (try simp at hzq)
    (try have hyq1 := lt0 w wq); (try have hyq2 := ltA w 1 wq); (try have hyq3 := ltA w 2 wq); (try have hyq4 := lt0 wr wq)
    go_wp2_with fail
    go_ret2
    exact ⟨by rw [HV.out]; rfl, belA⟩
  cases b : (t0 == t1)
  · have hv : e.typ l = (0, 20) := by rw [hv0 _ _ a b]; rfl
    clear hv0
    have HV := Lib.hid hv; clear hv
    go_enter Tryd.func69, Tryd.ntmps69
    go_wp2_with (first | (go_at_call 78; refine (hparts _ belA).mono ?_; rintro r w1 ⟨⟨v, rfl, hown⟩, hb1⟩; have hc1 := bcell hb1; have hz1 := hb1.size; (try simp at hz1); (try have hy1 := lt0 w w1); (try have hy2 := ltA w 1 w1); (try have hy3 := ltA w 2 w1); (try have hy4 := lt0 wr w1); (try have hy5 := ltA wr 1 w1); rw [hpl] at hown; simp only [List.map_cons, List.map_nil, List.length_cons, List.length_nil, Nat.zero_add, Nat.reduceAdd] at hown; obtain ⟨g, gc, rfl, hg1, hg2, hg3, hg4, hcells⟩ := own_get hown (by omega); unfold maxLen at hg4; have e0 := hcells 0 _ rfl; have e1 := hcells 1 _ rfl; clear hcells hown) | (go_at_call 79; refine (htype _ belA).mono ?_; rintro r w1 ⟨rfl, hb1⟩; have hc1 := bcell hb1; have hz1 := hb1.size; (try simp at hz1); (try have hy1 := lt0 w w1); (try have hy2 := ltA w 1 w1); (try have hy3 := ltA w 2 w1); (try have hy4 := lt0 wr w1); (try have hy5 := ltA wr 1 w1); (try have hgz := Nat.lt_of_lt_of_le hg2 hb1.size)))
    refine wp_region_qb (by kernel_rfl) (by kernel_rfl) (fun hgq => ?_)
    repeat (quiet_step ((go_at_call 80; exact Calls.regrown_of ((two_any _ _ _).mono fun _ _ h => ⟨h.1, by rw [← h.2]; exact Below.refl _ _⟩))))
    refine wpQuiet_nil ?_
    intro wq hwq
    replace hwq := bel_of_class hwq
    clear hgq
    have hcq := bcell hwq
    have hzq := hwq.size
    (try simp at hzq)
    (try have hyq1 := lt0 w wq); (try have hyq2 := ltA w 1 wq); (try have hyq3 := ltA w 2 wq); (try have hyq4 := lt0 wr wq)
    (try have hgq2 := Nat.lt_of_lt_of_le hgz hwq.size)
    go_wp2_with fail
    refine wp_region_qb (by kernel_rfl) (by kernel_rfl) (fun hgq => ?_)
    repeat (quiet_step (fail))
    refine wpQuiet_nil ?_
    intro wq hwq
    replace hwq := bel_of_class hwq
    clear hgq
    have hcq := bcell hwq
    have hzq := hwq.size
    (try simp at hzq)
    (try have hyq1 := lt0 w wq); (try have hyq2 := ltA w 1 wq); (try have hyq3 := ltA w 2 wq); (try have hyq4 := lt0 wr wq)
    go_wp2_with fail
    go_ret2
    exact ⟨by rw [HV.out]; rfl, belA⟩
  have hv := hv0 _ _ a b
  clear hv0
  rcases ho with ho | ho <;> rw [ho] at hv
  · replace hv : e.typ l = (1, 0) := hv
    have HV := Lib.hid hv; clear hv
    go_enter Tryd.func69, Tryd.ntmps69
    go_wp2_with (first | (go_at_call 78; refine (hparts _ belA).mono ?_; rintro r w1 ⟨⟨v, rfl, hown⟩, hb1⟩; have hc1 := bcell hb1; have hz1 := hb1.size; (try simp at hz1); (try have hy1 := lt0 w w1); (try have hy2 := ltA w 1 w1); (try have hy3 := ltA w 2 w1); (try have hy4 := lt0 wr w1); (try have hy5 := ltA wr 1 w1); rw [hpl] at hown; simp only [List.map_cons, List.map_nil, List.length_cons, List.length_nil, Nat.zero_add, Nat.reduceAdd] at hown; obtain ⟨g, gc, rfl, hg1, hg2, hg3, hg4, hcells⟩ := own_get hown (by omega); unfold maxLen at hg4; have e0 := hcells 0 _ rfl; have e1 := hcells 1 _ rfl; clear hcells hown) | (go_at_call 79; refine (htype _ belA).mono ?_; rintro r w1 ⟨rfl, hb1⟩; have hc1 := bcell hb1; have hz1 := hb1.size; (try simp at hz1); (try have hy1 := lt0 w w1); (try have hy2 := ltA w 1 w1); (try have hy3 := ltA w 2 w1); (try have hy4 := lt0 wr w1); (try have hy5 := ltA wr 1 w1); (try have hgz := Nat.lt_of_lt_of_le hg2 hb1.size)))
    refine wp_region_qb (by kernel_rfl) (by kernel_rfl) (fun hgq => ?_)
    repeat (quiet_step ((go_at_call 80; exact Calls.regrown_of ((two_any _ _ _).mono fun _ _ h => ⟨h.1, by rw [← h.2]; exact Below.refl _ _⟩))))
    refine wpQuiet_nil ?_
    intro wq hwq
    replace hwq := bel_of_class hwq
    clear hgq
    have hcq := bcell hwq
    have hzq := hwq.size
    (try simp at hzq)
    (try have hyq1 := lt0 w wq); (try have hyq2 := ltA w 1 wq); (try have hyq3 := ltA w 2 wq); (try have hyq4 := lt0 wr wq)
    (try have hgq2 := Nat.lt_of_lt_of_le hgz hwq.size)
    go_wp2_with fail
    refine wp_region_qb (by kernel_rfl) (by kernel_rfl) (fun hgq => ?_)
    repeat (quiet_step (fail))
    refine wpQuiet_nil ?_
    intro wq hwq
    replace hwq := bel_of_class hwq
    clear hgq
    have hcq := bcell hwq
    have hzq := hwq.size
    (try simp at hzq)
    (try have hyq1 := lt0 w wq); (try have hyq2 := ltA w 1 wq); (try have hyq3 := ltA w 2 wq); (try have hyq4 := lt0 wr wq)
    go_wp2_with fail
    go_ret2
    exact ⟨by rw [HV.out]; rfl, belA⟩
  · replace hv : e.typ l = (2, 0) := hv
    have HV := Lib.hid hv; clear hv
    go_enter Tryd.func69, Tryd.ntmps69
    go_wp2_with (first | (go_at_call 78; refine (hparts _ belA).mono ?_; rintro r w1 ⟨⟨v, rfl, hown⟩, hb1⟩; have hc1 := bcell hb1; have hz1 := hb1.size; (try simp at hz1); (try have hy1 := lt0 w w1); (try have hy2 := ltA w 1 w1); (try have hy3 := ltA w 2 w1); (try have hy4 := lt0 wr w1); (try have hy5 := ltA wr 1 w1); rw [hpl] at hown; simp only [List.map_cons, List.map_nil, List.length_cons, List.length_nil, Nat.zero_add, Nat.reduceAdd] at hown; obtain ⟨g, gc, rfl, hg1, hg2, hg3, hg4, hcells⟩ := own_get hown (by omega); unfold maxLen at hg4; have e0 := hcells 0 _ rfl; have e1 := hcells 1 _ rfl; clear hcells hown) | (go_at_call 79; refine (htype _ belA).mono ?_; rintro r w1 ⟨rfl, hb1⟩; have hc1 := bcell hb1; have hz1 := hb1.size; (try simp at hz1); (try have hy1 := lt0 w w1); (try have hy2 := ltA w 1 w1); (try have hy3 := ltA w 2 w1); (try have hy4 := lt0 wr w1); (try have hy5 := ltA wr 1 w1); (try have hgz := Nat.lt_of_lt_of_le hg2 hb1.size)))
    refine wp_region_qb (by kernel_rfl) (by kernel_rfl) (fun hgq => ?_)
    repeat (quiet_step ((go_at_call 80; exact Calls.regrown_of ((two_any _ _ _).mono fun _ _ h => ⟨h.1, by rw [← h.2]; exact Below.refl _ _⟩))))
    refine wpQuiet_nil ?_
    intro wq hwq
    replace hwq := bel_of_class hwq
    clear hgq
    have hcq := bcell hwq
    have hzq := hwq.size
    (try simp at hzq)
    (try have hyq1 := lt0 w wq); (try have hyq2 := ltA w 1 wq); (try have hyq3 := ltA w 2 wq); (try have hyq4 := lt0 wr wq)
    (try have hgq2 := Nat.lt_of_lt_of_le hgz hwq.size)
    go_wp2_with fail
    refine wp_region_qb (by kernel_rfl) (by kernel_rfl) (fun hgq => ?_)
    repeat (quiet_step (fail))
    refine wpQuiet_nil ?_
    intro wq hwq
    replace hwq := bel_of_class hwq
    clear hgq
    have hcq := bcell hwq
    have hzq := hwq.size
    (try simp at hzq)
    (try have hyq1 := lt0 w wq); (try have hyq2 := ltA w 1 wq); (try have hyq3 := ltA w 2 wq); (try have hyq4 := lt0 wr wq)
    go_wp2_with fail
    go_ret2
    exact ⟨by rw [HV.out]; rfl, belA⟩

end Go.Proofs.YtknfcamdfdfoeaaDoor

/- Walks over the package kinds: of, Of. -/
namespace Go.Proofs.YtknfcamdfdfoeaaDoor
open Go.RowKit Go.Sort

set_option maxHeartbeats 2000000 in
set_option maxRecDepth 100000 in
/-- A part has a fault. -/
theorem of_bad (e : Ex) (l : List Va) (A : Option Addr) (cap B : Nat) (Ae : Option Addr) (ce : Nat) (w : World) (h : (Ex.typL l e.sub).2 ≠ 0) (hparts : OfParts e l A cap B Ae ce w) :
    Calls Tryd.prog 69 #[lookV l A cap B, exV e Ae ce] w fun r w' => r = .returned (.tuple #[.int .i64 (e.typ l).1, .int .i64 (e.typ l).2]) ∧ Below w.heap.size w w' := by
  have hv : e.typ l = (0, (Ex.typL l e.sub).2) := by rw [Ex.typ_eq, if_neg h]
  have hb : ((Ex.typL l e.sub).2 != 0) = true := by simpa using h
  clear h
  have HV := Lib.hid hv; clear hv
  unfold OfParts at hparts
  unfold lookV exV at *
  go_enter Tryd.func69, Tryd.ntmps69
  go_wp2_with (go_at_call 78; refine (hparts _ belA).mono ?_; rintro r w1 ⟨⟨v, rfl, hown⟩, hb1⟩; have hc1 := bcell hb1)
  go_ret2
  exact ⟨by rw [HV.out]; rfl, belA⟩

set_option maxHeartbeats 2000000 in
set_option maxRecDepth 100000 in
/-- The name is nobody's. -/
theorem of_noname (e : Ex) (l : List Va) (A : Option Addr) (cap B : Nat) (Ae : Option Addr) (ce : Nat) (w : World) (h : (Ex.typL l e.sub).2 = 0) (hbn : e.name.toList.isEmpty = false) (hbt : (typeOfP l e.name).2 = false)
    (hparts : OfParts e l A cap B Ae ce w) (htype : OfType e l A cap B w) :
    Calls Tryd.prog 69 #[lookV l A cap B, exV e Ae ce] w fun r w' => r = .returned (.tuple #[.int .i64 (e.typ l).1, .int .i64 (e.typ l).2]) ∧ Below w.heap.size w w' := by
  have hv : e.typ l = (0, 19) := by rw [Ex.typ_eq, if_pos h, typK, if_pos ⟨hbn, hbt⟩]
  have HV := Lib.hid hv; clear hv
  unfold OfParts at hparts
  unfold OfType at htype
  unfold lookV exV at *
  go_enter Tryd.func69, Tryd.ntmps69
  go_wp2_with (first | (go_at_call 78; refine (hparts _ belA).mono ?_; rintro r w1 ⟨⟨v, rfl, hown⟩, hb1⟩; have hc1 := bcell hb1; have hz1 := hb1.size; (try simp at hz1); (try have hy1 := lt0 w w1); (try have hy2 := ltA w 1 w1); (try have hy3 := ltA w 2 w1); (try have hy4 := lt0 wr w1); (try have hy5 := ltA wr 1 w1)) | (go_at_call 79; refine (htype _ belA).mono ?_; rintro r w1 ⟨rfl, hb1⟩; have hc1 := bcell hb1; have hz1 := hb1.size; (try simp at hz1); (try have hy1 := lt0 w w1); (try have hy2 := ltA w 1 w1); (try have hy3 := ltA w 2 w1); (try have hy4 := lt0 wr w1); (try have hy5 := ltA wr 1 w1)))
  go_ret2
  exact ⟨by rw [HV.out]; rfl, belA⟩

theorem formed_name {e : Ex} (h : e.formed = true) : ((formK e.kind).2.2.2.1 = true → e.name.toList.isEmpty = false) ∧ ((formK e.kind).2.2.2.1 = false → e.name.toList.isEmpty = true) := by
  rw [Ex.formed_eq, Bool.and_eq_true] at h
  have h1 := h.1
  simp only [formedH, Bool.and_eq_true, Bool.or_eq_true] at h1
  refine ⟨fun h2 => ?_, fun h2 => ?_⟩
  · have h3 := h1.1.2
    rw [h2] at h3
    have h4 : nameB e.name = true := by simpa using h3.symm
    unfold nameB at h4
    split at h4
    · rename_i h5; exact size_pos_toList h5
    · simp at h4
  · rcases h1.2 with h3 | h3
    · rw [h2] at h3; simp at h3
    · exact h3
theorem formed_un {e : Ex} (h : e.formed = true) (hk : e.kind = 4) : e.n = 1 ∨ e.n = 2 := by
  rw [Ex.formed_eq, Bool.and_eq_true] at h
  have h1 := h.1
  rw [formedH, hk] at h1
  simp [formK] at h1
  omega
theorem twoK_12 (n t : Int) (h : t = 1 ∨ t = 2) : (twoK n t).1 = 1 ∨ (twoK n t).1 = 2 := by
  unfold twoK
  repeat' split
  all_goals simp [h]

theorem of_any (e : Ex) : e.formed = true → ∀ (l : List Va) (A : Option Addr) (cap B n : Nat) (Ae : Option Addr) (ce : Nat) (w : World), SubsAt w e Ae ce → LookAt w l A cap B n →
    Calls Tryd.prog 69 #[lookV l A cap B, exV e Ae ce] w fun r w' => r = .returned (.tuple #[.int .i64 (e.typ l).1, .int .i64 (e.typ l).2]) ∧ Below w.heap.size w w' := by
  induction e using Ex.ind with
  | h e ih =>
  intro hf l A cap B n Ae ce w he hl
  have hlen := Ex.formed_kind hf
  have hl3 : e.sub.length ≤ 3 := by
    have hlen := hlen.1
    unfold formK at hlen
    repeat' split at hlen
    all_goals first | omega | (simp at hlen; omega)
  have hparts : OfParts e l A cap B Ae ce w := fun W h =>
    parts_of e l A cap B n Ae ce W (he.later h) (hl.later h) hl3 fun x hx A' c' W' h1 h2 => ih x hx (Ex.formed_sub hf hx) l A cap B n A' c' W' h1 h2
  have htype : OfType e l A cap B w := fun W h => typeOf_any l A cap B n e.name (by unfold maxLen; omega) W (hl.later h)
  by_cases hbad : (Ex.typL l e.sub).2 = 0
  case neg => exact of_bad e l A cap B Ae ce w hbad hparts
  have hnames := formed_name hf
  have hts : (Ex.typL l e.sub).1.length = e.sub.length := typL_len l e.sub hbad
  have h12 := typL_12 l e.sub hbad
  have hpair : Ex.typL l e.sub = ((Ex.typL l e.sub).1, 0) := by rw [← hbad]
  by_cases hno : e.name.toList.isEmpty = false ∧ (typeOfP l e.name).2 = false
  · exact of_noname e l A cap B Ae ce w hbad hno.1 hno.2 hparts htype
  have hyes : e.name.toList.isEmpty = false → (typeOfP l e.name).2 = true := fun h => by
    cases h2 : (typeOfP l e.name).2
    · exact absurd ⟨h, h2⟩ hno
    · rfl
  generalize (Ex.typL l e.sub).1 = ts at hts h12 hpair
  have hk1 := hlen.1
  rcases formed_kinds hf with hk | hk | hk | hk | hk | hk | hk | hk | hk | hk <;> rw [hk] at hk1 hnames <;> simp [formK] at hk1 hnames
  · obtain rfl : ts = [] := List.length_eq_zero_iff.1 (by rw [hts, hk1]; rfl)
    exact of_k1 e l A cap B Ae ce w hk hpair (by simpa using hnames) hparts htype
  · obtain rfl : ts = [] := List.length_eq_zero_iff.1 (by rw [hts, hk1]; rfl)
    exact of_k2 e l A cap B Ae ce w hk hpair (by simpa using hnames) hparts htype
  · obtain rfl : ts = [] := List.length_eq_zero_iff.1 (by rw [hts, hk1]; rfl)
    have hn : e.name.toList.isEmpty = false := by simpa using hnames
    exact of_k3 e l A cap B Ae ce w hk hpair hn (hyes hn) hparts htype
  · obtain ⟨t0, rfl⟩ := list1 (l := ts) (by omega)
    exact of_k4 e l A cap B Ae ce w t0 hk hpair (h12 _ (by simp)) (formed_un hf hk) (by simpa using hnames) hparts htype
  · obtain ⟨t0, t1, rfl⟩ := list2 (l := ts) (by omega)
    exact of_k5 e l A cap B Ae ce w t0 t1 hk hpair (h12 _ (by simp)) (h12 _ (by simp)) (twoK_12 _ _ (h12 _ (by simp))) (by simpa using hnames) hparts htype
  · obtain ⟨t0, t1, t2, rfl⟩ := list3 (l := ts) (by omega)
    exact of_k6 e l A cap B Ae ce w t0 t1 t2 hk hpair (h12 _ (by simp)) (h12 _ (by simp)) (h12 _ (by simp)) (by simpa using hnames) hparts htype
  · obtain ⟨t0, t1, rfl⟩ := list2 (l := ts) (by omega)
    exact of_k7 e l A cap B Ae ce w t0 t1 hk hpair (h12 _ (by simp)) (h12 _ (by simp)) (by simpa using hnames) hparts htype
  · obtain ⟨t0, rfl⟩ := list1 (l := ts) (by omega)
    have hn : e.name.toList.isEmpty = false := by simpa using hnames
    exact of_k8 e l A cap B Ae ce w t0 hk hpair (h12 _ (by simp)) hn (hyes hn) hparts htype
  · obtain ⟨t0, rfl⟩ := list1 (l := ts) (by omega)
    have hn : e.name.toList.isEmpty = false := by simpa using hnames
    exact of_k9 e l A cap B Ae ce w t0 hk hpair (h12 _ (by simp)) hn (hyes hn) hparts htype
  · obtain ⟨t0, t1, rfl⟩ := list2 (l := ts) (by omega)
    have hn : e.name.toList.isEmpty = false := by simpa using hnames
    exact of_k10 e l A cap B Ae ce w t0 t1 hk hpair (h12 _ (by simp)) (h12 _ (by simp)) hn (hyes hn) hparts htype

end Go.Proofs.YtknfcamdfdfoeaaDoor
