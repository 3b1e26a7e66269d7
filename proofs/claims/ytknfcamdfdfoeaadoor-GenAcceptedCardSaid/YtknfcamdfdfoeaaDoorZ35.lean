/- Walk over image.Check. -/
import Derived.Test.YtknfcamdfdfoeaaDoorZ34
import Derived.Test.YtknfcamdfdfoeaaDoorZ31
import Derived.Test.YtknfcamdfdfoeaaDoorZ33
import Derived.Test.YtknfcamdfdfoeaaDoorZ30
set_option linter.unusedVariables false
set_option linter.unusedSimpArgs false
set_option maxRecDepth 100000
namespace Go.Proofs.YtknfcamdfdfoeaaDoor
open Go.RowKit Go.Sort

set_option maxHeartbeats 4000000 in
theorem imcheck_any (m : Im) (a : ImA) (w : World) (hm : ImAt w m a) (hok : ImOK m) :
    Calls Tryd.prog 10 #[imV m a] w fun r w' => r = .returned (.int .i64 m.wrong) ∧ Below w.heap.size w w' := by
  have hb1 := fun W (h : Below w.heap.size w W) => bound_any m.step a.A2 a.c2 m.fr m.sf W (hm.step.later h) hok.step
  have hb2 := fun W (h : Below w.heap.size w W) => bound_any m.move a.A3 a.c3 m.moves m.mf W (hm.move.later h) hok.move
  have hmv := fun W => moves_any m a W
  have hc1 := hm.first.1
  have hc3 := hm.move.1
  obtain ⟨R, hR⟩ : ∃ R, R = m.wrong := ⟨_, rfl⟩
  rw [← hR]
  unfold Im.wrong at hR
  obtain ⟨A1, c1, A2, c2, A3, c3⟩ := a
  unfold imV at *
  unfold frV at hb1 hb2 hmv
  dsimp only at *
  generalize boundF m.step m.fr m.sf = e1 at *
  generalize boundF m.move m.moves m.mf = e2 at *
  generalize m.moves = mv at *
  have HB1 := Lib.hid hb1
  have HB2 := Lib.hid hb2
  have HMV := Lib.hid hmv
  clear hm hok hb1 hb2 hmv
  by_cases a1 : m.ver = 0
  · have hv : R = 1 := by rw [hR, if_pos (.inl a1)]
    have t1 : (m.ver == 0) = true := by simpa using a1
    clear hR a1
    have HV := Lib.hid hv; clear hv
    go_enter Tryd.func10, Tryd.ntmps10
    go_wp2_with fail
    go_ret
    exact ⟨ret_int HV.out.symm, belA⟩
  have t1 : (m.ver == 0) = false := by simpa using a1
  by_cases a2 : m.ver ≤ m.fro
  · have hv : R = 1 := by rw [hR, if_pos (.inr (.inl a2))]
    clear hR a1
    have HV := Lib.hid hv; clear hv
    go_enter Tryd.func10, Tryd.ntmps10
    go_wp2_with fail
    go_ret
    exact ⟨ret_int HV.out.symm, belA⟩
  by_cases a3 : m.eld < 0
  · have hv : R = 1 := by rw [hR, if_pos (.inr (.inr (.inl a3)))]
    clear hR a1
    have HV := Lib.hid hv; clear hv
    go_enter Tryd.func10, Tryd.ntmps10
    go_wp2_with fail
    go_ret
    exact ⟨ret_int HV.out.symm, belA⟩
  by_cases a4 : 16 < m.eld
  · have hv : R = 1 := by rw [hR, if_pos (.inr (.inr (.inr a4)))]
    clear hR a1
    have HV := Lib.hid hv; clear hv
    go_enter Tryd.func10, Tryd.ntmps10
    go_wp2_with fail
    go_ret
    exact ⟨ret_int HV.out.symm, belA⟩
  rw [if_neg (by omega)] at hR
  by_cases b1 : m.fr.o ≠ m.fr.n
  · have hv : R = 1 := by rw [hR, if_pos (.inl b1)]
    have t2 : (m.fr.o != m.fr.n) = true := by simpa using b1
    clear hR a1 b1
    have HV := Lib.hid hv; clear hv
    go_enter Tryd.func10, Tryd.ntmps10
    go_wp2_with fail
    go_ret
    exact ⟨ret_int HV.out.symm, belA⟩
  have t2 : (m.fr.o != m.fr.n) = false := by simpa using b1
  by_cases b2 : (m.first.length : Int) ≠ m.fr.n
  · have hv : R = 1 := by rw [hR, if_pos (.inr b2)]
    have t3 : ((m.first.length : Int) != m.fr.n) = true := by simpa using b2
    clear hR a1 b1 b2
    have HV := Lib.hid hv; clear hv
    go_enter Tryd.func10, Tryd.ntmps10
    go_wp2_with fail
    go_ret
    exact ⟨ret_int HV.out.symm, belA⟩
  have t3 : ((m.first.length : Int) != m.fr.n) = false := by simpa using b2
  rw [if_neg (by omega)] at hR
  clear a1 b1 b2
  by_cases f0 : m.fro = 0
  · have t4 : (m.fro == 0) = true := by simpa using f0
    by_cases d1 : 0 < m.eld
    · have hv : R = 1 := by rw [hR, if_pos ⟨f0, .inl d1⟩]
      clear hR f0
      have HV := Lib.hid hv; clear hv
      go_enter Tryd.func10, Tryd.ntmps10
      go_wp2_with fail
      go_ret
      exact ⟨ret_int HV.out.symm, belA⟩
    by_cases d2 : 0 < m.move.length
    · have hv : R = 1 := by rw [hR, if_pos ⟨f0, .inr d2⟩]
      have d2' : (0 : Int) < (m.move.length : Int) := by omega
      clear hR f0 d2
      have HV := Lib.hid hv; clear hv
      go_enter Tryd.func10, Tryd.ntmps10
      go_wp2_with fail
      go_ret
      exact ⟨ret_int HV.out.symm, belA⟩
    have d2' : ¬ (0 : Int) < (m.move.length : Int) := by omega
    rw [if_neg (fun h => by omega)] at hR
    clear f0 d2
    by_cases h1 : e1 = 0
    · have hv : R = e2 := by rw [hR, if_neg (fun h => h h1)]
      clear hR
      subst h1
      have HV := Lib.hid hv; clear hv
      go_enter Tryd.func10, Tryd.ntmps10
      go_upto_region 15 with (first | (go_at_call 23; go_loud (refine (HB1.out _ belA).mono ?_; rintro r w1 ⟨rfl, hb1⟩)))
      refine wp_name fun W0 hW0 => ?_
      have hbw : Below w.heap.size w W0 := by rw [hW0]; exact belA
      have z0 : W0.cell? ⟨w.heap.size, 0, none⟩ = some (.int .u32 m.ver) := by rw [hW0]; exact bel_cell hb1 (by go_simp)
      have z1 : W0.cell? ⟨w.heap.size, 1, none⟩ = some (.int .u32 m.fro) := by rw [hW0]; exact bel_cell hb1 (by go_simp)
      have z2 : W0.cell? ⟨w.heap.size, 2, none⟩ = some (.int .i64 m.eld) := by rw [hW0]; exact bel_cell hb1 (by go_simp)
      have z3 : W0.cell? ⟨w.heap.size, 3, none⟩ = some (.int .i64 m.fr.s) := by rw [hW0]; exact bel_cell hb1 (by go_simp)
      have z4 : W0.cell? ⟨w.heap.size, 4, none⟩ = some (.int .i64 m.fr.o) := by rw [hW0]; exact bel_cell hb1 (by go_simp)
      have z5 : W0.cell? ⟨w.heap.size, 5, none⟩ = some (.int .i64 m.fr.n) := by rw [hW0]; exact bel_cell hb1 (by go_simp)
      have z6 : W0.cell? ⟨w.heap.size, 6, none⟩ = some (.int .i64 m.fr.i) := by rw [hW0]; exact bel_cell hb1 (by go_simp)
      have z7 : W0.cell? ⟨w.heap.size, 7, none⟩ = some (.int .i64 m.fr.u) := by rw [hW0]; exact bel_cell hb1 (by go_simp)
      have z8 : W0.cell? ⟨w.heap.size, 8, none⟩ = some (.slice A1 m.first.length c1) := by rw [hW0]; exact bel_cell hb1 (by go_simp)
      have z9 : W0.cell? ⟨w.heap.size, 9, none⟩ = some (.slice A2 m.step.length c2) := by rw [hW0]; exact bel_cell hb1 (by go_simp)
      have z10 : W0.cell? ⟨w.heap.size, 10, none⟩ = some (.slice A3 m.move.length c3) := by rw [hW0]; exact bel_cell hb1 (by go_simp)
      have z11 : W0.cell? ⟨w.heap.size, 11, none⟩ = some (.int .i64 m.sf) := by rw [hW0]; exact bel_cell hb1 (by go_simp)
      have z12 : W0.cell? ⟨w.heap.size, 12, none⟩ = some (.int .i64 m.mf) := by rw [hW0]; exact bel_cell hb1 (by go_simp)
      have hS : ∀ w', Below W0.heap.size W0 w' → w'.cell? ⟨w.heap.size, 0, none⟩ = some (.int .u32 m.ver) ∧ w'.cell? ⟨w.heap.size, 1, none⟩ = some (.int .u32 m.fro) ∧ w'.cell? ⟨w.heap.size, 2, none⟩ = some (.int .i64 m.eld) ∧ w'.cell? ⟨w.heap.size, 3, none⟩ = some (.int .i64 m.fr.s) ∧ w'.cell? ⟨w.heap.size, 4, none⟩ = some (.int .i64 m.fr.o) ∧ w'.cell? ⟨w.heap.size, 5, none⟩ = some (.int .i64 m.fr.n) ∧ w'.cell? ⟨w.heap.size, 6, none⟩ = some (.int .i64 m.fr.i) ∧ w'.cell? ⟨w.heap.size, 7, none⟩ = some (.int .i64 m.fr.u) ∧ w'.cell? ⟨w.heap.size, 8, none⟩ = some (.slice A1 m.first.length c1) ∧ w'.cell? ⟨w.heap.size, 9, none⟩ = some (.slice A2 m.step.length c2) ∧ w'.cell? ⟨w.heap.size, 10, none⟩ = some (.slice A3 m.move.length c3) ∧ w'.cell? ⟨w.heap.size, 11, none⟩ = some (.int .i64 m.sf) ∧ w'.cell? ⟨w.heap.size, 12, none⟩ = some (.int .i64 m.mf) := fun w' hb => ⟨bel_cell hb z0, bel_cell hb z1, bel_cell hb z2, bel_cell hb z3, bel_cell hb z4, bel_cell hb z5, bel_cell hb z6, bel_cell hb z7, bel_cell hb z8, bel_cell hb z9, bel_cell hb z10, bel_cell hb z11, bel_cell hb z12⟩
      have HS := Lib.hid hS
      have hS0 := hS W0.drew (bel_drew (Below.refl _ _))
      clear hW0 hS z0 z1 z2 z3 z4 z5 z6 z7 z8 z9 z10 z11 z12
      refine wp_region_ht (fun w' => w'.cell? ⟨w.heap.size, 0, none⟩ = some (.int .u32 m.ver) ∧ w'.cell? ⟨w.heap.size, 1, none⟩ = some (.int .u32 m.fro) ∧ w'.cell? ⟨w.heap.size, 2, none⟩ = some (.int .i64 m.eld) ∧ w'.cell? ⟨w.heap.size, 3, none⟩ = some (.int .i64 m.fr.s) ∧ w'.cell? ⟨w.heap.size, 4, none⟩ = some (.int .i64 m.fr.o) ∧ w'.cell? ⟨w.heap.size, 5, none⟩ = some (.int .i64 m.fr.n) ∧ w'.cell? ⟨w.heap.size, 6, none⟩ = some (.int .i64 m.fr.i) ∧ w'.cell? ⟨w.heap.size, 7, none⟩ = some (.int .i64 m.fr.u) ∧ w'.cell? ⟨w.heap.size, 8, none⟩ = some (.slice A1 m.first.length c1) ∧ w'.cell? ⟨w.heap.size, 9, none⟩ = some (.slice A2 m.step.length c2) ∧ w'.cell? ⟨w.heap.size, 10, none⟩ = some (.slice A3 m.move.length c3) ∧ w'.cell? ⟨w.heap.size, 11, none⟩ = some (.int .i64 m.sf) ∧ w'.cell? ⟨w.heap.size, 12, none⟩ = some (.int .i64 m.mf)) 7 1 (by kernel_rfl) (by rfl) ?_
      simp only [List.size_toArray, List.length_cons, List.length_nil, Nat.zero_add, Nat.reduceAdd]
      refine takeA (v := ?_) 0 hS0 ?_ ?_
      rotate_left
      · intro w' hSw
        go_simp
        first | done | with_reducible rfl
      try simp only [Act.put, List.setIfInBounds_toArray, List.set_cons_zero, List.set_cons_succ]
      refine takeA (v := ?_) 1 hS0 ?_ ?_
      rotate_left
      · intro w' hSw
        go_simp
        first | done | with_reducible rfl
      try simp only [Act.put, List.setIfInBounds_toArray, List.set_cons_zero, List.set_cons_succ]
      refine takeA (v := ?_) 2 hS0 ?_ ?_
      rotate_left
      · intro w' hSw
        go_simp
        first | done | with_reducible rfl
      try simp only [Act.put, List.setIfInBounds_toArray, List.set_cons_zero, List.set_cons_succ]
      refine takeA (v := ?_) 4 hS0 ?_ ?_
      rotate_left
      · intro w' hSw
        go_simp
        first | done | with_reducible rfl
      try simp only [Act.put, List.setIfInBounds_toArray, List.set_cons_zero, List.set_cons_succ]
      refine takeA (v := ?_) 5 hS0 ?_ ?_
      rotate_left
      · intro w' hSw
        go_simp
        first | done | with_reducible rfl
      try simp only [Act.put, List.setIfInBounds_toArray, List.set_cons_zero, List.set_cons_succ]
      refine oneA 3 ?_
      refine oper_wp_K fun K hK => ?_
      go_simp
      refine (HMV.out _).mono ?_
      rintro r w2 ⟨rfl, hb2⟩
      dsimp only
      have hB2 : Below W0.heap.size W0 w2 := bel_trans (bel_drew (Below.refl _ _)) hb2
      refine hK _ _ ⟨HS.out w2 hB2, ?_⟩
      clear hK K
      try simp only [Act.put, List.setIfInBounds_toArray, List.set_cons_zero, List.set_cons_succ]
      refine oneA 6 ?_
      refine oper_wp_K fun K hK => ?_
      go_simp
      refine (HB2.out _ (bel_trans hbw hB2)).mono ?_
      rintro r w3 ⟨rfl, hb3⟩
      dsimp only
      have hB3 : Below W0.heap.size W0 w3 := bel_trans hB2 hb3
      refine hK _ _ ⟨HS.out w3 hB3, ?_⟩
      clear hK K
      try simp only [Act.put, List.setIfInBounds_toArray, List.set_cons_zero, List.set_cons_succ]
      refine wpHT_done (by kernel_rfl) ?_
      refine anyA 7 ?_
      refine oper_wp_K fun K hK => ?_
      go_simp
      refine hK _ _ ?_
      clear hK K
      try simp only [Act.put, List.setIfInBounds_toArray, List.set_cons_zero, List.set_cons_succ]
      refine wpAny_end (by kernel_rfl) ?_
      go_wp2_with fail
      go_ret
      exact ⟨ret_int HV.out.symm, bel_trans hbw hB3⟩
    · have hv : R = e1 := by rw [hR, if_pos h1]
      have t5 : (e1 != 0) = true := by simpa using h1
      clear hR h1
      have HV := Lib.hid hv; clear hv
      go_enter Tryd.func10, Tryd.ntmps10
      go_wp2_with (first | (go_at_call 23; go_loud (refine (HB1.out _ belA).mono ?_; rintro r w1 ⟨rfl, hb1⟩)))
      go_ret
      exact ⟨ret_int HV.out.symm, belA⟩
  · have t4 : (m.fro == 0) = false := by simpa using f0
    rw [if_neg (fun h => f0 h.1)] at hR
    clear f0
    by_cases h1 : e1 = 0
    · have hv : R = e2 := by rw [hR, if_neg (fun h => h h1)]
      clear hR
      subst h1
      have HV := Lib.hid hv; clear hv
      go_enter Tryd.func10, Tryd.ntmps10
      go_upto_region 15 with (first | (go_at_call 23; go_loud (refine (HB1.out _ belA).mono ?_; rintro r w1 ⟨rfl, hb1⟩)))
      refine wp_name fun W0 hW0 => ?_
      have hbw : Below w.heap.size w W0 := by rw [hW0]; exact belA
      have z0 : W0.cell? ⟨w.heap.size, 0, none⟩ = some (.int .u32 m.ver) := by rw [hW0]; exact bel_cell hb1 (by go_simp)
      have z1 : W0.cell? ⟨w.heap.size, 1, none⟩ = some (.int .u32 m.fro) := by rw [hW0]; exact bel_cell hb1 (by go_simp)
      have z2 : W0.cell? ⟨w.heap.size, 2, none⟩ = some (.int .i64 m.eld) := by rw [hW0]; exact bel_cell hb1 (by go_simp)
      have z3 : W0.cell? ⟨w.heap.size, 3, none⟩ = some (.int .i64 m.fr.s) := by rw [hW0]; exact bel_cell hb1 (by go_simp)
      have z4 : W0.cell? ⟨w.heap.size, 4, none⟩ = some (.int .i64 m.fr.o) := by rw [hW0]; exact bel_cell hb1 (by go_simp)
      have z5 : W0.cell? ⟨w.heap.size, 5, none⟩ = some (.int .i64 m.fr.n) := by rw [hW0]; exact bel_cell hb1 (by go_simp)
      have z6 : W0.cell? ⟨w.heap.size, 6, none⟩ = some (.int .i64 m.fr.i) := by rw [hW0]; exact bel_cell hb1 (by go_simp)
      have z7 : W0.cell? ⟨w.heap.size, 7, none⟩ = some (.int .i64 m.fr.u) := by rw [hW0]; exact bel_cell hb1 (by go_simp)
      have z8 : W0.cell? ⟨w.heap.size, 8, none⟩ = some (.slice A1 m.first.length c1) := by rw [hW0]; exact bel_cell hb1 (by go_simp)
      have z9 : W0.cell? ⟨w.heap.size, 9, none⟩ = some (.slice A2 m.step.length c2) := by rw [hW0]; exact bel_cell hb1 (by go_simp)
      have z10 : W0.cell? ⟨w.heap.size, 10, none⟩ = some (.slice A3 m.move.length c3) := by rw [hW0]; exact bel_cell hb1 (by go_simp)
      have z11 : W0.cell? ⟨w.heap.size, 11, none⟩ = some (.int .i64 m.sf) := by rw [hW0]; exact bel_cell hb1 (by go_simp)
      have z12 : W0.cell? ⟨w.heap.size, 12, none⟩ = some (.int .i64 m.mf) := by rw [hW0]; exact bel_cell hb1 (by go_simp)
      have hS : ∀ w', Below W0.heap.size W0 w' → w'.cell? ⟨w.heap.size, 0, none⟩ = some (.int .u32 m.ver) ∧ w'.cell? ⟨w.heap.size, 1, none⟩ = some (.int .u32 m.fro) ∧ w'.cell? ⟨w.heap.size, 2, none⟩ = some (.int .i64 m.eld) ∧ w'.cell? ⟨w.heap.size, 3, none⟩ = some (.int .i64 m.fr.s) ∧ w'.cell? ⟨w.heap.size, 4, none⟩ = some (.int .i64 m.fr.o) ∧ w'.cell? ⟨w.heap.size, 5, none⟩ = some (.int .i64 m.fr.n) ∧ w'.cell? ⟨w.heap.size, 6, none⟩ = some (.int .i64 m.fr.i) ∧ w'.cell? ⟨w.heap.size, 7, none⟩ = some (.int .i64 m.fr.u) ∧ w'.cell? ⟨w.heap.size, 8, none⟩ = some (.slice A1 m.first.length c1) ∧ w'.cell? ⟨w.heap.size, 9, none⟩ = some (.slice A2 m.step.length c2) ∧ w'.cell? ⟨w.heap.size, 10, none⟩ = some (.slice A3 m.move.length c3) ∧ w'.cell? ⟨w.heap.size, 11, none⟩ = some (.int .i64 m.sf) ∧ w'.cell? ⟨w.heap.size, 12, none⟩ = some (.int .i64 m.mf) := fun w' hb => ⟨bel_cell hb z0, bel_cell hb z1, bel_cell hb z2, bel_cell hb z3, bel_cell hb z4, bel_cell hb z5, bel_cell hb z6, bel_cell hb z7, bel_cell hb z8, bel_cell hb z9, bel_cell hb z10, bel_cell hb z11, bel_cell hb z12⟩
      have HS := Lib.hid hS
      have hS0 := hS W0.drew (bel_drew (Below.refl _ _))
      clear hW0 hS z0 z1 z2 z3 z4 z5 z6 z7 z8 z9 z10 z11 z12
      refine wp_region_ht (fun w' => w'.cell? ⟨w.heap.size, 0, none⟩ = some (.int .u32 m.ver) ∧ w'.cell? ⟨w.heap.size, 1, none⟩ = some (.int .u32 m.fro) ∧ w'.cell? ⟨w.heap.size, 2, none⟩ = some (.int .i64 m.eld) ∧ w'.cell? ⟨w.heap.size, 3, none⟩ = some (.int .i64 m.fr.s) ∧ w'.cell? ⟨w.heap.size, 4, none⟩ = some (.int .i64 m.fr.o) ∧ w'.cell? ⟨w.heap.size, 5, none⟩ = some (.int .i64 m.fr.n) ∧ w'.cell? ⟨w.heap.size, 6, none⟩ = some (.int .i64 m.fr.i) ∧ w'.cell? ⟨w.heap.size, 7, none⟩ = some (.int .i64 m.fr.u) ∧ w'.cell? ⟨w.heap.size, 8, none⟩ = some (.slice A1 m.first.length c1) ∧ w'.cell? ⟨w.heap.size, 9, none⟩ = some (.slice A2 m.step.length c2) ∧ w'.cell? ⟨w.heap.size, 10, none⟩ = some (.slice A3 m.move.length c3) ∧ w'.cell? ⟨w.heap.size, 11, none⟩ = some (.int .i64 m.sf) ∧ w'.cell? ⟨w.heap.size, 12, none⟩ = some (.int .i64 m.mf)) 7 1 (by kernel_rfl) (by rfl) ?_
      simp only [List.size_toArray, List.length_cons, List.length_nil, Nat.zero_add, Nat.reduceAdd]
      refine takeA (v := ?_) 0 hS0 ?_ ?_
      rotate_left
      · intro w' hSw
        go_simp
        first | done | with_reducible rfl
      try simp only [Act.put, List.setIfInBounds_toArray, List.set_cons_zero, List.set_cons_succ]
      refine takeA (v := ?_) 1 hS0 ?_ ?_
      rotate_left
      · intro w' hSw
        go_simp
        first | done | with_reducible rfl
      try simp only [Act.put, List.setIfInBounds_toArray, List.set_cons_zero, List.set_cons_succ]
      refine takeA (v := ?_) 2 hS0 ?_ ?_
      rotate_left
      · intro w' hSw
        go_simp
        first | done | with_reducible rfl
      try simp only [Act.put, List.setIfInBounds_toArray, List.set_cons_zero, List.set_cons_succ]
      refine takeA (v := ?_) 4 hS0 ?_ ?_
      rotate_left
      · intro w' hSw
        go_simp
        first | done | with_reducible rfl
      try simp only [Act.put, List.setIfInBounds_toArray, List.set_cons_zero, List.set_cons_succ]
      refine takeA (v := ?_) 5 hS0 ?_ ?_
      rotate_left
      · intro w' hSw
        go_simp
        first | done | with_reducible rfl
      try simp only [Act.put, List.setIfInBounds_toArray, List.set_cons_zero, List.set_cons_succ]
      refine oneA 3 ?_
      refine oper_wp_K fun K hK => ?_
      go_simp
      refine (HMV.out _).mono ?_
      rintro r w2 ⟨rfl, hb2⟩
      dsimp only
      have hB2 : Below W0.heap.size W0 w2 := bel_trans (bel_drew (Below.refl _ _)) hb2
      refine hK _ _ ⟨HS.out w2 hB2, ?_⟩
      clear hK K
      try simp only [Act.put, List.setIfInBounds_toArray, List.set_cons_zero, List.set_cons_succ]
      refine oneA 6 ?_
      refine oper_wp_K fun K hK => ?_
      go_simp
      refine (HB2.out _ (bel_trans hbw hB2)).mono ?_
      rintro r w3 ⟨rfl, hb3⟩
      dsimp only
      have hB3 : Below W0.heap.size W0 w3 := bel_trans hB2 hb3
      refine hK _ _ ⟨HS.out w3 hB3, ?_⟩
      clear hK K
      try simp only [Act.put, List.setIfInBounds_toArray, List.set_cons_zero, List.set_cons_succ]
      refine wpHT_done (by kernel_rfl) ?_
      refine anyA 7 ?_
      refine oper_wp_K fun K hK => ?_
      go_simp
      refine hK _ _ ?_
      clear hK K
      try simp only [Act.put, List.setIfInBounds_toArray, List.set_cons_zero, List.set_cons_succ]
      refine wpAny_end (by kernel_rfl) ?_
      go_wp2_with fail
      go_ret
      exact ⟨ret_int HV.out.symm, bel_trans hbw hB3⟩
    · have hv : R = e1 := by rw [hR, if_pos h1]
      have t5 : (e1 != 0) = true := by simpa using h1
      clear hR h1
      have HV := Lib.hid hv; clear hv
      go_enter Tryd.func10, Tryd.ntmps10
      go_wp2_with (first | (go_at_call 23; go_loud (refine (HB1.out _ belA).mono ?_; rintro r w1 ⟨rfl, hb1⟩)))
      go_ret
      exact ⟨ret_int HV.out.symm, belA⟩
end Go.Proofs.YtknfcamdfdfoeaaDoor

/- gen's Code of any program; image's Encode. -/
namespace Go.Proofs.YtknfcamdfdfoeaaDoor
open Go.RowKit Go.Sort Go.Maps Go.ChangeMaps Go.WideMaps

def frT (x : Int × Int × Int × Int × Int) : Value := .agg #[.int .i64 x.1, .int .i64 x.2.1, .int .i64 x.2.2.1, .int .i64 x.2.2.2.1, .int .i64 x.2.2.2.2]
theorem cells_no_fault {p : Pr} (h : (cellsE p).2 = (0, 0, 0)) : startF p = (0, 0, 0) ∧ ¬ 16 < (cellsL p).length := by
  unfold cellsE at h
  by_cases hs : startF p = (0, 0, 0)
  · rw [if_pos hs] at h
    refine ⟨hs, fun hb => ?_⟩
    rw [if_pos hb] at h
    exact absurd (show ((4 : Int), (0 : Int), (3 : Int)) = (0, 0, 0) from h) (by decide)
  · rw [if_neg hs] at h
    exact absurd h hs
theorem code_any (p : Pr) (a : PrA) (w : World) (hg : Always w) (hp : PrAt w p a) (hok : PrOK p) (n1 : p.ins.length ≤ 1000000) (n2 : p.outs.length ≤ 1000000) (n3 : p.locals.length ≤ 1000000) (n4 : p.eqs.length ≤ 1000000) :
    Calls Tryd.prog 6 #[prV p a] w fun r w' => (∃ A cap, r = .returned (.tuple #[.slice A (codeE p).1.length cap, frT (codeE p).2.1, fV (codeE p).2.2]) ∧ InsAt w' (codeE p).1 A cap ∧ ∀ b off, A = some ⟨b, off, none⟩ → w.heap.size ≤ b) ∧ Below w.heap.size w w' := by
  by_cases h : (cellsE p).2 = (0, 0, 0)
  · obtain ⟨hS, hb⟩ := cells_no_fault h
    refine (code_yes p a w hg hp hok n1 n2 n3 n4 hS hb).mono ?_
    rintro r w' ⟨hc, hbel⟩
    refine ⟨?_, hbel⟩
    unfold codeE
    rw [if_pos h]
    by_cases h6 : 600 < (codeL p).length
    · rw [if_pos h6] at hc
      rw [if_pos h6]
      exact ⟨none, 0, hc, insAt_nil _, fun b off h => by cases h⟩
    · rw [if_neg h6] at hc
      rw [if_neg h6]
      obtain ⟨v, hr, hown⟩ := hc
      obtain ⟨A, cap, rfl, hat⟩ := InsAt.of_own hown
      exact ⟨A, cap, hr, hat, fun b off h => (hown.lt b (by rw [h]; rfl)).1⟩
  · refine (code_no p a w hg hp hok n1 n2 n3 n4 h).mono ?_
    rintro r w' ⟨hr, hbel⟩
    refine ⟨?_, hbel⟩
    unfold codeE
    rw [if_neg h]
    exact ⟨none, 0, hr, insAt_nil _, fun b off h => by cases h⟩

set_option maxHeartbeats 2000000 in
theorem imencode_any (m : Im) (a : ImA) (w : World) (hm : ImAt w m a) (hok : ImOK m) :
    Calls Tryd.prog 9 #[imV m a] w fun r w' => (∃ A cap, r = .returned (.tuple #[.slice A (encE m).1.length cap, .int .i64 (encE m).2])) ∧ Below w.heap.size w w' := by
  have hck := fun W (h : Below w.heap.size w W) => imcheck_any m a W (hm.later h) hok
  by_cases hw : m.wrong = 0
  · have hl := fun W (h : Below w.heap.size w W) => imlay_any m a W (hm.later h) hok (Im.right hw)
    rw [hw] at hck
    by_cases hb : 2016 < (bytesF m).length
    · have hv : encE m = ([], 3) := by unfold encE; rw [if_neg (fun h => h hw), if_pos hb]
      have tb : (2016 : Int) < ((bytesF m).length : Int) := by omega
      rw [hv]
      obtain ⟨A1, c1, A2, c2, A3, c3⟩ := a
      unfold imV at *
      dsimp only at *
      generalize (bytesF m).length = n at *
      clear hm hok hw hb hv
      go_enter Tryd.func9, Tryd.ntmps9
      go_wp2_with (first
        | (go_at_call 10; go_loud (refine (hck _ belA).mono ?_; rintro r w1 ⟨rfl, hb1⟩; have k0 := bcell hb1))
        | (go_at_call 22; go_loud (refine (hl _ belA).mono ?_; rintro r w2 ⟨⟨A, cap, rfl, -⟩, hb2⟩)))
      go_ret2
      exact ⟨⟨none, 0, rfl⟩, belA⟩
    · have hv : encE m = (bytesF m, 0) := by unfold encE; rw [if_neg (fun h => h hw), if_neg hb]
      have tb : ¬ (2016 : Int) < ((bytesF m).length : Int) := by omega
      rw [hv]
      obtain ⟨A1, c1, A2, c2, A3, c3⟩ := a
      unfold imV at *
      dsimp only at *
      generalize (bytesF m).length = n at *
      clear hm hok hw hb hv
      go_enter Tryd.func9, Tryd.ntmps9
      go_wp2_with (first
        | (go_at_call 10; go_loud (refine (hck _ belA).mono ?_; rintro r w1 ⟨rfl, hb1⟩; have k0 := bcell hb1))
        | (go_at_call 22; go_loud (refine (hl _ belA).mono ?_; rintro r w2 ⟨⟨A, cap, rfl, -⟩, hb2⟩)))
      go_ret2
      exact ⟨⟨A, cap, rfl⟩, belA⟩
  · have hv : encE m = ([], m.wrong) := by unfold encE; rw [if_pos hw]
    have tw : (m.wrong != 0) = true := by simpa using hw
    rw [hv]
    obtain ⟨A1, c1, A2, c2, A3, c3⟩ := a
    unfold imV at *
    dsimp only at *
    generalize m.wrong = e at *
    clear hm hok hw hv
    go_enter Tryd.func9, Tryd.ntmps9
    go_wp2_with (go_at_call 10; go_loud (refine (hck _ belA).mono ?_; rintro r w1 ⟨rfl, hb1⟩))
    go_ret2
    exact ⟨⟨none, 0, rfl⟩, belA⟩
end Go.Proofs.YtknfcamdfdfoeaaDoor

/- What the judge accepts, piece by piece. No program of Go in sight. -/
namespace Go.Proofs.YtknfcamdfdfoeaaDoor
open Go.RowKit

/-- A piece that the judge goes through, from a depth to a depth, wherever it stands. -/
def Fine (f : Fr) (c : List (Int × Int)) (d d' : Int) : Prop :=
  ∀ (n k e : Nat) (rest : List (Int × Int)) (ps : List Pl) (dep : Int), e = k + c.length → ps.length = n + 1 → e ≤ n →
    (∃ u, ps[k]? = some ⟨true, d, u⟩) → (∀ j, k < j → j < e → ps[j]? = some Pl.no) → (ps[e]? = some Pl.no ∨ ∃ u, ps[e]? = some ⟨true, d', u⟩) →
    ∃ ps' dep', goJ f n k (c ++ rest) ps dep = goJ f n e rest ps' dep' ∧ ps'.length = n + 1 ∧ (∃ u, ps'[e]? = some ⟨true, d', u⟩) ∧ ∀ j, e < j → ps'[j]? = ps[j]?

theorem come_ok {ps : List Pl} {tg : Nat} {d : Int} (f : Int) (h : ps[tg]? = some Pl.no ∨ ∃ u, ps[tg]? = some ⟨true, d, u⟩) : ∃ u, comeF ps tg d f = some (ps.set tg ⟨true, d, u⟩) := by
  unfold comeF
  rcases h with h | ⟨u, h⟩
  · rw [h]; exact ⟨f, by simp [Pl.no]⟩
  · rw [h]; exact ⟨max u f, by simp⟩
theorem getD_of {ps : List Pl} {k : Nat} {p : Pl} (h : ps[k]? = some p) : ps.getD k Pl.no = p := by
  rw [List.getD_eq_getElem?_getD, h]; rfl
theorem one_op {f : Fr} {k : Nat} {op n d d' u : Int} {ps : List Pl} (dep : Int) (hs : ps[k]? = some ⟨true, d, u⟩) (hr : rightF (op, n) = 0) (hroom : roomF op f < 0 ∨ n < roomF op f) (ht : takesF op ≤ d) (hd : d' = d - takesF op + givesF op) (h16 : d' ≤ 16) (hj : op ≠ 10 ∧ op ≠ 11)
    (he : ps[k + 1]? = some Pl.no ∨ ∃ u, ps[k + 1]? = some ⟨true, d', u⟩) : ∃ u', oneF f k (op, n) ps dep = (0, ps.set (k + 1) ⟨true, d', u'⟩, max dep d') := by
  obtain ⟨u', hc⟩ := come_ok (u + 1) he
  refine ⟨u', ?_⟩
  unfold oneF
  rw [getD_of hs]
  dsimp only
  rw [← hd, if_neg (by rw [hr]; decide), if_neg (by omega), if_neg (by decide), if_neg (by omega), if_neg (by omega), if_neg hj.1, hc]
  dsimp only
  rw [if_neg (by omega)]
theorem one_zero {f : Fr} {k : Nat} {n d u : Int} {ps : List Pl} (dep : Int) (m : Nat) (hm : n = m) (hs : ps[k]? = some ⟨true, d, u⟩) (h65 : m ≤ 65535) (hd : 1 ≤ d) (h16 : d ≤ 16) (hlt : k + 1 + m < ps.length)
    (h1 : ps[k + 1]? = some Pl.no ∨ ∃ u, ps[k + 1]? = some ⟨true, d - 1, u⟩) (h2 : ps[k + 1 + m]? = some Pl.no ∨ ∃ u, ps[k + 1 + m]? = some ⟨true, d - 1, u⟩) :
    ∃ u1 u2, oneF f k (11, n) ps dep = (0, (ps.set (k + 1) ⟨true, d - 1, u1⟩).set (k + 1 + m) ⟨true, d - 1, u2⟩, max dep (d - 1)) := by
  obtain ⟨u1, hc1⟩ := come_ok (u + 1) h1
  have h3 : (ps.set (k + 1) ⟨true, d - 1, u1⟩)[k + 1 + m]? = some Pl.no ∨ ∃ u, (ps.set (k + 1) ⟨true, d - 1, u1⟩)[k + 1 + m]? = some ⟨true, d - 1, u⟩ := by
    rcases Nat.eq_zero_or_pos m with h0 | h0
    · subst h0
      exact .inr ⟨u1, List.getElem?_set_self (by omega)⟩
    · rw [List.getElem?_set_ne (by omega)]
      exact h2
  obtain ⟨u2, hc2⟩ := come_ok (u + 1) h3
  refine ⟨u1, u2, ?_⟩
  have ht : takesF 11 = 1 := rfl
  have hg : givesF 11 = 0 := rfl
  have hrm : roomF 11 f = -1 := rfl
  have hr : rightF (11, n) = 0 := by
    unfold rightF
    simp only [show insW 11 = 2 from rfl]
    rw [if_neg (by decide), if_neg (by decide), if_neg (by omega), if_neg (by omega), if_neg (by omega), if_neg (by omega)]
  unfold oneF
  rw [getD_of hs]
  dsimp only
  rw [ht, hg, hrm, show d - 1 + 0 = d - 1 from by omega, if_neg (by rw [hr]; decide), if_neg (by omega), if_neg (by decide), if_neg (by omega), if_neg (by omega), if_neg (by decide), hc1]
  dsimp only
  rw [if_pos (.inr rfl), show ((k : Int) + 1 + n).toNat = k + 1 + m from by omega, hc2]
theorem one_jump {f : Fr} {k : Nat} {n d u : Int} {ps : List Pl} (dep : Int) (m : Nat) (hm : n = m) (hs : ps[k]? = some ⟨true, d, u⟩) (h65 : m ≤ 65535) (hd : 0 ≤ d) (h16 : d ≤ 16) (hlt : k + 1 + m < ps.length)
    (h2 : ps[k + 1 + m]? = some Pl.no ∨ ∃ u, ps[k + 1 + m]? = some ⟨true, d, u⟩) :
    ∃ u2, oneF f k (10, n) ps dep = (0, ps.set (k + 1 + m) ⟨true, d, u2⟩, max dep d) := by
  obtain ⟨u2, hc2⟩ := come_ok (u + 1) h2
  refine ⟨u2, ?_⟩
  have ht : takesF 10 = 0 := rfl
  have hg : givesF 10 = 0 := rfl
  have hrm : roomF 10 f = -1 := rfl
  have hr : rightF (10, n) = 0 := by
    unfold rightF
    simp only [show insW 10 = 2 from rfl]
    rw [if_neg (by decide), if_neg (by decide), if_neg (by omega), if_neg (by omega), if_neg (by omega), if_neg (by omega)]
  unfold oneF
  rw [getD_of hs]
  dsimp only
  rw [ht, hg, hrm, show d - 0 + 0 = d from by omega, if_neg (by rw [hr]; decide), if_neg (by omega), if_neg (by decide), if_neg (by omega), if_neg (by omega), if_pos rfl]
  dsimp only
  rw [if_pos (.inl rfl), show ((k : Int) + 1 + n).toNat = k + 1 + m from by omega, hc2]
theorem goJ_step {f : Fr} {n k : Nat} {i : Int × Int} {r : List (Int × Int)} {ps ps' : List Pl} {dep dep' : Int} (h : oneF f k i ps dep = (0, ps', dep')) : goJ f n k (i :: r) ps dep = goJ f n (k + 1) r ps' dep' := by
  rw [goJ, h, if_neg (by simp)]

theorem Fine.op {f : Fr} {op n d d' : Int} (hr : rightF (op, n) = 0) (hroom : roomF op f < 0 ∨ n < roomF op f) (ht : takesF op ≤ d) (hd : d' = d - takesF op + givesF op) (h16 : d' ≤ 16) (hj : op ≠ 10 ∧ op ≠ 11) : Fine f [(op, n)] d d' := by
  intro m k e rest ps dep he hl hk ⟨u, hs⟩ _ hend
  obtain rfl : e = k + 1 := by simpa using he
  obtain ⟨u', ho⟩ := one_op dep hs hr hroom ht hd h16 hj hend
  refine ⟨_, _, goJ_step ho, by rw [List.length_set]; exact hl, ⟨u', List.getElem?_set_self (by omega)⟩, fun j hj => List.getElem?_set_ne (by omega)⟩
theorem Fine.nil {f : Fr} {d : Int} : Fine f [] d d := by
  intro m k e rest ps dep he hl hk hs _ hend
  obtain rfl : e = k := by simpa using he
  exact ⟨ps, dep, rfl, hl, hs, fun _ _ => rfl⟩
theorem Fine.app {f : Fr} {c1 c2 : List (Int × Int)} {d d1 d2 : Int} (h1 : Fine f c1 d d1) (h2 : Fine f c2 d1 d2) (hn1 : c1 ≠ [] ∨ d = d1) (hn2 : c2 ≠ [] ∨ d1 = d2) : Fine f (c1 ++ c2) d d2 := by
  intro n k e rest ps dep he hl hk hs hin hend
  rw [List.length_append] at he
  have hmid : ps[k + c1.length]? = some Pl.no ∨ ∃ u, ps[k + c1.length]? = some ⟨true, d1, u⟩ := by
    rcases List.eq_nil_or_concat c2 with h0 | ⟨_, _, h0⟩
    · subst h0
      obtain rfl : d1 = d2 := by simpa using hn2
      rw [show k + c1.length = e by simpa using he.symm]
      exact hend
    · have hp : 0 < c2.length := by rw [h0]; simp
      rcases List.eq_nil_or_concat c1 with h3 | ⟨_, _, h3⟩
      · subst h3
        obtain rfl : d = d1 := by simpa using hn1
        exact .inr hs
      · have hp1 : 0 < c1.length := by rw [h3]; simp
        exact .inl (hin _ (by omega) (by omega))
  obtain ⟨ps1, dep1, g1, l1, s1, k1⟩ := h1 n k (k + c1.length) (c2 ++ rest) ps dep rfl hl (by omega) hs (fun j a b => hin j a (by omega)) hmid
  have hend2 : ps1[e]? = some Pl.no ∨ ∃ u, ps1[e]? = some ⟨true, d2, u⟩ := by
    rcases Nat.eq_zero_or_pos c2.length with h0 | h0
    · have hc : c2 = [] := List.eq_nil_of_length_eq_zero h0
      obtain rfl : d1 = d2 := by rcases hn2 with h | h; exact absurd hc h; exact h
      rw [show e = k + c1.length by omega]
      exact .inr s1
    · rw [k1 e (by omega)]
      exact hend
  obtain ⟨ps2, dep2, g2, l2, s2, k2⟩ := h2 n (k + c1.length) e rest ps1 dep1 (by omega) l1 hk s1 (fun j a b => (k1 j a).trans (hin j (by omega) b)) hend2
  exact ⟨ps2, dep2, by rw [List.append_assoc, g1, g2], l2, s2, fun j hj => (k2 j hj).trans (k1 j (by omega))⟩
/-- Of two pieces the one or the other. -/
theorem Fine.either {f : Fr} {a b : List (Int × Int)} {d : Int} (ha : Fine f a d (d + 1)) (hb : Fine f b d (d + 1)) (na : 0 < a.length) (nb : 0 < b.length) (la : a.length ≤ 65000) (lb : b.length ≤ 65000) (h0 : 0 ≤ d) (h16 : d + 1 ≤ 16) :
    Fine f ([(11, (a.length : Int) + 1)] ++ a ++ [(10, (b.length : Int))] ++ b) (d + 1) (d + 1) := by
  intro n k e rest ps dep he hl hk ⟨u, hs⟩ hin hend
  simp only [List.length_append, List.length_cons, List.length_nil] at he
  obtain ⟨u1, u2, ho⟩ := one_zero (f := f) dep (a.length + 1) (n := (a.length : Int) + 1) (by omega) hs (by omega) (by omega) (by omega) (by omega) (.inl (hin _ (by omega) (by omega))) (.inl (hin _ (by omega) (by omega)))
  rw [show d + 1 - 1 = d from by omega] at ho
  generalize hps1 : (ps.set (k + 1) ⟨true, d, u1⟩).set (k + 1 + (a.length + 1)) ⟨true, d, u2⟩ = ps1 at ho
  have l1 : ps1.length = n + 1 := by rw [← hps1, List.length_set, List.length_set]; exact hl
  have s1 : ps1[k + 1]? = some ⟨true, d, u1⟩ := by rw [← hps1, List.getElem?_set_ne (by omega)]; exact List.getElem?_set_self (by omega)
  have s2 : ps1[k + 1 + (a.length + 1)]? = some ⟨true, d, u2⟩ := by rw [← hps1]; exact List.getElem?_set_self (by rw [List.length_set]; omega)
  have s3 : ∀ j, j ≠ k + 1 → j ≠ k + 1 + (a.length + 1) → ps1[j]? = ps[j]? := fun j h1 h2 => by rw [← hps1, List.getElem?_set_ne (Ne.symm h2), List.getElem?_set_ne (Ne.symm h1)]
  obtain ⟨ps2, dep2, g2, l2, t2, k2⟩ := ha n (k + 1) (k + 1 + a.length) ((10, (b.length : Int)) :: (b ++ rest)) ps1 _ rfl l1 (by omega) ⟨_, s1⟩
    (fun j h1 h2 => (s3 j (by omega) (by omega)).trans (hin j (by omega) (by omega))) (.inl ((s3 _ (by omega) (by omega)).trans (hin _ (by omega) (by omega))))
  obtain ⟨u3, t2⟩ := t2
  have hend2 : ps2[k + 1 + a.length + 1 + b.length]? = some Pl.no ∨ ∃ u, ps2[k + 1 + a.length + 1 + b.length]? = some ⟨true, d + 1, u⟩ := by
    rw [k2 _ (by omega), s3 _ (by omega) (by omega), show k + 1 + a.length + 1 + b.length = e by omega]
    exact hend
  obtain ⟨u4, ho3⟩ := one_jump (f := f) dep2 b.length (n := (b.length : Int)) rfl t2 (by omega) (by omega) (by omega) (by omega) hend2
  generalize hps3 : ps2.set (k + 1 + a.length + 1 + b.length) ⟨true, d + 1, u4⟩ = ps3 at ho3
  have l3 : ps3.length = n + 1 := by rw [← hps3, List.length_set]; exact l2
  have r1 : ps3[e]? = some ⟨true, d + 1, u4⟩ := by rw [← hps3, show e = k + 1 + a.length + 1 + b.length by omega]; exact List.getElem?_set_self (by omega)
  have r2 : ∀ j, k + 1 + a.length < j → j ≠ e → ps3[j]? = ps1[j]? := fun j h1 h2 => by rw [← hps3, List.getElem?_set_ne (by omega)]; exact k2 j h1
  obtain ⟨ps4, dep4, g4, l4, t4, k4⟩ := hb n (k + 1 + a.length + 1) e rest ps3 _ (by omega) l3 hk ⟨u2, by rw [r2 _ (by omega) (by omega)]; exact s2⟩
    (fun j h1 h2 => (r2 j (by omega) (by omega)).trans ((s3 j (by omega) (by omega)).trans (hin j (by omega) h2))) (.inr ⟨_, r1⟩)
  refine ⟨ps4, dep4, ?_, l4, t4, fun j hj => (k4 j hj).trans ((r2 j (by omega) (by omega)).trans (s3 j (by omega) (by omega)))⟩
  rw [show [((11 : Int), (a.length : Int) + 1)] ++ a ++ [((10 : Int), (b.length : Int))] ++ b ++ rest = (11, (a.length : Int) + 1) :: (a ++ ((10, (b.length : Int)) :: (b ++ rest))) by simp, goJ_step ho, g2, goJ_step ho3, g4]
theorem Fine.choice {f : Fr} {v a b : List (Int × Int)} {d : Int} (hv : Fine f v d (d + 1)) (ha : Fine f a d (d + 1)) (hb : Fine f b d (d + 1)) (nv : 0 < v.length) (na : 0 < a.length) (nb : 0 < b.length) (la : a.length ≤ 65000) (lb : b.length ≤ 65000) (h0 : 0 ≤ d) (h16 : d + 1 ≤ 16) :
    Fine f (choiceC v a b) d (d + 1) := by
  have h := hv.app (Fine.either ha hb na nb la lb h0 h16) (.inl fun h => by rw [h] at nv; cases nv) (.inl fun h => by simp at h)
  unfold choiceC
  simpa only [List.append_assoc] using h
/-- A piece that is gone past where a value is 0. -/
theorem Fine.past {f : Fr} {x : List (Int × Int)} (hx : Fine f x 0 0) (nx : 0 < x.length) (lx : x.length ≤ 65000) : Fine f ([(11, (x.length : Int))] ++ x) 1 0 := by
  intro n k e rest ps dep he hl hk ⟨u, hs⟩ hin hend
  simp only [List.length_append, List.length_cons, List.length_nil] at he
  have hend1 : ps[k + 1 + x.length]? = some Pl.no ∨ ∃ u, ps[k + 1 + x.length]? = some ⟨true, 1 - 1, u⟩ := by rw [show k + 1 + x.length = e by omega]; exact hend
  obtain ⟨u1, u2, ho⟩ := one_zero (f := f) dep x.length (n := (x.length : Int)) rfl hs (by omega) (by omega) (by omega) (by omega) (.inl (hin _ (by omega) (by omega))) hend1
  rw [show (1 : Int) - 1 = 0 from rfl] at ho
  generalize hps1 : (ps.set (k + 1) ⟨true, 0, u1⟩).set (k + 1 + x.length) ⟨true, 0, u2⟩ = ps1 at ho
  have l1 : ps1.length = n + 1 := by rw [← hps1, List.length_set, List.length_set]; exact hl
  have s1 : ps1[k + 1]? = some ⟨true, 0, u1⟩ := by rw [← hps1, List.getElem?_set_ne (by omega)]; exact List.getElem?_set_self (by omega)
  have s2 : ps1[e]? = some ⟨true, 0, u2⟩ := by rw [← hps1, show e = k + 1 + x.length by omega]; exact List.getElem?_set_self (by rw [List.length_set]; omega)
  have s3 : ∀ j, j ≠ k + 1 → j ≠ e → ps1[j]? = ps[j]? := fun j h1 h2 => by rw [← hps1, List.getElem?_set_ne (by omega), List.getElem?_set_ne (Ne.symm h1)]
  obtain ⟨ps2, dep2, g2, l2, t2, k2⟩ := hx n (k + 1) e rest ps1 _ (by omega) l1 hk ⟨_, s1⟩ (fun j h1 h2 => (s3 j (by omega) (by omega)).trans (hin j (by omega) h2)) (.inr ⟨_, s2⟩)
  refine ⟨ps2, dep2, ?_, l2, t2, fun j hj => (k2 j hj).trans (s3 j (by omega) (by omega))⟩
  rw [show [((11 : Int), (x.length : Int))] ++ x ++ rest = (11, (x.length : Int)) :: (x ++ rest) by simp, goJ_step ho, g2]
/-- What is fine from 0 to 0 is accepted. -/
theorem Fine.judged {f : Fr} {c : List (Int × Int)} (h : Fine f c 0 0) (hg : f.good = true) (hl : c.length ≤ 600) : (judgeF c f).2.1 = 0 := by
  unfold judgeF
  rw [if_neg (by rw [hg]; decide), if_neg (by omega)]
  have hin : ∀ j, 0 < j → j < c.length → (placesF c.length)[j]? = some Pl.no := fun j h1 h2 => by
    unfold placesF
    cases j with
    | zero => omega
    | succ j => rw [List.getElem?_cons_succ, List.getElem?_replicate, if_pos (by omega)]
  have hend : (placesF c.length)[c.length]? = some Pl.no ∨ ∃ u, (placesF c.length)[c.length]? = some ⟨true, 0, u⟩ := by
    rcases Nat.eq_zero_or_pos c.length with h0 | h0
    · rw [h0]; exact .inr ⟨0, rfl⟩
    · left
      unfold placesF
      obtain ⟨j, hj⟩ : ∃ j, c.length = j + 1 := ⟨c.length - 1, by omega⟩
      rw [hj, List.getElem?_cons_succ, List.getElem?_replicate, if_pos (by omega)]
  obtain ⟨ps', dep', g, l, ⟨u, t⟩, _⟩ := h c.length 0 c.length [] (placesF c.length) 0 (by omega) (by simp [placesF]) (Nat.le_refl _) ⟨0, rfl⟩ hin hend
  rw [List.append_nil] at g
  rw [g, goJ, getD_of t, if_neg (by simp)]
end Go.Proofs.YtknfcamdfdfoeaaDoor

/- The code of a program in which nothing is wrong is accepted, and its image is right. No program of Go in sight. -/
namespace Go.Proofs.YtknfcamdfdfoeaaDoor
open Go.RowKit

namespace Ex
theorem depthL_mem : ∀ (l : List Ex) (n : Int), (∀ x ∈ l, x.depth ≤ depthL l n) ∧ n ≤ depthL l n
  | [], n => ⟨by simp, by simp [depthL]⟩
  | x :: l, n => by
    have h := depthL_mem l (max n x.depth)
    rw [depthL]
    refine ⟨fun y hy => ?_, by have := h.2; omega⟩
    rcases List.mem_cons.1 hy with rfl | hy
    · have := h.2; omega
    · exact h.1 y hy
theorem depth_part {e x : Ex} (h : x ∈ e.sub) : x.depth + 1 ≤ e.depth := by
  rw [depth_eq e]
  have := (depthL_mem e.sub 0).1 x h
  omega
end Ex
theorem formedH_cases {k n : Int} {s : ByteArray} {len : Nat} (h : formedH k n s len = true) :
    (k = 1 ∧ len = 0) ∨ (k = 2 ∧ len = 0) ∨ (k = 3 ∧ len = 0) ∨ (k = 4 ∧ len = 1 ∧ 1 ≤ n ∧ n ≤ 2) ∨ (k = 5 ∧ len = 2 ∧ 1 ≤ n ∧ n ≤ 16) ∨ (k = 6 ∧ len = 3) ∨ (k = 7 ∧ len = 2) ∨ (k = 8 ∧ len = 1) ∨ (k = 9 ∧ len = 1) ∨ (k = 10 ∧ len = 2) := by
  unfold formedH at h
  simp only [Bool.and_eq_true, beq_iff_eq, Bool.not_eq_true', decide_eq_false_iff_not] at h
  obtain ⟨⟨⟨⟨⟨h1, h2⟩, h3⟩, h4⟩, _⟩, _⟩ := h
  have hk : k = 1 ∨ k = 2 ∨ k = 3 ∨ k = 4 ∨ k = 5 ∨ k = 6 ∨ k = 7 ∨ k = 8 ∨ k = 9 ∨ k = 10 ∨ (k ≠ 1 ∧ k ≠ 2 ∧ k ≠ 3 ∧ k ≠ 4 ∧ k ≠ 5 ∧ k ≠ 6 ∧ k ≠ 7 ∧ k ≠ 8 ∧ k ≠ 9 ∧ k ≠ 10) := by omega
  rcases hk with rfl | rfl | rfl | rfl | rfl | rfl | rfl | rfl | rfl | rfl | ⟨a1, a2, a3, a4, a5, a6, a7, a8, a9, a10⟩
  case inr.inr.inr.inr.inr.inr.inr.inr.inr.inr =>
    unfold formK at h1
    rw [if_neg a1, if_neg a2, if_neg a3, if_neg a4, if_neg a5, if_neg a6, if_neg a7, if_neg a8, if_neg a9, if_neg a10] at h1
    cases h1
  all_goals
    simp only [formK] at h2 h3 h4
    simp at h2 h3 h4
    omega

section
variable {f : Fr} {sl : ByteArray → Int} {fl : Int × ByteArray → Int}
theorem right_touch {op n : Int} (h : 1 < op) (h' : op < 8) (h0 : 0 ≤ n) (h1 : n ≤ 255) : rightF (op, n) = 0 := by
  have hw : insW op = 1 := by unfold insW; rw [if_neg (by omega), if_neg (by omega), if_pos (by omega)]
  unfold rightF
  dsimp only
  rw [hw, if_neg (by decide), if_neg (by decide), if_neg (by omega), if_neg (by omega), if_neg (by omega), if_neg (by omega)]
theorem Fine.give {op n d : Int} (h : op = 2 ∨ op = 4 ∨ op = 6) (h0 : 0 ≤ n) (h1 : n ≤ 255) (hr : n < roomF op f) (hd : 0 ≤ d) (h16 : d + 1 ≤ 16) : Fine f [(op, n)] d (d + 1) := by
  have ht : takesF op = 0 := by unfold takesF; rw [if_neg (by omega), if_neg (by omega)]
  have hg : givesF op = 1 := by unfold givesF; rw [if_pos (by omega)]
  exact Fine.op (right_touch (by omega) (by omega) h0 h1) (.inr hr) (by omega) (by omega) (by omega) ⟨by omega, by omega⟩
theorem Fine.take {op n : Int} (h : op = 3 ∨ op = 5 ∨ op = 7) (h0 : 0 ≤ n) (h1 : n ≤ 255) (hr : n < roomF op f) : Fine f [(op, n)] 1 0 := by
  have ht : takesF op = 1 := by unfold takesF; rw [if_pos (by omega)]
  have hg : givesF op = 0 := by unfold givesF; rw [if_neg (by omega)]
  exact Fine.op (right_touch (by omega) (by omega) h0 h1) (.inr hr) (by omega) (by omega) (by omega) ⟨by omega, by omega⟩
theorem Fine.push {n d : Int} (hd : 0 ≤ d) (h16 : d + 1 ≤ 16) : Fine f [(1, n)] d (d + 1) :=
  Fine.op rfl (.inl (show (-1 : Int) < 0 by decide)) (show (0 : Int) ≤ d from hd) (by have h1 : takesF 1 = 0 := rfl; have h2 : givesF 1 = 1 := rfl; omega) h16 ⟨by decide, by decide⟩
theorem Fine.un {n d : Int} (h1 : 1 ≤ n) (h2 : n ≤ 2) (hd : 0 ≤ d) (h16 : d + 1 ≤ 16) : Fine f [(8, n)] (d + 1) (d + 1) := by
  have ht : takesF 8 = 1 := rfl
  have hg : givesF 8 = 1 := rfl
  have hr : rightF (8, n) = 0 := by
    unfold rightF
    simp only [show insW 8 = 1 from rfl]
    rw [if_neg (by decide), if_neg (by decide), if_neg (by omega), if_neg (by omega), if_neg (by omega), if_neg (by omega)]
  exact Fine.op hr (.inl (show (-1 : Int) < 0 by decide)) (by omega) (by omega) (by omega) ⟨by decide, by decide⟩
theorem Fine.bin {n d : Int} (h1 : 1 ≤ n) (h2 : n ≤ 16) (hd : 0 ≤ d) (h16 : d + 1 ≤ 16) : Fine f [(9, n)] (d + 1 + 1) (d + 1) := by
  have ht : takesF 9 = 2 := rfl
  have hg : givesF 9 = 1 := rfl
  have hr : rightF (9, n) = 0 := by
    unfold rightF
    simp only [show insW 9 = 1 from rfl]
    rw [if_neg (by decide), if_neg (by decide), if_neg (by omega), if_neg (by omega), if_neg (by omega), if_neg (by omega)]
  exact Fine.op hr (.inl (show (-1 : Int) < 0 by decide)) (by omega) (by omega) (by omega) ⟨by decide, by decide⟩
theorem ne_of_pos {α : Type} {l : List α} (h : 0 < l.length) : l ≠ [] := fun e => by rw [e] at h; cases h

theorem gen_fine (hsl : ∀ s, 0 ≤ sl s ∧ sl s < f.s) (hs : f.s ≤ 255) (ho : f.o ≤ 255) (e : Ex) : ∀ c d, e.formed = true → (∀ c' ∈ e.arrs [] c, 0 ≤ fl c' ∧ fl c' < f.o) → e.size ≤ 120 → 0 ≤ d → d + e.depth ≤ 16 → Fine f (e.gen sl fl c) d (d + 1) ∧ 0 < (e.gen sl fl c).length := by
  induction e using Ex.ind with
  | h e ih =>
    intro c d hf ha hz h0 hd
    have hpart : ∀ (j : Nat), j < e.sub.length → ∀ d' : Int, 0 ≤ d' → d' + e.depth ≤ 17 → Fine f ((Ex.genL sl fl e.kind e.name c 0 e.sub).getD j []) d' (d' + 1) ∧ 0 < ((Ex.genL sl fl e.kind e.name c 0 e.sub).getD j []).length ∧ ((Ex.genL sl fl e.kind e.name c 0 e.sub).getD j []).length ≤ 65000 := by
      intro j hj d' h0' hd'
      have hx : e.sub[j]? = some e.sub[j] := List.getElem?_eq_getElem hj
      have hm : e.sub[j] ∈ e.sub := List.getElem_mem hj
      generalize e.sub[j] = x at hx hm
      have h1 := Ex.depth_part hm
      have h2 := Ex.size_sub hx
      rw [Ex.genL_get sl fl e.kind e.name c e.sub 0 j x hx, Nat.zero_add]
      have h3 := ih x hm (withC e.kind e.name c j) d' (formed_subs hf x hm) (fun c' hc => ha c' (Ex.arrs_sub hx c c' hc)) (by omega) h0' (by omega)
      have h4 := Ex.gen_len sl fl x (withC e.kind e.name c j)
      exact ⟨h3.1, h3.2, by omega⟩
    have hdp := (Ex.depth_bd e).1
    rw [Ex.formed_eq, Bool.and_eq_true] at hf
    have hcs := formedH_cases hf.1
    have hall := @Ex.arrs_here e
    rw [Ex.gen_eq]
    generalize Ex.genL sl fl e.kind e.name c 0 e.sub = ps at hpart
    unfold genK
    have hload : Fine f [(2, sl e.name)] d (d + 1) := Fine.give (.inl rfl) (hsl e.name).1 (by have := (hsl e.name).2; omega) (hsl e.name).2 h0 (by omega)
    rcases hcs with ⟨hk, hl⟩ | ⟨hk, hl⟩ | ⟨hk, hl⟩ | ⟨hk, hl, n1, n2⟩ | ⟨hk, hl, n1, n2⟩ | ⟨hk, hl⟩ | ⟨hk, hl⟩ | ⟨hk, hl⟩ | ⟨hk, hl⟩ | ⟨hk, hl⟩
    · rw [if_neg (by omega), if_neg (by omega), if_neg (by omega), if_neg (by omega), if_neg (by omega), if_neg (by omega), if_neg (by omega)]
      exact ⟨Fine.push h0 (by omega), by simp⟩
    · rw [if_neg (by omega), if_neg (by omega), if_neg (by omega), if_neg (by omega), if_neg (by omega), if_neg (by omega), if_neg (by omega)]
      exact ⟨Fine.push h0 (by omega), by simp⟩
    · rw [if_pos hk]
      exact ⟨hload, by simp⟩
    · rw [if_neg (by omega), if_pos hk]
      obtain ⟨a1, a2, _⟩ := hpart 0 (by omega) d h0 (by omega)
      exact ⟨a1.app (Fine.un n1 n2 h0 (by omega)) (.inl (ne_of_pos a2)) (.inr rfl), by simp⟩
    · rw [if_neg (by omega), if_neg (by omega), if_pos hk]
      obtain ⟨a1, a2, _⟩ := hpart 0 (by omega) d h0 (by omega)
      obtain ⟨b1, b2, _⟩ := hpart 1 (by omega) (d + 1) (by omega) (by omega)
      exact ⟨(a1.app b1 (.inl (ne_of_pos a2)) (.inl (ne_of_pos b2))).app (Fine.bin n1 n2 h0 (by omega)) (.inl (ne_of_pos (by rw [List.length_append]; omega))) (.inl (by simp)), by simp; omega⟩
    · rw [if_neg (by omega), if_neg (by omega), if_neg (by omega), if_pos hk]
      obtain ⟨a1, a2, _⟩ := hpart 0 (by omega) d h0 (by omega)
      obtain ⟨b1, b2, b3⟩ := hpart 1 (by omega) d h0 (by omega)
      obtain ⟨c1, c2, c3⟩ := hpart 2 (by omega) d h0 (by omega)
      exact ⟨Fine.choice a1 b1 c1 a2 b2 c2 b3 c3 h0 (by omega), by rw [Ex.choice_len]; omega⟩
    · rw [if_neg (by omega), if_neg (by omega), if_neg (by omega), if_neg (by omega), if_pos hk]
      obtain ⟨b1, b2, b3⟩ := hpart 1 (by omega) d h0 (by omega)
      obtain ⟨c1, c2, c3⟩ := hpart 0 (by omega) d h0 (by omega)
      obtain ⟨g1, g2⟩ := ha c (hall hk c)
      exact ⟨Fine.choice (Fine.give (.inr (.inl rfl)) g1 (by omega) g2 h0 (by omega)) b1 c1 (by simp) b2 c2 b3 c3 h0 (by omega), by rw [Ex.choice_len]; simp⟩
    · rw [if_neg (by omega), if_neg (by omega), if_neg (by omega), if_neg (by omega), if_neg (by omega), if_pos (.inl hk)]
      obtain ⟨a1, a2, _⟩ := hpart 0 (by omega) d h0 (by omega)
      exact ⟨a1, a2⟩
    · rw [if_neg (by omega), if_neg (by omega), if_neg (by omega), if_neg (by omega), if_neg (by omega), if_pos (.inr hk)]
      obtain ⟨a1, a2, _⟩ := hpart 0 (by omega) d h0 (by omega)
      exact ⟨a1, a2⟩
    · rw [if_neg (by omega), if_neg (by omega), if_neg (by omega), if_neg (by omega), if_neg (by omega), if_neg (by omega), if_pos hk]
      obtain ⟨b1, b2, b3⟩ := hpart 0 (by omega) d h0 (by omega)
      obtain ⟨c1, c2, c3⟩ := hpart 1 (by omega) d h0 (by omega)
      exact ⟨Fine.choice hload b1 c1 (by simp) b2 c2 b3 c3 h0 (by omega), by rw [Ex.choice_len]; simp⟩
theorem under_fine (hsl : ∀ s, 0 ≤ sl s ∧ sl s < f.s) (hs : f.s ≤ 255) {c : Int × ByteArray} {x : List (Int × Int)} (hx : Fine f x 0 0) (nx : 0 < x.length) (lx : x.length ≤ 65000) : Fine f (underC sl c x) 0 0 := by
  have hload : Fine f [(2, sl c.2)] 0 1 := Fine.give (.inl rfl) (hsl c.2).1 (by have := (hsl c.2).2; omega) (hsl c.2).2 (by omega) (by omega)
  unfold underC
  split
  · exact hload.app (Fine.past hx nx lx) (.inl (by simp)) (.inl (by simp))
  · split
    · have h2 : Fine f [(2, sl c.2), (8, 2)] 0 1 := hload.app (Fine.un (d := 0) (by omega) (by omega) (by omega) (by omega)) (.inl (by simp)) (.inr rfl)
      exact h2.app (Fine.past hx nx lx) (.inl (by simp)) (.inl (by simp))
    · exact hx
theorem ins_fine (hsl : ∀ s, 0 ≤ sl s ∧ sl s < f.s) (hs : f.s ≤ 255) (hi : f.i ≤ 255) : ∀ (l : List Va) (i : Nat), ((i + l.length : Nat) : Int) ≤ f.i → Fine f (insC sl i l) 0 0
  | [], i, _ => Fine.nil
  | v :: r, i, h => by
    rw [List.length_cons] at h
    rw [insC]
    have h1 : Fine f [(6, (i : Int))] 0 1 := Fine.give (.inr (.inr rfl)) (by omega) (by omega) (show (i : Int) < f.i by omega) (by omega) (by omega)
    have h2 : Fine f [(3, sl v.name)] 1 0 := Fine.take (.inl rfl) (hsl v.name).1 (by have := (hsl v.name).2; omega) (hsl v.name).2
    exact (h1.app h2 (.inl (by simp)) (.inl (by simp))).app (ins_fine hsl hs hi r (i + 1) (by omega)) (.inr rfl) (.inr rfl)
theorem old_fine (hsl : ∀ s, 0 ≤ sl s ∧ sl s < f.s) (hs : f.s ≤ 255) (hi : f.o ≤ 255) : ∀ (l : List Qe) (i : Nat), ((i + l.length : Nat) : Int) ≤ f.o → Fine f (oldC sl i l) 0 0
  | [], i, _ => Fine.nil
  | v :: r, i, h => by
    rw [List.length_cons] at h
    rw [oldC]
    have h1 : Fine f [(4, (i : Int))] 0 1 := Fine.give (.inr (.inl rfl)) (by omega) (by omega) (show (i : Int) < f.o by omega) (by omega) (by omega)
    have h2 : Fine f [(3, sl v.name)] 1 0 := Fine.take (.inl rfl) (hsl v.name).1 (by have := (hsl v.name).2; omega) (hsl v.name).2
    exact (h1.app h2 (.inl (by simp)) (.inl (by simp))).app (old_fine hsl hs hi r (i + 1) (by omega)) (.inr rfl) (.inr rfl)
theorem out_fine (hsl : ∀ s, 0 ≤ sl s ∧ sl s < f.s) (hs : f.s ≤ 255) (hi : f.u ≤ 255) : ∀ (l : List Va) (i : Nat), ((i + l.length : Nat) : Int) ≤ f.u → Fine f (outC sl i l) 0 0
  | [], i, _ => Fine.nil
  | v :: r, i, h => by
    rw [List.length_cons] at h
    rw [outC]
    have h1 : Fine f [(2, sl v.name)] 0 1 := Fine.give (.inl rfl) (hsl v.name).1 (by have := (hsl v.name).2; omega) (hsl v.name).2 (by omega) (by omega)
    have h2 : Fine f [(7, (i : Int))] 1 0 := Fine.take (.inr (.inr rfl)) (by omega) (by omega) (show (i : Int) < f.u by omega)
    exact (h1.app h2 (.inl (by simp)) (.inl (by simp))).app (out_fine hsl hs hi r (i + 1) (by omega)) (.inr rfl) (.inr rfl)
theorem flg_fine (hsl : ∀ s, 0 ≤ sl s ∧ sl s < f.s) (hs : f.s ≤ 255) (hi : f.n ≤ 255) : ∀ (l : List Ce) (i : Nat), ((i + l.length : Nat) : Int) ≤ f.n → Fine f (flgC sl i l) 0 0
  | [], i, _ => Fine.nil
  | v :: r, i, h => by
    rw [List.length_cons] at h
    rw [flgC]
    have h1 : Fine f [(1, 1)] 0 1 := Fine.push (by omega) (by omega)
    have h2 : Fine f [(5, (i : Int))] 1 0 := Fine.take (.inr (.inl rfl)) (by omega) (by omega) (show (i : Int) < f.n by omega)
    exact (under_fine hsl hs (h1.app h2 (.inl (by simp)) (.inl (by simp))) (by simp) (by simp)).app (flg_fine hsl hs hi r (i + 1) (by omega)) (.inr rfl) (.inr rfl)
theorem new_fine {L : List Va} (hsl : ∀ s, 0 ≤ sl s ∧ sl s < f.s) (hs : f.s ≤ 255) (hi : f.n ≤ 255) : ∀ (l : List Qe) (i : Nat), (∀ q ∈ l, Fine f (q.e.gen sl fl (clockL L q.name)) 0 1 ∧ 0 < (q.e.gen sl fl (clockL L q.name)).length ∧ (q.e.gen sl fl (clockL L q.name)).length ≤ 360) → ((i + l.length : Nat) : Int) ≤ f.n → Fine f (newC sl fl L i l) 0 0
  | [], i, _, _ => Fine.nil
  | q :: r, i, hq, h => by
    rw [List.length_cons] at h
    rw [newC]
    obtain ⟨g1, g2, g3⟩ := hq q (by simp)
    have h2 : Fine f [(5, (i : Int))] 1 0 := Fine.take (.inr (.inl rfl)) (by omega) (by omega) (show (i : Int) < f.n by omega)
    exact (under_fine hsl hs (g1.app h2 (.inl (ne_of_pos g2)) (.inl (by simp))) (by simp) (by simp; omega)).app (new_fine hsl hs hi r (i + 1) (fun x hx => hq x (by simp [hx])) (by omega)) (.inr rfl) (.inr rfl)
theorem ord_fine {L : List Va} {eqs : List Qe} (hsl : ∀ s, 0 ≤ sl s ∧ sl s < f.s) (hs : f.s ≤ 255) (hq : ∀ q ∈ eqs, Fine f (q.e.gen sl fl (clockL L q.name)) 0 1 ∧ 0 < (q.e.gen sl fl (clockL L q.name)).length ∧ (q.e.gen sl fl (clockL L q.name)).length ≤ 360) : ∀ l : List Int, Fine f (ordC sl fl L eqs l) 0 0
  | [] => Fine.nil
  | j :: r => by
    rw [ordC]
    refine Fine.app ?_ (ord_fine hsl hs hq r) (.inr rfl) (.inr rfl)
    cases hx : eqs[j.toNat]? with
    | none => exact Fine.nil
    | some q =>
      obtain ⟨g1, g2, g3⟩ := hq q (List.mem_of_getElem? hx)
      have h2 : Fine f [(3, sl q.name)] 1 0 := Fine.take (.inl rfl) (hsl q.name).1 (by have := (hsl q.name).2; omega) (hsl q.name).2
      exact under_fine hsl hs (g1.app h2 (.inl (ne_of_pos g2)) (.inl (by simp))) (by simp) (by simp; omega)
end

theorem slot_range (L : List Va) (s : ByteArray) (h : 0 < L.length) : 0 ≤ slotF L s ∧ slotF L s < (L.length : Int) := by
  unfold slotF
  cases hv : findV L s with
  | none => exact ⟨by simp, by simp; omega⟩
  | some j =>
    obtain ⟨k, v, rfl, hk, _⟩ := findV_some hv
    have := (List.getElem?_eq_some_iff.1 hk).1
    simp only [Option.getD_some]
    omega
theorem flagI_range (d : Int × ByteArray) : ∀ (l : List Ce) (i : Nat), flagI i l d = 0 ∨ ((i : Int) ≤ flagI i l d ∧ flagI i l d < ((i + l.length : Nat) : Int))
  | [], i => .inl rfl
  | x :: r, i => by
    rw [flagI]
    split
    · right; rw [List.length_cons]; omega
    · rcases flagI_range d r (i + 1) with h | h
      · exact .inl h
      · right; rw [List.length_cons]; omega
theorem flag_range (l : List Ce) (d : Int × ByteArray) (h : 0 < l.length) : 0 ≤ flagF l d ∧ flagF l d < (l.length : Int) := by
  unfold flagF
  rcases flagI_range d l 0 with h1 | h1 <;> omega

namespace Ex
theorem typL_mem {L : List Va} : ∀ (r : List Ex), (typL L r).2 = 0 → ∀ x ∈ r, (typ L x).2 = 0
  | [], _, x, hx => by cases hx
  | y :: r, h, x, hx => by
    obtain ⟨h1, h2⟩ := typL_cons h
    rcases List.mem_cons.1 hx with rfl | hx
    · exact h1
    · exact typL_mem r h2 x hx
theorem arrsL_mem {k : Int} {s : ByteArray} {c : Int × ByteArray} : ∀ (r : List Ex) (i : Nat) (d : Int × ByteArray), d ∈ arrsL [] k s c i r → ∃ (j : Nat) (x : Ex), r[j]? = some x ∧ d ∈ x.arrs [] (withC k s c (i + j))
  | [], i, d, h => by rw [arrsL] at h; cases h
  | x :: r, i, d, h => by
    rw [arrsL, arrsL_app r (fun y _ => arrs_app y)] at h
    rcases List.mem_append.1 h with h | h
    · exact ⟨0, x, rfl, h⟩
    · obtain ⟨j, y, h1, h2⟩ := arrsL_mem r (i + 1) d h
      exact ⟨j + 1, y, by simpa using h1, by rwa [show i + (j + 1) = i + 1 + j from by omega]⟩
/-- At which clocks an arrow may stand. -/
theorem arrs_all {L : List Va} (e : Ex) : ∀ c, e.formed = true → (e.typ L).2 = 0 → ∀ d ∈ e.arrs [] c, d = c ∨ d ∈ allC L := by
  induction e using ind with
  | h e ih =>
    intro c hf ht d hd
    rw [typ_eq] at ht
    by_cases hr : (typL L e.sub).2 = 0
    · rw [if_pos hr] at ht
      rw [arrs_eq, arrsL_app e.sub (fun y _ => arrs_app y)] at hd
      rcases List.mem_append.1 hd with h1 | h1
      · split at h1
        · left; simpa using h1
        · cases h1
      · obtain ⟨j, x, hx, h2⟩ := arrsL_mem e.sub 0 d h1
        have hm := List.mem_of_getElem? hx
        have h3 := ih x hm _ (formed_subs hf x hm) (typL_mem e.sub hr x hm) d h2
        rcases h3 with h3 | h3
        · rw [Nat.zero_add] at h3
          subst h3
          unfold withC
          by_cases hk : e.kind = 10
          · rw [if_pos hk]
            right
            have hl := formed_merge hf hk
            have hj : j < 2 := by have := (List.getElem?_eq_some_iff.1 hx).1; omega
            have hne : e.name.toList.isEmpty = false := by
              rcases formed_nameK hf with ⟨_, h⟩ | ⟨h, _⟩
              · exact nameB_ne h
              · exact absurd hk h.2.2.2
            have hfound : (typeOfP L e.name).2 = true := by
              unfold typK at ht
              cases hff : (typeOfP L e.name).2
              · rw [if_pos ⟨by simpa using hne, hff⟩] at ht
                exact absurd ht (by decide)
              · rfl
            unfold typeOfP at hfound
            cases hv : findV L e.name with
            | none => rw [hv] at hfound; simp at hfound
            | some i =>
              obtain ⟨k, v, _, hk2, hn⟩ := findV_some hv
              unfold allC
              refine List.mem_cons_of_mem _ (flagC_mem.2 ⟨v, List.mem_of_getElem? hk2, ?_⟩)
              rw [← hn]
              rcases (by omega : j = 0 ∨ j = 1) with rfl | rfl
              · exact .inl rfl
              · exact .inr rfl
          · rw [if_neg hk]
            split
            · right; unfold allC; exact List.mem_cons_self
            · exact .inl rfl
        · exact .inr h3
    · rw [if_neg hr] at ht; exact absurd ht hr
end Ex
theorem metE_mem {L : List Va} : ∀ (l : List Qe) (m : List (Int × ByteArray)) (d : Int × ByteArray), (d ∈ m ∨ ∃ q ∈ l, d ∈ q.e.arrs [] (clockL L q.name)) → d ∈ l.foldl (fun m q => q.e.arrs m (clockL L q.name)) m
  | [], m, d, h => by
    rcases h with h | ⟨q, hq, _⟩
    · exact h
    · cases hq
  | x :: l, m, d, h => by
    rw [List.foldl_cons]
    refine metE_mem l _ d ?_
    rw [Ex.arrs_app]
    rcases h with h | ⟨q, hq, h⟩
    · exact .inl (List.mem_append_left _ h)
    · rcases List.mem_cons.1 hq with rfl | hq
      · exact .inl (List.mem_append_right _ h)
      · exact .inr ⟨q, hq, h⟩
theorem Clean.arrow {p : Pr} (h : Clean p) {q : Qe} (hq : q ∈ p.eqs) {d : Int × ByteArray} (hd : d ∈ q.e.arrs [] (clockL (varsOf p) q.name)) : 0 < (cellsL p).length := by
  have hin : d ∈ allC (varsOf p) := by
    rcases Ex.arrs_all (L := varsOf p) q.e _ (h.eqs q hq).formed ((clean_parts h.chk).2.2 q hq) d hd with h1 | h1
    · obtain ⟨v, hv, _, _, hcl, hor⟩ := needs_clock h.clk hq
      rw [hcl] at h1
      subst h1
      unfold allC
      rcases hor with ⟨h2, h3⟩ | ⟨h2, _, u, hu, hun⟩
      · have : v.cn = ⟨#[]⟩ := toList_inj (by simpa using h3)
        rw [h2, this]
        exact List.mem_cons_self
      · refine List.mem_cons_of_mem _ (flagC_mem.2 ⟨u, hu, ?_⟩)
        rw [hun]
        rcases (h.vars v hv).ck with h4 | h4 | h4
        · exact absurd h4 h2
        · left; rw [h4]
        · right; rw [h4]
    · exact h1
  have hmet : inC (metE (varsOf p) p.eqs) d = true := inC_iff.2 (metE_mem _ _ _ (.inr ⟨q, hq, hd⟩))
  unfold cellsL flagsOf
  rw [List.length_append, List.length_map]
  have : 0 < ((allC (varsOf p)).filter (inC (metE (varsOf p) p.eqs))).length := List.length_pos_of_mem (List.mem_filter.2 ⟨hin, hmet⟩)
  rw [List.length_map]
  omega
theorem fr_good {p : Pr} (h : Clean p) (hb : ¬ 16 < (cellsL p).length) : (frOf p).good = true := by
  rw [Fr.good_iff]
  unfold frOf
  have := h.small
  dsimp only
  omega
theorem codeL_empty {p : Pr} (h : Clean p) (h0 : (varsOf p).length = 0) : codeL p = [] := by
  have hv : varsOf p = [] := List.eq_nil_of_length_eq_zero h0
  have hq : p.eqs = [] := by
    cases he : p.eqs with
    | nil => rfl
    | cons q r =>
      obtain ⟨v, hm, _⟩ := h.vof q (by rw [he]; simp)
      rw [hv] at hm
      cases hm
  have hl := h0
  unfold varsOf at hl
  simp only [List.length_append] at hl
  have hi : p.ins = [] := List.eq_nil_of_length_eq_zero (by omega)
  have hu : p.outs = [] := List.eq_nil_of_length_eq_zero (by omega)
  have ho : (orderE p).1 = [] := by
    have := (orderE_good h.order).2.1
    rw [hq] at this
    exact List.eq_nil_of_length_eq_zero (by simpa using this)
  have hc : cellsL p = [] := by
    unfold cellsL
    rw [hq]
    have : metE (varsOf p) [] = [] := rfl
    rw [this]
    unfold flagsOf
    have hf : (allC (varsOf p)).filter (inC []) = [] := List.filter_eq_nil_iff.2 fun c _ => by rw [inC_iff]; simp
    rw [hf]
    rfl
  unfold codeL
  rw [hq, hi, hu, ho, hc]
  simp [insC, oldC, ordC, newC, flgC, outC, delayed]
/-- The code of a program in which nothing is wrong is accepted. -/
theorem code_judged {p : Pr} (h : Clean p) (hb : ¬ 16 < (cellsL p).length) (hl : ¬ 600 < (codeL p).length) : (judgeF (codeL p) (frOf p)).2.1 = 0 := by
  refine Fine.judged ?_ (fr_good h hb) (by omega)
  rcases Nat.eq_zero_or_pos (varsOf p).length with h0 | h0
  · rw [codeL_empty h h0]
    exact Fine.nil
  have hsm := h.small
  have hs : (frOf p).s ≤ 255 := by unfold frOf; dsimp only; omega
  have ho : (frOf p).o ≤ 255 := by unfold frOf; dsimp only; omega
  have hn : (frOf p).n ≤ 255 := by unfold frOf; dsimp only; omega
  have hi : (frOf p).i ≤ 255 := by unfold frOf; dsimp only; omega
  have hu : (frOf p).u ≤ 255 := by unfold frOf; dsimp only; omega
  have hsl : ∀ s, 0 ≤ slotF (varsOf p) s ∧ slotF (varsOf p) s < (frOf p).s := fun s => slot_range _ s h0
  have hq : ∀ q ∈ p.eqs, Fine (frOf p) (q.e.gen (slotF (varsOf p)) (flagF (cellsL p)) (clockL (varsOf p) q.name)) 0 1 ∧ 0 < (q.e.gen (slotF (varsOf p)) (flagF (cellsL p)) (clockL (varsOf p) q.name)).length ∧ (q.e.gen (slotF (varsOf p)) (flagF (cellsL p)) (clockL (varsOf p) q.name)).length ≤ 360 := fun q hq => by
    have hf := h.eqs q hq
    obtain ⟨g1, g2⟩ := gen_fine (f := frOf p) hsl hs ho q.e (clockL (varsOf p) q.name) 0 hf.formed (fun c hc => flag_range (cellsL p) c (h.arrow hq hc)) hf.size (by omega) (by have := hf.depth; omega)
    exact ⟨g1, g2, h.codes q hq _ _ _⟩
  have hdl : (delayed p.eqs).length ≤ (cellsL p).length := by unfold cellsL; rw [List.length_append, List.length_map]; omega
  unfold codeL
  have h1 := ins_fine hsl hs hi p.ins 0 (by unfold frOf; simp)
  have h2 := old_fine hsl hs ho (delayed p.eqs) 0 (by unfold frOf; simp; omega)
  have h3 := ord_fine (eqs := p.eqs) hsl hs hq (orderE p).1
  have h4 := new_fine (L := varsOf p) hsl hs hn (delayed p.eqs) 0 (fun q hd => hq q (delayed_mem hd).1) (by unfold frOf; simp; omega)
  have h5 := flg_fine hsl hs hn ((cellsL p).drop (delayed p.eqs).length) (delayed p.eqs).length (by unfold frOf; rw [List.length_drop]; simp; omega)
  have h6 := out_fine hsl hs hu p.outs 0 (by unfold frOf; simp)
  exact ((((h1.app h2 (.inr rfl) (.inr rfl)).app h3 (.inr rfl) (.inr rfl)).app h4 (.inr rfl) (.inr rfl)).app h5 (.inr rfl) (.inr rfl)).app h6 (.inr rfl) (.inr rfl)
theorem image_right {p : Pr} (h : Clean p) (hb : ¬ 16 < (cellsL p).length) (hl : ¬ 600 < (codeL p).length) {v : Int} (hv : 0 < v) : (imOf p v).wrong = 0 := by
  have hj := code_judged h hb hl
  have h0 : boundF (codeL p) (frOf p) (judgeF (codeL p) (frOf p)).1.2 = 0 := by
    unfold boundF
    rw [if_neg (fun e => e.2 rfl), hj]
  have hg := fr_good h hb
  rw [Fr.good_iff] at hg
  have hm : (imOf p v).moves.good = true := by
    rw [Fr.good_iff]
    unfold Im.moves imOf
    dsimp only
    omega
  have h1 : boundF [] (imOf p v).moves 0 = 0 := by
    have : judgeF [] (imOf p v).moves = ((0, 0), 0, 0) := by
      unfold judgeF
      rw [if_neg (by rw [hm]; decide), if_neg (by simp)]
      rfl
    unfold boundF
    rw [this]
    simp
  unfold Im.wrong
  rw [if_neg (by unfold imOf; dsimp only; omega), if_neg (by unfold imOf frOf; simp), if_neg (by unfold imOf; simp), if_neg (by unfold imOf; dsimp only; rw [h0]; simp)]
  exact h1
end Go.Proofs.YtknfcamdfdfoeaaDoor
