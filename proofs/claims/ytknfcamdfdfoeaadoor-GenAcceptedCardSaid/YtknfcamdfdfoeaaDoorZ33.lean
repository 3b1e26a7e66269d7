/- Walks over judge's Frame, effectOf, come. -/
import Derived.Test.YtknfcamdfdfoeaaDoorZ32
import Derived.Deep.RegionLaw
import Derived.Deep.CutRange
import Derived.Test.YtknfcamdfdfoeaaDoorZ30
import Derived.Test.YtknfcamdfdfoeaaDoorZ31
import Derived.Test.YtknfcamdfdfoeaaDoorZ21
set_option linter.unusedVariables false
set_option linter.unusedSimpArgs false
set_option maxRecDepth 100000
namespace Go.Proofs.YtknfcamdfdfoeaaDoor
open Go.RowKit Go.Sort

def frV (f : Fr) : Value := .agg #[.int .i64 f.s, .int .i64 f.o, .int .i64 f.n, .int .i64 f.i, .int .i64 f.u]
set_option maxHeartbeats 1000000 in
theorem inB_any (n m : Int) (w : World) : Calls Tryd.prog 32 #[.int .i64 n, .int .i64 m] w fun r w' => r = .returned (.bool (inB n m)) ∧ Below w.heap.size w w' := by
  by_cases h0 : 0 ≤ n
  · by_cases h1 : n ≤ m
    · have hv : inB n m = true := by unfold inB; simp [h0, h1]
      have HV := Lib.hid hv; clear hv
      go_enter Tryd.func32, Tryd.ntmps32
      go_wp2_with fail
      go_ret
      exact ⟨ret_bool HV.out.symm, belA⟩
    · have hv : inB n m = false := by unfold inB; simp [h1]
      have HV := Lib.hid hv; clear hv
      go_enter Tryd.func32, Tryd.ntmps32
      go_wp2_with fail
      go_ret
      exact ⟨ret_bool HV.out.symm, belA⟩
  · have hv : inB n m = false := by unfold inB; simp [h0]
    have HV := Lib.hid hv; clear hv
    go_enter Tryd.func32, Tryd.ntmps32
    go_wp2_with fail
    go_ret
    exact ⟨ret_bool HV.out.symm, belA⟩
set_option maxHeartbeats 4000000 in
theorem frame_any (f : Fr) (w : World) : Calls Tryd.prog 19 #[frV f] w fun r w' => r = .returned (.int .i64 (if f.good = true then 0 else 1)) ∧ Below w.heap.size w w' := by
  have hin := fun n m W => inB_any n m W
  obtain ⟨s, o, n, i, u⟩ := f
  obtain ⟨R, hR⟩ : ∃ R : Int, R = if (Fr.mk s o n i u).good = true then 0 else 1 := ⟨_, rfl⟩
  rw [← hR]
  unfold Fr.good at hR
  unfold frV
  dsimp only at *
  cases h1 : inB s 24
  · rw [h1] at hR
    simp only [Bool.false_and, Bool.false_eq_true, if_false] at hR
    have HV := Lib.hid hR; clear hR
    go_enter Tryd.func19, Tryd.ntmps19
    go_wp2_with (first | (go_at_call 32; refine (hin _ _ _).mono ?_; rintro r w1 ⟨rfl, hb1⟩; have hc1 := bcell hb1; have hz1 := hb1.size; (try simp at hz1); (try have hy1 := lt0 w w1); (try have hy2 := ltA w 1 w1); (try have hy3 := ltA w 2 w1); (try have hy4 := lt0 wr w1); (try have hy5 := ltA wr 1 w1)))
    go_ret
    exact ⟨ret_int HV.out.symm, belA⟩
  cases h2 : inB o 16
  · rw [h1, h2] at hR
    simp only [Bool.false_and, Bool.and_false, Bool.false_eq_true, if_false] at hR
    have HV := Lib.hid hR; clear hR
    go_enter Tryd.func19, Tryd.ntmps19
    go_wp2_with (first | (go_at_call 32; refine (hin _ _ _).mono ?_; rintro r w1 ⟨rfl, hb1⟩; have hc1 := bcell hb1; have hz1 := hb1.size; (try simp at hz1); (try have hy1 := lt0 w w1); (try have hy2 := ltA w 1 w1); (try have hy3 := ltA w 2 w1); (try have hy4 := lt0 wr w1); (try have hy5 := ltA wr 1 w1)))
    go_ret
    exact ⟨ret_int HV.out.symm, belA⟩
  cases h3 : inB n 16
  · rw [h1, h2, h3] at hR
    simp only [Bool.false_and, Bool.and_false, Bool.false_eq_true, if_false] at hR
    have HV := Lib.hid hR; clear hR
    go_enter Tryd.func19, Tryd.ntmps19
    go_wp2_with (first | (go_at_call 32; refine (hin _ _ _).mono ?_; rintro r w1 ⟨rfl, hb1⟩; have hc1 := bcell hb1; have hz1 := hb1.size; (try simp at hz1); (try have hy1 := lt0 w w1); (try have hy2 := ltA w 1 w1); (try have hy3 := ltA w 2 w1); (try have hy4 := lt0 wr w1); (try have hy5 := ltA wr 1 w1)))
    go_ret
    exact ⟨ret_int HV.out.symm, belA⟩
  cases h4 : inB i 8
  · rw [h1, h2, h3, h4] at hR
    simp only [Bool.false_and, Bool.and_false, Bool.false_eq_true, if_false] at hR
    have HV := Lib.hid hR; clear hR
    go_enter Tryd.func19, Tryd.ntmps19
    go_wp2_with (first | (go_at_call 32; refine (hin _ _ _).mono ?_; rintro r w1 ⟨rfl, hb1⟩; have hc1 := bcell hb1; have hz1 := hb1.size; (try simp at hz1); (try have hy1 := lt0 w w1); (try have hy2 := ltA w 1 w1); (try have hy3 := ltA w 2 w1); (try have hy4 := lt0 wr w1); (try have hy5 := ltA wr 1 w1)))
    go_ret
    exact ⟨ret_int HV.out.symm, belA⟩
  cases h5 : inB u 8
  all_goals
    rw [h1, h2, h3, h4, h5] at hR
    simp only [Bool.true_and, Bool.and_false, Bool.and_true, Bool.false_eq_true, if_false, if_true] at hR
    have HV := Lib.hid hR; clear hR
    go_enter Tryd.func19, Tryd.ntmps19
    go_wp2_with (first | (go_at_call 32; refine (hin _ _ _).mono ?_; rintro r w1 ⟨rfl, hb1⟩; have hc1 := bcell hb1; have hz1 := hb1.size; (try simp at hz1); (try have hy1 := lt0 w w1); (try have hy2 := ltA w 1 w1); (try have hy3 := ltA w 2 w1); (try have hy4 := lt0 wr w1); (try have hy5 := ltA wr 1 w1)))
    go_ret
    exact ⟨ret_int HV.out.symm, belA⟩

set_option maxHeartbeats 4000000 in
theorem effect_any (op : Int) (f : Fr) (w : World) : Calls Tryd.prog 34 #[.int .i64 op, frV f] w fun r w' => r = .returned (.agg #[.int .i64 (takesF op), .int .i64 (givesF op), .int .i64 (roomF op f)]) ∧ Below w.heap.size w w' := by
  obtain ⟨s, o, n, i, u⟩ := f
  unfold frV
  dsimp only
  rcases ops_cases op with h | rfl | rfl | rfl | rfl | rfl | rfl | rfl | rfl | rfl | rfl | rfl
  · obtain ⟨t1, t2, t3, t4, t5, t6, t7, t8, t9, t10, t11⟩ := h
    have hv : takesF op = 0 ∧ givesF op = 0 ∧ roomF op ⟨s, o, n, i, u⟩ = -1 := by
      simp only [beq_eq_false_iff_ne, ne_eq] at *
      unfold takesF givesF roomF
      refine ⟨by rw [if_neg (by omega), if_neg (by omega)], by rw [if_neg (by omega)], by rw [if_neg (by omega), if_neg (by omega), if_neg (by omega), if_neg (by omega), if_neg (by omega)]⟩
    obtain ⟨v1, v2, v3⟩ := hv
    rw [v1, v2, v3]
    clear v1 v2 v3
    go_enter Tryd.func34, Tryd.ntmps34
    go_wp2_with fail
    refine bodyPost_ret (v := .agg #[.int .i64 0, .int .i64 0, .int .i64 (-1)]) (by simp [results, Tryd.results34, go_sem, *]; done) rfl ⟨rfl, by exact belS⟩
  all_goals
    go_enter Tryd.func34, Tryd.ntmps34
    go_wp2_with fail
  · refine bodyPost_ret (v := .agg #[.int .i64 0, .int .i64 1, .int .i64 (-1)]) (by simp [results, Tryd.results34, go_sem, *]; done) rfl ⟨by simp [takesF, givesF, roomF], by exact belS⟩
  · refine bodyPost_ret (v := .agg #[.int .i64 0, .int .i64 1, .int .i64 s]) (by simp [results, Tryd.results34, go_sem, *]; done) rfl ⟨by simp [takesF, givesF, roomF], by exact belS⟩
  · refine bodyPost_ret (v := .agg #[.int .i64 1, .int .i64 0, .int .i64 s]) (by simp [results, Tryd.results34, go_sem, *]; done) rfl ⟨by simp [takesF, givesF, roomF], by exact belS⟩
  · refine bodyPost_ret (v := .agg #[.int .i64 0, .int .i64 1, .int .i64 o]) (by simp [results, Tryd.results34, go_sem, *]; done) rfl ⟨by simp [takesF, givesF, roomF], by exact belS⟩
  · refine bodyPost_ret (v := .agg #[.int .i64 1, .int .i64 0, .int .i64 n]) (by simp [results, Tryd.results34, go_sem, *]; done) rfl ⟨by simp [takesF, givesF, roomF], by exact belS⟩
  · refine bodyPost_ret (v := .agg #[.int .i64 0, .int .i64 1, .int .i64 i]) (by simp [results, Tryd.results34, go_sem, *]; done) rfl ⟨by simp [takesF, givesF, roomF], by exact belS⟩
  · refine bodyPost_ret (v := .agg #[.int .i64 1, .int .i64 0, .int .i64 u]) (by simp [results, Tryd.results34, go_sem, *]; done) rfl ⟨by simp [takesF, givesF, roomF], by exact belS⟩
  · refine bodyPost_ret (v := .agg #[.int .i64 1, .int .i64 1, .int .i64 (-1)]) (by simp [results, Tryd.results34, go_sem, *]; done) rfl ⟨by simp [takesF, givesF, roomF], by exact belS⟩
  · refine bodyPost_ret (v := .agg #[.int .i64 2, .int .i64 1, .int .i64 (-1)]) (by simp [results, Tryd.results34, go_sem, *]; done) rfl ⟨by simp [takesF, givesF, roomF], by exact belS⟩
  · refine bodyPost_ret (v := .agg #[.int .i64 0, .int .i64 0, .int .i64 (-1)]) (by simp [results, Tryd.results34, go_sem, *]; done) rfl ⟨by simp [takesF, givesF, roomF], by exact belS⟩
  · refine bodyPost_ret (v := .agg #[.int .i64 1, .int .i64 0, .int .i64 (-1)]) (by simp [results, Tryd.results34, go_sem, *]; done) rfl ⟨by simp [takesF, givesF, roomF], by exact belS⟩

end Go.Proofs.YtknfcamdfdfoeaaDoor

/- Walk over judge's come. -/
namespace Go.Proofs.YtknfcamdfdfoeaaDoor
open Go.RowKit Go.Sort

/-- The places lie in block B. -/
structure PlAt (W : World) (B : Nat) (ps : List Pl) : Prop where
  cell : ∀ (k : Nat) (p : Pl), ps[k]? = some p → W.cell? ⟨B, k * 3, none⟩ = some (.bool p.met) ∧ W.cell? ⟨B, k * 3 + 1, none⟩ = some (.int .i64 p.d) ∧ W.cell? ⟨B, k * 3 + 2, none⟩ = some (.int .i64 p.f)
  fz : ∀ o, W.frozen? ⟨B, o, none⟩ = false
theorem PlAt.set {W W2 : World} {B tg : Nat} {ps : List Pl} {p : Pl} (h : PlAt W B ps) (ho : ∀ o, (o < tg * 3 ∨ tg * 3 + 3 ≤ o) → W2.cell? ⟨B, o, none⟩ = W.cell? ⟨B, o, none⟩)
    (h0 : W2.cell? ⟨B, tg * 3, none⟩ = some (.bool p.met)) (h1 : W2.cell? ⟨B, tg * 3 + 1, none⟩ = some (.int .i64 p.d)) (h2 : W2.cell? ⟨B, tg * 3 + 2, none⟩ = some (.int .i64 p.f)) (hf : ∀ o, W2.frozen? ⟨B, o, none⟩ = W.frozen? ⟨B, o, none⟩) : PlAt W2 B (ps.set tg p) := by
  refine ⟨fun k q hk => ?_, fun o => (hf o).trans (h.fz o)⟩
  rw [List.getElem?_set] at hk
  by_cases hj : tg = k
  · subst hj
    rw [if_pos rfl] at hk
    split at hk
    · injection hk with hk
      subst hk
      exact ⟨h0, h1, h2⟩
    · cases hk
  · rw [if_neg hj] at hk
    obtain ⟨a1, a2, a3⟩ := h.cell k q hk
    exact ⟨(ho _ (by omega)).trans a1, (ho _ (by omega)).trans a2, (ho _ (by omega)).trans a3⟩
theorem PlAt.later {W W2 : World} {B : Nat} {ps : List Pl} (h : PlAt W B ps) (hB : B < W.heap.size) (hb : Below W.heap.size W W2) : PlAt W2 B ps :=
  ⟨fun k p hk => by obtain ⟨a1, a2, a3⟩ := h.cell k p hk; exact ⟨bel_cell hb a1, bel_cell hb a2, bel_cell hb a3⟩, fun o => (bfrozen hb B o hB).trans (h.fz o)⟩
theorem PlAt.store1 {W : World} {B tg : Nat} {ps : List Pl} {q : Pl} (h : PlAt W B ps) (hx : ps[tg]? = some q) (f : Int) : PlAt (W.setCell ⟨B, tg * 3 + 2, none⟩ (.int .i64 f)) B (ps.set tg ⟨q.met, q.d, f⟩) := by
  obtain ⟨c0, c1, c2⟩ := h.cell tg q hx
  have ne : ∀ o, o ≠ tg * 3 + 2 → (W.setCell ⟨B, tg * 3 + 2, none⟩ (.int .i64 f)).cell? ⟨B, o, none⟩ = W.cell? ⟨B, o, none⟩ := fun o ho => World.cell?_setCell_other _ _ _ _ (by intro he; injection he with e1 e2; first | exact ho e2 | exact ho e2.symm)
  exact h.set (fun o ho => ne o (by omega)) ((ne _ (by omega)).trans c0) ((ne _ (by omega)).trans c1) (World.cell?_setCell_same _ _ _ c2) (fun o => World.frozen?_setCell ..)
theorem PlAt.store3 {W : World} {B tg : Nat} {ps : List Pl} {q : Pl} (h : PlAt W B ps) (hx : ps[tg]? = some q) (m : Bool) (d f : Int) : PlAt (((W.setCell ⟨B, tg * 3, none⟩ (.bool m)).setCell ⟨B, tg * 3 + 1, none⟩ (.int .i64 d)).setCell ⟨B, tg * 3 + 2, none⟩ (.int .i64 f)) B (ps.set tg ⟨m, d, f⟩) := by
  obtain ⟨c0, c1, c2⟩ := h.cell tg q hx
  have ne : ∀ (W : World) (j : Nat) (u : Value) (o : Nat), o ≠ j → (W.setCell ⟨B, j, none⟩ u).cell? ⟨B, o, none⟩ = W.cell? ⟨B, o, none⟩ := fun W j u o ho => World.cell?_setCell_other _ _ _ _ (by intro he; injection he with e1 e2; first | exact ho e2 | exact ho e2.symm)
  refine h.set (fun o ho => ?_) ?_ ?_ ?_ (fun o => ?_)
  · rw [ne _ _ _ _ (by omega), ne _ _ _ _ (by omega), ne _ _ _ _ (by omega)]
  · rw [ne _ _ _ _ (by omega), ne _ _ _ _ (by omega)]
    exact World.cell?_setCell_same _ _ _ c0
  · rw [ne _ _ _ _ (by omega)]
    exact World.cell?_setCell_same _ _ _ ((ne _ _ _ _ (by omega)).trans c1)
  · exact World.cell?_setCell_same _ _ _ (((ne _ _ _ _ (by omega)).trans (ne _ _ _ _ (by omega))).trans c2)
  · rw [World.frozen?_setCell, World.frozen?_setCell, World.frozen?_setCell]
theorem eqPlace (a : Bool) (b c : Int) (w : World) : (Op.equalIn 10000 88 (.agg #[.bool a, .int .i64 b, .int .i64 c]) (.agg #[.bool false, .int .i64 0, .int .i64 0])).run Tryd.prog w = .ok (!a && b == 0 && c == 0) w := by
  have hS : Tryd.prog.underlying 88 = some (.struct (Tryd.prog.fieldsOf 88)) := by kernel_rfl
  have hp : Tryd.prog.stoodInHeld 88 = false := by kernel_rfl
  rw [show (10000 : Nat) = 9999 + 1 from rfl, run_equalIn_agg w 9999 88 _ _ hS hp]
  simp only [Program.fieldsOf, Tryd.underlying88]
  go_simp
  cases a <;> by_cases h2 : b = 0 <;> by_cases h3 : c = 0 <;> simp [h2, h3]

set_option maxHeartbeats 4000000 in
theorem come_any (X B : Nat) (ps : List Pl) (tg : Nat) (d f : Int) (W : World) (hXB : X ≠ B) (hc : W.cell? ⟨X, 0, none⟩ = some (.slice (some ⟨B, 0, none⟩) ps.length ps.length)) (hp : PlAt W B ps) (hB : B < W.heap.size) (hto : tg < ps.length) (hlen : ps.length ≤ 601)
    (hun : ∀ p, ps[tg]? = some p → p.met = false → p.d = 0 ∧ p.f = 0) :
    Calls Tryd.prog 35 #[.pointer (some ⟨X, 0, none⟩), .int .i64 tg, .int .i64 d, .int .i64 f] W fun r w' => r = .returned (.bool (comeF ps tg d f).isSome) ∧ PlAt w' B ((comeF ps tg d f).getD ps) ∧ Kept (fun k => k = B) W w' := by
  have hx : ps[tg]? = some ps[tg] := List.getElem?_eq_getElem hto
  generalize ps[tg] = p at hx
  have hu := hun p hx
  obtain ⟨c0, c1, c2⟩ := hp.cell tg p hx
  have hfz0 := hp.fz (tg * 3)
  have hfz1 := hp.fz (tg * 3 + 1)
  have hfz2 := hp.fz (tg * 3 + 2)
  have hXl := block_lt_of_cell hc
  have hgm : Tryd.prog.eqGuardType Tryd.prog.depth 88 = false := by kernel_rfl
  have hti : (tg : Int) < (ps.length : Int) := by omega
  obtain ⟨R, hR⟩ : ∃ R, R = comeF ps tg d f := ⟨_, rfl⟩
  rw [← hR]
  unfold comeF at hR
  rw [hx] at hR
  dsimp only at hR
  have HP := Lib.hid hp
  have HX := Lib.hid hx
  clear hp hun hx
  obtain ⟨pm, pd, pf⟩ := p
  dsimp only at *
  cases pm
  · obtain ⟨rfl, rfl⟩ := hu rfl
    rw [if_neg (by decide)] at hR
    have HR := Lib.hid hR
    have hfq := fun w => eqPlace false 0 0 w
    clear hR hu
    go_enter Tryd.func35, Tryd.ntmps35
    go_wp2_with fail
    go_ret
    rw [HR.out]
    exact ⟨rfl, (HP.out.store3 HX.out true d f).later (by simp; exact hB) (bel_alloc (Below.refl _ _) _), ((((Kept.refl (S := fun k => k = B) W).setCell rfl _ _).setCell rfl _ _).setCell rfl _ _).trans' (Kept.bel (bel_alloc (Below.refl _ _) _))⟩
  · rw [if_pos rfl] at hR
    have hfq := fun w => eqPlace true pd pf w
    simp only [Bool.not_true, Bool.false_and] at hfq
    clear hu
    by_cases hd : pd = d
    · rw [if_pos hd] at hR
      obtain rfl := hd
      have tq : (pd != pd) = false := by simp
      by_cases hpf : pf < f
      · have hm : max pf f = f := by omega
        rw [hm] at hR
        have HR := Lib.hid hR
        clear hR hm
        go_enter Tryd.func35, Tryd.ntmps35
        go_wp2_with fail
        go_region_law (fail)
        all_goals
          go_wp2_with fail
          go_ret
          rw [HR.out]
          exact ⟨rfl, (HP.out.store1 HX.out f).later (by simp; exact hB) (bel_drew (bel_alloc (Below.refl _ _) _)), ((Kept.refl (S := fun k => k = B) W).setCell rfl _ _).trans' (Kept.bel (bel_drew (bel_alloc (Below.refl _ _) _)))⟩
      · have hm : max pf f = pf := by omega
        rw [hm] at hR
        have HR := Lib.hid hR
        clear hR hm
        go_enter Tryd.func35, Tryd.ntmps35
        go_wp2_with fail
        go_region_law (fail)
        all_goals
          go_wp2_with fail
          go_ret
          rw [HR.out]
          exact ⟨rfl, (HP.out.store1 HX.out pf).later (by simp; exact hB) (bel_drew (bel_alloc (Below.refl _ _) _)), ((Kept.refl (S := fun k => k = B) W).setCell rfl _ _).trans' (Kept.bel (bel_drew (bel_alloc (Below.refl _ _) _)))⟩
    · rw [if_neg hd] at hR
      have tq : (pd != d) = true := by simpa using hd
      have HR := Lib.hid hR
      clear hR
      go_enter Tryd.func35, Tryd.ntmps35
      go_wp2_with fail
      go_ret
      rw [HR.out]
      exact ⟨rfl, HP.out.later hB belA, Kept.bel belA⟩
end Go.Proofs.YtknfcamdfdfoeaaDoor

/- Walk over judge's one. -/
namespace Go.Proofs.YtknfcamdfdfoeaaDoor
open Go.RowKit Go.Sort

/-- What the judge's one leaves behind. -/
def OneR (X B : Nat) (res : Int × List Pl × Int) (W : World) (r : Ending) (w' : World) : Prop :=
  r = .returned (.int .i64 res.1) ∧ (res.1 = 0 → PlAt w' B res.2.1 ∧ w'.cell? ⟨X, 1, none⟩ = some (.int .i64 res.2.2)) ∧ Kept (fun b => b = B ∨ b = X) W w' ∧
  w'.cell? ⟨X, 0, none⟩ = W.cell? ⟨X, 0, none⟩ ∧ w'.cell? ⟨X, 2, none⟩ = W.cell? ⟨X, 2, none⟩ ∧ ∀ o, w'.frozen? ⟨X, o, none⟩ = W.frozen? ⟨X, o, none⟩

theorem getD_pl {ps : List Pl} {k : Nat} {p : Pl} (h : ps[k]? = some p) : ps.getD k Pl.no = p := by
  rw [List.getD_eq_getElem?_getD, h]; rfl
/-- What is known of the walk's block once the depth was noted. -/
structure OneV (X B : Nat) (W V : World) (m : Int) : Prop where
  k : Kept (fun b => b = B ∨ b = X) W V
  x0 : V.cell? ⟨X, 0, none⟩ = W.cell? ⟨X, 0, none⟩
  x1 : V.cell? ⟨X, 1, none⟩ = some (.int .i64 m)
  x2 : V.cell? ⟨X, 2, none⟩ = W.cell? ⟨X, 2, none⟩
  fz : ∀ o, V.frozen? ⟨X, o, none⟩ = W.frozen? ⟨X, o, none⟩
theorem cell_of_block {W V : World} {b : Nat} (h : V.heap[b]? = W.heap[b]?) (o : Nat) : V.cell? ⟨b, o, none⟩ = W.cell? ⟨b, o, none⟩ := World.cell?_of_block (a := ⟨b, o, none⟩) h
theorem OneV.step {X B : Nat} {W V V' : World} {m : Int} (h : OneV X B W V m) (hX : X < V.heap.size) (hXB : X ≠ B) (hk : Kept (fun b => b = B) V V') : OneV X B W V' m := by
  have hb := hk.block X hX hXB
  exact ⟨h.k.trans hk fun b _ hb => .inl hb, (cell_of_block hb 0).trans h.x0, (cell_of_block hb 1).trans h.x1, (cell_of_block hb 2).trans h.x2, fun o => (World.frozen?_of_block (a := ⟨X, o, none⟩) hb).trans (h.fz o)⟩
theorem OneV.done {X B : Nat} {res : Int × List Pl × Int} {W w' : World} {m : Int} {r : Ending} (h : OneV X B W w' m) (hr : r = .returned (.int .i64 res.1)) (hp : res.1 = 0 → PlAt w' B res.2.1 ∧ res.2.2 = m) : OneR X B res W r w' :=
  ⟨hr, fun h0 => ⟨(hp h0).1, by rw [(hp h0).2]; exact h.x1⟩, h.k, h.x0, h.x2, h.fz⟩
theorem PlAt.blk {W : World} {X B o : Nat} {ps : List Pl} (h : PlAt W B ps) (hX : X ≠ B) (u : Value) : PlAt (W.setCell ⟨X, o, none⟩ u) B ps :=
  ⟨fun k p hk => by obtain ⟨a, b, c⟩ := h.cell k p hk; exact ⟨(sc_blk _ _ _ _ _ _ (Ne.symm hX)).trans a, (sc_blk _ _ _ _ _ _ (Ne.symm hX)).trans b, (sc_blk _ _ _ _ _ _ (Ne.symm hX)).trans c⟩, fun o => (World.frozen?_setCell ..).trans (h.fz o)⟩
theorem come_len {ps ps' : List Pl} {j : Nat} {d f : Int} (h : comeF ps j d f = some ps') : ps'.length = ps.length := by
  unfold comeF at h
  cases hx : ps[j]? with
  | none => rw [hx] at h; cases h
  | some p =>
    rw [hx] at h
    dsimp only at h
    split at h
    · split at h
      · injection h with h; rw [← h, List.length_set]
      · cases h
    · injection h with h; rw [← h, List.length_set]
theorem jump_num {op N : Int} (h : rightF (op, N) = 0) (ho : op = 10 ∨ op = 11) : 0 ≤ N ∧ N ≤ 65535 := by
  have hw : insW op = 2 := by unfold insW; rw [if_neg (by omega), if_pos (by omega)]
  unfold rightF at h
  dsimp only at h
  rw [hw, if_neg (by decide), if_neg (by decide), if_neg (by omega), if_neg (by omega)] at h
  by_cases h2 : N < 0 ∨ 65535 < N
  · rw [if_pos ⟨rfl, h2⟩] at h; exact absurd h (by decide)
  · omega
theorem OneR.bel {X B : Nat} {res : Int × List Pl × Int} {W : World} {r : Ending} {w' : World} (hr : r = .returned (.int .i64 res.1)) (h0 : res.1 ≠ 0) (hX : X < W.heap.size) (hb : Below W.heap.size W w') : OneR X B res W r w' :=
  ⟨hr, fun h => absurd h h0, Kept.bel hb, bcell hb _ _ hX, bcell hb _ _ hX, fun o => bfrozen hb X o hX⟩
/-- Three cells of a block. -/
structure AtZ (V : World) (g : Nat) (u0 u1 u2 : Value) : Prop where
  c0 : V.cell? ⟨g, 0, none⟩ = some u0
  c1 : V.cell? ⟨g, 1, none⟩ = some u1
  c2 : V.cell? ⟨g, 2, none⟩ = some u2
  f0 : V.frozen? ⟨g, 0, none⟩ = false
  f1 : V.frozen? ⟨g, 1, none⟩ = false
  f2 : V.frozen? ⟨g, 2, none⟩ = false
theorem AtZ.lt {V : World} {g : Nat} {u0 u1 u2 : Value} (h : AtZ V g u0 u1 u2) : g < V.heap.size := block_lt_of_cell h.c0
theorem AtZ.later {V V' : World} {g : Nat} {u0 u1 u2 : Value} (h : AtZ V g u0 u1 u2) (hb : Below V.heap.size V V') : AtZ V' g u0 u1 u2 :=
  ⟨bel_cell hb h.c0, bel_cell hb h.c1, bel_cell hb h.c2, (bfrozen hb _ _ h.lt).trans h.f0, (bfrozen hb _ _ h.lt).trans h.f1, (bfrozen hb _ _ h.lt).trans h.f2⟩
theorem AtZ.new (V : World) (u0 u1 u2 : Value) (t : TypeId) : AtZ (V.alloc (.cells #[u0, u1, u2] t)) V.heap.size u0 u1 u2 := ⟨by go_simp, by go_simp, by go_simp, by go_simp, by go_simp, by go_simp⟩
theorem AtZ.set {V : World} {g : Nat} {u0 u1 u2 : Value} (h : AtZ V g u0 u1 u2) (v0 v1 v2 : Value) : AtZ (((V.setCell ⟨g, 0, none⟩ v0).setCell ⟨g, 1, none⟩ v1).setCell ⟨g, 2, none⟩ v2) g v0 v1 v2 := by
  obtain ⟨a, b, c⟩ := set3 v0 v1 v2 h.c0 h.c1 h.c2
  exact ⟨a, b, c, (set3_fz _ _ _ _).trans h.f0, (set3_fz _ _ _ _).trans h.f1, (set3_fz _ _ _ _).trans h.f2⟩
theorem AtZ.other {V : World} {g k : Nat} {u0 u1 u2 : Value} (h : AtZ V g u0 u1 u2) (v0 v1 v2 : Value) (hk : g ≠ k) : AtZ (((V.setCell ⟨k, 0, none⟩ v0).setCell ⟨k, 1, none⟩ v1).setCell ⟨k, 2, none⟩ v2) g u0 u1 u2 :=
  ⟨(set3_blk _ _ _ hk).trans h.c0, (set3_blk _ _ _ hk).trans h.c1, (set3_blk _ _ _ hk).trans h.c2, (set3_fz _ _ _ _).trans h.f0, (set3_fz _ _ _ _).trans h.f1, (set3_fz _ _ _ _).trans h.f2⟩
theorem AtZ.othr {V : World} {g k : Nat} {u0 u1 u2 x0 x1 x2 : Value} (h : AtZ V g u0 u1 u2) (_ : AtZ V k x0 x1 x2) (v0 v1 v2 : Value) (hk : g ≠ k) : AtZ (((V.setCell ⟨k, 0, none⟩ v0).setCell ⟨k, 1, none⟩ v1).setCell ⟨k, 2, none⟩ v2) g u0 u1 u2 := h.other v0 v1 v2 hk
/-- The effect and the place lie in new blocks. -/
def OneS (W : World) (op N : Int) (f : Fr) (p : Pl) (x q : Value) (wx : World) : Prop :=
  ∃ gx gp, x = .pointer (some ⟨gx, 0, none⟩) ∧ q = .pointer (some ⟨gp, 0, none⟩) ∧ W.heap.size + 2 ≤ gx ∧ W.heap.size + 2 ≤ gp ∧ gx < wx.heap.size ∧ gp < wx.heap.size ∧
    wx.cell? ⟨gx, 0, none⟩ = some (.int .i64 (takesF op)) ∧ wx.cell? ⟨gx, 1, none⟩ = some (.int .i64 (givesF op)) ∧ wx.cell? ⟨gx, 2, none⟩ = some (.int .i64 (roomF op f)) ∧
    wx.cell? ⟨gp, 0, none⟩ = some (.bool p.met) ∧ wx.cell? ⟨gp, 1, none⟩ = some (.int .i64 p.d) ∧ wx.cell? ⟨gp, 2, none⟩ = some (.int .i64 p.f) ∧
    wx.cell? ⟨W.heap.size, 0, none⟩ = some (.int .i64 op) ∧ wx.cell? ⟨W.heap.size, 1, none⟩ = some (.int .i32 N) ∧ Below W.heap.size W wx

set_option maxHeartbeats 4000000 in
theorem judgeOne_any (X B : Nat) (ps : List Pl) (dep : Int) (at_ n : Nat) (op N : Int) (f : Fr) (W : World) (hXB : X ≠ B) (c0 : W.cell? ⟨X, 0, none⟩ = some (.slice (some ⟨B, 0, none⟩) ps.length ps.length)) (c1 : W.cell? ⟨X, 1, none⟩ = some (.int .i64 dep)) (fX : W.frozen? ⟨X, 1, none⟩ = false)
    (hp : PlAt W B ps) (hB : B < W.heap.size) (hok : PlOK at_ n dep ps) (hat : at_ < n) (hn : n ≤ 600) (hN : I32 N) :
    Calls Tryd.prog 20 #[.pointer (some ⟨X, 0, none⟩), .agg #[.int .i64 op, .int .i32 N], .int .i64 at_, frV f] W (OneR X B (oneF f at_ (op, N) ps dep) W) := by
  have hXl := block_lt_of_cell c0
  obtain ⟨R, hR⟩ : ∃ R, R = oneF f at_ (op, N) ps dep := ⟨_, rfl⟩
  rw [← hR]
  unfold oneF at hR
  have hright := fun w => iright_any op N w
  unfold RightC at hright
  by_cases hr : rightF (op, N) ≠ 0
  · rw [if_pos hr] at hR
    have tq : (rightF (op, N) != 0) = true := by simpa using hr
    have hR1 : R.1 = rightF (op, N) := by rw [hR]
    have HR := Lib.hid hR1
    have HRR := Lib.hid hr
    clear hR hr hR1 hok hp
    generalize rightF (op, N) = e at *
    unfold frV
    go_enter Tryd.func20, Tryd.ntmps20
    go_wp2_with (first | (go_at_call 33; refine (hright _).mono ?_; rintro r w1 ⟨rfl, hb1⟩; have hc1 := bcell hb1; have hz1 := hb1.size; (try simp at hz1); (try have hy1 := lt0 w w1); (try have hy2 := ltA w 1 w1); (try have hy3 := ltA w 2 w1); (try have hy4 := lt0 wr w1); (try have hy5 := ltA wr 1 w1)))
    go_ret
    exact OneR.bel (ret_int HR.out.symm) (by rw [HR.out]; exact HRR.out) hXl belA
  rw [if_neg hr] at hR
  have hr0 : rightF (op, N) = 0 := by simpa using hr
  rw [hr0] at hright
  have HRT := Lib.hid hr0
  clear hr hr0
  have hlen := hok.len
  have hlt : at_ < ps.length := by omega
  have hx : ps[at_]? = some ps[at_] := List.getElem?_eq_getElem hlt
  generalize ps[at_] = p at hx
  obtain ⟨b0, b1, b2⟩ := hp.cell at_ p hx
  have hpd := hok.all at_ p hx
  rw [getD_pl hx] at hR
  have heff := fun w => effect_any op f w
  have hti : (at_ : Int) < (ps.length : Int) := by omega
  have hl600 : ps.length ≤ 601 := by omega
  have HLEN := Lib.hid hlen
  have HP := Lib.hid hp
  have HOK := Lib.hid hok
  have HR := Lib.hid hR
  clear hp hok hR hx hlen
  unfold frV at *
  go_enter Tryd.func20, Tryd.ntmps20
  go_upto_region 4 with (first | (go_at_call 33; refine (hright _).mono ?_; rintro r w1 ⟨rfl, hb1⟩; have hc1 := bcell hb1; have hz1 := hb1.size; (try simp at hz1); (try have hy1 := lt0 w w1); (try have hy2 := ltA w 1 w1); (try have hy3 := ltA w 2 w1); (try have hy4 := lt0 wr w1); (try have hy5 := ltA wr 1 w1)))
  refine wp_name fun W1 hW1 => ?_
  have hb1' : Below W.heap.size W W1 := by rw [hW1]; exact belA
  have q0 : W1.cell? ⟨W.heap.size, 0, none⟩ = some (.int .i64 op) := by rw [hW1]; exact bel_cell hb1 (by go_simp)
  have q1 : W1.cell? ⟨W.heap.size, 1, none⟩ = some (.int .i32 N) := by rw [hW1]; exact bel_cell hb1 (by go_simp)
  have k0 : W1.cell? ⟨W.heap.size + 1, 0, none⟩ = some (.int .i64 f.s) := by rw [hW1]; exact bel_cell hb1 (by go_simp)
  have k1 : W1.cell? ⟨W.heap.size + 1, 1, none⟩ = some (.int .i64 f.o) := by rw [hW1]; exact bel_cell hb1 (by go_simp)
  have k2 : W1.cell? ⟨W.heap.size + 1, 2, none⟩ = some (.int .i64 f.n) := by rw [hW1]; exact bel_cell hb1 (by go_simp)
  have k3 : W1.cell? ⟨W.heap.size + 1, 3, none⟩ = some (.int .i64 f.i) := by rw [hW1]; exact bel_cell hb1 (by go_simp)
  have k4 : W1.cell? ⟨W.heap.size + 1, 4, none⟩ = some (.int .i64 f.u) := by rw [hW1]; exact bel_cell hb1 (by go_simp)
  have x0 := bel_cell hb1' c0
  have y0 := bel_cell hb1' b0
  have y1 := bel_cell hb1' b1
  have y2 := bel_cell hb1' b2
  have hzl := block_lt_of_cell k0
  have hyB := block_lt_of_cell y0
  have hyX := block_lt_of_cell x0
  have hyW := block_lt_of_cell q0
  clear hW1 hright
  go_cut [10, 11] from 19 to 29 (fun x q wx => OneS W op N f p x q wx)
  case first =>
    have hS : ∀ w', Below W1.heap.size W1 w' → w'.cell? ⟨X, 0, none⟩ = some (.slice (some ⟨B, 0, none⟩) ps.length ps.length) ∧ w'.cell? ⟨B, at_ * 3, none⟩ = some (.bool p.met) ∧ w'.cell? ⟨B, at_ * 3 + 1, none⟩ = some (.int .i64 p.d) ∧ w'.cell? ⟨B, at_ * 3 + 2, none⟩ = some (.int .i64 p.f) ∧ w'.cell? ⟨W.heap.size, 0, none⟩ = some (.int .i64 op) ∧ w'.cell? ⟨W.heap.size + 1, 0, none⟩ = some (.int .i64 f.s) ∧ w'.cell? ⟨W.heap.size + 1, 1, none⟩ = some (.int .i64 f.o) ∧ w'.cell? ⟨W.heap.size + 1, 2, none⟩ = some (.int .i64 f.n) ∧ w'.cell? ⟨W.heap.size + 1, 3, none⟩ = some (.int .i64 f.i) ∧ w'.cell? ⟨W.heap.size + 1, 4, none⟩ = some (.int .i64 f.u) := fun w' hb => ⟨bel_cell hb x0, bel_cell hb y0, bel_cell hb y1, bel_cell hb y2, bel_cell hb q0, bel_cell hb k0, bel_cell hb k1, bel_cell hb k2, bel_cell hb k3, bel_cell hb k4⟩
    have HS := Lib.hid hS
    have hS0 := hS W1.drew (bel_drew (Below.refl _ _))
    have Q0 := Lib.hid q0
    have Q1 := Lib.hid q1
    clear hS x0 y0 y1 y2 q0 q1 k0 k1 k2 k3 k4
    refine wp_region_ht (fun w' => w'.cell? ⟨X, 0, none⟩ = some (.slice (some ⟨B, 0, none⟩) ps.length ps.length) ∧ w'.cell? ⟨B, at_ * 3, none⟩ = some (.bool p.met) ∧ w'.cell? ⟨B, at_ * 3 + 1, none⟩ = some (.int .i64 p.d) ∧ w'.cell? ⟨B, at_ * 3 + 2, none⟩ = some (.int .i64 p.f) ∧ w'.cell? ⟨W.heap.size, 0, none⟩ = some (.int .i64 op) ∧ w'.cell? ⟨W.heap.size + 1, 0, none⟩ = some (.int .i64 f.s) ∧ w'.cell? ⟨W.heap.size + 1, 1, none⟩ = some (.int .i64 f.o) ∧ w'.cell? ⟨W.heap.size + 1, 2, none⟩ = some (.int .i64 f.n) ∧ w'.cell? ⟨W.heap.size + 1, 3, none⟩ = some (.int .i64 f.i) ∧ w'.cell? ⟨W.heap.size + 1, 4, none⟩ = some (.int .i64 f.u)) 14 1 (by kernel_rfl) (by rfl) ?_
    simp only [List.size_toArray, List.length_cons, List.length_nil, Nat.zero_add, Nat.reduceAdd]
    refine takeA (v := ?_) 0 hS0 ?_ ?_
    rotate_left
    · intro w' hSw
      go_simp
      first | done | with_reducible rfl
    try simp only [Act.put, List.setIfInBounds_toArray, List.set_cons_zero, List.set_cons_succ]
    refine takeA (v := ?_) 1 hS0 ?_ ?_
    rotate_left
    · intro w' hSw
      go_simp
      first | done | with_reducible rfl
    try simp only [Act.put, List.setIfInBounds_toArray, List.set_cons_zero, List.set_cons_succ]
    refine takeA (v := ?_) 2 hS0 ?_ ?_
    rotate_left
    · intro w' hSw
      go_simp
      first | done | with_reducible rfl
    try simp only [Act.put, List.setIfInBounds_toArray, List.set_cons_zero, List.set_cons_succ]
    refine takeA (v := ?_) 4 hS0 ?_ ?_
    rotate_left
    · intro w' hSw
      go_simp
      first | done | with_reducible rfl
    try simp only [Act.put, List.setIfInBounds_toArray, List.set_cons_zero, List.set_cons_succ]
    refine takeA (v := ?_) 5 hS0 ?_ ?_
    rotate_left
    · intro w' hSw
      go_simp
      first | done | with_reducible rfl
    try simp only [Act.put, List.setIfInBounds_toArray, List.set_cons_zero, List.set_cons_succ]
    refine takeA (v := ?_) 6 hS0 ?_ ?_
    rotate_left
    · intro w' hSw
      go_simp
      first | done | with_reducible rfl
    try simp only [Act.put, List.setIfInBounds_toArray, List.set_cons_zero, List.set_cons_succ]
    refine takeA (v := ?_) 7 hS0 ?_ ?_
    rotate_left
    · intro w' hSw
      go_simp
      first | done | with_reducible rfl
    try simp only [Act.put, List.setIfInBounds_toArray, List.set_cons_zero, List.set_cons_succ]
    refine takeA (v := ?_) 8 hS0 ?_ ?_
    rotate_left
    · intro w' hSw
      go_simp
      first | done | with_reducible rfl
    try simp only [Act.put, List.setIfInBounds_toArray, List.set_cons_zero, List.set_cons_succ]
    refine takeA (v := ?_) 9 hS0 ?_ ?_
    rotate_left
    · intro w' hSw
      go_simp
      first | done | with_reducible rfl
    try simp only [Act.put, List.setIfInBounds_toArray, List.set_cons_zero, List.set_cons_succ]
    refine takeA (v := ?_) 10 hS0 ?_ ?_
    rotate_left
    · intro w' hSw
      go_simp
      first | done | with_reducible rfl
    try simp only [Act.put, List.setIfInBounds_toArray, List.set_cons_zero, List.set_cons_succ]
    refine ht_name fun V0 hV0 => ?_
    have bV0 : Below W1.heap.size W1 V0 := by rw [hV0]; exact bel_drew (Below.refl _ _)
    clear hS0 hV0
    refine wpHT_three (i := 3) (j := 11) (l := 12) (by kernel_rfl) (by simp only [List.getElem?_toArray, List.getElem?_cons_succ, List.getElem?_cons_zero]; rfl) (by simp only [List.getElem?_toArray, List.getElem?_cons_succ, List.getElem?_cons_zero]; rfl) (by simp only [List.getElem?_toArray, List.getElem?_cons_succ, List.getElem?_cons_zero]; rfl) rfl rfl rfl ?_ ?_ ?_
    · refine oper_wp_K fun K hK => ?_
      go_simp
      refine (heff _).mono ?_
      rintro r V1 ⟨rfl, hbe⟩
      dsimp only
      have bV1 : Below W1.heap.size W1 V1 := bel_trans bV0 hbe
      refine hK _ _ ⟨HS.out _ bV1, ?_⟩
      clear hK K
      try simp only [Act.put, List.setIfInBounds_toArray, List.set_cons_zero, List.set_cons_succ]
      (try replace HZX := HZX.later hbe)
      (try replace HZP := HZP.later hbe)
      refine wpHT_two (i := 11) (j := 12) (by kernel_rfl) (by simp only [List.getElem?_toArray, List.getElem?_cons_succ, List.getElem?_cons_zero]; rfl) (by simp only [List.getElem?_toArray, List.getElem?_cons_succ, List.getElem?_cons_zero]; rfl) rfl rfl ?_ ?_
      · refine oper_wp_K fun K hK => ?_
        go_simp
        refine hK _ _ ⟨HS.out _ (bel_alloc bV1 _), ?_⟩
        clear hK K
        try simp only [Act.put, List.setIfInBounds_toArray, List.set_cons_zero, List.set_cons_succ]
        refine ht_name fun V2 hV => ?_
        have bV2 : Below W1.heap.size W1 V2 := by rw [hV]; exact bel_alloc bV1 _
        have HZX : AtZ V2 V1.heap.size (.int .i64 0) (.int .i64 0) (.int .i64 0) := by rw [hV]; exact AtZ.new _ _ _ _ _
        (try have hne := HZP.lt)
        (try replace HZP := HZP.later (show Below _ _ V2 by rw [hV]; exact bel_alloc (Below.refl _ _) _))
        have hgx : W1.heap.size ≤ V1.heap.size := bV1.size
        clear hV
        refine oneA 12 ?_
        refine oper_wp_K fun K hK => ?_
        go_simp
        refine hK _ _ ⟨HS.out _ (bel_alloc bV2 _), ?_⟩
        clear hK K
        try simp only [Act.put, List.setIfInBounds_toArray, List.set_cons_zero, List.set_cons_succ]
        refine ht_name fun V3 hV => ?_
        have bV3 : Below W1.heap.size W1 V3 := by rw [hV]; exact bel_alloc bV2 _
        have HZP : AtZ V3 V2.heap.size (.bool false) (.int .i64 0) (.int .i64 0) := by rw [hV]; exact AtZ.new _ _ _ _ _
        (try have hne := HZX.lt)
        (try replace HZX := HZX.later (show Below _ _ V3 by rw [hV]; exact bel_alloc (Below.refl _ _) _))
        have hgp : W1.heap.size ≤ V2.heap.size := bV2.size
        clear hV
        refine oneA 13 ?_
        obtain ⟨xc0, xc1, xc2, xf0, xf1, xf2⟩ := id HZX
        refine oper_wp_K fun K hK => ?_
        go_simp
        refine hK _ _ ⟨HS.out _ (bel_set3 _ _ _ bV3 hgx), ?_⟩
        clear xc0 xc1 xc2 xf0 xf1 xf2
        clear hK K
        try simp only [Act.put, List.setIfInBounds_toArray, List.set_cons_zero, List.set_cons_succ]
        refine ht_name fun V4 hV => ?_
        have bV4 : Below W1.heap.size W1 V4 := by rw [hV]; exact bel_set3 _ _ _ bV3 hgx
        have hlx := HZX.lt
        (try have hlp := HZP.lt)
        (try (have hoth := HZP.othr HZX (.int .i64 (takesF op)) (.int .i64 (givesF op)) (.int .i64 (roomF op f)) (by omega); rw [← hV] at hoth; clear HZP; have HZP := hoth; clear hoth))
        have hset := HZX.set (.int .i64 (takesF op)) (.int .i64 (givesF op)) (.int .i64 (roomF op f))
        rw [← hV] at hset
        clear HZX
        have HZX := hset
        clear hset
        clear hV
        refine wpHT_done (by kernel_rfl) ?_
        obtain ⟨pc0, pc1, pc2, pf0, pf1, pf2⟩ := id HZP
        refine anyA 14 ?_
        refine oper_wp_K fun K hK => ?_
        go_simp
        refine hK _ _ ?_
        clear hK K
        try simp only [Act.put, List.setIfInBounds_toArray, List.set_cons_zero, List.set_cons_succ]
        refine wpAny_end (by kernel_rfl) ?_
        refine exit_nm fun V5 hV5 => ?_
        have bV5 : Below W1.heap.size W1 V5 := by rw [hV5]; exact bel_set3 _ _ _ bV4 hgp
        have hlx := HZX.lt
        have hlp := HZP.lt
        have hzx := HZX.othr HZP (.bool p.met) (.int .i64 p.d) (.int .i64 p.f) (by omega)
        have hzp := HZP.set (.bool p.met) (.int .i64 p.d) (.int .i64 p.f)
        rw [← hV5] at hzx hzp
        have HZX5 := Lib.hid hzx
        have HZP5 := Lib.hid hzp
        clear hV5 HZX HZP hzx hzp pc0 pc1 pc2 pf0 pf1 pf2
        go_wp2_with fail
        go_meet
        case rel => exact ⟨_, _, rfl, rfl, by omega, by omega, HZX5.out.lt, HZP5.out.lt, HZX5.out.c0, HZX5.out.c1, HZX5.out.c2, HZP5.out.c0, HZP5.out.c1, HZP5.out.c2, bel_cell bV5 Q0.out, bel_cell bV5 Q1.out, bel_trans hb1' bV5⟩
      · refine oper_wp_K fun K hK => ?_
        go_simp
        refine hK _ _ ⟨HS.out _ (bel_alloc bV1 _), ?_⟩
        clear hK K
        try simp only [Act.put, List.setIfInBounds_toArray, List.set_cons_zero, List.set_cons_succ]
        refine ht_name fun V2 hV => ?_
        have bV2 : Below W1.heap.size W1 V2 := by rw [hV]; exact bel_alloc bV1 _
        have HZP : AtZ V2 V1.heap.size (.bool false) (.int .i64 0) (.int .i64 0) := by rw [hV]; exact AtZ.new _ _ _ _ _
        (try have hne := HZX.lt)
        (try replace HZX := HZX.later (show Below _ _ V2 by rw [hV]; exact bel_alloc (Below.refl _ _) _))
        have hgp : W1.heap.size ≤ V1.heap.size := bV1.size
        clear hV
        refine oneA 11 ?_
        refine oper_wp_K fun K hK => ?_
        go_simp
        refine hK _ _ ⟨HS.out _ (bel_alloc bV2 _), ?_⟩
        clear hK K
        try simp only [Act.put, List.setIfInBounds_toArray, List.set_cons_zero, List.set_cons_succ]
        refine ht_name fun V3 hV => ?_
        have bV3 : Below W1.heap.size W1 V3 := by rw [hV]; exact bel_alloc bV2 _
        have HZX : AtZ V3 V2.heap.size (.int .i64 0) (.int .i64 0) (.int .i64 0) := by rw [hV]; exact AtZ.new _ _ _ _ _
        (try have hne := HZP.lt)
        (try replace HZP := HZP.later (show Below _ _ V3 by rw [hV]; exact bel_alloc (Below.refl _ _) _))
        have hgx : W1.heap.size ≤ V2.heap.size := bV2.size
        clear hV
        refine oneA 13 ?_
        obtain ⟨xc0, xc1, xc2, xf0, xf1, xf2⟩ := id HZX
        refine oper_wp_K fun K hK => ?_
        go_simp
        refine hK _ _ ⟨HS.out _ (bel_set3 _ _ _ bV3 hgx), ?_⟩
        clear xc0 xc1 xc2 xf0 xf1 xf2
        clear hK K
        try simp only [Act.put, List.setIfInBounds_toArray, List.set_cons_zero, List.set_cons_succ]
        refine ht_name fun V4 hV => ?_
        have bV4 : Below W1.heap.size W1 V4 := by rw [hV]; exact bel_set3 _ _ _ bV3 hgx
        have hlx := HZX.lt
        (try have hlp := HZP.lt)
        (try (have hoth := HZP.othr HZX (.int .i64 (takesF op)) (.int .i64 (givesF op)) (.int .i64 (roomF op f)) (by omega); rw [← hV] at hoth; clear HZP; have HZP := hoth; clear hoth))
        have hset := HZX.set (.int .i64 (takesF op)) (.int .i64 (givesF op)) (.int .i64 (roomF op f))
        rw [← hV] at hset
        clear HZX
        have HZX := hset
        clear hset
        clear hV
        refine wpHT_done (by kernel_rfl) ?_
        obtain ⟨pc0, pc1, pc2, pf0, pf1, pf2⟩ := id HZP
        refine anyA 14 ?_
        refine oper_wp_K fun K hK => ?_
        go_simp
        refine hK _ _ ?_
        clear hK K
        try simp only [Act.put, List.setIfInBounds_toArray, List.set_cons_zero, List.set_cons_succ]
        refine wpAny_end (by kernel_rfl) ?_
        refine exit_nm fun V5 hV5 => ?_
        have bV5 : Below W1.heap.size W1 V5 := by rw [hV5]; exact bel_set3 _ _ _ bV4 hgp
        have hlx := HZX.lt
        have hlp := HZP.lt
        have hzx := HZX.othr HZP (.bool p.met) (.int .i64 p.d) (.int .i64 p.f) (by omega)
        have hzp := HZP.set (.bool p.met) (.int .i64 p.d) (.int .i64 p.f)
        rw [← hV5] at hzx hzp
        have HZX5 := Lib.hid hzx
        have HZP5 := Lib.hid hzp
        clear hV5 HZX HZP hzx hzp pc0 pc1 pc2 pf0 pf1 pf2
        go_wp2_with fail
        go_meet
        case rel => exact ⟨_, _, rfl, rfl, by omega, by omega, HZX5.out.lt, HZP5.out.lt, HZX5.out.c0, HZX5.out.c1, HZX5.out.c2, HZP5.out.c0, HZP5.out.c1, HZP5.out.c2, bel_cell bV5 Q0.out, bel_cell bV5 Q1.out, bel_trans hb1' bV5⟩
    · refine oper_wp_K fun K hK => ?_
      go_simp
      refine hK _ _ ⟨HS.out _ (bel_alloc bV0 _), ?_⟩
      clear hK K
      try simp only [Act.put, List.setIfInBounds_toArray, List.set_cons_zero, List.set_cons_succ]
      refine ht_name fun V1 hV => ?_
      have bV1 : Below W1.heap.size W1 V1 := by rw [hV]; exact bel_alloc bV0 _
      have HZX : AtZ V1 V0.heap.size (.int .i64 0) (.int .i64 0) (.int .i64 0) := by rw [hV]; exact AtZ.new _ _ _ _ _
      (try have hne := HZP.lt)
      (try replace HZP := HZP.later (show Below _ _ V1 by rw [hV]; exact bel_alloc (Below.refl _ _) _))
      have hgx : W1.heap.size ≤ V0.heap.size := bV0.size
      clear hV
      refine wpHT_two (i := 3) (j := 12) (by kernel_rfl) (by simp only [List.getElem?_toArray, List.getElem?_cons_succ, List.getElem?_cons_zero]; rfl) (by simp only [List.getElem?_toArray, List.getElem?_cons_succ, List.getElem?_cons_zero]; rfl) rfl rfl ?_ ?_
      · refine oper_wp_K fun K hK => ?_
        go_simp
        refine (heff _).mono ?_
        rintro r V2 ⟨rfl, hbe⟩
        dsimp only
        have bV2 : Below W1.heap.size W1 V2 := bel_trans bV1 hbe
        refine hK _ _ ⟨HS.out _ bV2, ?_⟩
        clear hK K
        try simp only [Act.put, List.setIfInBounds_toArray, List.set_cons_zero, List.set_cons_succ]
        (try replace HZX := HZX.later hbe)
        (try replace HZP := HZP.later hbe)
        refine oneA 12 ?_
        refine oper_wp_K fun K hK => ?_
        go_simp
        refine hK _ _ ⟨HS.out _ (bel_alloc bV2 _), ?_⟩
        clear hK K
        try simp only [Act.put, List.setIfInBounds_toArray, List.set_cons_zero, List.set_cons_succ]
        refine ht_name fun V3 hV => ?_
        have bV3 : Below W1.heap.size W1 V3 := by rw [hV]; exact bel_alloc bV2 _
        have HZP : AtZ V3 V2.heap.size (.bool false) (.int .i64 0) (.int .i64 0) := by rw [hV]; exact AtZ.new _ _ _ _ _
        (try have hne := HZX.lt)
        (try replace HZX := HZX.later (show Below _ _ V3 by rw [hV]; exact bel_alloc (Below.refl _ _) _))
        have hgp : W1.heap.size ≤ V2.heap.size := bV2.size
        clear hV
        refine oneA 13 ?_
        obtain ⟨xc0, xc1, xc2, xf0, xf1, xf2⟩ := id HZX
        refine oper_wp_K fun K hK => ?_
        go_simp
        refine hK _ _ ⟨HS.out _ (bel_set3 _ _ _ bV3 hgx), ?_⟩
        clear xc0 xc1 xc2 xf0 xf1 xf2
        clear hK K
        try simp only [Act.put, List.setIfInBounds_toArray, List.set_cons_zero, List.set_cons_succ]
        refine ht_name fun V4 hV => ?_
        have bV4 : Below W1.heap.size W1 V4 := by rw [hV]; exact bel_set3 _ _ _ bV3 hgx
        have hlx := HZX.lt
        (try have hlp := HZP.lt)
        (try (have hoth := HZP.othr HZX (.int .i64 (takesF op)) (.int .i64 (givesF op)) (.int .i64 (roomF op f)) (by omega); rw [← hV] at hoth; clear HZP; have HZP := hoth; clear hoth))
        have hset := HZX.set (.int .i64 (takesF op)) (.int .i64 (givesF op)) (.int .i64 (roomF op f))
        rw [← hV] at hset
        clear HZX
        have HZX := hset
        clear hset
        clear hV
        refine wpHT_done (by kernel_rfl) ?_
        obtain ⟨pc0, pc1, pc2, pf0, pf1, pf2⟩ := id HZP
        refine anyA 14 ?_
        refine oper_wp_K fun K hK => ?_
        go_simp
        refine hK _ _ ?_
        clear hK K
        try simp only [Act.put, List.setIfInBounds_toArray, List.set_cons_zero, List.set_cons_succ]
        refine wpAny_end (by kernel_rfl) ?_
        refine exit_nm fun V5 hV5 => ?_
        have bV5 : Below W1.heap.size W1 V5 := by rw [hV5]; exact bel_set3 _ _ _ bV4 hgp
        have hlx := HZX.lt
        have hlp := HZP.lt
        have hzx := HZX.othr HZP (.bool p.met) (.int .i64 p.d) (.int .i64 p.f) (by omega)
        have hzp := HZP.set (.bool p.met) (.int .i64 p.d) (.int .i64 p.f)
        rw [← hV5] at hzx hzp
        have HZX5 := Lib.hid hzx
        have HZP5 := Lib.hid hzp
        clear hV5 HZX HZP hzx hzp pc0 pc1 pc2 pf0 pf1 pf2
        go_wp2_with fail
        go_meet
        case rel => exact ⟨_, _, rfl, rfl, by omega, by omega, HZX5.out.lt, HZP5.out.lt, HZX5.out.c0, HZX5.out.c1, HZX5.out.c2, HZP5.out.c0, HZP5.out.c1, HZP5.out.c2, bel_cell bV5 Q0.out, bel_cell bV5 Q1.out, bel_trans hb1' bV5⟩
      · refine oper_wp_K fun K hK => ?_
        go_simp
        refine hK _ _ ⟨HS.out _ (bel_alloc bV1 _), ?_⟩
        clear hK K
        try simp only [Act.put, List.setIfInBounds_toArray, List.set_cons_zero, List.set_cons_succ]
        refine ht_name fun V2 hV => ?_
        have bV2 : Below W1.heap.size W1 V2 := by rw [hV]; exact bel_alloc bV1 _
        have HZP : AtZ V2 V1.heap.size (.bool false) (.int .i64 0) (.int .i64 0) := by rw [hV]; exact AtZ.new _ _ _ _ _
        (try have hne := HZX.lt)
        (try replace HZX := HZX.later (show Below _ _ V2 by rw [hV]; exact bel_alloc (Below.refl _ _) _))
        have hgp : W1.heap.size ≤ V1.heap.size := bV1.size
        clear hV
        refine oneA 3 ?_
        refine oper_wp_K fun K hK => ?_
        go_simp
        refine (heff _).mono ?_
        rintro r V3 ⟨rfl, hbe⟩
        dsimp only
        have bV3 : Below W1.heap.size W1 V3 := bel_trans bV2 hbe
        refine hK _ _ ⟨HS.out _ bV3, ?_⟩
        clear hK K
        try simp only [Act.put, List.setIfInBounds_toArray, List.set_cons_zero, List.set_cons_succ]
        (try replace HZX := HZX.later hbe)
        (try replace HZP := HZP.later hbe)
        refine oneA 13 ?_
        obtain ⟨xc0, xc1, xc2, xf0, xf1, xf2⟩ := id HZX
        refine oper_wp_K fun K hK => ?_
        go_simp
        refine hK _ _ ⟨HS.out _ (bel_set3 _ _ _ bV3 hgx), ?_⟩
        clear xc0 xc1 xc2 xf0 xf1 xf2
        clear hK K
        try simp only [Act.put, List.setIfInBounds_toArray, List.set_cons_zero, List.set_cons_succ]
        refine ht_name fun V4 hV => ?_
        have bV4 : Below W1.heap.size W1 V4 := by rw [hV]; exact bel_set3 _ _ _ bV3 hgx
        have hlx := HZX.lt
        (try have hlp := HZP.lt)
        (try (have hoth := HZP.othr HZX (.int .i64 (takesF op)) (.int .i64 (givesF op)) (.int .i64 (roomF op f)) (by omega); rw [← hV] at hoth; clear HZP; have HZP := hoth; clear hoth))
        have hset := HZX.set (.int .i64 (takesF op)) (.int .i64 (givesF op)) (.int .i64 (roomF op f))
        rw [← hV] at hset
        clear HZX
        have HZX := hset
        clear hset
        clear hV
        refine wpHT_done (by kernel_rfl) ?_
        obtain ⟨pc0, pc1, pc2, pf0, pf1, pf2⟩ := id HZP
        refine anyA 14 ?_
        refine oper_wp_K fun K hK => ?_
        go_simp
        refine hK _ _ ?_
        clear hK K
        try simp only [Act.put, List.setIfInBounds_toArray, List.set_cons_zero, List.set_cons_succ]
        refine wpAny_end (by kernel_rfl) ?_
        refine exit_nm fun V5 hV5 => ?_
        have bV5 : Below W1.heap.size W1 V5 := by rw [hV5]; exact bel_set3 _ _ _ bV4 hgp
        have hlx := HZX.lt
        have hlp := HZP.lt
        have hzx := HZX.othr HZP (.bool p.met) (.int .i64 p.d) (.int .i64 p.f) (by omega)
        have hzp := HZP.set (.bool p.met) (.int .i64 p.d) (.int .i64 p.f)
        rw [← hV5] at hzx hzp
        have HZX5 := Lib.hid hzx
        have HZP5 := Lib.hid hzp
        clear hV5 HZX HZP hzx hzp pc0 pc1 pc2 pf0 pf1 pf2
        go_wp2_with fail
        go_meet
        case rel => exact ⟨_, _, rfl, rfl, by omega, by omega, HZX5.out.lt, HZP5.out.lt, HZX5.out.c0, HZX5.out.c1, HZX5.out.c2, HZP5.out.c0, HZP5.out.c1, HZP5.out.c2, bel_cell bV5 Q0.out, bel_cell bV5 Q1.out, bel_trans hb1' bV5⟩
    · refine oper_wp_K fun K hK => ?_
      go_simp
      refine hK _ _ ⟨HS.out _ (bel_alloc bV0 _), ?_⟩
      clear hK K
      try simp only [Act.put, List.setIfInBounds_toArray, List.set_cons_zero, List.set_cons_succ]
      refine ht_name fun V1 hV => ?_
      have bV1 : Below W1.heap.size W1 V1 := by rw [hV]; exact bel_alloc bV0 _
      have HZP : AtZ V1 V0.heap.size (.bool false) (.int .i64 0) (.int .i64 0) := by rw [hV]; exact AtZ.new _ _ _ _ _
      (try have hne := HZX.lt)
      (try replace HZX := HZX.later (show Below _ _ V1 by rw [hV]; exact bel_alloc (Below.refl _ _) _))
      have hgp : W1.heap.size ≤ V0.heap.size := bV0.size
      clear hV
      refine wpHT_two (i := 3) (j := 11) (by kernel_rfl) (by simp only [List.getElem?_toArray, List.getElem?_cons_succ, List.getElem?_cons_zero]; rfl) (by simp only [List.getElem?_toArray, List.getElem?_cons_succ, List.getElem?_cons_zero]; rfl) rfl rfl ?_ ?_
      · refine oper_wp_K fun K hK => ?_
        go_simp
        refine (heff _).mono ?_
        rintro r V2 ⟨rfl, hbe⟩
        dsimp only
        have bV2 : Below W1.heap.size W1 V2 := bel_trans bV1 hbe
        refine hK _ _ ⟨HS.out _ bV2, ?_⟩
        clear hK K
        try simp only [Act.put, List.setIfInBounds_toArray, List.set_cons_zero, List.set_cons_succ]
        (try replace HZX := HZX.later hbe)
        (try replace HZP := HZP.later hbe)
        refine oneA 11 ?_
        refine oper_wp_K fun K hK => ?_
        go_simp
        refine hK _ _ ⟨HS.out _ (bel_alloc bV2 _), ?_⟩
        clear hK K
        try simp only [Act.put, List.setIfInBounds_toArray, List.set_cons_zero, List.set_cons_succ]
        refine ht_name fun V3 hV => ?_
        have bV3 : Below W1.heap.size W1 V3 := by rw [hV]; exact bel_alloc bV2 _
        have HZX : AtZ V3 V2.heap.size (.int .i64 0) (.int .i64 0) (.int .i64 0) := by rw [hV]; exact AtZ.new _ _ _ _ _
        (try have hne := HZP.lt)
        (try replace HZP := HZP.later (show Below _ _ V3 by rw [hV]; exact bel_alloc (Below.refl _ _) _))
        have hgx : W1.heap.size ≤ V2.heap.size := bV2.size
        clear hV
        refine oneA 13 ?_
        obtain ⟨xc0, xc1, xc2, xf0, xf1, xf2⟩ := id HZX
        refine oper_wp_K fun K hK => ?_
        go_simp
        refine hK _ _ ⟨HS.out _ (bel_set3 _ _ _ bV3 hgx), ?_⟩
        clear xc0 xc1 xc2 xf0 xf1 xf2
        clear hK K
        try simp only [Act.put, List.setIfInBounds_toArray, List.set_cons_zero, List.set_cons_succ]
        refine ht_name fun V4 hV => ?_
        have bV4 : Below W1.heap.size W1 V4 := by rw [hV]; exact bel_set3 _ _ _ bV3 hgx
        have hlx := HZX.lt
        (try have hlp := HZP.lt)
        (try (have hoth := HZP.othr HZX (.int .i64 (takesF op)) (.int .i64 (givesF op)) (.int .i64 (roomF op f)) (by omega); rw [← hV] at hoth; clear HZP; have HZP := hoth; clear hoth))
        have hset := HZX.set (.int .i64 (takesF op)) (.int .i64 (givesF op)) (.int .i64 (roomF op f))
        rw [← hV] at hset
        clear HZX
        have HZX := hset
        clear hset
        clear hV
        refine wpHT_done (by kernel_rfl) ?_
        obtain ⟨pc0, pc1, pc2, pf0, pf1, pf2⟩ := id HZP
        refine anyA 14 ?_
        refine oper_wp_K fun K hK => ?_
        go_simp
        refine hK _ _ ?_
        clear hK K
        try simp only [Act.put, List.setIfInBounds_toArray, List.set_cons_zero, List.set_cons_succ]
        refine wpAny_end (by kernel_rfl) ?_
        refine exit_nm fun V5 hV5 => ?_
        have bV5 : Below W1.heap.size W1 V5 := by rw [hV5]; exact bel_set3 _ _ _ bV4 hgp
        have hlx := HZX.lt
        have hlp := HZP.lt
        have hzx := HZX.othr HZP (.bool p.met) (.int .i64 p.d) (.int .i64 p.f) (by omega)
        have hzp := HZP.set (.bool p.met) (.int .i64 p.d) (.int .i64 p.f)
        rw [← hV5] at hzx hzp
        have HZX5 := Lib.hid hzx
        have HZP5 := Lib.hid hzp
        clear hV5 HZX HZP hzx hzp pc0 pc1 pc2 pf0 pf1 pf2
        go_wp2_with fail
        go_meet
        case rel => exact ⟨_, _, rfl, rfl, by omega, by omega, HZX5.out.lt, HZP5.out.lt, HZX5.out.c0, HZX5.out.c1, HZX5.out.c2, HZP5.out.c0, HZP5.out.c1, HZP5.out.c2, bel_cell bV5 Q0.out, bel_cell bV5 Q1.out, bel_trans hb1' bV5⟩
      · refine oper_wp_K fun K hK => ?_
        go_simp
        refine hK _ _ ⟨HS.out _ (bel_alloc bV1 _), ?_⟩
        clear hK K
        try simp only [Act.put, List.setIfInBounds_toArray, List.set_cons_zero, List.set_cons_succ]
        refine ht_name fun V2 hV => ?_
        have bV2 : Below W1.heap.size W1 V2 := by rw [hV]; exact bel_alloc bV1 _
        have HZX : AtZ V2 V1.heap.size (.int .i64 0) (.int .i64 0) (.int .i64 0) := by rw [hV]; exact AtZ.new _ _ _ _ _
        (try have hne := HZP.lt)
        (try replace HZP := HZP.later (show Below _ _ V2 by rw [hV]; exact bel_alloc (Below.refl _ _) _))
        have hgx : W1.heap.size ≤ V1.heap.size := bV1.size
        clear hV
        refine oneA 3 ?_
        refine oper_wp_K fun K hK => ?_
        go_simp
        refine (heff _).mono ?_
        rintro r V3 ⟨rfl, hbe⟩
        dsimp only
        have bV3 : Below W1.heap.size W1 V3 := bel_trans bV2 hbe
        refine hK _ _ ⟨HS.out _ bV3, ?_⟩
        clear hK K
        try simp only [Act.put, List.setIfInBounds_toArray, List.set_cons_zero, List.set_cons_succ]
        (try replace HZX := HZX.later hbe)
        (try replace HZP := HZP.later hbe)
        refine oneA 13 ?_
        obtain ⟨xc0, xc1, xc2, xf0, xf1, xf2⟩ := id HZX
        refine oper_wp_K fun K hK => ?_
        go_simp
        refine hK _ _ ⟨HS.out _ (bel_set3 _ _ _ bV3 hgx), ?_⟩
        clear xc0 xc1 xc2 xf0 xf1 xf2
        clear hK K
        try simp only [Act.put, List.setIfInBounds_toArray, List.set_cons_zero, List.set_cons_succ]
        refine ht_name fun V4 hV => ?_
        have bV4 : Below W1.heap.size W1 V4 := by rw [hV]; exact bel_set3 _ _ _ bV3 hgx
        have hlx := HZX.lt
        (try have hlp := HZP.lt)
        (try (have hoth := HZP.othr HZX (.int .i64 (takesF op)) (.int .i64 (givesF op)) (.int .i64 (roomF op f)) (by omega); rw [← hV] at hoth; clear HZP; have HZP := hoth; clear hoth))
        have hset := HZX.set (.int .i64 (takesF op)) (.int .i64 (givesF op)) (.int .i64 (roomF op f))
        rw [← hV] at hset
        clear HZX
        have HZX := hset
        clear hset
        clear hV
        refine wpHT_done (by kernel_rfl) ?_
        obtain ⟨pc0, pc1, pc2, pf0, pf1, pf2⟩ := id HZP
        refine anyA 14 ?_
        refine oper_wp_K fun K hK => ?_
        go_simp
        refine hK _ _ ?_
        clear hK K
        try simp only [Act.put, List.setIfInBounds_toArray, List.set_cons_zero, List.set_cons_succ]
        refine wpAny_end (by kernel_rfl) ?_
        refine exit_nm fun V5 hV5 => ?_
        have bV5 : Below W1.heap.size W1 V5 := by rw [hV5]; exact bel_set3 _ _ _ bV4 hgp
        have hlx := HZX.lt
        have hlp := HZP.lt
        have hzx := HZX.othr HZP (.bool p.met) (.int .i64 p.d) (.int .i64 p.f) (by omega)
        have hzp := HZP.set (.bool p.met) (.int .i64 p.d) (.int .i64 p.f)
        rw [← hV5] at hzx hzp
        have HZX5 := Lib.hid hzx
        have HZP5 := Lib.hid hzp
        clear hV5 HZX HZP hzx hzp pc0 pc1 pc2 pf0 pf1 pf2
        go_wp2_with fail
        go_meet
        case rel => exact ⟨_, _, rfl, rfl, by omega, by omega, HZX5.out.lt, HZP5.out.lt, HZX5.out.c0, HZX5.out.c1, HZX5.out.c2, HZP5.out.c0, HZP5.out.c1, HZP5.out.c2, bel_cell bV5 Q0.out, bel_cell bV5 Q1.out, bel_trans hb1' bV5⟩
  case rest =>
    obtain ⟨gx, gp, rfl, rfl, zx1, zp1, zx2, zp2, t0, t1, t2, m0, m1, m2, q0, q1, hbc⟩ := hcut
    have x0 := bel_cell hbc c0
    have x1 := bel_cell hbc c1
    have fx := (bfrozen hbc X 1 hXl).trans fX
    have HPC := Lib.hid (HP.out.later hB hbc)
    have tkr := takes_range op
    have gvr := gives_range op
    have hR := HR.out
    clear HR HP heff hb1 hb1' y0 y1 y2 k0 k1 k2 k3 k4 b0 b1 b2
    generalize takesF op = tk at *
    generalize givesF op = gv at *
    generalize roomF op f = rm at *
    obtain ⟨pm, pd, pf⟩ := p
    dsimp only at *
    obtain ⟨hd0, hd1, hf0, hf1, hun⟩ := hpd
    have hwN : wrap64 N = N := by unfold I32 at hN; unfold wrap64; omega
    clear hun
    by_cases hA : 0 ≤ rm ∧ rm ≤ N
    · rw [if_pos hA] at hR
      have HR1 := Lib.hid (show R.1 = 10 by rw [hR])
      obtain ⟨hA1, hA2⟩ := hA
      have dA1 : decide (0 ≤ rm) = true := by simpa using hA1
      have dA2 : decide (rm ≤ N) = true := by simpa using hA2
      clear hR
      go_wp2_with fail
      go_ret
      exact OneR.bel (ret_int HR1.out.symm) (by rw [HR1.out]; decide) hXl hbc
    · have hA3 : rm < 0 ∨ N < rm := by omega
      rw [if_neg hA] at hR
      clear hA
      have HRH := Lib.hid hR
      clear hR
      go_upto_region 6 with fail
      go_cut [38] from 39 to 49 (fun s wx => s = .bool false ∧ wx = wc)
      case first =>
        rcases hA3 with hA3 | hA3
        · go_wp2_with fail
          go_meet
          case rel => exact ⟨rfl, rfl⟩
        · by_cases h0 : 0 ≤ rm
          · have dA2 : ¬ rm ≤ N := by omega
            go_wp2_with fail
            go_meet
            case rel => exact ⟨rfl, rfl⟩
          · go_wp2_with fail
            go_meet
            case rel => exact ⟨rfl, rfl⟩
      case rest =>
        obtain ⟨rfl, rfl⟩ := hcut
        have hR := HRH.out
        clear hA3 HRH t2
        cases pm
        · rw [if_pos rfl] at hR
          have HR1 := Lib.hid (show R.1 = 13 by rw [hR])
          clear hR
          go_wp2_with fail
          go_ret
          exact OneR.bel (ret_int HR1.out.symm) (by rw [HR1.out]; decide) hXl hbc
        rw [if_neg (by decide)] at hR
        by_cases hS1 : pd < tk
        · rw [if_pos (.inl hS1)] at hR
          have HR1 := Lib.hid (show R.1 = 12 by rw [hR])
          clear hR
          go_wp2_with fail
          go_ret
          exact OneR.bel (ret_int HR1.out.symm) (by rw [HR1.out]; decide) hXl hbc
        by_cases hS2 : 16 < pd - tk + gv
        · rw [if_pos (.inr hS2)] at hR
          have HR1 := Lib.hid (show R.1 = 12 by rw [hR])
          clear hR
          go_wp2_with fail
          go_ret
          exact OneR.bel (ret_int HR1.out.symm) (by rw [HR1.out]; decide) hXl hbc
        rw [if_neg (by omega)] at hR
        have hd : 0 ≤ pd - tk + gv ∧ pd - tk + gv ≤ 16 := by omega
        have HR2 := Lib.hid hR
        clear hR
        have hyX := block_lt_of_cell x0
        go_upto_region 13 with fail
        refine wp_name fun V hV => ?_
        have hmx : (if dep < pd - tk + gv then pd - tk + gv else dep) = max dep (pd - tk + gv) := by omega
        rw [hmx] at hV ⊢
        have HV0 : OneV X B W V (max dep (pd - tk + gv)) := by
          rw [hV]
          exact ⟨(Kept.bel hbc).setCell (.inr rfl) _ _, (sc_off _ _ _ _ _ (by decide)).trans (bcell hbc _ _ hXl), World.cell?_setCell_same _ _ _ x1, (sc_off _ _ _ _ _ (by decide)).trans (bcell hbc _ _ hXl), fun o => (World.frozen?_setCell ..).trans (bfrozen hbc _ _ hXl)⟩
        have HPV : PlAt V B ps := by rw [hV]; exact HPC.out.blk hXB _
        have v0 : V.cell? ⟨X, 0, none⟩ = some (.slice (some ⟨B, 0, none⟩) ps.length ps.length) := by rw [hV, sc_off _ _ _ _ _ (by decide)]; exact x0
        have vm : V.cell? ⟨gp, 2, none⟩ = some (.int .i64 pf) := by rw [hV, sc_blk _ _ _ _ _ _ (by omega)]; exact m2
        have vq0 : V.cell? ⟨W.heap.size, 0, none⟩ = some (.int .i64 op) := by rw [hV, sc_blk _ _ _ _ _ _ (by omega)]; exact q0
        have vq1 : V.cell? ⟨W.heap.size, 1, none⟩ = some (.int .i32 N) := by rw [hV, sc_blk _ _ _ _ _ _ (by omega)]; exact q1
        have hBV : B < V.heap.size := by have := HV0.k.size; omega
        have hXV := block_lt_of_cell v0
        clear hV hmx x0 x1 fx t0 t1 m0 m1 m2 q0 q1 HPC hS1 hS2 c0 c1 fX
        have HV := Lib.hid HV0
        have HPH := Lib.hid HPV
        clear HV0 HPV
        generalize pd - tk + gv = d at *
        generalize hmm : max dep d = mx at *
        clear hmm
        have hcome := fun (W : World) (ps' : List Pl) (j : Nat) hc hp hB hto hlen hun => come_any X B ps' j d (pf + 1) W hXB hc hp hB hto hlen hun
        have HCOME := Lib.hid hcome
        clear hcome
        by_cases h10 : op = 10
        · have t10 : (op == 10) = true := by simpa using h10
          have t10n : (op != 10) = false := by simpa using h10
          have hN01 := jump_num HRT.out (.inl h10)
          obtain ⟨hN0, hN6⟩ := hN01
          have hR := HR2.out
          by_cases hJ : (ps.length : Int) ≤ (at_ : Int) + 1 + N
          · rw [if_pos ⟨.inl h10, hJ⟩] at hR
            have HR3 := Lib.hid (show R.1 = 11 by rw [hR])
            have dJ : decide ((ps.length : Int) ≤ (at_ : Int) + 1 + N) = true := by simpa using hJ
            clear hR h10 HR2 hJ
            go_upto_region 14 with fail
            go_quiet (fail)
            go_wp2_with fail
            go_ret
            exact (HV.out.step hXV hXB (Kept.bel belA)).done (ret_int HR3.out.symm) (fun h => absurd (HR3.out.symm.trans h) (by decide))
          rw [if_neg (by omega), if_pos h10] at hR
          dsimp only at hR
          rw [if_pos (.inl h10)] at hR
          have dJ : decide ((ps.length : Int) ≤ (at_ : Int) + 1 + N) = false := by simpa using hJ
          obtain ⟨j, hj⟩ : ∃ j : Nat, j = ((at_ : Int) + 1 + N).toNat := ⟨_, rfl⟩
          rw [← hj] at hR
          have hjl : j < ps.length := by omega
          have hji : (j : Int) = (at_ : Int) + 1 + N := by omega
          clear h10 HR2 hj
          go_upto_region 14 with fail
          go_quiet (fail)
          go_upto_region 16 with fail
          refine wp_name fun V2 hV2 => ?_
          have hbV : Below V.heap.size V V2 := by rw [hV2]; exact belA
          have w0 := bel_cell hbV v0
          have wm := bel_cell hbV vm
          have wq0 := bel_cell hbV vq0
          have wq1 := bel_cell hbV vq1
          have HV2 := Lib.hid (HV.out.step hXV hXB (Kept.bel hbV))
          have HP2 := Lib.hid (HPH.out.later hBV hbV)
          have hXV2 := block_lt_of_cell w0
          have hBV2 : B < V2.heap.size := Nat.lt_of_lt_of_le hBV hbV.size
          clear hV2 hbV v0 vm vq0 vq1 HV HPH hBV hXV
          have hc1 := HCOME.out V2 ps j w0 HP2.out hBV2 hjl hl600 (fun p hp => (HOK.out.all _ p hp).2.2.2.2)
          rw [hji] at hc1
          clear hji
          cases hcm : comeF ps j d (pf + 1) with
          | none =>
            rw [hcm] at hR hc1
            have HR3 := Lib.hid (show R.1 = 12 by rw [hR])
            clear hR hcm
            go_wp2_with (go_at_call 35; refine hc1.mono ?_; rintro r V3 ⟨rfl, hp3, hk3⟩)
            go_ret
            exact (HV2.out.step hXV2 hXB hk3).done (ret_int HR3.out.symm) (fun h => absurd (HR3.out.symm.trans h) (by decide))
          | some ps1 =>
            rw [hcm] at hR hc1
            dsimp only at hR
            have HR3 := Lib.hid hR
            clear hR hcm
            go_wp2_with (go_at_call 35; refine hc1.mono ?_; rintro r V3 ⟨rfl, hp3, hk3⟩)
            go_ret
            exact (HV2.out.step hXV2 hXB hk3).done (ret_int (by rw [HR3.out])) (fun _ => by rw [HR3.out]; exact ⟨hp3, rfl⟩)
        by_cases h11 : op = 11
        · have t10 : (op == 10) = false := by simpa using h10
          have t10n : (op != 10) = true := by simpa using h10
          have t11 : (op == 11) = true := by simpa using h11
          have hN01 := jump_num HRT.out (.inr h11)
          obtain ⟨hN0, hN6⟩ := hN01
          have hR := HR2.out
          by_cases hJ : (ps.length : Int) ≤ (at_ : Int) + 1 + N
          · rw [if_pos ⟨.inr h11, hJ⟩] at hR
            have HR3 := Lib.hid (show R.1 = 11 by rw [hR])
            have dJ : decide ((ps.length : Int) ≤ (at_ : Int) + 1 + N) = true := by simpa using hJ
            clear hR h10 h11 HR2 hJ
            go_upto_region 14 with fail
            go_quiet (fail)
            go_wp2_with fail
            go_ret
            exact (HV.out.step hXV hXB (Kept.bel belA)).done (ret_int HR3.out.symm) (fun h => absurd (HR3.out.symm.trans h) (by decide))
          rw [if_neg (by omega), if_neg h10] at hR
          have dJ : decide ((ps.length : Int) ≤ (at_ : Int) + 1 + N) = false := by simpa using hJ
          obtain ⟨j, hj⟩ : ∃ j : Nat, j = ((at_ : Int) + 1 + N).toNat := ⟨_, rfl⟩
          rw [← hj] at hR
          have hjl : j < ps.length := by omega
          have hji : (j : Int) = (at_ : Int) + 1 + N := by omega
          have hj11 : op = 10 ∨ op = 11 := .inr h11
          clear h10 h11 HR2 hj
          go_upto_region 14 with fail
          go_quiet (fail)
          go_upto_region 16 with fail
          refine wp_name fun V2 hV2 => ?_
          have hbV : Below V.heap.size V V2 := by rw [hV2]; exact belA
          have w0 := bel_cell hbV v0
          have wm := bel_cell hbV vm
          have wq0 := bel_cell hbV vq0
          have wq1 := bel_cell hbV vq1
          have HV2 := Lib.hid (HV.out.step hXV hXB (Kept.bel hbV))
          have HP2 := Lib.hid (HPH.out.later hBV hbV)
          have hXV2 := block_lt_of_cell w0
          have hBV2 : B < V2.heap.size := Nat.lt_of_lt_of_le hBV hbV.size
          clear hV2 hbV v0 vm vq0 vq1 HV HPH hBV hXV
          have hc1 := HCOME.out V2 ps (at_ + 1) w0 HP2.out hBV2 (by have := HLEN.out; omega) hl600 (fun p hp => (HOK.out.all _ p hp).2.2.2.2)
          rw [show ((at_ + 1 : Nat) : Int) = (at_ : Int) + 1 by omega] at hc1
          cases hcm : comeF ps (at_ + 1) d (pf + 1) with
          | none =>
            rw [hcm] at hR hc1
            have HR3 := Lib.hid (show R.1 = 12 by rw [hR])
            clear hR hcm hji
            go_wp2_with (go_at_call 35; refine hc1.mono ?_; rintro r V3 ⟨rfl, hp3, hk3⟩)
            go_ret
            exact (HV2.out.step hXV2 hXB hk3).done (ret_int HR3.out.symm) (fun h => absurd (HR3.out.symm.trans h) (by decide))
          | some ps1 =>
            have hok1 := (HOK.out.more (Nat.le_succ at_)).come hcm hd ⟨by omega, by omega⟩
            have hl1 := come_len hcm
            rw [hcm] at hR hc1
            dsimp only at hR
            rw [if_pos hj11] at hR
            have hc2 := fun V3 hx hp hb => HCOME.out V3 ps1 j hx hp hb (by omega) (by omega) (fun p hp => (hok1.all _ p hp).2.2.2.2)
            rw [hji, hl1] at hc2
            have HOK1 := Lib.hid hok1
            have hgx : gp ≠ B := by omega
            have hwx : W.heap.size ≠ B := by omega
            clear hji hok1 hl1 hcm
            cases hcm2 : comeF ps1 j d (pf + 1) with
            | none =>
              rw [hcm2] at hR hc2
              have HR3 := Lib.hid (show R.1 = 12 by rw [hR])
              clear hR hcm2
              go_wp2_with (first
                | (have hcX := HCX; go_at_call 35; refine (hc2 _ HCX hp3 hB3).mono ?_; rintro r V4 ⟨rfl, hp4, hk4⟩)
                | (go_at_call 35; refine hc1.mono ?_; rintro r V3 ⟨rfl, hp3, hk3⟩; have HCX := hk3.cell (b := X) hXB w0; have hB3 : B < V3.heap.size := Nat.lt_of_lt_of_le hBV2 hk3.size; have wm3 := hk3.cell (b := gp) hgx wm; have wq3 := hk3.cell (b := W.heap.size) hwx wq0; have wq4 := hk3.cell (b := W.heap.size) hwx wq1))
              go_ret
              exact ((HV2.out.step hXV2 hXB hk3).step (block_lt_of_cell HCX) hXB hk4).done (ret_int HR3.out.symm) (fun h => absurd (HR3.out.symm.trans h) (by decide))
            | some ps2 =>
              rw [hcm2] at hR hc2
              dsimp only at hR
              have HR3 := Lib.hid hR
              clear hR hcm2
              go_wp2_with (first
                | (have hcX := HCX; go_at_call 35; refine (hc2 _ HCX hp3 hB3).mono ?_; rintro r V4 ⟨rfl, hp4, hk4⟩)
                | (go_at_call 35; refine hc1.mono ?_; rintro r V3 ⟨rfl, hp3, hk3⟩; have HCX := hk3.cell (b := X) hXB w0; have hB3 : B < V3.heap.size := Nat.lt_of_lt_of_le hBV2 hk3.size; have wm3 := hk3.cell (b := gp) hgx wm; have wq3 := hk3.cell (b := W.heap.size) hwx wq0; have wq4 := hk3.cell (b := W.heap.size) hwx wq1))
              go_ret
              exact ((HV2.out.step hXV2 hXB hk3).step (block_lt_of_cell HCX) hXB hk4).done (ret_int (by rw [HR3.out])) (fun _ => by rw [HR3.out]; exact ⟨hp4, rfl⟩)
        · have t10 : (op == 10) = false := by simpa using h10
          have t11 : (op == 11) = false := by simpa using h11
          have t10n : (op != 10) = true := by simpa using h10
          have hR := HR2.out
          rw [if_neg (by omega), if_neg h10] at hR
          have hnj : ¬ (op = 10 ∨ op = 11) := by omega
          clear h10 h11 HR2
          go_upto_region 14 with fail
          go_quiet (fail)
          go_upto_region 16 with fail
          refine wp_name fun V2 hV2 => ?_
          have hbV : Below V.heap.size V V2 := by rw [hV2]; exact belA
          have w0 := bel_cell hbV v0
          have wm := bel_cell hbV vm
          have wq0 := bel_cell hbV vq0
          have wq1 := bel_cell hbV vq1
          have HV2 := Lib.hid (HV.out.step hXV hXB (Kept.bel hbV))
          have HP2 := Lib.hid (HPH.out.later hBV hbV)
          have hXV2 := block_lt_of_cell w0
          have hBV2 : B < V2.heap.size := Nat.lt_of_lt_of_le hBV hbV.size
          clear hV2 hbV v0 vm vq0 vq1 HV HPH hBV hXV
          have hc1 := HCOME.out V2 ps (at_ + 1) w0 HP2.out hBV2 (by have := HLEN.out; omega) hl600 (fun p hp => (HOK.out.all _ p hp).2.2.2.2)
          rw [show ((at_ + 1 : Nat) : Int) = (at_ : Int) + 1 by omega] at hc1
          cases hcm : comeF ps (at_ + 1) d (pf + 1) with
          | none =>
            rw [hcm] at hR hc1
            have HR3 := Lib.hid (show R.1 = 12 by rw [hR])
            clear hR hcm
            go_wp2_with (go_at_call 35; refine hc1.mono ?_; rintro r V3 ⟨rfl, hp3, hk3⟩)
            go_ret
            exact (HV2.out.step hXV2 hXB hk3).done (ret_int HR3.out.symm) (fun h => absurd (HR3.out.symm.trans h) (by decide))
          | some ps1 =>
            rw [hcm] at hR hc1
            dsimp only at hR
            rw [if_neg hnj] at hR
            have HR3 := Lib.hid hR
            clear hR hcm
            go_wp2_with (go_at_call 35; refine hc1.mono ?_; rintro r V3 ⟨rfl, hp3, hk3⟩)
            go_ret
            exact (HV2.out.step hXV2 hXB hk3).done (ret_int (by rw [HR3.out])) (fun _ => by rw [HR3.out]; exact ⟨hp3, rfl⟩)
end Go.Proofs.YtknfcamdfdfoeaaDoor

/- Images, and the bytes in which they are laid down. No program of Go in sight. -/
namespace Go.Proofs.YtknfcamdfdfoeaaDoor
open Go.RowKit

/-- An image: its version, the one from which Move leads, how many cells that one has, the frame, the first memory, the codes, their bounds. -/
structure Im where
  ver : Int
  fro : Int
  eld : Int
  fr : Fr
  first : List Int
  step : List (Int × Int)
  move : List (Int × Int)
  sf : Int
  mf : Int
def Fr.zero : Fr := ⟨0, 0, 0, 0, 0⟩
def Im.zero : Im := ⟨0, 0, 0, Fr.zero, [], [], [], 0, 0⟩
/-- What is wrong of a code that has a bound. -/
def boundF (c : List (Int × Int)) (f : Fr) (fuel : Int) : Int := if (judgeF c f).2.1 = 0 ∧ (judgeF c f).1.2 ≠ fuel then 14 else (judgeF c f).2.1
def Im.moves (m : Im) : Fr := ⟨0, m.eld, m.fr.n, 0, 0⟩
/-- What is wrong of an image. -/
def Im.wrong (m : Im) : Int :=
  if m.ver = 0 ∨ m.ver ≤ m.fro ∨ m.eld < 0 ∨ 16 < m.eld then 1
  else if m.fr.o ≠ m.fr.n ∨ (m.first.length : Int) ≠ m.fr.n then 1
  else if m.fro = 0 ∧ (0 < m.eld ∨ 0 < m.move.length) then 1
  else if boundF m.step m.fr m.sf ≠ 0 then boundF m.step m.fr m.sf
  else boundF m.move m.moves m.mf

/-- An image's bytes up to the runs. -/
def imHead (m : Im) : List Int :=
  [77, 73, 68, 83] ++ leB 4 m.ver.toNat ++ leB 4 m.fro.toNat ++ leB 1 m.eld.toNat ++ leB 1 m.fr.s.toNat ++ leB 1 m.fr.n.toNat ++ leB 1 m.fr.i.toNat ++ leB 1 m.fr.u.toNat ++ leB 2 m.sf.toNat ++ leB 2 m.mf.toNat
def bytesF (m : Im) : List Int := imHead m ++ runB (wordsB m.first) ++ runB (insBL m.step) ++ runB (insBL m.move)
def encE (m : Im) : List Int × Int := if m.wrong ≠ 0 then ([], m.wrong) else if 2016 < (bytesF m).length then ([], 3) else (bytesF m, 0)

/-- What the judge accepts is of a good frame and not too long; its bound is no more than its length. -/
theorem goJ_ok {f : Fr} {n : Nat} : ∀ (c : List (Int × Int)) (k : Nat) (ps : List Pl) (dep : Int), PlOK k n dep ps → (goJ f n k c ps dep).2.1 = 0 →
    (∀ i ∈ c, rightF i = 0) ∧ 0 ≤ (goJ f n k c ps dep).1.1 ∧ (goJ f n k c ps dep).1.1 ≤ 16 ∧ 0 ≤ (goJ f n k c ps dep).1.2 ∧ (goJ f n k c ps dep).1.2 ≤ ((k + c.length : Nat) : Int)
  | [], k, ps, dep, h, h0 => by
    rw [goJ] at h0 ⊢
    have hg := h.get n
    have hd := h.dep0
    split at h0
    · exact absurd (show (12 : Int) = 0 from h0) (by decide)
    · rename_i hz
      rw [if_neg hz]
      exact ⟨by simp, hd.1, hd.2, hg.2.2.1, by simpa using hg.2.2.2.1⟩
  | i :: c, k, ps, dep, h, h0 => by
    rw [goJ] at h0 ⊢
    by_cases h1 : (oneF f k i ps dep).1 ≠ 0
    · rw [if_pos h1] at h0
      exact absurd h0 h1
    · rw [if_neg h1] at h0 ⊢
      have h2 : (oneF f k i ps dep).1 = 0 := by simpa using h1
      obtain ⟨g1, g2, g3, g4, g5⟩ := goJ_ok c (k + 1) _ _ (h.one h2) h0
      refine ⟨fun j hj => ?_, g2, g3, g4, by rw [List.length_cons]; omega⟩
      rcases List.mem_cons.1 hj with rfl | hj
      · unfold oneF at h2
        split at h2
        · exact h2
        · rename_i hh; simpa using hh
      · exact g1 j hj
theorem judgeF_ok {c : List (Int × Int)} {f : Fr} (h : (judgeF c f).2.1 = 0) : f.good = true ∧ c.length ≤ 600 ∧ (∀ i ∈ c, rightF i = 0) ∧ 0 ≤ (judgeF c f).1.1 ∧ (judgeF c f).1.1 ≤ 16 ∧ 0 ≤ (judgeF c f).1.2 ∧ (judgeF c f).1.2 ≤ (c.length : Int) := by
  unfold judgeF at h ⊢
  by_cases h1 : f.good = false
  · rw [if_pos h1] at h; exact absurd h (by decide)
  · rw [if_neg h1] at h ⊢
    by_cases h2 : 600 < c.length
    · rw [if_pos h2] at h; exact absurd h (by decide)
    · rw [if_neg h2] at h ⊢
      obtain ⟨g1, g2⟩ := goJ_ok c 0 _ _ (PlOK.start c.length) h
      exact ⟨by simpa using h1, by omega, g1, by simpa using g2⟩
theorem Fr.good_iff {f : Fr} : f.good = true ↔ (0 ≤ f.s ∧ f.s ≤ 24) ∧ (0 ≤ f.o ∧ f.o ≤ 16) ∧ (0 ≤ f.n ∧ f.n ≤ 16) ∧ (0 ≤ f.i ∧ f.i ≤ 8) ∧ (0 ≤ f.u ∧ f.u ≤ 8) := by
  unfold Fr.good inB
  simp [and_assoc]
/-- What is known of an image of which nothing is wrong. -/
structure Im.Right (m : Im) : Prop where
  ver : m.ver ≠ 0 ∧ m.fro < m.ver
  eld : 0 ≤ m.eld ∧ m.eld ≤ 16
  fr : m.fr.good = true
  old : m.fr.o = m.fr.n ∧ (m.first.length : Int) = m.fr.n
  step : m.step.length ≤ 600 ∧ (∀ i ∈ m.step, rightF i = 0) ∧ 0 ≤ m.sf ∧ m.sf ≤ 600
  move : m.move.length ≤ 600 ∧ (∀ i ∈ m.move, rightF i = 0) ∧ 0 ≤ m.mf ∧ m.mf ≤ 600
theorem boundF_ok {c : List (Int × Int)} {f : Fr} {fuel : Int} (h : boundF c f fuel = 0) : f.good = true ∧ c.length ≤ 600 ∧ (∀ i ∈ c, rightF i = 0) ∧ 0 ≤ fuel ∧ fuel ≤ 600 := by
  unfold boundF at h
  split at h
  · exact absurd h (by decide)
  · rename_i hn
    obtain ⟨g1, g2, g3, g4, g5, g6, g7⟩ := judgeF_ok h
    have : (judgeF c f).1.2 = fuel := by
      by_cases he : (judgeF c f).1.2 = fuel
      · exact he
      · exact absurd ⟨h, he⟩ hn
    exact ⟨g1, g2, g3, by omega, by omega⟩
theorem Im.right {m : Im} (h : m.wrong = 0) : m.Right := by
  unfold Im.wrong at h
  split at h
  · exact absurd h (by decide)
  split at h
  · exact absurd h (by decide)
  split at h
  · exact absurd h (by decide)
  split at h
  · rename_i hn; exact absurd h hn
  · rename_i h1 h2 h3 h4
    obtain ⟨a1, a2, a3, a4, a5⟩ := boundF_ok (by simpa using h4)
    obtain ⟨b1, b2, b3, b4, b5⟩ := boundF_ok h
    exact ⟨by omega, by omega, a1, by omega, ⟨a2, a3, a4, a5⟩, ⟨b2, b3, b4, b5⟩⟩
theorem imHead_len (m : Im) : (imHead m).length = 21 := by simp [imHead, leB_len]
theorem bytesF_len (m : Im) : (bytesF m).length = 27 + 4 * m.first.length + (insBL m.step).length + (insBL m.move).length := by
  simp [bytesF, runB, imHead_len, leB_len, wordsB_len]; omega

/-- The image of a program: the image, and the fault. -/
def frOf (p : Pr) : Fr := ⟨(varsOf p).length, (cellsL p).length, (cellsL p).length, p.ins.length, p.outs.length⟩
def imOf (p : Pr) (v : Int) : Im := ⟨v, 0, 0, frOf p, (cellsL p).map (·.first), codeL p, [], (judgeF (codeL p) (frOf p)).1.2, 0⟩
def imE (p : Pr) (v : Int) : Im × (Int × Int × Int) :=
  if (codeE p).2.2 ≠ (0, 0, 0) then (Im.zero, (codeE p).2.2)
  else if v = 0 then (Im.zero, (4, 0, 1))
  else if (encE (imOf p v)).2 ≠ 0 then (Im.zero, (4, 0, (encE (imOf p v)).2))
  else (imOf p v, (0, 0, 0))
end Go.Proofs.YtknfcamdfdfoeaaDoor
