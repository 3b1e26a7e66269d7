/- Walks over mean's Cells, First. -/
import Derived.Test.YtknfcamdfdfoeaaDoorZ29
import Derived.BigRegion
import Derived.Test.YtknfcamdfdfoeaaDoorZ26
import Derived.Test.YtknfcamdfdfoeaaDoorZ20
import Derived.Test.YtknfcamdfdfoeaaDoorZ25
set_option linter.unusedVariables false
set_option linter.unusedSimpArgs false
set_option maxRecDepth 100000
namespace Go.Proofs.YtknfcamdfdfoeaaDoor
open Go.RowKit Go.Sort Go.Maps Go.ChangeMaps Go.WideMaps

theorem startF_E {p : Pr} (h : startF p ≠ (0, 0, 0)) : (cellsE p) = ([], startF p) := by unfold cellsE; rw [if_neg h]
theorem CesAt.of_own {w : World} {base : Nat} {e : TypeId} {l : List Ce} {v : Value} (h : w.ownsRow base e 4 v l.length (cesC l)) : ∃ A cap, v = .slice A l.length cap ∧ CesAt w l A cap := by
  obtain ⟨A, cap, rfl, h1, h2⟩ := own_slice h
  refine ⟨A, cap, rfl, h1, h2, cesC_len l, fun hm => ?_⟩
  obtain ⟨g, c', hv, _, _, _, _, hc⟩ := own_get h hm
  injection hv with e1 e2 e3
  subst e1
  exact ⟨g, 0, rfl, fun j u hj => by rw [Nat.zero_add]; exact hc j u hj⟩

set_option maxHeartbeats 2000000 in
theorem cells18_no (p : Pr) (a : PrA) (w : World) (f : Int × Int × Int) (hlook : ∀ W, Below w.heap.size w W → Calls Tryd.prog 25 #[prV p a] W fun r w' => r = .returned (.tuple #[.pointer none, fV f]) ∧ Below W.heap.size W w') :
    Calls Tryd.prog 12 #[prV p a] w fun r w' => r = .returned (.tuple #[.slice none 0 0, fV f]) ∧ Below w.heap.size w w' := by
  obtain ⟨A1, c1, A2, c2, A3, c3, A4, c4⟩ := a
  obtain ⟨k1, k2, k3⟩ := f
  unfold prV fV at *
  dsimp only at *
  go_enter Tryd.func12, Tryd.ntmps12
  go_wp2_with (first | (go_at_call 25; refine (hlook _ belA).mono ?_; rintro r wa ⟨rfl, hba⟩; have hca := bcell hba; have hfa := bfrozen hba; have hza : w.heap.size + 2 ≤ wa.heap.size := (by have := hba.size; simpa using this); have hya : w.heap.size < wa.heap.size := (by omega); have hya1 : w.heap.size + 1 < wa.heap.size := (by omega)))
  go_region
  all_goals
    go_wp2_with fail
    refine bodyPost_ret (v := .tuple #[.slice none 0 0, .agg #[.int .i64 k1, .int .i64 k2, .int .i64 k3]]) (by simp [results, Tryd.results12, go_sem, *]) rfl ⟨rfl, ?_⟩
    (repeat refine bel_drew ?_)
    exact belS

set_option maxHeartbeats 4000000 in
theorem cells18_ok (p : Pr) (a : PrA) (w : World) (hlook : ∀ W, Below w.heap.size w W → Calls Tryd.prog 25 #[prV p a] W fun r w' => (∃ X v, r = .returned (.tuple #[.pointer (some ⟨X, 0, none⟩), fV (0, 0, 0)]) ∧ w'.cell? ⟨X, 6, none⟩ = some v ∧ w'.ownsRow W.heap.size 78 4 v (cellsL p).length (cesC (cellsL p))) ∧ Below W.heap.size W w') :
    Calls Tryd.prog 12 #[prV p a] w fun r w' => (∃ v, r = .returned (.tuple #[v, fV (0, 0, 0)]) ∧ w'.ownsRow w.heap.size 78 4 v (cellsL p).length (cesC (cellsL p))) ∧ Below w.heap.size w w' := by
  obtain ⟨A1, c1, A2, c2, A3, c3, A4, c4⟩ := a
  unfold prV fV at *
  dsimp only at *
  go_enter Tryd.func12, Tryd.ntmps12
  go_wp2_with (first | (go_at_call 25; refine (hlook _ belA).mono ?_; rintro r wa ⟨⟨X, v, rfl, hX6, hown⟩, hba⟩; obtain ⟨Ac, cc, rfl, hac1, hac2⟩ := own_slice hown; have hXl := block_lt_of_cell hX6; have hca := bcell hba; have hfa := bfrozen hba; have hza : w.heap.size + 2 ≤ wa.heap.size := (by have := hba.size; simpa using this); have hya : w.heap.size < wa.heap.size := (by omega); have hya1 : w.heap.size + 1 < wa.heap.size := (by omega)))
  refine wp_name fun W0 hW0 => ?_
  have hb0 : Below w.heap.size w W0 := by rw [hW0]; exact belA
  have hba0 : Below wa.heap.size wa W0 := by rw [hW0]; exact belA
  have x6 := bel_cell hba0 hX6
  have g0 : W0.cell? ⟨w.heap.size + 1, 0, none⟩ = some (.int .i64 0) := bel_cell hba0 (by rw [hca _ _ (by simp)]; go_simp)
  have g1 : W0.cell? ⟨w.heap.size + 1, 1, none⟩ = some (.int .i64 0) := bel_cell hba0 (by rw [hca _ _ (by simp)]; go_simp)
  have g2 : W0.cell? ⟨w.heap.size + 1, 2, none⟩ = some (.int .i64 0) := bel_cell hba0 (by rw [hca _ _ (by simp)]; go_simp)
  have f0 : W0.frozen? ⟨w.heap.size + 1, 0, none⟩ = false := (bfrozen hba0 _ _ hya1).trans ((hfa _ _ (by simp)).trans (by go_simp))
  have f1 : W0.frozen? ⟨w.heap.size + 1, 1, none⟩ = false := (bfrozen hba0 _ _ hya1).trans ((hfa _ _ (by simp)).trans (by go_simp))
  have f2 : W0.frozen? ⟨w.heap.size + 1, 2, none⟩ = false := (bfrozen hba0 _ _ hya1).trans ((hfa _ _ (by simp)).trans (by go_simp))
  have e0 : W0.cell? ⟨wa.heap.size, 0, none⟩ = some (.int .i64 0) := by rw [hW0]; go_simp
  have e1 : W0.cell? ⟨wa.heap.size, 1, none⟩ = some (.int .i64 0) := by rw [hW0]; go_simp
  have e2 : W0.cell? ⟨wa.heap.size, 2, none⟩ = some (.int .i64 0) := by rw [hW0]; go_simp
  have hob : ∀ b, (Value.slice Ac (cellsL p).length cc).ownBlock = some b → b ≠ w.heap.size + 1 := fun b hb he => by have := (hown.lt b hb).1; simp at this; omega
  have HOW := Lib.hid (own_bel (own_less hown (B' := w.heap.size) (by simp; omega)) hba0)
  clear hW0 hca hfa hba hba0 hX6 hown
  go_region
  all_goals
    go_wp2_with fail
    refine bodyPost_ret (v := .tuple #[.slice Ac (cellsL p).length cc, .agg #[.int .i64 0, .int .i64 0, .int .i64 0]]) (by simp [results, Tryd.results12, go_sem, *]) rfl ?_
    refine ⟨⟨_, rfl, own_apart (own_apart (own_apart HOW.out hob 0 _) hob 1 _) hob 2 _⟩, ?_⟩
    (repeat refine bel_drew ?_)
    exact belS
theorem look_no (p : Pr) (a : PrA) (w : World) (hg : Always w) (hp : PrAt w p a) (hok : PrOK p) (n1 : p.ins.length ≤ 1000000) (n2 : p.outs.length ≤ 1000000) (n3 : p.locals.length ≤ 1000000) (n4 : p.eqs.length ≤ 1000000) (hf : (cellsE p).2 ≠ (0, 0, 0)) :
    Calls Tryd.prog 25 #[prV p a] w fun r w' => r = .returned (.tuple #[.pointer none, fV (cellsE p).2]) ∧ Below w.heap.size w w' := by
  by_cases hS : startF p = (0, 0, 0)
  · have hbig : 16 < (cellsL p).length := by
      by_cases hb : 16 < (cellsL p).length
      · exact hb
      · exact absurd (by unfold cellsE; rw [if_pos hS, if_neg hb]) hf
    refine (look_clean p a w hg hp hok n1 n2 n3 n4 hS).mono fun r w' h => ?_
    unfold LookR at h
    rw [if_pos hbig] at h
    rw [show (cellsE p).2 = (4, 0, 3) by unfold cellsE; rw [if_pos hS, if_pos hbig]]
    exact h
  · rw [startF_E hS]
    exact look_fault p a w hg hp hok n1 n2 n3 n4 hS
theorem look_yes (p : Pr) (a : PrA) (w : World) (hg : Always w) (hp : PrAt w p a) (hok : PrOK p) (n1 : p.ins.length ≤ 1000000) (n2 : p.outs.length ≤ 1000000) (n3 : p.locals.length ≤ 1000000) (n4 : p.eqs.length ≤ 1000000) (hS : startF p = (0, 0, 0)) (hb : ¬ 16 < (cellsL p).length) :
    Calls Tryd.prog 25 #[prV p a] w fun r w' => (∃ X v, r = .returned (.tuple #[.pointer (some ⟨X, 0, none⟩), fV (0, 0, 0)]) ∧ w'.cell? ⟨X, 6, none⟩ = some v ∧ w'.ownsRow w.heap.size 78 4 v (cellsL p).length (cesC (cellsL p))) ∧ Below w.heap.size w w' := by
  refine (look_clean p a w hg hp hok n1 n2 n3 n4 hS).mono fun r w' h => ?_
  unfold LookR at h
  rw [if_neg hb] at h
  exact h
theorem cellsE_cases (p : Pr) : ((cellsE p).2 ≠ (0, 0, 0) ∧ (cellsE p).1 = []) ∨ (startF p = (0, 0, 0) ∧ ¬ 16 < (cellsL p).length ∧ cellsE p = (cellsL p, (0, 0, 0))) := by
  unfold cellsE
  split
  · split
    · exact .inl ⟨by simp, rfl⟩
    · rename_i h1 h2; exact .inr ⟨h1, h2, rfl⟩
  · rename_i h; exact .inl ⟨h, rfl⟩
theorem cells18_any (p : Pr) (a : PrA) (w : World) (hg : Always w) (hp : PrAt w p a) (hok : PrOK p) (n1 : p.ins.length ≤ 1000000) (n2 : p.outs.length ≤ 1000000) (n3 : p.locals.length ≤ 1000000) (n4 : p.eqs.length ≤ 1000000) :
    Calls Tryd.prog 12 #[prV p a] w fun r w' => (∃ v, r = .returned (.tuple #[v, fV (cellsE p).2]) ∧ w'.ownsRow w.heap.size 78 4 v (cellsE p).1.length (cesC (cellsE p).1)) ∧ Below w.heap.size w w' := by
  rcases cellsE_cases p with ⟨h1, h2⟩ | ⟨h1, h2, h3⟩
  · refine (cells18_no p a w _ fun W hb => look_no p a W (hg.later hb) (hp.later hb) hok n1 n2 n3 n4 h1).mono ?_
    rintro r w' ⟨rfl, hb⟩
    rw [h2]
    exact ⟨⟨_, rfl, World.ownsRow_nil _ _ _ _⟩, hb⟩
  · rw [h3]
    exact cells18_ok p a w fun W hb => look_yes p a W (hg.later hb) (hp.later hb) hok n1 n2 n3 n4 h1 h2

theorem i32info : (Tryd.prog.info? 21).map (fun i => (i.zero, i.size, i.bytes)) = some (some (.int .i32 0), 1, 4) := by kernel_rfl
set_option maxHeartbeats 4000000 in
theorem first18_any (p : Pr) (a : PrA) (w : World) (hg : Always w) (hp : PrAt w p a) (hok : PrOK p) (n1 : p.ins.length ≤ 1000000) (n2 : p.outs.length ≤ 1000000) (n3 : p.locals.length ≤ 1000000) (n4 : p.eqs.length ≤ 1000000) :
    Calls Tryd.prog 21 #[prV p a] w fun r w' => (∃ v, r = .returned (.tuple #[v, fV (cellsE p).2]) ∧ w'.ownsRow w.heap.size 21 1 v (cellsE p).1.length ((cellsE p).1.map (fun c => .int .i32 c.first))) ∧ Below w.heap.size w w' := by
  have hcells := fun W h => cells18_any p a W (hg.later h) (hp.later h) hok n1 n2 n3 n4
  have hl : (cellsE p).1.length ≤ 16 := by
    rcases cellsE_cases p with ⟨h1, h2⟩ | ⟨h1, h2, h3⟩
    · rw [h2]; simp
    · rw [h3]; dsimp only; omega
  obtain ⟨A1, c1, A2, c2, A3, c3, A4, c4⟩ := a
  generalize (cellsE p).1 = cl at *
  generalize (cellsE p).2 = cf at *
  obtain ⟨k1, k2, k3⟩ := cf
  unfold prV fV at *
  dsimp only at *
  clear hg hp hok
  go_enter Tryd.func21, Tryd.ntmps21
  go_wp2_with (first | (go_at_call 12; refine (hcells _ belA).mono ?_; rintro r wa ⟨⟨v, rfl, hown⟩, hba⟩; obtain ⟨Ac, cc, rfl, hac1, hac2⟩ := own_slice hown; have hca := bcell hba; have hfa := bfrozen hba; have hza : w.heap.size + 2 ≤ wa.heap.size := (by have := hba.size; simpa using this); have hya : w.heap.size < wa.heap.size := (by omega); have hya1 : w.heap.size + 1 < wa.heap.size := (by omega)))
  refine wp_name fun W0 hW0 => ?_
  have hb0 : Below w.heap.size w W0 := by rw [hW0]; exact belA
  have hba0 : Below wa.heap.size wa W0 := by rw [hW0]; exact belA
  have hz0 : w.heap.size + 3 ≤ W0.heap.size := by rw [hW0]; simp; omega
  unfold maxLen at hac2
  have hces : CesAt W0 cl Ac cc := by
    obtain ⟨A', cap', hv, hat⟩ := CesAt.of_own (own_bel hown hba0)
    injection hv with e1 e2 e3
    subst e1 e3
    exact hat
  have g0 : W0.cell? ⟨w.heap.size + 1, 0, none⟩ = some (.int .i64 0) := bel_cell hba0 (by rw [hca _ _ (by simp)]; go_simp)
  have g1 : W0.cell? ⟨w.heap.size + 1, 1, none⟩ = some (.int .i64 0) := bel_cell hba0 (by rw [hca _ _ (by simp)]; go_simp)
  have g2 : W0.cell? ⟨w.heap.size + 1, 2, none⟩ = some (.int .i64 0) := bel_cell hba0 (by rw [hca _ _ (by simp)]; go_simp)
  have f0 : W0.frozen? ⟨w.heap.size + 1, 0, none⟩ = false := (bfrozen hba0 _ _ hya1).trans ((hfa _ _ (by simp)).trans (by go_simp))
  have f1 : W0.frozen? ⟨w.heap.size + 1, 1, none⟩ = false := (bfrozen hba0 _ _ hya1).trans ((hfa _ _ (by simp)).trans (by go_simp))
  have f2 : W0.frozen? ⟨w.heap.size + 1, 2, none⟩ = false := (bfrozen hba0 _ _ hya1).trans ((hfa _ _ (by simp)).trans (by go_simp))
  have e0 : W0.cell? ⟨wa.heap.size, 0, none⟩ = some (.int .i64 k1) := by rw [hW0]; go_simp
  have e1 : W0.cell? ⟨wa.heap.size, 1, none⟩ = some (.int .i64 k2) := by rw [hW0]; go_simp
  have e2 : W0.cell? ⟨wa.heap.size, 2, none⟩ = some (.int .i64 k3) := by rw [hW0]; go_simp
  have hze : wa.heap.size < W0.heap.size := by rw [hW0]; simp
  have hinf := i32info
  clear hW0 hca hfa hba hba0 hown hcells
  go_loopw [6, 16] (fun v i wr => ∃ (k : Nat), k ≤ cl.length ∧ i = .int .i64 k ∧ Hid (wr.ownsRow W0.heap.size 21 1 v k ((cl.take k).map (fun c => .int .i32 c.first))) ∧ Below W0.heap.size W0 wr) (fun _ i _ => cl.length - (intOf i).toNat)
  case atStart => exact ⟨0, Nat.zero_le _, rfl, Lib.hid (World.ownsRow_nil _ _ _ _), Below.refl _ _⟩
  case round =>
    obtain ⟨k, hk, rfl, hown, hbel⟩ := hrel
    have hzr := hbel.size
    by_cases hlt : k < cl.length
    · have hx : cl[k]? = some cl[k] := List.getElem?_eq_getElem hlt
      have htk : cl.take (k + 1) = cl.take k ++ [cl[k]] := by rw [List.take_succ_eq_append_getElem hlt]
      generalize cl[k] = x at hx htk
      obtain ⟨b, off, rfl, hcc⟩ := (hces.later hbel).2.2.2 (by omega)
      have hat := cesC_at cl k x hx
      have d0 : wr.cell? ⟨b, off + k * 4, none⟩ = some (.string x.name) := hcc _ _ hat.1
      have d1 : wr.cell? ⟨b, off + k * 4 + 1, none⟩ = some (.int .i64 x.ck) := hcc _ _ hat.2.1
      have d2 : wr.cell? ⟨b, off + k * 4 + 2, none⟩ = some (.string x.cn) := hcc _ _ hat.2.2.1
      have d3 : wr.cell? ⟨b, off + k * 4 + 3, none⟩ = some (.int .i32 x.first) := hcc _ _ hat.2.2.2
      have HTK := Lib.hid htk
      clear hx htk hcc hat
      go_wp2_with (at_builtin; go_loud (refine wpList_app rfl (.tmp 20) (.tmp 23) 41 rfl W0.heap.size 21 _ 1 4 Tryd.underlying41 hinf rfl (by omega) _ k _ _ 1 [.int .i32 x.first] rfl (own_alloc (own_alloc hown.out)) rfl rfl (fun j u hj => by rw [cell_new' (by simp)]; simpa using hj) (by simp [Value.oneCell']) (by omega) (by omega) (by simp; omega) ?_; intro v2 w2 hown2 hb2; have HO2 := Lib.hid hown2; clear hown2))
      go_roundw
      case rel => exact ⟨k + 1, by omega, by go_num, Lib.hid (by rw [HTK.out, List.map_append]; exact HO2.out), belA⟩
      case measure => simp [intOf]; omega
    · obtain rfl : k = cl.length := by omega
      have hown := hown.out
      rw [List.take_length] at hown
      obtain ⟨Ae, ce, rfl, hce1, hce2⟩ := own_slice hown
      have g0' := bel_cell hbel g0
      have g1' := bel_cell hbel g1
      have g2' := bel_cell hbel g2
      have e0' := bel_cell hbel e0
      have e1' := bel_cell hbel e1
      have e2' := bel_cell hbel e2
      have f0' := (bfrozen hbel _ 0 (by omega)).trans f0
      have f1' := (bfrozen hbel _ 1 (by omega)).trans f1
      have f2' := (bfrozen hbel _ 2 (by omega)).trans f2
      have hob : ∀ b, (Value.slice Ae cl.length ce).ownBlock = some b → b ≠ w.heap.size + 1 := fun b hb he => by have := (hown.lt b hb).1; omega
      have HOW := Lib.hid (own_less hown (B' := w.heap.size) (by omega))
      have hbw : Below w.heap.size w wr := bel_trans hb0 hbel
      clear hown
      go_wp2_with fail
      go_region
      all_goals
        go_wp2_with fail
        refine bodyPost_ret (v := .tuple #[.slice Ae cl.length ce, .agg #[.int .i64 k1, .int .i64 k2, .int .i64 k3]]) (by simp [results, Tryd.results21, go_sem, *]) rfl ?_
        refine ⟨⟨_, rfl, own_apart (own_apart (own_apart HOW.out hob 0 _) hob 1 _) hob 2 _⟩, ?_⟩
        (repeat refine bel_drew ?_)
        exact belS
end Go.Proofs.YtknfcamdfdfoeaaDoor

/- The pieces of a program's code, one behind the other; how long they are. No program of Go in sight. -/
namespace Go.Proofs.YtknfcamdfdfoeaaDoor
open Go.RowKit

section
variable (sl : ByteArray → Int) (fl : Int × ByteArray → Int) (L : List Va)
theorem insC_snoc (v : Va) : ∀ (l : List Va) (i : Nat), insC sl i (l ++ [v]) = insC sl i l ++ [(6, ((i + l.length : Nat) : Int)), (3, sl v.name)]
  | [], i => by simp [insC]
  | u :: l, i => by rw [List.cons_append, insC, insC, insC_snoc v l (i + 1), List.length_cons, List.append_assoc, show i + 1 + l.length = i + (l.length + 1) from by omega]
theorem oldC_snoc (q : Qe) : ∀ (l : List Qe) (i : Nat), oldC sl i (l ++ [q]) = oldC sl i l ++ [(4, ((i + l.length : Nat) : Int)), (3, sl q.name)]
  | [], i => by simp [oldC]
  | u :: l, i => by rw [List.cons_append, oldC, oldC, oldC_snoc q l (i + 1), List.length_cons, List.append_assoc, show i + 1 + l.length = i + (l.length + 1) from by omega]
theorem newC_snoc (q : Qe) : ∀ (l : List Qe) (i : Nat), newC sl fl L i (l ++ [q]) = newC sl fl L i l ++ underC sl (clockL L q.name) (q.e.gen sl fl (clockL L q.name) ++ [(5, ((i + l.length : Nat) : Int))])
  | [], i => by simp [newC]
  | u :: l, i => by rw [List.cons_append, newC, newC, newC_snoc q l (i + 1), List.length_cons, List.append_assoc, show i + 1 + l.length = i + (l.length + 1) from by omega]
theorem flgC_snoc (c : Ce) : ∀ (l : List Ce) (i : Nat), flgC sl i (l ++ [c]) = flgC sl i l ++ underC sl (c.ck, c.cn) [(1, 1), (5, ((i + l.length : Nat) : Int))]
  | [], i => by simp [flgC]
  | u :: l, i => by rw [List.cons_append, flgC, flgC, flgC_snoc c l (i + 1), List.length_cons, List.append_assoc, show i + 1 + l.length = i + (l.length + 1) from by omega]
theorem outC_snoc (v : Va) : ∀ (l : List Va) (i : Nat), outC sl i (l ++ [v]) = outC sl i l ++ [(2, sl v.name), (7, ((i + l.length : Nat) : Int))]
  | [], i => by simp [outC]
  | u :: l, i => by rw [List.cons_append, outC, outC, outC_snoc v l (i + 1), List.length_cons, List.append_assoc, show i + 1 + l.length = i + (l.length + 1) from by omega]
theorem ordC_snoc (eqs : List Qe) (j : Int) : ∀ l : List Int, ordC sl fl L eqs (l ++ [j]) = ordC sl fl L eqs l ++ ordC sl fl L eqs [j]
  | [] => by simp [ordC]
  | u :: l => by rw [List.cons_append, ordC, ordC_snoc eqs j l]; conv => rhs; rw [ordC]
                 rw [List.append_assoc]
theorem ordC_one (eqs : List Qe) (k : Nat) (q : Qe) (h : eqs[k]? = some q) : ordC sl fl L eqs [(k : Int)] = underC sl (clockL L q.name) (q.e.gen sl fl (clockL L q.name) ++ [(3, sl q.name)]) := by
  rw [ordC, ordC, show ((k : Int)).toNat = k from by omega, h, List.append_nil]
theorem under_len (c : Int × ByteArray) (x : List (Int × Int)) : (underC sl c x).length ≤ x.length + 3 := by
  unfold underC
  repeat' split
  all_goals simp
theorem insC_len : ∀ (l : List Va) (i : Nat), (insC sl i l).length = 2 * l.length
  | [], i => rfl
  | u :: l, i => by rw [insC, List.length_append, insC_len l (i + 1), List.length_cons]; simp; omega
theorem oldC_len : ∀ (l : List Qe) (i : Nat), (oldC sl i l).length = 2 * l.length
  | [], i => rfl
  | u :: l, i => by rw [oldC, List.length_append, oldC_len l (i + 1), List.length_cons]; simp; omega
theorem outC_len : ∀ (l : List Va) (i : Nat), (outC sl i l).length = 2 * l.length
  | [], i => rfl
  | u :: l, i => by rw [outC, List.length_append, outC_len l (i + 1), List.length_cons]; simp; omega
theorem newC_len : ∀ (l : List Qe) (i : Nat), (∀ q ∈ l, ∀ c, (q.e.gen sl fl c).length ≤ 360) → (newC sl fl L i l).length ≤ 364 * l.length
  | [], i, _ => by simp [newC]
  | u :: l, i, h => by
    have h1 := newC_len l (i + 1) fun q hq => h q (by simp [hq])
    have h2 := under_len sl (clockL L u.name) (u.e.gen sl fl (clockL L u.name) ++ [(5, (i : Int))])
    have h3 := h u (by simp) (clockL L u.name)
    rw [newC, List.length_append, List.length_cons]
    simp only [List.length_append, List.length_cons, List.length_nil] at h2
    omega
theorem flgC_len : ∀ (l : List Ce) (i : Nat), (flgC sl i l).length ≤ 5 * l.length
  | [], i => by simp [flgC]
  | u :: l, i => by
    have h1 := flgC_len l (i + 1)
    have h2 := under_len sl (u.ck, u.cn) [(1, 1), (5, (i : Int))]
    rw [flgC, List.length_append, List.length_cons]
    simp only [List.length_cons, List.length_nil] at h2
    omega
theorem ordC_len (eqs : List Qe) (h : ∀ q ∈ eqs, ∀ c, (q.e.gen sl fl c).length ≤ 360) : ∀ l : List Int, (ordC sl fl L eqs l).length ≤ 364 * l.length
  | [] => by simp [ordC]
  | j :: l => by
    have h1 := ordC_len eqs h l
    rw [ordC, List.length_append, List.length_cons]
    cases hq : eqs[j.toNat]? with
    | none => simp; omega
    | some q =>
      have h2 := under_len sl (clockL L q.name) (q.e.gen sl fl (clockL L q.name) ++ [(3, sl q.name)])
      have h3 := h q (List.mem_of_getElem? hq) (clockL L q.name)
      simp only [List.length_append, List.length_cons, List.length_nil] at h2
      simp only
      omega
end
theorem delayed_snoc (l : List Qe) (q : Qe) : delayed (l ++ [q]) = delayed l ++ (if (q.delay != 0) = true then [q] else []) := by
  unfold delayed
  rw [List.filter_append]
  congr 1
  rw [List.filter_cons]
  split <;> simp_all
end Go.Proofs.YtknfcamdfdfoeaaDoor

/- What the judge tells of a code. No program of Go in sight. -/
namespace Go.Proofs.YtknfcamdfdfoeaaDoor
open Go.RowKit

/-- A frame: slots, old cells, new cells, inputs, outputs. -/
structure Fr where
  s : Int
  o : Int
  n : Int
  i : Int
  u : Int
def inB (n m : Int) : Bool := decide (0 ≤ n) && decide (n ≤ m)
def Fr.good (f : Fr) : Bool := inB f.s 24 && inB f.o 16 && inB f.n 16 && inB f.i 8 && inB f.u 8
/-- How many bytes an operation's number has. -/
def insW (op : Int) : Int := if op = 1 then 4 else if op = 10 ∨ op = 11 then 2 else if 1 < op ∧ op < 10 then 1 else 0
/-- What is wrong of an instruction. -/
def rightF (i : Int × Int) : Int :=
  if insW i.1 = 0 then 9
  else if insW i.1 = 4 then 0
  else if i.1 = 8 ∧ (i.2 < 1 ∨ 2 < i.2) then 9
  else if i.1 = 9 ∧ (i.2 < 1 ∨ 16 < i.2) then 9
  else if insW i.1 = 2 ∧ (i.2 < 0 ∨ 65535 < i.2) then 10
  else if insW i.1 = 1 ∧ (i.2 < 0 ∨ 255 < i.2) then 10
  else 0
def takesF (op : Int) : Int := if op = 3 ∨ op = 5 ∨ op = 7 ∨ op = 8 ∨ op = 11 then 1 else if op = 9 then 2 else 0
def givesF (op : Int) : Int := if op = 1 ∨ op = 2 ∨ op = 4 ∨ op = 6 ∨ op = 8 ∨ op = 9 then 1 else 0
def roomF (op : Int) (f : Fr) : Int := if op = 2 ∨ op = 3 then f.s else if op = 4 then f.o else if op = 5 then f.n else if op = 6 then f.i else if op = 7 then f.u else -1

/-- A place: did a way lead there, the depth, the steps at most. -/
structure Pl where
  met : Bool
  d : Int
  f : Int
def Pl.no : Pl := ⟨false, 0, 0⟩
/-- A way comes to a place. -/
def comeF (ps : List Pl) (to : Nat) (d f : Int) : Option (List Pl) :=
  match ps[to]? with
  | none => none
  | some p => if p.met = true then if p.d = d then some (ps.set to ⟨true, p.d, max p.f f⟩) else none else some (ps.set to ⟨true, d, f⟩)
/-- One instruction: the fault, the places, the depth. -/
def oneF (f : Fr) (at_ : Nat) (i : Int × Int) (ps : List Pl) (dep : Int) : Int × List Pl × Int :=
  if rightF i ≠ 0 then (rightF i, ps, dep)
  else if 0 ≤ roomF i.1 f ∧ roomF i.1 f ≤ i.2 then (10, ps, dep)
  else if (ps.getD at_ Pl.no).met = false then (13, ps, dep)
  else if (ps.getD at_ Pl.no).d < takesF i.1 ∨ 16 < (ps.getD at_ Pl.no).d - takesF i.1 + givesF i.1 then (12, ps, dep)
  else if (i.1 = 10 ∨ i.1 = 11) ∧ (ps.length : Int) ≤ at_ + 1 + i.2 then (11, ps, max dep ((ps.getD at_ Pl.no).d - takesF i.1 + givesF i.1))
  else
    match (if i.1 = 10 then some ps else comeF ps (at_ + 1) ((ps.getD at_ Pl.no).d - takesF i.1 + givesF i.1) ((ps.getD at_ Pl.no).f + 1)) with
    | none => (12, ps, max dep ((ps.getD at_ Pl.no).d - takesF i.1 + givesF i.1))
    | some ps1 =>
      if i.1 = 10 ∨ i.1 = 11 then
        match comeF ps1 ((at_ : Int) + 1 + i.2).toNat ((ps.getD at_ Pl.no).d - takesF i.1 + givesF i.1) ((ps.getD at_ Pl.no).f + 1) with
        | none => (12, ps1, max dep ((ps.getD at_ Pl.no).d - takesF i.1 + givesF i.1))
        | some ps2 => (0, ps2, max dep ((ps.getD at_ Pl.no).d - takesF i.1 + givesF i.1))
      else (0, ps1, max dep ((ps.getD at_ Pl.no).d - takesF i.1 + givesF i.1))
/-- A code that is gone through: the depth and the steps, the fault, where. -/
def goJ (f : Fr) (n : Nat) : Nat → List (Int × Int) → List Pl → Int → (Int × Int) × Int × Int
  | _, [], ps, dep => if (ps.getD n Pl.no).d ≠ 0 then ((0, 0), 12, n) else ((dep, (ps.getD n Pl.no).f), 0, 0)
  | at_, i :: r, ps, dep => if (oneF f at_ i ps dep).1 ≠ 0 then ((0, 0), (oneF f at_ i ps dep).1, at_) else goJ f n (at_ + 1) r (oneF f at_ i ps dep).2.1 (oneF f at_ i ps dep).2.2
def placesF (n : Nat) : List Pl := ⟨true, 0, 0⟩ :: List.replicate n Pl.no
def judgeF (c : List (Int × Int)) (f : Fr) : (Int × Int) × Int × Int :=
  if f.good = false then ((0, 0), 1, 0)
  else if 600 < c.length then ((0, 0), 3, 0)
  else goJ f c.length 0 c (placesF c.length) 0

/-- The places are as wide as the code, and what they hold is no more than what was gone. -/
structure PlOK (k n : Nat) (dep : Int) (ps : List Pl) : Prop where
  len : ps.length = n + 1
  dep0 : 0 ≤ dep ∧ dep ≤ 16
  all : ∀ (j : Nat) (p : Pl), ps[j]? = some p → 0 ≤ p.d ∧ p.d ≤ 16 ∧ 0 ≤ p.f ∧ p.f ≤ k ∧ (p.met = false → p.d = 0 ∧ p.f = 0)
theorem PlOK.start (n : Nat) : PlOK 0 n 0 (placesF n) := by
  refine ⟨by simp [placesF], by omega, fun j p h => ?_⟩
  unfold placesF at h
  cases j with
  | zero => simp at h; subst h; simp
  | succ j =>
    rw [List.getElem?_cons_succ, List.getElem?_replicate] at h
    split at h
    · injection h with h; subst h; simp [Pl.no]
    · cases h
theorem PlOK.get {k n : Nat} {dep : Int} {ps : List Pl} (h : PlOK k n dep ps) (j : Nat) : 0 ≤ (ps.getD j Pl.no).d ∧ (ps.getD j Pl.no).d ≤ 16 ∧ 0 ≤ (ps.getD j Pl.no).f ∧ (ps.getD j Pl.no).f ≤ k ∧ ((ps.getD j Pl.no).met = false → (ps.getD j Pl.no).d = 0 ∧ (ps.getD j Pl.no).f = 0) := by
  rw [List.getD_eq_getElem?_getD]
  cases hx : ps[j]? with
  | none => simp [Pl.no]
  | some p => exact h.all j p hx
theorem PlOK.more {k k' n : Nat} {dep : Int} {ps : List Pl} (h : PlOK k n dep ps) (hk : k ≤ k') : PlOK k' n dep ps :=
  ⟨h.len, h.dep0, fun j p hp => by have := h.all j p hp; exact ⟨this.1, this.2.1, this.2.2.1, by omega, this.2.2.2.2⟩⟩
theorem PlOK.deeper {k n : Nat} {dep d : Int} {ps : List Pl} (h : PlOK k n dep ps) (hd : 0 ≤ d ∧ d ≤ 16) : PlOK k n d ps := ⟨h.len, hd, h.all⟩
theorem PlOK.come {k n : Nat} {dep d f : Int} {ps ps' : List Pl} {to : Nat} (h : PlOK k n dep ps) (hc : comeF ps to d f = some ps') (hd : 0 ≤ d ∧ d ≤ 16) (hf : 0 ≤ f ∧ f ≤ k) : PlOK k n dep ps' := by
  unfold comeF at hc
  cases hx : ps[to]? with
  | none => rw [hx] at hc; cases hc
  | some p =>
    rw [hx] at hc
    have hlt := (List.getElem?_eq_some_iff.1 hx).1
    have hp := h.all to p hx
    dsimp only at hc
    have key : ∀ q : Pl, 0 ≤ q.d ∧ q.d ≤ 16 → 0 ≤ q.f ∧ q.f ≤ k → q.met = true → PlOK k n dep (ps.set to q) := fun q h1 h2 h3 => ⟨by rw [List.length_set]; exact h.len, h.dep0, fun j r hj => by
      rw [List.getElem?_set] at hj
      by_cases hjj : to = j
      · rw [if_pos hjj, if_pos hlt] at hj
        injection hj with hj
        subst hj
        exact ⟨h1.1, h1.2, h2.1, h2.2, fun he => by rw [h3] at he; cases he⟩
      · rw [if_neg hjj] at hj
        exact h.all j r hj⟩
    split at hc
    · split at hc
      · injection hc with hc
        subst hc
        exact key _ ⟨hp.1, hp.2.1⟩ (by dsimp only; omega) rfl
      · cases hc
    · injection hc with hc
      subst hc
      exact key _ hd hf rfl
theorem takes_range (op : Int) : 0 ≤ takesF op ∧ takesF op ≤ 2 := by unfold takesF; repeat' split
                                                                     all_goals omega
theorem gives_range (op : Int) : 0 ≤ givesF op ∧ givesF op ≤ 1 := by unfold givesF; split <;> omega
theorem PlOK.one {k n : Nat} {dep : Int} {ps : List Pl} {f : Fr} {at_ : Nat} {i : Int × Int} (h : PlOK k n dep ps) (h0 : (oneF f at_ i ps dep).1 = 0) : PlOK (k + 1) n (oneF f at_ i ps dep).2.2 (oneF f at_ i ps dep).2.1 := by
  have hg := h.get at_
  have ht := takes_range i.1
  have hv := gives_range i.1
  have hdp := h.dep0
  revert h0
  unfold oneF
  split
  · intro h0; exact absurd h0 (by assumption)
  split
  · intro h0; exact absurd (show (10 : Int) = 0 from h0) (by decide)
  split
  · intro h0; exact absurd (show (13 : Int) = 0 from h0) (by decide)
  split
  · intro h0; exact absurd (show (12 : Int) = 0 from h0) (by decide)
  split
  · intro h0; exact absurd (show (11 : Int) = 0 from h0) (by decide)
  rename_i hne _
  have hd : 0 ≤ (ps.getD at_ Pl.no).d - takesF i.1 + givesF i.1 ∧ (ps.getD at_ Pl.no).d - takesF i.1 + givesF i.1 ≤ 16 := by omega
  have hf : 0 ≤ (ps.getD at_ Pl.no).f + 1 ∧ (ps.getD at_ Pl.no).f + 1 ≤ ((k + 1 : Nat) : Int) := by omega
  have hm : 0 ≤ max dep ((ps.getD at_ Pl.no).d - takesF i.1 + givesF i.1) ∧ max dep ((ps.getD at_ Pl.no).d - takesF i.1 + givesF i.1) ≤ 16 := by omega
  generalize (ps.getD at_ Pl.no).d - takesF i.1 + givesF i.1 = d at hd hm
  generalize (ps.getD at_ Pl.no).f + 1 = fu at hf
  have h1 := h.more (Nat.le_succ k)
  cases hc : (if i.1 = 10 then some ps else comeF ps (at_ + 1) d fu) with
  | none => intro h0; exact absurd (show (12 : Int) = 0 from h0) (by decide)
  | some ps1 =>
    have h2 : PlOK (k + 1) n dep ps1 := by
      split at hc
      · injection hc with hc; subst hc; exact h1
      · exact h1.come hc hd hf
    dsimp only
    split
    · cases hc2 : comeF ps1 ((at_ : Int) + 1 + i.2).toNat d fu with
      | none => intro h0; exact absurd (show (12 : Int) = 0 from h0) (by decide)
      | some ps2 => exact fun _ => (h2.come hc2 hd hf).deeper hm
    · exact fun _ => h2.deeper hm
end Go.Proofs.YtknfcamdfdfoeaaDoor

/- Rows of two and of three pieces; gen's Code of a program with a fault. -/
namespace Go.Proofs.YtknfcamdfdfoeaaDoor
open Go.RowKit Go.Sort Go.Maps Go.ChangeMaps Go.WideMaps

theorem one_at (op n : Int) (w : World) : Calls Tryd.prog 15 #[.int .i64 op, .int .i32 n] w fun r w' => (∃ g, r = .returned (.slice (some ⟨g, 0, none⟩) 1 1) ∧ InsAt w' [(op, n)] (some ⟨g, 0, none⟩) 1) ∧ Below w.heap.size w w' := by
  refine (one_any op n w).mono ?_
  rintro r w' ⟨⟨rfl, hown⟩, hb⟩
  exact ⟨⟨_, rfl, InsAt.one hown⟩, hb⟩
theorem row2 (l1 l2 : List (Int × Int)) (A1 : Option Addr) (c1 : Nat) (A2 : Option Addr) (c2 : Nat) (w : World) (t : TypeId) (h1 : InsAt w l1 A1 c1) (h2 : InsAt w l2 A2 c2) (hl : l1.length + l2.length ≤ 1000000) :
    Calls Tryd.prog 14 #[.slice (some ⟨w.heap.size, 0, none⟩) 2 2] (w.alloc (.cells #[.slice A1 l1.length c1, .slice A2 l2.length c2] t)) (CodeAt w (l1 ++ l2)) := by
  have h := row_any [⟨l1, A1, c1⟩, ⟨l2, A2, c2⟩] (some ⟨w.heap.size, 0, none⟩) 2 (w.alloc (.cells #[.slice A1 l1.length c1, .slice A2 l2.length c2] t))
    (pieces_new rfl fun x hx => by
      simp only [List.mem_cons, List.not_mem_nil, or_false] at hx
      rcases hx with rfl | rfl
      · exact h1
      · exact h2)
    (by simp [flatP]; omega) (by simp)
  rw [show flatP [⟨l1, A1, c1⟩, ⟨l2, A2, c2⟩] = l1 ++ l2 by simp [flatP]] at h
  exact h.mono fun r w' hc => hc.at.less (bel_alloc (Below.refl _ _) _)
theorem row3 (l1 l2 l3 : List (Int × Int)) (A1 : Option Addr) (c1 : Nat) (A2 : Option Addr) (c2 : Nat) (A3 : Option Addr) (c3 : Nat) (w : World) (t : TypeId) (h1 : InsAt w l1 A1 c1) (h2 : InsAt w l2 A2 c2) (h3 : InsAt w l3 A3 c3) (hl : l1.length + l2.length + l3.length ≤ 1000000) :
    Calls Tryd.prog 14 #[.slice (some ⟨w.heap.size, 0, none⟩) 3 3] (w.alloc (.cells #[.slice A1 l1.length c1, .slice A2 l2.length c2, .slice A3 l3.length c3] t)) (CodeAt w (l1 ++ l2 ++ l3)) := by
  have h := row_any [⟨l1, A1, c1⟩, ⟨l2, A2, c2⟩, ⟨l3, A3, c3⟩] (some ⟨w.heap.size, 0, none⟩) 3 (w.alloc (.cells #[.slice A1 l1.length c1, .slice A2 l2.length c2, .slice A3 l3.length c3] t))
    (pieces_new rfl fun x hx => by
      simp only [List.mem_cons, List.not_mem_nil, or_false] at hx
      rcases hx with rfl | rfl | rfl
      · exact h1
      · exact h2
      · exact h3)
    (by simp [flatP]; omega) (by simp)
  rw [show flatP [⟨l1, A1, c1⟩, ⟨l2, A2, c2⟩, ⟨l3, A3, c3⟩] = l1 ++ l2 ++ l3 by simp [flatP]] at h
  exact h.mono fun r w' hc => hc.at.less (bel_alloc (Below.refl _ _) _)

def fr0V : Value := .agg #[.int .i64 0, .int .i64 0, .int .i64 0, .int .i64 0, .int .i64 0]
set_option maxHeartbeats 4000000 in
theorem code_no (p : Pr) (a : PrA) (w : World) (hg : Always w) (hp : PrAt w p a) (hok : PrOK p) (n1 : p.ins.length ≤ 1000000) (n2 : p.outs.length ≤ 1000000) (n3 : p.locals.length ≤ 1000000) (n4 : p.eqs.length ≤ 1000000) (hf : (cellsE p).2 ≠ (0, 0, 0)) :
    Calls Tryd.prog 6 #[prV p a] w fun r w' => r = .returned (.tuple #[.slice none 0 0, fr0V, fV (cellsE p).2]) ∧ Below w.heap.size w w' := by
  have hcells := fun W h => cells18_any p a W (hg.later h) (hp.later h) hok n1 n2 n3 n4
  have hc0 : (cellsE p).1 = [] := by
    rcases cellsE_cases p with ⟨h1, h2⟩ | ⟨h1, h2, h3⟩
    · exact h2
    · rw [h3] at hf; exact absurd rfl hf
  have hne : ((cellsE p).2.1 == 0 && (cellsE p).2.2.1 == 0 && (cellsE p).2.2.2 == 0) = false := by
    rw [Bool.eq_false_iff]
    intro h
    simp only [Bool.and_eq_true, beq_iff_eq] at h
    exact hf (Prod.ext h.1.1 (Prod.ext h.1.2 h.2))
  have hfq : ∀ w, (Op.equalIn 10000 34 (.agg #[.int .i64 (cellsE p).2.1, .int .i64 (cellsE p).2.2.1, .int .i64 (cellsE p).2.2.2]) (.agg #[.int .i64 0, .int .i64 0, .int .i64 0])).run Tryd.prog w = .ok false w := fun w => by rw [eqFault, hne]
  have hgm : Tryd.prog.eqGuardType Tryd.prog.depth 34 = false := by kernel_rfl
  clear hf hne
  rw [hc0] at hcells
  obtain ⟨A1, c1, A2, c2, A3, c3, A4, c4⟩ := a
  unfold prV fV at *
  dsimp only at *
  generalize (cellsE p).2.1 = k1 at *
  generalize (cellsE p).2.2.1 = k2 at *
  generalize (cellsE p).2.2.2 = k3 at *
  clear hg hp hok
  unfold fr0V
  go_enter Tryd.func6, Tryd.ntmps6
  go_wp2_with (first | (go_at_call 12; refine (hcells _ belA).mono ?_; rintro r wa ⟨⟨v, rfl, hown⟩, hba⟩; obtain ⟨Ac, cc, rfl, hac1, hac2⟩ := own_slice hown; have hca := bcell hba; have hfa := bfrozen hba; have hza : w.heap.size + 3 ≤ wa.heap.size := (by have := hba.size; simpa using this); have hya : w.heap.size < wa.heap.size := (by omega); have hya1 : w.heap.size + 1 < wa.heap.size := (by omega); have hya2 : w.heap.size + 1 + 1 < wa.heap.size := (by omega)))
  refine wp_name fun W0 hW0 => ?_
  have hb0 : Below w.heap.size w W0 := by rw [hW0]; exact belA
  have hba0 : Below wa.heap.size wa W0 := by rw [hW0]; exact belA
  have g0 : W0.cell? ⟨w.heap.size + 1, 0, none⟩ = some (.int .i64 0) := bel_cell hba0 (by rw [hca _ _ (by simp)]; go_simp)
  have f0 : W0.frozen? ⟨w.heap.size + 1, 0, none⟩ = false := (bfrozen hba0 _ _ hya1).trans ((hfa _ _ (by simp)).trans (by go_simp))
  have g1 : W0.cell? ⟨w.heap.size + 1, 1, none⟩ = some (.int .i64 0) := bel_cell hba0 (by rw [hca _ _ (by simp)]; go_simp)
  have f1 : W0.frozen? ⟨w.heap.size + 1, 1, none⟩ = false := (bfrozen hba0 _ _ hya1).trans ((hfa _ _ (by simp)).trans (by go_simp))
  have g2 : W0.cell? ⟨w.heap.size + 1, 2, none⟩ = some (.int .i64 0) := bel_cell hba0 (by rw [hca _ _ (by simp)]; go_simp)
  have f2 : W0.frozen? ⟨w.heap.size + 1, 2, none⟩ = false := (bfrozen hba0 _ _ hya1).trans ((hfa _ _ (by simp)).trans (by go_simp))
  have g3 : W0.cell? ⟨w.heap.size + 1, 3, none⟩ = some (.int .i64 0) := bel_cell hba0 (by rw [hca _ _ (by simp)]; go_simp)
  have f3 : W0.frozen? ⟨w.heap.size + 1, 3, none⟩ = false := (bfrozen hba0 _ _ hya1).trans ((hfa _ _ (by simp)).trans (by go_simp))
  have g4 : W0.cell? ⟨w.heap.size + 1, 4, none⟩ = some (.int .i64 0) := bel_cell hba0 (by rw [hca _ _ (by simp)]; go_simp)
  have f4 : W0.frozen? ⟨w.heap.size + 1, 4, none⟩ = false := (bfrozen hba0 _ _ hya1).trans ((hfa _ _ (by simp)).trans (by go_simp))
  have d0 : W0.cell? ⟨w.heap.size + 1 + 1, 0, none⟩ = some (.int .i64 0) := bel_cell hba0 (by rw [hca _ _ (by simp)]; go_simp)
  have e0 : W0.frozen? ⟨w.heap.size + 1 + 1, 0, none⟩ = false := (bfrozen hba0 _ _ hya2).trans ((hfa _ _ (by simp)).trans (by go_simp))
  have q0 : W0.cell? ⟨wa.heap.size, 0, none⟩ = some (.int .i64 k1) := by rw [hW0]; go_simp
  have d1 : W0.cell? ⟨w.heap.size + 1 + 1, 1, none⟩ = some (.int .i64 0) := bel_cell hba0 (by rw [hca _ _ (by simp)]; go_simp)
  have e1 : W0.frozen? ⟨w.heap.size + 1 + 1, 1, none⟩ = false := (bfrozen hba0 _ _ hya2).trans ((hfa _ _ (by simp)).trans (by go_simp))
  have q1 : W0.cell? ⟨wa.heap.size, 1, none⟩ = some (.int .i64 k2) := by rw [hW0]; go_simp
  have d2 : W0.cell? ⟨w.heap.size + 1 + 1, 2, none⟩ = some (.int .i64 0) := bel_cell hba0 (by rw [hca _ _ (by simp)]; go_simp)
  have e2 : W0.frozen? ⟨w.heap.size + 1 + 1, 2, none⟩ = false := (bfrozen hba0 _ _ hya2).trans ((hfa _ _ (by simp)).trans (by go_simp))
  have q2 : W0.cell? ⟨wa.heap.size, 2, none⟩ = some (.int .i64 k3) := by rw [hW0]; go_simp
  clear hW0 hca hfa hba hba0 hown hcells hac1 hac2
  have hset : ∀ (w' : World) (b o : Nat) (u : Value), b ≠ wa.heap.size → w'.cell? ⟨wa.heap.size, 0, none⟩ = some (.int .i64 k1) ∧ w'.cell? ⟨wa.heap.size, 1, none⟩ = some (.int .i64 k2) ∧ w'.cell? ⟨wa.heap.size, 2, none⟩ = some (.int .i64 k3) → (w'.setCell ⟨b, o, none⟩ u).cell? ⟨wa.heap.size, 0, none⟩ = some (.int .i64 k1) ∧ (w'.setCell ⟨b, o, none⟩ u).cell? ⟨wa.heap.size, 1, none⟩ = some (.int .i64 k2) ∧ (w'.setCell ⟨b, o, none⟩ u).cell? ⟨wa.heap.size, 2, none⟩ = some (.int .i64 k3) := fun w' b o u hb ⟨h1, h2, h3⟩ =>
    ⟨(World.cell?_setCell_other _ _ _ _ (by intro he; injection he with e1 e2; omega)).trans h1, (World.cell?_setCell_other _ _ _ _ (by intro he; injection he with e1 e2; omega)).trans h2, (World.cell?_setCell_other _ _ _ _ (by intro he; injection he with e1 e2; omega)).trans h3⟩
  have HSET := Lib.hid hset
  have hdrw : ∀ w' : World, w'.cell? ⟨wa.heap.size, 0, none⟩ = some (.int .i64 k1) ∧ w'.cell? ⟨wa.heap.size, 1, none⟩ = some (.int .i64 k2) ∧ w'.cell? ⟨wa.heap.size, 2, none⟩ = some (.int .i64 k3) → w'.drew.cell? ⟨wa.heap.size, 0, none⟩ = some (.int .i64 k1) ∧ w'.drew.cell? ⟨wa.heap.size, 1, none⟩ = some (.int .i64 k2) ∧ w'.drew.cell? ⟨wa.heap.size, 2, none⟩ = some (.int .i64 k3) := fun _ h => h
  have HD := Lib.hid hdrw
  clear hset hdrw
  have hS0 : W0.drew.cell? ⟨wa.heap.size, 0, none⟩ = some (.int .i64 k1) ∧ W0.drew.cell? ⟨wa.heap.size, 1, none⟩ = some (.int .i64 k2) ∧ W0.drew.cell? ⟨wa.heap.size, 2, none⟩ = some (.int .i64 k3) := ⟨q0, q1, q2⟩
  refine wp_region_ht (fun w' => w'.cell? ⟨wa.heap.size, 0, none⟩ = some (.int .i64 k1) ∧ w'.cell? ⟨wa.heap.size, 1, none⟩ = some (.int .i64 k2) ∧ w'.cell? ⟨wa.heap.size, 2, none⟩ = some (.int .i64 k3)) 4 1 (by kernel_rfl) (by rfl) ?_
  simp only [List.size_toArray, List.length_cons, List.length_nil, Nat.zero_add, Nat.reduceAdd]
  refine takeA (v := ?_) 0 hS0 ?_ ?_
  rotate_left
  · intro w' hSw
    go_simp
    first | done | with_reducible rfl
  try simp only [Act.put, List.setIfInBounds_toArray, List.set_cons_zero, List.set_cons_succ]
  refine takeA (v := ?_) 1 hS0 ?_ ?_
  rotate_left
  · intro w' hSw
    go_simp
    first | done | with_reducible rfl
  try simp only [Act.put, List.setIfInBounds_toArray, List.set_cons_zero, List.set_cons_succ]
  refine takeA (v := ?_) 2 hS0 ?_ ?_
  rotate_left
  · intro w' hSw
    go_simp
    first | done | with_reducible rfl
  try simp only [Act.put, List.setIfInBounds_toArray, List.set_cons_zero, List.set_cons_succ]
  refine oneA 3 ?_
  refine oper_wp_K fun K hK => ?_
  go_simp
  have hS5 := HD.out _ (HSET.out _ (w.heap.size + 1) 4 (.int .i64 0) (by omega) (HSET.out _ (w.heap.size + 1) 3 (.int .i64 0) (by omega) (HSET.out _ (w.heap.size + 1) 2 (.int .i64 0) (by omega) (HSET.out _ (w.heap.size + 1) 1 (.int .i64 0) (by omega) (HSET.out W0 (w.heap.size + 1) 0 (.int .i64 0) (by omega) ⟨q0, q1, q2⟩)))))
  refine hK _ _ ⟨hS5, wpHT_done (by kernel_rfl) ?_⟩
  clear hK K
  try simp only [Act.put, List.setIfInBounds_toArray, List.set_cons_zero, List.set_cons_succ]
  refine any_name fun W1 hW1 => ?_
  have hb1 : Below w.heap.size w W1 := by rw [hW1]; exact bel_drew (bel_set5 _ _ _ _ _ hb0 (by omega))
  obtain ⟨r0, r1, r2, r3, r4⟩ := set5 (W := W0) (.int .i64 0) (.int .i64 0) (.int .i64 0) (.int .i64 0) (.int .i64 0) g0 g1 g2 g3 g4
  have R : ∀ b o, W1.cell? ⟨b, o, none⟩ = (((((W0.setCell ⟨w.heap.size + 1, 0, none⟩ (.int .i64 0)).setCell ⟨w.heap.size + 1, 1, none⟩ (.int .i64 0)).setCell ⟨w.heap.size + 1, 2, none⟩ (.int .i64 0)).setCell ⟨w.heap.size + 1, 3, none⟩ (.int .i64 0)).setCell ⟨w.heap.size + 1, 4, none⟩ (.int .i64 0)).cell? ⟨b, o, none⟩ := fun b o => by rw [hW1, drew_cell]
  have RF : ∀ p, W1.frozen? p = W0.frozen? p := fun p => by
    rw [hW1, drew_frozen]
    exact set5_fz (W := W0) (b := w.heap.size + 1) _ _ _ _ _ p
  have s0 := (R _ _).trans r0
  have s1 := (R _ _).trans r1
  have s2 := (R _ _).trans r2
  have s3 := (R _ _).trans r3
  have s4 := (R _ _).trans r4
  have t0 := ((R _ _).trans (set5_blk _ _ _ _ _ (by omega))).trans d0
  have t1 := ((R _ _).trans (set5_blk _ _ _ _ _ (by omega))).trans d1
  have t2 := ((R _ _).trans (set5_blk _ _ _ _ _ (by omega))).trans d2
  have z0 := (RF _).trans e0
  have z1 := (RF _).trans e1
  have z2 := (RF _).trans e2
  clear hW1 R RF r0 r1 r2 r3 r4 hS5 hS0 q0 q1 q2 g0 g1 g2 g3 g4 f0 f1 f2 f3 f4 d0 d1 d2 e0 e1 e2 HSET HD
  refine anyA 4 ?_
  refine oper_wp_K fun K hK => ?_
  go_simp
  refine hK _ _ ?_
  clear hK K
  try simp only [Act.put, List.setIfInBounds_toArray, List.set_cons_zero, List.set_cons_succ]
  refine wpAny_end (by kernel_rfl) ?_
  refine exit_nm fun W2 hW2 => ?_
  obtain ⟨r0, r1, r2⟩ := set3 (W := W1) (.int .i64 k1) (.int .i64 k2) (.int .i64 k3) t0 t1 t2
  have R : ∀ b o, W2.cell? ⟨b, o, none⟩ = (((W1.setCell ⟨w.heap.size + 1 + 1, 0, none⟩ (.int .i64 k1)).setCell ⟨w.heap.size + 1 + 1, 1, none⟩ (.int .i64 k2)).setCell ⟨w.heap.size + 1 + 1, 2, none⟩ (.int .i64 k3)).cell? ⟨b, o, none⟩ := fun b o => by rw [hW2]
  have hb2 : Below w.heap.size w W2 := by rw [hW2]; exact bel_set3 _ _ _ hb1 (by omega)
  have x0 := (R _ _).trans r0
  have x1 := (R _ _).trans r1
  have x2 := (R _ _).trans r2
  have y0 := ((R _ _).trans (set3_blk _ _ _ (by omega))).trans s0
  have y1 := ((R _ _).trans (set3_blk _ _ _ (by omega))).trans s1
  have y2 := ((R _ _).trans (set3_blk _ _ _ (by omega))).trans s2
  have y3 := ((R _ _).trans (set3_blk _ _ _ (by omega))).trans s3
  have y4 := ((R _ _).trans (set3_blk _ _ _ (by omega))).trans s4
  clear hW2 R r0 r1 r2 s0 s1 s2 s3 s4 t0 t1 t2 z0 z1 z2
  go_wp2_with fail
  exact bodyPost_ret (v := .tuple #[.slice none 0 0, .agg #[.int .i64 0, .int .i64 0, .int .i64 0, .int .i64 0, .int .i64 0], .agg #[.int .i64 k1, .int .i64 k2, .int .i64 k3]]) (by simp [results, Tryd.results6, go_sem, *]) rfl ⟨rfl, hb2⟩
end Go.Proofs.YtknfcamdfdfoeaaDoor
