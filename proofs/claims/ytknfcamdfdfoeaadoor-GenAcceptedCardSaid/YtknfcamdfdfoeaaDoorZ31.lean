/- gen's Code of a program that has none. -/
import Derived.Test.YtknfcamdfdfoeaaDoorZ30
import Derived.Test.YtknfcamdfdfoeaaDoorZ29
import Derived.Test.YtknfcamdfdfoeaaDoorZ22
import Derived.Laws.CopyOwn
import Derived.Laws.MakeOwn
set_option linter.unusedVariables false
set_option linter.unusedSimpArgs false
set_option maxRecDepth 100000
namespace Go.Proofs.YtknfcamdfdfoeaaDoor
open Go.RowKit Go.Sort Go.Maps Go.ChangeMaps Go.WideMaps

theorem row3_own (l1 l2 l3 : List (Int × Int)) (A1 : Option Addr) (c1 : Nat) (A2 : Option Addr) (c2 : Nat) (A3 : Option Addr) (c3 : Nat) (w : World) (t : TypeId) (h1 : InsAt w l1 A1 c1) (h2 : InsAt w l2 A2 c2) (h3 : InsAt w l3 A3 c3) (hl : l1.length + l2.length + l3.length ≤ 1000000) :
    Calls Tryd.prog 14 #[.slice (some ⟨w.heap.size, 0, none⟩) 3 3] (w.alloc (.cells #[.slice A1 l1.length c1, .slice A2 l2.length c2, .slice A3 l3.length c3] t)) (CodeIs w (l1 ++ l2 ++ l3)) := by
  have h := row_any [⟨l1, A1, c1⟩, ⟨l2, A2, c2⟩, ⟨l3, A3, c3⟩] (some ⟨w.heap.size, 0, none⟩) 3 (w.alloc (.cells #[.slice A1 l1.length c1, .slice A2 l2.length c2, .slice A3 l3.length c3] t))
    (pieces_new rfl fun x hx => by
      simp only [List.mem_cons, List.not_mem_nil, or_false] at hx
      rcases hx with rfl | rfl | rfl
      · exact h1
      · exact h2
      · exact h3)
    (by simp [flatP]; omega) (by simp)
  rw [show flatP [⟨l1, A1, c1⟩, ⟨l2, A2, c2⟩, ⟨l3, A3, c3⟩] = l1 ++ l2 ++ l3 by simp [flatP]] at h
  exact h.mono fun r w' hc => hc.less (bel_alloc (Below.refl _ _) _)

/-- What Code hands back. -/
def CodeR (p : Pr) (w : World) (r : Ending) (w' : World) : Prop :=
  (if 600 < (codeL p).length then r = .returned (.tuple #[.slice none 0 0, fr0V, fV (4, 0, 3)])
   else ∃ v, r = .returned (.tuple #[v, .agg #[.int .i64 ((varsOf p).length : Nat), .int .i64 ((cellsL p).length : Nat), .int .i64 ((cellsL p).length : Nat), .int .i64 (p.ins.length : Nat), .int .i64 (p.outs.length : Nat)], fV (0, 0, 0)]) ∧ w'.ownsRow w.heap.size 62 2 v (codeL p).length (cdC (codeL p))) ∧ Below w.heap.size w w'

theorem MapE.lenRun {P : Program} {k e : TypeId} {R : Value → Option (DataW Unit × List MemPlace)} {K V : Type} {ok : K → Prop} {kl : K → Lit} {okv : V → Prop} {vl : V → Lit} {z : V} {w : World} {b n c : Nat} {f : K → Option V}
    (h : MapE P k R ok kl okv vl z w b n f c) {t : TypeId} (ht : P.underlying t = some (.map k e)) (ty : TypeId) : (Builtin.len_ #[t] ty #[.map (some b)]).run P w = .ok (.int .i64 c) w := by
  obtain ⟨D, h1, h2, hc, _⟩ := h
  rw [h1.len ht ty, hc]
theorem MapE.cellsNo {P : Program} {k : TypeId} {R : Value → Option (DataW Unit × List MemPlace)} {K V : Type} {ok : K → Prop} {kl : K → Lit} {okv : V → Prop} {vl : V → Lit} {z : V} {w : World} {b n c : Nat} {f : K → Option V}
    (h : MapE P k R ok kl okv vl z w b n f c) {o : Nat} {v : Value} (hc : w.cell? ⟨b, o, none⟩ = some v) : False := by
  obtain ⟨D, ⟨es, clock, hh, _⟩, _⟩ := h
  simp [World.cell?, hh] at hc
theorem drew_heap (W : World) : W.drew.heap = W.heap := rfl
theorem endS5 {wz w wa : World} {X Bs n : Nat} {u1 u2 v0 v1 v2 v3 v4 k1 k2 k3 : Value} (hX : X ≠ w.heap.size + 1) (x0 : wz.cell? ⟨X, 0, none⟩ = some (.map (some Bs))) (p1 : wz.cell? ⟨w.heap.size, 1, none⟩ = some u1) (p2 : wz.cell? ⟨w.heap.size, 2, none⟩ = some u2)
    (q0 : wz.cell? ⟨wa.heap.size, 0, none⟩ = some k1) (q1 : wz.cell? ⟨wa.heap.size, 1, none⟩ = some k2) (q2 : wz.cell? ⟨wa.heap.size, 2, none⟩ = some k3) (ha : wa.heap.size ≠ w.heap.size + 1) (hw : w.heap.size ≠ w.heap.size + 1)
    (hl : ∀ w', w'.heap[Bs]? = wz.heap[Bs]? → (Builtin.len_ #[70] 3 #[.map (some Bs)]).run Tryd.prog w' = .ok (.int .i64 (n : Nat)) w') (nB : Bs ≠ w.heap.size + 1) :
    (fun w' : World => w'.cell? ⟨X, 0, none⟩ = some (.map (some Bs)) ∧ w'.cell? ⟨w.heap.size, 1, none⟩ = some u1 ∧ w'.cell? ⟨w.heap.size, 2, none⟩ = some u2 ∧ w'.cell? ⟨wa.heap.size, 0, none⟩ = some k1 ∧ w'.cell? ⟨wa.heap.size, 1, none⟩ = some k2 ∧ w'.cell? ⟨wa.heap.size, 2, none⟩ = some k3 ∧ (Builtin.len_ #[70] 3 #[.map (some Bs)]).run Tryd.prog w' = .ok (.int .i64 (n : Nat)) w')
      (((((wz.setCell ⟨w.heap.size + 1, 0, none⟩ v0).setCell ⟨w.heap.size + 1, 1, none⟩ v1).setCell ⟨w.heap.size + 1, 2, none⟩ v2).setCell ⟨w.heap.size + 1, 3, none⟩ v3).setCell ⟨w.heap.size + 1, 4, none⟩ v4).drew := by
  have hh : (((((wz.setCell ⟨w.heap.size + 1, 0, none⟩ v0).setCell ⟨w.heap.size + 1, 1, none⟩ v1).setCell ⟨w.heap.size + 1, 2, none⟩ v2).setCell ⟨w.heap.size + 1, 3, none⟩ v3).setCell ⟨w.heap.size + 1, 4, none⟩ v4).heap[Bs]? = wz.heap[Bs]? := by
    rw [heap_setCell_other _ _ _ _ nB, heap_setCell_other _ _ _ _ nB, heap_setCell_other _ _ _ _ nB, heap_setCell_other _ _ _ _ nB, heap_setCell_other _ _ _ _ nB]
  refine ⟨?_, ?_, ?_, ?_, ?_, ?_, ?_⟩
  · rw [drew_cell, set5_blk _ _ _ _ _ hX]; exact x0
  · rw [drew_cell, set5_blk _ _ _ _ _ hw]; exact p1
  · rw [drew_cell, set5_blk _ _ _ _ _ hw]; exact p2
  · rw [drew_cell, set5_blk _ _ _ _ _ ha]; exact q0
  · rw [drew_cell, set5_blk _ _ _ _ _ ha]; exact q1
  · rw [drew_cell, set5_blk _ _ _ _ _ ha]; exact q2
  · refine hl _ ?_
    rw [drew_heap]
    exact hh
/-- Code's memory at its end. -/
structure CodeZ (w W wz : World) (p : Pr) (A1 A2 : Option Addr) (c1 c2 : Nat) (wa : World) (X Bs : Nat) : Prop where
  bel : Below w.heap.size w wz
  z1 : w.heap.size + 3 ≤ wz.heap.size
  z2 : wa.heap.size < wz.heap.size
  g : wz.cell? ⟨w.heap.size + 1, 0, none⟩ = some (.int .i64 0) ∧ wz.cell? ⟨w.heap.size + 1, 1, none⟩ = some (.int .i64 0) ∧ wz.cell? ⟨w.heap.size + 1, 2, none⟩ = some (.int .i64 0) ∧ wz.cell? ⟨w.heap.size + 1, 3, none⟩ = some (.int .i64 0) ∧ wz.cell? ⟨w.heap.size + 1, 4, none⟩ = some (.int .i64 0)
  d : wz.cell? ⟨w.heap.size + 1 + 1, 0, none⟩ = some (.int .i64 0) ∧ wz.cell? ⟨w.heap.size + 1 + 1, 1, none⟩ = some (.int .i64 0) ∧ wz.cell? ⟨w.heap.size + 1 + 1, 2, none⟩ = some (.int .i64 0)
  q : wz.cell? ⟨wa.heap.size, 0, none⟩ = some (.int .i64 0) ∧ wz.cell? ⟨wa.heap.size, 1, none⟩ = some (.int .i64 0) ∧ wz.cell? ⟨wa.heap.size, 2, none⟩ = some (.int .i64 0)
  fg : ∀ o, (o = 0 ∨ o = 1 ∨ o = 2 ∨ o = 3 ∨ o = 4) → wz.frozen? ⟨w.heap.size + 1, o, none⟩ = false
  fd : ∀ o, (o = 0 ∨ o = 1 ∨ o = 2) → wz.frozen? ⟨w.heap.size + 1 + 1, o, none⟩ = false
  p1 : wz.cell? ⟨w.heap.size, 1, none⟩ = some (.slice A1 p.ins.length c1)
  p2 : wz.cell? ⟨w.heap.size, 2, none⟩ = some (.slice A2 p.outs.length c2)
  x0 : wz.cell? ⟨X, 0, none⟩ = some (.map (some Bs))
  len : ∀ w', w'.heap[Bs]? = wz.heap[Bs]? → (Builtin.len_ #[70] 3 #[.map (some Bs)]).run Tryd.prog w' = .ok (.int .i64 ((varsOf p).length : Nat)) w'
  nB : Bs ≠ w.heap.size + 1
theorem wrap64_same {n : Int} (h : I64 n) : IntKind.i64.wrap n = n := by
  unfold I64 at h
  exact IntWalk.i64_in _ h
theorem insAt_nil (W : World) : InsAt W [] none 0 := ⟨Nat.le_refl _, by unfold maxLen; omega, ⟨rfl, fun h => absurd h (by simp)⟩⟩

set_option maxHeartbeats 8000000 in
theorem code_yes (p : Pr) (a : PrA) (w : World) (hg : Always w) (hp : PrAt w p a) (hok : PrOK p) (n1 : p.ins.length ≤ 1000000) (n2 : p.outs.length ≤ 1000000) (n3 : p.locals.length ≤ 1000000) (n4 : p.eqs.length ≤ 1000000) (hS : startF p = (0, 0, 0)) (hbig : ¬ 16 < (cellsL p).length) :
    Calls Tryd.prog 6 #[prV p a] w (CodeR p w) := by
  have hcl := clean_of hS
  have hcells := fun W h => cells18_any p a W (hg.later h) (hp.later h) hok n1 n2 n3 n4
  have horder := fun W h => order_any p a W (hg.later h) (hp.later h) hok n1 n2 n3 n4
  have hord := orderE_good hcl.order
  rw [show cellsE p = (cellsL p, (0, 0, 0)) by unfold cellsE; rw [if_pos hS, if_neg hbig]] at hcells
  have hvok : ∀ v ∈ varsOf p, okS v.name ∧ okC (v.ck, v.cn) := fun v hv => by
    have h := hcl.vars v hv
    exact ⟨by unfold okS; have := h.name; unfold maxLen; omega, by unfold I64; have := h.ck; dsimp only; omega, by have := h.cn; unfold maxLen; dsimp only; omega⟩
  have hcok : ∀ c ∈ cellsL p, okC (c.ck, c.cn) := fun c hc => by
    have h := hcl.cells hc
    exact ⟨by unfold I64; have := h.1; dsimp only; omega, by have := h.2.1; unfold maxLen; dsimp only; omega⟩
  have hlay := fun A cap W (h : Below w.heap.size w W) (hc : CesAt W (cellsL p) A cap) => lay_any p a (cellsL p) A cap W (hp.later h) hc n1 n2 n3 (by omega) hvok hcl.nodup hcok
  have hfq : ∀ w, (Op.equalIn 10000 34 (.agg #[.int .i64 0, .int .i64 0, .int .i64 0]) (.agg #[.int .i64 0, .int .i64 0, .int .i64 0])).run Tryd.prog w = .ok true w := fun w => by rw [eqFault]; rfl
  have hgm : Tryd.prog.eqGuardType Tryd.prog.depth 34 = false := by kernel_rfl
  have HINS := Lib.hid hp.ins
  have HOUTS := Lib.hid hp.outs
  have HEQ := Lib.hid hp.eqs
  have hl1 := hp.ins.len
  have hl2 := hp.outs.len
  have hl4 := hp.eqs.len
  unfold maxLen at hl1 hl2 hl4
  have HCLN := Lib.hid hcl
  have HCOK := Lib.hid hcok
  have HVOK := Lib.hid hvok
  have HORD := Lib.hid hord
  obtain ⟨A1, c1, A2, c2, A3, c3, A4, c4⟩ := a
  unfold prV fV at *
  dsimp only at *
  obtain ⟨hl11, hl12⟩ := hl1
  obtain ⟨hl21, hl22⟩ := hl2
  obtain ⟨hl41, hl42⟩ := hl4
  clear hS hg hp hok hcl hcok hvok hord
  go_enter Tryd.func6, Tryd.ntmps6
  go_wp2_with (first
    | (go_at_call 12; refine (hcells _ belA).mono ?_; rintro r wa ⟨⟨v, rfl, hown⟩, hba⟩; obtain ⟨Ac, cc, rfl, hces⟩ := CesAt.of_own hown; clear hown; have hca := bcell hba; have hfa := bfrozen hba; have hza : w.heap.size + 3 ≤ wa.heap.size := (by have := hba.size; simpa using this); have hya : w.heap.size < wa.heap.size := (by omega); have hya1 : w.heap.size + 1 < wa.heap.size := (by omega); have hya2 : w.heap.size + 1 + 1 < wa.heap.size := (by omega); have HCES := Lib.hid hces; clear hces)
    | (go_at_call 13; go_loud (refine (hlay Ac cc _ belA (HCES.out.later belA)).mono ?_; rintro r wl ⟨⟨X, Bs, Bt, Bf, rfl, hlayat⟩, hbl⟩; have hcl := bcell hbl; have hfl := bfrozen hbl; have hzl : wa.heap.size + 1 ≤ wl.heap.size := (by have := hbl.size; simpa using this); have HLAY := Lib.hid hlayat; clear hlayat)))
  refine wp_name fun W hW => ?_
  have hbW : Below w.heap.size w W := by rw [hW]; exact belA
  have hbaW : Below wa.heap.size wa W := by rw [hW]; exact belA
  have hblW : Below wl.heap.size wl W := by rw [hW]; exact belA
  have g0 : W.cell? ⟨w.heap.size + 1, 0, none⟩ = some (.int .i64 0) := bel_cell hbaW (by rw [hca _ _ (by simp)]; go_simp)
  have f0 : W.frozen? ⟨w.heap.size + 1, 0, none⟩ = false := (bfrozen hbaW _ _ hya1).trans ((hfa _ _ (by simp)).trans (by go_simp))
  have g1 : W.cell? ⟨w.heap.size + 1, 1, none⟩ = some (.int .i64 0) := bel_cell hbaW (by rw [hca _ _ (by simp)]; go_simp)
  have f1 : W.frozen? ⟨w.heap.size + 1, 1, none⟩ = false := (bfrozen hbaW _ _ hya1).trans ((hfa _ _ (by simp)).trans (by go_simp))
  have g2 : W.cell? ⟨w.heap.size + 1, 2, none⟩ = some (.int .i64 0) := bel_cell hbaW (by rw [hca _ _ (by simp)]; go_simp)
  have f2 : W.frozen? ⟨w.heap.size + 1, 2, none⟩ = false := (bfrozen hbaW _ _ hya1).trans ((hfa _ _ (by simp)).trans (by go_simp))
  have g3 : W.cell? ⟨w.heap.size + 1, 3, none⟩ = some (.int .i64 0) := bel_cell hbaW (by rw [hca _ _ (by simp)]; go_simp)
  have f3 : W.frozen? ⟨w.heap.size + 1, 3, none⟩ = false := (bfrozen hbaW _ _ hya1).trans ((hfa _ _ (by simp)).trans (by go_simp))
  have g4 : W.cell? ⟨w.heap.size + 1, 4, none⟩ = some (.int .i64 0) := bel_cell hbaW (by rw [hca _ _ (by simp)]; go_simp)
  have f4 : W.frozen? ⟨w.heap.size + 1, 4, none⟩ = false := (bfrozen hbaW _ _ hya1).trans ((hfa _ _ (by simp)).trans (by go_simp))
  have p0 : W.cell? ⟨w.heap.size, 0, none⟩ = some (.string p.name) := bel_cell hbaW (by rw [hca _ _ (by first | (simp; done) | (simp; omega))]; go_simp)
  have p1 : W.cell? ⟨w.heap.size, 1, none⟩ = some (.slice A1 p.ins.length c1) := bel_cell hbaW (by rw [hca _ _ (by first | (simp; done) | (simp; omega))]; go_simp)
  have p2 : W.cell? ⟨w.heap.size, 2, none⟩ = some (.slice A2 p.outs.length c2) := bel_cell hbaW (by rw [hca _ _ (by first | (simp; done) | (simp; omega))]; go_simp)
  have p3 : W.cell? ⟨w.heap.size, 3, none⟩ = some (.slice A3 p.locals.length c3) := bel_cell hbaW (by rw [hca _ _ (by first | (simp; done) | (simp; omega))]; go_simp)
  have p4 : W.cell? ⟨w.heap.size, 4, none⟩ = some (.slice A4 p.eqs.length c4) := bel_cell hbaW (by rw [hca _ _ (by first | (simp; done) | (simp; omega))]; go_simp)
  have d0 : W.cell? ⟨w.heap.size + 1 + 1, 0, none⟩ = some (.int .i64 0) := bel_cell hbaW (by rw [hca _ _ (by simp)]; go_simp)
  have e0 : W.frozen? ⟨w.heap.size + 1 + 1, 0, none⟩ = false := (bfrozen hbaW _ _ hya2).trans ((hfa _ _ (by simp)).trans (by go_simp))
  have q0 : W.cell? ⟨wa.heap.size, 0, none⟩ = some (.int .i64 0) := bel_cell hblW (by rw [hcl _ _ (by simp)]; go_simp)
  have d1 : W.cell? ⟨w.heap.size + 1 + 1, 1, none⟩ = some (.int .i64 0) := bel_cell hbaW (by rw [hca _ _ (by simp)]; go_simp)
  have e1 : W.frozen? ⟨w.heap.size + 1 + 1, 1, none⟩ = false := (bfrozen hbaW _ _ hya2).trans ((hfa _ _ (by simp)).trans (by go_simp))
  have q1 : W.cell? ⟨wa.heap.size, 1, none⟩ = some (.int .i64 0) := bel_cell hblW (by rw [hcl _ _ (by simp)]; go_simp)
  have d2 : W.cell? ⟨w.heap.size + 1 + 1, 2, none⟩ = some (.int .i64 0) := bel_cell hbaW (by rw [hca _ _ (by simp)]; go_simp)
  have e2 : W.frozen? ⟨w.heap.size + 1 + 1, 2, none⟩ = false := (bfrozen hbaW _ _ hya2).trans ((hfa _ _ (by simp)).trans (by go_simp))
  have q2 : W.cell? ⟨wa.heap.size, 2, none⟩ = some (.int .i64 0) := bel_cell hblW (by rw [hcl _ _ (by simp)]; go_simp)
  have hlayW : LayAt W X Bs Bt Bf (varsOf p) (cellsL p) Ac cc := HLAY.out.later hblW
  have hplan := hlayW.plan HCLN.out.nodup (fun d _ => flagM_flag d _ HCLN.out.flags)
  have hcesW : CesAt W (cellsL p) Ac cc := HCES.out.later hbaW
  have hwW : w.heap.size + 3 ≤ W.heap.size := by have := hbaW.size; omega
  have hwaW : wa.heap.size < W.heap.size := by have := hblW.size; omega
  have HLAYW := Lib.hid hlayW
  have HCESW := Lib.hid hcesW
  have HPLAN := Lib.hid hplan
  have X0 := hplan.c0
  have X1 := hlayW.c1
  obtain ⟨nS, fS, cS, hmS, hfS⟩ := hplan.slots
  have HMS := Lib.hid hmS
  have HFS := Lib.hid hfS
  clear hW hca hfa hcl hfl hba hbl HLAY HCES hcells hlay hlayW hplan hcesW hmS hfS hya hya1 hya2 hzl
  generalize hsl : slotF (varsOf p) = sl at *
  generalize hfl : flagF (cellsL p) = fl at *
  have HINS2 := Lib.hid (insC_len sl p.ins 0)
  go_loopw [8, 41] (fun h i wr => ∃ (k : Nat) (A : Option Addr) (cap : Nat), k ≤ p.ins.length ∧ h = .slice A (insC sl 0 (p.ins.take k)).length cap ∧ i = .int .i64 k ∧ Hid (InsAt wr (insC sl 0 (p.ins.take k)) A cap) ∧ Below W.heap.size W wr) (fun _ i _ => p.ins.length - (intOf i).toNat)
  case atStart => exact ⟨0, none, 0, Nat.zero_le _, rfl, rfl, Lib.hid (insAt_nil _), Below.refl _ _⟩
  case round =>
    obtain ⟨k, A, cap, hk, rfl, rfl, hi, hbel⟩ := hrel
    have hzr := hbel.size
    have hbw : Below w.heap.size w wr := bel_trans hbW hbel
    by_cases hlt : k < p.ins.length
    · have hx : p.ins[k]? = some p.ins[k] := List.getElem?_eq_getElem hlt
      have hmem : p.ins[k] ∈ p.ins := List.getElem_mem hlt
      have htk : p.ins.take (k + 1) = p.ins.take k ++ [p.ins[k]] := by rw [List.take_succ_eq_append_getElem hlt]
      generalize p.ins[k] = x at hx hmem htk
      have hsx := (HVOK.out x (by simp [varsOf, hmem])).1
      have hI : insC sl 0 (p.ins.take (k + 1)) = insC sl 0 (p.ins.take k) ++ [(6, (k : Int))] ++ [(3, sl x.name)] := by
        rw [htk, insC_snoc, List.length_take, show 0 + min k p.ins.length = k from by omega, List.append_assoc]; rfl
      have hsm := HCLN.out.small.1
      have hI2 : (insC sl 0 (p.ins.take k)).length ≤ 100 := by rw [insC_len, List.length_take]; omega
      obtain ⟨b, off, rfl, hbb, ⟨d0', d1', d2', d3'⟩⟩ := (HINS.out.later hbw).get hx
      have HI := Lib.hid hI
      have hkw : IntKind.i32.wrap (k : Int) = (k : Int) := w32_same (by unfold I32; omega)
      have hX0 := bel_cell hbel X0
      clear hx hmem htk hI
      generalize insC sl 0 (p.ins.take k) = hd at *
      have l2 := hi.out.1
      have m2 := hi.out.2.1
      unfold maxLen at m2
      go_wp2_with fail
      refine wp_name fun V1 hV1 => ?_
      have hb1 : Below wr.heap.size wr V1 := by rw [hV1]; exact belA
      have z0 : V1.cell? ⟨wr.heap.size, 0, none⟩ = some (.string x.name) := by rw [hV1]; go_simp
      have hXV := bel_cell hb1 hX0
      have hbV : Below W.heap.size W V1 := bel_trans hbel hb1
      have hS : ∀ w', Below V1.heap.size V1 w' → w'.cell? ⟨X, 0, none⟩ = some (.map (some Bs)) ∧ w'.cell? ⟨wr.heap.size, 0, none⟩ = some (.string x.name) ∧ (Instr.lookup 70 (.map (some Bs)) (.string x.name) false).run Tryd.prog w' = .ok (.int .i32 (sl x.name)) w' := fun w' hb =>
        ⟨bel_cell hb hXV, bel_cell hb z0, run_lkG (keyS Tryd.underlying9) (x := .string x.name) Tryd.underlying70 Tryd.underlying21 (zeroI32 _) rfl (HMS.out.bel (bel_trans hbV hb)) hsx (HFS.out _ hsx)⟩
      have HS := Lib.hid hS
      have hiV := Lib.hid (hi.out.later hb1)
      clear hV1 hS z0 hXV hX0 d0' d1' d2' d3'
      have hS0 := HS.out V1.drew (bel_drew (Below.refl _ _))
      refine wp_region_ht (fun w' => w'.cell? ⟨X, 0, none⟩ = some (.map (some Bs)) ∧ w'.cell? ⟨wr.heap.size, 0, none⟩ = some (.string x.name) ∧ (Instr.lookup 70 (.map (some Bs)) (.string x.name) false).run Tryd.prog w' = .ok (.int .i32 (sl x.name)) w') 14 1 (by kernel_rfl) (by rfl) ?_
      simp only [List.size_toArray, List.length_cons, List.length_nil, Nat.zero_add, Nat.reduceAdd]
      refine takeA (v := ?_) 0 hS0 ?_ ?_
      rotate_left
      · intro w' hSw
        go_simp
        first | done | with_reducible rfl
      try simp only [Act.put, List.setIfInBounds_toArray, List.set_cons_zero, List.set_cons_succ]
      refine takeA (v := ?_) 1 hS0 ?_ ?_
      rotate_left
      · intro w' hSw
        go_simp
        first | done | with_reducible rfl
      try simp only [Act.put, List.setIfInBounds_toArray, List.set_cons_zero, List.set_cons_succ]
      refine takeA (v := ?_) 2 hS0 ?_ ?_
      rotate_left
      · intro w' hSw
        go_simp
        first | done | with_reducible rfl
      try simp only [Act.put, List.setIfInBounds_toArray, List.set_cons_zero, List.set_cons_succ]
      refine takeA (v := ?_) 4 hS0 ?_ ?_
      rotate_left
      · intro w' hSw
        go_simp
        first | done | with_reducible rfl
      try simp only [Act.put, List.setIfInBounds_toArray, List.set_cons_zero, List.set_cons_succ]
      refine takeA (v := ?_) 5 hS0 ?_ ?_
      rotate_left
      · intro w' hSw
        go_simp
        first | done | with_reducible rfl
      try simp only [Act.put, List.setIfInBounds_toArray, List.set_cons_zero, List.set_cons_succ]
      refine takeA (v := ?_) 6 hS0 ?_ ?_
      rotate_left
      · intro w' hSw
        go_simp
        first | done | with_reducible rfl
      try simp only [Act.put, List.setIfInBounds_toArray, List.set_cons_zero, List.set_cons_succ]
      refine takeA (v := ?_) 7 hS0 ?_ ?_
      rotate_left
      · intro w' hSw
        go_simp
        first | done | with_reducible rfl
      try simp only [Act.put, List.setIfInBounds_toArray, List.set_cons_zero, List.set_cons_succ]
      refine takeA (v := ?_) 8 hS0 ?_ ?_
      rotate_left
      · intro w' hSw
        go_simp
        first | done | with_reducible rfl
      try simp only [Act.put, List.setIfInBounds_toArray, List.set_cons_zero, List.set_cons_succ]
      refine takeA (v := ?_) 9 hS0 ?_ ?_
      rotate_left
      · intro w' hSw
        go_simp
        first | done | with_reducible rfl
      try simp only [Act.put, List.setIfInBounds_toArray, List.set_cons_zero, List.set_cons_succ]
      refine takeA (v := ?_) 10 hS0 ?_ ?_
      rotate_left
      · intro w' hSw
        go_simp
        first | done | with_reducible rfl
      try simp only [Act.put, List.setIfInBounds_toArray, List.set_cons_zero, List.set_cons_succ]
      refine oneA 3 ?_
      refine oper_wp_K fun K hK => ?_
      go_simp
      refine (one_at _ _ _).mono ?_
      rintro r w1 ⟨⟨g1', rfl, hi1⟩, hb1'⟩
      dsimp only
      have hB1 : Below V1.heap.size V1 w1 := bel_trans (bel_drew (Below.refl _ _)) hb1'
      refine hK _ _ ⟨HS.out w1 hB1, ?_⟩
      clear hK K
      try simp only [Act.put, List.setIfInBounds_toArray, List.set_cons_zero, List.set_cons_succ]
      refine oneA 11 ?_
      refine oper_wp_K fun K hK => ?_
      go_simp
      refine (one_at _ _ _).mono ?_
      rintro r w2 ⟨⟨g2', rfl, hi2⟩, hb2'⟩
      dsimp only
      have hB2 : Below V1.heap.size V1 w2 := bel_trans hB1 hb2'
      refine hK _ _ ⟨HS.out w2 hB2, ?_⟩
      clear hK K
      try simp only [Act.put, List.setIfInBounds_toArray, List.set_cons_zero, List.set_cons_succ]
      refine oneA 12 ?_
      refine oper_wp_K fun K hK => ?_
      go_simp
      refine hK _ _ ⟨HS.out _ (bel_alloc hB2 _), ?_⟩
      clear hK K
      try simp only [Act.put, List.setIfInBounds_toArray, List.set_cons_zero, List.set_cons_succ]
      refine oneA 13 ?_
      refine oper_wp_K fun K hK => ?_
      go_simp
      refine (row3 hd [(6, (k : Int))] [(3, sl x.name)] A cap (some ⟨g1', 0, none⟩) 1 (some ⟨g2', 0, none⟩) 1 w2 _ (hiV.out.later hB2) (hi1.later hb2') hi2 (by simp; omega)).mono ?_
      rintro r w3 ⟨⟨A3', c3', rfl, hi3⟩, hb3'⟩
      dsimp only
      have hB3 : Below V1.heap.size V1 w3 := bel_trans hB2 hb3'
      refine hK _ _ ⟨HS.out w3 hB3, ?_⟩
      clear hK K
      try simp only [Act.put, List.setIfInBounds_toArray, List.set_cons_zero, List.set_cons_succ]
      refine wpHT_done (by kernel_rfl) ?_
      refine anyA 14 ?_
      refine oper_wp_K fun K hK => ?_
      go_simp
      refine hK _ _ ?_
      clear hK K
      try simp only [Act.put, List.setIfInBounds_toArray, List.set_cons_zero, List.set_cons_succ]
      refine wpAny_end (by kernel_rfl) ?_
      go_wp2_with fail
      go_roundw
      case rel => exact ⟨k + 1, A3', c3', by omega, by rw [HI.out]; simp, by go_num, Lib.hid (by rw [HI.out]; exact hi3), bel_trans hbV hB3⟩
      case measure => simp [intOf]; omega
    · obtain rfl : k = p.ins.length := by omega
      rw [List.take_length] at hi
      have HI0 := hi
      have hH0 : (insC sl 0 p.ins).length ≤ 100 := by rw [insC_len]; have := HCLN.out.small.1; omega
      have yp4 : wr.cell? ⟨w.heap.size, 4, none⟩ = some (.slice A4 p.eqs.length c4) := bel_cell hbel p4
      have hbel0 := hbel
      clear hi
      rw [List.take_length]
      generalize hH : insC sl 0 p.ins = H0 at *
      obtain ⟨W2, rfl⟩ : ∃ W2, W2 = wr := ⟨wr, rfl⟩
      go_wp2_with fail
      go_loopw [8, 9, 13, 64] (fun h t kk i wr => ∃ (k : Nat) (A : Option Addr) (cap : Nat) (A' : Option Addr) (cap' : Nat), k ≤ p.eqs.length ∧ h = .slice A (H0 ++ oldC sl 0 (delayed (p.eqs.take k))).length cap ∧ t = .slice A' (newC sl fl (varsOf p) 0 (delayed (p.eqs.take k))).length cap' ∧ kk = .int .i32 ((delayed (p.eqs.take k)).length : Nat) ∧ i = .int .i64 k ∧ Hid (InsAt wr (H0 ++ oldC sl 0 (delayed (p.eqs.take k))) A cap) ∧ Hid (InsAt wr (newC sl fl (varsOf p) 0 (delayed (p.eqs.take k))) A' cap') ∧ Below W.heap.size W wr) (fun _ _ _ i _ => p.eqs.length - (intOf i).toNat)
      case atStart => exact ⟨0, A, cap, none, 0, Nat.zero_le _, by simp [delayed, oldC], by simp [delayed, newC], by simp [delayed], rfl, Lib.hid (by rw [show H0 ++ oldC sl 0 (delayed (p.eqs.take 0)) = H0 by simp [delayed, oldC]]; exact HI0.out), Lib.hid (insAt_nil _), hbel0⟩
      case round =>
        obtain ⟨k, A, cap, A', cap', hk, rfl, rfl, rfl, rfl, hi, hi', hbel⟩ := hrel
        have hzr := hbel.size
        have hbw : Below w.heap.size w wr := bel_trans hbW hbel
        by_cases hlt : k < p.eqs.length
        · have hx : p.eqs[k]? = some p.eqs[k] := List.getElem?_eq_getElem hlt
          have hmem : p.eqs[k] ∈ p.eqs := List.getElem_mem hlt
          have htk : p.eqs.take (k + 1) = p.eqs.take k ++ [p.eqs[k]] := by rw [List.take_succ_eq_append_getElem hlt]
          generalize p.eqs[k] = q at hx hmem htk
          have hqf := HCLN.out.eqs q hmem
          have hck := HCLN.out.clock hmem
          have hcode := fun c => HCLN.out.codes q hmem sl fl c
          obtain ⟨b, off, B1, k1, B2, k2, rfl, hbb2, ⟨d0', d1', d2', d3', d4', d5', d6', d7', d8', d9', sf, se⟩⟩ := (HEQ.out.later hbw).get hx
          have hsq : okS q.name := by unfold okS; have := hqf.name; unfold maxLen; omega
          have hde : delayed (p.eqs.take (k + 1)) = delayed (p.eqs.take k) ++ (if (q.delay != 0) = true then [q] else []) := by rw [htk, delayed_snoc]
          have hdl : (delayed (p.eqs.take k)).length ≤ 24 := by
            have := delayed_len (p.eqs.take k)
            rw [List.length_take] at this
            have := HCLN.out.small.2.2.2
            omega
          have hol : (H0 ++ oldC sl 0 (delayed (p.eqs.take k))).length ≤ 1000 := by rw [List.length_append, oldC_len]; omega
          have hnl : (newC sl fl (varsOf p) 0 (delayed (p.eqs.take k))).length ≤ 10000 := by
            have := newC_len sl fl (varsOf p) (delayed (p.eqs.take k)) 0 (fun y hy c => HCLN.out.codes y (List.mem_of_mem_take (delayed_mem hy).1) sl fl c)
            omega
          have HDE := Lib.hid hde
          cases tq : (q.delay == 0)
          · have tq2 : (q.delay != 0) = true := by rw [bne, tq]; rfl
            rw [if_pos tq2] at hde
            have hO : H0 ++ oldC sl 0 (delayed (p.eqs.take (k + 1))) = (H0 ++ oldC sl 0 (delayed (p.eqs.take k))) ++ [(4, ((delayed (p.eqs.take k)).length : Int))] ++ [(3, sl q.name)] := by
              rw [hde, oldC_snoc, Nat.zero_add]; simp [List.append_assoc]
            have hN : newC sl fl (varsOf p) 0 (delayed (p.eqs.take (k + 1))) = newC sl fl (varsOf p) 0 (delayed (p.eqs.take k)) ++ underC sl (clockL (varsOf p) q.name) (q.e.gen sl fl (clockL (varsOf p) q.name) ++ [(5, ((delayed (p.eqs.take k)).length : Int))]) := by
              rw [hde, newC_snoc, Nat.zero_add]
            have hL1 : (delayed (p.eqs.take (k + 1))).length = (delayed (p.eqs.take k)).length + 1 := by rw [hde, List.length_append]; rfl
            have HO := Lib.hid hO
            have HN := Lib.hid hN
            have HL1 := Lib.hid hL1
            have hclk := clkM2_get q.name (varsOf p)
            rw [show (varsOf p).foldl (fun c v => if q.name.data = v.name.data then (v.ck, v.cn) else c) (0, ⟨#[]⟩) = clockL (varsOf p) q.name from rfl] at hclk
            have hlct := HLAYW.out.clks
            generalize (delayed (p.eqs.take k)).length = nd at *
            generalize H0 ++ oldC sl 0 (delayed (p.eqs.take k)) = hd at *
            generalize newC sl fl (varsOf p) 0 (delayed (p.eqs.take k)) = td at *
            generalize clockL (varsOf p) q.name = CK at *
            obtain ⟨ck, cs⟩ := CK
            dsimp only at hck
            have hoc : okC (ck, cs) := ⟨by unfold I64; dsimp only; omega, by have := hck.1; unfold maxLen; dsimp only; omega⟩
            have hgl := hcode (ck, cs)
            have hul := under_len sl (ck, cs) (q.e.gen sl fl (ck, cs) ++ [(5, (nd : Int))])
            have hexp := expr_any X Bs Bf sl fl q.e hqf.formed (by have := hqf.size; omega) B2 k2 ck cs
            unfold exV at hexp
            have hkw : IntKind.i32.wrap ((nd : Int) + 1) = ((nd + 1 : Nat) : Int) := (w32_same (by unfold I32; omega)).trans (by omega)
            have hX0 := bel_cell hbel X0
            have hX1 := bel_cell hbel X1
            have HMT := Lib.hid (hlct.bel hbel)
            have HPL := Lib.hid (HPLAN.out.later hbel)
            have HMSr := Lib.hid (HMS.out.bel hbel)
            have HEX := Lib.hid hexp
            have HSE := Lib.hid se
            have hckk := hck.2
            clear hx hmem htk hde hO hN hL1 hlct hexp sf se hcode
            go_wp2_with fail
            refine wp_name fun V1 hV1 => ?_
            have hb1 : Below wr.heap.size wr V1 := by rw [hV1]; exact belA
            have hzV : V1.heap.size = wr.heap.size + 1 := by rw [hV1]; simp
            have z0 : V1.cell? ⟨wr.heap.size, 0, none⟩ = some (.string q.name) := by rw [hV1]; go_simp
            have z6 : V1.cell? ⟨wr.heap.size, 6, none⟩ = some (.int .i64 q.e.kind) := by rw [hV1]; go_simp
            have z7 : V1.cell? ⟨wr.heap.size, 7, none⟩ = some (.int .i32 q.e.n) := by rw [hV1]; go_simp
            have z8 : V1.cell? ⟨wr.heap.size, 8, none⟩ = some (.string q.e.name) := by rw [hV1]; go_simp
            have z9 : V1.cell? ⟨wr.heap.size, 9, none⟩ = some (.slice B2 q.e.sub.length k2) := by rw [hV1]; go_simp
            have hXV0 := bel_cell hb1 hX0
            have hXV1 := bel_cell hb1 hX1
            have hSA : ∀ w', Below V1.heap.size V1 w' → w'.cell? ⟨X, 0, none⟩ = some (.map (some Bs)) ∧ w'.cell? ⟨wr.heap.size, 0, none⟩ = some (.string q.name) ∧ (Instr.lookup 70 (.map (some Bs)) (.string q.name) false).run Tryd.prog w' = .ok (.int .i32 (sl q.name)) w' := fun w' hb =>
              ⟨bel_cell hb hXV0, bel_cell hb z0, run_lkG (keyS Tryd.underlying9) (x := .string q.name) Tryd.underlying70 Tryd.underlying21 (zeroI32 _) rfl (HMSr.out.bel (bel_trans hb1 hb)) hsq (HFS.out _ hsq)⟩
            have hSB : ∀ w', Below V1.heap.size V1 w' → w'.cell? ⟨X, 1, none⟩ = some (.map (some Bt)) ∧ w'.cell? ⟨wr.heap.size, 0, none⟩ = some (.string q.name) ∧ (Instr.lookup 71 (.map (some Bt)) (.string q.name) false).run Tryd.prog w' = .ok (.agg #[.int .i64 ck, .string cs]) w' := fun w' hb =>
              ⟨bel_cell hb hXV1, bel_cell hb z0, run_lkV (keyS Tryd.underlying9) valClk Tryd.underlying71 (zeroClk18 w') ⟨by unfold I64; omega, by decide⟩ (x := .string q.name) rfl (HMT.out.bel (bel_trans hb1 hb)) hsq hclk⟩
            have HSA := Lib.hid hSA
            have HSB := Lib.hid hSB
            have hiV := Lib.hid (hi.out.later hb1)
            have hiV' := Lib.hid (hi'.out.later hb1)
            have hbV : Below W.heap.size W V1 := bel_trans hbel hb1
            have hbwV : Below w.heap.size w V1 := bel_trans hbw hb1
            have HPL1 := Lib.hid (HPL.out.later hb1)
            have l2 := hi.out.1
            have m2 := hi.out.2.1
            have l2' := hi'.out.1
            have m2' := hi'.out.2.1
            unfold maxLen at m2 m2'
            have Z6 := Lib.hid z6
            have Z7 := Lib.hid z7
            have Z8 := Lib.hid z8
            have Z9 := Lib.hid z9
            clear hV1 hSA hSB z0 z6 z7 z8 z9 hXV0 hXV1 hX0 hX1 hclk d0' d1' d2' d3' d4' d5' d6' d7' d8' d9'
            have hS0 := HSA.out V1.drew (bel_drew (Below.refl _ _))
            refine wp_region_ht (fun w' => w'.cell? ⟨X, 0, none⟩ = some (.map (some Bs)) ∧ w'.cell? ⟨wr.heap.size, 0, none⟩ = some (.string q.name) ∧ (Instr.lookup 70 (.map (some Bs)) (.string q.name) false).run Tryd.prog w' = .ok (.int .i32 (sl q.name)) w') 13 1 (by kernel_rfl) (by rfl) ?_
            simp only [List.size_toArray, List.length_cons, List.length_nil, Nat.zero_add, Nat.reduceAdd]
            refine takeA (v := ?_) 0 hS0 ?_ ?_
            rotate_left
            · intro w' hSw
              go_simp
              first | done | with_reducible rfl
            try simp only [Act.put, List.setIfInBounds_toArray, List.set_cons_zero, List.set_cons_succ]
            refine takeA (v := ?_) 1 hS0 ?_ ?_
            rotate_left
            · intro w' hSw
              go_simp
              first | done | with_reducible rfl
            try simp only [Act.put, List.setIfInBounds_toArray, List.set_cons_zero, List.set_cons_succ]
            refine takeA (v := ?_) 3 hS0 ?_ ?_
            rotate_left
            · intro w' hSw
              go_simp
              first | done | with_reducible rfl
            try simp only [Act.put, List.setIfInBounds_toArray, List.set_cons_zero, List.set_cons_succ]
            refine takeA (v := ?_) 4 hS0 ?_ ?_
            rotate_left
            · intro w' hSw
              go_simp
              first | done | with_reducible rfl
            try simp only [Act.put, List.setIfInBounds_toArray, List.set_cons_zero, List.set_cons_succ]
            refine takeA (v := ?_) 5 hS0 ?_ ?_
            rotate_left
            · intro w' hSw
              go_simp
              first | done | with_reducible rfl
            try simp only [Act.put, List.setIfInBounds_toArray, List.set_cons_zero, List.set_cons_succ]
            refine takeA (v := ?_) 6 hS0 ?_ ?_
            rotate_left
            · intro w' hSw
              go_simp
              first | done | with_reducible rfl
            try simp only [Act.put, List.setIfInBounds_toArray, List.set_cons_zero, List.set_cons_succ]
            refine takeA (v := ?_) 7 hS0 ?_ ?_
            rotate_left
            · intro w' hSw
              go_simp
              first | done | with_reducible rfl
            try simp only [Act.put, List.setIfInBounds_toArray, List.set_cons_zero, List.set_cons_succ]
            refine takeA (v := ?_) 8 hS0 ?_ ?_
            rotate_left
            · intro w' hSw
              go_simp
              first | done | with_reducible rfl
            try simp only [Act.put, List.setIfInBounds_toArray, List.set_cons_zero, List.set_cons_succ]
            refine takeA (v := ?_) 9 hS0 ?_ ?_
            rotate_left
            · intro w' hSw
              go_simp
              first | done | with_reducible rfl
            try simp only [Act.put, List.setIfInBounds_toArray, List.set_cons_zero, List.set_cons_succ]
            refine oneA 2 ?_
            refine oper_wp_K fun K hK => ?_
            go_simp
            refine (one_at _ _ _).mono ?_
            rintro r w1 ⟨⟨g1', rfl, hi1⟩, hb1'⟩
            dsimp only
            have hB1 : Below V1.heap.size V1 w1 := bel_trans (bel_drew (Below.refl _ _)) hb1'
            refine hK _ _ ⟨HSA.out w1 hB1, ?_⟩
            clear hK K
            try simp only [Act.put, List.setIfInBounds_toArray, List.set_cons_zero, List.set_cons_succ]
            refine oneA 10 ?_
            refine oper_wp_K fun K hK => ?_
            go_simp
            refine (one_at _ _ _).mono ?_
            rintro r w2 ⟨⟨g2', rfl, hi2⟩, hb2'⟩
            dsimp only
            have hB2 : Below V1.heap.size V1 w2 := bel_trans hB1 hb2'
            refine hK _ _ ⟨HSA.out w2 hB2, ?_⟩
            clear hK K
            try simp only [Act.put, List.setIfInBounds_toArray, List.set_cons_zero, List.set_cons_succ]
            refine oneA 11 ?_
            refine oper_wp_K fun K hK => ?_
            go_simp
            refine hK _ _ ⟨HSA.out _ (bel_alloc hB2 _), ?_⟩
            clear hK K
            try simp only [Act.put, List.setIfInBounds_toArray, List.set_cons_zero, List.set_cons_succ]
            refine oneA 12 ?_
            refine oper_wp_K fun K hK => ?_
            go_simp
            refine (row3 hd [(4, (nd : Int))] [(3, sl q.name)] A cap (some ⟨g1', 0, none⟩) 1 (some ⟨g2', 0, none⟩) 1 w2 _ (hiV.out.later hB2) (hi1.later hb2') hi2 (by simp; omega)).mono ?_
            rintro r w3 ⟨⟨A3', c3', rfl, hi3⟩, hb3'⟩
            dsimp only
            have hB3 : Below V1.heap.size V1 w3 := bel_trans hB2 hb3'
            refine hK _ _ ⟨HSA.out w3 hB3, ?_⟩
            clear hK K
            try simp only [Act.put, List.setIfInBounds_toArray, List.set_cons_zero, List.set_cons_succ]
            refine wpHT_done (by kernel_rfl) ?_
            refine anyA 13 ?_
            refine oper_wp_K fun K hK => ?_
            go_simp
            refine hK _ _ ?_
            clear hK K
            try simp only [Act.put, List.setIfInBounds_toArray, List.set_cons_zero, List.set_cons_succ]
            refine wpAny_end (by kernel_rfl) ?_
            have hz3 := hB3.size
            have HI3 := Lib.hid hi3
            have hS1 := HSB.out w3.drew (bel_drew hB3)
            clear hS0 hi1 hi2 hi3 hb1' hb2' hb3' hB1 hB2
            go_wp2_with fail
            refine wp_region_ht (fun w' => w'.cell? ⟨X, 1, none⟩ = some (.map (some Bt)) ∧ w'.cell? ⟨wr.heap.size, 0, none⟩ = some (.string q.name) ∧ (Instr.lookup 71 (.map (some Bt)) (.string q.name) false).run Tryd.prog w' = .ok (.agg #[.int .i64 ck, .string cs]) w') 8 1 (by kernel_rfl) (by rfl) ?_
            simp only [List.size_toArray, List.length_cons, List.length_nil, Nat.zero_add, Nat.reduceAdd]
            refine takeA (v := ?_) 0 hS1 ?_ ?_
            rotate_left
            · intro w' hSw
              go_simp
              first | done | with_reducible rfl
            try simp only [Act.put, List.setIfInBounds_toArray, List.set_cons_zero, List.set_cons_succ]
            refine takeA (v := ?_) 1 hS1 ?_ ?_
            rotate_left
            · intro w' hSw
              go_simp
              first | done | with_reducible rfl
            try simp only [Act.put, List.setIfInBounds_toArray, List.set_cons_zero, List.set_cons_succ]
            refine takeA (v := ?_) 2 hS1 ?_ ?_
            rotate_left
            · intro w' hSw
              go_simp
              first | done | with_reducible rfl
            try simp only [Act.put, List.setIfInBounds_toArray, List.set_cons_zero, List.set_cons_succ]
            refine takeA (v := ?_) 3 hS1 ?_ ?_
            rotate_left
            · intro w' hSw
              go_simp
              first | done | with_reducible rfl
            try simp only [Act.put, List.setIfInBounds_toArray, List.set_cons_zero, List.set_cons_succ]
            refine takeA (v := ?_) 4 hS1 ?_ ?_
            rotate_left
            · intro w' hSw
              go_simp
              first | done | with_reducible rfl
            try simp only [Act.put, List.setIfInBounds_toArray, List.set_cons_zero, List.set_cons_succ]
            refine takeA (v := ?_) 5 hS1 ?_ ?_
            rotate_left
            · intro w' hSw
              go_simp
              first | done | with_reducible rfl
            try simp only [Act.put, List.setIfInBounds_toArray, List.set_cons_zero, List.set_cons_succ]
            refine takeA (v := ?_) 6 hS1 ?_ ?_
            rotate_left
            · intro w' hSw
              go_simp
              first | done | with_reducible rfl
            try simp only [Act.put, List.setIfInBounds_toArray, List.set_cons_zero, List.set_cons_succ]
            refine oneA 7 ?_
            refine oper_wp_K fun K hK => ?_
            go_simp
            refine hK _ _ ⟨HSB.out _ (bel_drew (bel_alloc hB3 _)), ?_⟩
            clear hK K
            try simp only [Act.put, List.setIfInBounds_toArray, List.set_cons_zero, List.set_cons_succ]
            refine wpHT_done (by kernel_rfl) ?_
            refine anyA 8 ?_
            refine oper_wp_K fun K hK => ?_
            go_simp
            refine hK _ _ ?_
            clear hK K
            try simp only [Act.put, List.setIfInBounds_toArray, List.set_cons_zero, List.set_cons_succ]
            refine wpAny_end (by kernel_rfl) ?_
            refine exit_nm fun V2 hV2 => ?_
            have c0' : V2.cell? ⟨w3.heap.size, 0, none⟩ = some (.int .i64 ck) := by rw [hV2, drew_cell]; go_simp
            have c1' : V2.cell? ⟨w3.heap.size, 1, none⟩ = some (.string cs) := by rw [hV2, drew_cell]; go_simp
            have hB4 : Below V1.heap.size V1 V2 := by rw [hV2]; exact bel_drew (bel_alloc hB3 _)
            have hb34 : Below w3.heap.size w3 V2 := by rw [hV2]; exact bel_drew (bel_alloc (Below.refl _ _) _)
            have hSD : ∀ w', Below V2.heap.size V2 w' → w'.cell? ⟨wr.heap.size, 6, none⟩ = some (.int .i64 q.e.kind) ∧ w'.cell? ⟨wr.heap.size, 7, none⟩ = some (.int .i32 q.e.n) ∧ w'.cell? ⟨wr.heap.size, 8, none⟩ = some (.string q.e.name) ∧ w'.cell? ⟨wr.heap.size, 9, none⟩ = some (.slice B2 q.e.sub.length k2) ∧ w'.cell? ⟨w3.heap.size, 0, none⟩ = some (.int .i64 ck) ∧ w'.cell? ⟨w3.heap.size, 1, none⟩ = some (.string cs) := fun w' hb =>
              ⟨bel_cell hb (bel_cell hB4 Z6.out), bel_cell hb (bel_cell hB4 Z7.out), bel_cell hb (bel_cell hB4 Z8.out), bel_cell hb (bel_cell hB4 Z9.out), bel_cell hb c0', bel_cell hb c1'⟩
            have HSD := Lib.hid hSD
            have HI4 := Lib.hid (HI3.out.later hb34)
            have HTV := Lib.hid (hiV'.out.later hB4)
            have HP4 := Lib.hid (HPL1.out.later hB4)
            have hbw4 : Below w.heap.size w V2 := bel_trans hbwV hB4
            have hbw0 : Below wr.heap.size wr V2 := bel_trans hb1 hB4
            have hS2 := hSD V2.drew (bel_drew (Below.refl _ _))
            clear hS1 hV2 hSD c0' c1' HI3 hz3 HSA HSB
            go_wp2_with fail
            refine wp_region_ht (fun w' => w'.cell? ⟨wr.heap.size, 6, none⟩ = some (.int .i64 q.e.kind) ∧ w'.cell? ⟨wr.heap.size, 7, none⟩ = some (.int .i32 q.e.n) ∧ w'.cell? ⟨wr.heap.size, 8, none⟩ = some (.string q.e.name) ∧ w'.cell? ⟨wr.heap.size, 9, none⟩ = some (.slice B2 q.e.sub.length k2) ∧ w'.cell? ⟨w3.heap.size, 0, none⟩ = some (.int .i64 ck) ∧ w'.cell? ⟨w3.heap.size, 1, none⟩ = some (.string cs)) 15 1 (by kernel_rfl) (by rfl) ?_
            simp only [List.size_toArray, List.length_cons, List.length_nil, Nat.zero_add, Nat.reduceAdd]
            refine takeA (v := ?_) 0 hS2 ?_ ?_
            rotate_left
            · intro w' hSw
              go_simp
              first | done | with_reducible rfl
            try simp only [Act.put, List.setIfInBounds_toArray, List.set_cons_zero, List.set_cons_succ]
            refine takeA (v := ?_) 1 hS2 ?_ ?_
            rotate_left
            · intro w' hSw
              go_simp
              first | done | with_reducible rfl
            try simp only [Act.put, List.setIfInBounds_toArray, List.set_cons_zero, List.set_cons_succ]
            refine takeA (v := ?_) 2 hS2 ?_ ?_
            rotate_left
            · intro w' hSw
              go_simp
              first | done | with_reducible rfl
            try simp only [Act.put, List.setIfInBounds_toArray, List.set_cons_zero, List.set_cons_succ]
            refine takeA (v := ?_) 3 hS2 ?_ ?_
            rotate_left
            · intro w' hSw
              go_simp
              first | done | with_reducible rfl
            try simp only [Act.put, List.setIfInBounds_toArray, List.set_cons_zero, List.set_cons_succ]
            refine takeA (v := ?_) 4 hS2 ?_ ?_
            rotate_left
            · intro w' hSw
              go_simp
              first | done | with_reducible rfl
            try simp only [Act.put, List.setIfInBounds_toArray, List.set_cons_zero, List.set_cons_succ]
            refine takeA (v := ?_) 5 hS2 ?_ ?_
            rotate_left
            · intro w' hSw
              go_simp
              first | done | with_reducible rfl
            try simp only [Act.put, List.setIfInBounds_toArray, List.set_cons_zero, List.set_cons_succ]
            refine takeA (v := ?_) 6 hS2 ?_ ?_
            rotate_left
            · intro w' hSw
              go_simp
              first | done | with_reducible rfl
            try simp only [Act.put, List.setIfInBounds_toArray, List.set_cons_zero, List.set_cons_succ]
            refine takeA (v := ?_) 8 hS2 ?_ ?_
            rotate_left
            · intro w' hSw
              go_simp
              first | done | with_reducible rfl
            try simp only [Act.put, List.setIfInBounds_toArray, List.set_cons_zero, List.set_cons_succ]
            refine oneA 7 ?_
            refine oper_wp_K fun K hK => ?_
            go_simp
            refine (HEX.out V2.drew (HP4.out.later (bel_drew (Below.refl _ _))) (HSE.out.later (bel_drew (bel_trans hb1 hB4))) hoc).mono ?_
            rintro r w4 ⟨⟨A4', c4', rfl, hi4⟩, hb4'⟩
            dsimp only
            have hC4 : Below V2.heap.size V2 w4 := bel_trans (bel_drew (Below.refl _ _)) hb4'
            refine hK _ _ ⟨HSD.out w4 hC4, ?_⟩
            clear hK K
            try simp only [Act.put, List.setIfInBounds_toArray, List.set_cons_zero, List.set_cons_succ]
            refine oneA 9 ?_
            refine oper_wp_K fun K hK => ?_
            go_simp
            refine (one_at _ _ _).mono ?_
            rintro r w5 ⟨⟨g5', rfl, hi5⟩, hb5'⟩
            dsimp only
            have hC5 : Below V2.heap.size V2 w5 := bel_trans hC4 hb5'
            refine hK _ _ ⟨HSD.out w5 hC5, ?_⟩
            clear hK K
            try simp only [Act.put, List.setIfInBounds_toArray, List.set_cons_zero, List.set_cons_succ]
            refine oneA 10 ?_
            refine oper_wp_K fun K hK => ?_
            go_simp
            refine hK _ _ ⟨HSD.out _ (bel_alloc hC5 _), ?_⟩
            clear hK K
            try simp only [Act.put, List.setIfInBounds_toArray, List.set_cons_zero, List.set_cons_succ]
            refine oneA 11 ?_
            refine oper_wp_K fun K hK => ?_
            go_simp
            refine (row2 (q.e.gen sl fl (ck, cs)) [(5, (nd : Int))] A4' c4' (some ⟨g5', 0, none⟩) 1 w5 _ (hi4.later hb5') hi5 (by simp; omega)).mono ?_
            rintro r w6 ⟨⟨A6', c6', rfl, hi6⟩, hb6'⟩
            dsimp only
            have hl6 : (q.e.gen sl fl (ck, cs) ++ [(5, (nd : Int))]).length ≤ 400 := (by rw [List.length_append]; simp only [List.length_cons, List.length_nil]; omega); have hC6 : Below V2.heap.size V2 w6 := bel_trans hC5 hb6'; generalize q.e.gen sl fl (ck, cs) ++ [(5, (nd : Int))] = l6 at *
            refine hK _ _ ⟨HSD.out w6 hC6, ?_⟩
            clear hK K
            try simp only [Act.put, List.setIfInBounds_toArray, List.set_cons_zero, List.set_cons_succ]
            refine oneA 12 ?_
            refine oper_wp_K fun K hK => ?_
            go_simp
            refine (under_any X Bs Bf sl fl ck cs l6 A6' c6' w6 (HP4.out.later hC6) hoc hckk hi6 (by omega)).mono ?_
            rintro r w7 ⟨⟨A7', c7', rfl, hi7⟩, hb7'⟩
            dsimp only
            have hC7 : Below V2.heap.size V2 w7 := bel_trans hC6 hb7'
            refine hK _ _ ⟨HSD.out w7 hC7, ?_⟩
            clear hK K
            try simp only [Act.put, List.setIfInBounds_toArray, List.set_cons_zero, List.set_cons_succ]
            refine oneA 13 ?_
            refine oper_wp_K fun K hK => ?_
            go_simp
            refine hK _ _ ⟨HSD.out _ (bel_alloc hC7 _), ?_⟩
            clear hK K
            try simp only [Act.put, List.setIfInBounds_toArray, List.set_cons_zero, List.set_cons_succ]
            refine oneA 14 ?_
            refine oper_wp_K fun K hK => ?_
            go_simp
            refine (row2 td (underC sl (ck, cs) l6) A' cap' A7' c7' w7 _ (HTV.out.later hC7) hi7 (by omega)).mono ?_
            rintro r w8 ⟨⟨A8', c8', rfl, hi8⟩, hb8'⟩
            dsimp only
            have hC8 : Below V2.heap.size V2 w8 := bel_trans hC7 hb8'
            refine hK _ _ ⟨HSD.out w8 hC8, ?_⟩
            clear hK K
            try simp only [Act.put, List.setIfInBounds_toArray, List.set_cons_zero, List.set_cons_succ]
            refine wpHT_done (by kernel_rfl) ?_
            refine anyA 15 ?_
            refine oper_wp_K fun K hK => ?_
            go_simp
            refine hK _ _ ?_
            clear hK K
            try simp only [Act.put, List.setIfInBounds_toArray, List.set_cons_zero, List.set_cons_succ]
            refine wpAny_end (by kernel_rfl) ?_
            have HI8 := Lib.hid hi8
            have HIh := Lib.hid (HI4.out.later hC8)
            have hbE : Below W.heap.size W w8 := bel_trans hbel (bel_trans hbw0 hC8)
            clear hS2 hi4 hi5 hi6 hi7 hi8 HSD
            go_wp2_with fail
            go_roundw
            case rel => exact ⟨k + 1, A3', c3', A8', c8', by omega, by rw [HO.out]; simp, by rw [HN.out]; simp, by rw [HL1.out]; first | (simp; done) | (congr 1; omega), by go_num, Lib.hid (by rw [HO.out]; exact HIh.out), Lib.hid (by rw [HN.out]; exact HI8.out), hbE⟩
            case measure => simp [intOf]; omega
          · have tq2 : (q.delay != 0) = false := by rw [bne, tq]; rfl
            rw [if_neg (by rw [tq2]; decide), List.append_nil] at hde
            clear hx hmem htk hcode sf se hck
            go_wp2_with fail
            go_roundw
            case rel => exact ⟨k + 1, A, cap, A', cap', by omega, by rw [hde], by rw [hde], by rw [hde], by go_num, Lib.hid (by rw [hde]; exact hi.out.later (bel_alloc (Below.refl _ _) _)), Lib.hid (by rw [hde]; exact hi'.out.later (bel_alloc (Below.refl _ _) _)), bel_alloc hbel _⟩
            case measure => simp [intOf]; omega
        · obtain rfl : k = p.eqs.length := by omega
          rw [List.take_length] at hi hi'
          rw [List.take_length]
          have hnd : (delayed p.eqs).length ≤ 24 := by
            have := delayed_len p.eqs
            have := HCLN.out.small.2.2.2
            omega
          have hcs : cellsL p = (delayed p.eqs).map (eqCe (varsOf p)) ++ flagsOf (metE (varsOf p) p.eqs) (allC (varsOf p)) := rfl
          have hndc : (delayed p.eqs).length ≤ (cellsL p).length := by rw [hcs, List.length_append, List.length_map]; omega
          have hol : (H0 ++ oldC sl 0 (delayed p.eqs)).length ≤ 1000 := by rw [List.length_append, oldC_len]; omega
          have hnl : (newC sl fl (varsOf p) 0 (delayed p.eqs)).length ≤ 10000 := by
            have := newC_len sl fl (varsOf p) (delayed p.eqs) 0 (fun y hy c => HCLN.out.codes y (delayed_mem hy).1 sl fl c)
            omega
          have HCD : Hid (codeL p = H0 ++ oldC sl 0 (delayed p.eqs) ++ ordC sl fl (varsOf p) p.eqs (orderE p).1 ++ (newC sl fl (varsOf p) 0 (delayed p.eqs) ++ flgC sl (delayed p.eqs).length ((cellsL p).drop (delayed p.eqs).length) ++ outC sl 0 p.outs)) := Lib.hid (by unfold codeL; rw [hsl, hfl, hH]; simp [List.append_assoc])
          have hbel1 := hbel
          generalize hH1 : H0 ++ oldC sl 0 (delayed p.eqs) = H1 at *
          generalize hT0 : newC sl fl (varsOf p) 0 (delayed p.eqs) = T0 at *
          generalize hndd : (delayed p.eqs).length = nd at *
          have HIH := hi
          have HIT := hi'
          obtain ⟨W3, rfl⟩ : ∃ W3, W3 = wr := ⟨wr, rfl⟩
          obtain ⟨hcc1, hcc2, _⟩ := id HCESW.out
          unfold maxLen at hcc2
          clear hi hi' hcs
          go_wp2_with fail
          go_loopw [9, 13] (fun t kk wr => ∃ (m j : Nat) (A' : Option Addr) (cap' : Nat), Hid (j = nd + m) ∧ m ≤ ((cellsL p).drop nd).length ∧ t = .slice A' (T0 ++ flgC sl nd (((cellsL p).drop nd).take m)).length cap' ∧ kk = .int .i32 (j : Int) ∧ Hid (InsAt wr (T0 ++ flgC sl nd (((cellsL p).drop nd).take m)) A' cap') ∧ Below W3.heap.size W3 wr) (fun _ kk _ => (cellsL p).length - (intOf kk).toNat)
          case atStart => exact ⟨0, nd, A', cap', Lib.hid rfl, Nat.zero_le _, by simp [flgC], rfl, Lib.hid (by rw [show T0 ++ flgC sl nd (((cellsL p).drop nd).take 0) = T0 by simp [flgC]]; exact HIT.out), Below.refl _ _⟩
          case round =>
            obtain ⟨m, j, A', cap', hj, hm, rfl, rfl, hi', hbel3⟩ := hrel
            have hbel : Below W.heap.size W wr := bel_trans hbel1 hbel3
            have hzr := hbel.size
            have hbw : Below w.heap.size w wr := bel_trans hbW hbel
            have hdl : ((cellsL p).drop nd).length = (cellsL p).length - nd := List.length_drop ..
            have hjle : j ≤ (cellsL p).length := by have := hj.out; omega
            have hkw : IntKind.i64.wrap (j : Int) = (j : Int) := wrap64_same (by unfold I64; omega)
            by_cases hlt : m < ((cellsL p).drop nd).length
            · have hlt2 : j < (cellsL p).length := by have := hj.out; omega
              have hlt3 : (j : Int) < ((cellsL p).length : Int) := by omega
              have hx : (cellsL p)[j]? = some (cellsL p)[j] := List.getElem?_eq_getElem hlt2
              have hmem : (cellsL p)[j] ∈ cellsL p := List.getElem_mem hlt2
              have htk : ((cellsL p).drop nd).take (m + 1) = ((cellsL p).drop nd).take m ++ [(cellsL p)[j]] := by rw [List.take_succ_eq_append_getElem hlt, List.getElem_drop]; simp [hj.out]
              generalize (cellsL p)[j] = x at hx hmem htk
              have hcx := HCLN.out.cells hmem
              have hoc : okC (x.ck, x.cn) := HCOK.out x hmem
              have hF : T0 ++ flgC sl nd (((cellsL p).drop nd).take (m + 1)) = (T0 ++ flgC sl nd (((cellsL p).drop nd).take m)) ++ underC sl (x.ck, x.cn) ([(1, 1)] ++ [(5, (j : Int))]) := by
                rw [htk, flgC_snoc, List.length_take, show min m ((cellsL p).drop nd).length = m from by omega, List.append_assoc, hj.out]; rfl
              have hfl2 := flgC_len sl (((cellsL p).drop nd).take m) nd
              rw [List.length_take] at hfl2
              have htl : (T0 ++ flgC sl nd (((cellsL p).drop nd).take m)).length ≤ 20000 := by rw [List.length_append]; omega
              have hul := under_len sl (x.ck, x.cn) ([(1, 1)] ++ [(5, (j : Int))])
              obtain ⟨b, off, rfl, hcc⟩ := (HCESW.out.later hbel).2.2.2 (by omega)
              have hat := cesC_at (cellsL p) j x hx
              have d1' : wr.cell? ⟨b, off + j * 4 + 1, none⟩ = some (.int .i64 x.ck) := hcc _ _ hat.2.1
              have d2' : wr.cell? ⟨b, off + j * 4 + 2, none⟩ = some (.string x.cn) := hcc _ _ hat.2.2.1
              have HF := Lib.hid hF
              have hSE : ∀ w', Below wr.heap.size wr w' → w'.cell? ⟨b, off + j * 4 + 1, none⟩ = some (.int .i64 x.ck) ∧ w'.cell? ⟨b, off + j * 4 + 2, none⟩ = some (.string x.cn) := fun w' hb => ⟨bel_cell hb d1', bel_cell hb d2'⟩
              have HSE := Lib.hid hSE
              have hS0 := hSE wr.drew (bel_drew (Below.refl _ _))
              have HPL := Lib.hid (HPLAN.out.later hbel)
              have l2' := hi'.out.1
              have m2' := hi'.out.2.1
              unfold maxLen at m2'
              have hckk := hcx.1
              have hkw2 : IntKind.i32.wrap ((j : Int) + 1) = ((j + 1 : Nat) : Int) := (w32_same (by unfold I32; omega)).trans (by omega)
              clear hx hmem htk hcx hF hcc hat hSE d1' d2'
              generalize T0 ++ flgC sl nd (((cellsL p).drop nd).take m) = td at *
              go_wp2_with fail
              refine wp_region_ht (fun w' => w'.cell? ⟨b, off + j * 4 + 1, none⟩ = some (.int .i64 x.ck) ∧ w'.cell? ⟨b, off + j * 4 + 2, none⟩ = some (.string x.cn)) 15 1 (by kernel_rfl) (by rfl) ?_
              simp only [List.size_toArray, List.length_cons, List.length_nil, Nat.zero_add, Nat.reduceAdd]
              refine takeA (v := ?_) 0 hS0 ?_ ?_
              rotate_left
              · intro w' hSw
                go_simp
                first | done | with_reducible rfl
              try simp only [Act.put, List.setIfInBounds_toArray, List.set_cons_zero, List.set_cons_succ]
              refine takeA (v := ?_) 1 hS0 ?_ ?_
              rotate_left
              · intro w' hSw
                go_simp
                first | done | with_reducible rfl
              try simp only [Act.put, List.setIfInBounds_toArray, List.set_cons_zero, List.set_cons_succ]
              refine takeA (v := ?_) 2 hS0 ?_ ?_
              rotate_left
              · intro w' hSw
                go_simp
                first | done | with_reducible rfl
              try simp only [Act.put, List.setIfInBounds_toArray, List.set_cons_zero, List.set_cons_succ]
              refine takeA (v := ?_) 3 hS0 ?_ ?_
              rotate_left
              · intro w' hSw
                go_simp
                first | done | with_reducible rfl
              try simp only [Act.put, List.setIfInBounds_toArray, List.set_cons_zero, List.set_cons_succ]
              refine takeA (v := ?_) 4 hS0 ?_ ?_
              rotate_left
              · intro w' hSw
                go_simp
                first | done | with_reducible rfl
              try simp only [Act.put, List.setIfInBounds_toArray, List.set_cons_zero, List.set_cons_succ]
              refine takeA (v := ?_) 5 hS0 ?_ ?_
              rotate_left
              · intro w' hSw
                go_simp
                first | done | with_reducible rfl
              try simp only [Act.put, List.setIfInBounds_toArray, List.set_cons_zero, List.set_cons_succ]
              refine takeA (v := ?_) 6 hS0 ?_ ?_
              rotate_left
              · intro w' hSw
                go_simp
                first | done | with_reducible rfl
              try simp only [Act.put, List.setIfInBounds_toArray, List.set_cons_zero, List.set_cons_succ]
              refine takeA (v := ?_) 8 hS0 ?_ ?_
              rotate_left
              · intro w' hSw
                go_simp
                first | done | with_reducible rfl
              try simp only [Act.put, List.setIfInBounds_toArray, List.set_cons_zero, List.set_cons_succ]
              refine oneA 7 ?_
              refine oper_wp_K fun K hK => ?_
              go_simp
              refine (one_at _ _ _).mono ?_
              rintro r w4 ⟨⟨g4', rfl, hi4⟩, hb4'⟩
              dsimp only
              have hC4 : Below wr.heap.size wr w4 := bel_trans (bel_drew (Below.refl _ _)) hb4'
              refine hK _ _ ⟨HSE.out w4 hC4, ?_⟩
              clear hK K
              try simp only [Act.put, List.setIfInBounds_toArray, List.set_cons_zero, List.set_cons_succ]
              refine oneA 9 ?_
              refine oper_wp_K fun K hK => ?_
              go_simp
              refine (one_at _ _ _).mono ?_
              rintro r w5 ⟨⟨g5', rfl, hi5⟩, hb5'⟩
              dsimp only
              have hC5 : Below wr.heap.size wr w5 := bel_trans hC4 hb5'
              refine hK _ _ ⟨HSE.out w5 hC5, ?_⟩
              clear hK K
              try simp only [Act.put, List.setIfInBounds_toArray, List.set_cons_zero, List.set_cons_succ]
              refine oneA 10 ?_
              refine oper_wp_K fun K hK => ?_
              go_simp
              refine hK _ _ ⟨HSE.out _ (bel_alloc hC5 _), ?_⟩
              clear hK K
              try simp only [Act.put, List.setIfInBounds_toArray, List.set_cons_zero, List.set_cons_succ]
              refine oneA 11 ?_
              refine oper_wp_K fun K hK => ?_
              go_simp
              refine (row2 [(1, 1)] [(5, (j : Int))] (some ⟨g4', 0, none⟩) 1 (some ⟨g5', 0, none⟩) 1 w5 _ (hi4.later hb5') hi5 (by simp)).mono ?_
              rintro r w6 ⟨⟨A6', c6', rfl, hi6⟩, hb6'⟩
              dsimp only
              have hl6 : ([((1 : Int), (1 : Int))] ++ [((5 : Int), (j : Int))]).length ≤ 400 := (by simp); have hC6 : Below wr.heap.size wr w6 := bel_trans hC5 hb6'; generalize [((1 : Int), (1 : Int))] ++ [((5 : Int), (j : Int))] = l6 at *
              refine hK _ _ ⟨HSE.out w6 hC6, ?_⟩
              clear hK K
              try simp only [Act.put, List.setIfInBounds_toArray, List.set_cons_zero, List.set_cons_succ]
              refine oneA 12 ?_
              refine oper_wp_K fun K hK => ?_
              go_simp
              refine (under_any X Bs Bf sl fl x.ck x.cn l6 A6' c6' w6 (HPL.out.later hC6) hoc hckk hi6 (by omega)).mono ?_
              rintro r w7 ⟨⟨A7', c7', rfl, hi7⟩, hb7'⟩
              dsimp only
              have hC7 : Below wr.heap.size wr w7 := bel_trans hC6 hb7'
              refine hK _ _ ⟨HSE.out w7 hC7, ?_⟩
              clear hK K
              try simp only [Act.put, List.setIfInBounds_toArray, List.set_cons_zero, List.set_cons_succ]
              refine oneA 13 ?_
              refine oper_wp_K fun K hK => ?_
              go_simp
              refine hK _ _ ⟨HSE.out _ (bel_alloc hC7 _), ?_⟩
              clear hK K
              try simp only [Act.put, List.setIfInBounds_toArray, List.set_cons_zero, List.set_cons_succ]
              refine oneA 14 ?_
              refine oper_wp_K fun K hK => ?_
              go_simp
              refine (row2 td (underC sl (x.ck, x.cn) l6) A' cap' A7' c7' w7 _ (hi'.out.later hC7) hi7 (by omega)).mono ?_
              rintro r w8 ⟨⟨A8', c8', rfl, hi8⟩, hb8'⟩
              dsimp only
              have hC8 : Below wr.heap.size wr w8 := bel_trans hC7 hb8'
              refine hK _ _ ⟨HSE.out w8 hC8, ?_⟩
              clear hK K
              try simp only [Act.put, List.setIfInBounds_toArray, List.set_cons_zero, List.set_cons_succ]
              refine wpHT_done (by kernel_rfl) ?_
              refine anyA 15 ?_
              refine oper_wp_K fun K hK => ?_
              go_simp
              refine hK _ _ ?_
              clear hK K
              try simp only [Act.put, List.setIfInBounds_toArray, List.set_cons_zero, List.set_cons_succ]
              refine wpAny_end (by kernel_rfl) ?_
              have HI8 := Lib.hid hi8
              have hbE : Below W3.heap.size W3 w8 := bel_trans hbel3 hC8
              clear hS0 hi4 hi5 hi6 hi7 hi8
              go_wp2_with fail
              go_roundw
              case rel => exact ⟨m + 1, j + 1, A8', c8', Lib.hid (by have := hj.out; omega), by omega, by rw [HF.out]; simp, by first | rfl | (simp; done) | (congr 1; omega), Lib.hid (by rw [HF.out]; exact HI8.out), hbE⟩
              case measure => simp [intOf]; omega
            · obtain rfl : m = ((cellsL p).drop nd).length := by omega
              rw [List.take_length] at hi'
              rw [List.take_length]
              have hjn : ¬ (j : Int) < ((cellsL p).length : Int) := by have := hj.out; omega
              have hfl3 := flgC_len sl ((cellsL p).drop nd) nd
              have htl : (T0 ++ flgC sl nd ((cellsL p).drop nd)).length ≤ 20000 := by rw [List.length_append]; omega
              have hbel2 := hbel
              generalize hT1 : T0 ++ flgC sl nd ((cellsL p).drop nd) = T1 at *
              have HIT1 := hi'
              obtain ⟨W4, rfl⟩ : ∃ W4, W4 = wr := ⟨wr, rfl⟩
              have yq0 := bel_cell hbel p0
              have yq1 := bel_cell hbel p1
              have yq2 := bel_cell hbel p2
              have yq3 := bel_cell hbel p3
              have yq4 := bel_cell hbel p4
              clear hi' hfl3
              go_wp2_with (first | (go_at_call 18; go_loud (refine (horder _ belA).mono ?_; rintro r wo ⟨⟨vo, rfl, hown⟩, hbo⟩; obtain ⟨Ao, co, rfl, hco1, hco2⟩ := own_slice hown; have hint := IntsAt.of_own hown; have hco := bcell hbo; have hzo := hbo.size; (try simp at hzo))))
              refine wp_name fun W5 hW5 => ?_
              have hb5 : Below W.heap.size W W5 := by rw [hW5]; exact belA
              have hintW : IntsAt W5 (orderE p).1 Ao co := hint.later (by rw [hW5]; exact belA)
              have HINT := Lib.hid hintW
              have hil := hintW.1
              have hil2 := hintW.2.1
              unfold maxLen at hil2
              have holn : (orderE p).1.length ≤ 24 := by have := HORD.out.2.1; have := HCLN.out.small.2.2.2; omega
              have hHI2 : Hid (InsAt W5 H1 A cap) := Lib.hid (HIH.out.later (bel_trans hbel3 (by rw [hW5]; exact belA)))
              have hTI2 : Hid (InsAt W5 T1 A' cap') := Lib.hid (HIT1.out.later (by rw [hW5]; exact belA))
              clear hW5 hint hown hintW hco hbo
              go_loopw [10, 138] (fun c i wr => ∃ (k : Nat) (A : Option Addr) (cap : Nat), k ≤ (orderE p).1.length ∧ c = .slice A (ordC sl fl (varsOf p) p.eqs ((orderE p).1.take k)).length cap ∧ i = .int .i64 k ∧ Hid (InsAt wr (ordC sl fl (varsOf p) p.eqs ((orderE p).1.take k)) A cap) ∧ Below W5.heap.size W5 wr) (fun _ i _ => (orderE p).1.length - (intOf i).toNat)
              case atStart => exact ⟨0, none, 0, Nat.zero_le _, by simp [ordC], rfl, Lib.hid (by rw [List.take_zero, ordC]; exact insAt_nil _), Below.refl _ _⟩
              case round =>
                obtain ⟨k, Ao', capo, hk, rfl, rfl, hio, hbelo⟩ := hrel
                have hbel : Below W.heap.size W wr := bel_trans hb5 hbelo
                have hzr := hbel.size
                have hbw : Below w.heap.size w wr := bel_trans hbW hbel
                by_cases hlt : k < (orderE p).1.length
                · have hx : (orderE p).1[k]? = some (orderE p).1[k] := List.getElem?_eq_getElem hlt
                  have htk : (orderE p).1.take (k + 1) = (orderE p).1.take k ++ [(orderE p).1[k]] := by rw [List.take_succ_eq_append_getElem hlt]
                  generalize (orderE p).1[k] = jj at hx htk
                  obtain ⟨m', q, rfl, hq⟩ := HORD.out.2.2 k jj hx
                  have hmem := List.mem_of_getElem? hq
                  have hml : m' < p.eqs.length := (List.getElem?_eq_some_iff.1 hq).1
                  have hqf := HCLN.out.eqs q hmem
                  have hck := HCLN.out.clock hmem
                  have hcode := fun c => HCLN.out.codes q hmem sl fl c
                  obtain ⟨bo, offo, rfl, hro⟩ := (HINT.out.later hbelo).2.2 (by omega)
                  have di := hro k _ hx
                  obtain ⟨b, off, B1, k1, B2, k2, hA4, hbb2, ⟨d0', d1', d2', d3', d4', d5', d6', d7', d8', d9', sf, se⟩⟩ := (HEQ.out.later hbw).get hq
                  have hsq : okS q.name := by unfold okS; have := hqf.name; unfold maxLen; omega
                  have hO : ordC sl fl (varsOf p) p.eqs ((orderE p).1.take (k + 1)) = ordC sl fl (varsOf p) p.eqs ((orderE p).1.take k) ++ underC sl (clockL (varsOf p) q.name) (q.e.gen sl fl (clockL (varsOf p) q.name) ++ [(3, sl q.name)]) := by
                    rw [htk, ordC_snoc, ordC_one sl fl (varsOf p) p.eqs m' q hq]
                  have hnl : (ordC sl fl (varsOf p) p.eqs ((orderE p).1.take k)).length ≤ 10000 := by
                    have := ordC_len sl fl (varsOf p) p.eqs (fun y hy c => HCLN.out.codes y hy sl fl c) ((orderE p).1.take k)
                    rw [List.length_take] at this
                    omega
                  have HO := Lib.hid hO
                  have hclk := clkM2_get q.name (varsOf p)
                  rw [show (varsOf p).foldl (fun c v => if q.name.data = v.name.data then (v.ck, v.cn) else c) (0, ⟨#[]⟩) = clockL (varsOf p) q.name from rfl] at hclk
                  have hlct := HLAYW.out.clks
                  generalize ordC sl fl (varsOf p) p.eqs ((orderE p).1.take k) = td at *
                  generalize clockL (varsOf p) q.name = CK at *
                  obtain ⟨ck, cs⟩ := CK
                  dsimp only at hck
                  have hoc : okC (ck, cs) := ⟨by unfold I64; dsimp only; omega, by have := hck.1; unfold maxLen; dsimp only; omega⟩
                  have hgl := hcode (ck, cs)
                  have hul := under_len sl (ck, cs) (q.e.gen sl fl (ck, cs) ++ [(3, sl q.name)])
                  have hexp := expr_any X Bs Bf sl fl q.e hqf.formed (by have := hqf.size; omega) B2 k2 ck cs
                  unfold exV at hexp
                  have hX0 := bel_cell hbel X0
                  have hX1 := bel_cell hbel X1
                  have yy4 : wr.cell? ⟨w.heap.size, 4, none⟩ = some (.slice A4 p.eqs.length c4) := bel_cell hbel p4
                  have HMT := Lib.hid (hlct.bel hbel)
                  have HPL := Lib.hid (HPLAN.out.later hbel)
                  have HMSr := Lib.hid (HMS.out.bel hbel)
                  have HEX := Lib.hid hexp
                  have HSE := Lib.hid se
                  have hckk := hck.2
                  subst hA4
                  clear hx htk hq hmem hO hlct hexp sf se hcode hro
                  go_wp2_with fail
                  refine wp_name fun V1 hV1 => ?_
                  have hb1 : Below wr.heap.size wr V1 := by rw [hV1]; exact belA
                  have hzV : V1.heap.size = wr.heap.size + 1 := by rw [hV1]; simp
                  have z0 : V1.cell? ⟨wr.heap.size, 0, none⟩ = some (.string q.name) := by rw [hV1]; go_simp
                  have z6 : V1.cell? ⟨wr.heap.size, 6, none⟩ = some (.int .i64 q.e.kind) := by rw [hV1]; go_simp
                  have z7 : V1.cell? ⟨wr.heap.size, 7, none⟩ = some (.int .i32 q.e.n) := by rw [hV1]; go_simp
                  have z8 : V1.cell? ⟨wr.heap.size, 8, none⟩ = some (.string q.e.name) := by rw [hV1]; go_simp
                  have z9 : V1.cell? ⟨wr.heap.size, 9, none⟩ = some (.slice B2 q.e.sub.length k2) := by rw [hV1]; go_simp
                  have hXV0 := bel_cell hb1 hX0
                  have hXV1 := bel_cell hb1 hX1
                  have hSB : ∀ w', Below V1.heap.size V1 w' → w'.cell? ⟨X, 1, none⟩ = some (.map (some Bt)) ∧ w'.cell? ⟨wr.heap.size, 0, none⟩ = some (.string q.name) ∧ (Instr.lookup 71 (.map (some Bt)) (.string q.name) false).run Tryd.prog w' = .ok (.agg #[.int .i64 ck, .string cs]) w' := fun w' hb =>
                    ⟨bel_cell hb hXV1, bel_cell hb z0, run_lkV (keyS Tryd.underlying9) valClk Tryd.underlying71 (zeroClk18 w') ⟨by unfold I64; omega, by decide⟩ (x := .string q.name) rfl (HMT.out.bel (bel_trans hb1 hb)) hsq hclk⟩
                  have HSB := Lib.hid hSB
                  have hiV' := Lib.hid (hio.out.later hb1)
                  have hbV : Below W.heap.size W V1 := bel_trans hbel hb1
                  have hbVo : Below W5.heap.size W5 V1 := bel_trans hbelo hb1
                  have hbwV : Below w.heap.size w V1 := bel_trans hbw hb1
                  have HPL1 := Lib.hid (HPL.out.later hb1)
                  have l2' := hio.out.1
                  have m2' := hio.out.2.1
                  unfold maxLen at m2'
                  have Z0 := Lib.hid z0
                  have Z6 := Lib.hid z6
                  have Z7 := Lib.hid z7
                  have Z8 := Lib.hid z8
                  have Z9 := Lib.hid z9
                  have ZX := Lib.hid hXV0
                  have hS1 := hSB V1.drew (bel_drew (Below.refl _ _))
                  clear hV1 hSB z0 z6 z7 z8 z9 hXV0 hXV1 hX0 hX1 hclk d0' d1' d2' d3' d4' d5' d6' d7' d8' d9' di yy4
                  refine wp_region_ht (fun w' => w'.cell? ⟨X, 1, none⟩ = some (.map (some Bt)) ∧ w'.cell? ⟨wr.heap.size, 0, none⟩ = some (.string q.name) ∧ (Instr.lookup 71 (.map (some Bt)) (.string q.name) false).run Tryd.prog w' = .ok (.agg #[.int .i64 ck, .string cs]) w') 8 1 (by kernel_rfl) (by rfl) ?_
                  simp only [List.size_toArray, List.length_cons, List.length_nil, Nat.zero_add, Nat.reduceAdd]
                  refine takeA (v := ?_) 0 hS1 ?_ ?_
                  rotate_left
                  · intro w' hSw
                    go_simp
                    first | done | with_reducible rfl
                  try simp only [Act.put, List.setIfInBounds_toArray, List.set_cons_zero, List.set_cons_succ]
                  refine takeA (v := ?_) 1 hS1 ?_ ?_
                  rotate_left
                  · intro w' hSw
                    go_simp
                    first | done | with_reducible rfl
                  try simp only [Act.put, List.setIfInBounds_toArray, List.set_cons_zero, List.set_cons_succ]
                  refine takeA (v := ?_) 2 hS1 ?_ ?_
                  rotate_left
                  · intro w' hSw
                    go_simp
                    first | done | with_reducible rfl
                  try simp only [Act.put, List.setIfInBounds_toArray, List.set_cons_zero, List.set_cons_succ]
                  refine takeA (v := ?_) 3 hS1 ?_ ?_
                  rotate_left
                  · intro w' hSw
                    go_simp
                    first | done | with_reducible rfl
                  try simp only [Act.put, List.setIfInBounds_toArray, List.set_cons_zero, List.set_cons_succ]
                  refine takeA (v := ?_) 4 hS1 ?_ ?_
                  rotate_left
                  · intro w' hSw
                    go_simp
                    first | done | with_reducible rfl
                  try simp only [Act.put, List.setIfInBounds_toArray, List.set_cons_zero, List.set_cons_succ]
                  refine takeA (v := ?_) 5 hS1 ?_ ?_
                  rotate_left
                  · intro w' hSw
                    go_simp
                    first | done | with_reducible rfl
                  try simp only [Act.put, List.setIfInBounds_toArray, List.set_cons_zero, List.set_cons_succ]
                  refine takeA (v := ?_) 6 hS1 ?_ ?_
                  rotate_left
                  · intro w' hSw
                    go_simp
                    first | done | with_reducible rfl
                  try simp only [Act.put, List.setIfInBounds_toArray, List.set_cons_zero, List.set_cons_succ]
                  refine oneA 7 ?_
                  refine oper_wp_K fun K hK => ?_
                  go_simp
                  refine hK _ _ ⟨HSB.out _ (bel_drew (bel_alloc (Below.refl _ _) _)), ?_⟩
                  clear hK K
                  try simp only [Act.put, List.setIfInBounds_toArray, List.set_cons_zero, List.set_cons_succ]
                  refine wpHT_done (by kernel_rfl) ?_
                  refine anyA 8 ?_
                  refine oper_wp_K fun K hK => ?_
                  go_simp
                  refine hK _ _ ?_
                  clear hK K
                  try simp only [Act.put, List.setIfInBounds_toArray, List.set_cons_zero, List.set_cons_succ]
                  refine wpAny_end (by kernel_rfl) ?_
                  refine exit_nm fun V2 hV2 => ?_
                  have c0' : V2.cell? ⟨wr.heap.size + 1, 0, none⟩ = some (.int .i64 ck) := by rw [← hzV, hV2, drew_cell]; go_simp
                  have c1' : V2.cell? ⟨wr.heap.size + 1, 1, none⟩ = some (.string cs) := by rw [← hzV, hV2, drew_cell]; go_simp
                  have hB4 : Below V1.heap.size V1 V2 := by rw [hV2]; exact bel_drew (bel_alloc (Below.refl _ _) _)
                  have hSD : ∀ w', Below V2.heap.size V2 w' → w'.cell? ⟨wr.heap.size, 6, none⟩ = some (.int .i64 q.e.kind) ∧ w'.cell? ⟨wr.heap.size, 7, none⟩ = some (.int .i32 q.e.n) ∧ w'.cell? ⟨wr.heap.size, 8, none⟩ = some (.string q.e.name) ∧ w'.cell? ⟨wr.heap.size, 9, none⟩ = some (.slice B2 q.e.sub.length k2) ∧ w'.cell? ⟨wr.heap.size + 1, 0, none⟩ = some (.int .i64 ck) ∧ w'.cell? ⟨wr.heap.size + 1, 1, none⟩ = some (.string cs) ∧ w'.cell? ⟨X, 0, none⟩ = some (.map (some Bs)) ∧ w'.cell? ⟨wr.heap.size, 0, none⟩ = some (.string q.name) ∧ (Instr.lookup 70 (.map (some Bs)) (.string q.name) false).run Tryd.prog w' = .ok (.int .i32 (sl q.name)) w' := fun w' hb =>
                    ⟨bel_cell hb (bel_cell hB4 Z6.out), bel_cell hb (bel_cell hB4 Z7.out), bel_cell hb (bel_cell hB4 Z8.out), bel_cell hb (bel_cell hB4 Z9.out), bel_cell hb c0', bel_cell hb c1', bel_cell hb (bel_cell hB4 ZX.out), bel_cell hb (bel_cell hB4 Z0.out), run_lkG (keyS Tryd.underlying9) (x := .string q.name) Tryd.underlying70 Tryd.underlying21 (zeroI32 _) rfl (HMSr.out.bel (bel_trans hb1 (bel_trans hB4 hb))) hsq (HFS.out _ hsq)⟩
                  have HSD := Lib.hid hSD
                  have HTV := Lib.hid (hiV'.out.later hB4)
                  have HP4 := Lib.hid (HPL1.out.later hB4)
                  have hbw0 : Below wr.heap.size wr V2 := bel_trans hb1 hB4
                  have hS2 := hSD V2.drew (bel_drew (Below.refl _ _))
                  clear hS1 hV2 hSD c0' c1' HSB
                  go_wp2_with fail
                  refine wp_region_ht (fun w' => w'.cell? ⟨wr.heap.size, 6, none⟩ = some (.int .i64 q.e.kind) ∧ w'.cell? ⟨wr.heap.size, 7, none⟩ = some (.int .i32 q.e.n) ∧ w'.cell? ⟨wr.heap.size, 8, none⟩ = some (.string q.e.name) ∧ w'.cell? ⟨wr.heap.size, 9, none⟩ = some (.slice B2 q.e.sub.length k2) ∧ w'.cell? ⟨wr.heap.size + 1, 0, none⟩ = some (.int .i64 ck) ∧ w'.cell? ⟨wr.heap.size + 1, 1, none⟩ = some (.string cs) ∧ w'.cell? ⟨X, 0, none⟩ = some (.map (some Bs)) ∧ w'.cell? ⟨wr.heap.size, 0, none⟩ = some (.string q.name) ∧ (Instr.lookup 70 (.map (some Bs)) (.string q.name) false).run Tryd.prog w' = .ok (.int .i32 (sl q.name)) w') 21 1 (by kernel_rfl) (by rfl) ?_
                  simp only [List.size_toArray, List.length_cons, List.length_nil, Nat.zero_add, Nat.reduceAdd]
                  refine takeA (v := ?_) 0 hS2 ?_ ?_
                  rotate_left
                  · intro w' hSw
                    go_simp
                    first | done | with_reducible rfl
                  try simp only [Act.put, List.setIfInBounds_toArray, List.set_cons_zero, List.set_cons_succ]
                  refine takeA (v := ?_) 1 hS2 ?_ ?_
                  rotate_left
                  · intro w' hSw
                    go_simp
                    first | done | with_reducible rfl
                  try simp only [Act.put, List.setIfInBounds_toArray, List.set_cons_zero, List.set_cons_succ]
                  refine takeA (v := ?_) 2 hS2 ?_ ?_
                  rotate_left
                  · intro w' hSw
                    go_simp
                    first | done | with_reducible rfl
                  try simp only [Act.put, List.setIfInBounds_toArray, List.set_cons_zero, List.set_cons_succ]
                  refine takeA (v := ?_) 3 hS2 ?_ ?_
                  rotate_left
                  · intro w' hSw
                    go_simp
                    first | done | with_reducible rfl
                  try simp only [Act.put, List.setIfInBounds_toArray, List.set_cons_zero, List.set_cons_succ]
                  refine takeA (v := ?_) 4 hS2 ?_ ?_
                  rotate_left
                  · intro w' hSw
                    go_simp
                    first | done | with_reducible rfl
                  try simp only [Act.put, List.setIfInBounds_toArray, List.set_cons_zero, List.set_cons_succ]
                  refine takeA (v := ?_) 5 hS2 ?_ ?_
                  rotate_left
                  · intro w' hSw
                    go_simp
                    first | done | with_reducible rfl
                  try simp only [Act.put, List.setIfInBounds_toArray, List.set_cons_zero, List.set_cons_succ]
                  refine takeA (v := ?_) 6 hS2 ?_ ?_
                  rotate_left
                  · intro w' hSw
                    go_simp
                    first | done | with_reducible rfl
                  try simp only [Act.put, List.setIfInBounds_toArray, List.set_cons_zero, List.set_cons_succ]
                  refine takeA (v := ?_) 8 hS2 ?_ ?_
                  rotate_left
                  · intro w' hSw
                    go_simp
                    first | done | with_reducible rfl
                  try simp only [Act.put, List.setIfInBounds_toArray, List.set_cons_zero, List.set_cons_succ]
                  refine takeA (v := ?_) 9 hS2 ?_ ?_
                  rotate_left
                  · intro w' hSw
                    go_simp
                    first | done | with_reducible rfl
                  try simp only [Act.put, List.setIfInBounds_toArray, List.set_cons_zero, List.set_cons_succ]
                  refine takeA (v := ?_) 10 hS2 ?_ ?_
                  rotate_left
                  · intro w' hSw
                    go_simp
                    first | done | with_reducible rfl
                  try simp only [Act.put, List.setIfInBounds_toArray, List.set_cons_zero, List.set_cons_succ]
                  refine takeA (v := ?_) 11 hS2 ?_ ?_
                  rotate_left
                  · intro w' hSw
                    go_simp
                    first | done | with_reducible rfl
                  try simp only [Act.put, List.setIfInBounds_toArray, List.set_cons_zero, List.set_cons_succ]
                  refine takeA (v := ?_) 12 hS2 ?_ ?_
                  rotate_left
                  · intro w' hSw
                    go_simp
                    first | done | with_reducible rfl
                  try simp only [Act.put, List.setIfInBounds_toArray, List.set_cons_zero, List.set_cons_succ]
                  refine takeA (v := ?_) 13 hS2 ?_ ?_
                  rotate_left
                  · intro w' hSw
                    go_simp
                    first | done | with_reducible rfl
                  try simp only [Act.put, List.setIfInBounds_toArray, List.set_cons_zero, List.set_cons_succ]
                  refine takeA (v := ?_) 14 hS2 ?_ ?_
                  rotate_left
                  · intro w' hSw
                    go_simp
                    first | done | with_reducible rfl
                  try simp only [Act.put, List.setIfInBounds_toArray, List.set_cons_zero, List.set_cons_succ]
                  refine oneA 7 ?_
                  refine oper_wp_K fun K hK => ?_
                  go_simp
                  refine (HEX.out V2.drew (HP4.out.later (bel_drew (Below.refl _ _))) (HSE.out.later (bel_drew (bel_trans hb1 hB4))) hoc).mono ?_
                  rintro r w4 ⟨⟨A4', c4', rfl, hi4⟩, hb4'⟩
                  dsimp only
                  have hC4 : Below V2.heap.size V2 w4 := bel_trans (bel_drew (Below.refl _ _)) hb4'
                  refine hK _ _ ⟨HSD.out w4 hC4, ?_⟩
                  clear hK K
                  try simp only [Act.put, List.setIfInBounds_toArray, List.set_cons_zero, List.set_cons_succ]
                  refine oneA 15 ?_
                  refine oper_wp_K fun K hK => ?_
                  go_simp
                  refine (one_at _ _ _).mono ?_
                  rintro r w5 ⟨⟨g5', rfl, hi5⟩, hb5'⟩
                  dsimp only
                  have hC5 : Below V2.heap.size V2 w5 := bel_trans hC4 hb5'
                  refine hK _ _ ⟨HSD.out w5 hC5, ?_⟩
                  clear hK K
                  try simp only [Act.put, List.setIfInBounds_toArray, List.set_cons_zero, List.set_cons_succ]
                  refine oneA 16 ?_
                  refine oper_wp_K fun K hK => ?_
                  go_simp
                  refine hK _ _ ⟨HSD.out _ (bel_alloc hC5 _), ?_⟩
                  clear hK K
                  try simp only [Act.put, List.setIfInBounds_toArray, List.set_cons_zero, List.set_cons_succ]
                  refine oneA 17 ?_
                  refine oper_wp_K fun K hK => ?_
                  go_simp
                  refine (row2 (q.e.gen sl fl (ck, cs)) [(3, sl q.name)] A4' c4' (some ⟨g5', 0, none⟩) 1 w5 _ (hi4.later hb5') hi5 (by simp; omega)).mono ?_
                  rintro r w6 ⟨⟨A6', c6', rfl, hi6⟩, hb6'⟩
                  dsimp only
                  have hl6 : (q.e.gen sl fl (ck, cs) ++ [((3 : Int), sl q.name)]).length ≤ 400 := (by rw [List.length_append]; simp only [List.length_cons, List.length_nil]; omega); have hC6 : Below V2.heap.size V2 w6 := bel_trans hC5 hb6'; generalize q.e.gen sl fl (ck, cs) ++ [((3 : Int), sl q.name)] = l6 at *
                  refine hK _ _ ⟨HSD.out w6 hC6, ?_⟩
                  clear hK K
                  try simp only [Act.put, List.setIfInBounds_toArray, List.set_cons_zero, List.set_cons_succ]
                  refine oneA 18 ?_
                  refine oper_wp_K fun K hK => ?_
                  go_simp
                  refine (under_any X Bs Bf sl fl ck cs l6 A6' c6' w6 (HP4.out.later hC6) hoc hckk hi6 (by omega)).mono ?_
                  rintro r w7 ⟨⟨A7', c7', rfl, hi7⟩, hb7'⟩
                  dsimp only
                  have hC7 : Below V2.heap.size V2 w7 := bel_trans hC6 hb7'
                  refine hK _ _ ⟨HSD.out w7 hC7, ?_⟩
                  clear hK K
                  try simp only [Act.put, List.setIfInBounds_toArray, List.set_cons_zero, List.set_cons_succ]
                  refine oneA 19 ?_
                  refine oper_wp_K fun K hK => ?_
                  go_simp
                  refine hK _ _ ⟨HSD.out _ (bel_alloc hC7 _), ?_⟩
                  clear hK K
                  try simp only [Act.put, List.setIfInBounds_toArray, List.set_cons_zero, List.set_cons_succ]
                  refine oneA 20 ?_
                  refine oper_wp_K fun K hK => ?_
                  go_simp
                  refine (row2 td (underC sl (ck, cs) l6) Ao' capo A7' c7' w7 _ (HTV.out.later hC7) hi7 (by omega)).mono ?_
                  rintro r w8 ⟨⟨A8', c8', rfl, hi8⟩, hb8'⟩
                  dsimp only
                  have hC8 : Below V2.heap.size V2 w8 := bel_trans hC7 hb8'
                  refine hK _ _ ⟨HSD.out w8 hC8, ?_⟩
                  clear hK K
                  try simp only [Act.put, List.setIfInBounds_toArray, List.set_cons_zero, List.set_cons_succ]
                  refine wpHT_done (by kernel_rfl) ?_
                  refine anyA 21 ?_
                  refine oper_wp_K fun K hK => ?_
                  go_simp
                  refine hK _ _ ?_
                  clear hK K
                  try simp only [Act.put, List.setIfInBounds_toArray, List.set_cons_zero, List.set_cons_succ]
                  refine wpAny_end (by kernel_rfl) ?_
                  have HI8 := Lib.hid hi8
                  have hbE : Below W5.heap.size W5 w8 := bel_trans hbelo (bel_trans hbw0 hC8)
                  clear hS2 hi4 hi5 hi6 hi7 hi8 HSD
                  go_wp2_with fail
                  go_roundw
                  case rel => exact ⟨k + 1, A8', c8', by omega, by rw [HO.out]; simp, by go_num, Lib.hid (by rw [HO.out]; exact HI8.out), hbE⟩
                  case measure => simp [intOf]; omega
                · obtain rfl : k = (orderE p).1.length := by omega
                  rw [List.take_length] at hio
                  rw [List.take_length]
                  have hordl : (ordC sl fl (varsOf p) p.eqs (orderE p).1).length ≤ 10000 := by
                    have := ordC_len sl fl (varsOf p) p.eqs (fun y hy c => HCLN.out.codes y hy sl fl c) (orderE p).1
                    omega
                  have hbel4 := hbel
                  generalize hOC : ordC sl fl (varsOf p) p.eqs (orderE p).1 = OC at *
                  have HIO := hio
                  have HIH6 := Lib.hid (hHI2.out.later hbelo)
                  have HIT6 := Lib.hid (hTI2.out.later hbelo)
                  have yy2 : wr.cell? ⟨w.heap.size, 2, none⟩ = some (.slice A2 p.outs.length c2) := bel_cell hbel p2
                  obtain ⟨W6, rfl⟩ : ∃ W6, W6 = wr := ⟨wr, rfl⟩
                  clear hio hHI2 hTI2
                  go_wp2_with fail
                  go_loopw [9, 179] (fun t i wr => ∃ (k : Nat) (A : Option Addr) (cap : Nat), k ≤ p.outs.length ∧ t = .slice A (T1 ++ outC sl 0 (p.outs.take k)).length cap ∧ i = .int .i64 k ∧ Hid (InsAt wr (T1 ++ outC sl 0 (p.outs.take k)) A cap) ∧ Below W6.heap.size W6 wr) (fun _ i _ => p.outs.length - (intOf i).toNat)
                  case atStart => exact ⟨0, A', cap', Nat.zero_le _, by simp [outC], rfl, Lib.hid (by rw [show T1 ++ outC sl 0 (p.outs.take 0) = T1 by simp [outC]]; exact HIT6.out), Below.refl _ _⟩
                  case round =>
                    obtain ⟨k, A'', cap'', hk, rfl, rfl, hi, hbel6⟩ := hrel
                    have hbel : Below W.heap.size W wr := bel_trans hbel4 hbel6
                    have hzr := hbel.size
                    have hbw : Below w.heap.size w wr := bel_trans hbW hbel
                    by_cases hlt : k < p.outs.length
                    · have hx : p.outs[k]? = some p.outs[k] := List.getElem?_eq_getElem hlt
                      have hmem : p.outs[k] ∈ p.outs := List.getElem_mem hlt
                      have htk : p.outs.take (k + 1) = p.outs.take k ++ [p.outs[k]] := by rw [List.take_succ_eq_append_getElem hlt]
                      generalize p.outs[k] = x at hx hmem htk
                      have hsx := (HVOK.out x (by simp [varsOf, hmem])).1
                      have hsm := HCLN.out.small.2.1
                      have hI : T1 ++ outC sl 0 (p.outs.take (k + 1)) = (T1 ++ outC sl 0 (p.outs.take k)) ++ [(2, sl x.name)] ++ [(7, (k : Int))] := by
                        rw [htk, outC_snoc, List.length_take, show 0 + min k p.outs.length = k from by omega]; simp [List.append_assoc]
                      have hI2 : (T1 ++ outC sl 0 (p.outs.take k)).length ≤ 30000 := by rw [List.length_append, outC_len, List.length_take]; omega
                      obtain ⟨b, off, hA2, hbb, ⟨d0', d1', d2', d3'⟩⟩ := (HOUTS.out.later hbw).get hx
                      have HI := Lib.hid hI
                      have hkw : IntKind.i32.wrap (k : Int) = (k : Int) := w32_same (by unfold I32; omega)
                      have hX0 := bel_cell hbel X0
                      subst hA2
                      clear hx hmem htk hI
                      generalize T1 ++ outC sl 0 (p.outs.take k) = hd at *
                      have l2 := hi.out.1
                      have m2 := hi.out.2.1
                      unfold maxLen at m2
                      go_wp2_with fail
                      refine wp_name fun V1 hV1 => ?_
                      have hb1 : Below wr.heap.size wr V1 := by rw [hV1]; exact belA
                      have z0 : V1.cell? ⟨wr.heap.size, 0, none⟩ = some (.string x.name) := by rw [hV1]; go_simp
                      have hXV := bel_cell hb1 hX0
                      have hbV : Below W.heap.size W V1 := bel_trans hbel hb1
                      have hbV6 : Below W6.heap.size W6 V1 := bel_trans hbel6 hb1
                      have hS : ∀ w', Below V1.heap.size V1 w' → w'.cell? ⟨X, 0, none⟩ = some (.map (some Bs)) ∧ w'.cell? ⟨wr.heap.size, 0, none⟩ = some (.string x.name) ∧ (Instr.lookup 70 (.map (some Bs)) (.string x.name) false).run Tryd.prog w' = .ok (.int .i32 (sl x.name)) w' := fun w' hb =>
                        ⟨bel_cell hb hXV, bel_cell hb z0, run_lkG (keyS Tryd.underlying9) (x := .string x.name) Tryd.underlying70 Tryd.underlying21 (zeroI32 _) rfl (HMS.out.bel (bel_trans hbV hb)) hsx (HFS.out _ hsx)⟩
                      have HS := Lib.hid hS
                      have hiV := Lib.hid (hi.out.later hb1)
                      have hS0 := hS V1.drew (bel_drew (Below.refl _ _))
                      clear hV1 hS z0 hXV hX0 d0' d1' d2' d3'
                      refine wp_region_ht (fun w' => w'.cell? ⟨X, 0, none⟩ = some (.map (some Bs)) ∧ w'.cell? ⟨wr.heap.size, 0, none⟩ = some (.string x.name) ∧ (Instr.lookup 70 (.map (some Bs)) (.string x.name) false).run Tryd.prog w' = .ok (.int .i32 (sl x.name)) w') 14 1 (by kernel_rfl) (by rfl) ?_
                      simp only [List.size_toArray, List.length_cons, List.length_nil, Nat.zero_add, Nat.reduceAdd]
                      refine takeA (v := ?_) 0 hS0 ?_ ?_
                      rotate_left
                      · intro w' hSw
                        go_simp
                        first | done | with_reducible rfl
                      try simp only [Act.put, List.setIfInBounds_toArray, List.set_cons_zero, List.set_cons_succ]
                      refine takeA (v := ?_) 1 hS0 ?_ ?_
                      rotate_left
                      · intro w' hSw
                        go_simp
                        first | done | with_reducible rfl
                      try simp only [Act.put, List.setIfInBounds_toArray, List.set_cons_zero, List.set_cons_succ]
                      refine takeA (v := ?_) 2 hS0 ?_ ?_
                      rotate_left
                      · intro w' hSw
                        go_simp
                        first | done | with_reducible rfl
                      try simp only [Act.put, List.setIfInBounds_toArray, List.set_cons_zero, List.set_cons_succ]
                      refine takeA (v := ?_) 3 hS0 ?_ ?_
                      rotate_left
                      · intro w' hSw
                        go_simp
                        first | done | with_reducible rfl
                      try simp only [Act.put, List.setIfInBounds_toArray, List.set_cons_zero, List.set_cons_succ]
                      refine takeA (v := ?_) 4 hS0 ?_ ?_
                      rotate_left
                      · intro w' hSw
                        go_simp
                        first | done | with_reducible rfl
                      try simp only [Act.put, List.setIfInBounds_toArray, List.set_cons_zero, List.set_cons_succ]
                      refine takeA (v := ?_) 5 hS0 ?_ ?_
                      rotate_left
                      · intro w' hSw
                        go_simp
                        first | done | with_reducible rfl
                      try simp only [Act.put, List.setIfInBounds_toArray, List.set_cons_zero, List.set_cons_succ]
                      refine takeA (v := ?_) 6 hS0 ?_ ?_
                      rotate_left
                      · intro w' hSw
                        go_simp
                        first | done | with_reducible rfl
                      try simp only [Act.put, List.setIfInBounds_toArray, List.set_cons_zero, List.set_cons_succ]
                      refine takeA (v := ?_) 7 hS0 ?_ ?_
                      rotate_left
                      · intro w' hSw
                        go_simp
                        first | done | with_reducible rfl
                      try simp only [Act.put, List.setIfInBounds_toArray, List.set_cons_zero, List.set_cons_succ]
                      refine takeA (v := ?_) 9 hS0 ?_ ?_
                      rotate_left
                      · intro w' hSw
                        go_simp
                        first | done | with_reducible rfl
                      try simp only [Act.put, List.setIfInBounds_toArray, List.set_cons_zero, List.set_cons_succ]
                      refine takeA (v := ?_) 10 hS0 ?_ ?_
                      rotate_left
                      · intro w' hSw
                        go_simp
                        first | done | with_reducible rfl
                      try simp only [Act.put, List.setIfInBounds_toArray, List.set_cons_zero, List.set_cons_succ]
                      refine oneA 8 ?_
                      refine oper_wp_K fun K hK => ?_
                      go_simp
                      refine (one_at _ _ _).mono ?_
                      rintro r w1 ⟨⟨g1', rfl, hi1⟩, hb1'⟩
                      dsimp only
                      have hB1 : Below V1.heap.size V1 w1 := bel_trans (bel_drew (Below.refl _ _)) hb1'
                      refine hK _ _ ⟨HS.out w1 hB1, ?_⟩
                      clear hK K
                      try simp only [Act.put, List.setIfInBounds_toArray, List.set_cons_zero, List.set_cons_succ]
                      refine oneA 11 ?_
                      refine oper_wp_K fun K hK => ?_
                      go_simp
                      refine (one_at _ _ _).mono ?_
                      rintro r w2 ⟨⟨g2', rfl, hi2⟩, hb2'⟩
                      dsimp only
                      have hB2 : Below V1.heap.size V1 w2 := bel_trans hB1 hb2'
                      refine hK _ _ ⟨HS.out w2 hB2, ?_⟩
                      clear hK K
                      try simp only [Act.put, List.setIfInBounds_toArray, List.set_cons_zero, List.set_cons_succ]
                      refine oneA 12 ?_
                      refine oper_wp_K fun K hK => ?_
                      go_simp
                      refine hK _ _ ⟨HS.out _ (bel_alloc hB2 _), ?_⟩
                      clear hK K
                      try simp only [Act.put, List.setIfInBounds_toArray, List.set_cons_zero, List.set_cons_succ]
                      refine oneA 13 ?_
                      refine oper_wp_K fun K hK => ?_
                      go_simp
                      refine (row3 hd [(2, sl x.name)] [(7, (k : Int))] A'' cap'' (some ⟨g1', 0, none⟩) 1 (some ⟨g2', 0, none⟩) 1 w2 _ (hiV.out.later hB2) (hi1.later hb2') hi2 (by simp; omega)).mono ?_
                      rintro r w3 ⟨⟨A3', c3', rfl, hi3⟩, hb3'⟩
                      dsimp only
                      have hB3 : Below V1.heap.size V1 w3 := bel_trans hB2 hb3'
                      refine hK _ _ ⟨HS.out w3 hB3, ?_⟩
                      clear hK K
                      try simp only [Act.put, List.setIfInBounds_toArray, List.set_cons_zero, List.set_cons_succ]
                      refine wpHT_done (by kernel_rfl) ?_
                      refine anyA 14 ?_
                      refine oper_wp_K fun K hK => ?_
                      go_simp
                      refine hK _ _ ?_
                      clear hK K
                      try simp only [Act.put, List.setIfInBounds_toArray, List.set_cons_zero, List.set_cons_succ]
                      refine wpAny_end (by kernel_rfl) ?_
                      go_wp2_with fail
                      go_roundw
                      case rel => exact ⟨k + 1, A3', c3', by omega, by rw [HI.out]; simp, by go_num, Lib.hid (by rw [HI.out]; exact hi3), bel_trans hbV6 hB3⟩
                      case measure => simp [intOf]; omega
                    · obtain rfl : k = p.outs.length := by omega
                      rw [List.take_length] at hi
                      rw [List.take_length]
                      have htt : (T1 ++ outC sl 0 p.outs).length ≤ 30000 := by rw [List.length_append, outC_len]; have := HCLN.out.small.2.1; omega
                      generalize hTT : T1 ++ outC sl 0 p.outs = TT at *
                      have HIHE := Lib.hid (HIH6.out.later hbel6)
                      have HIOE := Lib.hid (HIO.out.later hbel6)
                      have hLL : (H1 ++ OC ++ TT).length = (codeL p).length := by rw [HCD.out]
                      have hrow := row3_own H1 OC TT _ _ _ _ _ _ wr 29 HIHE.out HIOE.out hi.out (by omega)
                      have hwz : ∀ wz, Below wr.heap.size wr wz → CodeZ w W wz p A1 A2 c1 c2 wa X Bs := fun wz hbz => by
                        have hb : Below W.heap.size W wz := bel_trans hbel hbz
                        exact ⟨bel_trans hbw hbz, by have := hb.size; omega, by have := hb.size; omega,
                          ⟨bel_cell hb g0, bel_cell hb g1, bel_cell hb g2, bel_cell hb g3, bel_cell hb g4⟩, ⟨bel_cell hb d0, bel_cell hb d1, bel_cell hb d2⟩, ⟨bel_cell hb q0, bel_cell hb q1, bel_cell hb q2⟩,
                          fun o ho => (bfrozen hb _ _ (by omega)).trans (by rcases ho with rfl | rfl | rfl | rfl | rfl <;> assumption), fun o ho => (bfrozen hb _ _ (by omega)).trans (by rcases ho with rfl | rfl | rfl <;> assumption),
                          bel_cell hb p1, bel_cell hb p2, bel_cell hb X0, fun w' he => ((HLAYW.out.later hb).slots.keep1 he).lenRun Tryd.underlying70 _, fun he => MapE.cellsNo (HLAYW.out.later hb).slots (v := .int .i64 0) (o := 0) (by rw [he]; exact bel_cell hb g0)⟩
                      have HWZ := Lib.hid hwz
                      have HROW := Lib.hid hrow
                      have HLL := Lib.hid hLL
                      generalize H1 ++ OC ++ TT = LL at *
                      clear hwz hrow hLL hfq hgm HCLN HCOK HVOK HORD horder HINS HOUTS HEQ HLAYW HCESW HMS HFS HPLAN HIHE HIOE hi HIO HIH6 HIT6
                      clear g0 g1 g2 g3 g4 f0 f1 f2 f3 f4 d0 d1 d2 e0 e1 e2 q0 q1 q2 p0 p1 p2 p3 p4 X0 X1
                      by_cases h600 : 600 < LL.length
                      · have t600 : (600 : Int) < (LL.length : Int) := by omega
                        go_wp2_with (first | (go_at_call 14; go_loud (refine HROW.out.mono ?_; rintro r wz ⟨⟨vz, rfl, hownz⟩, hbz⟩; obtain ⟨Az, cz, rfl, haz1, haz2⟩ := own_slice hownz; obtain ⟨hbE, z1, z2, ⟨g0, g1, g2, g3, g4⟩, ⟨d0, d1, d2⟩, ⟨q0, q1, q2⟩, fg, fd, p1, p2, x0, hln, nB⟩ := HWZ.out wz hbz; have f0 := fg 0 (by simp); have f1 := fg 1 (by simp); have f2 := fg 2 (by simp); have f3 := fg 3 (by simp); have f4 := fg 4 (by simp); have e0 := fd 0 (by simp); have e1 := fd 1 (by simp); have e2 := fd 2 (by simp); clear fg fd hbz; clear hownz hln p1 p2 x0 q0 q1 q2)))
                        refine bodyPost_ret (v := .tuple #[.slice none 0 0, .agg #[.int .i64 0, .int .i64 0, .int .i64 0, .int .i64 0, .int .i64 0], .agg #[.int .i64 4, .int .i64 0, .int .i64 3]]) (by simp [results, Tryd.results6, go_sem, *]) rfl ?_
                        unfold CodeR
                        rw [HCD.out, if_pos h600]
                        exact ⟨rfl, bel_set3 _ _ _ (bel_set5 _ _ _ _ _ hbE (by omega)) (by omega)⟩
                      · have t600 : ¬ (600 : Int) < (LL.length : Int) := by omega
                        go_wp2_with (first | (go_at_call 14; go_loud (refine HROW.out.mono ?_; rintro r wz ⟨⟨vz, rfl, hownz⟩, hbz⟩; obtain ⟨Az, cz, rfl, haz1, haz2⟩ := own_slice hownz; obtain ⟨hbE, z1, z2, ⟨g0, g1, g2, g3, g4⟩, ⟨d0, d1, d2⟩, ⟨q0, q1, q2⟩, fg, fd, p1, p2, x0, hln, nB⟩ := HWZ.out wz hbz; have f0 := fg 0 (by simp); have f1 := fg 1 (by simp); have f2 := fg 2 (by simp); have f3 := fg 3 (by simp); have f4 := fg 4 (by simp); have e0 := fd 0 (by simp); have e1 := fd 1 (by simp); have e2 := fd 2 (by simp); clear fg fd hbz; have hX : X ≠ w.heap.size + 1 := (fun he => by rw [he, g0] at x0; cases x0); have HLN := Lib.hid hln; have hS0 : (fun w' : World => w'.cell? ⟨X, 0, none⟩ = some (.map (some Bs)) ∧ w'.cell? ⟨w.heap.size, 1, none⟩ = some (.slice A1 p.ins.length c1) ∧ w'.cell? ⟨w.heap.size, 2, none⟩ = some (.slice A2 p.outs.length c2) ∧ w'.cell? ⟨wa.heap.size, 0, none⟩ = some (.int .i64 0) ∧ w'.cell? ⟨wa.heap.size, 1, none⟩ = some (.int .i64 0) ∧ w'.cell? ⟨wa.heap.size, 2, none⟩ = some (.int .i64 0) ∧ (Builtin.len_ #[70] 3 #[.map (some Bs)]).run Tryd.prog w' = .ok (.int .i64 ((varsOf p).length : Nat)) w') wz.drew := ⟨x0, p1, p2, q0, q1, q2, hln wz.drew rfl⟩; dsimp only at hS0; clear hln)))
                        refine wp_region_ht (fun w' => w'.cell? ⟨X, 0, none⟩ = some (.map (some Bs)) ∧ w'.cell? ⟨w.heap.size, 1, none⟩ = some (.slice A1 p.ins.length c1) ∧ w'.cell? ⟨w.heap.size, 2, none⟩ = some (.slice A2 p.outs.length c2) ∧ w'.cell? ⟨wa.heap.size, 0, none⟩ = some (.int .i64 0) ∧ w'.cell? ⟨wa.heap.size, 1, none⟩ = some (.int .i64 0) ∧ w'.cell? ⟨wa.heap.size, 2, none⟩ = some (.int .i64 0) ∧ (Builtin.len_ #[70] 3 #[.map (some Bs)]).run Tryd.prog w' = .ok (.int .i64 ((varsOf p).length : Nat)) w') 20 1 (by kernel_rfl) (by rfl) ?_
                        simp only [List.size_toArray, List.length_cons, List.length_nil, Nat.zero_add, Nat.reduceAdd]
                        refine takeA (v := ?_) 0 hS0 ?_ ?_
                        rotate_left
                        · intro w' hSw
                          go_simp
                          first | done | with_reducible rfl
                        try simp only [Act.put, List.setIfInBounds_toArray, List.set_cons_zero, List.set_cons_succ]
                        refine takeA (v := ?_) 1 hS0 ?_ ?_
                        rotate_left
                        · intro w' hSw
                          go_simp
                          first | done | with_reducible rfl
                        try simp only [Act.put, List.setIfInBounds_toArray, List.set_cons_zero, List.set_cons_succ]
                        refine takeA (v := ?_) 2 hS0 ?_ ?_
                        rotate_left
                        · intro w' hSw
                          go_simp
                          first | done | with_reducible rfl
                        try simp only [Act.put, List.setIfInBounds_toArray, List.set_cons_zero, List.set_cons_succ]
                        refine takeA (v := ?_) 3 hS0 ?_ ?_
                        rotate_left
                        · intro w' hSw
                          go_simp
                          first | done | with_reducible rfl
                        try simp only [Act.put, List.setIfInBounds_toArray, List.set_cons_zero, List.set_cons_succ]
                        refine takeA (v := ?_) 4 hS0 ?_ ?_
                        rotate_left
                        · intro w' hSw
                          go_simp
                          first | done | with_reducible rfl
                        try simp only [Act.put, List.setIfInBounds_toArray, List.set_cons_zero, List.set_cons_succ]
                        refine takeA (v := ?_) 5 hS0 ?_ ?_
                        rotate_left
                        · intro w' hSw
                          go_simp
                          first | done | with_reducible rfl
                        try simp only [Act.put, List.setIfInBounds_toArray, List.set_cons_zero, List.set_cons_succ]
                        refine takeA (v := ?_) 6 hS0 ?_ ?_
                        rotate_left
                        · intro w' hSw
                          go_simp
                          first | done | with_reducible rfl
                        try simp only [Act.put, List.setIfInBounds_toArray, List.set_cons_zero, List.set_cons_succ]
                        refine takeA (v := ?_) 7 hS0 ?_ ?_
                        rotate_left
                        · intro w' hSw
                          go_simp
                          first | done | with_reducible rfl
                        try simp only [Act.put, List.setIfInBounds_toArray, List.set_cons_zero, List.set_cons_succ]
                        refine takeA (v := ?_) 8 hS0 ?_ ?_
                        rotate_left
                        · intro w' hSw
                          go_simp
                          first | done | with_reducible rfl
                        try simp only [Act.put, List.setIfInBounds_toArray, List.set_cons_zero, List.set_cons_succ]
                        refine takeA (v := ?_) 9 hS0 ?_ ?_
                        rotate_left
                        · intro w' hSw
                          go_simp
                          first | done | with_reducible rfl
                        try simp only [Act.put, List.setIfInBounds_toArray, List.set_cons_zero, List.set_cons_succ]
                        refine takeA (v := ?_) 10 hS0 ?_ ?_
                        rotate_left
                        · intro w' hSw
                          go_simp
                          first | done | with_reducible rfl
                        try simp only [Act.put, List.setIfInBounds_toArray, List.set_cons_zero, List.set_cons_succ]
                        refine takeA (v := ?_) 11 hS0 ?_ ?_
                        rotate_left
                        · intro w' hSw
                          go_simp
                          first | done | with_reducible rfl
                        try simp only [Act.put, List.setIfInBounds_toArray, List.set_cons_zero, List.set_cons_succ]
                        refine takeA (v := ?_) 12 hS0 ?_ ?_
                        rotate_left
                        · intro w' hSw
                          go_simp
                          first | done | with_reducible rfl
                        try simp only [Act.put, List.setIfInBounds_toArray, List.set_cons_zero, List.set_cons_succ]
                        refine takeA (v := ?_) 13 hS0 ?_ ?_
                        rotate_left
                        · intro w' hSw
                          go_simp
                          first | done | with_reducible rfl
                        try simp only [Act.put, List.setIfInBounds_toArray, List.set_cons_zero, List.set_cons_succ]
                        refine takeA (v := ?_) 14 hS0 ?_ ?_
                        rotate_left
                        · intro w' hSw
                          go_simp
                          first | done | with_reducible rfl
                        try simp only [Act.put, List.setIfInBounds_toArray, List.set_cons_zero, List.set_cons_succ]
                        refine takeA (v := ?_) 15 hS0 ?_ ?_
                        rotate_left
                        · intro w' hSw
                          go_simp
                          first | done | with_reducible rfl
                        try simp only [Act.put, List.setIfInBounds_toArray, List.set_cons_zero, List.set_cons_succ]
                        refine takeA (v := ?_) 16 hS0 ?_ ?_
                        rotate_left
                        · intro w' hSw
                          go_simp
                          first | done | with_reducible rfl
                        try simp only [Act.put, List.setIfInBounds_toArray, List.set_cons_zero, List.set_cons_succ]
                        refine takeA (v := ?_) 17 hS0 ?_ ?_
                        rotate_left
                        · intro w' hSw
                          go_simp
                          first | done | with_reducible rfl
                        try simp only [Act.put, List.setIfInBounds_toArray, List.set_cons_zero, List.set_cons_succ]
                        refine takeA (v := ?_) 18 hS0 ?_ ?_
                        rotate_left
                        · intro w' hSw
                          go_simp
                          first | done | with_reducible rfl
                        try simp only [Act.put, List.setIfInBounds_toArray, List.set_cons_zero, List.set_cons_succ]
                        refine oneA 19 ?_
                        refine oper_wp_K fun K hK => ?_
                        go_simp
                        have HS5 := endS5 (v0 := .int .i64 ((varsOf p).length : Nat)) (v1 := .int .i64 ((cellsL p).length : Nat)) (v2 := .int .i64 ((cellsL p).length : Nat)) (v3 := .int .i64 (p.ins.length : Nat)) (v4 := .int .i64 (p.outs.length : Nat)) hX x0 p1 p2 q0 q1 q2 (by omega) (by omega) HLN.out nB
                        refine hK _ _ ⟨HS5, wpHT_done (by kernel_rfl) ?_⟩
                        clear hK K HS5
                        try simp only [Act.put, List.setIfInBounds_toArray, List.set_cons_zero, List.set_cons_succ]
                        refine any_name fun W1 hW1 => ?_
                        have hb1 : Below w.heap.size w W1 := by rw [hW1]; exact bel_drew (bel_set5 _ _ _ _ _ hbE (by omega))
                        have hk1 : Kept (fun b => b = w.heap.size + 1 ∨ b = w.heap.size + 1 + 1) wz W1 := by rw [hW1]; exact ((((((Kept.refl wz).setCell (.inl rfl) _ _).setCell (.inl rfl) _ _).setCell (.inl rfl) _ _).setCell (.inl rfl) _ _).setCell (.inl rfl) _ _).trans' (Kept.bel (bel_drew (Below.refl _ _)))
                        obtain ⟨r0, r1, r2, r3, r4⟩ := set5 (W := wz) (.int .i64 ((varsOf p).length : Nat)) (.int .i64 ((cellsL p).length : Nat)) (.int .i64 ((cellsL p).length : Nat)) (.int .i64 (p.ins.length : Nat)) (.int .i64 (p.outs.length : Nat)) g0 g1 g2 g3 g4
                        have R : ∀ b o, W1.cell? ⟨b, o, none⟩ = (((((wz.setCell ⟨w.heap.size + 1, 0, none⟩ (.int .i64 ((varsOf p).length : Nat))).setCell ⟨w.heap.size + 1, 1, none⟩ (.int .i64 ((cellsL p).length : Nat))).setCell ⟨w.heap.size + 1, 2, none⟩ (.int .i64 ((cellsL p).length : Nat))).setCell ⟨w.heap.size + 1, 3, none⟩ (.int .i64 (p.ins.length : Nat))).setCell ⟨w.heap.size + 1, 4, none⟩ (.int .i64 (p.outs.length : Nat))).cell? ⟨b, o, none⟩ := fun b o => by rw [hW1, drew_cell]
                        have RF : ∀ p, W1.frozen? p = wz.frozen? p := fun p => by
                          rw [hW1, drew_frozen]
                          exact set5_fz (W := wz) (b := w.heap.size + 1) _ _ _ _ _ p
                        have s0 := (R _ _).trans r0
                        have s1 := (R _ _).trans r1
                        have s2 := (R _ _).trans r2
                        have s3 := (R _ _).trans r3
                        have s4 := (R _ _).trans r4
                        have t0 := ((R _ _).trans (set5_blk _ _ _ _ _ (by omega))).trans d0
                        have t1 := ((R _ _).trans (set5_blk _ _ _ _ _ (by omega))).trans d1
                        have t2 := ((R _ _).trans (set5_blk _ _ _ _ _ (by omega))).trans d2
                        have z0 := (RF _).trans e0
                        have z1' := (RF _).trans e1
                        have z2' := (RF _).trans e2
                        clear hW1 R RF r0 r1 r2 r3 r4 hS0 g0 g1 g2 g3 g4 f0 f1 f2 f3 f4 d0 d1 d2 e0 e1 e2 q0 q1 q2 x0 p1 p2 HLN HWZ HROW
                        refine anyA 20 ?_
                        refine oper_wp_K fun K hK => ?_
                        go_simp
                        refine hK _ _ ?_
                        clear hK K
                        try simp only [Act.put, List.setIfInBounds_toArray, List.set_cons_zero, List.set_cons_succ]
                        refine wpAny_end (by kernel_rfl) ?_
                        refine exit_nm fun W2 hW2 => ?_
                        obtain ⟨r0, r1, r2⟩ := set3 (W := W1) (.int .i64 0) (.int .i64 0) (.int .i64 0) t0 t1 t2
                        have R : ∀ b o, W2.cell? ⟨b, o, none⟩ = (((W1.setCell ⟨w.heap.size + 1 + 1, 0, none⟩ (.int .i64 0)).setCell ⟨w.heap.size + 1 + 1, 1, none⟩ (.int .i64 0)).setCell ⟨w.heap.size + 1 + 1, 2, none⟩ (.int .i64 0)).cell? ⟨b, o, none⟩ := fun b o => by rw [hW2]
                        have hb2 : Below w.heap.size w W2 := by rw [hW2]; exact bel_set3 _ _ _ hb1 (by omega)
                        have hk2 : Kept (fun b => b = w.heap.size + 1 ∨ b = w.heap.size + 1 + 1) wz W2 := by rw [hW2]; exact (((hk1.setCell (.inr rfl) _ _).setCell (.inr rfl) _ _).setCell (.inr rfl) _ _)
                        have hown2 := own_less (hk2.own (fun b hb h => by have := (hownz.lt b hb).1; omega) hownz) (show w.heap.size ≤ wr.heap.size by omega)
                        have x0 := (R _ _).trans r0
                        have x1 := (R _ _).trans r1
                        have x2 := (R _ _).trans r2
                        have y0 := ((R _ _).trans (set3_blk _ _ _ (by omega))).trans s0
                        have y1 := ((R _ _).trans (set3_blk _ _ _ (by omega))).trans s1
                        have y2 := ((R _ _).trans (set3_blk _ _ _ (by omega))).trans s2
                        have y3 := ((R _ _).trans (set3_blk _ _ _ (by omega))).trans s3
                        have y4 := ((R _ _).trans (set3_blk _ _ _ (by omega))).trans s4
                        clear hW2 R r0 r1 r2 s0 s1 s2 s3 s4 t0 t1 t2 z0 z1' z2' hk1 hk2
                        go_wp2_with fail
                        refine bodyPost_ret (v := .tuple #[.slice Az LL.length cz, .agg #[.int .i64 ((varsOf p).length : Nat), .int .i64 ((cellsL p).length : Nat), .int .i64 ((cellsL p).length : Nat), .int .i64 (p.ins.length : Nat), .int .i64 (p.outs.length : Nat)], .agg #[.int .i64 0, .int .i64 0, .int .i64 0]]) (by simp [results, Tryd.results6, go_sem, *]) rfl ?_
                        unfold CodeR
                        rw [HCD.out, if_neg h600]
                        exact ⟨⟨_, rfl, hown2⟩, hb2⟩
end Go.Proofs.YtknfcamdfdfoeaaDoor

/- Numbers as bytes. No program of Go in sight. -/
namespace Go.Proofs.YtknfcamdfdfoeaaDoor
open Go.RowKit

/-- A number's lowest bytes, the lowest first. -/
def leB : Nat → Nat → List Int
  | 0, _ => []
  | w + 1, n => ((n % 256 : Nat) : Int) :: leB w (n / 256)
theorem leB_len : ∀ w n, (leB w n).length = w
  | 0, _ => rfl
  | w + 1, n => by rw [leB, List.length_cons, leB_len w]
/-- A number of 32 bits as a word. -/
def plainN (a : Int) : Nat := (a % 4294967296).toNat
theorem plainN_lt (a : Int) : plainN a < 4294967296 := by unfold plainN; omega
def insB1 (i : Int × Int) : List Int := i.1 :: leB (insW i.1).toNat (plainN i.2)
def insBL (c : List (Int × Int)) : List Int := c.flatMap insB1
def wordsB (l : List Int) : List Int := l.flatMap fun v => leB 4 (plainN v)
def runB (x : List Int) : List Int := leB 2 x.length ++ x
theorem insW_range (op : Int) : 0 ≤ insW op ∧ insW op ≤ 4 := by unfold insW; repeat' split
                                                                all_goals omega
theorem insB1_len (i : Int × Int) : (insB1 i).length ≤ 5 := by
  unfold insB1
  have := insW_range i.1
  rw [List.length_cons, leB_len]; omega
theorem insBL_len (c : List (Int × Int)) : (insBL c).length ≤ 5 * c.length := by
  unfold insBL
  induction c with
  | nil => simp
  | cons i c ih =>
    have := insB1_len i
    rw [List.flatMap_cons, List.length_append, List.length_cons]; omega
theorem wordsB_len (l : List Int) : (wordsB l).length = 4 * l.length := by
  unfold wordsB
  induction l with
  | nil => simp
  | cons i c ih => rw [List.flatMap_cons, List.length_append, List.length_cons, leB_len]; omega
theorem insBL_snoc (c : List (Int × Int)) (i : Int × Int) : insBL (c ++ [i]) = insBL c ++ insB1 i := by unfold insBL; simp
end Go.Proofs.YtknfcamdfdfoeaaDoor

/- Bytes, words and numbers in memory. -/
namespace Go.Proofs.YtknfcamdfdfoeaaDoor
open Go.RowKit Go.Sort

theorem u8info : (Tryd.prog.info? 5).map (fun i => (i.zero, i.size, i.bytes)) = some (some (.int .u8 0), 1, 1) := by kernel_rfl
theorem u32info : (Tryd.prog.info? 26).map (fun i => (i.zero, i.size, i.bytes)) = some (some (.int .u32 0), 1, 4) := by kernel_rfl
/-- A row whose elements are of one cell each. -/
def CelAt (w : World) (xs : List Value) (n : Nat) (A : Option Addr) (cap : Nat) : Prop := n ≤ cap ∧ cap ≤ maxLen ∧ CellsAt w A n 1 xs
theorem CelAt.later {w w' : World} {xs : List Value} {n : Nat} {A : Option Addr} {cap : Nat} (h : CelAt w xs n A cap) (hb : Below w.heap.size w w') : CelAt w' xs n A cap := ⟨h.1, h.2.1, cells_later h.2.2 hb⟩
theorem CelAt.of_own {w : World} {base : Nat} {e : TypeId} {xs : List Value} {n : Nat} {v : Value} (h : w.ownsRow base e 1 v n xs) : ∃ A cap, v = .slice A n cap ∧ CelAt w xs n A cap := by
  obtain ⟨A, cap, rfl, h1, h2⟩ := own_slice h
  refine ⟨A, cap, rfl, h1, h2, h.1, fun hm => ?_⟩
  obtain ⟨g, c', hv, _, _, _, _, hc⟩ := own_get h hm
  injection hv with e1 e2 e3
  subst e1
  exact ⟨g, 0, rfl, fun j u hj => by rw [Nat.zero_add]; exact hc j u hj⟩
theorem CelAt.nil (w : World) : CelAt w [] 0 none 0 := ⟨Nat.le_refl _, by unfold maxLen; omega, rfl, fun h => absurd h (by omega)⟩
theorem CelAt.get {w : World} {xs : List Value} {n : Nat} {A : Option Addr} {cap : Nat} (h : CelAt w xs n A cap) {k : Nat} {u : Value} (hk : xs[k]? = some u) : ∃ b off, A = some ⟨b, off, none⟩ ∧ b < w.heap.size ∧ w.cell? ⟨b, off + k, none⟩ = some u := by
  have hl : xs.length = n * 1 := h.2.2.1
  have hlt := (List.getElem?_eq_some_iff.1 hk).1
  obtain ⟨b, off, hA, hc⟩ := h.2.2.2 (by omega)
  exact ⟨b, off, hA, block_lt_of_cell (hc k u hk), hc k u hk⟩
/-- As the law of copy wants it. -/
theorem CelAt.ads {w : World} {xs : List Value} {n : Nat} {A : Option Addr} {cap : Nat} (h : CelAt w xs n A cap) (W : World) (hb : Below w.heap.size w W) (h0 : 0 < xs.length) : ∃ ad, A = some ad ∧ ∀ (j : Nat) (v : Value), xs[j]? = some v → W.cell? (ad.add j) = some v := by
  have hl : xs.length = n * 1 := h.2.2.1
  obtain ⟨b, off, hA, hc⟩ := (h.later hb).2.2.2 (by omega)
  exact ⟨_, hA, fun j u hj => by rw [show (⟨b, off, none⟩ : Addr).add j = ⟨b, off + j, none⟩ by unfold Addr.add; split <;> simp_all]; exact hc j u hj⟩
/-- Bytes' cells; words'; numbers'. -/
def byU (l : List Int) : List Value := l.map (.int .u8)
def wdU (l : List Nat) : List Value := l.map fun (x : Nat) => Value.int .u32 (Int.ofNat x)
def nuI (l : List Int) : List Value := l.map (.int .i32)
theorem byU_len (l : List Int) : (byU l).length = l.length := by unfold byU; simp
theorem byU_app (a b : List Int) : byU (a ++ b) = byU a ++ byU b := by unfold byU; simp
theorem byU_one (l : List Int) : ∀ u ∈ byU l, u.oneCell' = true := by
  intro u hu
  unfold byU at hu
  obtain ⟨x, _, rfl⟩ := List.mem_map.1 hu
  rfl
theorem wdU_app (a b : List Nat) : wdU (a ++ b) = wdU a ++ wdU b := by unfold wdU; simp
theorem wdU_get {l : List Nat} {k x : Nat} (h : l[k]? = some x) : (wdU l)[k]? = some (.int .u32 (x : Int)) := by unfold wdU; rw [List.getElem?_map, h]; rfl
theorem nuI_get {l : List Int} {k : Nat} {x : Int} (h : l[k]? = some x) : (nuI l)[k]? = some (.int .i32 x) := by unfold nuI; rw [List.getElem?_map, h]; rfl
/-- The lowest k + 1 bytes of a number. -/
theorem leB_snoc : ∀ (k n : Nat), leB (k + 1) n = leB k n ++ [((n / 256 ^ k % 256 : Nat) : Int)]
  | 0, n => by simp [leB]
  | k + 1, n => by
    rw [leB, leB_snoc k (n / 256)]
    conv => rhs; rw [leB]
    rw [List.cons_append, Nat.div_div_eq_div_mul, Nat.pow_succ, Nat.mul_comm 256]
/-- A row that was made and into which all was copied. -/
theorem own_copied {w : World} {base g : Nat} {e : TypeId} {xs cur : List Value} {n cap : Nat} (hg : w.heap[g]? = some (.cells (splice cur 0 xs).toArray e (0, 0))) (hb : base ≤ g) (hn : n ≤ cap) (hc : cap ≤ maxLen) (hx : xs.length = n) (hl : cur.length = cap) :
    w.ownsRow base e 1 (.slice (some ⟨g, 0, none⟩) n cap) n xs := by
  refine ⟨by omega, .inr ⟨g, cap, _, rfl, hb, hg, hn, hc, ?_, ?_⟩⟩
  · rw [List.size_toArray, length_splice _ _ _ (by omega)]; omega
  · unfold splice
    rw [List.take_zero, List.nil_append, show (xs ++ cur.drop (0 + xs.length)).toArray.toList = xs ++ cur.drop (0 + xs.length) from rfl, List.take_append_of_le_length (by omega), List.take_of_length_le (by omega)]
end Go.Proofs.YtknfcamdfdfoeaaDoor

/- Walks over octet's Plain and Put. -/
namespace Go.Proofs.YtknfcamdfdfoeaaDoor
open Go.RowKit Go.Sort

theorem oplain_any (a : Int) (w : World) : Calls Tryd.prog 40 #[.int .i32 a] w fun r w' => r = .returned (.int .u32 (plainN a : Nat)) ∧ w' = w := by
  have hv : IntKind.u32.wrap a = ((plainN a : Nat) : Int) := by
    unfold plainN
    simp [IntKind.wrap, IntKind.bits, IntKind.signed]
    omega
  go_enter Tryd.func40, Tryd.ntmps40
  go_wp2_with fail
  go_ret
  exact ⟨by simp [hv], rfl⟩
/-- What a function hands back that makes bytes. -/
def BytesR (w : World) (l : List Int) (r : Ending) (w' : World) : Prop := (∃ v, r = .returned (.tuple #[v, .int .i64 0]) ∧ w'.ownsRow w.heap.size 5 1 v l.length (byU l)) ∧ Below w.heap.size w w'

set_option maxHeartbeats 4000000 in
theorem oput1_any (l : List Int) (A : Option Addr) (cap n : Nat) (w : World) (hb : CelAt w (byU l) l.length A cap) (hl : l.length ≤ 100000) (hn : n < 256) :
    Calls Tryd.prog 37 #[.slice A l.length cap, .int .i64 1, .int .u64 n] w (BytesR w (l ++ leB 1 n)) := by
  unfold BytesR
  have hz : ((n : Int) / 256 != 0) = false := by
    have : (n : Int) / 256 = 0 := by omega
    rw [this]; rfl
  have hmk := fun W : World => run_make (P := Tryd.prog) W 46 5 (Tryd.prog.info? 5).get! (.int .u8 0) Tryd.underlying46 (by kernel_rfl) (by kernel_rfl) .i64 .i64 (l.length : Int) ((l.length : Int) + 1) (by omega) (by omega) (by rw [show (Tryd.prog.info? 5).get!.bytes = 1 by kernel_rfl]; omega) (by omega)
  rw [show (Tryd.prog.info? 5).get!.size = 1 by kernel_rfl] at hmk
  simp only [show ((l.length : Int) + 1).toNat = l.length + 1 by omega, show ((l.length : Int)).toNat = l.length by omega, Nat.mul_one] at hmk
  have hbl := byU_len l
  have hcp := hb.ads
  have HCP := Lib.hid hcp
  clear hb hcp
  go_enter Tryd.func37, Tryd.ntmps37
  go_wp2_with ((refine wpList_copy_splice rfl (.tmp 33) (.tmp 34) 46 46 rfl 5 Tryd.underlying46 (by kernel_rfl) _ _ l.length (l.length + 1) l.length cap rfl rfl w.heap.size 0 (madeCells (Value.int .u8 0).cells (l.length + 1)).toList 5 (by rw [Array.toArray_toList]; exact heap_alloc_new w _) (byU l) (by rw [hbl]; exact (Nat.min_self _).symm) (fun h0 => ⟨rfl, HCP.out _ (bel_alloc (Below.refl _ _) _) h0⟩) (by rw [hbl]; simp only [Array.length_toList, size_madeCells]; omega) (byU_one l) w.heap.size w (bel_alloc (Below.refl _ _) _) (Nat.le_refl _) ?_; intro w1 hrow hb1))
  have hown0 := own_copied (base := w.heap.size) hrow (Nat.le_refl _) (show l.length ≤ l.length + 1 by omega) (by unfold maxLen; omega) hbl (by rw [Array.length_toList, size_madeCells])
  clear hrow
  go_loopw [8, 37] (fun v i wr => ∃ k : Nat, k ≤ 1 ∧ i = .int .i64 k ∧ wr.ownsRow w.heap.size 5 1 v (l.length + k) (byU (l ++ leB k n)) ∧ Below w.heap.size w wr) (fun _ i _ => 1 - (intOf i).toNat)
  case atStart => exact ⟨0, by omega, rfl, by simpa [leB] using hown0, hb1⟩
  case round =>
    obtain ⟨k, hk, rfl, hown, hbel⟩ := hrel
    have hz := hbel.size
    obtain ⟨A2, c2, rfl, hc1, hc2⟩ := own_slice hown
    unfold maxLen at hc2
    by_cases hlt : k < 1
    · have hbyte : (n : Int) / 2 ^ (8 * k) % 256 = ((n / 256 ^ k % 256 : Nat) : Int) := by
        rw [show (256 : Nat) = 2 ^ 8 from rfl, ← Nat.pow_mul]
        simp
      have hle : byU (l ++ leB (k + 1) n) = byU (l ++ leB k n) ++ [.int .u8 ((n : Int) / 2 ^ (8 * k) % 256)] := by
        rw [leB_snoc, ← List.append_assoc, byU_app (l ++ leB k n), ← hbyte]
        rfl
      have HLE := Lib.hid hle
      clear hle hbyte
      go_wp2_with (at_builtin; refine wpList_app rfl (.tmp 40) (.tmp 47) 46 rfl w.heap.size 5 _ 1 1 Tryd.underlying46 u8info rfl (by omega) (.slice A2 (l.length + k) c2) (l.length + k) (byU (l ++ leB k n)) _ 1 [.int .u8 ((n : Int) / 2 ^ (8 * k) % 256)] rfl (by repeat (first | (with_reducible assumption) | refine own_alloc ?_ | refine own_bel ?_ (by with_reducible assumption) | refine own_drew ?_)) rfl rfl (fun j u hj => by rw [cell_new]; simpa using hj) (by simp [Value.oneCell']) (by omega) (by omega) (by first | omega | (simp; omega)) ?_; intro v2 w2 hown2 hb2; have hz2 := hb2.size; (try simp at hz2))
      go_roundw
      case rel => exact ⟨k + 1, by omega, by go_num, by rw [HLE.out]; exact hown2, (bel_alloc hbel _).trans hb2⟩
      case measure => simp [intOf]; omega
    · obtain rfl : k = 1 := by omega
      go_wp2_with fail
      go_ret2
      exact ⟨⟨_, rfl, by rw [List.length_append, leB_len]; exact hown⟩, hbel⟩
set_option maxHeartbeats 4000000 in
theorem oput2_any (l : List Int) (A : Option Addr) (cap n : Nat) (w : World) (hb : CelAt w (byU l) l.length A cap) (hl : l.length ≤ 100000) (hn : n < 65536) :
    Calls Tryd.prog 37 #[.slice A l.length cap, .int .i64 2, .int .u64 n] w (BytesR w (l ++ leB 2 n)) := by
  unfold BytesR
  have hz : ((n : Int) / 65536 != 0) = false := by
    have : (n : Int) / 65536 = 0 := by omega
    rw [this]; rfl
  have hmk := fun W : World => run_make (P := Tryd.prog) W 46 5 (Tryd.prog.info? 5).get! (.int .u8 0) Tryd.underlying46 (by kernel_rfl) (by kernel_rfl) .i64 .i64 (l.length : Int) ((l.length : Int) + 2) (by omega) (by omega) (by rw [show (Tryd.prog.info? 5).get!.bytes = 1 by kernel_rfl]; omega) (by omega)
  rw [show (Tryd.prog.info? 5).get!.size = 1 by kernel_rfl] at hmk
  simp only [show ((l.length : Int) + 2).toNat = l.length + 2 by omega, show ((l.length : Int)).toNat = l.length by omega, Nat.mul_one] at hmk
  have hbl := byU_len l
  have hcp := hb.ads
  have HCP := Lib.hid hcp
  clear hb hcp
  go_enter Tryd.func37, Tryd.ntmps37
  go_wp2_with ((refine wpList_copy_splice rfl (.tmp 33) (.tmp 34) 46 46 rfl 5 Tryd.underlying46 (by kernel_rfl) _ _ l.length (l.length + 2) l.length cap rfl rfl w.heap.size 0 (madeCells (Value.int .u8 0).cells (l.length + 2)).toList 5 (by rw [Array.toArray_toList]; exact heap_alloc_new w _) (byU l) (by rw [hbl]; exact (Nat.min_self _).symm) (fun h0 => ⟨rfl, HCP.out _ (bel_alloc (Below.refl _ _) _) h0⟩) (by rw [hbl]; simp only [Array.length_toList, size_madeCells]; omega) (byU_one l) w.heap.size w (bel_alloc (Below.refl _ _) _) (Nat.le_refl _) ?_; intro w1 hrow hb1))
  have hown0 := own_copied (base := w.heap.size) hrow (Nat.le_refl _) (show l.length ≤ l.length + 2 by omega) (by unfold maxLen; omega) hbl (by rw [Array.length_toList, size_madeCells])
  clear hrow
  go_loopw [8, 37] (fun v i wr => ∃ k : Nat, k ≤ 2 ∧ i = .int .i64 k ∧ wr.ownsRow w.heap.size 5 1 v (l.length + k) (byU (l ++ leB k n)) ∧ Below w.heap.size w wr) (fun _ i _ => 2 - (intOf i).toNat)
  case atStart => exact ⟨0, by omega, rfl, by simpa [leB] using hown0, hb1⟩
  case round =>
    obtain ⟨k, hk, rfl, hown, hbel⟩ := hrel
    have hz := hbel.size
    obtain ⟨A2, c2, rfl, hc1, hc2⟩ := own_slice hown
    unfold maxLen at hc2
    by_cases hlt : k < 2
    · have hbyte : (n : Int) / 2 ^ (8 * k) % 256 = ((n / 256 ^ k % 256 : Nat) : Int) := by
        rw [show (256 : Nat) = 2 ^ 8 from rfl, ← Nat.pow_mul]
        simp
      have hle : byU (l ++ leB (k + 1) n) = byU (l ++ leB k n) ++ [.int .u8 ((n : Int) / 2 ^ (8 * k) % 256)] := by
        rw [leB_snoc, ← List.append_assoc, byU_app (l ++ leB k n), ← hbyte]
        rfl
      have HLE := Lib.hid hle
      clear hle hbyte
      go_wp2_with (at_builtin; refine wpList_app rfl (.tmp 40) (.tmp 47) 46 rfl w.heap.size 5 _ 1 1 Tryd.underlying46 u8info rfl (by omega) (.slice A2 (l.length + k) c2) (l.length + k) (byU (l ++ leB k n)) _ 1 [.int .u8 ((n : Int) / 2 ^ (8 * k) % 256)] rfl (by repeat (first | (with_reducible assumption) | refine own_alloc ?_ | refine own_bel ?_ (by with_reducible assumption) | refine own_drew ?_)) rfl rfl (fun j u hj => by rw [cell_new]; simpa using hj) (by simp [Value.oneCell']) (by omega) (by omega) (by first | omega | (simp; omega)) ?_; intro v2 w2 hown2 hb2; have hz2 := hb2.size; (try simp at hz2))
      go_roundw
      case rel => exact ⟨k + 1, by omega, by go_num, by rw [HLE.out]; exact hown2, (bel_alloc hbel _).trans hb2⟩
      case measure => simp [intOf]; omega
    · obtain rfl : k = 2 := by omega
      go_wp2_with fail
      go_ret2
      exact ⟨⟨_, rfl, by rw [List.length_append, leB_len]; exact hown⟩, hbel⟩
set_option maxHeartbeats 4000000 in
theorem oput4_any (l : List Int) (A : Option Addr) (cap n : Nat) (w : World) (hb : CelAt w (byU l) l.length A cap) (hl : l.length ≤ 100000) (hn : n < 4294967296) :
    Calls Tryd.prog 37 #[.slice A l.length cap, .int .i64 4, .int .u64 n] w (BytesR w (l ++ leB 4 n)) := by
  unfold BytesR
  have hz : ((n : Int) / 4294967296 != 0) = false := by
    have : (n : Int) / 4294967296 = 0 := by omega
    rw [this]; rfl
  have hmk := fun W : World => run_make (P := Tryd.prog) W 46 5 (Tryd.prog.info? 5).get! (.int .u8 0) Tryd.underlying46 (by kernel_rfl) (by kernel_rfl) .i64 .i64 (l.length : Int) ((l.length : Int) + 4) (by omega) (by omega) (by rw [show (Tryd.prog.info? 5).get!.bytes = 1 by kernel_rfl]; omega) (by omega)
  rw [show (Tryd.prog.info? 5).get!.size = 1 by kernel_rfl] at hmk
  simp only [show ((l.length : Int) + 4).toNat = l.length + 4 by omega, show ((l.length : Int)).toNat = l.length by omega, Nat.mul_one] at hmk
  have hbl := byU_len l
  have hcp := hb.ads
  have HCP := Lib.hid hcp
  clear hb hcp
  go_enter Tryd.func37, Tryd.ntmps37
  go_wp2_with ((refine wpList_copy_splice rfl (.tmp 33) (.tmp 34) 46 46 rfl 5 Tryd.underlying46 (by kernel_rfl) _ _ l.length (l.length + 4) l.length cap rfl rfl w.heap.size 0 (madeCells (Value.int .u8 0).cells (l.length + 4)).toList 5 (by rw [Array.toArray_toList]; exact heap_alloc_new w _) (byU l) (by rw [hbl]; exact (Nat.min_self _).symm) (fun h0 => ⟨rfl, HCP.out _ (bel_alloc (Below.refl _ _) _) h0⟩) (by rw [hbl]; simp only [Array.length_toList, size_madeCells]; omega) (byU_one l) w.heap.size w (bel_alloc (Below.refl _ _) _) (Nat.le_refl _) ?_; intro w1 hrow hb1))
  have hown0 := own_copied (base := w.heap.size) hrow (Nat.le_refl _) (show l.length ≤ l.length + 4 by omega) (by unfold maxLen; omega) hbl (by rw [Array.length_toList, size_madeCells])
  clear hrow
  go_loopw [8, 37] (fun v i wr => ∃ k : Nat, k ≤ 4 ∧ i = .int .i64 k ∧ wr.ownsRow w.heap.size 5 1 v (l.length + k) (byU (l ++ leB k n)) ∧ Below w.heap.size w wr) (fun _ i _ => 4 - (intOf i).toNat)
  case atStart => exact ⟨0, by omega, rfl, by simpa [leB] using hown0, hb1⟩
  case round =>
    obtain ⟨k, hk, rfl, hown, hbel⟩ := hrel
    have hz := hbel.size
    obtain ⟨A2, c2, rfl, hc1, hc2⟩ := own_slice hown
    unfold maxLen at hc2
    by_cases hlt : k < 4
    · have hbyte : (n : Int) / 2 ^ (8 * k) % 256 = ((n / 256 ^ k % 256 : Nat) : Int) := by
        rw [show (256 : Nat) = 2 ^ 8 from rfl, ← Nat.pow_mul]
        simp
      have hle : byU (l ++ leB (k + 1) n) = byU (l ++ leB k n) ++ [.int .u8 ((n : Int) / 2 ^ (8 * k) % 256)] := by
        rw [leB_snoc, ← List.append_assoc, byU_app (l ++ leB k n), ← hbyte]
        rfl
      have HLE := Lib.hid hle
      clear hle hbyte
      go_wp2_with (at_builtin; refine wpList_app rfl (.tmp 40) (.tmp 47) 46 rfl w.heap.size 5 _ 1 1 Tryd.underlying46 u8info rfl (by omega) (.slice A2 (l.length + k) c2) (l.length + k) (byU (l ++ leB k n)) _ 1 [.int .u8 ((n : Int) / 2 ^ (8 * k) % 256)] rfl (by repeat (first | (with_reducible assumption) | refine own_alloc ?_ | refine own_bel ?_ (by with_reducible assumption) | refine own_drew ?_)) rfl rfl (fun j u hj => by rw [cell_new]; simpa using hj) (by simp [Value.oneCell']) (by omega) (by omega) (by first | omega | (simp; omega)) ?_; intro v2 w2 hown2 hb2; have hz2 := hb2.size; (try simp at hz2))
      go_roundw
      case rel => exact ⟨k + 1, by omega, by go_num, by rw [HLE.out]; exact hown2, (bel_alloc hbel _).trans hb2⟩
      case measure => simp [intOf]; omega
    · obtain rfl : k = 4 := by omega
      go_wp2_with fail
      go_ret2
      exact ⟨⟨_, rfl, by rw [List.length_append, leB_len]; exact hown⟩, hbel⟩
end Go.Proofs.YtknfcamdfdfoeaaDoor
